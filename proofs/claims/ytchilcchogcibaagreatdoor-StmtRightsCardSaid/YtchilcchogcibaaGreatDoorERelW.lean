/- caddislaw02.Few; caddislaw04.few and Few; Contracts of expr.May, expr.Eval, expr.Type for an expression in memory, at any later world; plain laws on what an expression comes to.; Tables with rows in memory. -/
import Derived.Deep.CutBlock
import Derived.WideKeyEntry
import Derived.WideMake
import Derived.MapKept
import Derived.Test.YtchilcchogcibaaGreatDoorESix
set_option maxRecDepth 100000
set_option maxHeartbeats 400000
namespace Go.Proofs.YtchilcchogcibaaGreatDoor
open Go.RowKit
attribute [local go_sem] ByteArray.extract_mk ba_get
theorem infoV : (Tryz.prog.info? 27).map (fun i => (i.zero, i.size, i.bytes)) = some (some (.agg #[.int .i64 0, .int .i64 0, .string ⟨#[]⟩]), 3, 32) := by kernel_rfl
def fewV (v : V) : V := ⟨v.k, v.i, v.s.take 60⟩
def fewL (l : List V) : List V := (l.take 14).map fewV
theorem fewL_snoc (l : List V) (j : Nat) (v : V) (h : l[j]? = some v) : (l.take (j + 1)).map fewV = (l.take j).map fewV ++ [fewV v] := by
 rw [List.take_add_one, h]; simp
theorem few_any (A : Option Addr) (c : Nat) (l : List V) (w : World) (hl : l.length ≤ maxLen) (h : VS w w.heap.size A l) :
  Calls Tryz.prog 35 #[.slice A l.length c] w (RetVS (fewL l) w) := by
 unfold maxLen at hl
 obtain ⟨i0, hi0, zi0, zi1, zi2⟩ := info_parts infoV
 go_in
 go_wp2
 go_loopw [3, 4] (fun v i wr => ∃ j : Nat, j ≤ l.length ∧ j ≤ 14 ∧ i = .int .i64 j ∧ wr.ownsRow w.heap.size 27 3 v j (((l.take j).map fewV).flatMap V.cells) ∧ Below w.heap.size w wr) (fun _ i _ => l.length - (intOf i).toNat)
 case atStart => exact ⟨0, by omega, by omega, rfl, World.ownsRow_nil _ _ _ _, Below.refl _ _⟩
 case round =>
  obtain ⟨j, hj1, hj2, rfl, hown, hbw⟩ := hrel
  by_cases hlt : j < l.length
  ·by_cases h14 : j < 14
   ·obtain ⟨b, off, v, rfl, hbB, hv, c0, c1, c2⟩ := (h.below hbw).at_ hlt
    have HV := Lib.hid hv
    clear hv
    go_wp2_with fail
    refine (few1_any _ _ _ _).mono ?_
    rintro e w1 ⟨rfl, hb1⟩
    have hz1 := hb1.size
    have hown1 : w1.ownsRow w.heap.size 27 3 u3 j (((l.take j).map fewV).flatMap V.cells) := own_below hown hb1
    have hzw := hbw.size
    go_wp2_with (at_builtin; refine wpList_append_own _ rfl _ _ 31 rfl w.heap.size 27 i0 _ 3 32 Tryz.underlying31 hi0 zi0 zi1 zi2 rfl (by decide) _ _ _ rfl (hown1.alloc _) ⟨w1.heap.size, 0, none⟩ 1 1 (fewV v).cells rfl rfl ?c1 ?c2 ?c3 ?c4 ?c5 ?_)
    case c1 =>
     exact World.news_of_block (cs := #[.int .i64 v.k, .int .i64 v.i, .string ⟨(v.s.take 60).toArray⟩]) (t := 27) (fr := (0, 0)) (heap_alloc_new w1 _)
    case c2 => exact fun u hu => cells_one [fewV v] u (by simpa using hu)
    case c3 => unfold maxLen; omega
    case c4 => omega
    case c5 => simp; omega
    intro v' w2 hown2 hg2 _
    go_wp2
    go_roundw
    case rel =>
     refine ⟨j + 1, by omega, by omega, by go_num, ?_, ?_⟩
     ·rw [fewL_snoc l j v HV.out, List.flatMap_append]
      simpa using hown2
     ·refine Below.grown (w := w1.alloc (.cells #[.int .i64 v.k, .int .i64 v.i, .string ⟨(v.s.take 60).toArray⟩] 27)) ?_ hg2 (by simp; omega) (fun k hk => (hown.lt k hk).1)
      exact bl
    case measure => simp [intOf]; omega
   ·go_wp2
    go_ret
    obtain ⟨A', c', rfl, hc1, hc2, hv⟩ := VS.own hown
    have e : fewL l = (l.take j).map fewV := by unfold fewL; rw [show j = 14 by omega]
    refine ⟨A', c', ?_, ?_, hc2, ?_, hbw⟩
    ·rw [e]; rfl
    ·rw [e]; exact hc1
    ·rw [e]; exact hv
  ·go_wp2
   go_ret
   obtain ⟨A', c', rfl, hc1, hc2, hv⟩ := VS.own hown
   have e : fewL l = (l.take j).map fewV := by unfold fewL; rw [List.take_of_length_le (i := 14) (by omega), List.take_of_length_le (by omega)]
   refine ⟨A', c', ?_, ?_, hc2, ?_, hbw⟩
   ·rw [e]; rfl
   ·rw [e]; exact hc1
   ·rw [e]; exact hv
end Go.Proofs.YtchilcchogcibaaGreatDoor
namespace Go.Proofs.YtchilcchogcibaaGreatDoor
open Go.RowKit
attribute [local go_sem] ByteArray.extract_mk ba_get ba_append
attribute [local go_sem ↓] Go.wp_at_zero Go.wp_at_succ run_eql_V run_neq_V
theorem own_but {w w' : World} {base p : Nat} {e : TypeId} {size : Nat} {v : Value} {n : Nat} {xs : List Value} (h : w.ownsRow base e size v n xs) (hb : But p w w') (hp : p < base) : w'.ownsRow base e size v n xs := by
 refine ⟨h.1, ?_⟩
 rcases h.2 with h2 | ⟨g, cap, cur, hv, hg, hh, r⟩
 ·exact Or.inl h2
 ·exact Or.inr ⟨g, cap, cur, hv, hg, (hb.block g (Array.getElem?_eq_some_iff.1 hh).1 (by omega)).trans hh, r⟩
theorem exq_top {Q : Nat → Prop} {w : World} : ∀ l : List ExC, (∀ r ∈ l, ExR Q r.e r.A r.c w) → ∃ n, ∀ r ∈ l, ExQ 1000 n w Q r.A r.e.l
 | [], _ => ⟨0, fun r hr => by simp at hr⟩
 | x :: r, h => by
  obtain ⟨n, hn⟩ := exq_top r fun y hy => h y (by simp [hy])
  obtain ⟨_, _, _, m, hm⟩ := h x (by simp)
  refine ⟨max n m, fun y hy => ?_⟩
  rcases List.mem_cons.1 hy with rfl | hy
  ·exact hm.ups _ (Nat.le_max_right _ _)
  ·exact (hn y hy).ups _ (Nat.le_max_left _ _)
theorem ExQ.own {Q : Nat → Prop} {w : World} {base : Nat} {e : TypeId} {sv : Value} {n : Nat} {l : List ExC} (h : w.ownsRow base e 6 sv n (l.flatMap ExC.cells)) (hg : ∀ r ∈ l, ExR Q r.e r.A r.c w) (hQ : ∀ b, base ≤ b → b < w.heap.size → Q b) :
  ∃ A c m, sv = .slice A (l.map ExC.e).length c ∧ (l.map ExC.e).length ≤ c ∧ c ≤ maxLen ∧ ExQ 1000 m w Q A (l.map ExC.e) := by
 obtain ⟨m, hm⟩ := exq_top l hg
 have hn : l.length = n := by have := h.1; rw [exc_len] at this; omega
 rw [List.length_map]
 rcases h.2 with ⟨rfl, h0⟩ | ⟨g, cap, cur, rfl, hb, hgg, hnc, hcm, hcs, htk⟩
 ·have hl : l = [] := List.eq_nil_of_length_eq_zero (by omega)
  subst hl
  exact ⟨none, 0, 0, rfl, Nat.le_refl _, Nat.zero_le _, ExQ.nil _⟩
 ·refine ⟨some ⟨g, 0, none⟩, cap, m + 1, by rw [hn], by omega, hcm, fun _ => ⟨g, 0, rfl, hQ g hb (Array.getElem?_eq_some_iff.1 hgg).1, ?_⟩⟩
  intro i x hx
  rw [List.getElem?_map, Option.map_eq_some_iff] at hx
  obtain ⟨r, hr, rfl⟩ := hx
  obtain ⟨h1, h2, h3, _⟩ := hg r (List.mem_of_getElem? hr)
  have hc := h.cells (g := g) rfl
  have key : ∀ j u, j < 6 → r.cells[j]? = some u → w.cell? ⟨g, 0 + i * 6 + j, none⟩ = some u := by
   intro j u hj hu
   have := hc (i * 6 + j) u (by rw [exc_at l i j r hr hj]; exact hu)
   rw [add_mid] at this
   rw [Nat.add_assoc]
   exact this
  exact ⟨r.A, r.c, h1, h2, h3, ⟨key 0 _ (by omega) rfl, key 1 _ (by omega) rfl, key 2 _ (by omega) rfl, key 3 _ (by omega) rfl, key 4 _ (by omega) rfl, key 5 _ (by omega) rfl⟩, hm r (List.mem_of_getElem? hr)⟩
end Go.Proofs.YtchilcchogcibaaGreatDoor
namespace Go.Proofs.YtchilcchogcibaaGreatDoor
open Go.RowKit Go.ChangeMaps
theorem VF.keep {w w' : World} {lo hi lo' hi' : Nat} {A : Option Addr} {l : List V} (h : VF w lo hi A l) (hk : ∀ b, lo ≤ b → b < hi → (lo' ≤ b ∧ b < hi') ∧ ∀ o, w'.cell? ⟨b, o, none⟩ = w.cell? ⟨b, o, none⟩) : VF w' lo' hi' A l := fun hl => by
 obtain ⟨b, off, rfl, h1, h2, h3⟩ := h hl
 exact ⟨b, off, rfl, (hk b h1 h2).1.1, (hk b h1 h2).1.2, h3.keep (hk b h1 h2).2⟩
theorem ExR.at_ {Q : Nat → Prop} {e : Ex} {A : Option Addr} {c : Nat} {w : World} (h : ExR Q e A c w) (hQ : ∀ b, Q b → b < w.heap.size) {Y : World} (hb : Below w.heap.size w Y) : ∃ n, ExS 1000 n Y Y.heap.size A e.l := by
 obtain ⟨_, _, _, n, h4⟩ := h
 exact ⟨n, ((h4.toS hQ n).below n hb).more hb.size n⟩
end Go.Proofs.YtchilcchogcibaaGreatDoor
namespace Go.Proofs.YtchilcchogcibaaGreatDoor
open Go.RowKit
structure Fr where
 c : Int
 t : List UInt8
structure Tb where
 n : List UInt8
 cols : List Col
 key : Int
 uniq : List Int
 refs : List Fr
 chk : Ex
structure Rl where
 t : Tb
 rows : List (List V)
structure Sl where
 a : Option Addr
 c : Nat
structure TbP where
 cols : Sl
 uniq : Sl
 refs : Sl
 chk : Sl
structure RlP where
 t : TbP
 rows : Sl
def Tb.cells (t : Tb) (p : TbP) : List Value :=
 [.string ⟨t.n.toArray⟩, .slice p.cols.a t.cols.length p.cols.c, .int .i64 t.key, .slice p.uniq.a t.uniq.length p.uniq.c, .slice p.refs.a t.refs.length p.refs.c,
  .string ⟨t.chk.op.toArray⟩, .int .i64 t.chk.v.k, .int .i64 t.chk.v.i, .string ⟨t.chk.v.s.toArray⟩, .string ⟨t.chk.s.toArray⟩, .slice p.chk.a t.chk.l.length p.chk.c]
def Rl.cells (x : Rl) (p : RlP) : List Value :=
 [.string ⟨x.t.n.toArray⟩, .slice p.t.cols.a x.t.cols.length p.t.cols.c, .int .i64 x.t.key, .slice p.t.uniq.a x.t.uniq.length p.t.uniq.c, .slice p.t.refs.a x.t.refs.length p.t.refs.c,
  .string ⟨x.t.chk.op.toArray⟩, .int .i64 x.t.chk.v.k, .int .i64 x.t.chk.v.i, .string ⟨x.t.chk.v.s.toArray⟩, .string ⟨x.t.chk.s.toArray⟩, .slice p.t.chk.a x.t.chk.l.length p.t.chk.c, .slice p.rows.a x.rows.length p.rows.c]
def CQ (l : List Col) (A : Option Addr) (Q : Nat → Prop) (w : World) : Prop := 0 < l.length → ∃ b off, A = some ⟨b, off, none⟩ ∧ Q b ∧ ColRow w b off l
def WQ (l : List V) (A : Option Addr) (Q : Nat → Prop) (w : World) : Prop := 0 < l.length → ∃ b off, A = some ⟨b, off, none⟩ ∧ Q b ∧ VRow w b off l
def IQ (l : List Int) (A : Option Addr) (Q : Nat → Prop) (w : World) : Prop := 0 < l.length → ∃ b off, A = some ⟨b, off, none⟩ ∧ Q b ∧ ∀ i x, l[i]? = some x → w.cell? ⟨b, off + i, none⟩ = some (.int .i64 x)
def FQ (l : List Fr) (A : Option Addr) (Q : Nat → Prop) (w : World) : Prop := 0 < l.length → ∃ b off, A = some ⟨b, off, none⟩ ∧ Q b ∧ ∀ i x, l[i]? = some x → w.cell? ⟨b, off + i * 2, none⟩ = some (.int .i64 x.c) ∧ w.cell? ⟨b, off + i * 2 + 1, none⟩ = some (.string ⟨x.t.toArray⟩)
def RQ (l : List (List V)) (A : Option Addr) (Q : Nat → Prop) (w : World) : Prop := 0 < l.length → ∃ b off, A = some ⟨b, off, none⟩ ∧ Q b ∧ ∀ i r, l[i]? = some r → ∃ A' c', w.cell? ⟨b, off + i, none⟩ = some (.slice A' r.length c') ∧ WQ r A' Q w
section
variable {A : Option Addr} {Q Q' : Nat → Prop} {w w' : World}
theorem CQ.keep {l : List Col} (h : CQ l A Q w) (hk : ∀ b, Q b → Q' b ∧ ∀ o, w'.cell? ⟨b, o, none⟩ = w.cell? ⟨b, o, none⟩) : CQ l A Q' w' := fun hl => by
 obtain ⟨b, off, rfl, h1, h2⟩ := h hl
 refine ⟨b, off, rfl, (hk b h1).1, fun i x hx => ?_⟩
 obtain ⟨c0, c1, c2⟩ := h2 i x hx
 exact ⟨((hk b h1).2 _).trans c0, ((hk b h1).2 _).trans c1, ((hk b h1).2 _).trans c2⟩
theorem WQ.keep {l : List V} (h : WQ l A Q w) (hk : ∀ b, Q b → Q' b ∧ ∀ o, w'.cell? ⟨b, o, none⟩ = w.cell? ⟨b, o, none⟩) : WQ l A Q' w' := fun hl => by
 obtain ⟨b, off, rfl, h1, h2⟩ := h hl
 exact ⟨b, off, rfl, (hk b h1).1, h2.keep (hk b h1).2⟩
theorem IQ.keep {l : List Int} (h : IQ l A Q w) (hk : ∀ b, Q b → Q' b ∧ ∀ o, w'.cell? ⟨b, o, none⟩ = w.cell? ⟨b, o, none⟩) : IQ l A Q' w' := fun hl => by
 obtain ⟨b, off, rfl, h1, h2⟩ := h hl
 exact ⟨b, off, rfl, (hk b h1).1, fun i x hx => ((hk b h1).2 _).trans (h2 i x hx)⟩
theorem FQ.keep {l : List Fr} (h : FQ l A Q w) (hk : ∀ b, Q b → Q' b ∧ ∀ o, w'.cell? ⟨b, o, none⟩ = w.cell? ⟨b, o, none⟩) : FQ l A Q' w' := fun hl => by
 obtain ⟨b, off, rfl, h1, h2⟩ := h hl
 exact ⟨b, off, rfl, (hk b h1).1, fun i x hx => ⟨((hk b h1).2 _).trans (h2 i x hx).1, ((hk b h1).2 _).trans (h2 i x hx).2⟩⟩
theorem RQ.keep {l : List (List V)} (h : RQ l A Q w) (hk : ∀ b, Q b → Q' b ∧ ∀ o, w'.cell? ⟨b, o, none⟩ = w.cell? ⟨b, o, none⟩) : RQ l A Q' w' := fun hl => by
 obtain ⟨b, off, rfl, h1, h2⟩ := h hl
 refine ⟨b, off, rfl, (hk b h1).1, fun i r hr => ?_⟩
 obtain ⟨A', c', h3, h4⟩ := h2 i r hr
 exact ⟨A', c', ((hk b h1).2 _).trans h3, h4.keep hk⟩
theorem CQ.s {l : List Col} (h : CQ l A Q w) {B : Nat} (hq : ∀ b, Q b → b < B) : ColS w B A l := fun hl => by
 obtain ⟨b, off, rfl, h1, h2⟩ := h hl
 exact ⟨b, off, rfl, hq b h1, h2⟩
theorem WQ.s {l : List V} (h : WQ l A Q w) {B : Nat} (hq : ∀ b, Q b → b < B) : VS w B A l := fun hl => by
 obtain ⟨b, off, rfl, h1, h2⟩ := h hl
 exact ⟨b, off, rfl, hq b h1, h2⟩
theorem CQ.ofF {l : List Col} {lo hi : Nat} (h : ColF w lo hi A l) (hq : ∀ b, lo ≤ b → b < hi → Q b) : CQ l A Q w := fun hl => by
 obtain ⟨b, off, rfl, h1, h2, h3⟩ := h hl
 exact ⟨b, off, rfl, hq b h1 h2, h3⟩
theorem WQ.ofF {l : List V} {lo hi : Nat} (h : VF w lo hi A l) (hq : ∀ b, lo ≤ b → b < hi → Q b) : WQ l A Q w := fun hl => by
 obtain ⟨b, off, rfl, h1, h2, h3⟩ := h hl
 exact ⟨b, off, rfl, hq b h1 h2, h3⟩
theorem IQ.ofF {l : List Int} {lo hi : Nat} (h : IF w lo hi A l) (hq : ∀ b, lo ≤ b → b < hi → Q b) : IQ l A Q w := fun hl => by
 obtain ⟨b, off, rfl, h1, h2, h3⟩ := h hl
 exact ⟨b, off, rfl, hq b h1 h2, h3⟩
theorem WQ.nil : WQ [] A Q w := fun h => absurd h (by simp)
theorem CQ.nil : CQ [] A Q w := fun h => absurd h (by simp)
theorem IQ.nil : IQ [] A Q w := fun h => absurd h (by simp)
theorem FQ.nil : FQ [] A Q w := fun h => absurd h (by simp)
theorem RQ.nil : RQ [] A Q w := fun h => absurd h (by simp)
theorem IQ.at_ {l : List Int} (h : IQ l A Q w) {j : Nat} (hj : j < l.length) : ∃ b off x, A = some ⟨b, off, none⟩ ∧ Q b ∧ l[j]? = some x ∧ w.cell? ⟨b, off + j, none⟩ = some (.int .i64 x) := by
 obtain ⟨b, off, rfl, hb, hr⟩ := h (by omega)
 exact ⟨b, off, l[j], rfl, hb, List.getElem?_eq_getElem hj, hr j _ (List.getElem?_eq_getElem hj)⟩
theorem FQ.at_ {l : List Fr} (h : FQ l A Q w) {j : Nat} (hj : j < l.length) : ∃ b off x, A = some ⟨b, off, none⟩ ∧ Q b ∧ l[j]? = some x ∧ w.cell? ⟨b, off + j * 2, none⟩ = some (.int .i64 x.c) ∧ w.cell? ⟨b, off + j * 2 + 1, none⟩ = some (.string ⟨x.t.toArray⟩) := by
 obtain ⟨b, off, rfl, hb, hr⟩ := h (by omega)
 exact ⟨b, off, l[j], rfl, hb, List.getElem?_eq_getElem hj, hr j _ (List.getElem?_eq_getElem hj)⟩
theorem RQ.at_ {l : List (List V)} (h : RQ l A Q w) {j : Nat} (hj : j < l.length) : ∃ b off r A' c', A = some ⟨b, off, none⟩ ∧ Q b ∧ l[j]? = some r ∧ w.cell? ⟨b, off + j, none⟩ = some (.slice A' r.length c') ∧ WQ r A' Q w := by
 obtain ⟨b, off, rfl, hb, hr⟩ := h (by omega)
 obtain ⟨A', c', h1, h2⟩ := hr j _ (List.getElem?_eq_getElem hj)
 exact ⟨b, off, l[j], A', c', rfl, hb, List.getElem?_eq_getElem hj, h1, h2⟩
theorem RQ.take {l : List (List V)} (h : RQ l A Q w) (n : Nat) : RQ (l.take n) A Q w := fun hl => by
 obtain ⟨b, off, rfl, h1, h2⟩ := h (by rw [List.length_take] at hl; omega)
 refine ⟨b, off, rfl, h1, fun i r hr => h2 i r ?_⟩
 rw [List.getElem?_take] at hr
 split at hr
 ·exact hr
 ·cases hr
end
def TbQ (K : Nat) (t : Tb) (p : TbP) (Q : Nat → Prop) (w : World) : Prop := CQ t.cols p.cols.a Q w ∧ IQ t.uniq p.uniq.a Q w ∧ FQ t.refs p.refs.a Q w ∧ ∃ n, ExQ K n w Q p.chk.a t.chk.l
def RlQ (K : Nat) (x : Rl) (p : RlP) (Q : Nat → Prop) (w : World) : Prop := TbQ K x.t p.t Q w ∧ RQ x.rows p.rows.a Q w
theorem TbQ.keep {K : Nat} {t : Tb} {p : TbP} {Q Q' : Nat → Prop} {w w' : World} (h : TbQ K t p Q w) (hk : ∀ b, Q b → Q' b ∧ ∀ o, w'.cell? ⟨b, o, none⟩ = w.cell? ⟨b, o, none⟩) : TbQ K t p Q' w' := by
 obtain ⟨h1, h2, h3, n, h4⟩ := h
 exact ⟨h1.keep hk, h2.keep hk, h3.keep hk, n, h4.keep hk n⟩
theorem RlQ.keep {K : Nat} {x : Rl} {p : RlP} {Q Q' : Nat → Prop} {w w' : World} (h : RlQ K x p Q w) (hk : ∀ b, Q b → Q' b ∧ ∀ o, w'.cell? ⟨b, o, none⟩ = w.cell? ⟨b, o, none⟩) : RlQ K x p Q' w' := ⟨h.1.keep hk, h.2.keep hk⟩
def Old (B : Nat) (b : Nat) : Prop := b < B
theorem old_keep {B B' : Nat} {w w' : World} (hb : Below B w w') (hB : B ≤ B') : ∀ b, Old B b → Old B' b ∧ ∀ o, w'.cell? ⟨b, o, none⟩ = w.cell? ⟨b, o, none⟩ := fun b h => ⟨Nat.lt_of_lt_of_le h hB, fun o => hb.cell (p := ⟨b, o, none⟩) h⟩
end Go.Proofs.YtchilcchogcibaaGreatDoor
