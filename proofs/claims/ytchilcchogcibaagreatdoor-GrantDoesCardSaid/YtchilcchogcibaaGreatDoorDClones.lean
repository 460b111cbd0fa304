/- caddislaw02.Few; Contracts of expr.May, expr.Eval, expr.Type for an expression in memory, at any later world; plain laws on what an expression comes to.; Tables with rows in memory; append onto a row of the call's own, from a slice of values that may be nil; slices.Clone at columns, numbers, references, expressions, and rows. -/
import Derived.WideKeyEntry
import Derived.WideMake
import Derived.MapKept
import Derived.Test.YtchilcchogcibaaGreatDoorDFewE
set_option maxRecDepth 100000
set_option maxHeartbeats 400000
namespace Go.Proofs.YtchilcchogcibaaGreatDoor
open Go.RowKit
attribute [local go_sem] ByteArray.extract_mk ba_get
theorem infoV : (Tryz.prog.info? 27).map (fun i => (i.zero, i.size, i.bytes)) = some (some (.agg #[.int .i64 0, .int .i64 0, .string ⟨#[]⟩]), 3, 32) := by kernel_rfl
def fewV (v : V) : V := ⟨v.k, v.i, v.s.take 60⟩
def fewL (l : List V) : List V := (l.take 14).map fewV
theorem fewL_snoc (l : List V) (j : Nat) (v : V) (h : l[j]? = some v) : (l.take (j + 1)).map fewV = (l.take j).map fewV ++ [fewV v] := by
 rw [List.take_add_one, h]; simp
theorem few_any (A : Option Addr) (c : Nat) (l : List V) (w : World) (hl : l.length ≤ maxLen) (h : VS w w.heap.size A l) :
  Calls Tryz.prog 35 #[.slice A l.length c] w (RetVS (fewL l) w) := by
 unfold maxLen at hl
 obtain ⟨i0, hi0, zi0, zi1, zi2⟩ := info_parts infoV
 go_in
 go_wp2
 go_loopw [3, 4] (fun v i wr => ∃ j : Nat, j ≤ l.length ∧ j ≤ 14 ∧ i = .int .i64 j ∧ wr.ownsRow w.heap.size 27 3 v j (((l.take j).map fewV).flatMap V.cells) ∧ Below w.heap.size w wr) (fun _ i _ => l.length - (intOf i).toNat)
 case atStart => exact ⟨0, by omega, by omega, rfl, World.ownsRow_nil _ _ _ _, Below.refl _ _⟩
 case round =>
  obtain ⟨j, hj1, hj2, rfl, hown, hbw⟩ := hrel
  by_cases hlt : j < l.length
  ·by_cases h14 : j < 14
   ·obtain ⟨b, off, v, rfl, hbB, hv, c0, c1, c2⟩ := (h.below hbw).at_ hlt
    have HV := Lib.hid hv
    clear hv
    go_wp2_with fail
    refine (few1_any _ _ _ _).mono ?_
    rintro e w1 ⟨rfl, hb1⟩
    have hz1 := hb1.size
    have hown1 : w1.ownsRow w.heap.size 27 3 u3 j (((l.take j).map fewV).flatMap V.cells) := own_below hown hb1
    have hzw := hbw.size
    go_wp2_with (at_builtin; refine wpList_append_own _ rfl _ _ 31 rfl w.heap.size 27 i0 _ 3 32 Tryz.underlying31 hi0 zi0 zi1 zi2 rfl (by decide) _ _ _ rfl (hown1.alloc _) ⟨w1.heap.size, 0, none⟩ 1 1 (fewV v).cells rfl rfl ?c1 ?c2 ?c3 ?c4 ?c5 ?_)
    case c1 =>
     exact World.news_of_block (cs := #[.int .i64 v.k, .int .i64 v.i, .string ⟨(v.s.take 60).toArray⟩]) (t := 27) (fr := (0, 0)) (heap_alloc_new w1 _)
    case c2 => exact fun u hu => cells_one [fewV v] u (by simpa using hu)
    case c3 => unfold maxLen; omega
    case c4 => omega
    case c5 => simp; omega
    intro v' w2 hown2 hg2 _
    go_wp2
    go_roundw
    case rel =>
     refine ⟨j + 1, by omega, by omega, by go_num, ?_, ?_⟩
     ·rw [fewL_snoc l j v HV.out, List.flatMap_append]
      simpa using hown2
     ·refine Below.grown (w := w1.alloc (.cells #[.int .i64 v.k, .int .i64 v.i, .string ⟨(v.s.take 60).toArray⟩] 27)) ?_ hg2 (by simp; omega) (fun k hk => (hown.lt k hk).1)
      exact bl
    case measure => simp [intOf]; omega
   ·go_wp2
    go_ret
    obtain ⟨A', c', rfl, hc1, hc2, hv⟩ := VS.own hown
    have e : fewL l = (l.take j).map fewV := by unfold fewL; rw [show j = 14 by omega]
    refine ⟨A', c', ?_, ?_, hc2, ?_, hbw⟩
    ·rw [e]; rfl
    ·rw [e]; exact hc1
    ·rw [e]; exact hv
  ·go_wp2
   go_ret
   obtain ⟨A', c', rfl, hc1, hc2, hv⟩ := VS.own hown
   have e : fewL l = (l.take j).map fewV := by unfold fewL; rw [List.take_of_length_le (i := 14) (by omega), List.take_of_length_le (by omega)]
   refine ⟨A', c', ?_, ?_, hc2, ?_, hbw⟩
   ·rw [e]; rfl
   ·rw [e]; exact hc1
   ·rw [e]; exact hv
end Go.Proofs.YtchilcchogcibaaGreatDoor
namespace Go.Proofs.YtchilcchogcibaaGreatDoor
open Go.RowKit Go.ChangeMaps
theorem VF.keep {w w' : World} {lo hi lo' hi' : Nat} {A : Option Addr} {l : List V} (h : VF w lo hi A l) (hk : ∀ b, lo ≤ b → b < hi → (lo' ≤ b ∧ b < hi') ∧ ∀ o, w'.cell? ⟨b, o, none⟩ = w.cell? ⟨b, o, none⟩) : VF w' lo' hi' A l := fun hl => by
 obtain ⟨b, off, rfl, h1, h2, h3⟩ := h hl
 exact ⟨b, off, rfl, (hk b h1 h2).1.1, (hk b h1 h2).1.2, h3.keep (hk b h1 h2).2⟩
theorem ExR.at_ {Q : Nat → Prop} {e : Ex} {A : Option Addr} {c : Nat} {w : World} (h : ExR Q e A c w) (hQ : ∀ b, Q b → b < w.heap.size) {Y : World} (hb : Below w.heap.size w Y) : ∃ n, ExS 1000 n Y Y.heap.size A e.l := by
 obtain ⟨_, _, _, n, h4⟩ := h
 exact ⟨n, ((h4.toS hQ n).below n hb).more hb.size n⟩
end Go.Proofs.YtchilcchogcibaaGreatDoor
namespace Go.Proofs.YtchilcchogcibaaGreatDoor
open Go.RowKit
structure Fr where
 c : Int
 t : List UInt8
structure Tb where
 n : List UInt8
 cols : List Col
 key : Int
 uniq : List Int
 refs : List Fr
 chk : Ex
structure Rl where
 t : Tb
 rows : List (List V)
structure Sl where
 a : Option Addr
 c : Nat
structure TbP where
 cols : Sl
 uniq : Sl
 refs : Sl
 chk : Sl
structure RlP where
 t : TbP
 rows : Sl
def Tb.cells (t : Tb) (p : TbP) : List Value :=
 [.string ⟨t.n.toArray⟩, .slice p.cols.a t.cols.length p.cols.c, .int .i64 t.key, .slice p.uniq.a t.uniq.length p.uniq.c, .slice p.refs.a t.refs.length p.refs.c,
  .string ⟨t.chk.op.toArray⟩, .int .i64 t.chk.v.k, .int .i64 t.chk.v.i, .string ⟨t.chk.v.s.toArray⟩, .string ⟨t.chk.s.toArray⟩, .slice p.chk.a t.chk.l.length p.chk.c]
def Rl.cells (x : Rl) (p : RlP) : List Value :=
 [.string ⟨x.t.n.toArray⟩, .slice p.t.cols.a x.t.cols.length p.t.cols.c, .int .i64 x.t.key, .slice p.t.uniq.a x.t.uniq.length p.t.uniq.c, .slice p.t.refs.a x.t.refs.length p.t.refs.c,
  .string ⟨x.t.chk.op.toArray⟩, .int .i64 x.t.chk.v.k, .int .i64 x.t.chk.v.i, .string ⟨x.t.chk.v.s.toArray⟩, .string ⟨x.t.chk.s.toArray⟩, .slice p.t.chk.a x.t.chk.l.length p.t.chk.c, .slice p.rows.a x.rows.length p.rows.c]
def CQ (l : List Col) (A : Option Addr) (Q : Nat → Prop) (w : World) : Prop := 0 < l.length → ∃ b off, A = some ⟨b, off, none⟩ ∧ Q b ∧ ColRow w b off l
def WQ (l : List V) (A : Option Addr) (Q : Nat → Prop) (w : World) : Prop := 0 < l.length → ∃ b off, A = some ⟨b, off, none⟩ ∧ Q b ∧ VRow w b off l
def IQ (l : List Int) (A : Option Addr) (Q : Nat → Prop) (w : World) : Prop := 0 < l.length → ∃ b off, A = some ⟨b, off, none⟩ ∧ Q b ∧ ∀ i x, l[i]? = some x → w.cell? ⟨b, off + i, none⟩ = some (.int .i64 x)
def FQ (l : List Fr) (A : Option Addr) (Q : Nat → Prop) (w : World) : Prop := 0 < l.length → ∃ b off, A = some ⟨b, off, none⟩ ∧ Q b ∧ ∀ i x, l[i]? = some x → w.cell? ⟨b, off + i * 2, none⟩ = some (.int .i64 x.c) ∧ w.cell? ⟨b, off + i * 2 + 1, none⟩ = some (.string ⟨x.t.toArray⟩)
def RQ (l : List (List V)) (A : Option Addr) (Q : Nat → Prop) (w : World) : Prop := 0 < l.length → ∃ b off, A = some ⟨b, off, none⟩ ∧ Q b ∧ ∀ i r, l[i]? = some r → ∃ A' c', w.cell? ⟨b, off + i, none⟩ = some (.slice A' r.length c') ∧ WQ r A' Q w
section
variable {A : Option Addr} {Q Q' : Nat → Prop} {w w' : World}
theorem CQ.keep {l : List Col} (h : CQ l A Q w) (hk : ∀ b, Q b → Q' b ∧ ∀ o, w'.cell? ⟨b, o, none⟩ = w.cell? ⟨b, o, none⟩) : CQ l A Q' w' := fun hl => by
 obtain ⟨b, off, rfl, h1, h2⟩ := h hl
 refine ⟨b, off, rfl, (hk b h1).1, fun i x hx => ?_⟩
 obtain ⟨c0, c1, c2⟩ := h2 i x hx
 exact ⟨((hk b h1).2 _).trans c0, ((hk b h1).2 _).trans c1, ((hk b h1).2 _).trans c2⟩
theorem WQ.keep {l : List V} (h : WQ l A Q w) (hk : ∀ b, Q b → Q' b ∧ ∀ o, w'.cell? ⟨b, o, none⟩ = w.cell? ⟨b, o, none⟩) : WQ l A Q' w' := fun hl => by
 obtain ⟨b, off, rfl, h1, h2⟩ := h hl
 exact ⟨b, off, rfl, (hk b h1).1, h2.keep (hk b h1).2⟩
theorem IQ.keep {l : List Int} (h : IQ l A Q w) (hk : ∀ b, Q b → Q' b ∧ ∀ o, w'.cell? ⟨b, o, none⟩ = w.cell? ⟨b, o, none⟩) : IQ l A Q' w' := fun hl => by
 obtain ⟨b, off, rfl, h1, h2⟩ := h hl
 exact ⟨b, off, rfl, (hk b h1).1, fun i x hx => ((hk b h1).2 _).trans (h2 i x hx)⟩
theorem FQ.keep {l : List Fr} (h : FQ l A Q w) (hk : ∀ b, Q b → Q' b ∧ ∀ o, w'.cell? ⟨b, o, none⟩ = w.cell? ⟨b, o, none⟩) : FQ l A Q' w' := fun hl => by
 obtain ⟨b, off, rfl, h1, h2⟩ := h hl
 exact ⟨b, off, rfl, (hk b h1).1, fun i x hx => ⟨((hk b h1).2 _).trans (h2 i x hx).1, ((hk b h1).2 _).trans (h2 i x hx).2⟩⟩
theorem RQ.keep {l : List (List V)} (h : RQ l A Q w) (hk : ∀ b, Q b → Q' b ∧ ∀ o, w'.cell? ⟨b, o, none⟩ = w.cell? ⟨b, o, none⟩) : RQ l A Q' w' := fun hl => by
 obtain ⟨b, off, rfl, h1, h2⟩ := h hl
 refine ⟨b, off, rfl, (hk b h1).1, fun i r hr => ?_⟩
 obtain ⟨A', c', h3, h4⟩ := h2 i r hr
 exact ⟨A', c', ((hk b h1).2 _).trans h3, h4.keep hk⟩
theorem CQ.s {l : List Col} (h : CQ l A Q w) {B : Nat} (hq : ∀ b, Q b → b < B) : ColS w B A l := fun hl => by
 obtain ⟨b, off, rfl, h1, h2⟩ := h hl
 exact ⟨b, off, rfl, hq b h1, h2⟩
theorem WQ.s {l : List V} (h : WQ l A Q w) {B : Nat} (hq : ∀ b, Q b → b < B) : VS w B A l := fun hl => by
 obtain ⟨b, off, rfl, h1, h2⟩ := h hl
 exact ⟨b, off, rfl, hq b h1, h2⟩
theorem CQ.ofF {l : List Col} {lo hi : Nat} (h : ColF w lo hi A l) (hq : ∀ b, lo ≤ b → b < hi → Q b) : CQ l A Q w := fun hl => by
 obtain ⟨b, off, rfl, h1, h2, h3⟩ := h hl
 exact ⟨b, off, rfl, hq b h1 h2, h3⟩
theorem WQ.ofF {l : List V} {lo hi : Nat} (h : VF w lo hi A l) (hq : ∀ b, lo ≤ b → b < hi → Q b) : WQ l A Q w := fun hl => by
 obtain ⟨b, off, rfl, h1, h2, h3⟩ := h hl
 exact ⟨b, off, rfl, hq b h1 h2, h3⟩
theorem IQ.ofF {l : List Int} {lo hi : Nat} (h : IF w lo hi A l) (hq : ∀ b, lo ≤ b → b < hi → Q b) : IQ l A Q w := fun hl => by
 obtain ⟨b, off, rfl, h1, h2, h3⟩ := h hl
 exact ⟨b, off, rfl, hq b h1 h2, h3⟩
theorem WQ.nil : WQ [] A Q w := fun h => absurd h (by simp)
theorem CQ.nil : CQ [] A Q w := fun h => absurd h (by simp)
theorem IQ.nil : IQ [] A Q w := fun h => absurd h (by simp)
theorem FQ.nil : FQ [] A Q w := fun h => absurd h (by simp)
theorem RQ.nil : RQ [] A Q w := fun h => absurd h (by simp)
theorem IQ.at_ {l : List Int} (h : IQ l A Q w) {j : Nat} (hj : j < l.length) : ∃ b off x, A = some ⟨b, off, none⟩ ∧ Q b ∧ l[j]? = some x ∧ w.cell? ⟨b, off + j, none⟩ = some (.int .i64 x) := by
 obtain ⟨b, off, rfl, hb, hr⟩ := h (by omega)
 exact ⟨b, off, l[j], rfl, hb, List.getElem?_eq_getElem hj, hr j _ (List.getElem?_eq_getElem hj)⟩
theorem FQ.at_ {l : List Fr} (h : FQ l A Q w) {j : Nat} (hj : j < l.length) : ∃ b off x, A = some ⟨b, off, none⟩ ∧ Q b ∧ l[j]? = some x ∧ w.cell? ⟨b, off + j * 2, none⟩ = some (.int .i64 x.c) ∧ w.cell? ⟨b, off + j * 2 + 1, none⟩ = some (.string ⟨x.t.toArray⟩) := by
 obtain ⟨b, off, rfl, hb, hr⟩ := h (by omega)
 exact ⟨b, off, l[j], rfl, hb, List.getElem?_eq_getElem hj, hr j _ (List.getElem?_eq_getElem hj)⟩
theorem RQ.at_ {l : List (List V)} (h : RQ l A Q w) {j : Nat} (hj : j < l.length) : ∃ b off r A' c', A = some ⟨b, off, none⟩ ∧ Q b ∧ l[j]? = some r ∧ w.cell? ⟨b, off + j, none⟩ = some (.slice A' r.length c') ∧ WQ r A' Q w := by
 obtain ⟨b, off, rfl, hb, hr⟩ := h (by omega)
 obtain ⟨A', c', h1, h2⟩ := hr j _ (List.getElem?_eq_getElem hj)
 exact ⟨b, off, l[j], A', c', rfl, hb, List.getElem?_eq_getElem hj, h1, h2⟩
theorem RQ.take {l : List (List V)} (h : RQ l A Q w) (n : Nat) : RQ (l.take n) A Q w := fun hl => by
 obtain ⟨b, off, rfl, h1, h2⟩ := h (by rw [List.length_take] at hl; omega)
 refine ⟨b, off, rfl, h1, fun i r hr => h2 i r ?_⟩
 rw [List.getElem?_take] at hr
 split at hr
 ·exact hr
 ·cases hr
end
def TbQ (K : Nat) (t : Tb) (p : TbP) (Q : Nat → Prop) (w : World) : Prop := CQ t.cols p.cols.a Q w ∧ IQ t.uniq p.uniq.a Q w ∧ FQ t.refs p.refs.a Q w ∧ ∃ n, ExQ K n w Q p.chk.a t.chk.l
def RlQ (K : Nat) (x : Rl) (p : RlP) (Q : Nat → Prop) (w : World) : Prop := TbQ K x.t p.t Q w ∧ RQ x.rows p.rows.a Q w
theorem TbQ.keep {K : Nat} {t : Tb} {p : TbP} {Q Q' : Nat → Prop} {w w' : World} (h : TbQ K t p Q w) (hk : ∀ b, Q b → Q' b ∧ ∀ o, w'.cell? ⟨b, o, none⟩ = w.cell? ⟨b, o, none⟩) : TbQ K t p Q' w' := by
 obtain ⟨h1, h2, h3, n, h4⟩ := h
 exact ⟨h1.keep hk, h2.keep hk, h3.keep hk, n, h4.keep hk n⟩
theorem RlQ.keep {K : Nat} {x : Rl} {p : RlP} {Q Q' : Nat → Prop} {w w' : World} (h : RlQ K x p Q w) (hk : ∀ b, Q b → Q' b ∧ ∀ o, w'.cell? ⟨b, o, none⟩ = w.cell? ⟨b, o, none⟩) : RlQ K x p Q' w' := ⟨h.1.keep hk, h.2.keep hk⟩
def Old (B : Nat) (b : Nat) : Prop := b < B
theorem old_keep {B B' : Nat} {w w' : World} (hb : Below B w w') (hB : B ≤ B') : ∀ b, Old B b → Old B' b ∧ ∀ o, w'.cell? ⟨b, o, none⟩ = w.cell? ⟨b, o, none⟩ := fun b h => ⟨Nat.lt_of_lt_of_le h hB, fun o => hb.cell (p := ⟨b, o, none⟩) h⟩
theorem ExS.toQ {K : Nat} {w : World} {B : Nat} : ∀ (n : Nat) {A : Option Addr} {l : List Ex}, ExS K n w B A l → ExQ K n w (Old B) A l
 | 0, _, _, h => h
 | n + 1, _, _, h => fun hl => by
  obtain ⟨b, off, rfl, hb, hr⟩ := h hl
  refine ⟨b, off, rfl, hb, fun i e he => ?_⟩
  obtain ⟨A', c', hf, h1, h2, h3, h4⟩ := hr i e he
  exact ⟨A', c', hf, h1, h2, h3, h4.toQ n⟩
def Rl.big (x : Rl) : Prop := x.t.n.length ≤ maxLen ∧ x.t.cols.length ≤ maxLen ∧ (∀ c ∈ x.t.cols, c.n.length ≤ maxLen) ∧ x.t.uniq.length ≤ maxLen ∧ x.t.refs.length ≤ maxLen ∧ (∀ r ∈ x.t.refs, r.t.length ≤ maxLen) ∧ x.t.chk.fit maxLen ∧ x.t.chk.l.length ≤ maxLen ∧
 x.rows.length ≤ maxLen ∧ ∀ r ∈ x.rows, r.length ≤ maxLen ∧ ∀ v ∈ r, fitI v.i
def Tb.few (t : Tb) : Tb := ⟨t.n.take 20, fewCols t.cols, t.key, t.uniq.take 10, (t.refs.take 10).map fun r => ⟨r.c, r.t.take 20⟩, fewX t.chk⟩
def Rl.few (x : Rl) : Rl := ⟨x.t.few, (x.rows.take (if 200 < x.rows.length then 201 else 40)).map fewL⟩
def Reads (w : World) (B size : Nat) (A : Option Addr) (n : Nat) (xs : List Value) : Prop :=
 xs.length = n * size ∧ (0 < n → ∃ ad, A = some ad ∧ ad.block < B ∧ ∀ j u, xs[j]? = some u → w.cell? (ad.add j) = some u)
section
variable {P : Program} (w : World)
theorem run_append_of_nil (base : Nat) (t ty e : TypeId) (i : TypeInfo) (size : Nat) (ht : P.underlying t = some (.slice e)) (hi : P.info? e = some i)
  (v : Value) (n : Nat) (xs : List Value) (hown : w.ownsRow base e size v n xs) (c : Nat) : (Builtin.append_ #[t, t] ty #[v, .slice none 0 c]).run P w = .ok v w := by
 rcases hown.2 with ⟨rfl, rfl⟩ | ⟨g, cap, cur, rfl, _, _, hnc, _⟩
 ·simp [Builtin.append_, run_underlying ht, sizeOf, typeInfo, hi, Builtin.lenOf, Builtin.firstCells]
 ·simp [Builtin.append_, run_underlying ht, sizeOf, typeInfo, hi, Builtin.lenOf, Builtin.firstCells, hnc, storeCells]
theorem run_append_any (base : Nat) (t ty e : TypeId) (i : TypeInfo) (z : Value) (size bytes : Nat) (ht : P.underlying t = some (.slice e)) (hi : P.info? e = some i) (hz : i.zero = some z)
  (hsize : i.size = size) (hby : i.bytes = bytes) (hzs : z.cells.size = size) (hsz : 0 < size)
  (v : Value) (n : Nat) (xs : List Value) (hown : w.ownsRow base e size v n xs)
  (B : Nat) (A : Option Addr) (m c : Nat) (news : List Value) (hr : Reads w B size A m news) (h1 : ∀ u ∈ news, u.oneCell' = true)
  (h63 : n + m ≤ maxLen) (hbytes : (n + m) * bytes ≤ 140737488355328) (hbase : base ≤ w.heap.size) :
  ∃ v' w', (Builtin.append_ #[t, t] ty #[v, .slice A m c]).run P w = .ok v' w' ∧ w'.ownsRow base e size v' (n + m) (xs ++ news) ∧ w.grownBy w' v.ownBlock ∧
   (v'.ownBlock = v.ownBlock ∨ v'.ownBlock = some w.heap.size) := by
 rcases A with _ | ad
 ·have hm : m = 0 := by
   rcases Nat.eq_zero_or_pos m with h0 | h0
   ·exact h0
   ·obtain ⟨ad, h, _⟩ := hr.2 h0
    cases h
  subst hm
  have hn : news = [] := List.eq_nil_of_length_eq_zero (by simpa using hr.1)
  subst hn
  exact ⟨v, w, run_append_of_nil w base t ty e i size ht hi v n xs hown c, by simpa using hown, World.grownBy.refl w _, .inl rfl⟩
 ·have hcells : ∀ j u, news[j]? = some u → w.cell? (ad.add j) = some u := by
   intro j u hu
   rcases Nat.eq_zero_or_pos m with h0 | h0
   ·subst h0
    have hn : news = [] := List.eq_nil_of_length_eq_zero (by simpa using hr.1)
    subst hn
    simp at hu
   ·obtain ⟨ad', h, _, hc⟩ := hr.2 h0
    injection h with h
    subst h
    exact hc j u hu
  obtain ⟨v', w', hrun, h2, h3, _, h5⟩ := run_append_own_at (P := P) w base t ty e i z size bytes ht hi hz hsize hby hzs hsz v n xs hown ad m c news hr.1 hcells h1 h63 hbytes hbase
  exact ⟨v', w', hrun, h2, h3, h5⟩
theorem wp_append_any {o : Oper} {a : Act} {K : Act → World → Prop} {Q : Exit → Act → World → Prop} (s x : Operand) (t : TypeId)
  (ho : o.op = .call { callee := .builtin .append, args := #[s, x], argTypes := #[t, t] })
  (base : Nat) (e : TypeId) (i : TypeInfo) (z : Value) (size bytes : Nat) (ht : P.underlying t = some (.slice e)) (hi : P.info? e = some i) (hz : i.zero = some z)
  (hsize : i.size = size) (hby : i.bytes = bytes) (hzs : z.cells.size = size) (hsz : 0 < size)
  (v : Value) (n : Nat) (xs : List Value) (hs : a.eval s = v) (hown : w.ownsRow base e size v n xs)
  (B : Nat) (A : Option Addr) (m c : Nat) (news : List Value) (hx : a.eval x = .slice A m c) (hr : Reads w B size A m news) (h1 : ∀ u ∈ news, u.oneCell' = true)
  (h63 : n + m ≤ maxLen) (hbytes : (n + m) * bytes ≤ 140737488355328) (hbase : base ≤ w.heap.size)
  (h : ∀ v' w', w'.ownsRow base e size v' (n + m) (xs ++ news) → w.grownBy w' v.ownBlock → (v'.ownBlock = v.ownBlock ∨ v'.ownBlock = some w.heap.size) → K (a.put o.dst v') w') : o.wp P a w K Q := by
 obtain ⟨v', w', hrun, h2, h3, h4⟩ := run_append_any (P := P) w base t o.type e i z size bytes ht hi hz hsize hby hzs hsz v n xs hown B A m c news hr h1 h63 hbytes hbase
 unfold Oper.wp execOp
 simp only [ho, resolve, invoke, builtin, Sem.run_bind, Sem.run_pure, Result.andThen_ok, List.map_toArray, List.map_cons, List.map_nil, hs, hx, hrun]
 exact h v' w' h2 h3 h4
theorem wpList_append_any {ops : Array Oper} {rest : List Oper} {o : Oper} {a : Act} {Q : Exit → Act → World → Prop} (hgd : o.guard = none) (s x : Operand) (t : TypeId)
  (ho : o.op = .call { callee := .builtin .append, args := #[s, x], argTypes := #[t, t] })
  (base : Nat) (e : TypeId) (i : TypeInfo) (z : Value) (size bytes : Nat) (ht : P.underlying t = some (.slice e)) (hi : P.info? e = some i) (hz : i.zero = some z)
  (hsize : i.size = size) (hby : i.bytes = bytes) (hzs : z.cells.size = size) (hsz : 0 < size)
  (v : Value) (n : Nat) (xs : List Value) (hs : a.eval s = v) (hown : w.ownsRow base e size v n xs)
  (B : Nat) (A : Option Addr) (m c : Nat) (news : List Value) (hx : a.eval x = .slice A m c) (hr : Reads w B size A m news) (h1 : ∀ u ∈ news, u.oneCell' = true)
  (h63 : n + m ≤ maxLen) (hbytes : (n + m) * bytes ≤ 140737488355328) (hbase : base ≤ w.heap.size)
  (h : ∀ v' w', w'.ownsRow base e size v' (n + m) (xs ++ news) → w.grownBy w' v.ownBlock → (v'.ownBlock = v.ownBlock ∨ v'.ownBlock = some w.heap.size) → wpList P ops Q rest (a.put o.dst v') w') : wpList P ops Q (o :: rest) a w :=
 wpList_plain hgd fun _ hK => wp_append_any w s x t ho base e i z size bytes ht hi hz hsize hby hzs hsz v n xs hs hown B A m c news hx hr h1 h63 hbytes hbase fun v' w' h2 h3 h4 => hK _ _ (h v' w' h2 h3 h4)
end
theorem VS.reads {w : World} {B : Nat} {A : Option Addr} {l : List V} (h : VS w B A l) : Reads w B 3 A l.length (l.flatMap V.cells) := by
 refine ⟨cells_len l, fun hn => ?_⟩
 obtain ⟨b, off, rfl, hb, hr⟩ := h hn
 refine ⟨⟨b, off, none⟩, rfl, hb, fun j u hu => ?_⟩
 have hj : j < (l.flatMap V.cells).length := by
  rcases Nat.lt_or_ge j (l.flatMap V.cells).length with h1 | h1
  ·exact h1
  ·rw [List.getElem?_eq_none h1] at hu; cases hu
 rw [cells_len] at hj
 have hi : j / 3 < l.length := by omega
 have hv : l[j / 3]? = some l[j / 3] := List.getElem?_eq_getElem hi
 have e : j = j / 3 * 3 + j % 3 := by omega
 have hc := cells_at l (j / 3) (j % 3) _ hv (Nat.mod_lt _ (by omega))
 rw [← e, hu] at hc
 obtain ⟨h0, h1, h2⟩ := hr (j / 3) _ hv
 rw [add_mid]
 have hm : j % 3 = 0 ∨ j % 3 = 1 ∨ j % 3 = 2 := by omega
 rcases hm with hm | hm | hm <;> rw [hm] at hc e <;> simp [V.cells] at hc <;> subst hc
 ·rw [show off + j = off + j / 3 * 3 by omega]; exact h0
 ·rw [show off + j = off + j / 3 * 3 + 1 by omega]; exact h1
 ·rw [show off + j = off + j / 3 * 3 + 2 by omega]; exact h2
end Go.Proofs.YtchilcchogcibaaGreatDoor
namespace Go.Proofs.YtchilcchogcibaaGreatDoor
open Go.RowKit
attribute [local go_sem] ByteArray.extract_mk ba_get
attribute [local go_sem ↓] Go.wp_at_zero Go.wp_at_succ
def RetOwn (E : TypeId) (sz n : Nat) (cs : List Value) (w : World) (en : Ending) (w' : World) : Prop := ∃ sv, en = .returned sv ∧ w'.ownsRow w.heap.size E sz sv n cs ∧ Below w.heap.size w w'
theorem World.addr_add_block (a : Addr) (j : Nat) : (a.add j).block = a.block := by unfold Addr.add; split <;> rfl
end Go.Proofs.YtchilcchogcibaaGreatDoor
