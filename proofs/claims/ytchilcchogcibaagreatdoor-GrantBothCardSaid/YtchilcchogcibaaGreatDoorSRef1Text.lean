/- Tables with rows in memory; The document's digits and Text, as the same plain functions as value's. -/
import Derived.Lib.ItoaLen
import Derived.Test.YtchilcchogcibaaGreatDoorSAppend
import Derived.Test.YtchilcchogcibaaGreatDoorSMay
import Derived.Test.YtchilcchogcibaaGreatDoorSOpenS
import Derived.Test.YtchilcchogcibaaGreatDoorSStage2
namespace Go.Proofs.YtchilcchogcibaaGreatDoor
open Go.RowKit
/-- A column's place, and a table's name. -/
structure Fr where
 c : Int
 t : List UInt8
/-- A table. -/
structure Tb where
 n : List UInt8
 cols : List Col
 key : Int
 uniq : List Int
 refs : List Fr
 chk : Ex
/-- A table with rows. -/
structure Rl where
 t : Tb
 rows : List (List V)
/-- Where a slice lies, and how many it could hold. -/
structure Sl where
 a : Option Addr
 c : Nat
structure TbP where
 cols : Sl
 uniq : Sl
 refs : Sl
 chk : Sl
structure RlP where
 t : TbP
 rows : Sl
def Tb.cells (t : Tb) (p : TbP) : List Value :=
 [.string ⟨t.n.toArray⟩, .slice p.cols.a t.cols.length p.cols.c, .int .i64 t.key, .slice p.uniq.a t.uniq.length p.uniq.c, .slice p.refs.a t.refs.length p.refs.c,
  .string ⟨t.chk.op.toArray⟩, .int .i64 t.chk.v.k, .int .i64 t.chk.v.i, .string ⟨t.chk.v.s.toArray⟩, .string ⟨t.chk.s.toArray⟩, .slice p.chk.a t.chk.l.length p.chk.c]
def Rl.cells (x : Rl) (p : RlP) : List Value :=
 [.string ⟨x.t.n.toArray⟩, .slice p.t.cols.a x.t.cols.length p.t.cols.c, .int .i64 x.t.key, .slice p.t.uniq.a x.t.uniq.length p.t.uniq.c, .slice p.t.refs.a x.t.refs.length p.t.refs.c,
  .string ⟨x.t.chk.op.toArray⟩, .int .i64 x.t.chk.v.k, .int .i64 x.t.chk.v.i, .string ⟨x.t.chk.v.s.toArray⟩, .string ⟨x.t.chk.s.toArray⟩, .slice p.t.chk.a x.t.chk.l.length p.t.chk.c, .slice p.rows.a x.rows.length p.rows.c]
/-- Slices whose block is of a kind. -/
def CQ (l : List Col) (A : Option Addr) (Q : Nat → Prop) (w : World) : Prop := 0 < l.length → ∃ b off, A = some ⟨b, off, none⟩ ∧ Q b ∧ ColRow w b off l
def WQ (l : List V) (A : Option Addr) (Q : Nat → Prop) (w : World) : Prop := 0 < l.length → ∃ b off, A = some ⟨b, off, none⟩ ∧ Q b ∧ VRow w b off l
def IQ (l : List Int) (A : Option Addr) (Q : Nat → Prop) (w : World) : Prop := 0 < l.length → ∃ b off, A = some ⟨b, off, none⟩ ∧ Q b ∧ ∀ i x, l[i]? = some x → w.cell? ⟨b, off + i, none⟩ = some (.int .i64 x)
def FQ (l : List Fr) (A : Option Addr) (Q : Nat → Prop) (w : World) : Prop := 0 < l.length → ∃ b off, A = some ⟨b, off, none⟩ ∧ Q b ∧ ∀ i x, l[i]? = some x → w.cell? ⟨b, off + i * 2, none⟩ = some (.int .i64 x.c) ∧ w.cell? ⟨b, off + i * 2 + 1, none⟩ = some (.string ⟨x.t.toArray⟩)
def RQ (l : List (List V)) (A : Option Addr) (Q : Nat → Prop) (w : World) : Prop := 0 < l.length → ∃ b off, A = some ⟨b, off, none⟩ ∧ Q b ∧ ∀ i r, l[i]? = some r → ∃ A' c', w.cell? ⟨b, off + i, none⟩ = some (.slice A' r.length c') ∧ WQ r A' Q w
section
variable {A : Option Addr} {Q Q' : Nat → Prop} {w w' : World}
theorem CQ.keep {l : List Col} (h : CQ l A Q w) (hk : ∀ b, Q b → Q' b ∧ ∀ o, w'.cell? ⟨b, o, none⟩ = w.cell? ⟨b, o, none⟩) : CQ l A Q' w' := fun hl => by
 obtain ⟨b, off, rfl, h1, h2⟩ := h hl
 refine ⟨b, off, rfl, (hk b h1).1, fun i x hx => ?_⟩
 obtain ⟨c0, c1, c2⟩ := h2 i x hx
 exact ⟨((hk b h1).2 _).trans c0, ((hk b h1).2 _).trans c1, ((hk b h1).2 _).trans c2⟩
theorem WQ.keep {l : List V} (h : WQ l A Q w) (hk : ∀ b, Q b → Q' b ∧ ∀ o, w'.cell? ⟨b, o, none⟩ = w.cell? ⟨b, o, none⟩) : WQ l A Q' w' := fun hl => by
 obtain ⟨b, off, rfl, h1, h2⟩ := h hl
 exact ⟨b, off, rfl, (hk b h1).1, h2.keep (hk b h1).2⟩
theorem IQ.keep {l : List Int} (h : IQ l A Q w) (hk : ∀ b, Q b → Q' b ∧ ∀ o, w'.cell? ⟨b, o, none⟩ = w.cell? ⟨b, o, none⟩) : IQ l A Q' w' := fun hl => by
 obtain ⟨b, off, rfl, h1, h2⟩ := h hl
 exact ⟨b, off, rfl, (hk b h1).1, fun i x hx => ((hk b h1).2 _).trans (h2 i x hx)⟩
theorem FQ.keep {l : List Fr} (h : FQ l A Q w) (hk : ∀ b, Q b → Q' b ∧ ∀ o, w'.cell? ⟨b, o, none⟩ = w.cell? ⟨b, o, none⟩) : FQ l A Q' w' := fun hl => by
 obtain ⟨b, off, rfl, h1, h2⟩ := h hl
 exact ⟨b, off, rfl, (hk b h1).1, fun i x hx => ⟨((hk b h1).2 _).trans (h2 i x hx).1, ((hk b h1).2 _).trans (h2 i x hx).2⟩⟩
theorem RQ.keep {l : List (List V)} (h : RQ l A Q w) (hk : ∀ b, Q b → Q' b ∧ ∀ o, w'.cell? ⟨b, o, none⟩ = w.cell? ⟨b, o, none⟩) : RQ l A Q' w' := fun hl => by
 obtain ⟨b, off, rfl, h1, h2⟩ := h hl
 refine ⟨b, off, rfl, (hk b h1).1, fun i r hr => ?_⟩
 obtain ⟨A', c', h3, h4⟩ := h2 i r hr
 exact ⟨A', c', ((hk b h1).2 _).trans h3, h4.keep hk⟩
theorem CQ.s {l : List Col} (h : CQ l A Q w) {B : Nat} (hq : ∀ b, Q b → b < B) : ColS w B A l := fun hl => by
 obtain ⟨b, off, rfl, h1, h2⟩ := h hl
 exact ⟨b, off, rfl, hq b h1, h2⟩
theorem WQ.s {l : List V} (h : WQ l A Q w) {B : Nat} (hq : ∀ b, Q b → b < B) : VS w B A l := fun hl => by
 obtain ⟨b, off, rfl, h1, h2⟩ := h hl
 exact ⟨b, off, rfl, hq b h1, h2⟩
theorem CQ.ofF {l : List Col} {lo hi : Nat} (h : ColF w lo hi A l) (hq : ∀ b, lo ≤ b → b < hi → Q b) : CQ l A Q w := fun hl => by
 obtain ⟨b, off, rfl, h1, h2, h3⟩ := h hl
 exact ⟨b, off, rfl, hq b h1 h2, h3⟩
theorem WQ.ofF {l : List V} {lo hi : Nat} (h : VF w lo hi A l) (hq : ∀ b, lo ≤ b → b < hi → Q b) : WQ l A Q w := fun hl => by
 obtain ⟨b, off, rfl, h1, h2, h3⟩ := h hl
 exact ⟨b, off, rfl, hq b h1 h2, h3⟩
theorem IQ.ofF {l : List Int} {lo hi : Nat} (h : IF w lo hi A l) (hq : ∀ b, lo ≤ b → b < hi → Q b) : IQ l A Q w := fun hl => by
 obtain ⟨b, off, rfl, h1, h2, h3⟩ := h hl
 exact ⟨b, off, rfl, hq b h1 h2, h3⟩
theorem WQ.nil : WQ [] A Q w := fun h => absurd h (by simp)
theorem CQ.nil : CQ [] A Q w := fun h => absurd h (by simp)
theorem IQ.nil : IQ [] A Q w := fun h => absurd h (by simp)
theorem FQ.nil : FQ [] A Q w := fun h => absurd h (by simp)
theorem RQ.nil : RQ [] A Q w := fun h => absurd h (by simp)
theorem IQ.at_ {l : List Int} (h : IQ l A Q w) {j : Nat} (hj : j < l.length) : ∃ b off x, A = some ⟨b, off, none⟩ ∧ Q b ∧ l[j]? = some x ∧ w.cell? ⟨b, off + j, none⟩ = some (.int .i64 x) := by
 obtain ⟨b, off, rfl, hb, hr⟩ := h (by omega)
 exact ⟨b, off, l[j], rfl, hb, List.getElem?_eq_getElem hj, hr j _ (List.getElem?_eq_getElem hj)⟩
theorem FQ.at_ {l : List Fr} (h : FQ l A Q w) {j : Nat} (hj : j < l.length) : ∃ b off x, A = some ⟨b, off, none⟩ ∧ Q b ∧ l[j]? = some x ∧ w.cell? ⟨b, off + j * 2, none⟩ = some (.int .i64 x.c) ∧ w.cell? ⟨b, off + j * 2 + 1, none⟩ = some (.string ⟨x.t.toArray⟩) := by
 obtain ⟨b, off, rfl, hb, hr⟩ := h (by omega)
 exact ⟨b, off, l[j], rfl, hb, List.getElem?_eq_getElem hj, hr j _ (List.getElem?_eq_getElem hj)⟩
theorem RQ.at_ {l : List (List V)} (h : RQ l A Q w) {j : Nat} (hj : j < l.length) : ∃ b off r A' c', A = some ⟨b, off, none⟩ ∧ Q b ∧ l[j]? = some r ∧ w.cell? ⟨b, off + j, none⟩ = some (.slice A' r.length c') ∧ WQ r A' Q w := by
 obtain ⟨b, off, rfl, hb, hr⟩ := h (by omega)
 obtain ⟨A', c', h1, h2⟩ := hr j _ (List.getElem?_eq_getElem hj)
 exact ⟨b, off, l[j], A', c', rfl, hb, List.getElem?_eq_getElem hj, h1, h2⟩
theorem RQ.take {l : List (List V)} (h : RQ l A Q w) (n : Nat) : RQ (l.take n) A Q w := fun hl => by
 obtain ⟨b, off, rfl, h1, h2⟩ := h (by rw [List.length_take] at hl; omega)
 refine ⟨b, off, rfl, h1, fun i r hr => h2 i r ?_⟩
 rw [List.getElem?_take] at hr
 split at hr
 ·exact hr
 ·cases hr
end
/-- A table's memory, in blocks of a kind; texts no longer than K in its check. -/
def TbQ (K : Nat) (t : Tb) (p : TbP) (Q : Nat → Prop) (w : World) : Prop := CQ t.cols p.cols.a Q w ∧ IQ t.uniq p.uniq.a Q w ∧ FQ t.refs p.refs.a Q w ∧ ∃ n, ExQ K n w Q p.chk.a t.chk.l
def RlQ (K : Nat) (x : Rl) (p : RlP) (Q : Nat → Prop) (w : World) : Prop := TbQ K x.t p.t Q w ∧ RQ x.rows p.rows.a Q w
theorem TbQ.keep {K : Nat} {t : Tb} {p : TbP} {Q Q' : Nat → Prop} {w w' : World} (h : TbQ K t p Q w) (hk : ∀ b, Q b → Q' b ∧ ∀ o, w'.cell? ⟨b, o, none⟩ = w.cell? ⟨b, o, none⟩) : TbQ K t p Q' w' := by
 obtain ⟨h1, h2, h3, n, h4⟩ := h
 exact ⟨h1.keep hk, h2.keep hk, h3.keep hk, n, h4.keep hk n⟩
theorem RlQ.keep {K : Nat} {x : Rl} {p : RlP} {Q Q' : Nat → Prop} {w w' : World} (h : RlQ K x p Q w) (hk : ∀ b, Q b → Q' b ∧ ∀ o, w'.cell? ⟨b, o, none⟩ = w.cell? ⟨b, o, none⟩) : RlQ K x p Q' w' := ⟨h.1.keep hk, h.2.keep hk⟩
/-- All blocks that there are. -/
def Old (B : Nat) (b : Nat) : Prop := b < B
theorem old_keep {B B' : Nat} {w w' : World} (hb : Below B w w') (hB : B ≤ B') : ∀ b, Old B b → Old B' b ∧ ∀ o, w'.cell? ⟨b, o, none⟩ = w.cell? ⟨b, o, none⟩ := fun b h => ⟨Nat.lt_of_lt_of_le h hB, fun o => hb.cell (p := ⟨b, o, none⟩) h⟩
end Go.Proofs.YtchilcchogcibaaGreatDoor
namespace Go.Proofs.YtchilcchogcibaaGreatDoor
open Go.RowKit
attribute [local go_sem] ByteArray.extract_mk ba_get ba_append
attribute [local go_sem ↓] Go.wp_at_zero Go.wp_at_succ
/-- What is written when m is left and t stands already. -/
def digFin (m : Nat) (t : List UInt8) : List UInt8 := if m = 0 ∧ t ≠ [] then t else Lib.decDigits m ++ t
theorem digFin_step (m : Nat) (t : List UInt8) (h : 0 < m ∨ t = []) : digFin (m / 10) (UInt8.ofNat (48 + m % 10) :: t) = digFin m t := by
 unfold digFin
 have h1 : ¬ (m = 0 ∧ t ≠ []) := by
  rintro ⟨a, b⟩
  rcases h with h | h
  ·omega
  ·exact b h
 rw [if_neg h1]
 by_cases hm : m < 10
 ·rw [if_pos ⟨by omega, by simp⟩, Lib.decDigits_one hm, Nat.mod_eq_of_lt hm]; rfl
 ·have e : Lib.decDigits m = Lib.decDigits (m / 10) ++ [UInt8.ofNat (48 + m % 10)] := by rw [Lib.decDigits, dif_neg hm]
  rw [if_neg (by intro ⟨a, _⟩; omega), e]; simp
theorem digFin_len (m : Nat) (t : List UInt8) : t.length ≤ (digFin m t).length := by
 unfold digFin; split <;> simp
theorem tmod_neg (m : Nat) : Int.tmod (-(m : Int)) 10 = -((m % 10 : Nat) : Int) := by
 rw [Int.neg_tmod, Int.tmod_eq_emod_of_nonneg (by omega)]; omega
theorem tdiv_neg (m : Nat) : Int.tdiv (-(m : Int)) 10 = -((m / 10 : Nat) : Int) := by
 rw [Int.neg_tdiv, Int.tdiv_eq_ediv_of_nonneg (by omega)]; omega
/-- A new octet's text. -/
theorem one_text (w : World) (x : Int) (c : UInt8) (h : (c.toNat : Int) = x) :
  (convert 163 9 (.slice (some ⟨w.heap.size, 0, none⟩) 1 1)).run Tryz.prog (w.alloc (.cells #[.int .u8 x] 5)) = .ok (.string ⟨[c].toArray⟩) (w.alloc (.cells #[.int .u8 x] 5)) :=
 own_text (n := 1) (base := 0) (l := [c]) Tryz.underlying163 Tryz.underlying5 Tryz.underlying9 (own_new w 0 5 x c h (Nat.zero_le _))
set_option maxHeartbeats 1000000 in
set_option maxRecDepth 100000 in
theorem rdigits_any (u : Nat) (w : World) (hu : u ≤ 9223372036854775808) :
  Calls Tryz.prog 181 #[.int .i64 (-(u : Int))] w (Ret (.string ⟨(Lib.decDigits u).toArray⟩) w) := by
 have hl : (Lib.decDigits u).length ≤ 21 := by
  rcases Nat.eq_zero_or_pos u with h | h
  ·subst h; rw [Lib.decDigits_one (by omega)]; simp
  ·have := Lib.itoa_length_le (-(u : Int)) (by omega) (by omega)
   unfold Lib.itoa at this
   rw [if_pos (by omega)] at this
   have e : (-(u : Int)).natAbs = u := by omega
   rw [e] at this
   simp at this; omega
 obtain ⟨D, hD⟩ : ∃ D, Lib.decDigits u = D := ⟨_, rfl⟩
 rw [hD] at hl ⊢
 have HD := Lib.hid hD
 clear hD
 go_enter Tryz.func181, Tryz.ntmps181
 go_wp2
 go_loopw [0, 3] (fun n s wr => ∃ (m : Nat) (t : List UInt8), n = .int .i64 (-(m : Int)) ∧ s = .string ⟨t.toArray⟩ ∧ m ≤ 9223372036854775808 ∧ t.length ≤ 21 ∧ Hid (digFin m t = D) ∧ Below w.heap.size w wr) (fun n s _ => (intOf n).natAbs + (match s with | .string b => if b.size = 0 then 1 else 0 | _ => 0))
 case atStart => exact ⟨u, [], rfl, rfl, hu, by simp, by show _ = _; rw [← HD.out]; simp [digFin], Below.refl _ _⟩
 case round =>
  obtain ⟨m, t, rfl, rfl, hm, ht, hf, hbw⟩ := hrel
  have hzw := hbw.size
  have tm := tmod_neg m
  have td := tdiv_neg m
  by_cases hgo : 0 < m ∨ t = []
  ·have hs := digFin_step m t hgo
   rw [hf.out] at hs
   have HS := Lib.hid hs
   have hmod : m % 10 ≤ 9 := by omega
   have hlen : (UInt8.ofNat (48 + m % 10) :: t).length ≤ 21 := by
    have := digFin_len (m / 10) (UInt8.ofNat (48 + m % 10) :: t)
    rw [HS.out] at this; omega
   have HLEN := Lib.hid hlen
   have h1t := one_text wr (48 + (m : Int) % 10) (UInt8.ofNat (48 + m % 10)) (by rw [dig_nat _ (by omega)]; omega)
   clear hs hf hlen
   rcases Nat.eq_zero_or_pos m with h0 | h0
   ·subst h0
    obtain rfl : t = [] := by
     rcases hgo with h | h
     ·omega
     ·exact h
    clear h1t tm td
    have h1t := one_text wr 48 (UInt8.ofNat 48) rfl
    have HS2 : Hid (digFin 0 [UInt8.ofNat 48] = D) := HS.out
    clear HS HLEN hmod hgo
    go_wp2
    go_roundw
    case rel => exact ⟨0, [UInt8.ofNat 48], rfl, rfl, by omega, by simp, HS2, by exact bl⟩
    case measure => simp [intOf, ByteArray.size]
   ·have hlt : (-(m : Int)) < 0 := by omega
    generalize UInt8.ofNat (48 + m % 10) = ch at *
    go_wp2
    go_roundw
    case rel => exact ⟨m / 10, ch :: t, by simp, rfl, by omega, HLEN.out, HS, by exact bl⟩
    case measure => simp [intOf, ByteArray.size]; omega
  ·have h0 : m = 0 := by omega
   subst h0
   have hne : (t == []) = false := by
    cases t with
    | nil => simp at hgo
    | cons c r => rfl
   have hD : D = t := by
    rw [← hf.out]; unfold digFin; rw [if_pos ⟨rfl, fun e => hgo (.inr e)⟩]
   have HD2 := Lib.hid hD
   clear hf hD hgo
   go_wp2
   go_ret
   exact ⟨by rw [HD2.out]; rfl, hbw⟩
theorem take_one (s : List UInt8) (j : Nat) (h : j < s.length) : List.take 1 (List.drop j s) = [s[j]] := by
 rw [List.drop_eq_getElem_cons h]; rfl
theorem quoteS_snoc (l : List UInt8) (c : UInt8) : quoteS (l ++ [c]) = quoteS l ++ (if c = 39 then [39, 39] else [c]) := by
 induction l with
 | nil => simp [quoteS]
 | cons d r ih => simp only [List.cons_append, quoteS]; split <;> simp [ih]
set_option maxHeartbeats 1000000 in
theorem rtext2_any (s : List UInt8) (w : World) (hm : mayB 2 0 s = true) :
  Calls Tryz.prog 111 #[.agg #[.int .i64 2, .int .i64 0, .string ⟨s.toArray⟩]] w (Ret (.string ⟨([39] ++ quoteS s ++ [39]).toArray⟩) w) := by
 have hs40 : s.length ≤ 40 := (may2 hm).2.1
 have HM := Lib.hid hm
 clear hm
 obtain ⟨R, hR⟩ : ∃ R, [39] ++ quoteS s = R := ⟨_, rfl⟩
 rw [hR]
 have HR := Lib.hid hR
 clear hR
 go_enter Tryz.func111, Tryz.ntmps111
 go_wp2_with fail
 refine (rmay_any _ _ _ _ (by omega)).mono ?_
 rintro e w0 ⟨rfl, hb0⟩
 rw [HM.out]
 have hz0 := hb0.size
 obtain ⟨hc0, hf0⟩ := bcell hb0
 simp at hz0 hc0 hf0
 have c2 : w0.cell? ⟨w.heap.size, 2, none⟩ = some (.string ⟨s.toArray⟩) := by rw [hc0 _ _ (by omega)]; simp [go_sem]
 have hbw : Below w.heap.size w w0 := by exact bl
 go_wp2_with fail
 go_loop [3, 4] (fun t i => ∃ (j : Nat) (q : List UInt8), j ≤ s.length ∧ i = .int .i64 j ∧ t = .string ⟨q.toArray⟩ ∧ q.length ≤ 1 + 2 * j ∧ Hid (q = [39] ++ quoteS (s.take j))) (fun _ i => s.length - (intOf i).toNat)
 case atStart => exact ⟨0, [39], by omega, rfl, rfl, by simp, rfl⟩
 case round =>
  obtain ⟨j, q, hj, rfl, rfl, hq, hrel⟩ := hrel
  by_cases hlt : j < s.length
  ·have e1 := take_snoc s j hlt
   have e2 := quoteS_snoc (s.take j) s[j]
   by_cases h39 : s[j] = 39
   ·have h39' : ((s[j].toNat : Int) == 39) = true := by rw [h39]; rfl
    have HN : Hid (q ++ List.take 1 (List.drop j s) ++ [39] = [39] ++ quoteS (s.take (j + 1))) := by
     show _ = _
     rw [take_one s j hlt, e1, e2, if_pos h39, hrel.out, h39]; simp
    clear e1 e2 h39 hrel
    have hl1 : (List.take 1 (List.drop j s)).length ≤ 1 := by rw [List.length_take]; omega
    go_wp2
    go_round
    case rel => exact ⟨j + 1, q ++ List.take 1 (List.drop j s) ++ [39], by omega, by go_num, by simp, by simp; omega, HN⟩
    case measure => simp [intOf]; omega
   ·have h39' : ((s[j].toNat : Int) == 39) = false := by
     rw [beq_eq_false_iff_ne]; intro e; apply h39; apply UInt8.toNat.inj; show s[j].toNat = 39; omega
    have HN : Hid (q ++ List.take 1 (List.drop j s) = [39] ++ quoteS (s.take (j + 1))) := by
     show _ = _
     rw [take_one s j hlt, e1, e2, if_neg h39, hrel.out]; simp
    clear e1 e2 h39 hrel
    have hl1 : (List.take 1 (List.drop j s)).length ≤ 1 := by rw [List.length_take]; omega
    go_wp2
    go_round
    case rel => exact ⟨j + 1, q ++ List.take 1 (List.drop j s), by omega, by go_num, by simp, by simp; omega, HN⟩
    case measure => simp [intOf]; omega
  ·have hq2 : R = q := by
    rw [← HR.out, hrel.out, List.take_of_length_le (by omega)]
   have HQ := Lib.hid hq2
   clear hq2 hrel
   go_wp2
   go_ret
   exact ⟨by rw [HQ.out]; rfl, hbw⟩
set_option maxHeartbeats 1000000 in
theorem rtext_odd (k i : Int) (s : List UInt8) (w : World) (hs : s.length ≤ 140737488351232) (hm : mayB k i s = false) :
  Calls Tryz.prog 111 #[.agg #[.int .i64 k, .int .i64 i, .string ⟨s.toArray⟩]] w (Ret (.string ⟨#[]⟩) w) := by
 have HM := Lib.hid hm
 clear hm
 go_enter Tryz.func111, Tryz.ntmps111
 go_wp2_with fail
 refine (rmay_any _ _ _ _ hs).mono ?_
 rintro e w0 ⟨rfl, hb0⟩
 rw [HM.out]
 go_wp2
 go_ret
 exact ⟨rfl, by exact bl⟩
set_option maxHeartbeats 1000000 in
theorem rtext0_any (w : World) :
  Calls Tryz.prog 111 #[.agg #[.int .i64 0, .int .i64 0, .string ⟨#[]⟩]] w (Ret (.string ⟨#[78, 85, 76, 76]⟩) w) := by
 have HM : Hid (mayB 0 0 [] = true) := by show _ = _; rfl
 go_enter Tryz.func111, Tryz.ntmps111
 go_wp2_with fail
 refine (rmay_any 0 0 [] _ (by simp)).mono ?_
 rintro e w0 ⟨rfl, hb0⟩
 rw [HM.out]
 have hz0 := hb0.size
 obtain ⟨hc0, hf0⟩ := bcell hb0
 simp at hz0 hc0 hf0
 go_wp2
 go_ret
 exact ⟨rfl, by exact bl⟩
set_option maxHeartbeats 1000000 in
theorem rtext1_any (i : Int) (w : World) (h1 : -9223372036854775808 ≤ i) (h2 : i ≤ 9223372036854775807) :
  Calls Tryz.prog 111 #[.agg #[.int .i64 1, .int .i64 i, .string ⟨#[]⟩]] w (Ret (.string ⟨(Lib.itoa i).toArray⟩) w) := by
 have HM : Hid (mayB 1 i [] = true) := by show _ = _; simp [mayB]
 by_cases hn : i < 0
 ·obtain ⟨u, rfl⟩ : ∃ u : Nat, i = -(u : Int) := ⟨i.natAbs, by omega⟩
  have e : Lib.itoa (-(u : Int)) = 45 :: Lib.decDigits u := by
   unfold Lib.itoa; rw [if_pos hn]; congr 2; omega
  have hl : (Lib.decDigits u).length ≤ 21 := by
   have := Lib.itoa_length_le (-(u : Int)) (by omega) (by omega)
   rw [e] at this; simp at this; omega
  rw [e]
  clear e
  go_enter Tryz.func111, Tryz.ntmps111
  go_wp2_with fail
  refine (rmay_any 1 (-(u : Int)) [] _ (by simp)).mono ?_
  rintro e w0 ⟨rfl, hb0⟩
  rw [HM.out]
  have hz0 := hb0.size
  obtain ⟨hc0, hf0⟩ := bcell hb0
  simp at hz0 hc0 hf0
  go_wp2_with fail
  refine (rdigits_any u _ (by omega)).mono ?_
  rintro e w1 ⟨rfl, hb1⟩
  generalize Lib.decDigits u = D at *
  go_wp2
  go_ret
  exact ⟨rfl, by exact bl⟩
 ·obtain ⟨u, rfl⟩ : ∃ u : Nat, i = (u : Int) := ⟨i.toNat, by omega⟩
  have e : Lib.itoa (u : Int) = Lib.decDigits u := by
   unfold Lib.itoa; rw [if_neg hn]; congr 1
  rw [e]
  clear e
  have hn' : ¬ (u : Int) < 0 := by omega
  go_enter Tryz.func111, Tryz.ntmps111
  go_wp2_with fail
  refine (rmay_any 1 (u : Int) [] _ (by simp)).mono ?_
  rintro e w0 ⟨rfl, hb0⟩
  rw [HM.out]
  have hz0 := hb0.size
  obtain ⟨hc0, hf0⟩ := bcell hb0
  simp at hz0 hc0 hf0
  go_wp2_with fail
  refine (rdigits_any u _ (by omega)).mono ?_
  rintro e w1 ⟨rfl, hb1⟩
  go_wp2
  go_ret
  exact ⟨rfl, by exact bl⟩
set_option maxHeartbeats 1000000 in
theorem rtext3_any (b : Bool) (w : World) :
  Calls Tryz.prog 111 #[.agg #[.int .i64 3, .int .i64 (if b then 1 else 0), .string ⟨#[]⟩]] w (Ret (.string ⟨(if b then [84, 82, 85, 69] else [70, 65, 76, 83, 69] : List UInt8).toArray⟩) w) := by
 cases b
 ·have HM : Hid (mayB 3 0 [] = true) := by show _ = _; rfl
  go_enter Tryz.func111, Tryz.ntmps111
  go_wp2_with fail
  refine (rmay_any 3 0 [] _ (by simp)).mono ?_
  rintro e w0 ⟨rfl, hb0⟩
  rw [HM.out]
  have hz0 := hb0.size
  obtain ⟨hc0, hf0⟩ := bcell hb0
  simp at hz0 hc0 hf0
  go_wp2
  go_ret
  exact ⟨rfl, by exact bl⟩
 ·have HM : Hid (mayB 3 1 [] = true) := by show _ = _; rfl
  go_enter Tryz.func111, Tryz.ntmps111
  go_wp2_with fail
  refine (rmay_any 3 1 [] _ (by simp)).mono ?_
  rintro e w0 ⟨rfl, hb0⟩
  rw [HM.out]
  have hz0 := hb0.size
  obtain ⟨hc0, hf0⟩ := bcell hb0
  simp at hz0 hc0 hf0
  go_wp2
  go_ret
  exact ⟨rfl, by exact bl⟩
/-- The document's Text, whatever value. -/
theorem rtext_any (k i : Int) (s : List UInt8) (w : World) (h1 : -9223372036854775808 ≤ i) (h2 : i ≤ 9223372036854775807) (hs : s.length ≤ 140737488351232) :
  Calls Tryz.prog 111 #[.agg #[.int .i64 k, .int .i64 i, .string ⟨s.toArray⟩]] w (Ret (.string ⟨(textF k i s).toArray⟩) w) := by
 cases hm : mayB k i s
 ·have e : textF k i s = [] := by unfold textF; rw [hm]; rfl
  rw [e]
  exact rtext_odd k i s w hs hm
 ·rcases may_kinds hm with ⟨rfl, rfl, rfl⟩ | ⟨rfl, rfl⟩ | ⟨rfl, rfl, _⟩ | ⟨rfl, hi, rfl⟩
  ·exact rtext0_any w
  ·have e : textF 1 i [] = Lib.itoa i := by unfold textF; rw [hm]; rfl
   rw [e]
   exact rtext1_any i w h1 h2
  ·have e : textF 2 0 s = [39] ++ quoteS s ++ [39] := by unfold textF; rw [hm]; rfl
   rw [e]
   exact rtext2_any s w hm
  ·rcases hi with rfl | rfl
   ·exact rtext3_any false w
   ·exact rtext3_any true w
end Go.Proofs.YtchilcchogcibaaGreatDoor
