/- A variable of six cells is stored anew; The parser's chain as a plain function; The parser's atom as a plain function; What statements' texts want of the library's variables, and of the words of the types; The document's digits and Text, as the same plain functions as value's; The document's reader of tokens. -/
import Derived.Deep.CutBlock
import Derived.Shelf.Strings.OnBuilder
import Derived.Shelf.Abstract
import Derived.Lib.ItoaLen
import Derived.Test.YtchilcchogcibaaGreatDoorDRCut
set_option maxRecDepth 100000
set_option maxHeartbeats 2000000
namespace Go.Proofs.YtchilcchogcibaaGreatDoor
open Go.RowKit
theorem Blk.sixF {w : World} {g : Nat} {t : TypeId} {cs : Array Value} (h : Blk w g t cs) : w.frozen? ⟨g, 0, none⟩ = false ∧ w.frozen? ⟨g, 1, none⟩ = false ∧ w.frozen? ⟨g, 2, none⟩ = false ∧ w.frozen? ⟨g, 3, none⟩ = false ∧ w.frozen? ⟨g, 4, none⟩ = false ∧ w.frozen? ⟨g, 5, none⟩ = false :=
 ⟨h.frozen 0, h.frozen 1, h.frozen 2, h.frozen 3, h.frozen 4, h.frozen 5⟩
theorem Blk.sixSet {w : World} {g : Nat} {t : TypeId} {e0 : Ex} {A0 : Option Addr} {c0 : Nat} (h : Blk w g t (e0.cells A0 c0).toArray) (y0 y1 y2 y3 y4 y5 : Value) :
  Blk ((((((w.setCell ⟨g, 0, none⟩ y0).setCell ⟨g, 1, none⟩ y1).setCell ⟨g, 2, none⟩ y2).setCell ⟨g, 3, none⟩ y3).setCell ⟨g, 4, none⟩ y4).setCell ⟨g, 5, none⟩ y5) g t #[y0, y1, y2, y3, y4, y5] :=
 (((((h.set_ 0 y0).set_ 1 y1).set_ 2 y2).set_ 3 y3).set_ 4 y4).set_ 5 y5
theorem But.sixSet (w : World) (g : Nat) (y0 y1 y2 y3 y4 y5 : Value) :
  But g w ((((((w.setCell ⟨g, 0, none⟩ y0).setCell ⟨g, 1, none⟩ y1).setCell ⟨g, 2, none⟩ y2).setCell ⟨g, 3, none⟩ y3).setCell ⟨g, 4, none⟩ y4).setCell ⟨g, 5, none⟩ y5) :=
 ((((((But.refl g w).set 0 y0).set 1 y1).set 2 y2).set 3 y3).set 4 y4).set 5 y5
end Go.Proofs.YtchilcchogcibaaGreatDoor
namespace Go.Proofs.YtchilcchogcibaaGreatDoor
open Go.RowKit
attribute [local go_sem] ByteArray.extract_mk ba_get ba_append
attribute [local go_sem ↓] Go.wp_at_zero Go.wp_at_succ run_eql_V run_neq_V
def RetPE (R : Ex × Bool × Nat) (p : Nat) (A : Option Addr) (c : Nat) (l : List Tok) (deep : Nat) (w : World) (en : Ending) (w' : World) : Prop :=
 ∃ A' c', en = .returned (.tuple #[.agg (R.1.cells A' c').toArray, .bool R.2.1]) ∧ ExR (fun b => w.heap.size ≤ b ∧ b < w'.heap.size) R.1 A' c' w' ∧ PSt p A c l R.2.2 deep w' ∧ But p w w'
theorem PSt.far {p : Nat} {A : Option Addr} {c : Nat} {l : List Tok} {a deep g : Nat} {w w' : World} (h : PSt p A c l a deep w) (hb : But g w w') (hg : p < g) : PSt p A c l a deep w' := by
 have lp := h.1.lt
 exact ⟨hb.blk h.1 (by omega), h.2.below ⟨hb.os, hb.tape, hb.output, hb.size, fun k hk => hb.block k (by omega) (by omega)⟩⟩
theorem RetPE.drew {R : Ex × Bool × Nat} {p : Nat} {A : Option Addr} {c : Nat} {l : List Tok} {deep : Nat} {w w' : World} {en : Ending} (h : RetPE R p A c l deep w en w') : RetPE R p A c l deep w en w'.drew := by
 obtain ⟨A', c', h1, h2, h3, h4⟩ := h
 exact ⟨A', c', h1, h2.keep fun b hb => ⟨hb, fun o => rfl⟩, h3.but (Below.drew (Below.refl _ _)), h4.drew⟩
end Go.Proofs.YtchilcchogcibaaGreatDoor
namespace Go.Proofs.YtchilcchogcibaaGreatDoor
open Go.RowKit
def TypT (w : World) : Prop := w.cell? ⟨0, 0, none⟩ = some (.string ⟨#[73, 78, 84]⟩) ∧ w.cell? ⟨0, 1, none⟩ = some (.string ⟨#[84, 69, 88, 84]⟩) ∧ w.cell? ⟨0, 2, none⟩ = some (.string ⟨#[66, 79, 79, 76]⟩)
theorem TypT.below {w w' : World} (h : TypT w) (hb : Below w.heap.size w w') : TypT w' := by
 obtain ⟨h0, h1, h2⟩ := h
 have hl := Blk_lt_of_cell h0
 exact ⟨(hb.cell (p := ⟨_, 0, none⟩) hl).trans h0, (hb.cell (p := ⟨_, 1, none⟩) hl).trans h1, (hb.cell (p := ⟨_, 2, none⟩) hl).trans h2⟩
def Env0 (w : World) : Prop := MaxL w ∧ Tab10 w ∧ TypT w
theorem Env0.below {w w' : World} (h : Env0 w) (hb : Below w.heap.size w w') : Env0 w' := ⟨h.1.below hb rfl, h.2.1.below hb rfl, h.2.2.below hb⟩
def EnvS (B : Nat) (w : World) : Prop := ∃ W0 : World, Env0 W0 ∧ W0.heap.size ≤ B ∧ Below W0.heap.size W0 w
theorem EnvS.below {B B' : Nat} {w w' : World} (h : EnvS B w) (hb : Below B' w w') (hB : B ≤ B') : EnvS B w' := by
 obtain ⟨W0, h1, h2, h3⟩ := h
 exact ⟨W0, h1, h2, h3.trans (hb.mono (Nat.le_trans h2 hB))⟩
theorem EnvS.out {B : Nat} {w : World} (h : EnvS B w) : Env0 w := by
 obtain ⟨W0, h1, h2, h3⟩ := h
 exact h1.below h3
theorem EnvS.of {w : World} (h : Env0 w) : EnvS w.heap.size w := ⟨w, h, Nat.le_refl _, Below.refl _ _⟩
theorem EnvS.more {B B' : Nat} {w : World} (h : EnvS B w) (hB : B ≤ B') : EnvS B' w := by
 obtain ⟨W0, h1, h2, h3⟩ := h
 exact ⟨W0, h1, Nat.le_trans h2 hB, h3⟩
end Go.Proofs.YtchilcchogcibaaGreatDoor
namespace Go.Proofs.YtchilcchogcibaaGreatDoor
open Go.RowKit
attribute [local go_sem] ByteArray.extract_mk ba_get ba_append
attribute [local go_sem ↓] Go.wp_at_zero Go.wp_at_succ
def digFin (m : Nat) (t : List UInt8) : List UInt8 := if m = 0 ∧ t ≠ [] then t else Lib.decDigits m ++ t
theorem digFin_step (m : Nat) (t : List UInt8) (h : 0 < m ∨ t = []) : digFin (m / 10) (UInt8.ofNat (48 + m % 10) :: t) = digFin m t := by
 unfold digFin
 have h1 : ¬ (m = 0 ∧ t ≠ []) := by
  rintro ⟨a, b⟩
  rcases h with h | h
  ·omega
  ·exact b h
 rw [if_neg h1]
 by_cases hm : m < 10
 ·rw [if_pos ⟨by omega, by simp⟩, Lib.decDigits_one hm, Nat.mod_eq_of_lt hm]; rfl
 ·have e : Lib.decDigits m = Lib.decDigits (m / 10) ++ [UInt8.ofNat (48 + m % 10)] := by rw [Lib.decDigits, dif_neg hm]
  rw [if_neg (by intro ⟨a, _⟩; omega), e]; simp
theorem digFin_len (m : Nat) (t : List UInt8) : t.length ≤ (digFin m t).length := by
 unfold digFin; split <;> simp
theorem tmod_neg (m : Nat) : Int.tmod (-(m : Int)) 10 = -((m % 10 : Nat) : Int) := by
 rw [Int.neg_tmod, Int.tmod_eq_emod_of_nonneg (by omega)]; omega
theorem tdiv_neg (m : Nat) : Int.tdiv (-(m : Int)) 10 = -((m / 10 : Nat) : Int) := by
 rw [Int.neg_tdiv, Int.tdiv_eq_ediv_of_nonneg (by omega)]; omega
theorem one_text (w : World) (x : Int) (c : UInt8) (h : (c.toNat : Int) = x) :
  (convert 163 9 (.slice (some ⟨w.heap.size, 0, none⟩) 1 1)).run Tryz.prog (w.alloc (.cells #[.int .u8 x] 5)) = .ok (.string ⟨[c].toArray⟩) (w.alloc (.cells #[.int .u8 x] 5)) :=
 own_text (n := 1) (base := 0) (l := [c]) Tryz.underlying163 Tryz.underlying5 Tryz.underlying9 (own_new w 0 5 x c h (Nat.zero_le _))
theorem rdigits_any (u : Nat) (w : World) (hu : u ≤ 9223372036854775808) :
  Calls Tryz.prog 181 #[.int .i64 (-(u : Int))] w (Ret (.string ⟨(Lib.decDigits u).toArray⟩) w) := by
 have hl : (Lib.decDigits u).length ≤ 21 := by
  rcases Nat.eq_zero_or_pos u with h | h
  ·subst h; rw [Lib.decDigits_one (by omega)]; simp
  ·have := Lib.itoa_length_le (-(u : Int)) (by omega) (by omega)
   unfold Lib.itoa at this
   rw [if_pos (by omega)] at this
   have e : (-(u : Int)).natAbs = u := by omega
   rw [e] at this
   simp at this; omega
 obtain ⟨D, hD⟩ : ∃ D, Lib.decDigits u = D := ⟨_, rfl⟩
 rw [hD] at hl ⊢
 have HD := Lib.hid hD
 clear hD
 go_in
 go_wp2
 go_loopw [0, 3] (fun n s wr => ∃ (m : Nat) (t : List UInt8), n = .int .i64 (-(m : Int)) ∧ s = .string ⟨t.toArray⟩ ∧ m ≤ 9223372036854775808 ∧ t.length ≤ 21 ∧ Hid (digFin m t = D) ∧ Below w.heap.size w wr) (fun n s _ => (intOf n).natAbs + (match s with | .string b => if b.size = 0 then 1 else 0 | _ => 0))
 case atStart => exact ⟨u, [], rfl, rfl, hu, by simp, by show _ = _; rw [← HD.out]; simp [digFin], Below.refl _ _⟩
 case round =>
  obtain ⟨m, t, rfl, rfl, hm, ht, hf, hbw⟩ := hrel
  have hzw := hbw.size
  have tm := tmod_neg m
  have td := tdiv_neg m
  by_cases hgo : 0 < m ∨ t = []
  ·have hs := digFin_step m t hgo
   rw [hf.out] at hs
   have HS := Lib.hid hs
   have hmod : m % 10 ≤ 9 := by omega
   have hlen : (UInt8.ofNat (48 + m % 10) :: t).length ≤ 21 := by
    have := digFin_len (m / 10) (UInt8.ofNat (48 + m % 10) :: t)
    rw [HS.out] at this; omega
   have HLEN := Lib.hid hlen
   have h1t := one_text wr (48 + (m : Int) % 10) (UInt8.ofNat (48 + m % 10)) (by rw [dig_nat _ (by omega)]; omega)
   clear hs hf hlen
   rcases Nat.eq_zero_or_pos m with h0 | h0
   ·subst h0
    obtain rfl : t = [] := by
     rcases hgo with h | h
     ·omega
     ·exact h
    clear h1t tm td
    have h1t := one_text wr 48 (UInt8.ofNat 48) rfl
    have HS2 : Hid (digFin 0 [UInt8.ofNat 48] = D) := HS.out
    clear HS HLEN hmod hgo
    go_wp2
    go_roundw
    case rel => exact ⟨0, [UInt8.ofNat 48], rfl, rfl, by omega, by simp, HS2, by exact bl⟩
    case measure => simp [intOf, ByteArray.size]
   ·have hlt : (-(m : Int)) < 0 := by omega
    generalize UInt8.ofNat (48 + m % 10) = ch at *
    go_wp2
    go_roundw
    case rel => exact ⟨m / 10, ch :: t, by simp, rfl, by omega, HLEN.out, HS, by exact bl⟩
    case measure => simp [intOf, ByteArray.size]; omega
  ·have h0 : m = 0 := by omega
   subst h0
   have hne : (t == []) = false := by
    cases t with
    | nil => simp at hgo
    | cons c r => rfl
   have hD : D = t := by
    rw [← hf.out]; unfold digFin; rw [if_pos ⟨rfl, fun e => hgo (.inr e)⟩]
   have HD2 := Lib.hid hD
   clear hf hD hgo
   go_wp2
   go_ret
   exact ⟨by rw [HD2.out]; rfl, hbw⟩
theorem take_one (s : List UInt8) (j : Nat) (h : j < s.length) : List.take 1 (List.drop j s) = [s[j]] := by
 rw [List.drop_eq_getElem_cons h]; rfl
theorem quoteS_snoc (l : List UInt8) (c : UInt8) : quoteS (l ++ [c]) = quoteS l ++ (if c = 39 then [39, 39] else [c]) := by
 induction l with
 | nil => simp [quoteS]
 | cons d r ih => simp only [List.cons_append, quoteS]; split <;> simp [ih]
theorem rtext2_any (s : List UInt8) (w : World) (hm : mayB 2 0 s = true) :
  Calls Tryz.prog 111 #[.agg #[.int .i64 2, .int .i64 0, .string ⟨s.toArray⟩]] w (Ret (.string ⟨([39] ++ quoteS s ++ [39]).toArray⟩) w) := by
 have hs40 : s.length ≤ 40 := (may2 hm).2.1
 have HM := Lib.hid hm
 clear hm
 obtain ⟨R, hR⟩ : ∃ R, [39] ++ quoteS s = R := ⟨_, rfl⟩
 rw [hR]
 have HR := Lib.hid hR
 clear hR
 go_in
 go_wp2_with fail
 refine (rmay_any _ _ _ _ (by omega)).mono ?_
 rintro e w0 ⟨rfl, hb0⟩
 rw [HM.out]
 have hz0 := hb0.size
 obtain ⟨hc0, hf0⟩ := bcell hb0
 simp at hz0 hc0 hf0
 have c2 : w0.cell? ⟨w.heap.size, 2, none⟩ = some (.string ⟨s.toArray⟩) := by rw [hc0 _ _ (by omega)]; simp [go_sem]
 have hbw : Below w.heap.size w w0 := by exact bl
 go_wp2_with fail
 go_loop [3, 4] (fun t i => ∃ (j : Nat) (q : List UInt8), j ≤ s.length ∧ i = .int .i64 j ∧ t = .string ⟨q.toArray⟩ ∧ q.length ≤ 1 + 2 * j ∧ Hid (q = [39] ++ quoteS (s.take j))) (fun _ i => s.length - (intOf i).toNat)
 case atStart => exact ⟨0, [39], by omega, rfl, rfl, by simp, rfl⟩
 case round =>
  obtain ⟨j, q, hj, rfl, rfl, hq, hrel⟩ := hrel
  by_cases hlt : j < s.length
  ·have e1 := take_snoc s j hlt
   have e2 := quoteS_snoc (s.take j) s[j]
   by_cases h39 : s[j] = 39
   ·have h39' : ((s[j].toNat : Int) == 39) = true := by rw [h39]; rfl
    have HN : Hid (q ++ List.take 1 (List.drop j s) ++ [39] = [39] ++ quoteS (s.take (j + 1))) := by
     show _ = _
     rw [take_one s j hlt, e1, e2, if_pos h39, hrel.out, h39]; simp
    clear e1 e2 h39 hrel
    have hl1 : (List.take 1 (List.drop j s)).length ≤ 1 := by rw [List.length_take]; omega
    go_wp2
    go_round
    case rel => exact ⟨j + 1, q ++ List.take 1 (List.drop j s) ++ [39], by omega, by go_num, by simp, by simp; omega, HN⟩
    case measure => simp [intOf]; omega
   ·have h39' : ((s[j].toNat : Int) == 39) = false := by
     rw [beq_eq_false_iff_ne]; intro e; apply h39; apply UInt8.toNat.inj; show s[j].toNat = 39; omega
    have HN : Hid (q ++ List.take 1 (List.drop j s) = [39] ++ quoteS (s.take (j + 1))) := by
     show _ = _
     rw [take_one s j hlt, e1, e2, if_neg h39, hrel.out]; simp
    clear e1 e2 h39 hrel
    have hl1 : (List.take 1 (List.drop j s)).length ≤ 1 := by rw [List.length_take]; omega
    go_wp2
    go_round
    case rel => exact ⟨j + 1, q ++ List.take 1 (List.drop j s), by omega, by go_num, by simp, by simp; omega, HN⟩
    case measure => simp [intOf]; omega
  ·have hq2 : R = q := by
    rw [← HR.out, hrel.out, List.take_of_length_le (by omega)]
   have HQ := Lib.hid hq2
   clear hq2 hrel
   go_wp2
   go_ret
   exact ⟨by rw [HQ.out]; rfl, hbw⟩
theorem rtext_odd (k i : Int) (s : List UInt8) (w : World) (hs : s.length ≤ 140737488351232) (hm : mayB k i s = false) :
  Calls Tryz.prog 111 #[.agg #[.int .i64 k, .int .i64 i, .string ⟨s.toArray⟩]] w (Ret (.string ⟨#[]⟩) w) := by
 have HM := Lib.hid hm
 clear hm
 go_in
 go_wp2_with fail
 refine (rmay_any _ _ _ _ hs).mono ?_
 rintro e w0 ⟨rfl, hb0⟩
 rw [HM.out]
 go_wp2
 go_ret
 exact ⟨rfl, by exact bl⟩
theorem rtext0_any (w : World) :
  Calls Tryz.prog 111 #[.agg #[.int .i64 0, .int .i64 0, .string ⟨#[]⟩]] w (Ret (.string ⟨#[78, 85, 76, 76]⟩) w) := by
 have HM : Hid (mayB 0 0 [] = true) := by show _ = _; rfl
 go_in
 go_wp2_with fail
 refine (rmay_any 0 0 [] _ (by simp)).mono ?_
 rintro e w0 ⟨rfl, hb0⟩
 rw [HM.out]
 have hz0 := hb0.size
 obtain ⟨hc0, hf0⟩ := bcell hb0
 simp at hz0 hc0 hf0
 go_wp2
 go_ret
 exact ⟨rfl, by exact bl⟩
theorem rtext1_any (i : Int) (w : World) (h1 : -9223372036854775808 ≤ i) (h2 : i ≤ 9223372036854775807) :
  Calls Tryz.prog 111 #[.agg #[.int .i64 1, .int .i64 i, .string ⟨#[]⟩]] w (Ret (.string ⟨(Lib.itoa i).toArray⟩) w) := by
 have HM : Hid (mayB 1 i [] = true) := by show _ = _; simp [mayB]
 by_cases hn : i < 0
 ·obtain ⟨u, rfl⟩ : ∃ u : Nat, i = -(u : Int) := ⟨i.natAbs, by omega⟩
  have e : Lib.itoa (-(u : Int)) = 45 :: Lib.decDigits u := by
   unfold Lib.itoa; rw [if_pos hn]; congr 2; omega
  have hl : (Lib.decDigits u).length ≤ 21 := by
   have := Lib.itoa_length_le (-(u : Int)) (by omega) (by omega)
   rw [e] at this; simp at this; omega
  rw [e]
  clear e
  go_in
  go_wp2_with fail
  refine (rmay_any 1 (-(u : Int)) [] _ (by simp)).mono ?_
  rintro e w0 ⟨rfl, hb0⟩
  rw [HM.out]
  have hz0 := hb0.size
  obtain ⟨hc0, hf0⟩ := bcell hb0
  simp at hz0 hc0 hf0
  go_wp2_with fail
  refine (rdigits_any u _ (by omega)).mono ?_
  rintro e w1 ⟨rfl, hb1⟩
  generalize Lib.decDigits u = D at *
  go_wp2
  go_ret
  exact ⟨rfl, by exact bl⟩
 ·obtain ⟨u, rfl⟩ : ∃ u : Nat, i = (u : Int) := ⟨i.toNat, by omega⟩
  have e : Lib.itoa (u : Int) = Lib.decDigits u := by
   unfold Lib.itoa; rw [if_neg hn]; congr 1
  rw [e]
  clear e
  have hn' : ¬ (u : Int) < 0 := by omega
  go_in
  go_wp2_with fail
  refine (rmay_any 1 (u : Int) [] _ (by simp)).mono ?_
  rintro e w0 ⟨rfl, hb0⟩
  rw [HM.out]
  have hz0 := hb0.size
  obtain ⟨hc0, hf0⟩ := bcell hb0
  simp at hz0 hc0 hf0
  go_wp2_with fail
  refine (rdigits_any u _ (by omega)).mono ?_
  rintro e w1 ⟨rfl, hb1⟩
  go_wp2
  go_ret
  exact ⟨rfl, by exact bl⟩
theorem rtext3_any (b : Bool) (w : World) :
  Calls Tryz.prog 111 #[.agg #[.int .i64 3, .int .i64 (if b then 1 else 0), .string ⟨#[]⟩]] w (Ret (.string ⟨(if b then [84, 82, 85, 69] else [70, 65, 76, 83, 69] : List UInt8).toArray⟩) w) := by
 cases b
 ·have HM : Hid (mayB 3 0 [] = true) := by show _ = _; rfl
  go_in
  go_wp2_with fail
  refine (rmay_any 3 0 [] _ (by simp)).mono ?_
  rintro e w0 ⟨rfl, hb0⟩
  rw [HM.out]
  have hz0 := hb0.size
  obtain ⟨hc0, hf0⟩ := bcell hb0
  simp at hz0 hc0 hf0
  go_wp2
  go_ret
  exact ⟨rfl, by exact bl⟩
 ·have HM : Hid (mayB 3 1 [] = true) := by show _ = _; rfl
  go_in
  go_wp2_with fail
  refine (rmay_any 3 1 [] _ (by simp)).mono ?_
  rintro e w0 ⟨rfl, hb0⟩
  rw [HM.out]
  have hz0 := hb0.size
  obtain ⟨hc0, hf0⟩ := bcell hb0
  simp at hz0 hc0 hf0
  go_wp2
  go_ret
  exact ⟨rfl, by exact bl⟩
theorem rtext_any (k i : Int) (s : List UInt8) (w : World) (h1 : -9223372036854775808 ≤ i) (h2 : i ≤ 9223372036854775807) (hs : s.length ≤ 140737488351232) :
  Calls Tryz.prog 111 #[.agg #[.int .i64 k, .int .i64 i, .string ⟨s.toArray⟩]] w (Ret (.string ⟨(textF k i s).toArray⟩) w) := by
 cases hm : mayB k i s
 ·have e : textF k i s = [] := by unfold textF; rw [hm]; rfl
  rw [e]
  exact rtext_odd k i s w hs hm
 ·rcases may_kinds hm with ⟨rfl, rfl, rfl⟩ | ⟨rfl, rfl⟩ | ⟨rfl, rfl, _⟩ | ⟨rfl, hi, rfl⟩
  ·exact rtext0_any w
  ·have e : textF 1 i [] = Lib.itoa i := by unfold textF; rw [hm]; rfl
   rw [e]
   exact rtext1_any i w h1 h2
  ·have e : textF 2 0 s = [39] ++ quoteS s ++ [39] := by unfold textF; rw [hm]; rfl
   rw [e]
   exact rtext2_any s w hm
  ·rcases hi with rfl | rfl
   ·exact rtext3_any false w
   ·exact rtext3_any true w
def seeT (l : List Tok) (at_ : Nat) (s : List UInt8) : Bool := match l[at_]? with | none => false | some t => (t.k == 1 || t.k == 4) && t.s == s
def RdC (w : World) (g : Nat) (A : Option Addr) (l : List Tok) (c : Nat) (at_ : Nat) (ok : Bool) : Prop := Blk w g 141 #[.slice A l.length c, .int .i64 at_, .bool ok]
theorem rsee_any (l : List Tok) (A : Option Addr) (c at_ g : Nat) (ok : Bool) (s : List UInt8) (w : World) (ha : at_ ≤ l.length) (hr : RdC w g A l c at_ ok) (ht : TkS w w.heap.size A l) :
  Calls Tryz.prog 127 #[.pointer (some ⟨g, 0, none⟩), .string ⟨s.toArray⟩] w (Ret (.bool (seeT l at_ s)) w) := by
 obtain ⟨⟨x0, x1, x2⟩, y0, y1, y2⟩ := Blk.three hr
 by_cases hlt : at_ < l.length
 ·obtain ⟨b, off, v, rfl, hb, hv, c0, c1⟩ := ht.at_ hlt
  have p0 : (at_ : Int) < l.length := by omega
  obtain ⟨R, hR⟩ : ∃ R, seeT l at_ s = R := ⟨_, rfl⟩
  have hR2 : R = ((v.k == 1 || v.k == 4) && v.s == s) := by rw [← hR]; unfold seeT; rw [hv]
  rw [hR]
  clear hR
  have HR := Lib.hid hR2
  clear hR2
  by_cases h1 : v.k = 1
  ·have e1 : (v.k == 1) = true := by simpa using h1
   have HR2 : Hid ((v.s == s) = R) := by show _ = _; rw [HR.out]; simp [h1]
   go_in
   go_wp2_with fail
   go_quiet (fail)
   all_goals go_wp2_with fail
   all_goals go_ret
   all_goals rw [← HR2.out]
   all_goals exact ⟨rfl, by exact bl⟩
  ·have e1 : (v.k == 1) = false := by simpa using h1
   by_cases h4 : v.k = 4
   ·have e4 : (v.k == 4) = true := by simpa using h4
    have HR2 : Hid ((v.s == s) = R) := by show _ = _; rw [HR.out]; simp [h4]
    go_in
    go_wp2_with fail
    go_quiet (fail)
    all_goals go_wp2_with fail
    all_goals go_ret
    all_goals rw [← HR2.out]
    all_goals exact ⟨rfl, by exact bl⟩
   ·have e4 : (v.k == 4) = false := by simpa using h4
    have HR2 : Hid (false = R) := by show _ = _; rw [HR.out]; simp [e1, e4]
    go_in
    go_wp2_with fail
    go_quiet (fail)
    all_goals go_wp2_with fail
    all_goals go_ret
    all_goals rw [← HR2.out]
    all_goals exact ⟨rfl, by exact bl⟩
 ·have p0 : ¬ (at_ : Int) < l.length := by omega
  have e : seeT l at_ s = false := by unfold seeT; rw [List.getElem?_eq_none (by omega)]
  rw [e]
  go_in
  go_wp2_with fail
  go_quiet (fail)
  all_goals go_wp2_with fail
  all_goals go_ret
  all_goals exact ⟨rfl, by exact bl⟩
def RdS (g : Nat) (A : Option Addr) (c : Nat) (l : List Tok) (a : Nat) (ok : Bool) (w : World) : Prop := RdC w g A l c a ok ∧ TkS w g A l
theorem RdS.but {g : Nat} {A : Option Addr} {c : Nat} {l : List Tok} {a : Nat} {ok : Bool} {w w' : World} (h : RdS g A c l a ok w) (hb : Below w.heap.size w w') : RdS g A c l a ok w' :=
 ⟨Blk.below h.1 hb (Blk.lt h.1), h.2.below ((But.of_below hb).below (Nat.le_of_lt (Blk.lt h.1)))⟩
theorem RdS.set {g : Nat} {A : Option Addr} {c : Nat} {l : List Tok} {a : Nat} {ok : Bool} {w : World} (h : RdS g A c l a ok w) (b : Nat) : RdS g A c l b ok (w.setCell ⟨g, 1, none⟩ (.int .i64 b)) :=
 ⟨Blk.set_ h.1 1 (.int .i64 b), h.2.below (bwS bwR (Nat.le_refl _))⟩
theorem RdS.bad {g : Nat} {A : Option Addr} {c : Nat} {l : List Tok} {a : Nat} {ok : Bool} {w : World} (h : RdS g A c l a ok w) : RdS g A c l a false (w.setCell ⟨g, 2, none⟩ (.bool false)) :=
 ⟨Blk.set_ h.1 2 (.bool false), h.2.below (bwS bwR (Nat.le_refl _))⟩
def RetRd (e0 : Ending) (g : Nat) (A : Option Addr) (c : Nat) (l : List Tok) (a : Nat) (ok : Bool) (w : World) (e : Ending) (w' : World) : Prop := e = e0 ∧ RdS g A c l a ok w' ∧ But g w w'
theorem rpass_any (l : List Tok) (A : Option Addr) (c a g : Nat) (ok : Bool) (s : List UInt8) (w : World) (hl : l.length ≤ 1000000) (ha : a ≤ l.length) (h : RdS g A c l a ok w) :
  Calls Tryz.prog 120 #[.pointer (some ⟨g, 0, none⟩), .string ⟨s.toArray⟩] w (RetRd (.returned (.bool (seeT l a s))) g A c l (if seeT l a s then a + 1 else a) ok w) := by
 have HSE := Lib.hid (rsee_any l A c a g ok s w ha h.1 (h.2.more (Nat.le_of_lt (Blk.lt h.1))))
 have HP := Lib.hid h
 obtain ⟨R, hR⟩ : ∃ R, seeT l a s = R := ⟨_, rfl⟩
 rw [hR] at HSE ⊢
 clear h hR
 go_in
 go_upto_region 1 with fail
 go_wp2_with (go_at_call 127; refine HSE.out.mono ?_; rintro e w1 ⟨rfl, hb1⟩; have hP1 := HP.out.but hb1; obtain ⟨⟨x0, x1, x2⟩, y0, y1, y2⟩ := Blk.three hP1.1; cases R)
 all_goals go_wp2_with fail
 all_goals go_ret
 ·exact ⟨rfl, hP1, But.of_below hb1⟩
 ·exact ⟨rfl, hP1.set (a + 1), (But.of_below hb1).set 1 _⟩
theorem rmust_any (l : List Tok) (A : Option Addr) (c a g : Nat) (ok : Bool) (s : List UInt8) (w : World) (hl : l.length ≤ 1000000) (ha : a ≤ l.length) (h : RdS g A c l a ok w) :
  Calls Tryz.prog 122 #[.pointer (some ⟨g, 0, none⟩), .string ⟨s.toArray⟩] w (RetRd (.returned (.tuple #[])) g A c l (if seeT l a s then a + 1 else a) (ok && seeT l a s) w) := by
 have HSE := Lib.hid (rpass_any l A c a g ok s w hl ha h)
 obtain ⟨R, hR⟩ : ∃ R, seeT l a s = R := ⟨_, rfl⟩
 rw [hR] at HSE ⊢
 clear h hR
 go_in
 go_wp2_with (go_at_call 120; refine HSE.out.mono ?_; rintro e w1 ⟨rfl, hP1, hb1⟩; obtain ⟨⟨x0, x1, x2⟩, y0, y1, y2⟩ := Blk.three hP1.1; cases R)
 all_goals go_wp2_with fail
 all_goals refine bodyPost_ret (v := .tuple #[]) (by simp [results, Tryz.results122, go_sem, *]) rfl ?_
 ·exact ⟨rfl, hP1.bad, hb1.set 2 _⟩
 ·exact ⟨rfl, hP1, hb1⟩
end Go.Proofs.YtchilcchogcibaaGreatDoor
