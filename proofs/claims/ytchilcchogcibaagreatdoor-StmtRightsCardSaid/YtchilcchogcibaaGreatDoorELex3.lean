/- expr.Reserved, expr.parts, lexer.Name as plain functions; lexer.quoted and first as plain functions. -/
import Derived.Test.YtchilcchogcibaaGreatDoorELex2
set_option maxRecDepth 100000
set_option maxHeartbeats 4000000
namespace Go.Proofs.YtchilcchogcibaaGreatDoor
open Go.RowKit
attribute [local go_sem] ByteArray.extract_mk ba_get ba_append
attribute [local go_sem ↓] Go.wp_at_zero Go.wp_at_succ
theorem nameX_any (s : List UInt8) (w : World) (hs : s.length ≤ 1000000) : Calls Tryz.prog 66 #[.string ⟨s.toArray⟩] w (Ret (.bool (nameB s)) w) := by
 go_in
 go_wp2_with fail
 refine (mayTok_any 1 s w hs).mono ?_
 rintro e w1 ⟨rfl, hb1⟩
 go_wp2_with fail
 go_ret
 exact ⟨rfl, hb1⟩
theorem parts_any (s : List UInt8) (w : World) : Calls Tryz.prog 192 #[.string ⟨s.toArray⟩] w fun e w' => e = .returned (.int .i64 (partsF s)) ∧ w = w' := by
 by_cases hLit : s = opLit
 ·subst hLit
  go_in
  go_wp2
  go_ret
  exact ⟨rfl, rfl⟩
 by_cases hCol : s = opCol
 ·subst hCol
  go_in
  go_wp2
  go_ret
  exact ⟨rfl, rfl⟩
 by_cases hNot : s = opNot
 ·subst hNot
  go_in
  go_wp2
  go_ret
  exact ⟨rfl, rfl⟩
 by_cases hNull : s = opNull
 ·subst hNull
  go_in
  go_wp2
  go_ret
  exact ⟨rfl, rfl⟩
 by_cases hAnd : s = opAnd
 ·subst hAnd
  go_in
  go_wp2
  go_ret
  exact ⟨rfl, rfl⟩
 by_cases hOr : s = opOr
 ·subst hOr
  go_in
  go_wp2
  go_ret
  exact ⟨rfl, rfl⟩
 by_cases hEq : s = opEq
 ·subst hEq
  go_in
  go_wp2
  go_ret
  exact ⟨rfl, rfl⟩
 by_cases hLt : s = opLt
 ·subst hLt
  go_in
  go_wp2
  go_ret
  exact ⟨rfl, rfl⟩
 by_cases hPlus : s = opPlus
 ·subst hPlus
  go_in
  go_wp2
  go_ret
  exact ⟨rfl, rfl⟩
 by_cases hMinus : s = opMinus
 ·subst hMinus
  go_in
  go_wp2
  go_ret
  exact ⟨rfl, rfl⟩
 have HP : Hid (partsF s = -1) := by show _ = _; simp [partsF, hLit, hCol, hNot, hNull, hAnd, hOr, hEq, hLt, hPlus, hMinus]
 have eLit : (s == [108, 105, 116]) = false := by rw [beq_eq_false_iff_ne]; exact hLit
 have gLit : ¬ s = [108, 105, 116] := hLit
 have eCol : (s == [99, 111, 108]) = false := by rw [beq_eq_false_iff_ne]; exact hCol
 have gCol : ¬ s = [99, 111, 108] := hCol
 have eNot : (s == [110, 111, 116]) = false := by rw [beq_eq_false_iff_ne]; exact hNot
 have gNot : ¬ s = [110, 111, 116] := hNot
 have eNull : (s == [110, 117, 108, 108]) = false := by rw [beq_eq_false_iff_ne]; exact hNull
 have gNull : ¬ s = [110, 117, 108, 108] := hNull
 have eAnd : (s == [97, 110, 100]) = false := by rw [beq_eq_false_iff_ne]; exact hAnd
 have gAnd : ¬ s = [97, 110, 100] := hAnd
 have eOr : (s == [111, 114]) = false := by rw [beq_eq_false_iff_ne]; exact hOr
 have gOr : ¬ s = [111, 114] := hOr
 have eEq : (s == [61]) = false := by rw [beq_eq_false_iff_ne]; exact hEq
 have gEq : ¬ s = [61] := hEq
 have eLt : (s == [60]) = false := by rw [beq_eq_false_iff_ne]; exact hLt
 have gLt : ¬ s = [60] := hLt
 have ePlus : (s == [43]) = false := by rw [beq_eq_false_iff_ne]; exact hPlus
 have gPlus : ¬ s = [43] := hPlus
 have eMinus : (s == [45]) = false := by rw [beq_eq_false_iff_ne]; exact hMinus
 have gMinus : ¬ s = [45] := hMinus
 rw [HP.out]
 clear HP hLit hCol hNot hNull hAnd hOr hEq hLt hPlus hMinus
 go_in
 go_wp2
 go_ret
 exact ⟨rfl, rfl⟩
theorem reserved_any (s : List UInt8) (w : World) : Calls Tryz.prog 67 #[.string ⟨s.toArray⟩] w (RetB (reserved s) w) := by
 cases hr : reserved s
 ·have hn : ¬ s ∈ words := by
   intro h
   have : reserved s = true := by unfold reserved; exact List.contains_iff_mem.2 h
   rw [this] at hr; cases hr
  have g0 : ¬ s = [65, 78, 68] := fun h => hn (by subst h; decide)
  have e0 : (s == [65, 78, 68]) = false := by rw [beq_eq_false_iff_ne]; exact g0
  have g1 : ¬ s = [79, 82] := fun h => hn (by subst h; decide)
  have e1 : (s == [79, 82]) = false := by rw [beq_eq_false_iff_ne]; exact g1
  have g2 : ¬ s = [78, 79, 84] := fun h => hn (by subst h; decide)
  have e2 : (s == [78, 79, 84]) = false := by rw [beq_eq_false_iff_ne]; exact g2
  have g3 : ¬ s = [73, 83] := fun h => hn (by subst h; decide)
  have e3 : (s == [73, 83]) = false := by rw [beq_eq_false_iff_ne]; exact g3
  have g4 : ¬ s = [78, 85, 76, 76] := fun h => hn (by subst h; decide)
  have e4 : (s == [78, 85, 76, 76]) = false := by rw [beq_eq_false_iff_ne]; exact g4
  have g5 : ¬ s = [84, 82, 85, 69] := fun h => hn (by subst h; decide)
  have e5 : (s == [84, 82, 85, 69]) = false := by rw [beq_eq_false_iff_ne]; exact g5
  have g6 : ¬ s = [70, 65, 76, 83, 69] := fun h => hn (by subst h; decide)
  have e6 : (s == [70, 65, 76, 83, 69]) = false := by rw [beq_eq_false_iff_ne]; exact g6
  have g7 : ¬ s = [67, 82, 69, 65, 84, 69] := fun h => hn (by subst h; decide)
  have e7 : (s == [67, 82, 69, 65, 84, 69]) = false := by rw [beq_eq_false_iff_ne]; exact g7
  have g8 : ¬ s = [84, 65, 66, 76, 69] := fun h => hn (by subst h; decide)
  have e8 : (s == [84, 65, 66, 76, 69]) = false := by rw [beq_eq_false_iff_ne]; exact g8
  have g9 : ¬ s = [73, 78, 84] := fun h => hn (by subst h; decide)
  have e9 : (s == [73, 78, 84]) = false := by rw [beq_eq_false_iff_ne]; exact g9
  have g10 : ¬ s = [84, 69, 88, 84] := fun h => hn (by subst h; decide)
  have e10 : (s == [84, 69, 88, 84]) = false := by rw [beq_eq_false_iff_ne]; exact g10
  have g11 : ¬ s = [66, 79, 79, 76] := fun h => hn (by subst h; decide)
  have e11 : (s == [66, 79, 79, 76]) = false := by rw [beq_eq_false_iff_ne]; exact g11
  have g12 : ¬ s = [75, 69, 89] := fun h => hn (by subst h; decide)
  have e12 : (s == [75, 69, 89]) = false := by rw [beq_eq_false_iff_ne]; exact g12
  have g13 : ¬ s = [85, 78, 73, 81, 85, 69] := fun h => hn (by subst h; decide)
  have e13 : (s == [85, 78, 73, 81, 85, 69]) = false := by rw [beq_eq_false_iff_ne]; exact g13
  have g14 : ¬ s = [82, 69, 70, 69, 82, 69, 78, 67, 69, 83] := fun h => hn (by subst h; decide)
  have e14 : (s == [82, 69, 70, 69, 82, 69, 78, 67, 69, 83]) = false := by rw [beq_eq_false_iff_ne]; exact g14
  have g15 : ¬ s = [67, 72, 69, 67, 75] := fun h => hn (by subst h; decide)
  have e15 : (s == [67, 72, 69, 67, 75]) = false := by rw [beq_eq_false_iff_ne]; exact g15
  have g16 : ¬ s = [68, 82, 79, 80] := fun h => hn (by subst h; decide)
  have e16 : (s == [68, 82, 79, 80]) = false := by rw [beq_eq_false_iff_ne]; exact g16
  have g17 : ¬ s = [73, 78, 83, 69, 82, 84] := fun h => hn (by subst h; decide)
  have e17 : (s == [73, 78, 83, 69, 82, 84]) = false := by rw [beq_eq_false_iff_ne]; exact g17
  have g18 : ¬ s = [73, 78, 84, 79] := fun h => hn (by subst h; decide)
  have e18 : (s == [73, 78, 84, 79]) = false := by rw [beq_eq_false_iff_ne]; exact g18
  have g19 : ¬ s = [86, 65, 76, 85, 69, 83] := fun h => hn (by subst h; decide)
  have e19 : (s == [86, 65, 76, 85, 69, 83]) = false := by rw [beq_eq_false_iff_ne]; exact g19
  have g20 : ¬ s = [85, 80, 68, 65, 84, 69] := fun h => hn (by subst h; decide)
  have e20 : (s == [85, 80, 68, 65, 84, 69]) = false := by rw [beq_eq_false_iff_ne]; exact g20
  have g21 : ¬ s = [83, 69, 84] := fun h => hn (by subst h; decide)
  have e21 : (s == [83, 69, 84]) = false := by rw [beq_eq_false_iff_ne]; exact g21
  have g22 : ¬ s = [87, 72, 69, 82, 69] := fun h => hn (by subst h; decide)
  have e22 : (s == [87, 72, 69, 82, 69]) = false := by rw [beq_eq_false_iff_ne]; exact g22
  have g23 : ¬ s = [68, 69, 76, 69, 84, 69] := fun h => hn (by subst h; decide)
  have e23 : (s == [68, 69, 76, 69, 84, 69]) = false := by rw [beq_eq_false_iff_ne]; exact g23
  have g24 : ¬ s = [70, 82, 79, 77] := fun h => hn (by subst h; decide)
  have e24 : (s == [70, 82, 79, 77]) = false := by rw [beq_eq_false_iff_ne]; exact g24
  have g25 : ¬ s = [83, 69, 76, 69, 67, 84] := fun h => hn (by subst h; decide)
  have e25 : (s == [83, 69, 76, 69, 67, 84]) = false := by rw [beq_eq_false_iff_ne]; exact g25
  have g26 : ¬ s = [71, 82, 65, 78, 84] := fun h => hn (by subst h; decide)
  have e26 : (s == [71, 82, 65, 78, 84]) = false := by rw [beq_eq_false_iff_ne]; exact g26
  have g27 : ¬ s = [82, 69, 65, 68] := fun h => hn (by subst h; decide)
  have e27 : (s == [82, 69, 65, 68]) = false := by rw [beq_eq_false_iff_ne]; exact g27
  have g28 : ¬ s = [87, 82, 73, 84, 69] := fun h => hn (by subst h; decide)
  have e28 : (s == [87, 82, 73, 84, 69]) = false := by rw [beq_eq_false_iff_ne]; exact g28
  have g29 : ¬ s = [79, 78] := fun h => hn (by subst h; decide)
  have e29 : (s == [79, 78]) = false := by rw [beq_eq_false_iff_ne]; exact g29
  have g30 : ¬ s = [84, 79] := fun h => hn (by subst h; decide)
  have e30 : (s == [84, 79]) = false := by rw [beq_eq_false_iff_ne]; exact g30
  have g31 : ¬ s = [82, 69, 86, 79, 75, 69] := fun h => hn (by subst h; decide)
  have e31 : (s == [82, 69, 86, 79, 75, 69]) = false := by rw [beq_eq_false_iff_ne]; exact g31
  have g32 : ¬ s = [77, 73, 71, 82, 65, 84, 69] := fun h => hn (by subst h; decide)
  have e32 : (s == [77, 73, 71, 82, 65, 84, 69]) = false := by rw [beq_eq_false_iff_ne]; exact g32
  have g33 : ¬ s = [67, 79, 80, 89] := fun h => hn (by subst h; decide)
  have e33 : (s == [67, 79, 80, 89]) = false := by rw [beq_eq_false_iff_ne]; exact g33
  have g34 : ¬ s = [74, 79, 73, 78] := fun h => hn (by subst h; decide)
  have e34 : (s == [74, 79, 73, 78]) = false := by rw [beq_eq_false_iff_ne]; exact g34
  have g35 : ¬ s = [71, 82, 79, 85, 80] := fun h => hn (by subst h; decide)
  have e35 : (s == [71, 82, 79, 85, 80]) = false := by rw [beq_eq_false_iff_ne]; exact g35
  have g36 : ¬ s = [66, 89] := fun h => hn (by subst h; decide)
  have e36 : (s == [66, 89]) = false := by rw [beq_eq_false_iff_ne]; exact g36
  have g37 : ¬ s = [83, 85, 77] := fun h => hn (by subst h; decide)
  have e37 : (s == [83, 85, 77]) = false := by rw [beq_eq_false_iff_ne]; exact g37
  clear hn hr
  go_in
  go_wp2
  go_ret
  exact ⟨rfl, rfl⟩
 ·have hm : s ∈ words := by unfold reserved at hr; exact List.contains_iff_mem.1 hr
  simp only [words, List.mem_cons, List.not_mem_nil, or_false] at hm
  clear hr
  rcases hm with rfl | rfl | rfl | rfl | rfl | rfl | rfl | rfl | rfl | rfl | rfl | rfl | rfl | rfl | rfl | rfl | rfl | rfl | rfl | rfl | rfl | rfl | rfl | rfl | rfl | rfl | rfl | rfl | rfl | rfl | rfl | rfl | rfl | rfl | rfl | rfl | rfl | rfl
  all_goals
   go_in
   go_wp2
   go_ret
   exact ⟨rfl, rfl⟩
end Go.Proofs.YtchilcchogcibaaGreatDoor
namespace Go.Proofs.YtchilcchogcibaaGreatDoor
open Go.RowKit
attribute [local go_sem] ByteArray.extract_mk ba_get ba_append
attribute [local go_sem ↓] Go.wp_at_zero Go.wp_at_succ ix0 ix1
theorem endQ_miss (s : List UInt8) (j : Nat) (c : UInt8) (h : s[j]? = some c) (hc : ¬ c.toNat = 39) : endQ (s.drop j) j = endQ (s.drop (j + 1)) (j + 1) := by
 obtain ⟨hj, he⟩ := List.getElem?_eq_some_iff.1 h
 rw [List.drop_eq_getElem_cons hj, he]
 cases hd : s.drop (j + 1) with
 | nil => simp [endQ, hc]
 | cons d r => simp [endQ, hc]
theorem endQ_two (s : List UInt8) (j : Nat) (c d : UInt8) (h : s[j]? = some c) (h2 : s[j + 1]? = some d) (hc : c.toNat = 39) (hd : d.toNat = 39) : endQ (s.drop j) j = endQ (s.drop (j + 2)) (j + 2) := by
 obtain ⟨hj, he⟩ := List.getElem?_eq_some_iff.1 h
 obtain ⟨hj2, he2⟩ := List.getElem?_eq_some_iff.1 h2
 rw [List.drop_eq_getElem_cons hj, he, List.drop_eq_getElem_cons hj2, he2]
 simp [endQ, hc, hd]
theorem endQ_hit (s : List UInt8) (j : Nat) (c : UInt8) (h : s[j]? = some c) (hc : c.toNat = 39) (h2 : ∀ d, s[j + 1]? = some d → ¬ d.toNat = 39) : endQ (s.drop j) j = some j := by
 obtain ⟨hj, he⟩ := List.getElem?_eq_some_iff.1 h
 rw [List.drop_eq_getElem_cons hj, he]
 cases hd : s.drop (j + 1) with
 | nil => simp [endQ, hc]
 | cons d r =>
  have : s[j + 1]? = some d := by
   have := List.getElem?_drop (xs := s) (i := j + 1) (j := 0)
   rw [hd] at this
   simpa using this.symm
  simp [endQ, hc, h2 d this]
def quotedOf (s : List UInt8) : Option Nat → Tok × Nat
 | none => (⟨0, []⟩, 0)
 | some n => (⟨3, unquoteS ((s.take n).drop 1)⟩, n + 1)
theorem quotedT_eq (s : List UInt8) : quotedT s = quotedOf s (endQ (s.drop 1) 1) := by
 unfold quotedT
 cases endQ (s.drop 1) 1 <;> rfl
def RetTn (x : Tok × Nat) (w : World) : Ending → World → Prop := Ret (.tuple #[.agg #[.int .i64 x.1.k, .string ⟨x.1.s.toArray⟩], .int .i64 (x.2 : Int)]) w
theorem replaceQ_any (m : List UInt8) (w : World) (hm : m.length ≤ 1000000) (hM : MaxL w) : Calls Tryz.prog 153 #[.string ⟨m.toArray⟩, .string ⟨#[39, 39]⟩, .string ⟨#[39]⟩] w (Ret (.string ⟨(unquoteS m).toArray⟩) w) := by
 obtain ⟨x, hx⟩ := hM
 have hrep : Lib.replaceAll m [39, 39] [39] = unquoteS m := replace_unquote _ _ (Nat.le_refl _)
 refine (Tryz.strings_ReplaceAll ⟨m.toArray⟩ ⟨#[39, 39]⟩ ⟨#[39]⟩ x _ (by show m.length < _; omega) hx (by decide) ?_).mono ?_
 ·have h1 := Lib.countB_le ⟨#[39, 39]⟩ (by decide) m.length ⟨m.toArray⟩ (Nat.le_refl _)
  have h2 : (⟨m.toArray⟩ : ByteArray).size = m.length := rfl
  have h3 : (⟨#[39]⟩ : ByteArray).size = 1 := rfl
  rw [h2] at h1 ⊢
  rw [h3]
  omega
 simp only
 rw [hrep]
 rintro e w3 ⟨rfl, hb3⟩
 exact ⟨rfl, hb3⟩
theorem take_tail (s : List UInt8) (j : Nat) : List.take (j - 1) s.tail = (s.take j).drop 1 := by
 rw [List.drop_take, List.drop_one]
theorem quotedT_any (s : List UInt8) (w : World) (hs : s.length ≤ 1000000) (hM : MaxL w) : Calls Tryz.prog 158 #[.string ⟨s.toArray⟩] w (RetTn (quotedT s) w) := by
 obtain ⟨R, hR⟩ : ∃ R, quotedT s = R := ⟨_, rfl⟩
 rw [hR]
 obtain ⟨E, hE⟩ : ∃ E, endQ (s.drop 1) 1 = E := ⟨_, rfl⟩
 have HR : Hid (R = quotedOf s E) := by show _ = _; rw [← hR, ← hE]; exact quotedT_eq s
 have HE := Lib.hid hE
 have HM := Lib.hid hM
 clear hR hE hM
 have l0 : w.heap.size < w.heap.size + 1 := by omega
 go_in
 go_wp2_with fail
 go_loop [4] (fun t => ∃ j : Nat, 1 ≤ j ∧ j ≤ s.length + 1 ∧ t = .int .i64 j ∧ Hid (endQ (s.drop j) j = E)) (fun t => s.length + 1 - (intOf t).toNat)
 case atStart => exact ⟨1, by omega, by omega, rfl, HE⟩
 case round =>
  obtain ⟨j, hj1, hj2, rfl, HJ⟩ := hrel
  by_cases hlt : j < s.length
  ·obtain ⟨c, hc⟩ : ∃ c, s[j]? = some c := ⟨_, List.getElem?_eq_getElem hlt⟩
   have hcg : s[j] = c := by rw [List.getElem?_eq_getElem hlt] at hc; exact Option.some.inj hc
   by_cases h39 : c.toNat = 39
   ·have t1 : ((c.toNat : Int) != 39) = false := by rw [h39]; rfl
    by_cases h2 : j + 1 < s.length
    ·obtain ⟨d, hd⟩ : ∃ d, s[j + 1]? = some d := ⟨_, List.getElem?_eq_getElem h2⟩
     have hdg : s[j + 1] = d := by rw [List.getElem?_eq_getElem h2] at hd; exact Option.some.inj hd
     have b2 : (j : Int) + 1 < (s.length : Int) := by omega
     by_cases hd39 : d.toNat = 39
     ·have t2 : ((d.toNat : Int) == 39) = true := by rw [hd39]; rfl
      have HJ2 : Hid (endQ (s.drop (j + 2)) (j + 2) = E) := by show _ = _; rw [← HJ.out]; exact (endQ_two s j c d hc hd h39 hd39).symm
      clear h39 hd39 hc hd
      go_wp2_with fail
      go_round
      case rel => exact ⟨j + 2, by omega, by omega, by go_num, HJ2⟩
      case measure => simp [intOf]; omega
     ·have t2 : ((d.toNat : Int) == 39) = false := by rw [beq_eq_false_iff_ne]; omega
      have HJ2 : Hid (E = some j) := by show _ = _; rw [← HJ.out]; exact endQ_hit s j c hc h39 (fun x hx => by rw [hd] at hx; cases hx; exact hd39)
      clear h39 hd39 hc hd
      have hM0 : MaxL (w.alloc (.cells #[.int .i64 0, .string ⟨#[]⟩] 128)) := HM.out.below (by exact bl) rfl
      have hml : (List.take (j - 1) s.tail).length ≤ 1000000 := by rw [List.length_take]; simp; omega
      have HML := Lib.hid hml
      clear hml
      go_wp2_with fail
      refine (replaceQ_any _ _ HML.out hM0).mono ?_
      rintro e w1 ⟨rfl, hb1⟩
      obtain ⟨hc1, hf1⟩ := bcell hb1
      have hz1 := hb1.size
      simp at hz1 hc1 hf1
      have l1 : w.heap.size < w1.heap.size := by omega
      go_wp2_with fail
      refine bodyPost_ret (v := .tuple #[.agg #[.int .i64 3, .string ⟨(unquoteS (List.take (j - 1) s.tail)).toArray⟩], .int .i64 ((j : Int) + 1)]) (by simp [results, Tryz.results158, go_sem, *]) rfl ?_
      rw [HR.out, HJ2.out, take_tail]
      exact ⟨rfl, by exact bl⟩
    ·have b2 : ¬ (j : Int) + 1 < (s.length : Int) := by omega
     have HJ2 : Hid (E = some j) := by show _ = _; rw [← HJ.out]; exact endQ_hit s j c hc h39 (fun x hx => by rw [List.getElem?_eq_none (by omega)] at hx; cases hx)
     clear h39 hc
     have hM0 : MaxL (w.alloc (.cells #[.int .i64 0, .string ⟨#[]⟩] 128)) := HM.out.below (by exact bl) rfl
     have hml : (List.take (j - 1) s.tail).length ≤ 1000000 := by rw [List.length_take]; simp; omega
     have HML := Lib.hid hml
     clear hml
     go_wp2_with fail
     refine (replaceQ_any _ _ HML.out hM0).mono ?_
     rintro e w1 ⟨rfl, hb1⟩
     obtain ⟨hc1, hf1⟩ := bcell hb1
     have hz1 := hb1.size
     simp at hz1 hc1 hf1
     have l1 : w.heap.size < w1.heap.size := by omega
     go_wp2_with fail
     refine bodyPost_ret (v := .tuple #[.agg #[.int .i64 3, .string ⟨(unquoteS (List.take (j - 1) s.tail)).toArray⟩], .int .i64 ((j : Int) + 1)]) (by simp [results, Tryz.results158, go_sem, *]) rfl ?_
     rw [HR.out, HJ2.out, take_tail]
     exact ⟨rfl, by exact bl⟩
   ·have t1 : ((c.toNat : Int) != 39) = true := by rw [bne_iff_ne]; omega
    have HJ2 : Hid (endQ (s.drop (j + 1)) (j + 1) = E) := by show _ = _; rw [← HJ.out]; exact (endQ_miss s j c hc h39).symm
    clear h39 hc
    go_wp2_with fail
    go_round
    case rel => exact ⟨j + 1, by omega, by omega, by go_num, HJ2⟩
    case measure => simp [intOf]; omega
  ·have HJ2 : Hid (E = none) := by show _ = _; rw [← HJ.out, List.drop_of_length_le (by omega)]; rfl
   have hb : ¬ (j : Int) < (s.length : Int) := by omega
   go_wp2_with fail
   refine bodyPost_ret (v := .tuple #[.agg #[.int .i64 0, .string ⟨#[]⟩], .int .i64 0]) (by simp [results, Tryz.results158, go_sem]) rfl ?_
   rw [HR.out, HJ2.out]
   exact ⟨rfl, by exact bl⟩
def firstOf : List UInt8 → Tok × Nat
 | [] => (⟨4, []⟩, 1)
 | c :: r => if c.toNat = 39 then quotedT (c :: r) else (⟨4, [c]⟩, 1)
theorem firstT_any (s : List UInt8) (w : World) (hs : s.length ≤ 1000000) (h0 : 0 < s.length) (hM : MaxL w) : Calls Tryz.prog 95 #[.string ⟨s.toArray⟩] w (RetTn (firstT s) w) := by
 obtain ⟨R, hR⟩ : ∃ R, firstT s = R := ⟨_, rfl⟩
 rw [hR]
 have HM := Lib.hid hM
 clear hM
 obtain ⟨w0, hw0⟩ : ∃ w0, w.alloc (.cells #[.int .i64 0, .string ⟨#[]⟩] 128) = w0 := ⟨_, rfl⟩
 have hk0 : Blk w0 w.heap.size 128 #[.int .i64 0, .string ⟨#[]⟩] := by rw [← hw0]; exact Blk.new _ _ _
 have hb0 : Below w.heap.size w w0 := by rw [← hw0]; exact bl
 have HW := Lib.hid hw0
 clear hw0
 have lw := hk0.lt
 go_in
 go_upto_region 1 with fail
 rw [HW.out]
 go_wp2_with fail
 refine (runs_any _).mono ?_
 rintro e w1 ⟨rfl, hb1⟩
 have k1 := hk0.below hb1 lw
 have lw1 := k1.lt
 have hbw1 : Below w.heap.size w w1 := hb0.trans (hb1.mono hb0.size)
 have hzw := hbw1.size
 clear HW hb1 hk0 lw hb0
 go_wp2_with fail
 refine wp_loop_rounds 3 ?_
 rw [rounds_succ]
 obtain ⟨w2, hw2⟩ : ∃ w2, w1.alloc (.cells #[.int .i64 1, .int .i64 16, .func (.func 205) #[] #[], .func (.func 204) #[] #[]] 183) = w2 := ⟨_, rfl⟩
 have kr : Blk w2 w1.heap.size 183 #[.int .i64 1, .int .i64 16, .func (.func 205) #[] #[], .func (.func 204) #[] #[]] := by rw [← hw2]; exact Blk.new _ _ _
 have hb12 : Below w1.heap.size w1 w2 := by rw [← hw2]; exact bl
 have kt := k1.below hb12 lw1
 have hbw2 : Below w.heap.size w w2 := hbw1.trans (hb12.mono hzw)
 have hz2 := hbw2.size
 have HW2 := Lib.hid hw2
 clear hw2 k1
 have q0 := kr.cell 0
 have q1 := kr.cell 1
 have q2 := kr.cell 2
 have q3 := kr.cell 3
 simp at q0 q1 q2 q3
 have lr := kr.lt
 have lt := kt.lt
 go_upto_region 4 with fail
 rw [HW2.out]
 go_wp2_with fail
 refine (lengthW_any s _ hs).mono ?_
 rintro e w3 ⟨rfl, hb3⟩
 have kr3 := kr.below hb3 lr
 have kt3 := kt.below hb3 lt
 have hbw3 : Below w.heap.size w w3 := hbw2.trans (hb3.mono hz2)
 have hz3 := hbw3.size
 have hl1 := lenRun_le letB partB s
 clear q0 q1 q2 q3 kr kt lr lt hb3 hb12 HW2
 by_cases hn1 : 0 < lenRun letB partB s
 ·have HR : Hid (R = (⟨1, s.take (lenRun letB partB s)⟩, lenRun letB partB s)) := by show _ = _; rw [← hR]; unfold firstT; rw [if_pos hn1]
  clear hR
  generalize lenRun letB partB s = n at *
  have d1 : (0 : Int) < (n : Int) := by omega
  have d2 : (n : Int) ≤ (s.length : Int) := by omega
  have q0 := kr3.cell 0
  simp at q0
  obtain ⟨⟨y0, y1⟩, yf0, yf1⟩ := kt3.two
  have lt3 := kt3.lt
  have lr3 := kr3.lt
  go_wp2_with fail
  go_region
  go_wp2_with fail
  refine bodyPost_ret (v := .tuple #[.agg #[.int .i64 1, .string ⟨(s.take n).toArray⟩], .int .i64 (n : Int)]) (by simp [results, Tryz.results95, go_sem, *]) rfl ?_
  rw [HR.out]
  exact ⟨rfl, by exact bl⟩
 ·have hz0 : lenRun letB partB s = 0 := by omega
  have HR : Hid (R = if 0 < lenRun digB digB s then (⟨2, s.take (lenRun digB digB s)⟩, lenRun digB digB s) else firstOf s) := by
   show _ = _; rw [← hR]; unfold firstT; rw [if_neg hn1]; cases s <;> rfl
  rw [hz0]
  clear hR hn1 hz0 hl1
  go_wp2_with fail
  rw [rounds_succ]
  obtain ⟨w4, hw4⟩ : ∃ w4, w3.alloc (.cells #[.int .i64 2, .int .i64 19, .func (.func 206) #[] #[], .func (.func 206) #[] #[]] 183) = w4 := ⟨_, rfl⟩
  have kr : Blk w4 w3.heap.size 183 #[.int .i64 2, .int .i64 19, .func (.func 206) #[] #[], .func (.func 206) #[] #[]] := by rw [← hw4]; exact Blk.new _ _ _
  have hb34 : Below w3.heap.size w3 w4 := by rw [← hw4]; exact bl
  have kt := kt3.below hb34 kt3.lt
  have hbw4 : Below w.heap.size w w4 := hbw3.trans (hb34.mono hz3)
  have hz4 := hbw4.size
  have HW4 := Lib.hid hw4
  clear hw4 kt3 kr3
  have q0 := kr.cell 0
  have q1 := kr.cell 1
  have q2 := kr.cell 2
  have q3 := kr.cell 3
  simp at q0 q1 q2 q3
  have lr := kr.lt
  have lt := kt.lt
  go_upto_region 4 with fail
  rw [HW4.out]
  go_wp2_with fail
  refine (lengthN_any s _ hs).mono ?_
  rintro e w5 ⟨rfl, hb5⟩
  have kr5 := kr.below hb5 lr
  have kt5 := kt.below hb5 lt
  have hbw5 : Below w.heap.size w w5 := hbw4.trans (hb5.mono hz4)
  have hz5 := hbw5.size
  have hl1 := lenRun_le digB digB s
  clear q0 q1 q2 q3 kr kt lr lt hb5 hb34 HW4
  obtain ⟨⟨y0, y1⟩, yf0, yf1⟩ := kt5.two
  have lt5 := kt5.lt
  by_cases hn1 : 0 < lenRun digB digB s
  ·have HR2 : Hid (R = (⟨2, s.take (lenRun digB digB s)⟩, lenRun digB digB s)) := by show _ = _; rw [HR.out, if_pos hn1]
   clear HR
   generalize lenRun digB digB s = n at *
   have d1 : (0 : Int) < (n : Int) := by omega
   have d2 : (n : Int) ≤ (s.length : Int) := by omega
   have q0 := kr5.cell 0
   simp at q0
   have lr5 := kr5.lt
   go_wp2_with fail
   go_region
   go_wp2_with fail
   refine bodyPost_ret (v := .tuple #[.agg #[.int .i64 2, .string ⟨(s.take n).toArray⟩], .int .i64 (n : Int)]) (by simp [results, Tryz.results95, go_sem, *]) rfl ?_
   rw [HR2.out]
   exact ⟨rfl, by exact bl⟩
  ·have hz0 : lenRun digB digB s = 0 := by omega
   have HR2 : Hid (R = firstOf s) := by show _ = _; rw [HR.out, if_neg hn1]
   rw [hz0]
   clear HR hn1 hz0 hl1
   obtain ⟨c, r, rfl⟩ : ∃ c r, s = c :: r := by
    cases s with
    | nil => simp at h0
    | cons c r => exact ⟨c, r, rfl⟩
   have hr : r.length ≤ 999999 := by simp at hs; omega
   go_wp2_with fail
   rw [rounds_succ]
   by_cases h39 : c.toNat = 39
   ·have t1 : ((c.toNat : Int) == 39) = true := by rw [h39]; rfl
    have HR3 : Hid (R = quotedT (c :: r)) := by show _ = _; rw [HR2.out]; simp only [firstOf]; rw [if_pos h39]
    clear HR2 h39
    have hM5 := HM.out.below hbw5 rfl
    go_wp2_with fail
    refine (quotedT_any (c :: r) _ hs hM5).mono ?_
    rw [← HR3.out]
    rintro e w6 ⟨rfl, hb6⟩
    have kt6 := kt5.below hb6 lt5
    have hz6 := hb6.size
    clear y0 y1 yf0 yf1
    obtain ⟨⟨y0, y1⟩, yf0, yf1⟩ := kt6.two
    have lt6 := kt6.lt
    go_wp2_with fail
    refine bodyPost_ret (v := .tuple #[.agg #[.int .i64 R.1.k, .string ⟨R.1.s.toArray⟩], .int .i64 (R.2 : Int)]) (by simp [results, Tryz.results95, go_sem, *]) rfl ?_
    exact ⟨rfl, by exact bl⟩
   ·have t1 : ((c.toNat : Int) == 39) = false := by rw [beq_eq_false_iff_ne]; omega
    have HR3 : Hid (R = (⟨4, [c]⟩, 1)) := by show _ = _; rw [HR2.out]; simp only [firstOf]; rw [if_neg h39]
    clear HR2 h39
    go_wp2_with fail
    refine bodyPost_ret (v := .tuple #[.agg #[.int .i64 4, .string ⟨[c].toArray⟩], .int .i64 1]) (by simp [results, Tryz.results95, go_sem, *]) rfl ?_
    rw [HR3.out]
    exact ⟨rfl, by exact bl⟩
end Go.Proofs.YtchilcchogcibaaGreatDoor
