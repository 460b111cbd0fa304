/- expr.Reserved, expr.parts, lexer.Name as plain functions. Condition: a text no longer than a million. -/
import Derived.Test.YtdhjogmkhbpcgaaGreatExLaw
import Derived.Test.YtdhjogmkhbpcgaaGreatLex2
namespace Go.Proofs.YtdhjogmkhbpcgaaGreat
open Go.RowKit

attribute [local go_sem] ByteArray.extract_mk ba_get ba_append
attribute [local go_sem ↓] Go.wp_at_zero Go.wp_at_succ

theorem nameX_any (s : List UInt8) (w : World) (hs : s.length ≤ 1000000) : Calls Tryz.prog 112 #[.string ⟨s.toArray⟩] w (Ret (.bool (nameB s)) w) := by
  go_enter Tryz.func112, Tryz.ntmps112
  go_wp2_with fail
  refine (mayTok_any 1 s w hs).mono ?_
  rintro e w1 ⟨rfl, hb1⟩
  go_wp2_with fail
  go_ret
  exact ⟨rfl, hb1⟩

set_option maxHeartbeats 2000000 in
theorem parts_any (s : List UInt8) (w : World) : Calls Tryz.prog 111 #[.string ⟨s.toArray⟩] w fun e w' => e = .returned (.int .i64 (partsF s)) ∧ w = w' := by
  by_cases hLit : s = opLit
  · subst hLit
    go_enter Tryz.func111, Tryz.ntmps111
    go_wp2
    go_ret
    exact ⟨rfl, rfl⟩
  by_cases hCol : s = opCol
  · subst hCol
    go_enter Tryz.func111, Tryz.ntmps111
    go_wp2
    go_ret
    exact ⟨rfl, rfl⟩
  by_cases hNot : s = opNot
  · subst hNot
    go_enter Tryz.func111, Tryz.ntmps111
    go_wp2
    go_ret
    exact ⟨rfl, rfl⟩
  by_cases hNull : s = opNull
  · subst hNull
    go_enter Tryz.func111, Tryz.ntmps111
    go_wp2
    go_ret
    exact ⟨rfl, rfl⟩
  by_cases hAnd : s = opAnd
  · subst hAnd
    go_enter Tryz.func111, Tryz.ntmps111
    go_wp2
    go_ret
    exact ⟨rfl, rfl⟩
  by_cases hOr : s = opOr
  · subst hOr
    go_enter Tryz.func111, Tryz.ntmps111
    go_wp2
    go_ret
    exact ⟨rfl, rfl⟩
  by_cases hEq : s = opEq
  · subst hEq
    go_enter Tryz.func111, Tryz.ntmps111
    go_wp2
    go_ret
    exact ⟨rfl, rfl⟩
  by_cases hLt : s = opLt
  · subst hLt
    go_enter Tryz.func111, Tryz.ntmps111
    go_wp2
    go_ret
    exact ⟨rfl, rfl⟩
  by_cases hPlus : s = opPlus
  · subst hPlus
    go_enter Tryz.func111, Tryz.ntmps111
    go_wp2
    go_ret
    exact ⟨rfl, rfl⟩
  by_cases hMinus : s = opMinus
  · subst hMinus
    go_enter Tryz.func111, Tryz.ntmps111
    go_wp2
    go_ret
    exact ⟨rfl, rfl⟩
  have HP : Hid (partsF s = -1) := by show _ = _; simp [partsF, hLit, hCol, hNot, hNull, hAnd, hOr, hEq, hLt, hPlus, hMinus]
  have eLit : (s == [108, 105, 116]) = false := by rw [beq_eq_false_iff_ne]; exact hLit
  have gLit : ¬ s = [108, 105, 116] := hLit
  have eCol : (s == [99, 111, 108]) = false := by rw [beq_eq_false_iff_ne]; exact hCol
  have gCol : ¬ s = [99, 111, 108] := hCol
  have eNot : (s == [110, 111, 116]) = false := by rw [beq_eq_false_iff_ne]; exact hNot
  have gNot : ¬ s = [110, 111, 116] := hNot
  have eNull : (s == [110, 117, 108, 108]) = false := by rw [beq_eq_false_iff_ne]; exact hNull
  have gNull : ¬ s = [110, 117, 108, 108] := hNull
  have eAnd : (s == [97, 110, 100]) = false := by rw [beq_eq_false_iff_ne]; exact hAnd
  have gAnd : ¬ s = [97, 110, 100] := hAnd
  have eOr : (s == [111, 114]) = false := by rw [beq_eq_false_iff_ne]; exact hOr
  have gOr : ¬ s = [111, 114] := hOr
  have eEq : (s == [61]) = false := by rw [beq_eq_false_iff_ne]; exact hEq
  have gEq : ¬ s = [61] := hEq
  have eLt : (s == [60]) = false := by rw [beq_eq_false_iff_ne]; exact hLt
  have gLt : ¬ s = [60] := hLt
  have ePlus : (s == [43]) = false := by rw [beq_eq_false_iff_ne]; exact hPlus
  have gPlus : ¬ s = [43] := hPlus
  have eMinus : (s == [45]) = false := by rw [beq_eq_false_iff_ne]; exact hMinus
  have gMinus : ¬ s = [45] := hMinus
  rw [HP.out]
  clear HP hLit hCol hNot hNull hAnd hOr hEq hLt hPlus hMinus
  go_enter Tryz.func111, Tryz.ntmps111
  go_wp2
  go_ret
  exact ⟨rfl, rfl⟩

set_option maxRecDepth 100000 in
set_option maxHeartbeats 4000000 in
theorem reserved_any (s : List UInt8) (w : World) : Calls Tryz.prog 113 #[.string ⟨s.toArray⟩] w (RetB (reserved s) w) := by
  cases hr : reserved s
  · have hn : ¬ s ∈ words := by
      intro h
      have : reserved s = true := by unfold reserved; exact List.contains_iff_mem.2 h
      rw [this] at hr; cases hr
    have g0 : ¬ s = [65, 78, 68] := fun h => hn (by subst h; decide)
    have e0 : (s == [65, 78, 68]) = false := by rw [beq_eq_false_iff_ne]; exact g0
    have g1 : ¬ s = [79, 82] := fun h => hn (by subst h; decide)
    have e1 : (s == [79, 82]) = false := by rw [beq_eq_false_iff_ne]; exact g1
    have g2 : ¬ s = [78, 79, 84] := fun h => hn (by subst h; decide)
    have e2 : (s == [78, 79, 84]) = false := by rw [beq_eq_false_iff_ne]; exact g2
    have g3 : ¬ s = [73, 83] := fun h => hn (by subst h; decide)
    have e3 : (s == [73, 83]) = false := by rw [beq_eq_false_iff_ne]; exact g3
    have g4 : ¬ s = [78, 85, 76, 76] := fun h => hn (by subst h; decide)
    have e4 : (s == [78, 85, 76, 76]) = false := by rw [beq_eq_false_iff_ne]; exact g4
    have g5 : ¬ s = [84, 82, 85, 69] := fun h => hn (by subst h; decide)
    have e5 : (s == [84, 82, 85, 69]) = false := by rw [beq_eq_false_iff_ne]; exact g5
    have g6 : ¬ s = [70, 65, 76, 83, 69] := fun h => hn (by subst h; decide)
    have e6 : (s == [70, 65, 76, 83, 69]) = false := by rw [beq_eq_false_iff_ne]; exact g6
    have g7 : ¬ s = [67, 82, 69, 65, 84, 69] := fun h => hn (by subst h; decide)
    have e7 : (s == [67, 82, 69, 65, 84, 69]) = false := by rw [beq_eq_false_iff_ne]; exact g7
    have g8 : ¬ s = [84, 65, 66, 76, 69] := fun h => hn (by subst h; decide)
    have e8 : (s == [84, 65, 66, 76, 69]) = false := by rw [beq_eq_false_iff_ne]; exact g8
    have g9 : ¬ s = [73, 78, 84] := fun h => hn (by subst h; decide)
    have e9 : (s == [73, 78, 84]) = false := by rw [beq_eq_false_iff_ne]; exact g9
    have g10 : ¬ s = [84, 69, 88, 84] := fun h => hn (by subst h; decide)
    have e10 : (s == [84, 69, 88, 84]) = false := by rw [beq_eq_false_iff_ne]; exact g10
    have g11 : ¬ s = [66, 79, 79, 76] := fun h => hn (by subst h; decide)
    have e11 : (s == [66, 79, 79, 76]) = false := by rw [beq_eq_false_iff_ne]; exact g11
    have g12 : ¬ s = [75, 69, 89] := fun h => hn (by subst h; decide)
    have e12 : (s == [75, 69, 89]) = false := by rw [beq_eq_false_iff_ne]; exact g12
    have g13 : ¬ s = [85, 78, 73, 81, 85, 69] := fun h => hn (by subst h; decide)
    have e13 : (s == [85, 78, 73, 81, 85, 69]) = false := by rw [beq_eq_false_iff_ne]; exact g13
    have g14 : ¬ s = [82, 69, 70, 69, 82, 69, 78, 67, 69, 83] := fun h => hn (by subst h; decide)
    have e14 : (s == [82, 69, 70, 69, 82, 69, 78, 67, 69, 83]) = false := by rw [beq_eq_false_iff_ne]; exact g14
    have g15 : ¬ s = [67, 72, 69, 67, 75] := fun h => hn (by subst h; decide)
    have e15 : (s == [67, 72, 69, 67, 75]) = false := by rw [beq_eq_false_iff_ne]; exact g15
    have g16 : ¬ s = [68, 82, 79, 80] := fun h => hn (by subst h; decide)
    have e16 : (s == [68, 82, 79, 80]) = false := by rw [beq_eq_false_iff_ne]; exact g16
    have g17 : ¬ s = [73, 78, 83, 69, 82, 84] := fun h => hn (by subst h; decide)
    have e17 : (s == [73, 78, 83, 69, 82, 84]) = false := by rw [beq_eq_false_iff_ne]; exact g17
    have g18 : ¬ s = [73, 78, 84, 79] := fun h => hn (by subst h; decide)
    have e18 : (s == [73, 78, 84, 79]) = false := by rw [beq_eq_false_iff_ne]; exact g18
    have g19 : ¬ s = [86, 65, 76, 85, 69, 83] := fun h => hn (by subst h; decide)
    have e19 : (s == [86, 65, 76, 85, 69, 83]) = false := by rw [beq_eq_false_iff_ne]; exact g19
    have g20 : ¬ s = [85, 80, 68, 65, 84, 69] := fun h => hn (by subst h; decide)
    have e20 : (s == [85, 80, 68, 65, 84, 69]) = false := by rw [beq_eq_false_iff_ne]; exact g20
    have g21 : ¬ s = [83, 69, 84] := fun h => hn (by subst h; decide)
    have e21 : (s == [83, 69, 84]) = false := by rw [beq_eq_false_iff_ne]; exact g21
    have g22 : ¬ s = [87, 72, 69, 82, 69] := fun h => hn (by subst h; decide)
    have e22 : (s == [87, 72, 69, 82, 69]) = false := by rw [beq_eq_false_iff_ne]; exact g22
    have g23 : ¬ s = [68, 69, 76, 69, 84, 69] := fun h => hn (by subst h; decide)
    have e23 : (s == [68, 69, 76, 69, 84, 69]) = false := by rw [beq_eq_false_iff_ne]; exact g23
    have g24 : ¬ s = [70, 82, 79, 77] := fun h => hn (by subst h; decide)
    have e24 : (s == [70, 82, 79, 77]) = false := by rw [beq_eq_false_iff_ne]; exact g24
    have g25 : ¬ s = [83, 69, 76, 69, 67, 84] := fun h => hn (by subst h; decide)
    have e25 : (s == [83, 69, 76, 69, 67, 84]) = false := by rw [beq_eq_false_iff_ne]; exact g25
    have g26 : ¬ s = [71, 82, 65, 78, 84] := fun h => hn (by subst h; decide)
    have e26 : (s == [71, 82, 65, 78, 84]) = false := by rw [beq_eq_false_iff_ne]; exact g26
    have g27 : ¬ s = [82, 69, 65, 68] := fun h => hn (by subst h; decide)
    have e27 : (s == [82, 69, 65, 68]) = false := by rw [beq_eq_false_iff_ne]; exact g27
    have g28 : ¬ s = [87, 82, 73, 84, 69] := fun h => hn (by subst h; decide)
    have e28 : (s == [87, 82, 73, 84, 69]) = false := by rw [beq_eq_false_iff_ne]; exact g28
    have g29 : ¬ s = [79, 78] := fun h => hn (by subst h; decide)
    have e29 : (s == [79, 78]) = false := by rw [beq_eq_false_iff_ne]; exact g29
    have g30 : ¬ s = [84, 79] := fun h => hn (by subst h; decide)
    have e30 : (s == [84, 79]) = false := by rw [beq_eq_false_iff_ne]; exact g30
    have g31 : ¬ s = [82, 69, 86, 79, 75, 69] := fun h => hn (by subst h; decide)
    have e31 : (s == [82, 69, 86, 79, 75, 69]) = false := by rw [beq_eq_false_iff_ne]; exact g31
    have g32 : ¬ s = [77, 73, 71, 82, 65, 84, 69] := fun h => hn (by subst h; decide)
    have e32 : (s == [77, 73, 71, 82, 65, 84, 69]) = false := by rw [beq_eq_false_iff_ne]; exact g32
    have g33 : ¬ s = [67, 79, 80, 89] := fun h => hn (by subst h; decide)
    have e33 : (s == [67, 79, 80, 89]) = false := by rw [beq_eq_false_iff_ne]; exact g33
    have g34 : ¬ s = [74, 79, 73, 78] := fun h => hn (by subst h; decide)
    have e34 : (s == [74, 79, 73, 78]) = false := by rw [beq_eq_false_iff_ne]; exact g34
    have g35 : ¬ s = [71, 82, 79, 85, 80] := fun h => hn (by subst h; decide)
    have e35 : (s == [71, 82, 79, 85, 80]) = false := by rw [beq_eq_false_iff_ne]; exact g35
    have g36 : ¬ s = [66, 89] := fun h => hn (by subst h; decide)
    have e36 : (s == [66, 89]) = false := by rw [beq_eq_false_iff_ne]; exact g36
    have g37 : ¬ s = [83, 85, 77] := fun h => hn (by subst h; decide)
    have e37 : (s == [83, 85, 77]) = false := by rw [beq_eq_false_iff_ne]; exact g37
    clear hn hr
    go_enter Tryz.func113, Tryz.ntmps113
    go_wp2
    go_ret
    exact ⟨rfl, rfl⟩
  · have hm : s ∈ words := by unfold reserved at hr; exact List.contains_iff_mem.1 hr
    simp only [words, List.mem_cons, List.not_mem_nil, or_false] at hm
    clear hr
    rcases hm with rfl | rfl | rfl | rfl | rfl | rfl | rfl | rfl | rfl | rfl | rfl | rfl | rfl | rfl | rfl | rfl | rfl | rfl | rfl | rfl | rfl | rfl | rfl | rfl | rfl | rfl | rfl | rfl | rfl | rfl | rfl | rfl | rfl | rfl | rfl | rfl | rfl | rfl
    all_goals
      go_enter Tryz.func113, Tryz.ntmps113
      go_wp2
      go_ret
      exact ⟨rfl, rfl⟩

end Go.Proofs.YtdhjogmkhbpcgaaGreat
