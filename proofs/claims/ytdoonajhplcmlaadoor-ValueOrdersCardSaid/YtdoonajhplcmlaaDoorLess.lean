/- Plain law: of two texts one is less, or they are the same. No program in sight. -/
import GoSem.Op.String
namespace Go.Proofs.YtdoonajhplcmlaaDoor
open Go

theorem less_tri : ∀ (s t : List UInt8), s = t ∨ (Op.bytesLess s t = true ∧ Op.bytesLess t s = false ∧ s ≠ t) ∨ (Op.bytesLess t s = true ∧ Op.bytesLess s t = false ∧ s ≠ t)
  | [], [] => .inl rfl
  | [], y :: t => .inr (.inl ⟨rfl, rfl, by simp⟩)
  | x :: s, [] => .inr (.inr ⟨rfl, rfl, by simp⟩)
  | x :: s, y :: t => by
    rcases Nat.lt_trichotomy x.toNat y.toNat with h | h | h
    · have h1 : x < y := by rw [UInt8.lt_iff_toNat_lt]; exact h
      have h2 : ¬ y < x := by rw [UInt8.lt_iff_toNat_lt]; omega
      have h3 : ¬ y = x := by rintro rfl; omega
      have h4 : ¬ x = y := by rintro rfl; omega
      exact .inr (.inl ⟨by simp [Op.bytesLess, h1], by simp [Op.bytesLess, h2, h3], by simp [h4]⟩)
    · have hxy : x = y := UInt8.toNat_inj.1 h
      subst hxy
      have hn : ¬ x < x := by rw [UInt8.lt_iff_toNat_lt]; omega
      rcases less_tri s t with rfl | ⟨h1, h2, h3⟩ | ⟨h1, h2, h3⟩
      · exact .inl rfl
      · exact .inr (.inl ⟨by simp [Op.bytesLess, h1], by simp [Op.bytesLess, h2, hn], by simp [h3]⟩)
      · exact .inr (.inr ⟨by simp [Op.bytesLess, h1], by simp [Op.bytesLess, h2, hn], by simp [h3]⟩)
    · have h1 : y < x := by rw [UInt8.lt_iff_toNat_lt]; exact h
      have h2 : ¬ x < y := by rw [UInt8.lt_iff_toNat_lt]; omega
      have h3 : ¬ x = y := by rintro rfl; omega
      exact .inr (.inr ⟨by simp [Op.bytesLess, h1], by simp [Op.bytesLess, h2, h3], by simp [h3]⟩)


end Go.Proofs.YtdoonajhplcmlaaDoor
