/- Plain laws: what a cut answers. No program in sight. -/
import Derived.Test.YtelkcfkmejcjaaaDoorCutLaw
import Derived.Test.YtelkcfkmejcjaaaDoorLex4
namespace Go.Proofs.YtelkcfkmejcjaaaDoor
open Go.RowKit

theorem cutT_some {s : List UInt8} {a : List Tok} (h : cutT s = some a) : toks s = some a ∧ a.length ≤ 400 := by
  rw [cutT_toks] at h
  unfold lim at h
  cases ht : toks s with
  | none => rw [ht] at h; cases h
  | some t =>
    rw [ht] at h
    simp only [Option.bind_some] at h
    split at h
    · cases h; exact ⟨rfl, by assumption⟩
    · cases h
theorem cutRes_ok {o : Option (List Tok)} (h : (cutRes o).2 = 0) : o = some (cutRes o).1 := by
  cases o with
  | none => cases h
  | some l => rfl
theorem cutRes_len (s : List UInt8) : (cutRes (cutT s)).1.length ≤ 400 := by
  cases h : cutT s with
  | none => simp [cutRes]
  | some l => exact (cutT_some h).2

end Go.Proofs.YtelkcfkmejcjaaaDoor
