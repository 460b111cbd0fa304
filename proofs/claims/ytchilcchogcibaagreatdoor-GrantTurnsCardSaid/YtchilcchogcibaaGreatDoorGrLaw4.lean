/- Grants, in plain words: how long the names of what is granted are. Nothing of the program stands here. -/
import Derived.Test.YtchilcchogcibaaGreatDoorSGrLaw3
namespace Go.Proofs.YtchilcchogcibaaGreatDoor
open Go.RowKit

theorem doG_short (K : Nat) (l : List Gr) (s : St) (hl : ∀ g ∈ l, g.r.length ≤ K ∧ g.t.length ≤ K) (hr : s.role.length ≤ K) (ht : s.tb.length ≤ K) : ∀ g ∈ (doG l s).1, g.r.length ≤ K ∧ g.t.length ≤ K := by
  rcases h0 : doG l s with ⟨r, n⟩
  have hc := doG_cases l s
  rw [h0] at hc
  cases hc with
  | no _ _ => intro g hg; cases hg
  | add _ _ _ _ _ =>
    intro g hg
    rcases mem_addG.1 hg with h | rfl
    · exact hl g h
    · exact ⟨hr, ht⟩
  | del _ _ _ _ =>
    intro g hg
    exact hl g (mem_delG.1 hg).1
theorem doG_len4 (l : List Gr) (s : St) : (doG l s).1.length ≤ l.length + 1 := by
  rcases h0 : doG l s with ⟨r, n⟩
  have hc := doG_cases l s
  rw [h0] at hc
  cases hc with
  | no _ _ => simp
  | add => exact addG_len l _
  | del => exact Nat.le_trans (List.length_filter_le _ _) (by omega)
theorem stG_ne {a b : St} (h : (decide (a.role = b.role) && decide (a.tb = b.tb) && (wrOp a.op == wrOp b.op)) = false) : stG a ≠ stG b := fun e => by
  unfold stG at e
  injection e with e1 e2 e3
  rw [e1, e2, e3] at h
  simp at h

end Go.Proofs.YtchilcchogcibaaGreatDoor
