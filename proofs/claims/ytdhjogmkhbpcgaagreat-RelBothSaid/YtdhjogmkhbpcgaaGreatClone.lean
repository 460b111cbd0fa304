/- slices.Clone at values. Condition: a slice that reads as a list, no longer than a million. -/
import Derived.Test.YtdhjogmkhbpcgaaGreatFewsM
import Derived.Test.YtdhjogmkhbpcgaaGreatAppend
import Derived.Lib.SliceRun
namespace Go.Proofs.YtdhjogmkhbpcgaaGreat
open Go.RowKit

attribute [local go_sem] ByteArray.extract_mk ba_get
theorem run_nil_V (A : Option Addr) (n c : Nat) (w : World) : (binOp .eql 43 (.slice A n c) (.slice none 0 0)).run Tryz.prog w = .ok (.bool A.isNone) w := Lib.run_eql_slice_nil w _ _ A n c 0 0 Tryz.underlying43
attribute [local go_sem ↓] Go.wp_at_zero Go.wp_at_succ run_eql_V run_neq_V run_nil_V

set_option maxHeartbeats 1000000 in
theorem clone_any (A : Option Addr) (c : Nat) (l : List V) (w : World) (hl : l.length ≤ 1000000) (h : VS w w.heap.size A l) :
    Calls Tryz.prog 25 #[.slice A l.length c] w (RetVS l w) := by
  obtain ⟨i0, hi0, zi0, zi1, zi2⟩ := info_parts infoV
  rcases A with _ | a
  · have e : l = [] := by
      cases l with
      | nil => rfl
      | cons x r => obtain ⟨b, off, he, _⟩ := h (by simp); cases he
    subst e
    go_enter Tryz.func25, Tryz.ntmps25
    go_wp2
    go_ret
    exact ⟨none, 0, rfl, Nat.le_refl _, Nat.zero_le _, fun hl => absurd hl (by simp), Below.refl _ _⟩
  · have hown0 : (w.alloc (.cells #[] 26)).ownsRow w.heap.size 26 3 (.slice (some ⟨w.heap.size, 0, none⟩) 0 0) 0 [] := World.ownsRow_made w #[] 0 (Nat.le_refl _) (Nat.zero_le _) rfl
    have hba : Below w.heap.size w (w.alloc (.cells #[] 26)) := (Below.refl _ _).alloc (Nat.le_refl _) _
    have hva := ((h.below hba).reads)
    go_enter Tryz.func25, Tryz.ntmps25
    go_wp2_with (at_builtin; refine wpList_append_any _ rfl (.tmp 5) (.tmp 6) 43 rfl w.heap.size 26 i0 _ 3 32 Tryz.underlying43 hi0 zi0 zi1 zi2 rfl (by decide) _ _ _ rfl hown0 w.heap.size (some a) l.length c _ rfl hva (cells_one l) ?c1 ?c2 ?c3 ?_)
    case c1 => unfold maxLen; omega
    case c2 => omega
    case c3 => simp
    intro v5 w5 hown5 hg5 hat5
    have hb5 : Below w.heap.size w w5 := hba.grown hg5 (by simp) (by simp [Value.ownBlock])
    obtain ⟨A5, c5, rfl, hc5, hm5, hv5⟩ := VS.own (l := l) hown5
    go_wp2
    go_ret
    exact ⟨A5, c5, rfl, hc5, hm5, hv5, hb5⟩

end Go.Proofs.YtdhjogmkhbpcgaaGreat
