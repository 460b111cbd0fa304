/- Words for a drawn region of calls and new variables: what each slot holds once its operation has come up. -/
import Derived.Test.YtdoonajhplcmlaaDoorStage
import Derived.Test.YtdoonajhplcmlaaDoorVal
namespace Go.Proofs.YtdoonajhplcmlaaDoor
open Go.RowKit

/-- Operation i has come up. -/
def Up (L : Array Bool) (i : Nat) : Prop := L.getD i true = true
instance (L : Array Bool) (i : Nat) : Decidable (Up L i) := inferInstanceAs (Decidable (_ = _))
def Slot (L : Array Bool) (i : Nat) (u v : Value) : Prop := Up L i → u = v
/-- The slot of a new variable. -/
def Newv (L : Array Bool) (i : Nat) (B : Nat) (w : World) (u : Value) : Prop := Up L i → ∃ g, u = .pointer (some ⟨g, 0, none⟩) ∧ B ≤ g ∧ Blk w g 23 #[.int .i64 0, .int .i64 0, .string ⟨#[]⟩]
def Diff (L : Array Bool) (i j : Nat) (u v : Value) : Prop := Up L i → Up L j → u ≠ v
theorem Up.put {L : Array Bool} {i j : Nat} (h : Up (L.setIfInBounds i true) j) (hne : i ≠ j) : Up L j := by unfold Up at *; rwa [getD_put_other true hne] at h
theorem Up.more {L : Array Bool} {i j : Nat} (h : Up L j) : Up (L.setIfInBounds i true) j := by
  unfold Up at *
  by_cases e : i = j
  · subst e
    by_cases hlt : i < L.size
    · exact getD_put_same true hlt
    · simp [Array.getD, hlt]
  · rw [getD_put_other true e]; exact h
theorem up_of {L : Array Bool} {i : Nat} (h : L.getD i false = true) : Up L i := by
  unfold Up
  by_cases hlt : i < L.size
  · simp [Array.getD, hlt] at h ⊢; exact h
  · simp [Array.getD, hlt] at h
theorem getF {L : Array Bool} {i : Nat} (h : Up L i) (hi : i < L.size) : L.getD i false = true := by
  unfold Up at h
  simp [Array.getD, hi] at h ⊢; exact h
theorem ready_some {md : Region.Mode} {ops : Array Oper} {L : Array Bool} (i : Nat) {o : Oper} (hn : L.getD i true = false) (ho : ops[i]? = some o) (h : ∀ e ∈ o.after, Region.binds md e = true → L.getD e.on false = true) : Region.ready md ops L ≠ [] :=
  List.ne_nil_of_mem (mem_ready.2 ⟨hn, o, ho, h⟩)
theorem not_up {L : Array Bool} {i : Nat} (h : L.getD i true = false) (h2 : Up L i) : False := by unfold Up at h2; rw [h] at h2; cases h2
theorem Slot.put {L : Array Bool} {i j : Nat} {u v : Value} (h : Slot L j u v) (hne : i ≠ j) : Slot (L.setIfInBounds i true) j u v := fun hu => h (hu.put hne)
theorem Slot.new {L : Array Bool} {i : Nat} {v : Value} : Slot L i v v := fun _ => rfl
theorem Newv.put {L : Array Bool} {i j B : Nat} {w w' : World} {u : Value} (h : Newv L j B w u) (hne : i ≠ j) (hb : Below w.heap.size w w') : Newv (L.setIfInBounds i true) j B w' u := fun hu => by
  obtain ⟨g, e, h1, h2⟩ := h (hu.put hne)
  exact ⟨g, e, h1, h2.below hb h2.lt⟩
theorem Newv.new {L : Array Bool} {i B : Nat} {w : World} (hB : B ≤ w.heap.size) : Newv L i B (w.alloc (.cells #[.int .i64 0, .int .i64 0, .string ⟨#[]⟩] 23)) (.pointer (some ⟨w.heap.size, 0, none⟩)) :=
  fun _ => ⟨_, rfl, hB, Blk.new w _ _⟩
theorem Diff.put {L : Array Bool} {i j k : Nat} {u v : Value} (h : Diff L j k u v) (h1 : i ≠ j) (h2 : i ≠ k) : Diff (L.setIfInBounds i true) j k u v := fun a b => h (a.put h1) (b.put h2)
theorem Diff.newL {L : Array Bool} {i k B : Nat} {w : World} {v : Value} (h : Newv L k B w v) (hne : i ≠ k) : Diff (L.setIfInBounds i true) i k (.pointer (some ⟨w.heap.size, 0, none⟩)) v := fun _ b e => by
  obtain ⟨g, rfl, _, h2⟩ := h (b.put hne)
  have := h2.lt
  injection e with e
  injection e with e
  injection e with e
  omega
theorem Diff.newR {L : Array Bool} {i k B : Nat} {w : World} {v : Value} (h : Newv L k B w v) (hne : i ≠ k) : Diff (L.setIfInBounds i true) k i v (.pointer (some ⟨w.heap.size, 0, none⟩)) := fun b _ e => by
  obtain ⟨g, rfl, _, h2⟩ := h (b.put hne)
  have := h2.lt
  injection e with e
  injection e with e
  injection e with e
  omega

end Go.Proofs.YtdoonajhplcmlaaDoor
