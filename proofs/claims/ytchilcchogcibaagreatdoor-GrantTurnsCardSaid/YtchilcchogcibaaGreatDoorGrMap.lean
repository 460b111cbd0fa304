/- The map that GrantTurns asks which Op is about writing: made, entered twice, asked. Condition: the map lies in its block. -/
import Derived.Test.YtchilcchogcibaaGreatDoorSGr9
import Derived.ChangeMaps4
namespace Go.Proofs.YtchilcchogcibaaGreatDoor
open Go.RowKit Go.ChangeMaps Go.MapKept

theorem updR {w : World} {b : Nat} {es : Array MapEntry} {clock : Nat} (s : List UInt8) (h : w.heap[b]? = some (.map es clock)) (hf : Instr.findNow .string (.string ⟨s.toArray⟩) es.toList 0 = some none) :
    ∃ w' : World, (Instr.mapUpdate 50 (.map (some b)) (.string ⟨s.toArray⟩) (.bool true)).run Tryz.prog w = .ok () w' ∧ w'.heap[b]? = some (.map (es.push ⟨.string ⟨s.toArray⟩, .bool true, clock⟩) (clock + 1)) ∧ w.grownBy w' (some b) := by
  have hlt : b < w.heap.size := (Array.getElem?_eq_some_iff.1 h).1
  have hc : (Instr.checkKey false 10000 9 (.string ⟨s.toArray⟩)).run Tryz.prog w = .ok () w := MapKept.run_checkKey (k := .string ⟨s.toArray⟩) Tryz.underlying9 (by simp [MapKept.IsKey]) false 9999
  refine ⟨setBlock w b (.map (es.push ⟨.string ⟨s.toArray⟩, .bool true, clock⟩) (clock + 1)), ?_, by simp [setBlock, hlt], ⟨rfl, rfl, rfl, by simp [setBlock], fun k _ hne => ?_⟩⟩
  · simp [Instr.mapUpdate, run_underlying Tryz.underlying50, MapKept.run_getObj_map h, hc, MapKept.run_findKey Tryz.underlying9 hf, MapKept.run_setObj_map _ h, Result.andThen, setBlock]
  · have : k ≠ b := fun e => hne (by rw [e])
    simp [setBlock, Ne.symm this]
def rightE : Array MapEntry := #[]
  |>.push ⟨.string ⟨oWrite.toArray⟩, .bool true, 0⟩
  |>.push ⟨.string ⟨oUnwrite.toArray⟩, .bool true, 1⟩
theorem findR (op : List UInt8) : ∃ r, Instr.findNow .string (.string ⟨op.toArray⟩) rightE.toList 0 = some r ∧ (if wrOp op then ∃ j, r = some (j, .bool true) else r = none) := by
  by_cases h1 : op = oWrite
  · subst h1
    exact ⟨some (0, .bool true), by kernel_rfl, by rw [if_pos (by decide)]; exact ⟨0, rfl⟩⟩
  by_cases h2 : op = oUnwrite
  · subst h2
    exact ⟨some (1, .bool true), by kernel_rfl, by rw [if_pos (by decide)]; exact ⟨1, rfl⟩⟩
  have hw : wrOp op = false := by unfold wrOp; simp [h1, h2]
  have hk : IsKey .string (.string ⟨op.toArray⟩) := by simp [IsKey]
  have hks : ∀ x ∈ rightE.toList, IsKey .string x.key := fun x hx => by
    simp only [rightE, Array.toList_push, List.mem_append, List.mem_singleton] at hx
    rcases hx with (hx | rfl) | rfl
    · cases hx
    · simp [IsKey]
    · simp [IsKey]
  rcases findNow_spec hk rightE.toList 0 hks with ⟨h, _⟩ | ⟨j, e, h, hj, he⟩
  · exact ⟨none, h, by rw [hw]; rfl⟩
  · exfalso
    have hm := List.mem_of_getElem? hj
    simp only [rightE, Array.toList_push, List.mem_append, List.mem_singleton] at hm
    rcases hm with (hm | rfl) | rfl
    · cases hm
    · injection he with he
      injection he with he
      exact h1 (by simpa using he.symm)
    · injection he with he
      injection he with he
      exact h2 (by simpa using he.symm)
theorem lookR {w : World} {b : Nat} (op : List UInt8) (h : w.heap[b]? = some (.map rightE 2)) :
    (Instr.lookup 50 (.map (some b)) (.string ⟨op.toArray⟩) false).run Tryz.prog w = .ok (.bool (wrOp op)) w := by
  have hc : ∀ e, (Instr.checkKey e 10000 9 (.string ⟨op.toArray⟩)).run Tryz.prog w = .ok () w := fun e => MapKept.run_checkKey (k := .string ⟨op.toArray⟩) Tryz.underlying9 (by simp [MapKept.IsKey]) e 9999
  obtain ⟨r, hf, hr⟩ := findR op
  cases hq : wrOp op
  · rw [hq] at hr
    have hr : r = none := hr
    subst hr
    simp [Instr.lookup, run_underlying Tryz.underlying50, MapKept.run_getObj_map h, hc, MapKept.run_findKey Tryz.underlying9 hf, Result.andThen]
  · rw [hq] at hr
    obtain ⟨j, rfl⟩ := hr
    simp [Instr.lookup, run_underlying Tryz.underlying50, MapKept.run_getObj_map h, hc, MapKept.run_findKey Tryz.underlying9 hf, Result.andThen]
/-- The map is made. -/
theorem rightM (w : World) : ∃ w1 w2 : World, (Instr.makeMap 50 none).run Tryz.prog w = .ok (.map (some w.heap.size)) (w.alloc (.map #[] 0)) ∧
    (Instr.mapUpdate 50 (.map (some w.heap.size)) (.string ⟨oWrite.toArray⟩) (.bool true)).run Tryz.prog (w.alloc (.map #[] 0)) = .ok () w1 ∧
    (Instr.mapUpdate 50 (.map (some w.heap.size)) (.string ⟨oUnwrite.toArray⟩) (.bool true)).run Tryz.prog w1 = .ok () w2 ∧ w2.heap[w.heap.size]? = some (.map rightE 2) ∧ Below w.heap.size w w2 := by
  have h0 : (w.alloc (.map #[] 0)).heap[w.heap.size]? = some (.map #[] 0) := heap_alloc_new w _
  have g0 : Below w.heap.size w (w.alloc (.map #[] 0)) := (Below.refl _ _).alloc (Nat.le_refl _) _
  obtain ⟨w1, m1, h1, y1⟩ := updR oWrite h0 (by kernel_rfl)
  have g1 := g0.grown y1 g0.size (fun k hk => by cases hk; exact Nat.le_refl _)
  obtain ⟨w2, m2, h2, y2⟩ := updR oUnwrite h1 (by kernel_rfl)
  have g2 := g1.grown y2 g1.size (fun k hk => by cases hk; exact Nat.le_refl _)
  exact ⟨w1, w2, run_makeMap_plain w _, m1, m2, h2, g2⟩

end Go.Proofs.YtchilcchogcibaaGreatDoor
