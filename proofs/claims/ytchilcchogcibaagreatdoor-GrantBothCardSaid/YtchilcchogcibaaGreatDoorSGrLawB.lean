/- Grants as sets that rise. Nothing of the program stands here.. -/
import Derived.Test.YtchilcchogcibaaGreatDoorSGr1
import Derived.Test.YtchilcchogcibaaGreatDoorSOpenSt
namespace Go.Proofs.YtchilcchogcibaaGreatDoor
open Go.RowKit
theorem ris_uniq : ∀ {l l' : List Gr}, Ris l → Ris l' → (∀ x, x ∈ l ↔ x ∈ l') → l = l'
 | [], [], _, _, _ => rfl
 | [], y :: r, _, _, h => absurd ((h y).2 (by simp)) (by simp)
 | x :: r, [], _, _, h => absurd ((h x).1 (by simp)) (by simp)
 | x :: r, y :: r', h1, h2, h => by
  have a1 := (List.pairwise_cons.1 h1).1
  have a2 := (List.pairwise_cons.1 h2).1
  have e : x = y := by
   rcases List.mem_cons.1 ((h x).1 (by simp)) with e | e
   ·exact e
   ·rcases List.mem_cons.1 ((h y).2 (by simp)) with e' | e'
    ·exact e'.symm
    ·have b1 := a1 y e'
     have b2 := glt_asymm (a2 x e)
     rw [b1] at b2; cases b2
  subst e
  have n1 : x ∉ r := fun hx => by have := a1 x hx; rw [glt_self] at this; cases this
  have n2 : x ∉ r' := fun hx => by have := a2 x hx; rw [glt_self] at this; cases this
  rw [ris_uniq (List.pairwise_cons.1 h1).2 (List.pairwise_cons.1 h2).2 fun z => by
   have := h z
   simp only [List.mem_cons] at this
   constructor
   ·intro hz
    rcases this.1 (.inr hz) with e | e
    ·subst e; exact absurd hz n1
    ·exact e
   ·intro hz
    rcases this.2 (.inr hz) with e | e
    ·subst e; exact absurd hz n2
    ·exact e]
theorem mem_delG {l : List Gr} {g x : Gr} : x ∈ delG l g ↔ x ∈ l ∧ x ≠ g := by
 unfold delG
 simp [List.mem_filter]
theorem ris_delG {l : List Gr} (h : Ris l) (g : Gr) : Ris (delG l g) := h.sublist List.filter_sublist
end Go.Proofs.YtchilcchogcibaaGreatDoor
