/- A drawn region some of whose operations change memory and may come up in many orders: one relation on what is listed carries them all. No program in sight. -/
import Derived.Deep.RegionHeld3
namespace Go.Proofs.YtdoonajhplcmlaaDoor
open Go

section
variable {P : Program} {ops : Array Oper} {Q : Exit → Act → World → Prop} {md : Region.Mode} {S : World → Prop}

theorem getD_self {L : Array Bool} {i : Nat} (h : L.getD i true = false) : i < L.size := by
  rcases Nat.lt_or_ge i L.size with h1 | h1
  · exact h1
  · simp [Array.getD, Nat.not_lt.2 h1] at h

theorem getD_put_same {L : Array Bool} {i : Nat} (d : Bool) (h : i < L.size) : (L.setIfInBounds i true).getD i d = true := by
  simp [Array.getD, h]
theorem getD_put_other {L : Array Bool} {i j : Nat} (d : Bool) (h : i ≠ j) : (L.setIfInBounds i true).getD j d = L.getD j d := by
  simp only [Array.getD, Array.size_setIfInBounds]
  split
  · exact Array.getElem_setIfInBounds_ne _ h
  · rfl

/-- How many of 'ks' have not come up. -/
def todo (ks : List Nat) (L : Array Bool) : Nat := (ks.filter fun j => !L.getD j true).length

theorem todo_put : ∀ (ks : List Nat) (L : Array Bool) (i : Nat), ks.Nodup → i ∈ ks → L.getD i true = false → todo ks (L.setIfInBounds i true) + 1 = todo ks L
  | [], _, _, _, h, _ => by cases h
  | k :: r, L, i, hn, hm, hi => by
    have hn' := List.nodup_cons.1 hn
    unfold todo
    by_cases hk : i = k
    · subst hk
      have h1 : (L.setIfInBounds i true).getD i true = true := getD_put_same true (getD_self hi)
      have h2 : (r.filter fun j => !(L.setIfInBounds i true).getD j true) = r.filter fun j => !L.getD j true := by
        apply List.filter_congr
        intro j hj
        rw [getD_put_other true (fun e : i = j => hn'.1 (by rw [e]; exact hj))]
      rw [List.filter_cons, List.filter_cons, h1, hi, h2]
      simp
    · have hm' : i ∈ r := by
        rcases List.mem_cons.1 hm with h | h
        · exact absurd h hk
        · exact h
      have ih := todo_put r L i hn'.2 hm' hi
      unfold todo at ih
      rw [List.filter_cons, List.filter_cons, getD_put_other true hk]
      cases L.getD k true
      · simp only [Bool.not_false, if_true, List.length_cons]; omega
      · simp only [Bool.not_true, Bool.false_eq_true, if_false]; omega

/-- The operations 'ks' in whatever order, under the relation I; behind them all, the rest. -/
theorem wpAnyH_stage {ks : List Nat} {f0 : Nat} (hn : ks.Nodup) (I : Array Bool → Act → World → Prop)
    (hstep : ∀ L a w i, I L a w → (∃ j ∈ ks, L.getD j true = false) → i ∈ Region.ready md ops L → i ∈ ks ∧ wpOp P ops Q i (fun a' w' => S w' ∧ I (L.setIfInBounds i true) a' w') a w)
    (hsome : ∀ L a w, I L a w → (∃ j ∈ ks, L.getD j true = false) → Region.ready md ops L ≠ [])
    (hfin : ∀ L a w, I L a w → (∀ j ∈ ks, L.getD j true = true) → wpAnyH P md ops Q S f0 L a w) :
    ∀ (n : Nat) (L : Array Bool) (a : Act) (w : World), todo ks L = n → I L a w → wpAnyH P md ops Q S (n + f0) L a w := by
  intro n
  induction n with
  | zero =>
    intro L a w hz hI
    rw [Nat.zero_add]
    refine hfin L a w hI (fun j hj => ?_)
    unfold todo at hz
    have := List.filter_eq_nil_iff.1 (List.eq_nil_of_length_eq_zero hz) j hj
    simpa using this
  | succ n ih =>
    intro L a w hz hI
    have hex : ∃ j ∈ ks, L.getD j true = false := by
      unfold todo at hz
      cases hf : ks.filter fun j => !L.getD j true with
      | nil => rw [hf] at hz; cases hz
      | cons j r =>
        have : j ∈ ks.filter fun j => !L.getD j true := by rw [hf]; simp
        rw [List.mem_filter] at this
        exact ⟨j, this.1, by simpa using this.2⟩
    rw [show n + 1 + f0 = (n + f0) + 1 by omega]
    refine ⟨fun h => absurd h (hsome L a w hI hex), fun i hi => ?_⟩
    obtain ⟨hm, hw⟩ := hstep L a w i hI hex hi
    refine wpOp_mono (fun a' w' h => ⟨h.1, ih _ a' w' ?_ h.2⟩) hw
    have := todo_put ks L i hn hm (mem_ready.1 hi).1
    omega

/-- One operation, handed over as the walk's steps want it. -/
theorem wpOp_one {i : Nat} {o : Oper} {a : Act} {w : World} {K : Act → World → Prop} (ho : ops[i]? = some o)
    (h : ∀ K' : Act → World → Prop, Shut (∀ a w, K a w → K' a w) → if Region.wanted o (yielded ops a.tmps) = true then Oper.wp P o a w K' Q else K' (a.put o.dst undef) w) : wpOp P ops Q i K a w :=
  wpOp_step ho (fun K' hK => h K' (fun a w hk => hK a w hk))
end

end Go.Proofs.YtdoonajhplcmlaaDoor
