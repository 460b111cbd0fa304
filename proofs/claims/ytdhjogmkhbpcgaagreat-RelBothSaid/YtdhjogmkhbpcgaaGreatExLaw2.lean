/- Plain laws on expressions: those that may be are well made; one step more of height changes nothing; what they come to is a number that fits. No program in sight. -/
import Derived.Test.YtdhjogmkhbpcgaaGreatExLaw
namespace Go.Proofs.YtdhjogmkhbpcgaaGreat
open Go.RowKit

/-- An expression whose Ops have their parts. -/
def okE : Nat → Ex → Prop
  | n, e => (e.l.length : Int) = partsF e.op ∧ (e.op = opLit ∨ e.op = opCol ∨ match n with | 0 => True | n + 1 => ∀ x ∈ e.l, okE n x)
theorem fold_all (f : Nat → Ex → Bool × Nat) : ∀ (l : List Ex) (c : Nat), (mayFold f c l).1 = true → ∀ x ∈ l, ∃ c', (f c' x).1 = true
  | [], _, _ => fun x hx => by simp at hx
  | y :: r, c, h => fun x hx => by
    unfold mayFold at h
    split at h
    · rename_i hy
      rcases List.mem_cons.1 hx with rfl | hx
      · exact ⟨c, hy⟩
      · exact fold_all f r _ h x hx
    · cases h
theorem mayE_ok : ∀ (n d c : Nat) (e : Ex), (mayE n d c e).1 = true → okE n e := by
  intro n
  induction n with
  | zero =>
    intro d c e h
    unfold mayE at h
    split at h
    · cases h
    · rename_i h1
      simp only [Bool.or_eq_true, Bool.not_eq_true', decide_eq_true_eq, decide_eq_false_iff_not, not_or, Decidable.not_not] at h1
      unfold okE
      exact ⟨h1.2, .inr (.inr trivial)⟩
  | succ n ih =>
    intro d c e h
    unfold mayE at h
    split at h
    · cases h
    · rename_i h1
      simp only [Bool.or_eq_true, Bool.not_eq_true', decide_eq_true_eq, decide_eq_false_iff_not, not_or, Decidable.not_not] at h1
      unfold okE
      refine ⟨h1.2, ?_⟩
      split at h
      · left; assumption
      · split at h
        · right; left; assumption
        · split at h
          · cases h
          · right; right
            intro x hx
            obtain ⟨c', hc⟩ := fold_all _ _ _ h x hx
            exact ih _ _ x hc
theorem evalE_up (cols : List Col) (row : List V) : ∀ (n : Nat) (e : Ex), Hgt n e.l → evalE (n + 1) cols row e = evalE n cols row e := by
  intro n
  induction n with
  | zero =>
    intro e h
    have hl : e.l = [] := h
    simp [evalE, hl]
  | succ n ih =>
    intro e h
    have hm : e.l.map (evalE (n + 1) cols row) = e.l.map (evalE n cols row) := List.map_congr_left fun x hx => ih x (h x hx)
    unfold evalE
    simp only [hm]
theorem evalE_ups (cols : List Col) (row : List V) (n : Nat) (e : Ex) (h : Hgt n e.l) : ∀ m, n ≤ m → evalE m cols row e = evalE n cols row e
  | 0, hm => by
    have : n = 0 := by omega
    subst this; rfl
  | m + 1, hm => by
    by_cases he : n = m + 1
    · subst he; rfl
    · have hk : ∀ k, n ≤ k → Hgt k e.l := fun k hk => by
        induction k with
        | zero =>
          have : n = 0 := by omega
          subst this; exact h
        | succ k ih =>
          by_cases hc : n = k + 1
          · subst hc; exact h
          · exact (ih (by omega)).up k
      rw [evalE_up cols row m e (hk m (by omega)), evalE_ups cols row n e h m (by omega)]
def fitI (i : Int) : Prop := -9223372036854775808 ≤ i ∧ i ≤ 9223372036854775807
theorem truthV_in {n : Int} (h : n = 0 ∨ n = 1 ∨ n = 2) : fitI (truthV n).i := by
  rcases h with rfl | rfl | rfl <;> simp [truthV, V.zero, fitI]
theorem bV_in (b : Bool) : fitI (bV b).i := by cases b <;> simp [bV, fitI]
theorem zero_in : fitI V.zero.i := by simp [V.zero, fitI]
theorem andN_range (x y : Int) : andN x y = 0 ∨ andN x y = 1 ∨ andN x y = 2 := by unfold andN; split <;> (try split) <;> simp
theorem orN_range (x y : Int) : orN x y = 0 ∨ orN x y = 1 ∨ orN x y = 2 := by unfold orN; split <;> (try split) <;> simp
theorem notN_range (x : Int) : notN x = 0 ∨ notN x = 1 ∨ notN x = 2 := by unfold notN; split <;> (try split) <;> simp
theorem doF_in (op : List UInt8) (a b : V) : fitI (doF op a b).i := by
  unfold doF
  split
  · exact truthV_in (andN_range _ _)
  · split
    · exact truthV_in (orN_range _ _)
    · split
      · exact truthV_in (notN_range _)
      · split
        · unfold equalV; split
          · exact bV_in _
          · exact zero_in
        · split
          · unfold lessV; split
            · exact bV_in _
            · exact zero_in
          · split
            · unfold plusV; split
              · rename_i h
                simp only [Bool.and_eq_true, fits, decide_eq_true_eq] at h
                exact h.2
              · exact zero_in
            · split
              · unfold minusV; split
                · rename_i h
                  simp only [Bool.and_eq_true, fits, decide_eq_true_eq] at h
                  exact h.2
                · exact zero_in
              · exact bV_in _
theorem evalE_in (n : Nat) (cols : List Col) (row : List V) (e : Ex) (he : fitI e.v.i) (hr : ∀ x ∈ row, fitI x.i) : fitI (evalE n cols row e).i := by
  unfold evalE
  split
  · exact he
  · split
    · split
      · exact zero_in
      · rw [List.getD_eq_getElem?_getD]
        cases hg : row[(placeF cols e.s).toNat]? with
        | none => exact zero_in
        | some x => exact hr x (List.mem_of_getElem? hg)
    · cases n with
      | zero => exact doF_in _ _ _
      | succ n => exact doF_in _ _ _

end Go.Proofs.YtdhjogmkhbpcgaaGreat
