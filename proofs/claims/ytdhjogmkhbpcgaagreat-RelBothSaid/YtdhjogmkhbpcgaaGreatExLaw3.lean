/- Plain laws on expressions: what they may be, come to, and are of, without a measure of their height. No program in sight. -/
import Derived.Test.YtdhjogmkhbpcgaaGreatExLaw2
namespace Go.Proofs.YtdhjogmkhbpcgaaGreat
open Go.RowKit

theorem mayFold_congr {f g : Nat → Ex → Bool × Nat} : ∀ (l : List Ex) (c : Nat), (∀ x ∈ l, ∀ c, f c x = g c x) → mayFold f c l = mayFold g c l
  | [], _, _ => rfl
  | x :: r, c, h => by
    unfold mayFold
    rw [h x (by simp) c, mayFold_congr r _ (fun y hy => h y (by simp [hy]))]
theorem mayE_fuel : ∀ (n m d c : Nat) (e : Ex), 13 ≤ n + d → 13 ≤ m + d → mayE n d c e = mayE m d c e := by
  intro n
  induction n with
  | zero =>
    intro m d c e h1 h2
    unfold mayE
    simp [show 12 < d by omega]
  | succ n ih =>
    intro m d c e h1 h2
    by_cases hd : 12 < d
    · unfold mayE
      simp [hd]
    · cases m with
      | zero => omega
      | succ m =>
        unfold mayE
        simp only [mayFold_congr e.l (c + 1) (fun x _ c' => ih m (d + 1) c' x (by omega) (by omega))]
theorem mayE_up : ∀ (n d c : Nat) (e : Ex), Hgt n e.l → mayE (n + 1) d c e = mayE n d c e := by
  intro n
  induction n with
  | zero =>
    intro d c e h
    have hl : e.l = [] := h
    unfold mayE
    rw [hl]
    rfl
  | succ n ih =>
    intro d c e h
    unfold mayE
    simp only [mayFold_congr e.l (c + 1) (fun x hx c' => ih (d + 1) c' x (h x hx))]
theorem Hgt.upTo {n : Nat} {l : List Ex} (h : Hgt n l) : ∀ m, n ≤ m → Hgt m l
  | 0, hm => by
    have : n = 0 := by omega
    subst this; exact h
  | m + 1, hm => by
    by_cases he : n = m + 1
    · subst he; exact h
    · exact (h.upTo m (by omega)).up m
theorem mayE_ups (d c : Nat) (e : Ex) (n : Nat) (h : Hgt n e.l) : ∀ m, n ≤ m → mayE m d c e = mayE n d c e
  | 0, hm => by
    have : n = 0 := by omega
    subst this; rfl
  | m + 1, hm => by
    by_cases he : n = m + 1
    · subst he; rfl
    · rw [mayE_up m d c e (h.upTo m (by omega)), mayE_ups d c e n h m (by omega)]
def mayX (e : Ex) : Bool := may 12 e
theorem may_X (n : Nat) (e : Ex) (h : Hgt n e.l) : may n e = mayX e := by
  unfold may mayX may
  rw [← mayE_ups 1 0 e n h (max n 12) (Nat.le_max_left _ _), mayE_fuel (max n 12) 12 1 0 e (by omega) (by omega)]
theorem mayE_hgt : ∀ (n d c : Nat) (e : Ex), 13 ≤ n + d → 1 ≤ d → (mayE n d c e).1 = true → d ≤ 12 ∧ Hgt (12 - d) e.l := by
  intro n
  induction n with
  | zero =>
    intro d c e h1 h2 h
    unfold mayE at h
    simp [show 12 < d by omega] at h
  | succ n ih =>
    intro d c e h1 h2 h
    unfold mayE at h
    split at h
    · cases h
    · rename_i h0
      simp only [Bool.or_eq_true, Bool.not_eq_true', decide_eq_true_eq, decide_eq_false_iff_not, not_or, Decidable.not_not] at h0
      refine ⟨by omega, ?_⟩
      have hn : ∀ op : List UInt8, partsF op = 0 → e.op = op → Hgt (12 - d) e.l := fun op hp he => by
        have : e.l.length = 0 := by rw [he] at h0; omega
        rw [List.eq_nil_of_length_eq_zero this]
        exact Hgt.nil _
      split at h
      · rename_i hL; exact hn opLit (by decide) hL
      · split at h
        · rename_i hC; exact hn opCol (by decide) hC
        · split at h
          · cases h
          · cases hk : 12 - d with
            | zero =>
              have hd : d = 12 := by omega
              show e.l = []
              cases hl : e.l with
              | nil => rfl
              | cons x r =>
                obtain ⟨c', hc⟩ := fold_all _ _ _ h x (by rw [hl]; simp)
                have := (ih _ _ x (by omega) (by omega) hc).1
                omega
            | succ k =>
              intro x hx
              obtain ⟨c', hc⟩ := fold_all _ _ _ h x hx
              have := (ih _ _ x (by omega) (by omega) hc).2
              rw [show 12 - (d + 1) = k by omega] at this
              exact this
theorem mayX_hgt {e : Ex} (h : mayX e = true) : Hgt 12 e.l := ((mayE_hgt 12 1 0 e (by omega) (by omega) h).2).upTo 12 (by omega)
theorem mayX_ok {e : Ex} (h : mayX e = true) : okE 12 e := mayE_ok 12 1 0 e h
/-- What an expression comes to; NULL, if it may not be. -/
def evalX (cols : List Col) (row : List V) (e : Ex) : V := if mayX e then evalE 12 cols row e else V.zero
theorem eval_X (n : Nat) (cols : List Col) (row : List V) (e : Ex) (h : Hgt n e.l) : eval n cols row e = evalX cols row e := by
  unfold eval evalX
  rw [may_X n e h]
  cases hm : mayX e
  · rfl
  · simp only [if_true]
    rw [← evalE_ups cols row n e h (max n 12) (Nat.le_max_left _ _), ← evalE_ups cols row 12 e (mayX_hgt hm) (max n 12) (Nat.le_max_right _ _)]
theorem tyFold_congr {f g : Ex → Int × Int} : ∀ (l : List Ex) (a : List Int), (∀ x ∈ l, f x = g x) → tyFold f l a = tyFold g l a
  | [], _, _ => rfl
  | x :: r, a, h => by
    unfold tyFold
    rw [h x (by simp), tyFold_congr r _ (fun y hy => h y (by simp [hy]))]
theorem typedE_up (cols : List Col) : ∀ (n : Nat) (e : Ex), Hgt n e.l → typedE (n + 1) cols e = typedE n cols e := by
  intro n
  induction n with
  | zero =>
    intro e h
    have hl : e.l = [] := h
    unfold typedE
    rw [hl]
    rfl
  | succ n ih =>
    intro e h
    unfold typedE
    simp only [tyFold_congr e.l [] (fun x hx => ih x (h x hx))]
theorem typedE_ups (cols : List Col) (e : Ex) (n : Nat) (h : Hgt n e.l) : ∀ m, n ≤ m → typedE m cols e = typedE n cols e
  | 0, hm => by
    have : n = 0 := by omega
    subst this; rfl
  | m + 1, hm => by
    by_cases he : n = m + 1
    · subst he; rfl
    · rw [typedE_up cols m e (h.upTo m (by omega)), typedE_ups cols e n h m (by omega)]
/-- An expression's type, and the error's number. -/
def typeX (cols : List Col) (e : Ex) : Int × Int := if mayX e then typedE 12 cols e else (0, 1)
theorem type_X (n : Nat) (cols : List Col) (e : Ex) (h : Hgt n e.l) : typeF n cols e = typeX cols e := by
  unfold typeF typeX
  rw [may_X n e h]
  cases hm : mayX e
  · rfl
  · simp only [if_true]
    rw [← typedE_ups cols e n h (max n 12) (Nat.le_max_left _ _), ← typedE_ups cols e 12 (mayX_hgt hm) (max n 12) (Nat.le_max_right _ _)]

end Go.Proofs.YtdhjogmkhbpcgaaGreat
