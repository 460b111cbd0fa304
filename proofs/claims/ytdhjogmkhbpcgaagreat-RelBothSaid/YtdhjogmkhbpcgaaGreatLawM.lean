/- Plain law: what is well typed comes to a value of its type, or NULL, over a row of the columns' types. No program in sight. Plain laws: rows over which conditions are TRUE. No program in sight. -/
import Derived.Test.YtdhjogmkhbpcgaaGreatExLaw3
import Derived.Test.YtdhjogmkhbpcgaaGreatExprLaw4
import Derived.Test.YtdhjogmkhbpcgaaGreatWhere
import Derived.Test.YtdhjogmkhbpcgaaGreatSameM
import Derived.Test.YtdhjogmkhbpcgaaGreatRef1M
namespace Go.Proofs.YtdhjogmkhbpcgaaGreat
open Go.RowKit

/-- A value that may be, of a type, or NULL. -/
def okV (t : Int) (v : V) : Prop := mayB v.k v.i v.s = true ∧ (v.k = 0 ∨ v.k = t)
/-- Each value of a row may be, and is of its column's type, or NULL. -/
def rowFits (cols : List Col) (row : List V) : Prop := ∀ (i : Nat) (c : Col) (v : V), cols[i]? = some c → row[i]? = some v → okV c.t v
theorem okV_zero (t : Int) : okV t V.zero := ⟨rfl, Or.inl rfl⟩
theorem truthV_ok {n : Int} (h : n = 0 ∨ n = 1 ∨ n = 2) : okV 3 (truthV n) := by
  rcases h with rfl | rfl | rfl
  · exact ⟨rfl, Or.inl rfl⟩
  · exact ⟨rfl, Or.inr rfl⟩
  · exact ⟨rfl, Or.inr rfl⟩
theorem bV_ok (b : Bool) : okV 3 (bV b) := by
  cases b
  · exact ⟨rfl, Or.inr rfl⟩
  · exact ⟨rfl, Or.inr rfl⟩
theorem numV_ok (b : Bool) (n : Int) : okV 1 (if b then ⟨1, n, []⟩ else V.zero) := by
  cases b
  · exact okV_zero 1
  · exact ⟨rfl, Or.inr rfl⟩
def opT (op : List UInt8) : Int := if op = opPlus ∨ op = opMinus then 1 else 3
theorem doF_ok (op : List UInt8) (a b : V) : okV (opT op) (doF op a b) := by
  unfold doF
  split
  · rename_i h; subst h; exact truthV_ok (andN_range _ _)
  · split
    · rename_i h; subst h; exact truthV_ok (orN_range _ _)
    · split
      · rename_i h; subst h; exact truthV_ok (notN_range _)
      · split
        · rename_i h; subst h
          show okV 3 (if alikeB a b then bV (veq a b) else V.zero)
          split
          · exact bV_ok _
          · exact okV_zero 3
        · split
          · rename_i h; subst h
            show okV 3 (if alikeB a b then bV _ else V.zero)
            split
            · exact bV_ok _
            · exact okV_zero 3
          · split
            · rename_i h; subst h; exact numV_ok _ _
            · split
              · rename_i h; subst h; exact numV_ok _ _
              · rename_i h1 h2
                unfold opT
                rw [if_neg (by simp [h1, h2])]
                exact bV_ok _
theorem tyOp_op {cols : List Col} {e : Ex} {l : List Int} {t : Int} (hL : ¬ e.op = opLit) (hC : ¬ e.op = opCol) (h : tyOp cols e l = (t, 0)) : t = opT e.op := by
  unfold tyOp at h
  rw [if_neg hL, if_neg hC] at h
  unfold opT
  split at h
  · rename_i h1
    split at h
    · rw [if_neg (by rcases h1 with h1 | h1 | h1 <;> rw [h1] <;> decide)]
      exact (Prod.mk.inj h).1.symm
    · simp at h
  · split at h
    · rename_i h1
      split at h
      · rw [if_neg (by rcases h1 with h1 | h1 <;> rw [h1] <;> decide)]
        exact (Prod.mk.inj h).1.symm
      · simp at h
    · split at h
      · rename_i h1
        rw [if_pos h1]
        split at h
        · exact (Prod.mk.inj h).1.symm
        · simp at h
      · rename_i h1
        rw [if_neg h1]
        exact (Prod.mk.inj h).1.symm
theorem placeFrom_at (s : List UInt8) : ∀ (l : List Col) (n : Nat), placeFrom s l n < 0 ∨ ∃ j : Nat, placeFrom s l n = (n + j : Nat) ∧ j < l.length
  | [], _ => Or.inl (by unfold placeFrom; omega)
  | c :: r, n => by
    unfold placeFrom
    split
    · exact Or.inr ⟨0, rfl, by simp⟩
    · rcases placeFrom_at s r (n + 1) with h | ⟨j, h, hj⟩
      · exact Or.inl h
      · refine Or.inr ⟨j + 1, ?_, by simp; omega⟩
        rw [h]
        congr 1
        omega
theorem typed_ok (cols : List Col) (row : List V) (hr : rowFits cols row) : ∀ (n d c : Nat) (e : Ex) (t : Int), (mayE n d c e).1 = true → typedE n cols e = (t, 0) → okV t (evalE n cols row e) := by
  intro n d c e t hm ht
  have hty : ∃ l, tyOp cols e l = (t, 0) ∧ (e.op = opLit ∨ e.op = opCol ∨ True) := by
    unfold typedE at ht
    cases n with
    | zero => exact ⟨_, ht, Or.inr (Or.inr trivial)⟩
    | succ n =>
      simp only at ht
      split at ht
      · exact ⟨_, ht, Or.inr (Or.inr trivial)⟩
      · rename_i h
        exact absurd (Prod.mk.inj ht).2 h
  obtain ⟨l, hty, _⟩ := hty
  unfold mayE at hm
  split at hm
  · cases hm
  by_cases hL : e.op = opLit
  · rw [if_pos hL] at hm
    simp only [Bool.and_eq_true, decide_eq_true_eq] at hm
    unfold tyOp at hty
    rw [if_pos hL] at hty
    unfold evalE
    rw [if_pos hL]
    exact ⟨hm.2, Or.inr (Prod.mk.inj hty).1⟩
  by_cases hC : e.op = opCol
  · unfold tyOp at hty
    rw [if_neg hL, if_pos hC] at hty
    unfold evalE
    rw [if_neg hL, if_pos hC]
    split at hty
    · simp at hty
    rename_i hp
    rw [if_neg hp]
    rcases placeFrom_at e.s cols 0 with h | ⟨j, h, hj⟩
    · exact absurd h hp
    · have hpl : placeF cols e.s = (j : Int) := by unfold placeF; rw [h]; simp
      rw [hpl] at hty ⊢
      simp only [Int.toNat_natCast] at hty ⊢
      have ht2 := (Prod.mk.inj hty).1
      rw [List.getD_eq_getElem?_getD]
      cases hv : row[j]? with
      | none => exact okV_zero t
      | some v =>
        have := hr j cols[j] v (List.getElem?_eq_getElem hj) hv
        rw [List.getD_eq_getElem?_getD, List.getElem?_eq_getElem hj] at ht2
        rw [← ht2]
        exact this
  · rw [tyOp_op hL hC hty]
    unfold evalE
    rw [if_neg hL, if_neg hC]
    cases n with
    | zero => exact doF_ok _ _ _
    | succ n => exact doF_ok _ _ _
/-- What is well typed comes to a value of its type, or NULL. -/
theorem typeX_ok {cols : List Col} {row : List V} {e : Ex} {t : Int} (hr : rowFits cols row) (h : typeX cols e = (t, 0)) : okV t (evalX cols row e) := by
  unfold typeX at h
  split at h
  · rename_i hm
    unfold evalX
    rw [hm]
    exact typed_ok cols row hr 12 1 0 e t hm h
  · simp at h

end Go.Proofs.YtdhjogmkhbpcgaaGreat

namespace Go.Proofs.YtdhjogmkhbpcgaaGreat
open Go.RowKit

theorem pt_two {cols : List Col} {row : List V} {op : List UInt8} {X Y : Ex} (hX : mayX X = true) (hY : mayX Y = true) (h1 : ¬ op = opLit) (h2 : ¬ op = opCol) (hm : mayX (.mk op V.zero [] [X, Y]) = true) :
    evalX cols row (.mk op V.zero [] [X, Y]) = doF op (evalX cols row X) (evalX cols row Y) := by
  have g := hgt_two (mayX_hgt hm)
  rw [val_may hm, val_may hX, val_may hY, val_two h1 h2 g.1 g.2]
theorem pt_one {cols : List Col} {row : List V} {op : List UInt8} {X : Ex} (hX : mayX X = true) (h1 : ¬ op = opLit) (h2 : ¬ op = opCol) (hm : mayX (.mk op V.zero [] [X]) = true) :
    evalX cols row (.mk op V.zero [] [X]) = doF op (evalX cols row X) V.zero := by
  have g := hgt_one (mayX_hgt hm)
  rw [val_may hm, val_may hX, val_one h1 h2 g]
theorem type_may {cols : List Col} {e : Ex} (h : (typeX cols e).2 = 0) : mayX e = true := by
  unfold typeX at h
  cases hm : mayX e
  · rw [hm] at h; simp at h
  · rfl
/-- A condition that is looked at. -/
theorem where_ok {cols : List Col} {rows : List (List V)} {e : Ex} (ho : ¬ e.op = []) (h : (whereX cols rows e).2 = 0) :
    (∃ t, typeX cols e = (t, 0) ∧ (t = 3 ∨ t = 0)) ∧ mayX e = true ∧ (whereX cols rows e).1 = rows.filter (trueB cols e) := by
  unfold whereX at h ⊢
  rw [if_neg ho] at h ⊢
  by_cases h1 : (typeX cols e).2 = 0
  · rw [if_neg (by simpa using h1)] at h ⊢
    by_cases h2 : ¬ (typeX cols e).1 = 3 ∧ ¬ (typeX cols e).1 = 0
    · rw [if_pos h2] at h; simp at h
    · rw [if_neg h2] at h ⊢
      exact ⟨⟨(typeX cols e).1, by rw [← h1], by omega⟩, type_may h1, rfl⟩
  · rw [if_pos h1] at h
    exact absurd h h1
theorem three_of {t : Int} {v : V} (h : okV t v) (ht : t = 3 ∨ t = 0) : v = V.zero ∨ v = bV true ∨ v = bV false := by
  obtain ⟨hm, hk⟩ := h
  obtain ⟨k, i, s⟩ := v
  simp only at hm hk
  have hk' : k = 0 ∨ k = 3 := by omega
  rcases hk' with rfl | rfl
  · left
    unfold mayB at hm
    simp at hm
    rw [hm.1, hm.2]
    rfl
  · right
    obtain ⟨h1, rfl⟩ := may3 hm
    rcases h1 with rfl | rfl
    · right; rfl
    · left; rfl
theorem true_is {cols : List Col} {e : Ex} {r : List V} : trueB cols e r = decide (saysF (evalX cols r e).k (evalX cols r e).i (evalX cols r e).s = 2) := by
  unfold trueB
  have := is_says (k := (evalX cols r e).k) (i := (evalX cols r e).i) (s := (evalX cols r e).s) rfl true
  simpa using this
theorem says_truth {n : Int} (h : n = 0 ∨ n = 1 ∨ n = 2) : saysF (truthV n).k (truthV n).i (truthV n).s = n := by
  rcases h with rfl | rfl | rfl <;> rfl
theorem true_and {cols : List Col} {e g : Ex} {r : List V} (he : mayX e = true) (hg : mayX g = true) (hm : mayX (.mk opAnd V.zero [] [e, g]) = true) : trueB cols (.mk opAnd V.zero [] [e, g]) r = (trueB cols e r && trueB cols g r) := by
  rw [true_is, true_is, true_is, pt_two he hg (by decide) (by decide) hm]
  show decide (saysF (truthV (andN _ _)).k (truthV (andN _ _)).i (truthV (andN _ _)).s = 2) = _
  rw [says_truth (andN_range _ _)]
  generalize saysF (evalX cols r e).k (evalX cols r e).i (evalX cols r e).s = x
  generalize saysF (evalX cols r g).k (evalX cols r g).i (evalX cols r g).s = y
  unfold andN
  rw [Bool.eq_iff_iff]
  simp only [decide_eq_true_eq, Bool.and_eq_true]
  split
  · omega
  · split <;> omega
theorem true_or {cols : List Col} {e g : Ex} {r : List V} (he : mayX e = true) (hg : mayX g = true) (hm : mayX (.mk opOr V.zero [] [e, g]) = true) : trueB cols (.mk opOr V.zero [] [e, g]) r = (trueB cols e r || trueB cols g r) := by
  rw [true_is, true_is, true_is, pt_two he hg (by decide) (by decide) hm]
  show decide (saysF (truthV (orN _ _)).k (truthV (orN _ _)).i (truthV (orN _ _)).s = 2) = _
  rw [says_truth (orN_range _ _)]
  generalize saysF (evalX cols r e).k (evalX cols r e).i (evalX cols r e).s = x
  generalize saysF (evalX cols r g).k (evalX cols r g).i (evalX cols r g).s = y
  unfold orN
  rw [Bool.eq_iff_iff]
  simp only [decide_eq_true_eq, Bool.or_eq_true]
  split
  · omega
  · split <;> omega
/-- A row over which a condition is TRUE, its NOT is, or it is NULL: just one. -/
theorem parts_row {cols : List Col} {e : Ex} {r : List V} {t : Int} (hr : rowFits cols r) (ht : typeX cols e = (t, 0)) (h3 : t = 3 ∨ t = 0) (hn : mayX (.mk opNot V.zero [] [e]) = true) (hu : mayX (.mk opNull V.zero [] [e]) = true) :
    (if trueB cols e r then 1 else 0) + (if trueB cols (.mk opNot V.zero [] [e]) r then 1 else 0) + (if trueB cols (.mk opNull V.zero [] [e]) r then 1 else 0) = (1 : Nat) := by
  have hm := type_may (cols := cols) (e := e) (by rw [ht])
  unfold trueB
  rw [pt_one hm (by decide) (by decide) hn, pt_one hm (by decide) (by decide) hu]
  rcases three_of (typeX_ok hr ht) h3 with h | h | h
  · rw [h]; rfl
  · rw [h]; rfl
  · rw [h]; rfl
theorem filter_sum {α : Type} (p q s : α → Bool) : ∀ l : List α, (∀ x ∈ l, (if p x then 1 else 0) + (if q x then 1 else 0) + (if s x then 1 else 0) = (1 : Nat)) → (l.filter p).length + (l.filter q).length + (l.filter s).length = l.length
  | [], _ => rfl
  | x :: r, h => by
    have ih := filter_sum p q s r (fun y hy => h y (by simp [hy]))
    have h0 := h x (by simp)
    cases hp : p x <;> cases hq : q x <;> cases hs : s x <;> simp [hp, hq, hs] at h0 ⊢ <;> omega
theorem filter_or {α : Type} (p q : α → Bool) : ∀ l : List α, (l.filter fun x => p x || q x).length + (l.filter fun x => p x && q x).length = (l.filter p).length + (l.filter q).length
  | [] => rfl
  | x :: r => by
    have ih := filter_or p q r
    cases hp : p x <;> cases hq : q x <;> simp [hp, hq] at ih ⊢ <;> omega

end Go.Proofs.YtdhjogmkhbpcgaaGreat
