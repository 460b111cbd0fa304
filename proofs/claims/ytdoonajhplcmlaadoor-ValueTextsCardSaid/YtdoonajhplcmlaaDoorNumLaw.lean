/- Plain law: how the document's Parse reads a number, and that a number's text is read as it was. No program in sight. -/
import Derived.Test.YtdoonajhplcmlaaDoorParseLaw
namespace Go.Proofs.YtdoonajhplcmlaaDoor
open Go.RowKit

def numOff (acc : Int) (c : UInt8) : Bool := decide (c.toNat < 48) || decide (57 < c.toNat) || decide (acc < -922337203685477580) || (decide (acc = -922337203685477580) && decide (56 < c.toNat))
def numL : Int → List UInt8 → Option Int
  | acc, [] => some acc
  | acc, c :: r => if numOff acc c then none else numL (10 * acc - c.toNat + 48) r
/-- What stands behind the sign. -/
def magL : List UInt8 → List UInt8
  | [] => []
  | c :: r => if c.toNat = 45 then r else c :: r
def negB : List UInt8 → Bool
  | [] => false
  | c :: _ => decide (c.toNat = 45)
theorem numL_range : ∀ (l : List UInt8) (acc n : Int), acc ≤ 0 → -9223372036854775808 ≤ acc → numL acc l = some n → n ≤ 0 ∧ -9223372036854775808 ≤ n
  | [], acc, n, h1, h2, h => by simp [numL] at h; subst h; exact ⟨h1, h2⟩
  | c :: r, acc, n, h1, h2, h => by
    unfold numL at h
    cases ho : numOff acc c
    · rw [ho] at h
      simp only [Bool.false_eq_true, if_false] at h
      simp only [numOff, Bool.or_eq_false_iff, decide_eq_false_iff_not, Bool.and_eq_false_iff] at ho
      exact numL_range r _ n (by omega) (by omega) h
    · rw [ho] at h; cases h
theorem numL_digits : ∀ (l : List UInt8) (a : Nat), (∀ c ∈ l, 48 ≤ c.toNat ∧ c.toNat ≤ 57) → l.foldl (fun n c => 10 * n + (c.toNat - 48)) a ≤ 9223372036854775808 →
    numL (-(a : Int)) l = some (-((l.foldl (fun n c => 10 * n + (c.toNat - 48)) a : Nat) : Int))
  | [], _, _, _ => rfl
  | c :: r, a, h, hb => by
    have hc := h c (by simp)
    have hge := fold_ge r (10 * a + (c.toNat - 48))
    simp only [List.foldl_cons] at hb ⊢
    have ho : numOff (-(a : Int)) c = false := by
      simp only [numOff, Bool.or_eq_false_iff, decide_eq_false_iff_not, Bool.and_eq_false_iff]
      refine ⟨⟨⟨by omega, by omega⟩, by omega⟩, ?_⟩
      by_cases e : -(a : Int) = -922337203685477580
      · exact .inr (by omega)
      · exact .inl e
    unfold numL
    rw [ho]
    simp only [Bool.false_eq_true, if_false]
    have e : (10 * -(a : Int) - c.toNat + 48) = -((10 * a + (c.toNat - 48) : Nat) : Int) := by omega
    rw [e]
    exact numL_digits r _ (fun d hd => h d (by simp [hd])) hb
theorem numL_dec (u : Nat) (hu : u ≤ 9223372036854775808) : numL 0 (Lib.decDigits u) = some (-(u : Int)) := by
  have hv : (Lib.decDigits u).foldl (fun n c => 10 * n + (c.toNat - 48)) 0 = u := valD_dec u u (Nat.le_refl _)
  have := numL_digits (Lib.decDigits u) 0 (dec_digits u u (Nat.le_refl _)) (by rw [hv]; exact hu)
  rw [hv] at this
  exact this
/-- The number that the loop leaves. -/
def numV (s : List UInt8) (acc : Int) : Int := if negB s then acc else -acc
theorem num_itoa (i : Int) (h1 : -9223372036854775808 ≤ i) (h2 : i ≤ 9223372036854775807) :
    ∃ acc, numL 0 (magL (Lib.itoa i)) = some acc ∧ numV (Lib.itoa i) acc = i ∧ (negB (Lib.itoa i) = false → acc ≠ -9223372036854775808) := by
  unfold Lib.itoa
  by_cases hn : i < 0
  · rw [if_pos hn]
    refine ⟨-(i.natAbs : Int), numL_dec _ (by omega), ?_, fun h => by cases h⟩
    show -(i.natAbs : Int) = i
    omega
  · rw [if_neg hn]
    obtain ⟨c, r, e, h3, h4⟩ := dec_cons i.toNat
    have hnum := numL_dec i.toNat (by omega)
    rw [e] at hnum ⊢
    have hng : negB (c :: r) = false := by show decide (c.toNat = 45) = false; simp; omega
    have hmg : magL (c :: r) = c :: r := by show (if c.toNat = 45 then r else c :: r) = _; rw [if_neg (by omega)]
    refine ⟨-(i.toNat : Int), by rw [hmg]; exact hnum, ?_, fun _ => by omega⟩
    unfold numV
    rw [hng]
    show - -(i.toNat : Int) = i
    omega

end Go.Proofs.YtdoonajhplcmlaaDoor
