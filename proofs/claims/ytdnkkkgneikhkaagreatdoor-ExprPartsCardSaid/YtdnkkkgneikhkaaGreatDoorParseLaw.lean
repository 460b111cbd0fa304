/- Plain laws on parsing: a number's text is read as it was; what a text's value is. No program in sight. -/
import Derived.Test.YtdnkkkgneikhkaaGreatDoorTextLaw
import Derived.Lib.AtoiAllCases
import Derived.Lib.ParseIntBTie
namespace Go.Proofs.YtdnkkkgneikhkaaGreatDoor
open Go.RowKit

theorem fold_ge : ∀ (l : List UInt8) (acc : Nat), acc ≤ l.foldl (fun n c => 10 * n + (c.toNat - 48)) acc
  | [], _ => Nat.le_refl _
  | c :: r, acc => by
    have := fold_ge r (10 * acc + (c.toNat - 48))
    simp only [List.foldl_cons]; omega
theorem parseUint_digits : ∀ (l : List UInt8) (acc : Nat), (∀ c ∈ l, 48 ≤ c.toNat ∧ c.toNat ≤ 57) → l.foldl (fun n c => 10 * n + (c.toNat - 48)) acc < 18446744073709551616 →
    Lib.parseUint10 acc l = .ok (l.foldl (fun n c => 10 * n + (c.toNat - 48)) acc)
  | [], acc, _, _ => rfl
  | c :: r, acc, h, hb => by
    have hc := h c (by simp)
    have hge := fold_ge r (10 * acc + (c.toNat - 48))
    simp only [List.foldl_cons] at hb ⊢
    unfold Lib.parseUint10
    rw [if_pos hc, if_neg (by omega), if_neg (by omega), Nat.mul_comm acc 10]
    exact parseUint_digits r _ (fun d hd => h d (by simp [hd])) hb
theorem parseMag_dec (u : Nat) (hu : u < 18446744073709551616) : Lib.parseMag (Lib.decDigits u) = .ok u := by
  obtain ⟨c, r, e, _⟩ := dec_cons u
  unfold Lib.parseMag
  rw [if_neg (by rw [e]; simp)]
  have hv : (Lib.decDigits u).foldl (fun n c => 10 * n + (c.toNat - 48)) 0 = u := valD_dec u u (Nat.le_refl _)
  have := parseUint_digits (Lib.decDigits u) 0 (dec_digits u u (Nat.le_refl _)) (by rw [hv]; exact hu)
  rw [hv] at this
  exact this
theorem parse_itoa (i : Int) (h1 : -9223372036854775808 ≤ i) (h2 : i ≤ 9223372036854775807) : Lib.parseIntB 64 (Lib.itoa i) = .ok i := by
  rw [Lib.parseIntB_64]
  unfold Lib.itoa
  by_cases hn : i < 0
  · rw [if_pos hn, Lib.atoiAll_minus, parseMag_dec _ (by omega)]
    show (if 9223372036854775808 < i.natAbs then _ else _) = _
    rw [if_neg (by omega)]
    have : -(i.natAbs : Int) = i := by omega
    rw [this]
  · rw [if_neg hn]
    obtain ⟨c, r, e, h3, h4⟩ := dec_cons i.toNat
    have hp := parseMag_dec i.toNat (by omega)
    rw [e] at hp ⊢
    rw [Lib.atoiAll_plain c r (by omega) (by omega), hp]
    show (if 9223372036854775808 ≤ i.toNat then _ else _) = _
    rw [if_neg (by omega)]
    have : ((i.toNat : Nat) : Int) = i := by omega
    rw [this]

/-- A text's value, if there is one. -/
def parses (s : List UInt8) (v : V) : Prop := v.may = true ∧ (-9223372036854775808 ≤ v.i ∧ v.i ≤ 9223372036854775807) ∧ textF v.k v.i v.s = s
theorem parses_un {s : List UInt8} {v : V} (h : parses s v) : v = unText s := by rw [← h.2.2, unText_text v h.1]
instance (s : List UInt8) (v : V) : Decidable (parses s v) := inferInstanceAs (Decidable (_ ∧ _ ∧ _))
def parseB (s : List UInt8) : Bool := decide (parses s (unText s))
def parseV (s : List UInt8) : V := if parseB s then unText s else V.zero
theorem parse_yes {s : List UInt8} {v : V} (h : parses s v) : parseB s = true ∧ parseV s = v := by
  have e := parses_un h
  subst e
  have : parseB s = true := by unfold parseB; simpa using h
  exact ⟨this, by unfold parseV; rw [this]; rfl⟩
theorem parse_no {s : List UInt8} (h : ∀ v, ¬ parses s v) : parseB s = false ∧ parseV s = V.zero := by
  have : parseB s = false := by unfold parseB; simpa using h (unText s)
  exact ⟨this, by unfold parseV; rw [this]; rfl⟩

end Go.Proofs.YtdnkkkgneikhkaaGreatDoor
