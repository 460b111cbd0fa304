/- Plain law: two values that may be have the same text just if they are the same. No program in sight. -/
import Derived.Test.YtdnkkkgneikhkaaGreatDoorText
import Derived.Lib.ItoaNum
namespace Go.Proofs.YtdnkkkgneikhkaaGreatDoor
open Go.RowKit

def valD (l : List UInt8) : Nat := l.foldl (fun n c => 10 * n + (c.toNat - 48)) 0
theorem valD_snoc (l : List UInt8) (c : UInt8) : valD (l ++ [c]) = 10 * valD l + (c.toNat - 48) := by
  unfold valD; rw [List.foldl_append]; rfl
theorem dig_nat (d : Nat) (h : d < 10) : (UInt8.ofNat (48 + d)).toNat = 48 + d := by
  rw [UInt8.toNat_ofNat']; omega
theorem valD_dec : ∀ (n u : Nat), u ≤ n → valD (Lib.decDigits u) = u := by
  intro n
  induction n with
  | zero =>
    intro u h
    obtain rfl : u = 0 := by omega
    rw [Lib.decDigits_one (by omega)]; rfl
  | succ n ih =>
    intro u h
    by_cases hu : u < 10
    · rw [Lib.decDigits_one hu]
      show 10 * 0 + ((UInt8.ofNat (48 + u)).toNat - 48) = u
      rw [dig_nat u hu]; omega
    · rw [Lib.decDigits, dif_neg hu, valD_snoc, ih (u / 10) (by omega), dig_nat _ (by omega)]
      omega
theorem dec_digits : ∀ (n u : Nat), u ≤ n → ∀ c ∈ Lib.decDigits u, 48 ≤ c.toNat ∧ c.toNat ≤ 57 := by
  intro n
  induction n with
  | zero =>
    intro u h c hc
    obtain rfl : u = 0 := by omega
    rw [Lib.decDigits_one (by omega)] at hc
    simp at hc; subst hc; decide
  | succ n ih =>
    intro u h c hc
    by_cases hu : u < 10
    · rw [Lib.decDigits_one hu] at hc
      simp only [List.mem_singleton] at hc
      subst hc
      rw [dig_nat u hu]; omega
    · rw [Lib.decDigits, dif_neg hu, List.mem_append] at hc
      rcases hc with hc | hc
      · exact ih (u / 10) (by omega) c hc
      · simp only [List.mem_singleton] at hc
        subst hc
        rw [dig_nat _ (by omega)]; omega
theorem dec_cons (u : Nat) : ∃ c r, Lib.decDigits u = c :: r ∧ 48 ≤ c.toNat ∧ c.toNat ≤ 57 := by
  cases h : Lib.decDigits u with
  | nil =>
    exfalso
    rw [Lib.decDigits] at h
    split at h
    · cases h
    · simp at h
  | cons c r => exact ⟨c, r, rfl, dec_digits u u (Nat.le_refl _) c (by rw [h]; simp)⟩

/-- The value of a text. -/
def unText : List UInt8 → V
  | [] => V.zero
  | c :: r => if c.toNat = 39 then ⟨2, 0, unquoteS r.dropLast⟩ else if c.toNat = 78 then V.zero else if c.toNat = 84 then ⟨3, 1, []⟩ else if c.toNat = 70 then ⟨3, 0, []⟩
    else if c.toNat = 45 then ⟨1, -(valD r : Int), []⟩ else ⟨1, valD (c :: r), []⟩

theorem unText_text (a : V) (h : a.may = true) : unText (textF a.k a.i a.s) = a := by
  obtain ⟨k, i, s⟩ := a
  have hm : mayB k i s = true := h
  show unText (textF k i s) = _
  unfold textF
  rw [hm]
  simp only [if_true]
  rcases may_kinds hm with ⟨rfl, rfl, rfl⟩ | ⟨rfl, rfl⟩ | ⟨rfl, rfl, _⟩ | ⟨rfl, hi, rfl⟩
  · rfl
  · simp only [if_true]
    unfold Lib.itoa
    by_cases hn : i < 0
    · rw [if_pos hn]
      show (⟨1, -(valD (Lib.decDigits i.natAbs) : Int), []⟩ : V) = _
      rw [valD_dec _ _ (Nat.le_refl _)]
      have : -(i.natAbs : Int) = i := by omega
      rw [this]
    · rw [if_neg hn]
      obtain ⟨c, r, e, h1, h2⟩ := dec_cons i.toNat
      have hv := valD_dec _ i.toNat (Nat.le_refl _)
      rw [e] at hv ⊢
      show (if c.toNat = 39 then _ else _) = _
      rw [if_neg (by omega), if_neg (by omega), if_neg (by omega), if_neg (by omega), if_neg (by omega), hv]
      have : ((i.toNat : Nat) : Int) = i := by omega
      rw [this]
  · show (⟨2, 0, unquoteS (quoteS s ++ [39]).dropLast⟩ : V) = _
    rw [List.dropLast_concat, unquote_quote]
  · rcases hi with rfl | rfl <;> rfl

theorem text_apart (a b : V) (ha : a.may = true) (hb : b.may = true) : (textF a.k a.i a.s == textF b.k b.i b.s) = veq a b := by
  rw [Bool.eq_iff_iff]
  constructor
  · intro h
    have e : textF a.k a.i a.s = textF b.k b.i b.s := by simpa using h
    have : a = b := by rw [← unText_text a ha, ← unText_text b hb, e]
    subst this
    simp [veq]
  · intro h
    simp only [veq, Bool.and_eq_true, decide_eq_true_eq, beq_iff_eq] at h
    rw [h.1, h.2.1, h.2.2]
    simp

end Go.Proofs.YtdnkkkgneikhkaaGreatDoor
