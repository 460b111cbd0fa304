/- Plain laws on replacing: strings.ReplaceAll of a quote by two, and of two by one, as plain recursions. No program in sight. -/
import Derived.Lib.Replace
namespace Go.Proofs.YtdhjogmkhbpcgaaGreat
open Go

section
variable (old new : List UInt8)
theorem index_yes (b : UInt8) (l : List UInt8) (h : old.isPrefixOf (b :: l) = true) : Lib.index (b :: l) old = ((0 : Nat) : Int) := by rw [Lib.index, if_pos h]; rfl
theorem index_no (b : UInt8) (l : List UInt8) (h : old.isPrefixOf (b :: l) = false) : Lib.index (b :: l) old = if Lib.index l old == -1 then -1 else Lib.index l old + 1 := by rw [Lib.index, h]; simp
theorem count_no (b : UInt8) (l : List UInt8) (h0 : old ≠ []) (h : old.isPrefixOf (b :: l) = false) : Lib.count (b :: l) old = Lib.count l old := by
  have hi := index_no old b l h
  by_cases hm : Lib.index l old = -1
  · rw [Lib.count_miss hm, Lib.count_miss (by rw [hi, hm]; rfl)]
  · have hge := Lib.index_ge l old
    obtain ⟨i, e⟩ : ∃ i : Nat, Lib.index l old = i := ⟨(Lib.index l old).toNat, by omega⟩
    have e2 : Lib.index (b :: l) old = ((i + 1 : Nat) : Int) := by rw [hi, e, if_neg (by simp)]; rfl
    rw [Lib.count_hit h0 e, Lib.count_hit h0 e2]
    congr 2
    rw [show i + 1 + old.length = (i + old.length) + 1 by omega, List.drop_succ_cons]
theorem rep_no (b : UInt8) (l : List UInt8) (h : old.isPrefixOf (b :: l) = false) : ∀ k, Lib.replaceK old new k (b :: l) = b :: Lib.replaceK old new k l
  | 0 => rfl
  | k + 1 => by
    have hi := index_no old b l h
    by_cases hm : Lib.index l old = -1
    · rw [Lib.replaceK, Lib.replaceK, hi, hm]; simp
    · have hge := Lib.index_ge l old
      obtain ⟨i, e⟩ : ∃ i : Nat, Lib.index l old = i := ⟨(Lib.index l old).toNat, by omega⟩
      have e2 : Lib.index (b :: l) old = ((i + 1 : Nat) : Int) := by rw [hi, e, if_neg (by simp)]; rfl
      rw [Lib.replaceK_hit _ _ _ _ _ e, Lib.replaceK_hit _ _ _ _ _ e2, show i + 1 + old.length = (i + old.length) + 1 by omega, List.drop_succ_cons]
      simp
theorem rep_yes (b : UInt8) (l : List UInt8) (h0 : old ≠ []) (h : old.isPrefixOf (b :: l) = true) :
    Lib.replaceK old new (Lib.count (b :: l) old) (b :: l) = new ++ Lib.replaceK old new (Lib.count ((b :: l).drop old.length) old) ((b :: l).drop old.length) := by
  have e := index_yes old b l h
  rw [Lib.count_hit h0 e, Nat.add_comm, Lib.replaceK_hit _ _ _ _ _ e]
  simp
theorem rep_nil (h0 : old ≠ []) : Lib.replaceK old new (Lib.count [] old) [] = [] := by
  rw [Lib.count_miss (by cases old <;> simp_all [Lib.index])]; rfl
theorem replaceAll_eq (s : List UInt8) (h : (old == new) = false) : Lib.replaceAll s old new = Lib.replaceK old new (Lib.count s old) s := by
  unfold Lib.replaceAll Lib.replace Lib.replaceNum
  rw [h, if_pos (Or.inl (by decide))]; rfl
end

/-- Each quote twice. -/
def quoteS : List UInt8 → List UInt8
  | [] => []
  | c :: r => if c = 39 then 39 :: 39 :: quoteS r else c :: quoteS r
theorem replace_quote (s : List UInt8) : Lib.replaceAll s [39] [39, 39] = quoteS s := by
  rw [replaceAll_eq _ _ _ (by decide)]
  induction s with
  | nil => exact rep_nil _ _ (by simp)
  | cons c r ih =>
    by_cases h : c = 39
    · subst h
      rw [rep_yes _ _ _ _ (by simp) (by simp [List.isPrefixOf])]
      simp only [List.length_cons, List.length_nil, List.drop_succ_cons, List.drop_zero, Nat.zero_add]
      rw [ih]; simp [quoteS]
    · have hp : ([39] : List UInt8).isPrefixOf (c :: r) = false := by simp [List.isPrefixOf]; exact fun e => h e.symm
      rw [count_no _ _ _ (by simp) hp, rep_no _ _ _ _ hp, ih]; simp [quoteS, h]
/-- Two quotes are one. -/
def unquoteS : List UInt8 → List UInt8
  | [] => []
  | [c] => [c]
  | c :: d :: r => if c = 39 ∧ d = 39 then 39 :: unquoteS r else c :: unquoteS (d :: r)
theorem replace_unquote : ∀ (n : Nat) (s : List UInt8), s.length ≤ n → Lib.replaceAll s [39, 39] [39] = unquoteS s := by
  intro n
  induction n with
  | zero =>
    intro s hs
    rw [replaceAll_eq _ _ _ (by decide)]
    obtain rfl : s = [] := List.eq_nil_of_length_eq_zero (by omega)
    exact rep_nil _ _ (by simp)
  | succ n ih =>
    intro s hs
    match s, hs with
    | [], _ => rw [replaceAll_eq _ _ _ (by decide)]; exact rep_nil _ _ (by simp)
    | [c], _ =>
      have hp : ([39, 39] : List UInt8).isPrefixOf [c] = false := by simp [List.isPrefixOf]
      rw [replaceAll_eq _ _ _ (by decide), count_no _ _ _ (by simp) hp, rep_no _ _ _ _ hp, rep_nil _ _ (by simp)]; rfl
    | c :: d :: r, hs =>
      by_cases h : c = 39 ∧ d = 39
      · obtain ⟨rfl, rfl⟩ := h
        have e := ih r (by simp at hs; omega)
        rw [replaceAll_eq _ _ _ (by decide)] at e ⊢
        rw [rep_yes _ _ _ _ (by simp) (by simp [List.isPrefixOf])]
        simp only [List.length_cons, List.length_nil, List.drop_succ_cons, List.drop_zero, Nat.zero_add]
        rw [e]; simp [unquoteS]
      · have hp : ([39, 39] : List UInt8).isPrefixOf (c :: d :: r) = false := by
          simp [List.isPrefixOf]; intro e1 e2; exact h ⟨e1.symm, e2.symm⟩
        have e := ih (d :: r) (by simp at hs ⊢; omega)
        rw [replaceAll_eq _ _ _ (by decide)] at e ⊢
        rw [count_no _ _ _ (by simp) hp, rep_no _ _ _ _ hp, e]; simp [unquoteS, h]
theorem quoteS_len (s : List UInt8) : (quoteS s).length ≤ 2 * s.length := by
  induction s with
  | nil => simp [quoteS]
  | cons c r ih => unfold quoteS; split <;> simp <;> omega
theorem unquote_quote (s : List UInt8) : unquoteS (quoteS s) = s := by
  induction s with
  | nil => rfl
  | cons c r ih =>
    by_cases h : c = 39
    · subst h; simp [quoteS, unquoteS, ih]
    · have : quoteS (c :: r) = c :: quoteS r := by simp [quoteS, h]
      rw [this]
      cases hq : quoteS r with
      | nil => rw [hq] at ih; simp [unquoteS] at ih ⊢; exact ih
      | cons d t => rw [hq] at ih; rw [unquoteS, if_neg (by simp [h]), ih]

end Go.Proofs.YtdhjogmkhbpcgaaGreat
