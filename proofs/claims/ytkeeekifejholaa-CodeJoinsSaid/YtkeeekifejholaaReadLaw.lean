/- Plain laws of Read: a row's octets are read as it was; without the last of them they are no row, or one that is shorter. Condition: rows that may be. -/
import Derived.Test.YtkeeekifejholaaRead
import Derived.Test.YtkeeekifejholaaCodeLaw
namespace Go.Proofs.Ytkeeekifejholaa

theorem readGo_flat (rest : List UInt8) (many : Bool) : ∀ (l acc : List V) (f : Nat), acc.length + l.length ≤ 12 → l.all V.may = true → (∀ v ∈ l, v.rng) →
    readGo (f + l.length) (l.flatMap V.code ++ rest) acc many = readGo f rest (acc ++ l) many
  | [], acc, f, _, _, _ => by simp
  | v :: r, acc, f, hl, hm, hr => by
    simp only [List.all_cons, Bool.and_eq_true] at hm
    simp only [List.length_cons] at hl
    have hc := first_code v (r.flatMap V.code ++ rest) hm.1 (hr v (by simp))
    have hne : ¬ (v.code ++ (r.flatMap V.code ++ rest) = []) := by
      intro h
      exact code_pos v (List.append_eq_nil_iff.1 h).1
    rw [List.length_cons, ← Nat.add_assoc, List.flatMap_cons, List.append_assoc, readGo, hc]
    simp only [hne, if_false, ne_eq, not_true_eq_false, Int.toNat_natCast]
    rw [if_neg (by omega), List.drop_left]
    rw [readGo_flat rest many r (acc ++ [v]) f (by simp; omega) hm.2 (fun u hu => hr u (by simp [hu]))]
    simp

theorem flat_ge (l : List V) : l.length ≤ (l.flatMap V.code).length := by
  induction l with
  | nil => simp
  | cons v r ih =>
    rw [List.flatMap_cons, List.length_append, List.length_cons]
    have := List.length_pos_iff.2 (code_pos v)
    omega

theorem read_row (l : List V) (h : rowOk l = true) (hr : ∀ v ∈ l, v.rng) : readF (rowS l) = (l, 0) := by
  unfold rowS
  rw [h]
  simp only [if_true]
  unfold readF
  have hl : l.length ≤ 12 := by simp only [rowOk, Bool.and_eq_true, decide_eq_true_eq] at h; exact h.1
  have hge := flat_ge l
  have := readGo_flat [] false l [] ((l.flatMap V.code).length - l.length + 1) (by simpa using hl) (rowOk_all h) hr
  rw [List.append_nil, show (l.flatMap V.code).length - l.length + 1 + l.length = (l.flatMap V.code).length + 1 by omega] at this
  rw [this]
  simp [readGo]

/-- A value's octets without the last of them: none, or too few. -/
theorem code_short (v : V) (h : v.may = true) : v.code.dropLast = [] ∨ (v.code.dropLast ≠ [] ∧ (firstF v.code.dropLast).2.2 = 17) := by
  rcases may_cases v h with rfl | ⟨hk, hs⟩ | ⟨hk, hi, hl, ho⟩ | ⟨hk, hi, hs⟩
  · left; rw [code_null]; rfl
  · obtain ⟨k, i, s⟩ := v
    simp only at hk hs
    subst hk hs
    right
    rw [code_int]
    obtain ⟨L, hL⟩ : ∃ L, be8 (i + 9223372036854775808).toNat 8 = L := ⟨_, rfl⟩
    have hlen : L.length = 8 := by rw [← hL]; simp [be8]
    rw [hL]
    have hd : (1 :: L : List UInt8).dropLast = 1 :: L.dropLast := by
      rw [List.dropLast_cons_of_ne_nil]
      intro h0; rw [h0] at hlen; simp at hlen
    rw [hd]
    refine ⟨by simp, ?_⟩
    simp only [firstF, if_true]
    rw [if_neg (by rw [List.length_dropLast]; omega)]
  · obtain ⟨k, i, s⟩ := v
    simp only at hk hi hl ho
    subst hk hi
    right
    rw [code_text s hl ho]
    have hd : (2 :: s ++ [0] : List UInt8).dropLast = 2 :: s := by
      rw [List.dropLast_concat]
    rw [hd]
    refine ⟨by simp, ?_⟩
    have hz : cutZero s = none := by
      cases hz : cutZero s with
      | none => rfl
      | some p =>
        obtain ⟨t, u⟩ := p
        obtain ⟨rfl, _⟩ := cutZero_some s t u hz
        simp only [List.any_append, List.any_cons, Bool.or_eq_false_iff] at ho
        exact absurd ho.2.1 (by decide)
    simp [firstF, hz]
  · obtain ⟨k, i, s⟩ := v
    simp only at hk hi hs
    subst hk hs
    right
    rw [code_bool i hi]
    refine ⟨by simp, ?_⟩
    simp [firstF]

/-- Either an error and no row, or all values but the last. -/
theorem read_short (l : List V) (h : rowOk l = true) (hr : ∀ v ∈ l, v.rng) (hne : rowS l ≠ []) :
    ((readF (rowS l).dropLast).2 = 17 ∧ (readF (rowS l).dropLast).1 = []) ∨ readF (rowS l).dropLast = (l.dropLast, 0) := by
  have hS : rowS l = l.flatMap V.code := by unfold rowS; rw [h]; rfl
  rw [hS] at hne ⊢
  have hl0 : l ≠ [] := by rintro rfl; simp at hne
  obtain ⟨l', v, rfl⟩ : ∃ l' v, l = l' ++ [v] := ⟨l.dropLast, l.getLast hl0, (List.dropLast_concat_getLast hl0).symm⟩
  have hl : (l' ++ [v]).length ≤ 12 := by simp only [rowOk, Bool.and_eq_true, decide_eq_true_eq] at h; exact h.1
  have hm := rowOk_all h
  simp only [List.all_append, List.all_cons, List.all_nil, Bool.and_true, Bool.and_eq_true] at hm
  simp only [List.length_append, List.length_cons, List.length_nil] at hl
  have hfl : ((l' ++ [v]).flatMap V.code).dropLast = l'.flatMap V.code ++ v.code.dropLast := by
    rw [List.flatMap_append]
    simp only [List.flatMap_cons, List.flatMap_nil, List.append_nil]
    rw [List.dropLast_append_of_ne_nil (code_pos v)]
  rw [hfl]
  have hge := flat_ge l'
  unfold readF
  have key := readGo_flat v.code.dropLast false l' [] ((l'.flatMap V.code ++ v.code.dropLast).length - l'.length + 1) (by simp; omega) hm.1 (fun u hu => hr u (by simp [hu]))
  rw [show (l'.flatMap V.code ++ v.code.dropLast).length - l'.length + 1 + l'.length = (l'.flatMap V.code ++ v.code.dropLast).length + 1 by rw [List.length_append]; omega] at key
  rw [key, List.nil_append]
  rcases code_short v hm.2 with h0 | ⟨h0, h1⟩
  · right
    rw [h0]
    simp [readGo]
  · left
    simp [readGo, h0, h1]

end Go.Proofs.Ytkeeekifejholaa
