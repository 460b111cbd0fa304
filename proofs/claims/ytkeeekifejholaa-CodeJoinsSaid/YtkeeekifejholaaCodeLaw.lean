/- Plain laws of the octets: a value's octets are read as it was; rows with the same octets are the same. Condition: values that may be. -/
import Derived.Test.YtkeeekifejholaaAwake2
import Derived.Test.YtkeeekifejholaaRef2
namespace Go.Proofs.Ytkeeekifejholaa

def V.rng (v : V) : Prop := -9223372036854775808 ≤ v.i ∧ v.i ≤ 9223372036854775807

theorem may_cases (v : V) (h : v.may = true) :
    v = ⟨0, 0, []⟩ ∨ (v.k = 1 ∧ v.s = []) ∨ (v.k = 2 ∧ v.i = 0 ∧ v.s.length ≤ 40 ∧ v.s.any oddByte = false) ∨ (v.k = 3 ∧ (v.i = 0 ∨ v.i = 1) ∧ v.s = []) := by
  obtain ⟨k, i, s⟩ := v
  simp only [V.may, mayB] at h
  by_cases h0 : k = 0
  · subst h0; simp at h; obtain ⟨rfl, rfl⟩ := h; exact .inl rfl
  · by_cases h1 : k = 1
    · subst h1; simp at h; subst h; exact .inr (.inl ⟨rfl, rfl⟩)
    · by_cases h2 : k = 2
      · subst h2; simp at h; obtain ⟨⟨rfl, h4⟩, h5⟩ := h
        refine .inr (.inr (.inl ⟨rfl, rfl, h4, ?_⟩))
        rw [List.any_eq_false]
        intro x hx
        simp [h5 x hx]
      · by_cases h3 : k = 3
        · subst h3; simp at h; obtain ⟨h4, rfl⟩ := h; exact .inr (.inr (.inr ⟨rfl, h4, rfl⟩))
        · simp [h0, h1, h2, h3] at h

theorem beN_be8 (u : Nat) (h : u < 18446744073709551616) : beN (be8 u 8) = u := by
  simp only [be8, beN, List.range, List.range.loop, List.map, List.foldl, UInt8.toNat_ofNat']
  omega

theorem cutZero_text (s u : List UInt8) (h : s.any oddByte = false) : cutZero (s ++ 0 :: u) = some (s, u) := by
  induction s with
  | nil => simp [cutZero]
  | cons c r ih =>
    simp only [List.any_cons, Bool.or_eq_false_iff] at h
    have hc : c ≠ 0 := by
      rintro rfl
      exact absurd h.1 (by decide)
    rw [List.cons_append, cutZero, if_neg hc, ih h.2]

theorem code_null : (⟨0, 0, []⟩ : V).code = [0] := by decide
theorem code_int (i : Int) : (⟨1, i, []⟩ : V).code = 1 :: be8 (i + 9223372036854775808).toNat 8 := by
  simp [V.code, codeV, mayB]
theorem code_text (s : List UInt8) (h1 : s.length ≤ 40) (h2 : s.any oddByte = false) : (⟨2, 0, s⟩ : V).code = 2 :: s ++ [0] := by
  simp [V.code, codeV, mayB, h1]
  intro x hx
  have := List.any_eq_false.1 h2 x hx
  simpa using this
theorem code_bool (i : Int) (h : i = 0 ∨ i = 1) : (⟨3, i, []⟩ : V).code = [3, UInt8.ofNat i.toNat] := by
  rcases h with rfl | rfl <;> decide

/-- A value's octets are read as it was, whatever stands behind them. -/
theorem first_code (v : V) (u : List UInt8) (h : v.may = true) (hr : v.rng) : firstF (v.code ++ u) = (v, (v.code.length : Int), 0) := by
  rcases may_cases v h with rfl | ⟨hk, hs⟩ | ⟨hk, hi, hl, ho⟩ | ⟨hk, hi, hs⟩
  · rw [code_null]
    simp [firstF, mayB]
  · obtain ⟨k, i, s⟩ := v
    simp only at hk hs
    subst hk hs
    unfold V.rng at hr
    simp only at hr
    rw [code_int]
    have hlen : (be8 (i + 9223372036854775808).toNat 8).length = 8 := by simp [be8]
    have htk : List.take 8 (be8 (i + 9223372036854775808).toNat 8 ++ u) = be8 (i + 9223372036854775808).toNat 8 := by
      rw [List.take_append_of_le_length (by omega), List.take_of_length_le (by omega)]
    rw [List.cons_append]
    simp only [firstF, if_true]
    rw [if_pos (by rw [List.length_append]; omega), htk, beN_be8 _ (by omega)]
    rw [show (((i + 9223372036854775808).toNat : Int)) - 9223372036854775808 = i by omega, List.length_cons, hlen]
    rfl
  · obtain ⟨k, i, s⟩ := v
    simp only at hk hi hl ho
    subst hk hi
    rw [code_text s hl ho, List.cons_append, List.cons_append, List.append_assoc]
    have hm : mayB 2 0 s = true := h
    simp only [firstF]
    rw [if_neg (by decide), if_pos trivial, List.singleton_append, cutZero_text s u ho]
    simp only [hm, if_true]
    refine congrArg (fun n : Int => ((⟨2, 0, s⟩ : V), n, (0 : Int))) ?_
    simp only [List.length_cons, List.length_append, List.length_nil]
    omega
  · obtain ⟨k, i, s⟩ := v
    simp only at hk hi hs
    subst hk hs
    rw [code_bool i hi]
    rcases hi with rfl | rfl <;> simp [firstF, mayB]

theorem code_pos (v : V) : v.code ≠ [] := by
  unfold V.code codeV
  repeat' split
  all_goals simp

/-- Rows of values that may be, and that have the same octets, are the same. -/
theorem flat_inj : ∀ (a b : List V), a.all V.may = true → b.all V.may = true → (∀ v ∈ a, v.rng) → (∀ v ∈ b, v.rng) → a.flatMap V.code = b.flatMap V.code → a = b
  | [], [], _, _, _, _, _ => rfl
  | [], y :: t, _, _, _, _, h => by
    rw [List.flatMap_cons] at h
    exact absurd (List.append_eq_nil_iff.1 h.symm).1 (code_pos y)
  | x :: r, [], _, _, _, _, h => by
    rw [List.flatMap_cons] at h
    exact absurd (List.append_eq_nil_iff.1 h).1 (code_pos x)
  | x :: r, y :: t, ha, hb, ra, rb, h => by
    simp only [List.all_cons, Bool.and_eq_true] at ha hb
    rw [List.flatMap_cons, List.flatMap_cons] at h
    have h1 := first_code x (r.flatMap V.code) ha.1 (ra x (by simp))
    have h2 := first_code y (t.flatMap V.code) hb.1 (rb y (by simp))
    rw [h, h2] at h1
    have hxy : y = x := congrArg Prod.fst h1
    subst hxy
    have := flat_inj r t ha.2 hb.2 (fun v hv => ra v (by simp [hv])) (fun v hv => rb v (by simp [hv])) (List.append_cancel_left h)
    rw [this]

theorem veq_iff (a b : V) : veq a b = true ↔ a = b := by
  obtain ⟨k, i, s⟩ := a
  obtain ⟨k', i', s'⟩ := b
  simp [veq]

theorem rowSame_iff : ∀ (a b : List V), rowSame a b = true ↔ a = b
  | [], [] => by simp [rowSame]
  | [], _ :: _ => by simp [rowSame]
  | _ :: _, [] => by simp [rowSame]
  | a :: r, b :: t => by simp [rowSame, veq_iff, rowSame_iff r t]

theorem rowOk_all {l : List V} (h : rowOk l = true) : l.all V.may = true := by
  simp only [rowOk, Bool.and_eq_true] at h
  exact h.2

theorem apart_law (a b : List V) (ha : rowOk a = true) (hb : rowOk b = true) (ra : ∀ v ∈ a, v.rng) (rb : ∀ v ∈ b, v.rng) : (rowS a == rowS b) = rowSame a b := by
  rw [Bool.eq_iff_iff, rowSame_iff, beq_iff_eq]
  unfold rowS
  rw [ha, hb]
  constructor
  · exact flat_inj a b (rowOk_all ha) (rowOk_all hb) ra rb
  · rintro rfl; rfl

end Go.Proofs.Ytkeeekifejholaa
