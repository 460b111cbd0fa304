/- Plain laws of the order of octets: the octets of values that may be, and of rows of as many values, stand in the values' own order. -/
import Derived.Test.YtkeeekifejholaaCodeLaw
namespace Go.Proofs.Ytkeeekifejholaa

/-- a and b part at some place, where a's octet is the lesser one. -/
def DL (a b : List UInt8) : Prop := ∃ p x y a' b', a = p ++ x :: a' ∧ b = p ++ y :: b' ∧ x < y

theorem DL.cons (c : UInt8) {a b : List UInt8} (h : DL a b) : DL (c :: a) (c :: b) := by
  obtain ⟨p, x, y, a', b', rfl, rfl, hxy⟩ := h
  exact ⟨c :: p, x, y, a', b', rfl, rfl, hxy⟩
theorem DL.append {a b : List UInt8} (h : DL a b) (u v : List UInt8) : DL (a ++ u) (b ++ v) := by
  obtain ⟨p, x, y, a', b', rfl, rfl, hxy⟩ := h
  exact ⟨p, x, y, a' ++ u, b' ++ v, by simp, by simp, hxy⟩
theorem DL.pre (p : List UInt8) {a b : List UInt8} (h : DL a b) : DL (p ++ a) (p ++ b) := by
  induction p with
  | nil => exact h
  | cons c p ih => exact ih.cons c
theorem DL.less {a b : List UInt8} (h : DL a b) : Op.bytesLess a b = true := by
  obtain ⟨p, x, y, a', b', rfl, rfl, hxy⟩ := h
  induction p with
  | nil => simp [Op.bytesLess, hxy]
  | cons c p ih => simpa [Op.bytesLess] using ih
theorem DL.not {a b : List UInt8} (h : DL a b) : Op.bytesLess b a = false := by
  obtain ⟨p, x, y, a', b', rfl, rfl, hxy⟩ := h
  induction p with
  | nil =>
    have : ¬ y < x := by rw [UInt8.lt_iff_toNat_lt] at hxy ⊢; omega
    have h2 : ¬ y = x := by rintro rfl; exact absurd hxy (by rw [UInt8.lt_iff_toNat_lt]; omega)
    simp [Op.bytesLess, this, h2]
  | cons c p ih => simpa [Op.bytesLess] using ih
theorem DL.ne {a b : List UInt8} (h : DL a b) : a ≠ b := by
  rintro rfl
  have h1 := h.less
  rw [h.not] at h1
  cases h1

theorem bytesLess_self (a : List UInt8) : Op.bytesLess a a = false := by
  induction a with
  | nil => rfl
  | cons c r ih => simpa [Op.bytesLess] using ih

def beL : Nat → Nat → List UInt8
  | 0, _ => []
  | n + 1, u => UInt8.ofNat (u / 256 ^ n) :: beL n (u % 256 ^ n)

theorem beL_lt : ∀ (n u v : Nat), u < v → v < 256 ^ n → DL (beL n u) (beL n v)
  | 0, u, v, h, hv => by simp at hv; omega
  | n + 1, u, v, h, hv => by
    have hpos : 0 < 256 ^ n := Nat.pow_pos (by omega)
    have hv1 : v / 256 ^ n < 256 := by rw [Nat.div_lt_iff_lt_mul hpos]; rw [Nat.pow_succ] at hv; omega
    have hle : u / 256 ^ n ≤ v / 256 ^ n := Nat.div_le_div_right (by omega)
    by_cases he : u / 256 ^ n = v / 256 ^ n
    · unfold beL
      rw [he]
      refine (beL_lt n _ _ ?_ (Nat.mod_lt _ hpos)).cons _
      have h1 := Nat.div_add_mod u (256 ^ n)
      have h2 := Nat.div_add_mod v (256 ^ n)
      rw [he] at h1
      omega
    · refine ⟨[], _, _, _, _, rfl, rfl, ?_⟩
      rw [UInt8.lt_iff_toNat_lt, UInt8.toNat_ofNat', UInt8.toNat_ofNat', Nat.mod_eq_of_lt (by omega), Nat.mod_eq_of_lt (by omega)]
      omega

theorem u8_eq {a b : Nat} (h : a % 256 = b % 256) : UInt8.ofNat a = UInt8.ofNat b := by
  apply UInt8.toNat_inj.1
  rw [UInt8.toNat_ofNat', UInt8.toNat_ofNat']
  exact h

theorem be8_eq (u : Nat) : be8 u 8 = beL 8 u := by
  simp only [be8, List.range, List.range.loop, List.map, beL]
  refine List.cons_eq_cons.2 ⟨u8_eq (by omega), List.cons_eq_cons.2 ⟨u8_eq (by omega), List.cons_eq_cons.2 ⟨u8_eq (by omega), List.cons_eq_cons.2 ⟨u8_eq (by omega), List.cons_eq_cons.2 ⟨u8_eq (by omega), List.cons_eq_cons.2 ⟨u8_eq (by omega), List.cons_eq_cons.2 ⟨u8_eq (by omega), List.cons_eq_cons.2 ⟨u8_eq (by omega), rfl⟩⟩⟩⟩⟩⟩⟩⟩

theorem text_lt : ∀ (s t : List UInt8), s.any oddByte = false → t.any oddByte = false → Op.bytesLess s t = true → DL (s ++ [0]) (t ++ [0])
  | s, [], _, _, h => by cases s <;> simp [Op.bytesLess] at h
  | [], y :: t, _, ht, _ => by
    simp only [List.any_cons, Bool.or_eq_false_iff] at ht
    refine ⟨[], 0, y, [], t ++ [0], rfl, rfl, ?_⟩
    have := ht.1
    simp only [oddByte, oddB, Bool.or_eq_false_iff, decide_eq_false_iff_not] at this
    rw [UInt8.lt_iff_toNat_lt]
    show 0 < y.toNat
    omega
  | x :: s, y :: t, hs, ht, h => by
    simp only [List.any_cons, Bool.or_eq_false_iff] at hs ht
    simp only [Op.bytesLess, Bool.or_eq_true, decide_eq_true_eq, Bool.and_eq_true, beq_iff_eq] at h
    rcases h with h | ⟨rfl, h⟩
    · exact ⟨[], x, y, s ++ [0], t ++ [0], rfl, rfl, h⟩
    · exact (text_lt s t hs.2 ht.2 h).cons x

/-- The octets of values that may be stand in the values' order. -/
theorem code_lt (a b : V) (ha : a.may = true) (hb : b.may = true) (ra : a.rng) (rb : b.rng) (h : vlt a b = true) : DL a.code b.code := by
  obtain ⟨k, i, s⟩ := a
  obtain ⟨k', i', s'⟩ := b
  simp only [vlt, Bool.or_eq_true, Bool.and_eq_true, decide_eq_true_eq] at h
  simp only [V.rng] at ra rb
  rcases may_cases _ ha with ea | ⟨hk, hs⟩ | ⟨hk, hi, hl, ho⟩ | ⟨hk, hi, hs⟩ <;>
  rcases may_cases _ hb with eb | ⟨hk', hs'⟩ | ⟨hk', hi', hl', ho'⟩ | ⟨hk', hi', hs'⟩
  all_goals simp only [V.mk.injEq] at *
  · obtain ⟨rfl, rfl, rfl⟩ := ea; obtain ⟨rfl, rfl, rfl⟩ := eb; simp [Op.bytesLess] at h
  · obtain ⟨rfl, rfl, rfl⟩ := ea; subst hk' hs'; rw [code_null, code_int]; exact ⟨[], _, _, _, _, rfl, rfl, by decide⟩
  · obtain ⟨rfl, rfl, rfl⟩ := ea; subst hk' hi'; rw [code_null, code_text _ hl' ho']; exact ⟨[], _, _, _, _, rfl, rfl, by decide⟩
  · obtain ⟨rfl, rfl, rfl⟩ := ea; subst hk' hs'; rw [code_null, code_bool _ hi']; exact ⟨[], _, _, _, _, rfl, rfl, by decide⟩
  · obtain ⟨rfl, rfl, rfl⟩ := eb; omega
  · subst hk hs hk' hs'
    simp [Op.bytesLess] at h
    rw [code_int, code_int, be8_eq, be8_eq]
    refine (beL_lt 8 _ _ ?_ ?_).cons 1
    · omega
    · omega
  · subst hk hs hk' hi'; rw [code_int, code_text _ hl' ho']; exact ⟨[], _, _, _, _, rfl, rfl, by decide⟩
  · subst hk hs hk' hs'; rw [code_int, code_bool _ hi']; exact ⟨[], _, _, _, _, rfl, rfl, by decide⟩
  · obtain ⟨rfl, rfl, rfl⟩ := eb; omega
  · omega
  · subst hk hi hk' hi'
    simp at h
    rw [code_text _ hl ho, code_text _ hl' ho']
    exact (text_lt s s' ho ho' h).cons 2
  · subst hk hi hk' hs'; rw [code_text _ hl ho, code_bool _ hi']; exact ⟨[], _, _, _, _, rfl, rfl, by decide⟩
  · obtain ⟨rfl, rfl, rfl⟩ := eb; omega
  · omega
  · omega
  · subst hk hs hk' hs'
    simp [Op.bytesLess] at h
    rw [code_bool _ hi, code_bool _ hi']
    rcases hi with rfl | rfl <;> rcases hi' with rfl | rfl <;> first | (exfalso; omega) | exact ⟨[3], _, _, _, _, rfl, rfl, by decide⟩

theorem less_tri : ∀ (s t : List UInt8), s = t ∨ (Op.bytesLess s t = true ∧ Op.bytesLess t s = false ∧ s ≠ t) ∨ (Op.bytesLess t s = true ∧ Op.bytesLess s t = false ∧ s ≠ t)
  | [], [] => .inl rfl
  | [], y :: t => .inr (.inl ⟨rfl, rfl, by simp⟩)
  | x :: s, [] => .inr (.inr ⟨rfl, rfl, by simp⟩)
  | x :: s, y :: t => by
    rcases Nat.lt_trichotomy x.toNat y.toNat with h | h | h
    · have h1 : x < y := by rw [UInt8.lt_iff_toNat_lt]; exact h
      have h2 : ¬ y < x := by rw [UInt8.lt_iff_toNat_lt]; omega
      have h3 : ¬ y = x := by rintro rfl; omega
      have h4 : ¬ x = y := by rintro rfl; omega
      exact .inr (.inl ⟨by simp [Op.bytesLess, h1], by simp [Op.bytesLess, h2, h3], by simp [h4]⟩)
    · have hxy : x = y := UInt8.toNat_inj.1 h
      subst hxy
      have hn : ¬ x < x := by rw [UInt8.lt_iff_toNat_lt]; omega
      rcases less_tri s t with rfl | ⟨h1, h2, h3⟩ | ⟨h1, h2, h3⟩
      · exact .inl rfl
      · exact .inr (.inl ⟨by simp [Op.bytesLess, h1], by simp [Op.bytesLess, h2, hn], by simp [h3]⟩)
      · exact .inr (.inr ⟨by simp [Op.bytesLess, h1], by simp [Op.bytesLess, h2, hn], by simp [h3]⟩)
    · have h1 : y < x := by rw [UInt8.lt_iff_toNat_lt]; exact h
      have h2 : ¬ x < y := by rw [UInt8.lt_iff_toNat_lt]; omega
      have h3 : ¬ x = y := by rintro rfl; omega
      exact .inr (.inr ⟨by simp [Op.bytesLess, h1], by simp [Op.bytesLess, h2, h3], by simp [h3]⟩)

theorem vlt_total (a b : V) : veq a b = true ∨ (vlt a b = true ∧ veq a b = false) ∨ (vlt b a = true ∧ vlt a b = false ∧ veq a b = false) := by
  obtain ⟨k, i, s⟩ := a
  obtain ⟨k', i', s'⟩ := b
  rcases Int.lt_trichotomy k k' with h | rfl | h
  · exact .inr (.inl ⟨by simp [vlt, h], by simp [veq]; omega⟩)
  · rcases Int.lt_trichotomy i i' with h | rfl | h
    · exact .inr (.inl ⟨by simp [vlt, h], by simp [veq]; omega⟩)
    · rcases less_tri s s' with rfl | ⟨h1, h2, h3⟩ | ⟨h1, h2, h3⟩
      · exact .inl (by simp [veq])
      · exact .inr (.inl ⟨by simp [vlt, h1], by simp [veq, h3]⟩)
      · exact .inr (.inr ⟨by simp [vlt, h1], by simp [vlt, h2], by simp [veq, h3]⟩)
    · exact .inr (.inr ⟨by simp [vlt, h], by simp [vlt]; omega, by simp [veq]; omega⟩)
  · exact .inr (.inr ⟨by simp [vlt, h], by simp [vlt]; omega, by simp [veq]; omega⟩)

/-- How two values that may be stand, in their octets and in the document's order. -/
theorem code_tri (a b : V) (ha : a.may = true) (hb : b.may = true) (ra : a.rng) (rb : b.rng) :
    (a = b ∧ vord a b = 0) ∨ (DL a.code b.code ∧ vord a b = -1) ∨ (DL b.code a.code ∧ vord a b = 1) := by
  rcases vlt_total a b with h | ⟨h1, h2⟩ | ⟨h1, h2, h3⟩
  · exact .inl ⟨(veq_iff a b).1 h, by simp [vord, h]⟩
  · exact .inr (.inl ⟨code_lt a b ha hb ra rb h1, by simp [vord, h1, h2]⟩)
  · exact .inr (.inr ⟨code_lt b a hb ha rb ra h1, by simp [vord, h2, h3]⟩)

theorem good_self (v : V) (h : v.may = true) : goodV v.k v.i v.s = v := by
  unfold goodV
  unfold V.may at h
  rw [h]
  rfl
theorem ord_self (a b : V) (ha : a.may = true) (hb : b.may = true) : V.ord a b = vord a b := by
  unfold V.ord
  rw [good_self a ha, good_self b hb]

theorem value_order (a b : V) (ha : a.may = true) (hb : b.may = true) (ra : a.rng) (rb : b.rng) :
    Op.bytesLess a.code b.code = decide (V.ord a b < 0) ∧ (a.code == b.code) = (V.ord a b == 0) := by
  rw [ord_self a b ha hb]
  rcases code_tri a b ha hb ra rb with ⟨rfl, h⟩ | ⟨h1, h⟩ | ⟨h1, h⟩
  · rw [h, bytesLess_self]; simp
  · rw [h, h1.less]; simp [h1.ne]
  · rw [h, h1.not]; simp [h1.ne.symm]

theorem row_tri : ∀ (a b : List V), a.length = b.length → a.all V.may = true → b.all V.may = true → (∀ v ∈ a, v.rng) → (∀ v ∈ b, v.rng) →
    (a = b ∧ rowOrd a b = 0) ∨ (DL (a.flatMap V.code) (b.flatMap V.code) ∧ rowOrd a b = -1) ∨ (DL (b.flatMap V.code) (a.flatMap V.code) ∧ rowOrd a b = 1)
  | [], [], _, _, _, _, _ => .inl ⟨rfl, rfl⟩
  | [], _ :: _, h, _, _, _, _ => by simp at h
  | _ :: _, [], h, _, _, _, _ => by simp at h
  | x :: r, y :: t, hl, ha, hb, ra, rb => by
    simp only [List.all_cons, Bool.and_eq_true] at ha hb
    simp only [List.length_cons, Nat.add_right_cancel_iff] at hl
    rw [List.flatMap_cons, List.flatMap_cons]
    simp only [rowOrd]
    rw [ord_self x y ha.1 hb.1]
    rcases code_tri x y ha.1 hb.1 (ra x (by simp)) (rb y (by simp)) with ⟨rfl, h⟩ | ⟨h1, h⟩ | ⟨h1, h⟩
    · rw [h]
      rcases row_tri r t hl ha.2 hb.2 (fun v hv => ra v (by simp [hv])) (fun v hv => rb v (by simp [hv])) with ⟨rfl, h⟩ | ⟨h1, h⟩ | ⟨h1, h⟩
      · exact .inl ⟨rfl, by simp [h]⟩
      · exact .inr (.inl ⟨h1.pre _, by simp [h]⟩)
      · exact .inr (.inr ⟨h1.pre _, by simp [h]⟩)
    · rw [h]; exact .inr (.inl ⟨h1.append _ _, by simp⟩)
    · rw [h]; exact .inr (.inr ⟨h1.append _ _, by simp⟩)

theorem row_order (a b : List V) (hl : a.length = b.length) (ha : rowOk a = true) (hb : rowOk b = true) (ra : ∀ v ∈ a, v.rng) (rb : ∀ v ∈ b, v.rng) :
    Op.bytesLess (rowS a) (rowS b) = decide (rowOrd a b < 0) ∧ (rowS a == rowS b) = (rowOrd a b == 0) := by
  unfold rowS
  rw [ha, hb]
  simp only [if_true]
  rcases row_tri a b hl (rowOk_all ha) (rowOk_all hb) ra rb with ⟨rfl, h⟩ | ⟨h1, h⟩ | ⟨h1, h⟩
  · rw [h, bytesLess_self]; simp
  · rw [h, h1.less]; simp [h1.ne]
  · rw [h, h1.not]; simp [h1.ne.symm]

end Go.Proofs.Ytkeeekifejholaa
