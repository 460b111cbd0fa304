/- Plain facts on marking: bits that are set, units that differ, the order of marks. Nothing of the program stands here. -/
import Derived.Test.YtkeeekifejholaaTrackLaw
namespace Go.Proofs.Ytkeeekifejholaa

theorem testBit_or_pow (x : UInt8) (m j : Nat) (hm : m < 8) : (x ||| UInt8.ofNat (2 ^ m)).toNat.testBit j = (x.toNat.testBit j || decide (m = j)) := by
  have hp : 2 ^ m < 256 := Nat.lt_of_le_of_lt (Nat.pow_le_pow_right (by omega) (show m ≤ 7 by omega)) (by decide)
  rw [UInt8.toNat_or, UInt8.toNat_ofNat', Nat.mod_eq_of_lt hp, Nat.testBit_or, Nat.testBit_two_pow]

theorem setBit_length (t : List UInt8) (k : Nat) : (setBit t k).length = t.length := by simp [setBit]

theorem bitB_setBit (t : List UInt8) (k i : Nat) (hk : k / 8 < t.length) : bitB (setBit t k) i = (bitB t i || decide (k = i)) := by
  unfold bitB setBit
  by_cases h : k / 8 = i / 8
  · have hg : (t.set (k / 8) (t.getD (k / 8) 0 ||| UInt8.ofNat (2 ^ (k % 8)))).getD (i / 8) 0 = (t.getD (k / 8) 0 ||| UInt8.ofNat (2 ^ (k % 8))) := by
      rw [List.getD_eq_getElem?_getD, ← h, List.getElem?_set_self hk]; rfl
    rw [hg, testBit_or_pow _ _ _ (Nat.mod_lt _ (by omega)), h]
    congr 1
    by_cases h2 : k % 8 = i % 8
    · have : k = i := by omega
      subst this; simp
    · have : k ≠ i := fun e => h2 (by rw [e])
      simp [h2, this]
  · have hg : (t.set (k / 8) (t.getD (k / 8) 0 ||| UInt8.ofNat (2 ^ (k % 8)))).getD (i / 8) 0 = t.getD (i / 8) 0 := by
      rw [List.getD_eq_getElem?_getD, List.getElem?_set_ne h, ← List.getD_eq_getElem?_getD]
    rw [hg]
    have : k ≠ i := fun e => h (by rw [e])
    simp [this]

theorem bits_ext (a b : List UInt8) (hl : a.length = b.length) (h : ∀ i, bitB a i = bitB b i) : a = b := by
  apply List.ext_getElem hl
  intro n h1 h2
  apply UInt8.toNat_inj.1
  apply Nat.eq_of_testBit_eq
  intro j
  by_cases hj : j < 8
  · have := h (8 * n + j)
    unfold bitB at this
    rw [show (8 * n + j) / 8 = n by omega, show (8 * n + j) % 8 = j by omega] at this
    rw [List.getD_eq_getElem?_getD, List.getD_eq_getElem?_getD, List.getElem?_eq_getElem h1, List.getElem?_eq_getElem h2] at this
    exact this
  · have key : ∀ x : UInt8, x.toNat.testBit j = false := fun x => Nat.testBit_lt_two_pow (Nat.lt_of_lt_of_le (UInt8.toNat_lt x) (Nat.pow_le_pow_right (by omega) (show 8 ≤ j by omega)))
    rw [key, key]

theorem setBit_comm (t : List UInt8) (i j : Nat) (hi : i / 8 < t.length) (hj : j / 8 < t.length) : setBit (setBit t i) j = setBit (setBit t j) i := by
  apply bits_ext
  · simp [setBit_length]
  · intro n
    rw [bitB_setBit _ _ _ (by rw [setBit_length]; exact hj), bitB_setBit _ _ _ hi, bitB_setBit _ _ _ (by rw [setBit_length]; exact hi), bitB_setBit _ _ _ hj]
    cases bitB t n <;> cases decide (i = n) <;> cases decide (j = n) <;> rfl
theorem setBit_same (t : List UInt8) (i : Nat) (hi : i / 8 < t.length) (h : bitB t i = true) : setBit t i = t := by
  apply bits_ext
  · simp [setBit_length]
  · intro n
    rw [bitB_setBit _ _ _ hi]
    by_cases e : i = n
    · subst e; simp [h]
    · simp [e]

theorem bless_tr : ∀ (a b c : List UInt8), Op.bytesLess a b = true → Op.bytesLess b c = true → Op.bytesLess a c = true
  | a, b, [], _, h2 => by cases b <;> simp [Op.bytesLess] at h2
  | a, [], _ :: _, h1, _ => by cases a <;> simp [Op.bytesLess] at h1
  | [], _ :: _, _ :: _, _, _ => rfl
  | x :: a, y :: b, z :: c, h1, h2 => by
    simp only [Op.bytesLess, Bool.or_eq_true, decide_eq_true_eq, Bool.and_eq_true, beq_iff_eq] at h1 h2 ⊢
    rcases h1 with h1 | ⟨e1, h1⟩
    · rcases h2 with h2 | ⟨e2, h2⟩
      · exact .inl (UInt8.lt_trans h1 h2)
      · exact .inl (e2 ▸ h1)
    · rcases h2 with h2 | ⟨e2, h2⟩
      · exact .inl (e1 ▸ h2)
      · exact .inr ⟨e1.trans e2, bless_tr a b c h1 h2⟩

/-- The order of values, strictly. -/
def ltV (a b : V) : Prop := a.k < b.k ∨ (a.k = b.k ∧ (a.i < b.i ∨ (a.i = b.i ∧ Op.bytesLess a.s b.s = true)))
theorem ltV_trans {a b c : V} (h1 : ltV a b) (h2 : ltV b c) : ltV a c := by
  unfold ltV at *
  rcases h1 with h1 | ⟨e1, h1 | ⟨f1, h1⟩⟩ <;> rcases h2 with h2 | ⟨e2, h2 | ⟨f2, h2⟩⟩
  all_goals first | (left; omega) | (right; refine ⟨by omega, ?_⟩; first | (left; omega) | (right; exact ⟨by omega, bless_tr _ _ _ h1 h2⟩))
theorem ltV_irrefl (a : V) : ¬ ltV a a := by
  unfold ltV
  rintro (h | ⟨_, h | ⟨_, h⟩⟩)
  · omega
  · omega
  · rw [bless_self] at h; cases h
theorem ltV_of_cord {a b : V} (h : ¬ 0 ≤ cord a b) : ltV a b := by
  unfold cord or3 cmpI cmpS at h
  unfold ltV
  by_cases h1 : a.k < b.k
  · exact .inl h1
  · by_cases h2 : b.k < a.k
    · simp [h1, h2] at h
    · refine .inr ⟨by omega, ?_⟩
      simp only [h1, h2, if_false] at h
      by_cases h3 : a.i < b.i
      · exact .inl h3
      · by_cases h4 : b.i < a.i
        · simp [h3, h4] at h
        · refine .inr ⟨by omega, ?_⟩
          simp only [h3, h4, if_false] at h
          by_cases h5 : a.s = b.s
          · simp [h5] at h
          · simp only [h5, if_false] at h
            cases h6 : Op.bytesLess a.s b.s
            · simp [h6] at h
            · rfl

theorem rise_lt : ∀ (l : List V) (p : V), p.may = true → riseFrom (some p) l = true → (∀ v ∈ l, ltV p v) ∧ l.Pairwise ltV ∧ ∀ v ∈ l, v.may = true
  | [], _, _, _ => ⟨by simp, .nil, by simp⟩
  | u :: r, p, hp, h => by
    simp only [riseFrom, Bool.and_eq_true, Bool.not_eq_true', decide_eq_false_iff_not] at h
    obtain ⟨⟨⟨h1, h2⟩, h3⟩, h4⟩ := h
    rw [V.good_may hp, V.good_may h1] at h3
    have hlt := ltV_of_cord h3
    obtain ⟨a1, a2, a3⟩ := rise_lt r u h1 h4
    refine ⟨fun v hv => ?_, .cons a1 a2, fun v hv => ?_⟩
    · rcases List.mem_cons.1 hv with rfl | hv
      · exact hlt
      · exact ltV_trans hlt (a1 v hv)
    · rcases List.mem_cons.1 hv with rfl | hv
      · exact h1
      · exact a3 v hv
theorem rises_lt {l : List V} (h : risesB l = true) : l.Pairwise ltV ∧ ∀ v ∈ l, v.may = true := by
  unfold risesB at h
  simp only [Bool.and_eq_true] at h
  cases l with
  | nil => exact ⟨.nil, by simp⟩
  | cons u r =>
    have h2 := h.2
    simp only [riseFrom, Bool.and_eq_true] at h2
    obtain ⟨⟨h1, _⟩, h4⟩ := h2
    obtain ⟨a1, a2, a3⟩ := rise_lt r u h1 h4
    refine ⟨.cons a1 a2, fun v hv => ?_⟩
    rcases List.mem_cons.1 hv with rfl | hv
    · exact h1
    · exact a3 v hv
theorem veq_iff {a b : V} : veq a b = true ↔ a = b := by
  unfold veq
  simp only [Bool.and_eq_true, decide_eq_true_eq, beq_iff_eq]
  constructor
  · rintro ⟨h1, h2, h3⟩; cases a; cases b; simp_all
  · rintro rfl; exact ⟨rfl, rfl, rfl⟩

theorem posFrom_at : ∀ (l : List V) (k n : Nat) (v : V), l.Pairwise ltV → l[k]? = some v → posFrom v l n = ((n + k : Nat) : Int)
  | [], k, n, v, _, h => by simp at h
  | u :: r, 0, n, v, _, h => by
    simp at h; subst h
    unfold posFrom
    rw [if_pos (veq_iff.2 rfl)]; simp
  | u :: r, k + 1, n, v, hp, h => by
    simp at h
    rw [List.pairwise_cons] at hp
    unfold posFrom
    rw [if_neg, posFrom_at r k (n + 1) v hp.2 h]
    · congr 1; omega
    · intro e
      have e' := veq_iff.1 e
      have := hp.1 v (List.mem_of_getElem? h)
      rw [e'] at this
      exact ltV_irrefl _ this
theorem posF_at {l : List V} {k : Nat} {v : V} (h : risesB l = true) (hk : l[k]? = some v) : posF l v = (k : Int) := by
  unfold posF
  rw [posFrom_at l k 0 v (rises_lt h).1 hk]; simp

theorem chk_rises {u : List V} {t : List UInt8} (h : chkB u t = true) : risesB u = true := by
  simp only [chkB, Bool.and_eq_true] at h; exact h.1.1
theorem freeB_iff (t : List UInt8) : ∀ (n i : Nat), freeB t i n = true ↔ ∀ j, i ≤ j → j < i + n → bitB t j = false
  | 0, i => by simp [freeB]; omega
  | n + 1, i => by
    simp only [freeB, Bool.and_eq_true, Bool.not_eq_true', freeB_iff t n (i + 1)]
    constructor
    · rintro ⟨h1, h2⟩ j hj1 hj2
      by_cases e : j = i
      · rw [e]; exact h1
      · exact h2 j (by omega) (by omega)
    · intro h
      exact ⟨h i (by omega) (by omega), fun j h1 h2 => h j (by omega) (by omega)⟩
theorem chk_set {u : List V} {t : List UInt8} {k : Nat} (h : chkB u t = true) (hk : k < u.length) : chkB u (setBit t k) = true := by
  have hl := chk_len h
  simp only [chkB, Bool.and_eq_true] at h ⊢
  rw [setBit_length]
  refine ⟨h.1, ?_⟩
  rw [freeB_iff] at h ⊢
  intro j h1 h2
  rw [bitB_setBit _ _ _ (by omega), h.2 j h1 h2]
  simp; omega
theorem bitB_zero (n i : Nat) : bitB (List.replicate n 0) i = false := by
  unfold bitB
  rw [List.getD_eq_getElem?_getD, List.getElem?_replicate]
  split <;> simp
theorem chk_new {u : List V} (h : risesB u = true) : chkB u (List.replicate ((u.length + 7) / 8) 0) = true := by
  simp only [chkB, Bool.and_eq_true]
  refine ⟨⟨h, by simp⟩, ?_⟩
  rw [freeB_iff]
  intro j _ _
  exact bitB_zero _ _

/-- What marking the unit of a place comes to. -/
theorem mark_at {u : List V} {t : List UInt8} {k : Nat} {v : V} (h : chkB u t = true) (hk : u[k]? = some v) :
    markF u t v = if bitB t k then (([], []), 7) else ((u, setBit t k), 0) := by
  have hp := posF_at (chk_rises h) hk
  unfold markF doneF
  rw [h, hp]
  have : ¬ ((k : Int) < 0) := by omega
  simp [this]
theorem done_at {u : List V} {t : List UInt8} {k : Nat} {v : V} (h : chkB u t = true) (hk : u[k]? = some v) : doneF u t v = (bitB t k, 0) := by
  have hp := posF_at (chk_rises h) hk
  unfold doneF
  rw [h, hp]
  have : ¬ ((k : Int) < 0) := by omega
  simp [this]

/-- Places that are marked, the first one first. -/
def marksL (t : List UInt8) (l : List Nat) : List UInt8 := l.foldl setBit t
def marksR (t : List UInt8) (l : List Nat) : List UInt8 := l.foldr (fun k x => setBit x k) t
theorem marksR_length (t : List UInt8) (l : List Nat) : (marksR t l).length = t.length := by
  unfold marksR
  induction l with
  | nil => rfl
  | cons k r ih => rw [List.foldr_cons, setBit_length, ih]
theorem marksL_set (k : Nat) : ∀ (l : List Nat) (t : List UInt8), k / 8 < t.length → (∀ j ∈ l, j / 8 < t.length) → marksL (setBit t k) l = setBit (marksL t l) k := by
  intro l
  induction l with
  | nil => intro t _ _; rfl
  | cons j r ih =>
    intro t hk h
    show marksL (setBit (setBit t k) j) r = setBit (marksL (setBit t j) r) k
    rw [setBit_comm t k j hk (h j (by simp)), ih (setBit t j) (by rw [setBit_length]; exact hk) (fun i hi => by rw [setBit_length]; exact h i (by simp [hi]))]
theorem marks_same (t : List UInt8) (l : List Nat) (h : ∀ j ∈ l, j / 8 < t.length) : marksL t l = marksR t l := by
  induction l with
  | nil => rfl
  | cons k r ih =>
    show marksL (setBit t k) r = setBit (marksR t r) k
    rw [marksL_set k r t (h k (by simp)) (fun j hj => h j (by simp [hj])), ih (fun j hj => h j (by simp [hj]))]
theorem marksL_snoc (t : List UInt8) (l : List Nat) (k : Nat) : marksL t (l ++ [k]) = setBit (marksL t l) k := by simp [marksL]
theorem marksR_cons (t : List UInt8) (l : List Nat) (k : Nat) : marksR t (k :: l) = setBit (marksR t l) k := rfl
theorem marksL_chk {u : List V} {t : List UInt8} (h : chkB u t = true) (l : List Nat) (hl : ∀ j ∈ l, j < u.length) : chkB u (marksL t l) = true := by
  induction l generalizing t with
  | nil => exact h
  | cons k r ih => exact ih (chk_set h (hl k (by simp))) (fun j hj => hl j (by simp [hj]))
theorem marksR_chk {u : List V} {t : List UInt8} (h : chkB u t = true) (l : List Nat) (hl : ∀ j ∈ l, j < u.length) : chkB u (marksR t l) = true := by
  induction l with
  | nil => exact h
  | cons k r ih => exact chk_set (ih (fun j hj => hl j (by simp [hj]))) (hl k (by simp))

/-- Is the unit of a place among those that are pending? -/
theorem pend_mem {u : List V} {t : List UInt8} {k : Nat} {v : V} (h : chkB u t = true) (hk : u[k]? = some v) : (pendF u t).any (fun x => veq x v) = !bitB t k := by
  have hd := (rises_lt (chk_rises h)).1
  unfold pendF
  rw [h, if_pos rfl]
  rw [Bool.eq_iff_iff, List.any_eq_true]
  simp only [Bool.not_eq_true']
  have hkl : k < u.length := (List.getElem?_eq_some_iff.1 hk).1
  have inj : ∀ i, u[i]? = some v → i = k := by
    intro i hi
    have h1 := posF_at (chk_rises h) hi
    have h2 := posF_at (chk_rises h) hk
    omega
  constructor
  · rintro ⟨x, hx, he⟩
    have := veq_iff.1 he
    subst this
    unfold pend unitsTo at hx
    simp only [List.mem_map, List.mem_filter, List.mem_range, Prod.exists] at hx
    obtain ⟨a, b, ⟨⟨i, hi, e⟩, hb⟩, rfl⟩ := hx
    simp only [Prod.mk.injEq] at e
    obtain ⟨e1, e2⟩ := e
    have : i = k := inj i (by rw [List.getElem?_eq_getElem hi, ← e1, List.getD_eq_getElem?_getD, List.getElem?_eq_getElem hi]; rfl)
    subst this
    rw [e2]
    simpa using hb
  · intro hb
    refine ⟨v, ?_, veq_iff.2 rfl⟩
    unfold pend unitsTo
    simp only [List.mem_map, List.mem_filter, List.mem_range, Prod.exists]
    exact ⟨v, false, ⟨⟨k, hkl, by rw [List.getD_eq_getElem?_getD, hk, hb]; rfl⟩, rfl⟩, rfl⟩

theorem pendF_length (u : List V) (t : List UInt8) : (pendF u t).length ≤ u.length := by
  unfold pendF
  split
  · exact Nat.le_trans (pend_length _) (by rw [unitsTo_length]; exact Nat.le_refl _)
  · simp
theorem any_snoc (l : List V) (k : Nat) (f : V → Bool) (p : V) (h : l[k]? = some p) : (l.take (k + 1)).any f = ((l.take k).any f || f p) := by
  rw [List.take_add_one, h]; simp

end Go.Proofs.Ytkeeekifejholaa
