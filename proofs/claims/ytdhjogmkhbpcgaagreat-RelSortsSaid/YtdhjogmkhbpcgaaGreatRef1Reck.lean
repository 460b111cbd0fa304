/- The document's apart, Equal, Less, Plus, Minus, as the same plain functions as value's. Condition: texts that memory reaches, numbers of 64 bits. -/
import Derived.Test.YtdhjogmkhbpcgaaGreatVal34M
import Derived.Test.YtdhjogmkhbpcgaaGreatRef1Logic
namespace Go.Proofs.YtdhjogmkhbpcgaaGreat
open Go.RowKit

attribute [local go_sem] ByteArray.extract_mk ba_get
attribute [local go_sem ↓] Go.wp_at_zero Go.wp_at_succ run_eql_V run_neq_V

set_option maxHeartbeats 1000000 in
theorem rapart_any (k i : Int) (s : List UInt8) (k' i' : Int) (s' : List UInt8) (w : World) (hs : s.length ≤ 140737488351232) (hs' : s'.length ≤ 140737488351232) :
    Calls Tryz.prog 108 #[.agg #[.int .i64 k, .int .i64 i, .string ⟨s.toArray⟩], .agg #[.int .i64 k', .int .i64 i', .string ⟨s'.toArray⟩]] w (Ret (.bool (!alikeB ⟨k, i, s⟩ ⟨k', i', s'⟩)) w) := by
  have l0 : w.heap.size < w.heap.size + 1 + 1 := by omega
  go_enter Tryz.func108, Tryz.ntmps108
  go_upto_region 1 with fail
  go_cut [] (fun wx => Two w.heap.size (goodV k i s) (goodV k' i' s') wx ∧ Below w.heap.size w wx)
  case first =>
    go_region_with (go_at_call 44; refine (good_any _ _ _ _ (by assumption)).mono ?_; rintro e w1 ⟨rfl, hb⟩; obtain ⟨hc, hf⟩ := bcell hb; have hz := hb.size; (try simp at hz hc hf); have l1 : w.heap.size < w1.heap.size := (by omega); have l2 : w.heap.size + 1 < w1.heap.size := (by omega))
    all_goals (go_wp2_with fail; go_meet)
    all_goals refine ⟨two_set w1 _ _ _ (.int .i64 k) (.int .i64 i) (.string ⟨s.toArray⟩) (.int .i64 k') (.int .i64 i') (.string ⟨s'.toArray⟩) ?_ ?_ ?_ ?_ ?_ ?_, ?_⟩
    all_goals first | (simp [*, go_sem]; done) | exact bl
  case rest =>
    obtain ⟨hcu, hbw⟩ := hcut
    obtain ⟨a, ha⟩ : ∃ a, goodV k i s = a := ⟨_, rfl⟩
    obtain ⟨b, hb⟩ : ∃ b, goodV k' i' s' = b := ⟨_, rfl⟩
    rw [ha, hb] at hcu
    have HA := Lib.hid ha
    have HB := Lib.hid hb
    clear ha hb
    obtain ⟨⟨a0, a1, a2⟩, b0, b1, b2⟩ := hcu
    go_wp2
    all_goals go_ret
    all_goals refine ⟨?_, hbw⟩
    all_goals simp only [alikeB]
    all_goals rw [HA.out, HB.out]
    all_goals go_light
    all_goals clear a0 a1 a2 b0 b1 b2 HA HB hbw
    all_goals simp_all
    all_goals (try (rw [Bool.eq_iff_iff]; simp; try omega))


set_option maxHeartbeats 1000000 in
theorem requal_any (k i : Int) (s : List UInt8) (k' i' : Int) (s' : List UInt8) (w : World) (hs : s.length ≤ 140737488351232) (hs' : s'.length ≤ 140737488351232) :
    Calls Tryz.prog 74 #[.agg #[.int .i64 k, .int .i64 i, .string ⟨s.toArray⟩], .agg #[.int .i64 k', .int .i64 i', .string ⟨s'.toArray⟩]] w (Ret (.agg #[.int .i64 (equalV ⟨k, i, s⟩ ⟨k', i', s'⟩).k, .int .i64 (equalV ⟨k, i, s⟩ ⟨k', i', s'⟩).i, .string ⟨(equalV ⟨k, i, s⟩ ⟨k', i', s'⟩).s.toArray⟩]) w) := by
  have HS := Lib.hid hs
  have HT := Lib.hid hs'
  cases h : alikeB ⟨k, i, s⟩ ⟨k', i', s'⟩
  · have e : equalV ⟨k, i, s⟩ ⟨k', i', s'⟩ = ⟨0, 0, []⟩ := by unfold equalV; rw [h]; rfl
    rw [e]
    have H := Lib.hid h
    clear h e hs hs'
    go_enter Tryz.func74, Tryz.ntmps74
    go_wp2_with fail
    refine (rapart_any _ _ _ _ _ _ _ HS.out HT.out).mono ?_
    rintro e w0 ⟨rfl, hb0⟩
    rw [H.out]
    have hz0 := hb0.size
    obtain ⟨hc0, hf0⟩ := bcell hb0
    simp at hz0 hc0 hf0
    have l0 : w.heap.size + 1 + 1 < w0.heap.size := by omega
    have l1 : w.heap.size + 1 < w0.heap.size := by omega
    have l2 : w.heap.size < w0.heap.size := by omega
    go_wp2_with fail
    all_goals refine bodyPost_ret (v := .agg #[.int .i64 0, .int .i64 0, .string ⟨#[]⟩]) (by simp [results, Tryz.results74, go_sem, *]) rfl ⟨rfl, ?_⟩
    all_goals exact bl
  · have e : equalV ⟨k, i, s⟩ ⟨k', i', s'⟩ = bV (veq ⟨k, i, s⟩ ⟨k', i', s'⟩) := by unfold equalV; rw [h]; rfl
    rw [e]
    have H := Lib.hid h
    clear h e hs hs'
    go_enter Tryz.func74, Tryz.ntmps74
    go_wp2_with fail
    refine (rapart_any _ _ _ _ _ _ _ HS.out HT.out).mono ?_
    rintro e w0 ⟨rfl, hb0⟩
    rw [H.out]
    have hz0 := hb0.size
    obtain ⟨hc0, hf0⟩ := bcell hb0
    simp at hz0 hc0 hf0
    have l0 : w.heap.size + 1 + 1 < w0.heap.size := by omega
    have l1 : w.heap.size + 1 < w0.heap.size := by omega
    have l2 : w.heap.size < w0.heap.size := by omega
    go_wp2_with fail
    refine (rtruth_any _ _).mono ?_
    rintro e w9 ⟨rfl, hb9⟩
    have hz9 := hb9.size
    obtain ⟨hc9, hf9⟩ := bcell hb9
    go_wp2_with fail
    all_goals refine bodyPost_ret (v := .agg #[.int .i64 (bV (veq ⟨k, i, s⟩ ⟨k', i', s'⟩)).k, .int .i64 (bV (veq ⟨k, i, s⟩ ⟨k', i', s'⟩)).i, .string ⟨(bV (veq ⟨k, i, s⟩ ⟨k', i', s'⟩)).s.toArray⟩]) (by simp [results, Tryz.results74, go_sem, *]) rfl ⟨rfl, ?_⟩
    all_goals exact bl

/-- Of two that can be held against each other: the number is less, or the text. -/
theorem cord_eq (a b : V) : cord a b = vord a b := by
  unfold cord vord or3 cmpI cmpS veq vlt
  rcases Int.lt_trichotomy a.k b.k with h | h | h
  · simp [h]; omega
  · rcases Int.lt_trichotomy a.i b.i with g | g | g
    · simp [h, g]; omega
    · by_cases e : a.s = b.s
      · simp [h, g, e]
      · cases l : Op.bytesLess a.s b.s <;> simp [h, g, e]
    · have : ¬ a.i < b.i := by omega
      have h2 : ¬ a.i = b.i := by omega
      simp [h, g, this, h2]
  · have h1 : ¬ a.k < b.k := by omega
    have h2 : ¬ a.k = b.k := by omega
    simp [h, h1, h2]
theorem alike_parts {a b : V} (h : alikeB a b = true) : a.may = true ∧ b.may = true ∧ a.k = b.k ∧ a.k ≠ 0 := by
  unfold alikeB at h
  simp only [Bool.and_eq_true, Bool.not_eq_true', decide_eq_false_iff_not, decide_eq_true_eq] at h
  obtain ⟨h1, h2⟩ := h
  cases ma : a.may
  · have e : goodV a.k a.i a.s = V.zero := V.good_not ma
    rw [e] at h1
    exact absurd rfl h1
  · have ea : goodV a.k a.i a.s = a := V.good_may ma
    cases mb : b.may
    · have e : goodV b.k b.i b.s = V.zero := V.good_not mb
      rw [e] at h2
      rw [ea] at h1 h2
      exact absurd h2 h1
    · have eb : goodV b.k b.i b.s = b := V.good_may mb
      rw [ea] at h1 h2
      rw [eb] at h2
      exact ⟨rfl, rfl, h2, h1⟩
theorem may_kinds' {k i : Int} {s : List UInt8} (h : mayB k i s = true) : (k = 0 ∧ i = 0 ∧ s = []) ∨ (k = 1 ∧ s = []) ∨ (k = 2 ∧ i = 0) ∨ (k = 3 ∧ s = []) := by
  unfold mayB at h
  split at h
  · simp at h; exact .inl ⟨‹_›, h.1, h.2⟩
  · split at h
    · simp at h; exact .inr (.inl ⟨‹_›, h⟩)
    · split at h
      · exact .inr (.inr (.inl ⟨‹_›, by simp at h; exact h.1.1⟩))
      · split at h
        · simp at h; exact .inr (.inr (.inr ⟨‹_›, h.2⟩))
        · cases h
theorem less_alike {a b : V} (h : alikeB a b = true) : decide (cord (goodV a.k a.i a.s) (goodV b.k b.i b.s) < 0) = (decide (a.i < b.i) || Op.bytesLess a.s b.s) := by
  obtain ⟨ma, mb, hk, h0⟩ := alike_parts h
  have ea : goodV a.k a.i a.s = a := V.good_may ma
  have eb : goodV b.k b.i b.s = b := V.good_may mb
  rw [ea, eb, cord_eq]
  obtain ⟨k, i, s⟩ := a
  obtain ⟨k', i', s'⟩ := b
  simp only at hk h0
  subst hk
  rcases may_kinds' ma with ⟨e, _⟩ | ⟨rfl, rfl⟩ | ⟨rfl, rfl⟩ | ⟨rfl, rfl⟩
  · exact absurd e h0
  · have e2 : s' = [] := by
      rcases may_kinds' mb with ⟨e, _⟩ | ⟨_, e⟩ | ⟨e, _⟩ | ⟨e, _⟩
      · exact absurd e (by simp)
      · exact e
      · exact absurd e (by simp)
      · exact absurd e (by simp)
    subst e2
    have z := bless_self []
    by_cases g : i < i' <;> by_cases g2 : i = i' <;> simp [vord, veq, vlt, g, g2, z] <;> omega
  · have e2 : i' = 0 := by
      rcases may_kinds' mb with ⟨e, _⟩ | ⟨e, _⟩ | ⟨_, e⟩ | ⟨e, _⟩
      · exact absurd e (by simp)
      · exact absurd e (by simp)
      · exact e
      · exact absurd e (by simp)
    subst e2
    by_cases g : s = s'
    · subst g; simp [vord, veq, bless_self]
    · cases l : Op.bytesLess s s' <;> simp [vord, veq, vlt, g, l]
  · have e2 : s' = [] := by
      rcases may_kinds' mb with ⟨e, _⟩ | ⟨e, _⟩ | ⟨e, _⟩ | ⟨_, e⟩
      · exact absurd e (by simp)
      · exact absurd e (by simp)
      · exact absurd e (by simp)
      · exact e
    subst e2
    have z := bless_self []
    by_cases g : i < i' <;> by_cases g2 : i = i' <;> simp [vord, veq, vlt, g, g2, z] <;> omega

set_option maxHeartbeats 1000000 in
theorem rless_any (k i : Int) (s : List UInt8) (k' i' : Int) (s' : List UInt8) (w : World) (hs : s.length ≤ 140737488351232) (hs' : s'.length ≤ 140737488351232) :
    Calls Tryz.prog 75 #[.agg #[.int .i64 k, .int .i64 i, .string ⟨s.toArray⟩], .agg #[.int .i64 k', .int .i64 i', .string ⟨s'.toArray⟩]] w (Ret (.agg #[.int .i64 (lessV ⟨k, i, s⟩ ⟨k', i', s'⟩).k, .int .i64 (lessV ⟨k, i, s⟩ ⟨k', i', s'⟩).i, .string ⟨(lessV ⟨k, i, s⟩ ⟨k', i', s'⟩).s.toArray⟩]) w) := by
  have HS := Lib.hid hs
  have HT := Lib.hid hs'
  cases h : alikeB ⟨k, i, s⟩ ⟨k', i', s'⟩
  · have e : lessV ⟨k, i, s⟩ ⟨k', i', s'⟩ = ⟨0, 0, []⟩ := by unfold lessV; rw [h]; rfl
    rw [e]
    have H := Lib.hid h
    clear h e hs hs'
    go_enter Tryz.func75, Tryz.ntmps75
    go_wp2_with fail
    refine (rapart_any _ _ _ _ _ _ _ HS.out HT.out).mono ?_
    rintro e w0 ⟨rfl, hb0⟩
    rw [H.out]
    have hz0 := hb0.size
    obtain ⟨hc0, hf0⟩ := bcell hb0
    simp at hz0 hc0 hf0
    have l0 : w.heap.size + 1 + 1 < w0.heap.size := by omega
    have l1 : w.heap.size + 1 < w0.heap.size := by omega
    have l2 : w.heap.size < w0.heap.size := by omega
    go_wp2_with fail
    all_goals refine bodyPost_ret (v := .agg #[.int .i64 0, .int .i64 0, .string ⟨#[]⟩]) (by simp [results, Tryz.results75, go_sem, *]) rfl ⟨rfl, ?_⟩
    all_goals exact bl
  · have e : lessV ⟨k, i, s⟩ ⟨k', i', s'⟩ = bV (decide (i < i') || Op.bytesLess s s') := by unfold lessV; rw [h, less_alike h]; rfl
    have H := Lib.hid h
    by_cases hlt : i < i'
    · have e2 : lessV ⟨k, i, s⟩ ⟨k', i', s'⟩ = bV true := by rw [e]; simp [hlt]
      rw [e2]
      clear h e hs hs' e2
      go_enter Tryz.func75, Tryz.ntmps75
      go_wp2_with fail
      refine (rapart_any _ _ _ _ _ _ _ HS.out HT.out).mono ?_
      rintro e w0 ⟨rfl, hb0⟩
      rw [H.out]
      have hz0 := hb0.size
      obtain ⟨hc0, hf0⟩ := bcell hb0
      simp at hz0 hc0 hf0
      have l0 : w.heap.size + 1 + 1 < w0.heap.size := by omega
      have l1 : w.heap.size + 1 < w0.heap.size := by omega
      have l2 : w.heap.size < w0.heap.size := by omega
      go_wp2_with fail
      refine (rtruth_any _ _).mono ?_
      rintro e w9 ⟨rfl, hb9⟩
      have hz9 := hb9.size
      obtain ⟨hc9, hf9⟩ := bcell hb9
      go_wp2_with fail
      all_goals refine bodyPost_ret (v := .agg #[.int .i64 (bV (true)).k, .int .i64 (bV (true)).i, .string ⟨(bV (true)).s.toArray⟩]) (by simp [results, Tryz.results75, go_sem, *]) rfl ⟨rfl, ?_⟩
      all_goals exact bl
    · rw [e]
      clear h e hs hs'
      go_enter Tryz.func75, Tryz.ntmps75
      go_wp2_with fail
      refine (rapart_any _ _ _ _ _ _ _ HS.out HT.out).mono ?_
      rintro e w0 ⟨rfl, hb0⟩
      rw [H.out]
      have hz0 := hb0.size
      obtain ⟨hc0, hf0⟩ := bcell hb0
      simp at hz0 hc0 hf0
      have l0 : w.heap.size + 1 + 1 < w0.heap.size := by omega
      have l1 : w.heap.size + 1 < w0.heap.size := by omega
      have l2 : w.heap.size < w0.heap.size := by omega
      go_wp2_with fail
      refine (rtruth_any _ _).mono ?_
      rintro e w9 ⟨rfl, hb9⟩
      have hz9 := hb9.size
      obtain ⟨hc9, hf9⟩ := bcell hb9
      go_wp2_with fail
      all_goals refine bodyPost_ret (v := .agg #[.int .i64 (bV (decide (i < i') || Op.bytesLess s s')).k, .int .i64 (bV (decide (i < i') || Op.bytesLess s s')).i, .string ⟨(bV (decide (i < i') || Op.bytesLess s s')).s.toArray⟩]) (by simp [results, Tryz.results75, go_sem, *]) rfl ⟨rfl, ?_⟩
      all_goals exact bl

set_option maxHeartbeats 1000000 in
theorem rplus_any (k i : Int) (s : List UInt8) (k' i' : Int) (s' : List UInt8) (w : World) (h1 : -9223372036854775808 ≤ i ∧ i ≤ 9223372036854775807) (h2 : -9223372036854775808 ≤ i' ∧ i' ≤ 9223372036854775807) (hs : s.length ≤ 140737488351232) (hs' : s'.length ≤ 140737488351232) :
    Calls Tryz.prog 76 #[.agg #[.int .i64 k, .int .i64 i, .string ⟨s.toArray⟩], .agg #[.int .i64 k', .int .i64 i', .string ⟨s'.toArray⟩]] w (Ret (.agg #[.int .i64 (plusV ⟨k, i, s⟩ ⟨k', i', s'⟩).k, .int .i64 (plusV ⟨k, i, s⟩ ⟨k', i', s'⟩).i, .string ⟨(plusV ⟨k, i, s⟩ ⟨k', i', s'⟩).s.toArray⟩]) w) := by
  have HS := Lib.hid hs
  have HT := Lib.hid hs'
  clear hs hs'
  obtain ⟨a1, a2⟩ := h1
  obtain ⟨b1, b2⟩ := h2
  cases h : alikeB ⟨k, i, s⟩ ⟨k', i', s'⟩
  · have e : plusV ⟨k, i, s⟩ ⟨k', i', s'⟩ = ⟨0, 0, []⟩ := by unfold plusV; rw [h]; rfl
    rw [e]
    have H := Lib.hid h
    clear h e
    go_enter Tryz.func76, Tryz.ntmps76
    go_wp2_with fail
    refine (rapart_any _ _ _ _ _ _ _ HS.out HT.out).mono ?_
    rintro e w0 ⟨rfl, hb0⟩
    rw [H.out]
    have hz0 := hb0.size
    obtain ⟨hc0, hf0⟩ := bcell hb0
    simp at hz0 hc0 hf0
    have l0 : w.heap.size + 1 + 1 < w0.heap.size := by omega
    have l1 : w.heap.size + 1 < w0.heap.size := by omega
    have l2 : w.heap.size < w0.heap.size := by omega
    go_wp2_with fail
    all_goals refine bodyPost_ret (v := .agg #[.int .i64 0, .int .i64 0, .string ⟨#[]⟩]) (by simp [results, Tryz.results76, go_sem, *]) rfl ⟨rfl, ?_⟩
    all_goals exact bl
  · have H := Lib.hid h
    by_cases hk : k = 1
    · subst hk
      by_cases hf : -9223372036854775808 ≤ i + i' ∧ i + i' ≤ 9223372036854775807
      · have e : plusV ⟨1, i, s⟩ ⟨k', i', s'⟩ = ⟨1, i + i', []⟩ := by
          unfold plusV fits; rw [h, if_pos (by simp; exact hf)]
        rw [e]
        obtain ⟨f1, f2⟩ := hf
        clear h e
        rcases Int.lt_trichotomy i' 0 with hg | hg | hg
        · have q1 : ¬ 0 < i' := by omega
          have q2 : ¬ i < -9223372036854775808 - i' := by omega
          go_enter Tryz.func76, Tryz.ntmps76
          go_wp2_with fail
          refine (rapart_any _ _ _ _ _ _ _ HS.out HT.out).mono ?_
          rintro e w0 ⟨rfl, hb0⟩
          rw [H.out]
          have hz0 := hb0.size
          obtain ⟨hc0, hf0⟩ := bcell hb0
          simp at hz0 hc0 hf0
          have l0 : w.heap.size + 1 + 1 < w0.heap.size := by omega
          have l1 : w.heap.size + 1 < w0.heap.size := by omega
          have l2 : w.heap.size < w0.heap.size := by omega
          go_wp2_with fail
          all_goals refine bodyPost_ret (v := .agg #[.int .i64 1, .int .i64 (i + i'), .string ⟨#[]⟩]) (by simp [results, Tryz.results76, go_sem, *]) rfl ⟨rfl, ?_⟩
          all_goals exact bl
        · have q1 : ¬ 0 < i' := by omega
          have q2 : ¬ i' < 0 := by omega
          clear hg
          go_enter Tryz.func76, Tryz.ntmps76
          go_wp2_with fail
          refine (rapart_any _ _ _ _ _ _ _ HS.out HT.out).mono ?_
          rintro e w0 ⟨rfl, hb0⟩
          rw [H.out]
          have hz0 := hb0.size
          obtain ⟨hc0, hf0⟩ := bcell hb0
          simp at hz0 hc0 hf0
          have l0 : w.heap.size + 1 + 1 < w0.heap.size := by omega
          have l1 : w.heap.size + 1 < w0.heap.size := by omega
          have l2 : w.heap.size < w0.heap.size := by omega
          go_wp2_with fail
          all_goals refine bodyPost_ret (v := .agg #[.int .i64 1, .int .i64 (i + i'), .string ⟨#[]⟩]) (by simp [results, Tryz.results76, go_sem, *]) rfl ⟨rfl, ?_⟩
          all_goals exact bl
        · have q1 : ¬ i' < 0 := by omega
          have q2 : ¬ 9223372036854775807 - i' < i := by omega
          go_enter Tryz.func76, Tryz.ntmps76
          go_wp2_with fail
          refine (rapart_any _ _ _ _ _ _ _ HS.out HT.out).mono ?_
          rintro e w0 ⟨rfl, hb0⟩
          rw [H.out]
          have hz0 := hb0.size
          obtain ⟨hc0, hf0⟩ := bcell hb0
          simp at hz0 hc0 hf0
          have l0 : w.heap.size + 1 + 1 < w0.heap.size := by omega
          have l1 : w.heap.size + 1 < w0.heap.size := by omega
          have l2 : w.heap.size < w0.heap.size := by omega
          go_wp2_with fail
          all_goals refine bodyPost_ret (v := .agg #[.int .i64 1, .int .i64 (i + i'), .string ⟨#[]⟩]) (by simp [results, Tryz.results76, go_sem, *]) rfl ⟨rfl, ?_⟩
          all_goals exact bl
      · have e : plusV ⟨1, i, s⟩ ⟨k', i', s'⟩ = ⟨0, 0, []⟩ := by
          unfold plusV fits; rw [h, if_neg (by simp; omega)]; rfl
        rw [e]
        by_cases hg : 0 < i'
        · have q2 : 9223372036854775807 - i' < i := by omega
          clear h e hf
          go_enter Tryz.func76, Tryz.ntmps76
          go_wp2_with fail
          refine (rapart_any _ _ _ _ _ _ _ HS.out HT.out).mono ?_
          rintro e w0 ⟨rfl, hb0⟩
          rw [H.out]
          have hz0 := hb0.size
          obtain ⟨hc0, hf0⟩ := bcell hb0
          simp at hz0 hc0 hf0
          have l0 : w.heap.size + 1 + 1 < w0.heap.size := by omega
          have l1 : w.heap.size + 1 < w0.heap.size := by omega
          have l2 : w.heap.size < w0.heap.size := by omega
          go_wp2_with fail
          all_goals refine bodyPost_ret (v := .agg #[.int .i64 0, .int .i64 0, .string ⟨#[]⟩]) (by simp [results, Tryz.results76, go_sem, *]) rfl ⟨rfl, ?_⟩
          all_goals exact bl
        · have q1 : i' < 0 := by omega
          have q2 : i < -9223372036854775808 - i' := by omega
          clear h e hf
          go_enter Tryz.func76, Tryz.ntmps76
          go_wp2_with fail
          refine (rapart_any _ _ _ _ _ _ _ HS.out HT.out).mono ?_
          rintro e w0 ⟨rfl, hb0⟩
          rw [H.out]
          have hz0 := hb0.size
          obtain ⟨hc0, hf0⟩ := bcell hb0
          simp at hz0 hc0 hf0
          have l0 : w.heap.size + 1 + 1 < w0.heap.size := by omega
          have l1 : w.heap.size + 1 < w0.heap.size := by omega
          have l2 : w.heap.size < w0.heap.size := by omega
          go_wp2_with fail
          all_goals refine bodyPost_ret (v := .agg #[.int .i64 0, .int .i64 0, .string ⟨#[]⟩]) (by simp [results, Tryz.results76, go_sem, *]) rfl ⟨rfl, ?_⟩
          all_goals exact bl
    · have e : plusV ⟨k, i, s⟩ ⟨k', i', s'⟩ = ⟨0, 0, []⟩ := by
        unfold plusV; rw [if_neg (by simp [hk])]; rfl
      rw [e]
      have hk' : (k != 1) = true := by simp [hk]
      clear h e hk
      go_enter Tryz.func76, Tryz.ntmps76
      go_wp2_with fail
      refine (rapart_any _ _ _ _ _ _ _ HS.out HT.out).mono ?_
      rintro e w0 ⟨rfl, hb0⟩
      rw [H.out]
      have hz0 := hb0.size
      obtain ⟨hc0, hf0⟩ := bcell hb0
      simp at hz0 hc0 hf0
      have l0 : w.heap.size + 1 + 1 < w0.heap.size := by omega
      have l1 : w.heap.size + 1 < w0.heap.size := by omega
      have l2 : w.heap.size < w0.heap.size := by omega
      go_wp2_with fail
      all_goals refine bodyPost_ret (v := .agg #[.int .i64 0, .int .i64 0, .string ⟨#[]⟩]) (by simp [results, Tryz.results76, go_sem, *]) rfl ⟨rfl, ?_⟩
      all_goals exact bl
set_option maxHeartbeats 1000000 in
theorem rminus_any (k i : Int) (s : List UInt8) (k' i' : Int) (s' : List UInt8) (w : World) (h1 : -9223372036854775808 ≤ i ∧ i ≤ 9223372036854775807) (h2 : -9223372036854775808 ≤ i' ∧ i' ≤ 9223372036854775807) (hs : s.length ≤ 140737488351232) (hs' : s'.length ≤ 140737488351232) :
    Calls Tryz.prog 77 #[.agg #[.int .i64 k, .int .i64 i, .string ⟨s.toArray⟩], .agg #[.int .i64 k', .int .i64 i', .string ⟨s'.toArray⟩]] w (Ret (.agg #[.int .i64 (minusV ⟨k, i, s⟩ ⟨k', i', s'⟩).k, .int .i64 (minusV ⟨k, i, s⟩ ⟨k', i', s'⟩).i, .string ⟨(minusV ⟨k, i, s⟩ ⟨k', i', s'⟩).s.toArray⟩]) w) := by
  have HS := Lib.hid hs
  have HT := Lib.hid hs'
  clear hs hs'
  obtain ⟨a1, a2⟩ := h1
  obtain ⟨b1, b2⟩ := h2
  cases h : alikeB ⟨k, i, s⟩ ⟨k', i', s'⟩
  · have e : minusV ⟨k, i, s⟩ ⟨k', i', s'⟩ = ⟨0, 0, []⟩ := by unfold minusV; rw [h]; rfl
    rw [e]
    have H := Lib.hid h
    clear h e
    go_enter Tryz.func77, Tryz.ntmps77
    go_wp2_with fail
    refine (rapart_any _ _ _ _ _ _ _ HS.out HT.out).mono ?_
    rintro e w0 ⟨rfl, hb0⟩
    rw [H.out]
    have hz0 := hb0.size
    obtain ⟨hc0, hf0⟩ := bcell hb0
    simp at hz0 hc0 hf0
    have l0 : w.heap.size + 1 + 1 < w0.heap.size := by omega
    have l1 : w.heap.size + 1 < w0.heap.size := by omega
    have l2 : w.heap.size < w0.heap.size := by omega
    go_wp2_with fail
    all_goals refine bodyPost_ret (v := .agg #[.int .i64 0, .int .i64 0, .string ⟨#[]⟩]) (by simp [results, Tryz.results77, go_sem, *]) rfl ⟨rfl, ?_⟩
    all_goals exact bl
  · have H := Lib.hid h
    by_cases hk : k = 1
    · subst hk
      by_cases hf : -9223372036854775808 ≤ i - i' ∧ i - i' ≤ 9223372036854775807
      · have e : minusV ⟨1, i, s⟩ ⟨k', i', s'⟩ = ⟨1, i - i', []⟩ := by
          unfold minusV fits; rw [h, if_pos (by simp; exact hf)]
        rw [e]
        obtain ⟨f1, f2⟩ := hf
        clear h e
        rcases Int.lt_trichotomy i' 0 with hg | hg | hg
        · have q1 : ¬ 0 < i' := by omega
          have q2 : ¬ 9223372036854775807 + i' < i := by omega
          go_enter Tryz.func77, Tryz.ntmps77
          go_wp2_with fail
          refine (rapart_any _ _ _ _ _ _ _ HS.out HT.out).mono ?_
          rintro e w0 ⟨rfl, hb0⟩
          rw [H.out]
          have hz0 := hb0.size
          obtain ⟨hc0, hf0⟩ := bcell hb0
          simp at hz0 hc0 hf0
          have l0 : w.heap.size + 1 + 1 < w0.heap.size := by omega
          have l1 : w.heap.size + 1 < w0.heap.size := by omega
          have l2 : w.heap.size < w0.heap.size := by omega
          go_wp2_with fail
          all_goals refine bodyPost_ret (v := .agg #[.int .i64 1, .int .i64 (i - i'), .string ⟨#[]⟩]) (by simp [results, Tryz.results77, go_sem, *]) rfl ⟨rfl, ?_⟩
          all_goals exact bl
        · have q1 : ¬ 0 < i' := by omega
          have q2 : ¬ i' < 0 := by omega
          clear hg
          go_enter Tryz.func77, Tryz.ntmps77
          go_wp2_with fail
          refine (rapart_any _ _ _ _ _ _ _ HS.out HT.out).mono ?_
          rintro e w0 ⟨rfl, hb0⟩
          rw [H.out]
          have hz0 := hb0.size
          obtain ⟨hc0, hf0⟩ := bcell hb0
          simp at hz0 hc0 hf0
          have l0 : w.heap.size + 1 + 1 < w0.heap.size := by omega
          have l1 : w.heap.size + 1 < w0.heap.size := by omega
          have l2 : w.heap.size < w0.heap.size := by omega
          go_wp2_with fail
          all_goals refine bodyPost_ret (v := .agg #[.int .i64 1, .int .i64 (i - i'), .string ⟨#[]⟩]) (by simp [results, Tryz.results77, go_sem, *]) rfl ⟨rfl, ?_⟩
          all_goals exact bl
        · have q1 : ¬ i' < 0 := by omega
          have q2 : ¬ i < -9223372036854775808 + i' := by omega
          go_enter Tryz.func77, Tryz.ntmps77
          go_wp2_with fail
          refine (rapart_any _ _ _ _ _ _ _ HS.out HT.out).mono ?_
          rintro e w0 ⟨rfl, hb0⟩
          rw [H.out]
          have hz0 := hb0.size
          obtain ⟨hc0, hf0⟩ := bcell hb0
          simp at hz0 hc0 hf0
          have l0 : w.heap.size + 1 + 1 < w0.heap.size := by omega
          have l1 : w.heap.size + 1 < w0.heap.size := by omega
          have l2 : w.heap.size < w0.heap.size := by omega
          go_wp2_with fail
          all_goals refine bodyPost_ret (v := .agg #[.int .i64 1, .int .i64 (i - i'), .string ⟨#[]⟩]) (by simp [results, Tryz.results77, go_sem, *]) rfl ⟨rfl, ?_⟩
          all_goals exact bl
      · have e : minusV ⟨1, i, s⟩ ⟨k', i', s'⟩ = ⟨0, 0, []⟩ := by
          unfold minusV fits; rw [h, if_neg (by simp; omega)]; rfl
        rw [e]
        by_cases hg : 0 < i'
        · have q2 : i < -9223372036854775808 + i' := by omega
          clear h e hf
          go_enter Tryz.func77, Tryz.ntmps77
          go_wp2_with fail
          refine (rapart_any _ _ _ _ _ _ _ HS.out HT.out).mono ?_
          rintro e w0 ⟨rfl, hb0⟩
          rw [H.out]
          have hz0 := hb0.size
          obtain ⟨hc0, hf0⟩ := bcell hb0
          simp at hz0 hc0 hf0
          have l0 : w.heap.size + 1 + 1 < w0.heap.size := by omega
          have l1 : w.heap.size + 1 < w0.heap.size := by omega
          have l2 : w.heap.size < w0.heap.size := by omega
          go_wp2_with fail
          all_goals refine bodyPost_ret (v := .agg #[.int .i64 0, .int .i64 0, .string ⟨#[]⟩]) (by simp [results, Tryz.results77, go_sem, *]) rfl ⟨rfl, ?_⟩
          all_goals exact bl
        · have q1 : i' < 0 := by omega
          have q2 : 9223372036854775807 + i' < i := by omega
          clear h e hf
          go_enter Tryz.func77, Tryz.ntmps77
          go_wp2_with fail
          refine (rapart_any _ _ _ _ _ _ _ HS.out HT.out).mono ?_
          rintro e w0 ⟨rfl, hb0⟩
          rw [H.out]
          have hz0 := hb0.size
          obtain ⟨hc0, hf0⟩ := bcell hb0
          simp at hz0 hc0 hf0
          have l0 : w.heap.size + 1 + 1 < w0.heap.size := by omega
          have l1 : w.heap.size + 1 < w0.heap.size := by omega
          have l2 : w.heap.size < w0.heap.size := by omega
          go_wp2_with fail
          all_goals refine bodyPost_ret (v := .agg #[.int .i64 0, .int .i64 0, .string ⟨#[]⟩]) (by simp [results, Tryz.results77, go_sem, *]) rfl ⟨rfl, ?_⟩
          all_goals exact bl
    · have e : minusV ⟨k, i, s⟩ ⟨k', i', s'⟩ = ⟨0, 0, []⟩ := by
        unfold minusV; rw [if_neg (by simp [hk])]; rfl
      rw [e]
      have hk' : (k != 1) = true := by simp [hk]
      clear h e hk
      go_enter Tryz.func77, Tryz.ntmps77
      go_wp2_with fail
      refine (rapart_any _ _ _ _ _ _ _ HS.out HT.out).mono ?_
      rintro e w0 ⟨rfl, hb0⟩
      rw [H.out]
      have hz0 := hb0.size
      obtain ⟨hc0, hf0⟩ := bcell hb0
      simp at hz0 hc0 hf0
      have l0 : w.heap.size + 1 + 1 < w0.heap.size := by omega
      have l1 : w.heap.size + 1 < w0.heap.size := by omega
      have l2 : w.heap.size < w0.heap.size := by omega
      go_wp2_with fail
      all_goals refine bodyPost_ret (v := .agg #[.int .i64 0, .int .i64 0, .string ⟨#[]⟩]) (by simp [results, Tryz.results77, go_sem, *]) rfl ⟨rfl, ?_⟩
      all_goals exact bl

end Go.Proofs.YtdhjogmkhbpcgaaGreat
