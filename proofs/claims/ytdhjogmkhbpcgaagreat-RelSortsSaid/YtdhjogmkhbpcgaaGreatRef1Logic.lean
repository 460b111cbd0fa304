/- The document's Truth, Is, And, Or, Not, as the same plain functions as value's. Condition: none. -/
import Derived.Test.YtdhjogmkhbpcgaaGreatTake
import Derived.Test.YtdhjogmkhbpcgaaGreatVal34M
namespace Go.Proofs.YtdhjogmkhbpcgaaGreat
open Go.RowKit

attribute [local go_sem] ByteArray.extract_mk ba_get
attribute [local go_sem ↓] Go.wp_at_zero Go.wp_at_succ run_eql_V run_neq_V

theorem rtruth_any (b : Bool) (w : World) : Calls Tryz.prog 70 #[.bool b] w (Ret (.agg #[.int .i64 (bV b).k, .int .i64 (bV b).i, .string ⟨(bV b).s.toArray⟩]) w) := by
  cases b
  · go_enter Tryz.func70, Tryz.ntmps70
    go_wp2
    refine bodyPost_ret (v := .agg #[.int .i64 3, .int .i64 0, .string ⟨#[]⟩]) (by simp [results, Tryz.results70, go_sem]) rfl ⟨rfl, ?_⟩
    exact bl
  · go_enter Tryz.func70, Tryz.ntmps70
    go_wp2
    refine bodyPost_ret (v := .agg #[.int .i64 3, .int .i64 1, .string ⟨#[]⟩]) (by simp [results, Tryz.results70, go_sem]) rfl ⟨rfl, ?_⟩
    exact bl

set_option maxHeartbeats 400000 in
theorem is_any (k i : Int) (s : List UInt8) (b : Bool) (w : World) :
    Calls Tryz.prog 39 #[.agg #[.int .i64 k, .int .i64 i, .string ⟨s.toArray⟩], .bool b] w (Ret (.bool (veq ⟨k, i, s⟩ (bV b))) w) := by
  go_enter Tryz.func39, Tryz.ntmps39
  go_upto_region 1 with fail
  refine wp_forget (fun wx => Blk wx w.heap.size 26 #[.int .i64 k, .int .i64 i, .string ⟨s.toArray⟩] ∧ Below w.heap.size w wx) ⟨by ((repeat' (first | with_reducible assumption | with_reducible refine Blk.drew ?_ | with_reducible refine Blk.drewN ?_ _ | with_reducible refine Blk.set3 ?_ _ _ _ | with_reducible refine Blk.far ?_ ?_ _ | ((with_reducible refine Blk.new' _ _ _ _ ?_) <;> (first | (simp; done) | (simp; omega) | omega) <;> done) | with_reducible refine Blk.alloc ?_ _ | with_reducible refine Blk3.drew ?_ | with_reducible refine Blk3.drewN ?_ _ | ((with_reducible refine Blk3.new' _ _ _ _ _ _ ?_) <;> (first | (simp; done) | (simp; omega) | omega) <;> done) | with_reducible refine Blk3.alloc ?_ _ | with_reducible refine Blk3.far ?_ ?_ _ | with_reducible refine Blk3.below ?_ (by assumption) ?_ | with_reducible refine Blk.below ?_ (by assumption) ?_)) <;> (first | (simp; done) | (simp; omega) | omega)), by exact bl⟩ ?_
  rintro W ⟨hA, hbw⟩
  have l0 := hA.lt
  have HSH : Hid (∀ w' : World, Below W.heap.size W w' → (w'.cell? ⟨w.heap.size, 0, none⟩ = some (.int .i64 ((⟨k, i, s⟩ : V)).k) ∧ w'.cell? ⟨w.heap.size, 1, none⟩ = some (.int .i64 ((⟨k, i, s⟩ : V)).i) ∧ w'.cell? ⟨w.heap.size, 2, none⟩ = some (.string ⟨((⟨k, i, s⟩ : V)).s.toArray⟩))) := fun w' h => by
    obtain ⟨⟨x0, x1, x2⟩, _⟩ := (hA.below h (by omega)).three
    exact ⟨x0, x1, x2⟩
  clear hA
  refine wp_region_held_drew (S := (fun w' => w'.cell? ⟨w.heap.size, 0, none⟩ = some (.int .i64 ((⟨k, i, s⟩ : V)).k) ∧ w'.cell? ⟨w.heap.size, 1, none⟩ = some (.int .i64 ((⟨k, i, s⟩ : V)).i) ∧ w'.cell? ⟨w.heap.size, 2, none⟩ = some (.string ⟨((⟨k, i, s⟩ : V)).s.toArray⟩))) (by kernel_rfl) ?_ (fun hHeld => ?_)
  · try dsimp only
    exact HSH.out _ (by exact bl)
  refine wpAnyT_start [0, 1] ?_
  iterate 2
    refine wpAnyT_cons (v := ?_) rfl (by kernel_rfl) (by kernel_rfl) (by kernel_rfl) (fun _ _ _ h => h) (Or.inl ⟨by rfl, ?_⟩) (by assumption) ?_
    rotate_left
    · intro wq hSw
      try dsimp only at hSw
      go_simp
      try with_reducible rfl
    try simp only [Act.put, List.getElem_toArray, List.getElem_cons_zero, List.getElem_cons_succ, List.setIfInBounds_toArray, List.set_cons_zero, List.set_cons_succ]
  refine wpAnyT_nil ?_
  refine wpAnyH_ready (rs := [2]) (by kernel_rfl) (by simp) ?_
  refine AllReadyH.cons rfl (fun K hK => ?_) AllReadyH.nil
  go_simp
  refine (rtruth_any _ _).mono ?_ <;> rintro e w2 ⟨rfl, hb2⟩ <;> have hz2 := hb2.size <;> (try simp at hz2)
  go_wp2_with fail
  refine hK.out _ _ ?_ (fun hHeld => ?_)
  · try dsimp only
    exact HSH.out _ (by exact bl)
  clear hK K
  try simp only [Act.put, List.getElem_toArray, List.getElem_cons_zero, List.getElem_cons_succ, List.setIfInBounds_toArray, List.set_cons_zero, List.set_cons_succ]
  refine wpAnyT_start [3, 4] ?_
  iterate 2
    refine wpAnyT_cons (v := ?_) rfl (by kernel_rfl) (by kernel_rfl) (by kernel_rfl) (fun _ _ _ h => h) (Or.inl ⟨by rfl, ?_⟩) (by assumption) ?_
    rotate_left
    · intro wq hSw
      try dsimp only at hSw
      go_simp
      try with_reducible rfl
    try simp only [Act.put, List.getElem_toArray, List.getElem_cons_zero, List.getElem_cons_succ, List.setIfInBounds_toArray, List.set_cons_zero, List.set_cons_succ]
  refine wpAnyT_nil ?_
  refine wpAnyH_done (by kernel_rfl) ?_ _
  all_goals go_wp2
  all_goals go_ret
  all_goals exact ⟨rfl, by exact bl⟩

theorem is_says {k i : Int} {s : List UInt8} {n : Int} (h : saysF k i s = n) (b : Bool) : veq ⟨k, i, s⟩ (bV b) = decide (n = if b then 2 else 1) := by
  subst h
  unfold saysF veq bV
  by_cases hk : k = 3
  · subst hk
    cases hm : mayB 3 i s
    · simp only [if_true]
      have hne : ¬ ((i = 0 ∨ i = 1) ∧ s = []) := by
        intro ⟨h1, h2⟩
        subst h2
        rcases h1 with rfl | rfl <;> simp [mayB] at hm
      cases b
      · simp; intro e1 e2; exact hne ⟨.inl e1, e2⟩
      · simp; intro e1 e2; exact hne ⟨.inr e1, e2⟩
    · obtain ⟨hi, rfl⟩ := may3 hm
      rcases hi with rfl | rfl <;> cases b <;> simp
  · cases b <;> simp [hk]

set_option maxHeartbeats 2000000 in
theorem rand_any (k i : Int) (s : List UInt8) (k' i' : Int) (s' : List UInt8) (w : World) :
    Calls Tryz.prog 72 #[.agg #[.int .i64 k, .int .i64 i, .string ⟨s.toArray⟩], .agg #[.int .i64 k', .int .i64 i', .string ⟨s'.toArray⟩]] w (Ret (.agg #[.int .i64 (truthV (andN (saysF k i s) (saysF k' i' s'))).k, .int .i64 (truthV (andN (saysF k i s) (saysF k' i' s'))).i, .string ⟨(truthV (andN (saysF k i s) (saysF k' i' s'))).s.toArray⟩]) w) := by
  obtain ⟨X, hX⟩ : ∃ X, saysF k i s = X := ⟨_, rfl⟩
  obtain ⟨Y, hY⟩ : ∃ Y, saysF k' i' s' = Y := ⟨_, rfl⟩
  have rX := saysF_range k i s
  have rY := saysF_range k' i' s'
  have e1f := is_says hX false
  have e1t := is_says hX true
  have e2f := is_says hY false
  have e2t := is_says hY true
  rw [hX] at rX
  rw [hY] at rY
  rw [hX, hY]
  clear hX hY
  have l0 : w.heap.size + 1 + 1 < w.heap.size + 1 + 1 + 1 := by omega
  rcases rX with rfl | rfl | rfl <;> rcases rY with rfl | rfl | rfl
  all_goals
    simp at e1f e1t e2f e2t
    go_enter Tryz.func72, Tryz.ntmps72
    go_wp2_with (first | (go_at_call 39; ((with_reducible refine (is_any _ _ _ _ _).mono ?_); rintro e w1 ⟨rfl, hb1⟩); have hz1 := hb1.size; obtain ⟨hc1, hf1⟩ := bcell hb1; (try simp at hz1 hc1 hf1); have l1 : w.heap.size < w1.heap.size := (by omega); have l2 : w.heap.size + 1 < w1.heap.size := (by omega); have l3 : w.heap.size + 1 + 1 < w1.heap.size := (by omega)) | (go_at_call 70; ((with_reducible refine (rtruth_any _ _).mono ?_); rintro e w9 ⟨rfl, hb9⟩); have hz9 := hb9.size; obtain ⟨hc9, hf9⟩ := bcell hb9))
    refine bodyPost_ret (v := .agg #[.int .i64 (truthV (andN _ _)).k, .int .i64 (truthV (andN _ _)).i, .string ⟨(truthV (andN _ _)).s.toArray⟩]) (by simp [results, Tryz.results72, go_sem, *]; exact ⟨rfl, rfl, rfl⟩) rfl ⟨rfl, ?_⟩
    exact bl
set_option maxHeartbeats 2000000 in
theorem ror_any (k i : Int) (s : List UInt8) (k' i' : Int) (s' : List UInt8) (w : World) :
    Calls Tryz.prog 73 #[.agg #[.int .i64 k, .int .i64 i, .string ⟨s.toArray⟩], .agg #[.int .i64 k', .int .i64 i', .string ⟨s'.toArray⟩]] w (Ret (.agg #[.int .i64 (truthV (orN (saysF k i s) (saysF k' i' s'))).k, .int .i64 (truthV (orN (saysF k i s) (saysF k' i' s'))).i, .string ⟨(truthV (orN (saysF k i s) (saysF k' i' s'))).s.toArray⟩]) w) := by
  obtain ⟨X, hX⟩ : ∃ X, saysF k i s = X := ⟨_, rfl⟩
  obtain ⟨Y, hY⟩ : ∃ Y, saysF k' i' s' = Y := ⟨_, rfl⟩
  have rX := saysF_range k i s
  have rY := saysF_range k' i' s'
  have e1f := is_says hX false
  have e1t := is_says hX true
  have e2f := is_says hY false
  have e2t := is_says hY true
  rw [hX] at rX
  rw [hY] at rY
  rw [hX, hY]
  clear hX hY
  have l0 : w.heap.size + 1 + 1 < w.heap.size + 1 + 1 + 1 := by omega
  rcases rX with rfl | rfl | rfl <;> rcases rY with rfl | rfl | rfl
  all_goals
    simp at e1f e1t e2f e2t
    go_enter Tryz.func73, Tryz.ntmps73
    go_wp2_with (first | (go_at_call 39; ((with_reducible refine (is_any _ _ _ _ _).mono ?_); rintro e w1 ⟨rfl, hb1⟩); have hz1 := hb1.size; obtain ⟨hc1, hf1⟩ := bcell hb1; (try simp at hz1 hc1 hf1); have l1 : w.heap.size < w1.heap.size := (by omega); have l2 : w.heap.size + 1 < w1.heap.size := (by omega); have l3 : w.heap.size + 1 + 1 < w1.heap.size := (by omega)) | (go_at_call 70; ((with_reducible refine (rtruth_any _ _).mono ?_); rintro e w9 ⟨rfl, hb9⟩); have hz9 := hb9.size; obtain ⟨hc9, hf9⟩ := bcell hb9))
    refine bodyPost_ret (v := .agg #[.int .i64 (truthV (orN _ _)).k, .int .i64 (truthV (orN _ _)).i, .string ⟨(truthV (orN _ _)).s.toArray⟩]) (by simp [results, Tryz.results73, go_sem, *]; exact ⟨rfl, rfl, rfl⟩) rfl ⟨rfl, ?_⟩
    exact bl

set_option maxHeartbeats 2000000 in
theorem rnot_any (k i : Int) (s : List UInt8) (w : World) :
    Calls Tryz.prog 71 #[.agg #[.int .i64 k, .int .i64 i, .string ⟨s.toArray⟩]] w (Ret (.agg #[.int .i64 (truthV (notN (saysF k i s))).k, .int .i64 (truthV (notN (saysF k i s))).i, .string ⟨(truthV (notN (saysF k i s))).s.toArray⟩]) w) := by
  obtain ⟨X, hX⟩ : ∃ X, saysF k i s = X := ⟨_, rfl⟩
  have rX := saysF_range k i s
  have e1f := is_says hX false
  have e1t := is_says hX true
  rw [hX] at rX
  rw [hX]
  clear hX
  rcases rX with rfl | rfl | rfl
  all_goals
    simp at e1f e1t
    go_enter Tryz.func71, Tryz.ntmps71
    go_wp2_with (first | (go_at_call 39; ((with_reducible refine (is_any _ _ _ _ _).mono ?_); rintro e w1 ⟨rfl, hb1⟩); have hz1 := hb1.size; obtain ⟨hc1, hf1⟩ := bcell hb1; (try simp at hz1 hc1 hf1); have l1 : w.heap.size < w1.heap.size := (by omega); have l2 : w.heap.size + 1 < w1.heap.size := (by omega)) | (go_at_call 70; ((with_reducible refine (rtruth_any _ _).mono ?_); rintro e w9 ⟨rfl, hb9⟩); have hz9 := hb9.size; obtain ⟨hc9, hf9⟩ := bcell hb9))
    refine bodyPost_ret (v := .agg #[.int .i64 (truthV (notN _)).k, .int .i64 (truthV (notN _)).i, .string ⟨(truthV (notN _)).s.toArray⟩]) (by simp [results, Tryz.results71, go_sem, *]; exact ⟨rfl, rfl, rfl⟩) rfl ⟨rfl, ?_⟩
    exact bl

end Go.Proofs.YtdhjogmkhbpcgaaGreat
