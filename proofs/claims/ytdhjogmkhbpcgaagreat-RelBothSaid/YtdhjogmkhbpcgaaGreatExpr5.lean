/- expr.Eval as a plain function. Condition: as (expr.over).value. -/
import Derived.Test.YtdhjogmkhbpcgaaGreatExpr4
import Derived.RegionTactic
import Derived.Deep.RegionHeld3
namespace Go.Proofs.YtdhjogmkhbpcgaaGreat
open Go.RowKit Go.ChangeMaps

attribute [local go_sem] ByteArray.extract_mk ba_get ba_append
attribute [local go_sem ↓] Go.wp_at_zero Go.wp_at_succ run_eql_V run_neq_V

set_option maxRecDepth 100000 in
set_option maxHeartbeats 2000000 in
theorem evalX_any (n : Nat) (e : Ex) (A : Option Addr) (c : Nat) (A1 A2 : Option Addr) (c1 c2 : Nat) (cols : List Col) (row : List V) (w : World) (hf : e.fit 1000) (hA : ExS 1000 n w w.heap.size A e.l)
    (hcl : cols.length ≤ 1000000) (hrl : row.length ≤ 1000000) (hC : ColS w w.heap.size A1 cols) (hV : VS w w.heap.size A2 row) (hri : ∀ x ∈ row, fitI x.i) :
    Calls Tryz.prog 24 #[.agg (e.cells A c).toArray, .slice A1 cols.length c1, .slice A2 row.length c2] w (Ret (.agg #[.int .i64 (eval n cols row e).k, .int .i64 (eval n cols row e).i, .string ⟨(eval n cols row e).s.toArray⟩]) w) := by
  obtain ⟨R, hR⟩ : ∃ R, eval n cols row e = R := ⟨_, rfl⟩
  rw [hR]
  have HR := Lib.hid hR
  have HF := Lib.hid hf
  have HRI := Lib.hid hri
  clear hR hf hri
  obtain ⟨w0, hw0⟩ : ∃ w0, (w.alloc (.cells (e.cells A c).toArray 29)).alloc (.cells #[.int .i64 0, .int .i64 0, .string ⟨#[]⟩] 26) = w0 := ⟨_, rfl⟩
  have ke : Blk w0 w.heap.size 29 (e.cells A c).toArray := by rw [← hw0]; exact (Blk.new _ _ _).alloc _
  have kr : Blk w0 (w.heap.size + 1) 26 #[.int .i64 0, .int .i64 0, .string ⟨#[]⟩] := by rw [← hw0]; exact Blk.new' _ _ _ _ (by simp)
  have hb0 : Below w.heap.size w w0 := by rw [← hw0]; ((with_reducible repeat' (first | exact Below.refl _ _ | assumption | refine Below.drew ?_ | refine below_drewN ?_ _ | refine Below.setCell ?_ ?_ _ | refine Below.alloc ?_ ?_ _ | refine Below.trans ?_ (Below.mono (by assumption) ?_))) <;> first | (simp; done) | (simp; omega) | omega)
  have HW := Lib.hid hw0
  clear hw0
  have hz0 := hb0.size
  have lr := kr.lt
  have HALL : Hid (∀ w' : World, Below w.heap.size w w' → ExS 1000 n w' w'.heap.size A e.l ∧ ColS w' w'.heap.size A1 cols ∧ VS w' w'.heap.size A2 row) := fun w' h =>
    ⟨(hA.below n h).more h.size n, (hC.below h).more h.size, (hV.below h).more h.size⟩
  clear hA hC hV
  obtain ⟨q0, q1, q2, q3, q4, q5⟩ := ke.six
  go_enter Tryz.func24, Tryz.ntmps24
  go_upto_region 1 with fail
  rw [HW.out]
  clear HW
  go_wp2_with fail
  refine (mayX_any n e A c w0 HF.out (HALL.out _ hb0).1).mono ?_
  rintro en w1 ⟨rfl, hb1⟩
  have hbw1 := hb0.trans (hb1.mono hz0)
  have ke1 := ke.below hb1 ke.lt
  have kr1 := kr.below hb1 lr
  have lr1 := kr1.lt
  have le1 := ke1.lt
  clear q0 q1 q2 q3 q4 q5
  obtain ⟨⟨r0, r1, r2⟩, t0, t1, t2⟩ := kr1.three
  cases hm : may n e
  · have HF2 : Hid (R = V.zero) := by show _ = _; rw [← HR.out]; unfold eval; rw [hm]; rfl
    clear hm
    go_wp2_with fail
    refine bodyPost_ret (v := .agg #[.int .i64 (R).k, .int .i64 (R).i, .string ⟨(R).s.toArray⟩]) (by rw [HF2.out]; simp [results, Tryz.results24, go_sem, *, V.zero]) rfl ⟨rfl, ?_⟩
    ((with_reducible repeat' (first | exact Below.refl _ _ | assumption | refine Below.drew ?_ | refine below_drewN ?_ _ | refine Below.setCell ?_ ?_ _ | refine Below.alloc ?_ ?_ _ | refine Below.trans ?_ (Below.mono (by assumption) ?_))) <;> first | (simp; done) | (simp; omega) | omega)
  · have HF2 : Hid (R = evalE n cols row e) := by show _ = _; rw [← HR.out]; unfold eval; rw [hm]; rfl
    have HOK := Lib.hid (mayE_ok n 1 0 e hm)
    clear hm r0 r1 r2 t0 t1 t2
    have HSH : Hid (∀ w' : World, Below w1.heap.size w1 w' → (w'.cell? ⟨w.heap.size, 0, none⟩ = some (.string ⟨e.op.toArray⟩) ∧ w'.cell? ⟨w.heap.size, 1, none⟩ = some (.int .i64 e.v.k) ∧ w'.cell? ⟨w.heap.size, 2, none⟩ = some (.int .i64 e.v.i) ∧ w'.cell? ⟨w.heap.size, 3, none⟩ = some (.string ⟨e.v.s.toArray⟩) ∧ w'.cell? ⟨w.heap.size, 4, none⟩ = some (.string ⟨e.s.toArray⟩) ∧ w'.cell? ⟨w.heap.size, 5, none⟩ = some (.slice A e.l.length c))) :=
      fun w' h => (ke1.below h le1).six
    go_upto_region 3 with fail
    refine wp_region_held_drew (S := (fun w' => w'.cell? ⟨w.heap.size, 0, none⟩ = some (.string ⟨e.op.toArray⟩) ∧ w'.cell? ⟨w.heap.size, 1, none⟩ = some (.int .i64 e.v.k) ∧ w'.cell? ⟨w.heap.size, 2, none⟩ = some (.int .i64 e.v.i) ∧ w'.cell? ⟨w.heap.size, 3, none⟩ = some (.string ⟨e.v.s.toArray⟩) ∧ w'.cell? ⟨w.heap.size, 4, none⟩ = some (.string ⟨e.s.toArray⟩) ∧ w'.cell? ⟨w.heap.size, 5, none⟩ = some (.slice A e.l.length c))) (by kernel_rfl) ?_ (fun hHeld => ?_)
    · try dsimp only
      exact Blk.six (t := 29) (by ((repeat' (first | with_reducible assumption | with_reducible refine Blk.drew ?_ | with_reducible refine Blk.drewN ?_ _ | with_reducible refine Blk.set3 ?_ _ _ _ | with_reducible refine Blk.far ?_ ?_ _ | ((with_reducible refine Blk.new' _ _ _ _ ?_) <;> (first | (simp; done) | (simp; omega) | omega) <;> done) | with_reducible refine Blk.alloc ?_ _ | with_reducible refine Blk3.drew ?_ | with_reducible refine Blk3.drewN ?_ _ | ((with_reducible refine Blk3.new' _ _ _ _ _ _ ?_) <;> (first | (simp; done) | (simp; omega) | omega) <;> done) | with_reducible refine Blk3.alloc ?_ _ | with_reducible refine Blk3.far ?_ ?_ _ | with_reducible refine Blk3.below ?_ (by assumption) ?_ | with_reducible refine Blk.below ?_ (by assumption) ?_)) <;> (first | (simp; done) | (simp; omega) | omega)))
    refine wpAnyH_take (i := 0) (v := ?_) rfl (by kernel_rfl) (by kernel_rfl) (by kernel_rfl) (fun _ _ _ h => h) (Or.inl ⟨by rfl, ?_⟩) (by assumption) ?_
    rotate_left
    · intro wq hSw
      try dsimp only at hSw
      go_simp
      try with_reducible rfl
    try simp only [Act.put, List.getElem_toArray, List.getElem_cons_zero, List.setIfInBounds_toArray, List.set_cons_zero, List.set_cons_succ]
    refine wpAnyH_take (i := 1) (v := ?_) rfl (by kernel_rfl) (by kernel_rfl) (by kernel_rfl) (fun _ _ _ h => h) (Or.inl ⟨by rfl, ?_⟩) (by assumption) ?_
    rotate_left
    · intro wq hSw
      try dsimp only at hSw
      go_simp
      try with_reducible rfl
    try simp only [Act.put, List.getElem_toArray, List.getElem_cons_zero, List.getElem_cons_succ, List.setIfInBounds_toArray, List.set_cons_zero, List.set_cons_succ]
    refine wpAnyH_take (i := 4) (v := ?_) rfl (by kernel_rfl) (by kernel_rfl) (by kernel_rfl) (fun _ _ _ h => h) (Or.inl ⟨by rfl, ?_⟩) (by assumption) ?_
    rotate_left
    · intro wq hSw
      try dsimp only at hSw
      go_simp
      try with_reducible rfl
    try simp only [Act.put, List.getElem_toArray, List.getElem_cons_zero, List.getElem_cons_succ, List.setIfInBounds_toArray, List.set_cons_zero, List.set_cons_succ]
    refine wpAnyH_ready (rs := [2]) (by kernel_rfl) (by simp) ?_
    refine AllReadyH.cons rfl (fun K hK => ?_) AllReadyH.nil
    go_simp
    refine (doesM_any _).mono ?_ <;> rintro en w5 ⟨rfl, hm5, hb5⟩ <;> have hz5 := hb5.size <;> have hb15 : Below w1.heap.size w1 w5 := (Below.drew (Below.refl _ w1)).trans hb5 <;> have ke5 := ke1.below hb15 le1
    go_wp2_with fail
    refine hK.out _ _ ?_ (fun hHeld => ?_)
    · try dsimp only
      exact Blk.six (t := 29) (by ((repeat' (first | with_reducible assumption | with_reducible refine Blk.drew ?_ | with_reducible refine Blk.drewN ?_ _ | with_reducible refine Blk.set3 ?_ _ _ _ | with_reducible refine Blk.far ?_ ?_ _ | ((with_reducible refine Blk.new' _ _ _ _ ?_) <;> (first | (simp; done) | (simp; omega) | omega) <;> done) | with_reducible refine Blk.alloc ?_ _ | with_reducible refine Blk3.drew ?_ | with_reducible refine Blk3.drewN ?_ _ | ((with_reducible refine Blk3.new' _ _ _ _ _ _ ?_) <;> (first | (simp; done) | (simp; omega) | omega) <;> done) | with_reducible refine Blk3.alloc ?_ _ | with_reducible refine Blk3.far ?_ ?_ _ | with_reducible refine Blk3.below ?_ (by assumption) ?_ | with_reducible refine Blk.below ?_ (by assumption) ?_)) <;> (first | (simp; done) | (simp; omega) | omega)))
    clear hK K
    try simp only [Act.put, List.getElem_toArray, List.getElem_cons_zero, List.getElem_cons_succ, List.setIfInBounds_toArray, List.set_cons_zero, List.set_cons_succ]
    refine wpAnyH_take (i := 3) (v := ?_) rfl (by kernel_rfl) (by kernel_rfl) (by kernel_rfl) (fun _ _ _ h => h) (Or.inl ⟨by rfl, ?_⟩) (by assumption) ?_
    rotate_left
    · intro wq hSw
      try dsimp only at hSw
      go_simp
      try with_reducible rfl
    try simp only [Act.put, List.getElem_toArray, List.getElem_cons_zero, List.getElem_cons_succ, List.setIfInBounds_toArray, List.set_cons_zero, List.set_cons_succ]
    refine wpAnyH_ready (rs := [5]) (by kernel_rfl) (by simp) ?_
    refine AllReadyH.cons rfl (fun K hK => ?_) AllReadyH.nil
    go_simp
    refine (valE_any n e A c A1 A2 c1 c2 _ cols row _ HF.out HOK.out (HALL.out _ (hbw1.trans (hb15.mono hbw1.size))).1 hcl hrl (HALL.out _ (hbw1.trans (hb15.mono hbw1.size))).2.1 (HALL.out _ (hbw1.trans (hb15.mono hbw1.size))).2.2 HRI.out hm5).mono ?_ <;> rintro en w6 ⟨rfl, hb6⟩ <;> have hz6 := hb6.size <;> have hb16 : Below w1.heap.size w1 w6 := hb15.trans (hb6.mono hb15.size) <;> have kr6 := kr1.below hb16 lr1 <;> have lr6 := kr6.lt <;> have ke6 := ke1.below hb16 le1 <;> obtain ⟨⟨r0, r1, r2⟩, t0, t1, t2⟩ := kr6.three
    go_wp2_with fail
    refine hK.out _ _ ?_ (fun hHeld => ?_)
    · try dsimp only
      exact Blk.six (t := 29) (by ((repeat' (first | with_reducible assumption | with_reducible refine Blk.drew ?_ | with_reducible refine Blk.drewN ?_ _ | with_reducible refine Blk.set3 ?_ _ _ _ | with_reducible refine Blk.far ?_ ?_ _ | ((with_reducible refine Blk.new' _ _ _ _ ?_) <;> (first | (simp; done) | (simp; omega) | omega) <;> done) | with_reducible refine Blk.alloc ?_ _ | with_reducible refine Blk3.drew ?_ | with_reducible refine Blk3.drewN ?_ _ | ((with_reducible refine Blk3.new' _ _ _ _ _ _ ?_) <;> (first | (simp; done) | (simp; omega) | omega) <;> done) | with_reducible refine Blk3.alloc ?_ _ | with_reducible refine Blk3.far ?_ ?_ _ | with_reducible refine Blk3.below ?_ (by assumption) ?_ | with_reducible refine Blk.below ?_ (by assumption) ?_)) <;> (first | (simp; done) | (simp; omega) | omega)))
    clear hK K
    try simp only [Act.put, List.getElem_toArray, List.getElem_cons_zero, List.getElem_cons_succ, List.setIfInBounds_toArray, List.set_cons_zero, List.set_cons_succ]
    refine wpAnyH_ready (rs := [6]) (by kernel_rfl) (by simp) ?_
    refine AllReadyH.cons rfl (fun K hK => ?_) AllReadyH.nil
    go_simp
    skip
    go_wp2_with fail
    refine hK.out _ _ ?_ (fun hHeld => ?_)
    · try dsimp only
      exact Blk.six (t := 29) (by ((repeat' (first | with_reducible assumption | with_reducible refine Blk.drew ?_ | with_reducible refine Blk.drewN ?_ _ | with_reducible refine Blk.set3 ?_ _ _ _ | with_reducible refine Blk.far ?_ ?_ _ | ((with_reducible refine Blk.new' _ _ _ _ ?_) <;> (first | (simp; done) | (simp; omega) | omega) <;> done) | with_reducible refine Blk.alloc ?_ _ | with_reducible refine Blk3.drew ?_ | with_reducible refine Blk3.drewN ?_ _ | ((with_reducible refine Blk3.new' _ _ _ _ _ _ ?_) <;> (first | (simp; done) | (simp; omega) | omega) <;> done) | with_reducible refine Blk3.alloc ?_ _ | with_reducible refine Blk3.far ?_ ?_ _ | with_reducible refine Blk3.below ?_ (by assumption) ?_ | with_reducible refine Blk.below ?_ (by assumption) ?_)) <;> (first | (simp; done) | (simp; omega) | omega)))
    clear hK K
    try simp only [Act.put, List.getElem_toArray, List.getElem_cons_zero, List.getElem_cons_succ, List.setIfInBounds_toArray, List.set_cons_zero, List.set_cons_succ]
    refine wpAnyH_done (by kernel_rfl) ?_ _
    have hbw6 := hbw1.trans (hb16.mono hbw1.size)
    go_wp2_with fail
    refine bodyPost_ret (v := .agg #[.int .i64 (R).k, .int .i64 (R).i, .string ⟨(R).s.toArray⟩]) (by rw [HF2.out]; simp [results, Tryz.results24, go_sem, *]) rfl ⟨rfl, ?_⟩
    ((with_reducible repeat' (first | exact Below.refl _ _ | assumption | refine Below.drew ?_ | refine below_drewN ?_ _ | refine Below.setCell ?_ ?_ _ | refine Below.alloc ?_ ?_ _ | refine Below.trans ?_ (Below.mono (by assumption) ?_))) <;> first | (simp; done) | (simp; omega) | omega)

end Go.Proofs.YtdhjogmkhbpcgaaGreat
