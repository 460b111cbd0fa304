/- RelRises. Condition: none but that the argument reads as a table with rows. -/
import Derived.Test.YtdhjogmkhbpcgaaGreatTake
import Derived.Test.YtdhjogmkhbpcgaaGreatRelSort
import Derived.Test.YtdhjogmkhbpcgaaGreatSame7
import Derived.Test.YtdhjogmkhbpcgaaGreatR6M
import Derived.Test.YtdhjogmkhbpcgaaGreatRelCkM
import Derived.Test.YtdhjogmkhbpcgaaGreatOpenM
import Derived.Deep.CutBlock
import Derived.Deep.DeepCutAuto
import Derived.IntWalk
namespace Go.Proofs.YtdhjogmkhbpcgaaGreat
open Go.RowKit

attribute [local go_sem] ByteArray.extract_mk ba_get ba_append
attribute [local go_sem ↓] Go.wp_at_zero Go.wp_at_succ run_eql_V run_neq_V

theorem fewFoldLe (f : Int → Ex → Ex × Int) : ∀ (l : List Ex) (left : Int), (fewFold f l left).1.length ≤ l.length
  | [], _ => Nat.le_refl _
  | x :: r, left => by
    unfold fewFold
    split
    · have := fewFoldLe f r (f left x).2
      simp only [List.length_cons]
      omega
    · simp
theorem fewXLen (e : Ex) : (fewX e).l.length ≤ 3 := by
  have h := fewFoldLe (fewE 13) (e.l.take 3) (80 - 1)
  have h2 : (e.l.take 3).length ≤ 3 := List.length_take_le _ _
  exact Nat.le_trans h h2
theorem fewTb {x : Rl} (h : x.big) : x.few.t.small := by
  obtain ⟨_, _, _, _, _, _, hc, _, _, _⟩ := h
  refine ⟨?_, ?_, ?_, ?_, ?_, ?_, fewX_fit x.t.chk hc.1, ?_⟩
  · exact Nat.le_trans (List.length_take_le _ _) (by omega)
  · exact Nat.le_trans (fewCols_len _) (by omega)
  · intro c hc
    have hc' : c ∈ fewCols x.t.cols := hc
    unfold fewCols at hc'
    rw [List.mem_map] at hc'
    obtain ⟨d, _, rfl⟩ := hc'
    simp only [fewC, List.length_take]
    omega
  · exact Nat.le_trans (List.length_take_le _ _) (by omega)
  · show ((x.t.refs.take 10).map fun r => (⟨r.c, r.t.take 20⟩ : Fr)).length ≤ 1000
    rw [List.length_map, List.length_take]
    omega
  · intro r hr
    have hr' : r ∈ (x.t.refs.take 10).map fun r => (⟨r.c, r.t.take 20⟩ : Fr) := hr
    rw [List.mem_map] at hr'
    obtain ⟨d, _, rfl⟩ := hr'
    simp only [List.length_take]
    omega
  · have := fewXLen x.t.chk
    show (fewX x.t.chk).l.length ≤ maxLen
    unfold maxLen
    omega
theorem fewText {x : Rl} (h : x.big) : x.few.t.small ∧ ∀ r ∈ x.few.rows, r.length ≤ 1000 ∧ ∀ v ∈ r, fitI v.i ∧ v.s.length ≤ 1000 := by
  refine ⟨fewTb h, fun r hm => ?_⟩
  obtain ⟨h1, h2⟩ := (few_small h).2.2 r hm
  refine ⟨h1, fun v hv => ⟨h2 v hv, ?_⟩⟩
  have hm' : r ∈ (x.rows.take (if 200 < x.rows.length then 201 else 40)).map fewL := hm
  rw [List.mem_map] at hm'
  obtain ⟨s, _, rfl⟩ := hm'
  unfold fewL at hv
  rw [List.mem_map] at hv
  obtain ⟨u, _, rfl⟩ := hv
  simp only [fewV, List.length_take]
  omega

theorem few_slim (x : Rl) : x.few.t.chk.slim := fewX_slim x.t.chk
set_option maxRecDepth 100000 in
set_option maxHeartbeats 32000000 in
theorem relRises_walk (x : Rl) (p : RlP) (w : World) (hs : x.big) (hQ : RlQ maxLen x p (Old w.heap.size) w) : Calls Tryz.prog 6 #[.agg (x.cells p).toArray] w (Ret (.bool true) w) := by
  obtain ⟨⟨⟨a1, k1⟩, ⟨a2, k2⟩, ⟨a3, k3⟩, ⟨a4, k4⟩⟩, ⟨a5, k5⟩⟩ := p
  obtain ⟨w0, hw0⟩ : ∃ w0, w.alloc (.cells #[.string ⟨x.t.n.toArray⟩, .slice a1 x.t.cols.length k1, .int .i64 x.t.key, .slice a2 x.t.uniq.length k2, .slice a3 x.t.refs.length k3, .string ⟨x.t.chk.op.toArray⟩, .int .i64 x.t.chk.v.k, .int .i64 x.t.chk.v.i, .string ⟨x.t.chk.v.s.toArray⟩, .string ⟨x.t.chk.s.toArray⟩, .slice a4 x.t.chk.l.length k4, .slice a5 x.rows.length k5] 34) = w0 := ⟨_, rfl⟩
  have kx0 : Blk w0 w.heap.size 34 #[.string ⟨x.t.n.toArray⟩, .slice a1 x.t.cols.length k1, .int .i64 x.t.key, .slice a2 x.t.uniq.length k2, .slice a3 x.t.refs.length k3, .string ⟨x.t.chk.op.toArray⟩, .int .i64 x.t.chk.v.k, .int .i64 x.t.chk.v.i, .string ⟨x.t.chk.v.s.toArray⟩, .string ⟨x.t.chk.s.toArray⟩, .slice a4 x.t.chk.l.length k4, .slice a5 x.rows.length k5] := by rw [← hw0]; exact Blk.new _ _ _
  have hb0 : Below w.heap.size w w0 := by rw [← hw0]; ((with_reducible repeat' (first | exact bwR | assumption | refine bwD ?_ | refine bwN ?_ | refine bwS ?_ ?_ | refine bwA ?_ ?_ | refine bwT ?_ (by assumption) ?_)) <;> first | (simp; done) | (simp; omega) | omega)
  have hs0 : w0.heap.size = w.heap.size + 1 := by rw [← hw0]; simp
  have hfw := few7_any x ⟨⟨⟨a1, k1⟩, ⟨a2, k2⟩, ⟨a3, k3⟩, ⟨a4, k4⟩⟩, ⟨a5, k5⟩⟩ w0 hs (hQ.keep (old_keep hb0 hb0.size))
  have hsm := few_small hs
  have htb := fewTb hs
  have htx := (fewText hs).2
  have hsl := few_slim x
  obtain ⟨X, hX⟩ : ∃ X, x.few = X := ⟨_, rfl⟩
  rw [hX] at hfw hsm htb htx hsl
  dsimp only [Rl.cells] at hfw
  have HFW := Lib.hid hfw
  have HSM := Lib.hid hsm
  have HTB := Lib.hid htb
  have HTX := Lib.hid htx
  have HSL := Lib.hid hsl
  have HW := Lib.hid hw0
  obtain ⟨q0, q1, q2, q3, q4, q5, q6, q7, q8, q9, q10, q11⟩ : w0.cell? ⟨w.heap.size, 0, none⟩ = some (.string ⟨x.t.n.toArray⟩) ∧ w0.cell? ⟨w.heap.size, 1, none⟩ = some (.slice a1 x.t.cols.length k1) ∧ w0.cell? ⟨w.heap.size, 2, none⟩ = some (.int .i64 x.t.key) ∧ w0.cell? ⟨w.heap.size, 3, none⟩ = some (.slice a2 x.t.uniq.length k2) ∧ w0.cell? ⟨w.heap.size, 4, none⟩ = some (.slice a3 x.t.refs.length k3) ∧ w0.cell? ⟨w.heap.size, 5, none⟩ = some (.string ⟨x.t.chk.op.toArray⟩) ∧ w0.cell? ⟨w.heap.size, 6, none⟩ = some (.int .i64 x.t.chk.v.k) ∧ w0.cell? ⟨w.heap.size, 7, none⟩ = some (.int .i64 x.t.chk.v.i) ∧ w0.cell? ⟨w.heap.size, 8, none⟩ = some (.string ⟨x.t.chk.v.s.toArray⟩) ∧ w0.cell? ⟨w.heap.size, 9, none⟩ = some (.string ⟨x.t.chk.s.toArray⟩) ∧ w0.cell? ⟨w.heap.size, 10, none⟩ = some (.slice a4 x.t.chk.l.length k4) ∧ w0.cell? ⟨w.heap.size, 11, none⟩ = some (.slice a5 x.rows.length k5) := ⟨kx0.cell 0, kx0.cell 1, kx0.cell 2, kx0.cell 3, kx0.cell 4, kx0.cell 5, kx0.cell 6, kx0.cell 7, kx0.cell 8, kx0.cell 9, kx0.cell 10, kx0.cell 11⟩
  clear hfw hsm htb htx hsl hX hw0 hs hQ
  dsimp only [Rl.cells]
  go_enter Tryz.func6, Tryz.ntmps6
  go_upto_region 1 with fail
  rw [show w.alloc _ = w0 from HW.out]
  go_wp2_with fail
  refine HFW.out.mono ?_
  rintro en w1 ⟨⟨⟨⟨b1, l1⟩, ⟨b2, l2⟩, ⟨b3, l3⟩, ⟨b4, l4⟩⟩, ⟨b5, l5⟩⟩, rfl, hQ1, hc1, hc2, hb1⟩
  dsimp only [Rl.cells]
  have kx1 := kx0.below hb1 kx0.lt
  obtain ⟨Z1, hZ1⟩ : ∃ Z, ((((((((((((w1.setCell ⟨w.heap.size, 0, none⟩ (.string ⟨X.t.n.toArray⟩)).setCell ⟨w.heap.size, 1, none⟩ (.slice b1 X.t.cols.length l1)).setCell ⟨w.heap.size, 2, none⟩ (.int .i64 X.t.key)).setCell ⟨w.heap.size, 3, none⟩ (.slice b2 X.t.uniq.length l2)).setCell ⟨w.heap.size, 4, none⟩ (.slice b3 X.t.refs.length l3)).setCell ⟨w.heap.size, 5, none⟩ (.string ⟨X.t.chk.op.toArray⟩)).setCell ⟨w.heap.size, 6, none⟩ (.int .i64 X.t.chk.v.k)).setCell ⟨w.heap.size, 7, none⟩ (.int .i64 X.t.chk.v.i)).setCell ⟨w.heap.size, 8, none⟩ (.string ⟨X.t.chk.v.s.toArray⟩)).setCell ⟨w.heap.size, 9, none⟩ (.string ⟨X.t.chk.s.toArray⟩)).setCell ⟨w.heap.size, 10, none⟩ (.slice b4 X.t.chk.l.length l4)).setCell ⟨w.heap.size, 11, none⟩ (.slice b5 X.rows.length l5)) = Z := ⟨_, rfl⟩
  have hput : Blk ((((((((((((w1.setCell ⟨w.heap.size, 0, none⟩ (.string ⟨X.t.n.toArray⟩)).setCell ⟨w.heap.size, 1, none⟩ (.slice b1 X.t.cols.length l1)).setCell ⟨w.heap.size, 2, none⟩ (.int .i64 X.t.key)).setCell ⟨w.heap.size, 3, none⟩ (.slice b2 X.t.uniq.length l2)).setCell ⟨w.heap.size, 4, none⟩ (.slice b3 X.t.refs.length l3)).setCell ⟨w.heap.size, 5, none⟩ (.string ⟨X.t.chk.op.toArray⟩)).setCell ⟨w.heap.size, 6, none⟩ (.int .i64 X.t.chk.v.k)).setCell ⟨w.heap.size, 7, none⟩ (.int .i64 X.t.chk.v.i)).setCell ⟨w.heap.size, 8, none⟩ (.string ⟨X.t.chk.v.s.toArray⟩)).setCell ⟨w.heap.size, 9, none⟩ (.string ⟨X.t.chk.s.toArray⟩)).setCell ⟨w.heap.size, 10, none⟩ (.slice b4 X.t.chk.l.length l4)).setCell ⟨w.heap.size, 11, none⟩ (.slice b5 X.rows.length l5)) w.heap.size 34 #[.string ⟨X.t.n.toArray⟩, .slice b1 X.t.cols.length l1, .int .i64 X.t.key, .slice b2 X.t.uniq.length l2, .slice b3 X.t.refs.length l3, .string ⟨X.t.chk.op.toArray⟩, .int .i64 X.t.chk.v.k, .int .i64 X.t.chk.v.i, .string ⟨X.t.chk.v.s.toArray⟩, .string ⟨X.t.chk.s.toArray⟩, .slice b4 X.t.chk.l.length l4, .slice b5 X.rows.length l5] ∧ But w.heap.size w1 ((((((((((((w1.setCell ⟨w.heap.size, 0, none⟩ (.string ⟨X.t.n.toArray⟩)).setCell ⟨w.heap.size, 1, none⟩ (.slice b1 X.t.cols.length l1)).setCell ⟨w.heap.size, 2, none⟩ (.int .i64 X.t.key)).setCell ⟨w.heap.size, 3, none⟩ (.slice b2 X.t.uniq.length l2)).setCell ⟨w.heap.size, 4, none⟩ (.slice b3 X.t.refs.length l3)).setCell ⟨w.heap.size, 5, none⟩ (.string ⟨X.t.chk.op.toArray⟩)).setCell ⟨w.heap.size, 6, none⟩ (.int .i64 X.t.chk.v.k)).setCell ⟨w.heap.size, 7, none⟩ (.int .i64 X.t.chk.v.i)).setCell ⟨w.heap.size, 8, none⟩ (.string ⟨X.t.chk.v.s.toArray⟩)).setCell ⟨w.heap.size, 9, none⟩ (.string ⟨X.t.chk.s.toArray⟩)).setCell ⟨w.heap.size, 10, none⟩ (.slice b4 X.t.chk.l.length l4)).setCell ⟨w.heap.size, 11, none⟩ (.slice b5 X.rows.length l5)) := put12 kx1
  rw [hZ1] at hput
  obtain ⟨kX, hbt⟩ := hput
  have hz1 := hb1.size
  have hzz := hbt.size
  have hbw1 : Below w.heap.size w Z1 := But.inside (hb0.trans (hb1.mono hb0.size)) (Nat.le_refl _) hbt
  have hQ2 : RlQ 1000 X ⟨⟨⟨b1, l1⟩, ⟨b2, l2⟩, ⟨b3, l3⟩, ⟨b4, l4⟩⟩, ⟨b5, l5⟩⟩ (Old Z1.heap.size) Z1 := hQ1.keep fun b hb => ⟨by show b < _; omega, fun o => hbt.cell hb.2 (by omega) o⟩
  have HSO : Hid (∀ Z : World, Below Z1.heap.size Z1 Z → Calls Tryz.prog 15 #[.agg #[.string ⟨X.t.n.toArray⟩, .slice b1 X.t.cols.length l1, .int .i64 X.t.key, .slice b2 X.t.uniq.length l2, .slice b3 X.t.refs.length l3, .string ⟨X.t.chk.op.toArray⟩, .int .i64 X.t.chk.v.k, .int .i64 X.t.chk.v.i, .string ⟨X.t.chk.v.s.toArray⟩, .string ⟨X.t.chk.s.toArray⟩, .slice b4 X.t.chk.l.length l4, .slice b5 X.rows.length l5]] Z (RetSorted X Z)) := fun Z hz =>
    relSort_any X ⟨⟨⟨b1, l1⟩, ⟨b2, l2⟩, ⟨b3, l3⟩, ⟨b4, l4⟩⟩, ⟨b5, l5⟩⟩ Z HTB.out HSM.out HSL.out (hQ2.keep (old_keep hz hz.size))
  have hf1 : ∀ i, w1.frozen? ⟨w.heap.size, i, none⟩ = false := fun i => kx1.frozen i
  clear q0 q1 q2 q3 q4 q5 q6 q7 q8 q9 q10 q11
  obtain ⟨q0, q1, q2, q3, q4, q5, q6, q7, q8, q9, q10, q11⟩ : w1.cell? ⟨w.heap.size, 0, none⟩ = some (.string ⟨x.t.n.toArray⟩) ∧ w1.cell? ⟨w.heap.size, 1, none⟩ = some (.slice a1 x.t.cols.length k1) ∧ w1.cell? ⟨w.heap.size, 2, none⟩ = some (.int .i64 x.t.key) ∧ w1.cell? ⟨w.heap.size, 3, none⟩ = some (.slice a2 x.t.uniq.length k2) ∧ w1.cell? ⟨w.heap.size, 4, none⟩ = some (.slice a3 x.t.refs.length k3) ∧ w1.cell? ⟨w.heap.size, 5, none⟩ = some (.string ⟨x.t.chk.op.toArray⟩) ∧ w1.cell? ⟨w.heap.size, 6, none⟩ = some (.int .i64 x.t.chk.v.k) ∧ w1.cell? ⟨w.heap.size, 7, none⟩ = some (.int .i64 x.t.chk.v.i) ∧ w1.cell? ⟨w.heap.size, 8, none⟩ = some (.string ⟨x.t.chk.v.s.toArray⟩) ∧ w1.cell? ⟨w.heap.size, 9, none⟩ = some (.string ⟨x.t.chk.s.toArray⟩) ∧ w1.cell? ⟨w.heap.size, 10, none⟩ = some (.slice a4 x.t.chk.l.length k4) ∧ w1.cell? ⟨w.heap.size, 11, none⟩ = some (.slice a5 x.rows.length k5) := ⟨kx1.cell 0, kx1.cell 1, kx1.cell 2, kx1.cell 3, kx1.cell 4, kx1.cell 5, kx1.cell 6, kx1.cell 7, kx1.cell 8, kx1.cell 9, kx1.cell 10, kx1.cell 11⟩
  have HVZ := Lib.hid hZ1
  have HKX := Lib.hid kX
  have HB1 := Lib.hid hbw1
  have HQ2 := Lib.hid hQ2
  have hgz : w.heap.size < Z1.heap.size := kX.lt
  clear hZ1 kX hbw1 hQ2 hQ1 hbt hz1 hzz hc1 hc2 hs0 kx0 kx1 hb0 hb1 HFW HW
  go_wp2_with fail
  rw [HVZ.out]
  clear HVZ hf1 q0 q1 q2 q3 q4 q5 q6 q7 q8 q9 q10 q11
  obtain ⟨q0, q1, q2, q3, q4, q5, q6, q7, q8, q9, q10, q11⟩ : Z1.cell? ⟨w.heap.size, 0, none⟩ = some (.string ⟨X.t.n.toArray⟩) ∧ Z1.cell? ⟨w.heap.size, 1, none⟩ = some (.slice b1 X.t.cols.length l1) ∧ Z1.cell? ⟨w.heap.size, 2, none⟩ = some (.int .i64 X.t.key) ∧ Z1.cell? ⟨w.heap.size, 3, none⟩ = some (.slice b2 X.t.uniq.length l2) ∧ Z1.cell? ⟨w.heap.size, 4, none⟩ = some (.slice b3 X.t.refs.length l3) ∧ Z1.cell? ⟨w.heap.size, 5, none⟩ = some (.string ⟨X.t.chk.op.toArray⟩) ∧ Z1.cell? ⟨w.heap.size, 6, none⟩ = some (.int .i64 X.t.chk.v.k) ∧ Z1.cell? ⟨w.heap.size, 7, none⟩ = some (.int .i64 X.t.chk.v.i) ∧ Z1.cell? ⟨w.heap.size, 8, none⟩ = some (.string ⟨X.t.chk.v.s.toArray⟩) ∧ Z1.cell? ⟨w.heap.size, 9, none⟩ = some (.string ⟨X.t.chk.s.toArray⟩) ∧ Z1.cell? ⟨w.heap.size, 10, none⟩ = some (.slice b4 X.t.chk.l.length l4) ∧ Z1.cell? ⟨w.heap.size, 11, none⟩ = some (.slice b5 X.rows.length l5) := ⟨HKX.out.cell 0, HKX.out.cell 1, HKX.out.cell 2, HKX.out.cell 3, HKX.out.cell 4, HKX.out.cell 5, HKX.out.cell 6, HKX.out.cell 7, HKX.out.cell 8, HKX.out.cell 9, HKX.out.cell 10, HKX.out.cell 11⟩
  refine (HSO.out Z1 (Below.refl _ _)).mono ?_
  rintro en w2 ⟨rows', hso, ⟨⟨⟨d1, m1⟩, ⟨d2, m2⟩, ⟨d3, m3⟩, ⟨d4, m4⟩⟩, ⟨d5, m5⟩⟩, rfl, hQ3, hc1, hc2, hb2⟩
  dsimp only [Rl.cells]
  obtain ⟨N, hN⟩ : ∃ n, rows'.length = n := ⟨_, rfl⟩
  have hNX : X.rows.length = N := by rw [← hN]; exact hso.2.1.length_eq.symm
  rw [hN]
  obtain ⟨W2, hW2⟩ : ∃ W, w2.alloc (.cells #[.string ⟨X.t.n.toArray⟩, .slice d1 X.t.cols.length m1, .int .i64 X.t.key, .slice d2 X.t.uniq.length m2, .slice d3 X.t.refs.length m3, .string ⟨X.t.chk.op.toArray⟩, .int .i64 X.t.chk.v.k, .int .i64 X.t.chk.v.i, .string ⟨X.t.chk.v.s.toArray⟩, .string ⟨X.t.chk.s.toArray⟩, .slice d4 X.t.chk.l.length m4, .slice d5 N m5] 34) = W := ⟨_, rfl⟩
  have hbW2 : Below w2.heap.size w2 W2 := by rw [← hW2]; ((with_reducible repeat' (first | exact bwR | assumption | refine bwD ?_ | refine bwN ?_ | refine bwS ?_ ?_ | refine bwA ?_ ?_ | refine bwT ?_ (by assumption) ?_)) <;> first | (simp; done) | (simp; omega) | omega)
  have kY : Blk W2 w2.heap.size 34 #[.string ⟨X.t.n.toArray⟩, .slice d1 X.t.cols.length m1, .int .i64 X.t.key, .slice d2 X.t.uniq.length m2, .slice d3 X.t.refs.length m3, .string ⟨X.t.chk.op.toArray⟩, .int .i64 X.t.chk.v.k, .int .i64 X.t.chk.v.i, .string ⟨X.t.chk.v.s.toArray⟩, .string ⟨X.t.chk.s.toArray⟩, .slice d4 X.t.chk.l.length m4, .slice d5 N m5] := by rw [← hW2]; exact Blk.new _ _ _
  have hb12 : Below Z1.heap.size Z1 W2 := hb2.trans (hbW2.mono hb2.size)
  have kX2 := HKX.out.below hb12 HKX.out.lt
  have hzw := hbW2.size
  have hQ4 : RlQ 1000 ⟨X.t, rows'⟩ ⟨⟨⟨d1, m1⟩, ⟨d2, m2⟩, ⟨d3, m3⟩, ⟨d4, m4⟩⟩, ⟨d5, m5⟩⟩ (Old W2.heap.size) W2 := hQ3.keep fun b hb => ⟨by show b < _; omega, fun o => hbW2.cell (p := ⟨b, o, none⟩) hb.2⟩
  have hmem : ∀ r ∈ rows', r ∈ X.rows := fun r hr => hso.2.1.mem_iff.1 hr
  have hsmY : (⟨X.t, rows'⟩ : Rl).small := ⟨HSM.out.1, by show rows'.length ≤ _; have := HSM.out.2.1; omega, fun r hr => HSM.out.2.2 r (hmem r hr)⟩
  have HS2 : Hid (∀ Z : World, Below W2.heap.size W2 Z → Calls Tryz.prog 15 #[.agg #[.string ⟨X.t.n.toArray⟩, .slice d1 X.t.cols.length m1, .int .i64 X.t.key, .slice d2 X.t.uniq.length m2, .slice d3 X.t.refs.length m3, .string ⟨X.t.chk.op.toArray⟩, .int .i64 X.t.chk.v.k, .int .i64 X.t.chk.v.i, .string ⟨X.t.chk.v.s.toArray⟩, .string ⟨X.t.chk.s.toArray⟩, .slice d4 X.t.chk.l.length m4, .slice d5 N m5]] Z (RetRl ⟨X.t, rows'⟩ Z)) := fun Z hz => by
    have := relSort_any ⟨X.t, rows'⟩ ⟨⟨⟨d1, m1⟩, ⟨d2, m2⟩, ⟨d3, m3⟩, ⟨d4, m4⟩⟩, ⟨d5, m5⟩⟩ Z HTB.out hsmY HSL.out (hQ4.keep (old_keep hz hz.size))
    dsimp only [Rl.cells] at this
    rw [hN] at this
    refine this.mono ?_
    rintro en Z' ⟨r2, h2, h3⟩
    obtain rfl := sortedOf_uniq h2 (sortedOf_again hso.1)
    exact h3
  have HSM7 : Hid (∀ (Z : World) (p9 : RlP), Below W2.heap.size W2 Z → RlQ 1000 ⟨X.t, rows'⟩ p9 (Old Z.heap.size) Z → Calls Tryz.prog 14 #[.agg ((⟨X.t, rows'⟩ : Rl).cells p9).toArray, .agg #[.string ⟨X.t.n.toArray⟩, .slice d1 X.t.cols.length m1, .int .i64 X.t.key, .slice d2 X.t.uniq.length m2, .slice d3 X.t.refs.length m3, .string ⟨X.t.chk.op.toArray⟩, .int .i64 X.t.chk.v.k, .int .i64 X.t.chk.v.i, .string ⟨X.t.chk.v.s.toArray⟩, .string ⟨X.t.chk.s.toArray⟩, .slice d4 X.t.chk.l.length m4, .slice d5 N m5]] Z (Ret (.bool true) Z)) := fun Z p9 hz h9 => by
    have := same7_any ⟨X.t, rows'⟩ p9 ⟨⟨⟨d1, m1⟩, ⟨d2, m2⟩, ⟨d3, m3⟩, ⟨d4, m4⟩⟩, ⟨d5, m5⟩⟩ Z HTB.out hsmY h9 (hQ4.keep (old_keep hz hz.size))
    dsimp only [Rl.cells] at this ⊢
    rw [hN] at this ⊢
    exact this
  have HSH : Hid (∀ Z : World, Below W2.heap.size W2 Z → (Z.cell? ⟨w.heap.size, 0, none⟩ = some (.string ⟨X.t.n.toArray⟩) ∧ Z.cell? ⟨w.heap.size, 1, none⟩ = some (.slice b1 X.t.cols.length l1) ∧ Z.cell? ⟨w.heap.size, 2, none⟩ = some (.int .i64 X.t.key) ∧ Z.cell? ⟨w.heap.size, 3, none⟩ = some (.slice b2 X.t.uniq.length l2) ∧ Z.cell? ⟨w.heap.size, 4, none⟩ = some (.slice b3 X.t.refs.length l3) ∧ Z.cell? ⟨w.heap.size, 5, none⟩ = some (.string ⟨X.t.chk.op.toArray⟩) ∧ Z.cell? ⟨w.heap.size, 6, none⟩ = some (.int .i64 X.t.chk.v.k) ∧ Z.cell? ⟨w.heap.size, 7, none⟩ = some (.int .i64 X.t.chk.v.i) ∧ Z.cell? ⟨w.heap.size, 8, none⟩ = some (.string ⟨X.t.chk.v.s.toArray⟩) ∧ Z.cell? ⟨w.heap.size, 9, none⟩ = some (.string ⟨X.t.chk.s.toArray⟩) ∧ Z.cell? ⟨w.heap.size, 10, none⟩ = some (.slice b4 X.t.chk.l.length l4) ∧ Z.cell? ⟨w.heap.size, 11, none⟩ = some (.slice b5 N l5)) ∧ Z.cell? ⟨w2.heap.size, 0, none⟩ = some (.string ⟨X.t.n.toArray⟩) ∧ Z.cell? ⟨w2.heap.size, 1, none⟩ = some (.slice d1 X.t.cols.length m1) ∧ Z.cell? ⟨w2.heap.size, 2, none⟩ = some (.int .i64 X.t.key) ∧ Z.cell? ⟨w2.heap.size, 3, none⟩ = some (.slice d2 X.t.uniq.length m2) ∧ Z.cell? ⟨w2.heap.size, 4, none⟩ = some (.slice d3 X.t.refs.length m3) ∧ Z.cell? ⟨w2.heap.size, 5, none⟩ = some (.string ⟨X.t.chk.op.toArray⟩) ∧ Z.cell? ⟨w2.heap.size, 6, none⟩ = some (.int .i64 X.t.chk.v.k) ∧ Z.cell? ⟨w2.heap.size, 7, none⟩ = some (.int .i64 X.t.chk.v.i) ∧ Z.cell? ⟨w2.heap.size, 8, none⟩ = some (.string ⟨X.t.chk.v.s.toArray⟩) ∧ Z.cell? ⟨w2.heap.size, 9, none⟩ = some (.string ⟨X.t.chk.s.toArray⟩) ∧ Z.cell? ⟨w2.heap.size, 10, none⟩ = some (.slice d4 X.t.chk.l.length m4) ∧ Z.cell? ⟨w2.heap.size, 11, none⟩ = some (.slice d5 N m5)) := fun Z hz => ⟨by rw [← hNX]; exact ⟨(kX2.below hz kX2.lt).cell 0, (kX2.below hz kX2.lt).cell 1, (kX2.below hz kX2.lt).cell 2, (kX2.below hz kX2.lt).cell 3, (kX2.below hz kX2.lt).cell 4, (kX2.below hz kX2.lt).cell 5, (kX2.below hz kX2.lt).cell 6, (kX2.below hz kX2.lt).cell 7, (kX2.below hz kX2.lt).cell 8, (kX2.below hz kX2.lt).cell 9, (kX2.below hz kX2.lt).cell 10, (kX2.below hz kX2.lt).cell 11⟩, (kY.below hz kY.lt).cell 0, (kY.below hz kY.lt).cell 1, (kY.below hz kY.lt).cell 2, (kY.below hz kY.lt).cell 3, (kY.below hz kY.lt).cell 4, (kY.below hz kY.lt).cell 5, (kY.below hz kY.lt).cell 6, (kY.below hz kY.lt).cell 7, (kY.below hz kY.lt).cell 8, (kY.below hz kY.lt).cell 9, (kY.below hz kY.lt).cell 10, (kY.below hz kY.lt).cell 11⟩
  have HQX : Hid (∀ Z : World, Below W2.heap.size W2 Z → TbQ 1000 X.t ⟨⟨b1, l1⟩, ⟨b2, l2⟩, ⟨b3, l3⟩, ⟨b4, l4⟩⟩ (Old Z.heap.size) Z) := fun Z hz => (HQ2.out.keep (old_keep (hb12.trans (hz.mono hb12.size)) (hb12.trans (hz.mono hb12.size)).size)).1
  have HVW := Lib.hid hW2
  have HQ4 := Lib.hid hQ4
  have HRISE := Lib.hid hso.1
  have HNX : Hid (X.rows.length = N) := hNX
  have HN := Lib.hid hN
  have HMEM := Lib.hid hmem
  have HBW : Hid (∀ Y : World, Below W2.heap.size W2 Y → Below w.heap.size w Y) := fun Y h => by
    have h1 := HB1.out
    exact h1.trans ((hb12.trans (h.mono hb12.size)).mono h1.size)
  have hlW : w2.heap.size < W2.heap.size := kY.lt
  have hl0 : w.heap.size < w2.heap.size := by have := hb2.size; omega
  clear hW2 hQ3 hc1 hc2 hb2 hbW2 kY hb12 kX2 hzw hQ4 hmem hsmY hso HSO q0 q1 q2 q3 q4 q5 q6 q7 q8 q9 q10 q11 hN
  obtain ⟨⟨q0, q1, q2, q3, q4, q5, q6, q7, q8, q9, q10, q11⟩, q12, q13, q14, q15, q16, q17, q18, q19, q20, q21, q22, q23⟩ := HSH.out W2 (Below.refl _ _)
  have hNN : Hid (N ≤ 1000) := by show N ≤ 1000; have := HSM.out.2.1; omega
  have gN : ((N : Int) == (X.rows.length : Int)) = true := by rw [hNX]; simp
  rw [hNX] at *
  go_upto_region 3 with fail
  rw [HVW.out]
  go_cut [22] (fun u wx => u = .bool false ∧ Below W2.heap.size W2 wx)
  case first => as_aux_lemma =>
    refine wp_region_held_drew (S := (fun Z => (Z.cell? ⟨w.heap.size, 0, none⟩ = some (.string ⟨X.t.n.toArray⟩) ∧ Z.cell? ⟨w.heap.size, 1, none⟩ = some (.slice b1 X.t.cols.length l1) ∧ Z.cell? ⟨w.heap.size, 2, none⟩ = some (.int .i64 X.t.key) ∧ Z.cell? ⟨w.heap.size, 3, none⟩ = some (.slice b2 X.t.uniq.length l2) ∧ Z.cell? ⟨w.heap.size, 4, none⟩ = some (.slice b3 X.t.refs.length l3) ∧ Z.cell? ⟨w.heap.size, 5, none⟩ = some (.string ⟨X.t.chk.op.toArray⟩) ∧ Z.cell? ⟨w.heap.size, 6, none⟩ = some (.int .i64 X.t.chk.v.k) ∧ Z.cell? ⟨w.heap.size, 7, none⟩ = some (.int .i64 X.t.chk.v.i) ∧ Z.cell? ⟨w.heap.size, 8, none⟩ = some (.string ⟨X.t.chk.v.s.toArray⟩) ∧ Z.cell? ⟨w.heap.size, 9, none⟩ = some (.string ⟨X.t.chk.s.toArray⟩) ∧ Z.cell? ⟨w.heap.size, 10, none⟩ = some (.slice b4 X.t.chk.l.length l4) ∧ Z.cell? ⟨w.heap.size, 11, none⟩ = some (.slice b5 N l5)) ∧ Z.cell? ⟨w2.heap.size, 0, none⟩ = some (.string ⟨X.t.n.toArray⟩) ∧ Z.cell? ⟨w2.heap.size, 1, none⟩ = some (.slice d1 X.t.cols.length m1) ∧ Z.cell? ⟨w2.heap.size, 2, none⟩ = some (.int .i64 X.t.key) ∧ Z.cell? ⟨w2.heap.size, 3, none⟩ = some (.slice d2 X.t.uniq.length m2) ∧ Z.cell? ⟨w2.heap.size, 4, none⟩ = some (.slice d3 X.t.refs.length m3) ∧ Z.cell? ⟨w2.heap.size, 5, none⟩ = some (.string ⟨X.t.chk.op.toArray⟩) ∧ Z.cell? ⟨w2.heap.size, 6, none⟩ = some (.int .i64 X.t.chk.v.k) ∧ Z.cell? ⟨w2.heap.size, 7, none⟩ = some (.int .i64 X.t.chk.v.i) ∧ Z.cell? ⟨w2.heap.size, 8, none⟩ = some (.string ⟨X.t.chk.v.s.toArray⟩) ∧ Z.cell? ⟨w2.heap.size, 9, none⟩ = some (.string ⟨X.t.chk.s.toArray⟩) ∧ Z.cell? ⟨w2.heap.size, 10, none⟩ = some (.slice d4 X.t.chk.l.length m4) ∧ Z.cell? ⟨w2.heap.size, 11, none⟩ = some (.slice d5 N m5))) (by kernel_rfl) ?_ (fun hHeld => ?_)
    · try dsimp only
      exact HSH.out _ (by ((with_reducible repeat' (first | exact bwR | assumption | refine bwD ?_ | refine bwN ?_ | refine bwS ?_ ?_ | refine bwA ?_ ?_ | refine bwT ?_ (by assumption) ?_)) <;> first | (simp; done) | (simp; omega) | omega))
    refine wpAnyT_start [0, 1, 2, 3, 4, 5, 6, 7, 8, 10] ?_
    iterate 10
      refine wpAnyT_cons (v := ?_) rfl (by kernel_rfl) (by kernel_rfl) (by kernel_rfl) (fun _ _ _ h => h) (Or.inl ⟨by rfl, ?_⟩) (by assumption) ?_
      rotate_left
      · intro wq hSw
        try dsimp only at hSw
        go_simp
        try with_reducible rfl
      try simp only [Act.put, List.getElem_toArray, List.getElem_cons_zero, List.getElem_cons_succ, List.setIfInBounds_toArray, List.set_cons_zero, List.set_cons_succ]
    refine wpAnyT_nil ?_
    refine wpAnyH_ready (rs := [9]) (by kernel_rfl) (by simp) ?_
    refine AllReadyH.cons rfl (fun K hK => ?_) AllReadyH.nil
    go_simp
    (refine (HS2.out _ (by ((with_reducible repeat' (first | exact bwR | assumption | refine bwD ?_ | refine bwN ?_ | refine bwS ?_ ?_ | refine bwA ?_ ?_ | refine bwT ?_ (by assumption) ?_)) <;> first | (simp; done) | (simp; omega) | omega))).mono ?_) <;> rintro en w9 ⟨p9, rfl, hQ9, _, _, hb9⟩ <;> have hz9 := hb9.size <;> (try simp at hz9)
    go_wp2_with fail
    refine hK.out _ _ ?_ (fun hHeld => ?_)
    · try dsimp only
      exact HSH.out _ (by ((with_reducible repeat' (first | exact bwR | assumption | refine bwD ?_ | refine bwN ?_ | refine bwS ?_ ?_ | refine bwA ?_ ?_ | refine bwT ?_ (by assumption) ?_)) <;> first | (simp; done) | (simp; omega) | omega))
    clear hK K
    try simp only [Act.put, List.getElem_toArray, List.getElem_cons_zero, List.getElem_cons_succ, List.setIfInBounds_toArray, List.set_cons_zero, List.set_cons_succ]
    refine wpAnyH_ready (rs := [11]) (by kernel_rfl) (by simp) ?_
    refine AllReadyH.cons rfl (fun K hK => ?_) AllReadyH.nil
    go_simp
    (refine (HSM7.out _ p9 (by ((with_reducible repeat' (first | exact bwR | assumption | refine bwD ?_ | refine bwN ?_ | refine bwS ?_ ?_ | refine bwA ?_ ?_ | refine bwT ?_ (by assumption) ?_)) <;> first | (simp; done) | (simp; omega) | omega)) (hQ9.keep fun b hb => ⟨hb.2, fun _ => rfl⟩)).mono ?_) <;> rintro en w11 ⟨rfl, hb11⟩ <;> have hz11 := hb11.size <;> (try simp at hz11)
    go_wp2_with fail
    refine hK.out _ _ ?_ (fun hHeld => ?_)
    · try dsimp only
      exact HSH.out _ (by ((with_reducible repeat' (first | exact bwR | assumption | refine bwD ?_ | refine bwN ?_ | refine bwS ?_ ?_ | refine bwA ?_ ?_ | refine bwT ?_ (by assumption) ?_)) <;> first | (simp; done) | (simp; omega) | omega))
    clear hK K
    try simp only [Act.put, List.getElem_toArray, List.getElem_cons_zero, List.getElem_cons_succ, List.setIfInBounds_toArray, List.set_cons_zero, List.set_cons_succ]
    refine wpAnyT_start [12, 13] ?_
    iterate 2
      refine wpAnyT_cons (v := ?_) rfl (by kernel_rfl) (by kernel_rfl) (by kernel_rfl) (fun _ _ _ h => h) (Or.inl ⟨by rfl, ?_⟩) (by assumption) ?_
      rotate_left
      · intro wq hSw
        try dsimp only at hSw
        go_simp
        try with_reducible rfl
      try simp only [Act.put, List.getElem_toArray, List.getElem_cons_zero, List.getElem_cons_succ, List.setIfInBounds_toArray, List.set_cons_zero, List.set_cons_succ]
    refine wpAnyT_nil ?_
    refine wpAnyH_done (by kernel_rfl) ?_ _
    go_wp2_with fail
    go_meet
    exact ⟨rfl, by ((with_reducible repeat' (first | exact bwR | assumption | refine bwD ?_ | refine bwN ?_ | refine bwS ?_ ?_ | refine bwA ?_ ?_ | refine bwT ?_ (by assumption) ?_)) <;> first | (simp; done) | (simp; omega) | omega)⟩
  obtain ⟨rfl, hbc⟩ := hcut
  obtain ⟨W3, rfl⟩ : ∃ W, W = wc := ⟨_, rfl⟩
  have HBC := Lib.hid hbc
  clear hbc
  have HROW : Hid (∀ Z : World, Below W2.heap.size W2 Z → ∀ k0 k, k0 < N → k < N → ∃ b o A1 e1 A2 e2 r1 r2, d5 = some ⟨b, o, none⟩ ∧ rows'[k0]? = some r1 ∧ rows'[k]? = some r2 ∧ Z.cell? ⟨b, o + k0, none⟩ = some (.slice A1 r1.length e1) ∧ Z.cell? ⟨b, o + k, none⟩ = some (.slice A2 r2.length e2) ∧ WQ r1 A1 (Old W2.heap.size) Z ∧ WQ r2 A2 (Old W2.heap.size) Z) := fun Z hz k0 k h0 h1 => by
    have hN := HN.out
    obtain ⟨b, o, e, hb, hr⟩ := HQ4.out.2 (by show 0 < rows'.length; omega)
    have hk0 : k0 < rows'.length := by omega
    have hk1 : k < rows'.length := by omega
    obtain ⟨A1, e1, c1, w1'⟩ := hr k0 _ (List.getElem?_eq_getElem hk0)
    obtain ⟨A2, e2, c2, w2'⟩ := hr k _ (List.getElem?_eq_getElem hk1)
    have hk : ∀ b, Old W2.heap.size b → Old W2.heap.size b ∧ ∀ o, Z.cell? ⟨b, o, none⟩ = W2.cell? ⟨b, o, none⟩ := fun b hb => ⟨hb, fun o => hz.cell (p := ⟨b, o, none⟩) hb⟩
    exact ⟨b, o, A1, e1, A2, e2, _, _, e, List.getElem?_eq_getElem hk0, List.getElem?_eq_getElem hk1, ((hk b hb).2 _).trans c1, ((hk b hb).2 _).trans c2, w1'.keep hk, w2'.keep hk⟩
  obtain ⟨mb, hmb⟩ : ∃ b, mayTb X.t = b := ⟨_, rfl⟩
  have HMAY : Hid (∀ Z : World, Below W2.heap.size W2 Z → Calls Tryz.prog 18 #[.agg #[.string ⟨X.t.n.toArray⟩, .slice b1 X.t.cols.length l1, .int .i64 X.t.key, .slice b2 X.t.uniq.length l2, .slice b3 X.t.refs.length l3, .string ⟨X.t.chk.op.toArray⟩, .int .i64 X.t.chk.v.k, .int .i64 X.t.chk.v.i, .string ⟨X.t.chk.v.s.toArray⟩, .string ⟨X.t.chk.s.toArray⟩, .slice b4 X.t.chk.l.length l4]] Z (Ret (.bool mb) Z)) := fun Z hz => by
    have := may6_any X.t ⟨⟨b1, l1⟩, ⟨b2, l2⟩, ⟨b3, l3⟩, ⟨b4, l4⟩⟩ Z HTB.out (HQX.out Z hz)
    rw [hmb] at this
    exact this
  have HMB := Lib.hid hmb
  clear hmb q0 q1 q2 q3 q4 q5 q6 q7 q8 q9 q10 q11 q12 q13 q14 q15 q16 q17 q18 q19 q20 q21 q22 q23
  go_upto_block 0 with fail
  go_cut [] (fun wx => Below W2.heap.size W2 wx)
  case first => as_aux_lemma =>
    go_wp2_with fail
    go_loopw [4] (fun iv wr => ∃ k : Nat, 1 ≤ k ∧ k ≤ N + 1 ∧ iv = .int .i64 k ∧ Below W2.heap.size W2 wr) (fun iv _ => N + 2 - (intOf iv).toNat)
    case atStart => exact ⟨1, by omega, by omega, by go_num, HBC.out⟩
    case round =>
      obtain ⟨k, hk0, hk, rfl, hbw⟩ := hrel
      obtain ⟨wk, rfl⟩ : ∃ wk : World, wk = wr := ⟨_, rfl⟩
      obtain ⟨⟨q0, q1, q2, q3, q4, q5, q6, q7, q8, q9, q10, q11⟩, q12, q13, q14, q15, q16, q17, q18, q19, q20, q21, q22, q23⟩ := HSH.out wk hbw
      have hNb := hNN.out
      have i9 : IntKind.i64.wrap ((k : Int) + 1) = (k : Int) + 1 := IntWalk.i64_in _ (by omega)
      by_cases hlt : k < N
      · have gd : decide (k < N) = true := decide_eq_true hlt
        have HBWK := Lib.hid hbw
        have HM1 := Lib.hid (HMAY.out wk hbw)
        cases mb with
        | false => as_aux_lemma =>
          clear hbw
          go_wp2_with fail
          refine HM1.out.mono ?_
          rintro en w5 ⟨rfl, hb5⟩
          have HB5 := Lib.hid (HBWK.out.trans (hb5.mono HBWK.out.size))
          go_wp2_with fail
          go_meet
          exact HB5.out
        | true => as_aux_lemma =>
          clear hbw
          go_wp2_with fail
          refine HM1.out.mono ?_
          rintro en w5 ⟨rfl, hb5⟩
          have hbW6 : Below W2.heap.size W2 w5 := HBWK.out.trans (hb5.mono HBWK.out.size)
          obtain ⟨k0, hkk0⟩ : ∃ n, k - 1 = n := ⟨_, rfl⟩
          have hk01 : k0 + 1 = k := by omega
          obtain ⟨b, o, A1, e1, A2, e2, r1, r2, hd5, hr1, hr2, c1, c2, hw1, hw2⟩ := HROW.out w5 hbW6 k0 k (by omega) hlt
          obtain ⟨kk, hkk⟩ : ∃ n : Nat, X.t.key = (n : Int) := ⟨X.t.key.toNat, by
            have := HMB.out
            simp only [mayTb, lastB, inB, Bool.and_eq_true, decide_eq_true_eq] at this
            omega⟩
          have hof : ofF X.t = (kk : Int) := by unfold ofF; rw [HMB.out, hkk]; rfl
          have hcmp : cmpR (kk : Int) r1 r2 ≤ 0 := by rw [← hof]; exact Rise.get (cmpR_pre _) HRISE.out hr1 hr2 (by omega)
          subst hd5
          obtain ⟨⟨s0, s1, s2, s3, s4, s5, s6, s7, s8, s9, s10, s11⟩, s12, s13, s14, s15, s16, s17, s18, s19, s20, s21, s22, s23⟩ := HSH.out w5 hbW6
          rw [hkk] at s2
          have HCELL : Hid (∀ Z : World, Below w5.heap.size w5 Z → Z.cell? ⟨w.heap.size, 2, none⟩ = some (.int .i64 (kk : Int)) ∧ Z.cell? ⟨w2.heap.size, 11, none⟩ = some (.slice (some ⟨b, o, none⟩) N m5) ∧ Z.cell? ⟨b, o + k0, none⟩ = some (.slice A1 r1.length e1) ∧ Z.cell? ⟨b, o + k, none⟩ = some (.slice A2 r2.length e2)) := fun Z hz => by
            obtain ⟨⟨s0, s1, s2, s3, s4, s5, s6, s7, s8, s9, s10, s11⟩, s12, s13, s14, s15, s16, s17, s18, s19, s20, s21, s22, s23⟩ := HSH.out Z (hbW6.trans (hz.mono hbW6.size))
            rw [hkk] at s2
            obtain ⟨b', o', A1', e1', A2', e2', r1', r2', hd5', hr1', hr2', c1', c2', _, _⟩ := HROW.out Z (hbW6.trans (hz.mono hbW6.size)) k0 k (by omega) hlt
            have hb5 : b < w5.heap.size := Blk_lt_of_cell c1
            exact ⟨s2, s23, (hz.cell (p := ⟨b, o + k0, none⟩) hb5).trans c1, (hz.cell (p := ⟨b, o + k, none⟩) hb5).trans c2⟩
          have i1 : IntKind.i64.wrap ((k : Int) - 1) = (k0 : Int) := by rw [IntWalk.i64_in _ (by omega)]; omega
          have j1 : (0 : Int) ≤ (k0 : Int) := by omega
          have j2 : (k0 : Int) < (N : Int) := by omega
          have j3 : (0 : Int) ≤ (k : Int) := by omega
          have j4 : (k : Int) < (N : Int) := by omega
          have j5 : k0 < N := by omega
          have HB6 := Lib.hid hbW6
          by_cases h1 : kk < r1.length
          · by_cases h2 : kk < r2.length
            · as_aux_lemma =>
              have hS := hbW6.size
              obtain ⟨g1, o1, v1, rfl, hg1, hv1, x0, x1, x2⟩ := (hw1.s (B := w5.heap.size) (fun b hb => Nat.lt_of_lt_of_le hb hS)).at_ (j := kk) h1
              obtain ⟨g2, o2, v2, rfl, hg2, hv2, y0, y1, y2⟩ := (hw2.s (B := w5.heap.size) (fun b hb => Nat.lt_of_lt_of_le hb hS)).at_ (j := kk) h2
              have hR : vord (goodV v1.k v1.i v1.s) (goodV v2.k v2.i v2.s) ≤ 0 := by
                unfold cmpR keyAt at hcmp
                rw [if_neg (by omega), if_neg (by omega), Int.toNat_natCast, ordV_eq] at hcmp
                unfold atV at hcmp
                rw [List.getD_eq_getElem?_getD, List.getD_eq_getElem?_getD, hv1, hv2] at hcmp
                exact hcmp
              have hs1 : v1.s.length ≤ 140737488351232 := by have := ((HTX.out r1 (HMEM.out r1 (List.mem_of_getElem? hr1))).2 v1 (List.mem_of_getElem? hv1)).2; omega
              have hs2 : v2.s.length ≤ 140737488351232 := by have := ((HTX.out r2 (HMEM.out r2 (List.mem_of_getElem? hr2))).2 v2 (List.mem_of_getElem? hv2)).2; omega
              obtain ⟨R, hRR⟩ : ∃ R, vord (goodV v1.k v1.i v1.s) (goodV v2.k v2.i v2.s) = R := ⟨_, rfl⟩
              rw [hRR] at hR
              have HORD : Hid (∀ Z : World, Calls Tryz.prog 19 #[.agg #[.int .i64 (v1).k, .int .i64 (v1).i, .string ⟨(v1).s.toArray⟩], .agg #[.int .i64 (v2).k, .int .i64 (v2).i, .string ⟨(v2).s.toArray⟩]] Z (Ret (.int .i64 R) Z)) := fun Z => by
                have := rorder_any v1.k v1.i v1.s v2.k v2.i v2.s Z hs1 hs2
                rw [hRR] at this
                exact this
              have HCV : Hid (∀ Z : World, Below w5.heap.size w5 Z → Z.cell? ⟨w.heap.size, 2, none⟩ = some (.int .i64 (kk : Int)) ∧ Z.cell? ⟨w2.heap.size, 11, none⟩ = some (.slice (some ⟨b, o, none⟩) N m5) ∧ Z.cell? ⟨b, o + k0, none⟩ = some (.slice (some ⟨g1, o1, none⟩) r1.length e1) ∧ Z.cell? ⟨b, o + k, none⟩ = some (.slice (some ⟨g2, o2, none⟩) r2.length e2) ∧ Z.cell? ⟨g1, o1 + kk * 3, none⟩ = some (.int .i64 v1.k) ∧ Z.cell? ⟨g1, o1 + kk * 3 + 1, none⟩ = some (.int .i64 v1.i) ∧ Z.cell? ⟨g1, o1 + kk * 3 + 2, none⟩ = some (.string ⟨v1.s.toArray⟩) ∧ Z.cell? ⟨g2, o2 + kk * 3, none⟩ = some (.int .i64 v2.k) ∧ Z.cell? ⟨g2, o2 + kk * 3 + 1, none⟩ = some (.int .i64 v2.i) ∧ Z.cell? ⟨g2, o2 + kk * 3 + 2, none⟩ = some (.string ⟨v2.s.toArray⟩)) := fun Z hz => by
                obtain ⟨z0, z1, z2, z3⟩ := HCELL.out Z hz
                exact ⟨z0, z1, z2, z3, (hz.cell (p := ⟨g1, _, none⟩) hg1).trans x0, (hz.cell (p := ⟨g1, _, none⟩) hg1).trans x1, (hz.cell (p := ⟨g1, _, none⟩) hg1).trans x2, (hz.cell (p := ⟨g2, _, none⟩) hg2).trans y0, (hz.cell (p := ⟨g2, _, none⟩) hg2).trans y1, (hz.cell (p := ⟨g2, _, none⟩) hg2).trans y2⟩
              have d1 : decide (kk < r1.length) = true := decide_eq_true h1
              have d2 : decide (kk < r2.length) = true := decide_eq_true h2
              have d3 : decide (0 < R) = false := decide_eq_false (by omega)
              have j6 : (0 : Int) ≤ (kk : Int) := by omega
              have j7 : (kk : Int) < (r1.length : Int) := by omega
              have j8 : (kk : Int) < (r2.length : Int) := by omega
              clear hcmp hof hkk hw1 hw2 hr1 hr2 hv1 hv2 hRR hs1 hs2 hbW6 hb5 q0 q1 q2 q3 q4 q5 q6 q7 q8 q9 q10 q11 q12 q13 q14 q15 q16 q17 q18 q19 q20 q21 q22 q23 s0 s1 s2 s3 s4 s5 s6 s7 s8 s9 s10 s11 s12 s13 s14 s15 s16 s17 s18 s19 s20 s21 s22 s23 HSH c1 c2 x0 x1 x2 y0 y1 y2 hkk0 hk01
              go_wp2_with fail
              refine wp_region_held_drew (S := (fun Z => Z.cell? ⟨w.heap.size, 2, none⟩ = some (.int .i64 (kk : Int)) ∧ Z.cell? ⟨w2.heap.size, 11, none⟩ = some (.slice (some ⟨b, o, none⟩) N m5) ∧ Z.cell? ⟨b, o + k0, none⟩ = some (.slice (some ⟨g1, o1, none⟩) r1.length e1) ∧ Z.cell? ⟨b, o + k, none⟩ = some (.slice (some ⟨g2, o2, none⟩) r2.length e2) ∧ Z.cell? ⟨g1, o1 + kk * 3, none⟩ = some (.int .i64 v1.k) ∧ Z.cell? ⟨g1, o1 + kk * 3 + 1, none⟩ = some (.int .i64 v1.i) ∧ Z.cell? ⟨g1, o1 + kk * 3 + 2, none⟩ = some (.string ⟨v1.s.toArray⟩) ∧ Z.cell? ⟨g2, o2 + kk * 3, none⟩ = some (.int .i64 v2.k) ∧ Z.cell? ⟨g2, o2 + kk * 3 + 1, none⟩ = some (.int .i64 v2.i) ∧ Z.cell? ⟨g2, o2 + kk * 3 + 2, none⟩ = some (.string ⟨v2.s.toArray⟩))) (by kernel_rfl) ?_ (fun hHeld => ?_)
              · try dsimp only
                exact HCV.out _ (by ((with_reducible repeat' (first | exact bwR | assumption | refine bwD ?_ | refine bwN ?_ | refine bwS ?_ ?_ | refine bwA ?_ ?_ | refine bwT ?_ (by assumption) ?_)) <;> first | (simp; done) | (simp; omega) | omega))
              refine wpAnyT_start [0, 1, 2, 3, 4, 5, 6, 7, 8, 9, 10, 11, 12, 13, 14, 15, 16, 17, 18, 19, 20, 21, 22, 23, 24, 25, 26, 27, 28, 29, 30, 31, 32, 33, 34, 35, 36, 37, 38, 39, 40, 41, 42, 43, 44] ?_
              iterate 45
                refine wpAnyT_cons (v := ?_) rfl (by kernel_rfl) (by kernel_rfl) (by kernel_rfl) (fun _ _ _ h => h) (Or.inl ⟨by rfl, ?_⟩) (by assumption) ?_
                rotate_left
                · intro wq hSw
                  try dsimp only at hSw
                  go_simp
                  try with_reducible rfl
                try simp only [Act.put, List.getElem_toArray, List.getElem_cons_zero, List.getElem_cons_succ, List.setIfInBounds_toArray, List.set_cons_zero, List.set_cons_succ]
              refine wpAnyT_nil ?_
              refine wpAnyH_ready (rs := [45]) (by kernel_rfl) (by simp) ?_
              refine AllReadyH.cons rfl (fun K hK => ?_) AllReadyH.nil
              go_simp
              (refine (HORD.out _).mono ?_) <;> rintro en w45 ⟨rfl, hb45⟩ <;> have hz45 := hb45.size <;> (try simp at hz45)
              go_wp2_with fail
              refine hK.out _ _ ?_ (fun hHeld => ?_)
              · try dsimp only
                exact HCV.out _ (by ((with_reducible repeat' (first | exact bwR | assumption | refine bwD ?_ | refine bwN ?_ | refine bwS ?_ ?_ | refine bwA ?_ ?_ | refine bwT ?_ (by assumption) ?_)) <;> first | (simp; done) | (simp; omega) | omega))
              clear hK K
              try simp only [Act.put, List.getElem_toArray, List.getElem_cons_zero, List.getElem_cons_succ, List.setIfInBounds_toArray, List.set_cons_zero, List.set_cons_succ]
              refine wpAnyT_start [46, 47] ?_
              iterate 2
                refine wpAnyT_cons (v := ?_) rfl (by kernel_rfl) (by kernel_rfl) (by kernel_rfl) (fun _ _ _ h => h) (Or.inl ⟨by rfl, ?_⟩) (by assumption) ?_
                rotate_left
                · intro wq hSw
                  try dsimp only at hSw
                  go_simp
                  try with_reducible rfl
                try simp only [Act.put, List.getElem_toArray, List.getElem_cons_zero, List.getElem_cons_succ, List.setIfInBounds_toArray, List.set_cons_zero, List.set_cons_succ]
              refine wpAnyT_nil ?_
              refine wpAnyH_done (by kernel_rfl) ?_ _
              go_wp2_with fail
              go_roundw
              case rel => exact ⟨k + 1, by omega, by omega, by go_num, HB6.out.trans (Below.mono (by ((with_reducible repeat' (first | exact bwR | assumption | refine bwD ?_ | refine bwN ?_ | refine bwS ?_ ?_ | refine bwA ?_ ?_ | refine bwT ?_ (by assumption) ?_)) <;> first | (simp; done) | (simp; omega) | omega)) HB6.out.size)⟩
              case measure => simp [intOf]; omega
            · as_aux_lemma =>
              have d1 : decide (kk < r1.length) = true := decide_eq_true h1
              have d2 : decide (kk < r2.length) = false := decide_eq_false h2
              clear hcmp hof hkk hw1 hw2 hr1 hr2 hbW6 hb5 q0 q1 q2 q3 q4 q5 q6 q7 q8 q9 q10 q11 q12 q13 q14 q15 q16 q17 q18 q19 q20 q21 q22 q23 s0 s1 s2 s3 s4 s5 s6 s7 s8 s9 s10 s11 s12 s13 s14 s15 s16 s17 s18 s19 s20 s21 s22 s23 HSH c1 c2 hkk0 hk01
              go_wp2_with fail
              refine wp_region_held_drew (S := (fun Z => Z.cell? ⟨w.heap.size, 2, none⟩ = some (.int .i64 (kk : Int)) ∧ Z.cell? ⟨w2.heap.size, 11, none⟩ = some (.slice (some ⟨b, o, none⟩) N m5) ∧ Z.cell? ⟨b, o + k0, none⟩ = some (.slice A1 r1.length e1) ∧ Z.cell? ⟨b, o + k, none⟩ = some (.slice A2 r2.length e2))) (by kernel_rfl) ?_ (fun hHeld => ?_)
              · try dsimp only
                exact HCELL.out _ (by ((with_reducible repeat' (first | exact bwR | assumption | refine bwD ?_ | refine bwN ?_ | refine bwS ?_ ?_ | refine bwA ?_ ?_ | refine bwT ?_ (by assumption) ?_)) <;> first | (simp; done) | (simp; omega) | omega))
              refine wpAnyT_start [0, 1, 2, 3, 4, 5, 6, 7, 8, 9, 10, 11, 12, 13, 14, 15, 16, 17, 18, 19, 20, 21, 22, 23] ?_
              iterate 24
                refine wpAnyT_cons (v := ?_) rfl (by kernel_rfl) (by kernel_rfl) (by kernel_rfl) (fun _ _ _ h => h) (Or.inl ⟨by rfl, ?_⟩) (by assumption) ?_
                rotate_left
                · intro wq hSw
                  try dsimp only at hSw
                  go_simp
                  try with_reducible rfl
                try simp only [Act.put, List.getElem_toArray, List.getElem_cons_zero, List.getElem_cons_succ, List.setIfInBounds_toArray, List.set_cons_zero, List.set_cons_succ]
              refine wpAnyT_nil ?_
              refine wpAnyT_start [24, 25, 26, 27, 28, 29, 30, 31, 32, 33, 34, 35, 36, 37, 38, 39, 40, 41, 42, 43, 44, 45, 46] ?_
              iterate 23
                refine wpAnyT_cons (v := undef) rfl (by kernel_rfl) (by kernel_rfl) (by kernel_rfl) (fun _ _ _ h => h) (Or.inr ⟨by rfl, rfl⟩) (by assumption) ?_
                try simp only [Act.put, List.getElem_toArray, List.getElem_cons_zero, List.getElem_cons_succ, List.setIfInBounds_toArray, List.set_cons_zero, List.set_cons_succ]
              refine wpAnyT_nil ?_
              refine wpAnyH_take (i := 47) (v := ?_) rfl (by kernel_rfl) (by kernel_rfl) (by kernel_rfl) (fun _ _ _ h => h) (Or.inl ⟨by rfl, ?_⟩) (by assumption) ?_
              rotate_left
              · intro wq hSw
                try dsimp only at hSw
                go_simp
                try with_reducible rfl
              try simp only [Act.put, List.getElem_toArray, List.getElem_cons_zero, List.getElem_cons_succ, List.setIfInBounds_toArray, List.set_cons_zero, List.set_cons_succ]
              refine wpAnyH_done (by kernel_rfl) ?_ _
              go_wp2_with fail
              go_roundw
              case rel => exact ⟨k + 1, by omega, by omega, by go_num, HB6.out.drew⟩
              case measure => simp [intOf]; omega
          · as_aux_lemma =>
            have d1 : decide (kk < r1.length) = false := decide_eq_false h1
            clear hcmp hof hkk hw1 hw2 hr1 hr2 hbW6 hb5 q0 q1 q2 q3 q4 q5 q6 q7 q8 q9 q10 q11 q12 q13 q14 q15 q16 q17 q18 q19 q20 q21 q22 q23 s0 s1 s2 s3 s4 s5 s6 s7 s8 s9 s10 s11 s12 s13 s14 s15 s16 s17 s18 s19 s20 s21 s22 s23 HSH c1 c2 hkk0 hk01
            go_wp2_with fail
            refine wp_region_held_drew (S := (fun Z => Z.cell? ⟨w.heap.size, 2, none⟩ = some (.int .i64 (kk : Int)) ∧ Z.cell? ⟨w2.heap.size, 11, none⟩ = some (.slice (some ⟨b, o, none⟩) N m5) ∧ Z.cell? ⟨b, o + k0, none⟩ = some (.slice A1 r1.length e1) ∧ Z.cell? ⟨b, o + k, none⟩ = some (.slice A2 r2.length e2))) (by kernel_rfl) ?_ (fun hHeld => ?_)
            · try dsimp only
              exact HCELL.out _ (by ((with_reducible repeat' (first | exact bwR | assumption | refine bwD ?_ | refine bwN ?_ | refine bwS ?_ ?_ | refine bwA ?_ ?_ | refine bwT ?_ (by assumption) ?_)) <;> first | (simp; done) | (simp; omega) | omega))
            refine wpAnyT_start [0, 1, 2, 3, 4, 5, 6, 7, 8, 9, 10, 11] ?_
            iterate 12
              refine wpAnyT_cons (v := ?_) rfl (by kernel_rfl) (by kernel_rfl) (by kernel_rfl) (fun _ _ _ h => h) (Or.inl ⟨by rfl, ?_⟩) (by assumption) ?_
              rotate_left
              · intro wq hSw
                try dsimp only at hSw
                go_simp
                try with_reducible rfl
              try simp only [Act.put, List.getElem_toArray, List.getElem_cons_zero, List.getElem_cons_succ, List.setIfInBounds_toArray, List.set_cons_zero, List.set_cons_succ]
            refine wpAnyT_nil ?_
            refine wpAnyT_start [12, 13, 14, 15, 16, 17, 18, 19, 20, 21] ?_
            iterate 10
              refine wpAnyT_cons (v := undef) rfl (by kernel_rfl) (by kernel_rfl) (by kernel_rfl) (fun _ _ _ h => h) (Or.inr ⟨by rfl, rfl⟩) (by assumption) ?_
              try simp only [Act.put, List.getElem_toArray, List.getElem_cons_zero, List.getElem_cons_succ, List.setIfInBounds_toArray, List.set_cons_zero, List.set_cons_succ]
            refine wpAnyT_nil ?_
            refine wpAnyT_start [22, 23] ?_
            iterate 2
              refine wpAnyT_cons (v := ?_) rfl (by kernel_rfl) (by kernel_rfl) (by kernel_rfl) (fun _ _ _ h => h) (Or.inl ⟨by rfl, ?_⟩) (by assumption) ?_
              rotate_left
              · intro wq hSw
                try dsimp only at hSw
                go_simp
                try with_reducible rfl
              try simp only [Act.put, List.getElem_toArray, List.getElem_cons_zero, List.getElem_cons_succ, List.setIfInBounds_toArray, List.set_cons_zero, List.set_cons_succ]
            refine wpAnyT_nil ?_
            refine wpAnyT_start [24, 25, 26, 27, 28, 29, 30, 31, 32, 33, 34, 35, 36, 37, 38, 39, 40, 41, 42, 43, 44, 45, 46] ?_
            iterate 23
              refine wpAnyT_cons (v := undef) rfl (by kernel_rfl) (by kernel_rfl) (by kernel_rfl) (fun _ _ _ h => h) (Or.inr ⟨by rfl, rfl⟩) (by assumption) ?_
              try simp only [Act.put, List.getElem_toArray, List.getElem_cons_zero, List.getElem_cons_succ, List.setIfInBounds_toArray, List.set_cons_zero, List.set_cons_succ]
            refine wpAnyT_nil ?_
            refine wpAnyH_take (i := 47) (v := ?_) rfl (by kernel_rfl) (by kernel_rfl) (by kernel_rfl) (fun _ _ _ h => h) (Or.inl ⟨by rfl, ?_⟩) (by assumption) ?_
            rotate_left
            · intro wq hSw
              try dsimp only at hSw
              go_simp
              try with_reducible rfl
            try simp only [Act.put, List.getElem_toArray, List.getElem_cons_zero, List.getElem_cons_succ, List.setIfInBounds_toArray, List.set_cons_zero, List.set_cons_succ]
            refine wpAnyH_done (by kernel_rfl) ?_ _
            go_wp2_with fail
            go_roundw
            case rel => exact ⟨k + 1, by omega, by omega, by go_num, HB6.out.drew⟩
            case measure => simp [intOf]; omega
      · as_aux_lemma =>
        have gd : decide (k < N) = false := decide_eq_false hlt
        have HBWK := Lib.hid hbw
        clear hbw
        go_wp2_with fail
        go_meet
        exact HBWK.out
  obtain ⟨W4, rfl⟩ : ∃ W, W = wc := ⟨_, rfl⟩
  have HW4 := Lib.hid hcut
  clear hcut
  go_wp2_with fail
  refine (awake7_any _).mono ?_
  rintro en w9 ⟨rfl, hb9⟩
  go_wp2_with fail
  go_ret
  exact ⟨rfl, HBW.out _ (HW4.out.trans (hb9.mono HW4.out.size))⟩
open Go.ChangeShapes Go.WideShapes Go.ChangeAt
set_option maxRecDepth 100000 in
theorem relRises_lifted (os : Os) (started : os.Started) (H : Type) (enc : TypeId × Value → H) :
    ReturnsInHanded {} Tryz.checked os 6 .any (Rows.relRisesSpec.pre6 enc Tryz.prog Tryz.f6 Rows.relRisesRow.domain false) (Rows.relRisesSpec.post enc Tryz.prog Tryz.f6 false true false false) := by
  refine returnsInHanded_of_change (C := Tryz.checked) own started (by kernel_rfl) Tryz.func6
    (ChangeSpec.witness6 (enc := enc) (C := Tryz.checked) false ⟨#[], #[.agg #[.string ⟨#[]⟩, .slice none 0 0, .int .i64 0, .slice none 0 0, .slice none 0 0, .string ⟨#[]⟩, .int .i64 0, .int .i64 0, .string ⟨#[]⟩, .string ⟨#[]⟩, .slice none 0 0, .slice none 0 0]], []⟩ 8 (by kernel_rfl) (by kernel_rfl) (by kernel_rfl) (by kernel_rfl)) ?_
  intro W base args ds gs before hval0 hW hcnd _
  have hval : ∀ (j : Nat) t v, Tryz.f6.params[j]? = some t → args[j]? = some v → Value.okWide Tryz.prog W .any base t v := hval0
  have hW' := hW
  obtain ⟨p, q, hA0, hV, rfl, hfz, hnd⟩ := hW
  have hA : DataW.TrodAll enc Tryz.prog W 0 (fun _ => true) true Tryz.f6.params.toList args.toList ds p := hA0
  rw [Tryz.params6] at hA hval
  obtain ⟨v0, vs0, d0, ds0, p0, q0, hargs, rfl, rfl, h0, r0⟩ := trodAll_cons hA
  have k0 := h0
  have lt0 : ∀ x ∈ p0, x.block < W.heap.size := by obtain ⟨m, hm⟩ := k0; exact DataW.trod_lt m _ _ _ hm
  obtain ⟨rfl, rfl, rfl⟩ := trodAll_nil r0
  obtain rfl : args = #[v0] := by cases args; simp_all
  obtain ⟨rfl, rfl⟩ := trodVars_none hV
  obtain ⟨x, p, rfl, hx, hq⟩ := open_rl (hval 0 34 v0 rfl rfl) h0
  clear hA0 hval0
  refine (relRises_walk x p W hx hq).mono fun e W' ⟨he, bel⟩ => ?_
  subst he
  exact ⟨_, rfl, _, _, _, [], _, [], hW', trodAll_mk1 (shut_bool Tryz.underlying4 _), (trodAll_cons_mk (Below.trod laidOut (by kernel_rfl) (of_decide_eq_true (by kernel_rfl)) k0 bel lt0) trodAll_mk0), rfl, bel.frame _, fun h => by cases h⟩

theorem relRises_over : Rows.relRisesRow.holds Tryz.pinned (OpenSpec.ofChange Rows.relRisesSpec) :=
  OpenClaim.holds_of_wide 6 Tryz.f6 rfl rfl rfl rfl rfl rfl rfl ⟨rfl, rfl, rfl, rfl, rfl⟩ rfl rfl rfl rfl rfl (by kernel_rfl) Tryz.func6 (by kernel_rfl)
    (of_decide_eq_true (by kernel_rfl)) (by unfold Func.isWrapper; first | (rw [if_pos (by decide +kernel)]; kernel_rfl) | (rw [if_neg (by decide +kernel)]; exact ⟨rfl, rfl⟩))
    (fun os started H enc _ => relRises_lifted os started H enc)

theorem relRises_holds : Rows.RelRisesSaid := relRises_over
#print axioms relRises_holds

end Go.Proofs.YtdhjogmkhbpcgaaGreat
