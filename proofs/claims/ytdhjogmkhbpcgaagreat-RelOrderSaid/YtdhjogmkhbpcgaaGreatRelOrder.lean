/- RelOrder. Condition: none but that the arguments read as a table with rows and an octet. -/
import Derived.Test.YtdhjogmkhbpcgaaGreatTake
import Derived.Test.YtdhjogmkhbpcgaaGreatRelSort
import Derived.Test.YtdhjogmkhbpcgaaGreatSame7
import Derived.Test.YtdhjogmkhbpcgaaGreatOrderRows
import Derived.Test.YtdhjogmkhbpcgaaGreatRelCkM
import Derived.Test.YtdhjogmkhbpcgaaGreatOpenM
import Derived.Test.YtdhjogmkhbpcgaaGreatOpenS
import Derived.Deep.CutBlock
import Derived.Deep.DeepCutAuto
import Derived.IntWalk
namespace Go.Proofs.YtdhjogmkhbpcgaaGreat
open Go.RowKit

attribute [local go_sem] ByteArray.extract_mk ba_get ba_append
attribute [local go_sem ↓] Go.wp_at_zero Go.wp_at_succ run_eql_V run_neq_V

theorem fewFoldLe (f : Int → Ex → Ex × Int) : ∀ (l : List Ex) (left : Int), (fewFold f l left).1.length ≤ l.length
  | [], _ => Nat.le_refl _
  | x :: r, left => by
    unfold fewFold
    split
    · have := fewFoldLe f r (f left x).2
      simp only [List.length_cons]
      omega
    · simp
theorem fewXLen (e : Ex) : (fewX e).l.length ≤ 3 := by
  have h := fewFoldLe (fewE 13) (e.l.take 3) (80 - 1)
  have h2 : (e.l.take 3).length ≤ 3 := List.length_take_le _ _
  exact Nat.le_trans h h2
theorem fewTb {x : Rl} (h : x.big) : x.few.t.small := by
  obtain ⟨_, _, _, _, _, _, hc, _, _, _⟩ := h
  refine ⟨?_, ?_, ?_, ?_, ?_, ?_, fewX_fit x.t.chk hc.1, ?_⟩
  · exact Nat.le_trans (List.length_take_le _ _) (by omega)
  · exact Nat.le_trans (fewCols_len _) (by omega)
  · intro c hc
    have hc' : c ∈ fewCols x.t.cols := hc
    unfold fewCols at hc'
    rw [List.mem_map] at hc'
    obtain ⟨d, _, rfl⟩ := hc'
    simp only [fewC, List.length_take]
    omega
  · exact Nat.le_trans (List.length_take_le _ _) (by omega)
  · show ((x.t.refs.take 10).map fun r => (⟨r.c, r.t.take 20⟩ : Fr)).length ≤ 1000
    rw [List.length_map, List.length_take]
    omega
  · intro r hr
    have hr' : r ∈ (x.t.refs.take 10).map fun r => (⟨r.c, r.t.take 20⟩ : Fr) := hr
    rw [List.mem_map] at hr'
    obtain ⟨d, _, rfl⟩ := hr'
    simp only [List.length_take]
    omega
  · have := fewXLen x.t.chk
    show (fewX x.t.chk).l.length ≤ maxLen
    unfold maxLen
    omega
theorem fewText {x : Rl} (h : x.big) : x.few.t.small ∧ ∀ r ∈ x.few.rows, r.length ≤ 1000 ∧ ∀ v ∈ r, fitI v.i ∧ v.s.length ≤ 1000 := by
  refine ⟨fewTb h, fun r hm => ?_⟩
  obtain ⟨h1, h2⟩ := (few_small h).2.2 r hm
  refine ⟨h1, fun v hv => ⟨h2 v hv, ?_⟩⟩
  have hm' : r ∈ (x.rows.take (if 200 < x.rows.length then 201 else 40)).map fewL := hm
  rw [List.mem_map] at hm'
  obtain ⟨s, _, rfl⟩ := hm'
  unfold fewL at hv
  rw [List.mem_map] at hv
  obtain ⟨u, _, rfl⟩ := hv
  simp only [fewV, List.length_take]
  omega

theorem ordFew_slim (x : Rl) : x.few.t.chk.slim := fewX_slim x.t.chk
/-- Rows that lie ahead of a block g, gathered in a slice of the call's own that lies behind it. -/
def RowsOld (w : World) (e : TypeId) (g : Nat) (sv : Value) (l : List (List V)) : Prop :=
  ∃ recs : List Rc, recs.map Rc.r = l ∧ w.ownsRow (g + 1) e 1 sv l.length (recs.map Rc.cell) ∧ ∀ q ∈ recs, WQ q.r q.s.a (Old g) w
theorem RowsOld.out {w : World} {e : TypeId} {g0 : Nat} {sv : Value} {l : List (List V)} (h : RowsOld w e g0 sv l) (hl : g0 < w.heap.size) : ∃ A c, sv = .slice A l.length c ∧ RQ l A (Old w.heap.size) w := by
  obtain ⟨recs, h1, h2, h3⟩ := h
  have hn : recs.length = l.length := by rw [← h1, List.length_map]
  rcases h2.2 with ⟨rfl, h0⟩ | ⟨g, cap, cur, rfl, hb, hg, hnc, hcm, hcs, htk⟩
  · rw [h0]
    exact ⟨none, 0, rfl, fun hl => absurd hl (by omega)⟩
  · refine ⟨some ⟨g, 0, none⟩, cap, rfl, fun _ => ⟨g, 0, rfl, (Array.getElem?_eq_some_iff.1 hg).1, fun i r hr => ?_⟩⟩
    rw [← h1, List.getElem?_map, Option.map_eq_some_iff] at hr
    obtain ⟨q, hq, rfl⟩ := hr
    have hc := h2.cells (g := g) rfl i q.cell (by rw [List.getElem?_map, hq]; rfl)
    rw [add_mid] at hc
    exact ⟨q.s.a, q.s.c, hc, (h3 q (List.mem_of_getElem? hq)).keep fun b hb' => ⟨Nat.lt_trans hb' hl, fun _ => rfl⟩⟩
theorem infoRO : (Tryz.prog.info? 43).map (fun i => (i.zero, i.size, i.bytes)) = some (some (.slice none 0 0), 1, 24) := by kernel_rfl
set_option maxRecDepth 100000 in
set_option maxHeartbeats 32000000 in
theorem relOrder_walk (x : Rl) (p : RlP) (n : Nat) (w : World) (hn8 : n ≤ 255) (hs : x.big) (hQ : RlQ maxLen x p (Old w.heap.size) w) : Calls Tryz.prog 7 #[.agg (x.cells p).toArray, .int .u8 (n : Int)] w (Ret (.bool true) w) := by
  obtain ⟨⟨⟨a1, k1⟩, ⟨a2, k2⟩, ⟨a3, k3⟩, ⟨a4, k4⟩⟩, ⟨a5, k5⟩⟩ := p
  obtain ⟨w0, hw0⟩ : ∃ w0, w.alloc (.cells #[.string ⟨x.t.n.toArray⟩, .slice a1 x.t.cols.length k1, .int .i64 x.t.key, .slice a2 x.t.uniq.length k2, .slice a3 x.t.refs.length k3, .string ⟨x.t.chk.op.toArray⟩, .int .i64 x.t.chk.v.k, .int .i64 x.t.chk.v.i, .string ⟨x.t.chk.v.s.toArray⟩, .string ⟨x.t.chk.s.toArray⟩, .slice a4 x.t.chk.l.length k4, .slice a5 x.rows.length k5] 34) = w0 := ⟨_, rfl⟩
  have kx0 : Blk w0 w.heap.size 34 #[.string ⟨x.t.n.toArray⟩, .slice a1 x.t.cols.length k1, .int .i64 x.t.key, .slice a2 x.t.uniq.length k2, .slice a3 x.t.refs.length k3, .string ⟨x.t.chk.op.toArray⟩, .int .i64 x.t.chk.v.k, .int .i64 x.t.chk.v.i, .string ⟨x.t.chk.v.s.toArray⟩, .string ⟨x.t.chk.s.toArray⟩, .slice a4 x.t.chk.l.length k4, .slice a5 x.rows.length k5] := by rw [← hw0]; exact Blk.new _ _ _
  have hb0 : Below w.heap.size w w0 := by rw [← hw0]; exact bl
  have hs0 : w0.heap.size = w.heap.size + 1 := by rw [← hw0]; simp
  have hfw := few7_any x ⟨⟨⟨a1, k1⟩, ⟨a2, k2⟩, ⟨a3, k3⟩, ⟨a4, k4⟩⟩, ⟨a5, k5⟩⟩ w0 hs (hQ.keep (old_keep hb0 hb0.size))
  have hsm := few_small hs
  have htb := fewTb hs
  have htx := (fewText hs).2
  have hsl := ordFew_slim x
  obtain ⟨X, hX⟩ : ∃ X, x.few = X := ⟨_, rfl⟩
  rw [hX] at hfw hsm htb htx hsl
  dsimp only [Rl.cells] at hfw
  obtain ⟨N, hN⟩ : ∃ n, X.rows.length = n := ⟨_, rfl⟩
  have HFW := Lib.hid hfw
  have HSM := Lib.hid hsm
  have HTB := Lib.hid htb
  have HTX := Lib.hid htx
  have HSL := Lib.hid hsl
  have HW := Lib.hid hw0
  have HN := Lib.hid hN
  obtain ⟨q0, q1, q2, q3, q4, q5, q6, q7, q8, q9, q10, q11⟩ : w0.cell? ⟨w.heap.size, 0, none⟩ = some (.string ⟨x.t.n.toArray⟩) ∧ w0.cell? ⟨w.heap.size, 1, none⟩ = some (.slice a1 x.t.cols.length k1) ∧ w0.cell? ⟨w.heap.size, 2, none⟩ = some (.int .i64 x.t.key) ∧ w0.cell? ⟨w.heap.size, 3, none⟩ = some (.slice a2 x.t.uniq.length k2) ∧ w0.cell? ⟨w.heap.size, 4, none⟩ = some (.slice a3 x.t.refs.length k3) ∧ w0.cell? ⟨w.heap.size, 5, none⟩ = some (.string ⟨x.t.chk.op.toArray⟩) ∧ w0.cell? ⟨w.heap.size, 6, none⟩ = some (.int .i64 x.t.chk.v.k) ∧ w0.cell? ⟨w.heap.size, 7, none⟩ = some (.int .i64 x.t.chk.v.i) ∧ w0.cell? ⟨w.heap.size, 8, none⟩ = some (.string ⟨x.t.chk.v.s.toArray⟩) ∧ w0.cell? ⟨w.heap.size, 9, none⟩ = some (.string ⟨x.t.chk.s.toArray⟩) ∧ w0.cell? ⟨w.heap.size, 10, none⟩ = some (.slice a4 x.t.chk.l.length k4) ∧ w0.cell? ⟨w.heap.size, 11, none⟩ = some (.slice a5 x.rows.length k5) := ⟨kx0.cell 0, kx0.cell 1, kx0.cell 2, kx0.cell 3, kx0.cell 4, kx0.cell 5, kx0.cell 6, kx0.cell 7, kx0.cell 8, kx0.cell 9, kx0.cell 10, kx0.cell 11⟩
  clear hfw hsm htb htx hsl hX hw0 hs hQ
  dsimp only [Rl.cells]
  go_enter Tryz.func7, Tryz.ntmps7
  go_upto_region 1 with fail
  rw [show w.alloc _ = w0 from HW.out]
  go_wp2_with fail
  refine HFW.out.mono ?_
  rintro en w1 ⟨⟨⟨⟨b1, l1⟩, ⟨b2, l2⟩, ⟨b3, l3⟩, ⟨b4, l4⟩⟩, ⟨b5, l5⟩⟩, rfl, hQ1, hc1, hc2, hb1⟩
  dsimp only [Rl.cells]
  rw [hN]
  have kx1 := kx0.below hb1 kx0.lt
  obtain ⟨Z1, hZ1⟩ : ∃ Z, ((((((((((((w1.setCell ⟨w.heap.size, 0, none⟩ (.string ⟨X.t.n.toArray⟩)).setCell ⟨w.heap.size, 1, none⟩ (.slice b1 X.t.cols.length l1)).setCell ⟨w.heap.size, 2, none⟩ (.int .i64 X.t.key)).setCell ⟨w.heap.size, 3, none⟩ (.slice b2 X.t.uniq.length l2)).setCell ⟨w.heap.size, 4, none⟩ (.slice b3 X.t.refs.length l3)).setCell ⟨w.heap.size, 5, none⟩ (.string ⟨X.t.chk.op.toArray⟩)).setCell ⟨w.heap.size, 6, none⟩ (.int .i64 X.t.chk.v.k)).setCell ⟨w.heap.size, 7, none⟩ (.int .i64 X.t.chk.v.i)).setCell ⟨w.heap.size, 8, none⟩ (.string ⟨X.t.chk.v.s.toArray⟩)).setCell ⟨w.heap.size, 9, none⟩ (.string ⟨X.t.chk.s.toArray⟩)).setCell ⟨w.heap.size, 10, none⟩ (.slice b4 X.t.chk.l.length l4)).setCell ⟨w.heap.size, 11, none⟩ (.slice b5 N l5)) = Z := ⟨_, rfl⟩
  have hput : Blk ((((((((((((w1.setCell ⟨w.heap.size, 0, none⟩ (.string ⟨X.t.n.toArray⟩)).setCell ⟨w.heap.size, 1, none⟩ (.slice b1 X.t.cols.length l1)).setCell ⟨w.heap.size, 2, none⟩ (.int .i64 X.t.key)).setCell ⟨w.heap.size, 3, none⟩ (.slice b2 X.t.uniq.length l2)).setCell ⟨w.heap.size, 4, none⟩ (.slice b3 X.t.refs.length l3)).setCell ⟨w.heap.size, 5, none⟩ (.string ⟨X.t.chk.op.toArray⟩)).setCell ⟨w.heap.size, 6, none⟩ (.int .i64 X.t.chk.v.k)).setCell ⟨w.heap.size, 7, none⟩ (.int .i64 X.t.chk.v.i)).setCell ⟨w.heap.size, 8, none⟩ (.string ⟨X.t.chk.v.s.toArray⟩)).setCell ⟨w.heap.size, 9, none⟩ (.string ⟨X.t.chk.s.toArray⟩)).setCell ⟨w.heap.size, 10, none⟩ (.slice b4 X.t.chk.l.length l4)).setCell ⟨w.heap.size, 11, none⟩ (.slice b5 N l5)) w.heap.size 34 #[.string ⟨X.t.n.toArray⟩, .slice b1 X.t.cols.length l1, .int .i64 X.t.key, .slice b2 X.t.uniq.length l2, .slice b3 X.t.refs.length l3, .string ⟨X.t.chk.op.toArray⟩, .int .i64 X.t.chk.v.k, .int .i64 X.t.chk.v.i, .string ⟨X.t.chk.v.s.toArray⟩, .string ⟨X.t.chk.s.toArray⟩, .slice b4 X.t.chk.l.length l4, .slice b5 N l5] ∧ But w.heap.size w1 ((((((((((((w1.setCell ⟨w.heap.size, 0, none⟩ (.string ⟨X.t.n.toArray⟩)).setCell ⟨w.heap.size, 1, none⟩ (.slice b1 X.t.cols.length l1)).setCell ⟨w.heap.size, 2, none⟩ (.int .i64 X.t.key)).setCell ⟨w.heap.size, 3, none⟩ (.slice b2 X.t.uniq.length l2)).setCell ⟨w.heap.size, 4, none⟩ (.slice b3 X.t.refs.length l3)).setCell ⟨w.heap.size, 5, none⟩ (.string ⟨X.t.chk.op.toArray⟩)).setCell ⟨w.heap.size, 6, none⟩ (.int .i64 X.t.chk.v.k)).setCell ⟨w.heap.size, 7, none⟩ (.int .i64 X.t.chk.v.i)).setCell ⟨w.heap.size, 8, none⟩ (.string ⟨X.t.chk.v.s.toArray⟩)).setCell ⟨w.heap.size, 9, none⟩ (.string ⟨X.t.chk.s.toArray⟩)).setCell ⟨w.heap.size, 10, none⟩ (.slice b4 X.t.chk.l.length l4)).setCell ⟨w.heap.size, 11, none⟩ (.slice b5 N l5)) := put12 kx1
  rw [hZ1] at hput
  obtain ⟨kX, hbt⟩ := hput
  have hz1 := hb1.size
  have hzz := hbt.size
  have hbw1 : Below w.heap.size w Z1 := But.inside (hb0.trans (hb1.mono hb0.size)) (Nat.le_refl _) hbt
  have hQ2 : RlQ 1000 X ⟨⟨⟨b1, l1⟩, ⟨b2, l2⟩, ⟨b3, l3⟩, ⟨b4, l4⟩⟩, ⟨b5, l5⟩⟩ (Old Z1.heap.size) Z1 := hQ1.keep fun b hb => ⟨by show b < _; omega, fun o => hbt.cell hb.2 (by omega) o⟩
  have HCK : Hid (Calls Tryz.prog 11 #[.agg #[.string ⟨X.t.n.toArray⟩, .slice b1 X.t.cols.length l1, .int .i64 X.t.key, .slice b2 X.t.uniq.length l2, .slice b3 X.t.refs.length l3, .string ⟨X.t.chk.op.toArray⟩, .int .i64 X.t.chk.v.k, .int .i64 X.t.chk.v.i, .string ⟨X.t.chk.v.s.toArray⟩, .string ⟨X.t.chk.s.toArray⟩, .slice b4 X.t.chk.l.length l4, .slice b5 N l5]] Z1 (RetChk X Z1)) := by
    have := check7_any X ⟨⟨⟨b1, l1⟩, ⟨b2, l2⟩, ⟨b3, l3⟩, ⟨b4, l4⟩⟩, ⟨b5, l5⟩⟩ Z1 HTB.out HSM.out.2.1 HTX.out hQ2
    dsimp only [Rl.cells] at this
    rw [hN] at this
    exact this
  have hf1 : ∀ i, w1.frozen? ⟨w.heap.size, i, none⟩ = false := fun i => kx1.frozen i
  clear q0 q1 q2 q3 q4 q5 q6 q7 q8 q9 q10 q11
  obtain ⟨q0, q1, q2, q3, q4, q5, q6, q7, q8, q9, q10, q11⟩ : w1.cell? ⟨w.heap.size, 0, none⟩ = some (.string ⟨x.t.n.toArray⟩) ∧ w1.cell? ⟨w.heap.size, 1, none⟩ = some (.slice a1 x.t.cols.length k1) ∧ w1.cell? ⟨w.heap.size, 2, none⟩ = some (.int .i64 x.t.key) ∧ w1.cell? ⟨w.heap.size, 3, none⟩ = some (.slice a2 x.t.uniq.length k2) ∧ w1.cell? ⟨w.heap.size, 4, none⟩ = some (.slice a3 x.t.refs.length k3) ∧ w1.cell? ⟨w.heap.size, 5, none⟩ = some (.string ⟨x.t.chk.op.toArray⟩) ∧ w1.cell? ⟨w.heap.size, 6, none⟩ = some (.int .i64 x.t.chk.v.k) ∧ w1.cell? ⟨w.heap.size, 7, none⟩ = some (.int .i64 x.t.chk.v.i) ∧ w1.cell? ⟨w.heap.size, 8, none⟩ = some (.string ⟨x.t.chk.v.s.toArray⟩) ∧ w1.cell? ⟨w.heap.size, 9, none⟩ = some (.string ⟨x.t.chk.s.toArray⟩) ∧ w1.cell? ⟨w.heap.size, 10, none⟩ = some (.slice a4 x.t.chk.l.length k4) ∧ w1.cell? ⟨w.heap.size, 11, none⟩ = some (.slice a5 x.rows.length k5) := ⟨kx1.cell 0, kx1.cell 1, kx1.cell 2, kx1.cell 3, kx1.cell 4, kx1.cell 5, kx1.cell 6, kx1.cell 7, kx1.cell 8, kx1.cell 9, kx1.cell 10, kx1.cell 11⟩
  have HVZ := Lib.hid hZ1
  have HKX := Lib.hid kX
  have HB1 := Lib.hid hbw1
  have HQ2 := Lib.hid hQ2
  have hgz : w.heap.size < Z1.heap.size := kX.lt
  have HXC : Hid (∀ Z : World, Below Z1.heap.size Z1 Z → Z.cell? ⟨w.heap.size, 0, none⟩ = some (.string ⟨X.t.n.toArray⟩) ∧ Z.cell? ⟨w.heap.size, 1, none⟩ = some (.slice b1 X.t.cols.length l1) ∧ Z.cell? ⟨w.heap.size, 2, none⟩ = some (.int .i64 X.t.key) ∧ Z.cell? ⟨w.heap.size, 3, none⟩ = some (.slice b2 X.t.uniq.length l2) ∧ Z.cell? ⟨w.heap.size, 4, none⟩ = some (.slice b3 X.t.refs.length l3) ∧ Z.cell? ⟨w.heap.size, 5, none⟩ = some (.string ⟨X.t.chk.op.toArray⟩) ∧ Z.cell? ⟨w.heap.size, 6, none⟩ = some (.int .i64 X.t.chk.v.k) ∧ Z.cell? ⟨w.heap.size, 7, none⟩ = some (.int .i64 X.t.chk.v.i) ∧ Z.cell? ⟨w.heap.size, 8, none⟩ = some (.string ⟨X.t.chk.v.s.toArray⟩) ∧ Z.cell? ⟨w.heap.size, 9, none⟩ = some (.string ⟨X.t.chk.s.toArray⟩) ∧ Z.cell? ⟨w.heap.size, 10, none⟩ = some (.slice b4 X.t.chk.l.length l4) ∧ Z.cell? ⟨w.heap.size, 11, none⟩ = some (.slice b5 N l5)) := fun Z hz => ⟨(HKX.out.below hz HKX.out.lt).cell 0, (HKX.out.below hz HKX.out.lt).cell 1, (HKX.out.below hz HKX.out.lt).cell 2, (HKX.out.below hz HKX.out.lt).cell 3, (HKX.out.below hz HKX.out.lt).cell 4, (HKX.out.below hz HKX.out.lt).cell 5, (HKX.out.below hz HKX.out.lt).cell 6, (HKX.out.below hz HKX.out.lt).cell 7, (HKX.out.below hz HKX.out.lt).cell 8, (HKX.out.below hz HKX.out.lt).cell 9, (HKX.out.below hz HKX.out.lt).cell 10, (HKX.out.below hz HKX.out.lt).cell 11⟩
  clear hZ1 kX hbw1 hQ2 hQ1 hbt hz1 hzz hc1 hc2 hs0 kx0 kx1 hb0 hb1 HFW HW hN
  go_upto_region 2 with fail
  rw [HVZ.out]
  clear HVZ hf1 q0 q1 q2 q3 q4 q5 q6 q7 q8 q9 q10 q11
  obtain ⟨q0, q1, q2, q3, q4, q5, q6, q7, q8, q9, q10, q11⟩ := HXC.out Z1 (Below.refl _ _)
  go_wp2_with fail
  refine HCK.out.mono ?_
  rintro en Z2 ⟨n0, rfl, hck, hb2⟩
  have HB2 := Lib.hid hb2
  have HBW : Hid (∀ Y : World, Below Z1.heap.size Z1 Y → Below w.heap.size w Y) := fun Y h => HB1.out.trans (h.mono HB1.out.size)
  have HCH := Lib.hid hck
  clear hck q0 q1 q2 q3 q4 q5 q6 q7 q8 q9 q10 q11
  obtain ⟨q0, q1, q2, q3, q4, q5, q6, q7, q8, q9, q10, q11⟩ := HXC.out Z2 hb2
  by_cases hn0 : n0 = 0
  · subst hn0
    rcases Nat.eq_zero_or_pos N with hz | hpos
    · subst hz
      clear hb2
      go_wp2_with fail
      refine (awake7_any _).mono ?_
      rintro en w9 ⟨rfl, hb9⟩
      go_wp2_with fail
      go_ret
      exact ⟨rfl, HBW.out _ (HB2.out.trans (hb9.mono HB2.out.size))⟩
    · have hOK : Hid (chkOk X) := HCH.out rfl
      have gp : ((N : Int) == 0) = false := by rw [beq_eq_false_iff_ne]; omega
      have gp2 : ¬ (N = 0) := by omega
      obtain ⟨W1, hW1⟩ : ∃ W1, Z2.alloc (.cells #[.string ⟨X.t.n.toArray⟩, .slice b1 X.t.cols.length l1, .int .i64 X.t.key, .slice b2 X.t.uniq.length l2, .slice b3 X.t.refs.length l3, .string ⟨X.t.chk.op.toArray⟩, .int .i64 X.t.chk.v.k, .int .i64 X.t.chk.v.i, .string ⟨X.t.chk.v.s.toArray⟩, .string ⟨X.t.chk.s.toArray⟩, .slice b4 X.t.chk.l.length l4, .slice none 0 0] 34) = W1 := ⟨_, rfl⟩
      have ky1 : Blk W1 Z2.heap.size 34 #[.string ⟨X.t.n.toArray⟩, .slice b1 X.t.cols.length l1, .int .i64 X.t.key, .slice b2 X.t.uniq.length l2, .slice b3 X.t.refs.length l3, .string ⟨X.t.chk.op.toArray⟩, .int .i64 X.t.chk.v.k, .int .i64 X.t.chk.v.i, .string ⟨X.t.chk.v.s.toArray⟩, .string ⟨X.t.chk.s.toArray⟩, .slice b4 X.t.chk.l.length l4, .slice none 0 0] := by rw [← hW1]; exact Blk.new _ _ _
      have hbW1 : Below Z2.heap.size Z2 W1 := by rw [← hW1]; exact bl
      have hz1 : W1.heap.size = Z2.heap.size + 1 := by rw [← hW1]; simp
      have hbZ1 : Below Z1.heap.size Z1 W1 := hb2.trans (hbW1.mono hb2.size)
      have hl12 : Z1.heap.size ≤ Z2.heap.size := hb2.size
      have HW1 := Lib.hid hW1
      have HZ1 := Lib.hid hz1
      have HBZ1 := Lib.hid hbZ1
      have HKY := Lib.hid ky1
      have hXT : RlQ 1000 X ⟨⟨⟨b1, l1⟩, ⟨b2, l2⟩, ⟨b3, l3⟩, ⟨b4, l4⟩⟩, ⟨b5, l5⟩⟩ (Old Z2.heap.size) W1 := HQ2.out.keep fun b hb => ⟨Nat.lt_of_lt_of_le hb hl12, fun o => hbZ1.cell (p := ⟨b, o, none⟩) hb⟩
      have HXB : Hid (∀ Z : World, But Z2.heap.size W1 Z → RlQ 1000 X ⟨⟨⟨b1, l1⟩, ⟨b2, l2⟩, ⟨b3, l3⟩, ⟨b4, l4⟩⟩, ⟨b5, l5⟩⟩ (Old Z2.heap.size) Z) := fun Z hz => hXT.keep fun b hb => ⟨hb, fun o => hz.cell (by have : b < Z2.heap.size := hb; omega) (by have : b < Z2.heap.size := hb; omega) o⟩
      have HXK : Hid (∀ Z : World, But Z2.heap.size W1 Z → Z.cell? ⟨w.heap.size, 0, none⟩ = some (.string ⟨X.t.n.toArray⟩) ∧ Z.cell? ⟨w.heap.size, 1, none⟩ = some (.slice b1 X.t.cols.length l1) ∧ Z.cell? ⟨w.heap.size, 2, none⟩ = some (.int .i64 X.t.key) ∧ Z.cell? ⟨w.heap.size, 3, none⟩ = some (.slice b2 X.t.uniq.length l2) ∧ Z.cell? ⟨w.heap.size, 4, none⟩ = some (.slice b3 X.t.refs.length l3) ∧ Z.cell? ⟨w.heap.size, 5, none⟩ = some (.string ⟨X.t.chk.op.toArray⟩) ∧ Z.cell? ⟨w.heap.size, 6, none⟩ = some (.int .i64 X.t.chk.v.k) ∧ Z.cell? ⟨w.heap.size, 7, none⟩ = some (.int .i64 X.t.chk.v.i) ∧ Z.cell? ⟨w.heap.size, 8, none⟩ = some (.string ⟨X.t.chk.v.s.toArray⟩) ∧ Z.cell? ⟨w.heap.size, 9, none⟩ = some (.string ⟨X.t.chk.s.toArray⟩) ∧ Z.cell? ⟨w.heap.size, 10, none⟩ = some (.slice b4 X.t.chk.l.length l4) ∧ Z.cell? ⟨w.heap.size, 11, none⟩ = some (.slice b5 N l5)) := fun Z hz => by
        obtain ⟨q0, q1, q2, q3, q4, q5, q6, q7, q8, q9, q10, q11⟩ := HXC.out W1 hbZ1
        have h1 : ∀ o, Z.cell? ⟨w.heap.size, o, none⟩ = W1.cell? ⟨w.heap.size, o, none⟩ := fun o => hz.cell (by omega) (by omega) o
        exact ⟨(h1 0).trans q0, (h1 1).trans q1, (h1 2).trans q2, (h1 3).trans q3, (h1 4).trans q4, (h1 5).trans q5, (h1 6).trans q6, (h1 7).trans q7, (h1 8).trans q8, (h1 9).trans q9, (h1 10).trans q10, (h1 11).trans q11⟩
      clear hW1 hbW1 hb2 hXT hz1 hbZ1 ky1 HKX HCK HXC HCH
      obtain ⟨i0, hi0, zi0, zi1, zi2⟩ := info_parts infoRO
      have HPOS := Lib.hid hpos
      have hgw : w.heap.size < Z2.heap.size := by omega
      go_upto_block 0 with fail
      rw [HW1.out]
      clear HW1 gp gp2 q0 q1 q2 q3 q4 q5 q6 q7 q8 q9 q10 q11
      go_cut [6] from 22 to 45 (fun _ wx => ∃ v : Value, Blk wx Z2.heap.size 34 #[.string ⟨X.t.n.toArray⟩, .slice b1 X.t.cols.length l1, .int .i64 X.t.key, .slice b2 X.t.uniq.length l2, .slice b3 X.t.refs.length l3, .string ⟨X.t.chk.op.toArray⟩, .int .i64 X.t.chk.v.k, .int .i64 X.t.chk.v.i, .string ⟨X.t.chk.v.s.toArray⟩, .string ⟨X.t.chk.s.toArray⟩, .slice b4 X.t.chk.l.length l4, v] ∧ RowsOld wx 43 Z2.heap.size v (turned X.rows [] n N) ∧ But Z2.heap.size W1 wx)
      case first => as_aux_lemma =>
        go_wp2_with fail
        go_loopw [6] (fun i wr => ∃ (j : Nat) (v : Value) (L : List (List V)), j ≤ N ∧ i = .int .i64 j ∧ Hid (L = turned X.rows [] n j) ∧ Blk wr Z2.heap.size 34 #[.string ⟨X.t.n.toArray⟩, .slice b1 X.t.cols.length l1, .int .i64 X.t.key, .slice b2 X.t.uniq.length l2, .slice b3 X.t.refs.length l3, .string ⟨X.t.chk.op.toArray⟩, .int .i64 X.t.chk.v.k, .int .i64 X.t.chk.v.i, .string ⟨X.t.chk.v.s.toArray⟩, .string ⟨X.t.chk.s.toArray⟩, .slice b4 X.t.chk.l.length l4, v] ∧ RowsOld wr 43 Z2.heap.size v L ∧ But Z2.heap.size W1 wr) (fun i _ => N - (intOf i).toNat)
        case atStart => exact ⟨0, .slice none 0 0, [], by omega, rfl, rfl, HKY.out, ⟨[], rfl, World.ownsRow_nil _ _ _ _, by simp⟩, But.refl _ _⟩
        case round =>
          obtain ⟨j, v, L, hj, rfl, HL, hk, hro, hbut⟩ := hrel
          have hzr := hbut.size
          have lkr := hk.lt
          have hz1 := HZ1.out
          obtain ⟨_, _, _, _, _, _, _, _, _, _, _, x11⟩ := HXK.out wr hbut
          by_cases hlt : j < N
          · obtain ⟨m, hm⟩ : ∃ m, (j + n) % N = m := ⟨_, rfl⟩
            have hmN : m < N := by rw [← hm]; exact Nat.mod_lt _ HPOS.out
            have hNb : N ≤ 1000 := by have := HSM.out.2.1; have := HN.out; omega
            have hlm : m < X.rows.length := by rw [HN.out]; exact hmN
            obtain ⟨b, off, r, A', c', rfl, hbB, hv, cr, hWr⟩ := (HXB.out wr hbut).2.at_ hlm
            have HTK : Hid (turned X.rows [] n (j + 1) = turned X.rows [] n j ++ [r]) := by
              show _ = _
              rw [turned_succ, HN.out, hm, List.getD_eq_getElem?_getD, hv]
              rfl
            have i1 : IntKind.i64.wrap (n : Int) = (n : Int) := IntWalk.i64_in _ (by omega)
            have i2 : IntKind.i64.wrap ((j : Int) + (n : Int)) = (j : Int) + (n : Int) := IntWalk.i64_in _ (by omega)
            have i3 : Int.tmod ((j : Int) + (n : Int)) (N : Int) = (m : Int) := by rw [Int.tmod_eq_emod_of_nonneg (by omega), ← hm]; exact (Int.natCast_emod _ _).symm
            have i4 : (0 : Int) ≤ (m : Int) := by omega
            have i5 : (m : Int) < (N : Int) := by omega
            have i6 : ¬ (N = 0) := by omega
            have i7 : (j : Int) < (N : Int) := by omega
            have i8 : IntKind.i64.wrap ((j : Int) + 1) = (j : Int) + 1 := IntWalk.i64_in _ (by omega)
            have i9 : IntKind.i64.wrap (m : Int) = (m : Int) := IntWalk.i64_in _ (by omega)
            have lb : b < wr.heap.size := by have : b < Z2.heap.size := hbB; omega
            obtain ⟨W, rfl⟩ : ∃ W, W = wr := ⟨_, rfl⟩
            have y11 : W.cell? ⟨Z2.heap.size, 11, none⟩ = some v := hk.cell 11
            have yf : W.frozen? ⟨Z2.heap.size, 11, none⟩ = false := hk.frozen 11
            obtain ⟨recs, hrl, hown, hrec⟩ := hro
            have hLj : L.length = j := by rw [HL.out]; unfold turned; simp
            rw [hLj] at hown
            have hownd : W.drew.ownsRow (Z2.heap.size + 1) 43 1 v j (recs.map Rc.cell) := hown
            have hS9 : ∀ Z : World, Below Z2.heap.size W Z → (Z.cell? ⟨w.heap.size, 11, none⟩ = some (.slice (some ⟨b, off, none⟩) N l5) ∧ Z.cell? ⟨b, off + m, none⟩ = some (.slice A' r.length c')) := fun Z hz => ⟨(hz.cell (p := ⟨w.heap.size, 11, none⟩) (show w.heap.size < _ by omega)).trans x11, (hz.cell (p := ⟨b, off + m, none⟩) (show b < _ from hbB)).trans cr⟩
            have HS9 := Lib.hid hS9
            have HOW := Lib.hid hownd
            have HOL := Lib.hid hown.lt
            have HREC := Lib.hid hrec
            have HRL := Lib.hid hrl
            have HWR := Lib.hid hWr
            have HLJ := Lib.hid hLj
            have HBB : Hid (b < Z2.heap.size) := hbB
            have hkd := hk.drew
            have HKD := Lib.hid hkd
            have HBT := Lib.hid hbut
            have y12 : W.drew.cell? ⟨Z2.heap.size, 11, none⟩ = some v := y11
            have nb : ¬ (Z2.heap.size = W.heap.size) := by omega
            have nb2 : ¬ (W.heap.size = Z2.heap.size) := by omega
            clear hownd hv hbB hm hlm hrec hrl hWr hLj hown hS9 hkd
            go_wp2_with fail
            refine wp_region_held_drew (S := (fun w' => (w'.cell? ⟨w.heap.size, 11, none⟩ = some (.slice (some ⟨b, off, none⟩) N l5) ∧ w'.cell? ⟨b, off + m, none⟩ = some (.slice A' r.length c')))) (by kernel_rfl) ?_ (fun hHeld => ?_)
            · try dsimp only
              exact HS9.out _ (by exact bl)
            refine wpAnyT_start [0, 2, 3, 4, 5, 6, 7, 8, 9, 10, 11, 12, 13] ?_
            iterate 13
              refine wpAnyT_cons (v := ?_) rfl (by kernel_rfl) (by kernel_rfl) (by kernel_rfl) (fun _ _ _ h => h) (Or.inl ⟨by rfl, ?_⟩) (by assumption) ?_
              rotate_left
              · intro wq hSw
                try dsimp only at hSw
                go_simp
                try with_reducible rfl
              try simp only [Act.put, List.getElem_toArray, List.getElem_cons_zero, List.getElem_cons_succ, List.setIfInBounds_toArray, List.set_cons_zero, List.set_cons_succ]
            refine wpAnyT_nil ?_
            refine wpAnyH_ready (rs := [1, 14]) (by kernel_rfl) (by simp) ?_
            refine (AllReadyH.cons rfl (fun K hK => ?_) (AllReadyH.cons rfl (fun K hK => ?_) AllReadyH.nil))
            · skip
              go_simp
              skip
              go_wp2_with fail
              refine hK.out _ _ ?_ (fun hHeld => ?_)
              · try dsimp only
                exact HS9.out _ (by exact bl)
              clear hK K
              try simp only [Act.put, List.getElem_toArray, List.getElem_cons_zero, List.getElem_cons_succ, List.setIfInBounds_toArray, List.set_cons_zero, List.set_cons_succ]
              refine wpAnyH_ready (rs := [14]) (by kernel_rfl) (by simp) ?_
              refine AllReadyH.cons rfl (fun K hK => ?_) AllReadyH.nil
              go_simp
              skip
              go_wp2_with fail
              refine hK.out _ _ ?_ (fun hHeld => ?_)
              · try dsimp only
                exact HS9.out _ (by exact bl)
              clear hK K
              try simp only [Act.put, List.getElem_toArray, List.getElem_cons_zero, List.getElem_cons_succ, List.setIfInBounds_toArray, List.set_cons_zero, List.set_cons_succ]
              refine wpAnyH_ready (rs := [15]) (by kernel_rfl) (by simp) ?_
              refine AllReadyH.cons rfl (fun K hK => ?_) AllReadyH.nil
              refine step_append_lies _ rfl (.tmp 30) (.tmp 43) 32 rfl (Z2.heap.size + 1) 43 i0 _ 1 24 Tryz.underlying32 hi0 zi0 zi1 zi2 rfl (by decide) v j (recs.map Rc.cell) (by simp [Act.eval]) ((HOW.out).alloc _) ⟨W.heap.size, 0, none⟩ 1 1 [.slice A' r.length c'] (by simp [Act.eval]) rfl (World.news_of_block (cs := #[.slice A' r.length c']) (t := 43) (fr := (0, 0)) (heap_alloc_new W.drew _)) (by simp [Value.oneCell']) (by omega) (by unfold maxLen; omega) (by omega) (by simp; omega) _ rfl ?_; intro g5 cap w5 hown5 hg5 hor5 hl5; have hk5 := ((HKD.out).alloc (.cells #[.slice A' r.length c'] 43)).grown hg5 (fun e => (by have := (HOL.out _ e.symm).1; omega)); have hfr5 := hk5.frozen 11; have hcl5 : w5.cell? ⟨Z2.heap.size, 11, none⟩ = some v := hk5.cell 11; have hbe5 : Below Z2.heap.size W w5 := (((show Below Z2.heap.size W W.drew from (by exact bl)).alloc (by simp; omega) _).grown hg5 (by simp; omega) (fun k hk => by have := (HOL.out k hk).1; omega))
              refine hK.out _ _ ?_ (fun hHeld => ?_)
              · try dsimp only
                exact HS9.out _ (by exact bl)
              clear hK K
              try simp only [Act.put, List.getElem_toArray, List.getElem_cons_zero, List.getElem_cons_succ, List.setIfInBounds_toArray, List.set_cons_zero, List.set_cons_succ]
              refine wpAnyH_take (i := 16) (v := ?_) rfl (by kernel_rfl) (by kernel_rfl) (by kernel_rfl) (fun _ _ _ h => h) (Or.inl ⟨by rfl, ?_⟩) (by assumption) ?_
              rotate_left
              · intro wq hSw
                try dsimp only at hSw
                go_simp
                try with_reducible rfl
              try simp only [Act.put, List.getElem_toArray, List.getElem_cons_zero, List.getElem_cons_succ, List.setIfInBounds_toArray, List.set_cons_zero, List.set_cons_succ]
              refine wpAnyH_ready (rs := [17]) (by kernel_rfl) (by simp) ?_
              refine AllReadyH.cons rfl (fun K hK => ?_) AllReadyH.nil
              go_simp
              skip
              go_wp2_with fail
              refine hK.out _ _ ?_ (fun hHeld => ?_)
              · try dsimp only
                exact HS9.out _ (by exact bl)
              clear hK K
              try simp only [Act.put, List.getElem_toArray, List.getElem_cons_zero, List.getElem_cons_succ, List.setIfInBounds_toArray, List.set_cons_zero, List.set_cons_succ]
              refine wpAnyH_done (by kernel_rfl) ?_ _
              go_wp2_with fail
              go_roundw
              case rel =>
                have hbu6 : But Z2.heap.size W1 (w5.setCell ⟨Z2.heap.size, 11, none⟩ (.slice (some ⟨g5, 0, none⟩) (j + 1) cap)) := (((HBT.out.drew).alloc _).grown hg5 (fun k hk => by have := (HOL.out k hk).1; have := HZ1.out; omega)).set 11 _
                have hW' : ∀ (l : List V) (A : Option Addr), WQ l A (Old Z2.heap.size) W → WQ l A (Old Z2.heap.size) (w5.setCell ⟨Z2.heap.size, 11, none⟩ (.slice (some ⟨g5, 0, none⟩) (j + 1) cap)) := fun l A h => h.keep fun b hb => ⟨hb, fun o => (hbu6.cell (by have : b < Z2.heap.size := hb; omega) (by have : b < Z2.heap.size := hb; omega) o).trans (HBT.out.cell (by have : b < Z2.heap.size := hb; omega) (by have : b < Z2.heap.size := hb; omega) o).symm⟩
                refine ⟨j + 1, .slice (some ⟨g5, 0, none⟩) (j + 1) cap, L ++ [r], by omega, by go_num, by rw [HL.out, HTK.out]; rfl, by simpa using hk5.set_ 11 (.slice (some ⟨g5, 0, none⟩) (j + 1) cap), ⟨recs ++ [⟨⟨A', c'⟩, r⟩], by rw [List.map_append, HRL.out]; rfl, ?_, ?_⟩, hbu6⟩
                · rw [List.map_append, List.length_append, HLJ.out]
                  exact hown5.kept (grown_set6 w5 ⟨Z2.heap.size, 11, none⟩ _) (.inr (fun e => by have := (hown5.lt g5 rfl).1; simp [Value.ownBlock] at e; omega))
                · intro q hq
                  rcases List.mem_append.1 hq with hq | hq
                  · exact hW' _ _ (HREC.out q hq)
                  · obtain rfl : q = ⟨⟨A', c'⟩, r⟩ := by simpa using hq
                    exact hW' _ _ HWR.out
              case measure => simp [intOf]; omega
            · skip
              go_simp
              skip
              go_wp2_with fail
              refine hK.out _ _ ?_ (fun hHeld => ?_)
              · try dsimp only
                exact HS9.out _ (by exact bl)
              clear hK K
              try simp only [Act.put, List.getElem_toArray, List.getElem_cons_zero, List.getElem_cons_succ, List.setIfInBounds_toArray, List.set_cons_zero, List.set_cons_succ]
              refine wpAnyH_ready (rs := [1]) (by kernel_rfl) (by simp) ?_
              refine AllReadyH.cons rfl (fun K hK => ?_) AllReadyH.nil
              go_simp
              skip
              go_wp2_with fail
              refine hK.out _ _ ?_ (fun hHeld => ?_)
              · try dsimp only
                exact HS9.out _ (by exact bl)
              clear hK K
              try simp only [Act.put, List.getElem_toArray, List.getElem_cons_zero, List.getElem_cons_succ, List.setIfInBounds_toArray, List.set_cons_zero, List.set_cons_succ]
              refine wpAnyH_ready (rs := [15]) (by kernel_rfl) (by simp) ?_
              refine AllReadyH.cons rfl (fun K hK => ?_) AllReadyH.nil
              refine step_append_lies _ rfl (.tmp 30) (.tmp 43) 32 rfl (Z2.heap.size + 1) 43 i0 _ 1 24 Tryz.underlying32 hi0 zi0 zi1 zi2 rfl (by decide) v j (recs.map Rc.cell) (by simp [Act.eval]) ((HOW.out).alloc _) ⟨W.heap.size, 0, none⟩ 1 1 [.slice A' r.length c'] (by simp [Act.eval]) rfl (World.news_of_block (cs := #[.slice A' r.length c']) (t := 43) (fr := (0, 0)) (heap_alloc_new W.drew _)) (by simp [Value.oneCell']) (by omega) (by unfold maxLen; omega) (by omega) (by simp; omega) _ rfl ?_; intro g5 cap w5 hown5 hg5 hor5 hl5; have hk5 := ((HKD.out).alloc (.cells #[.slice A' r.length c'] 43)).grown hg5 (fun e => (by have := (HOL.out _ e.symm).1; omega)); have hfr5 := hk5.frozen 11; have hcl5 : w5.cell? ⟨Z2.heap.size, 11, none⟩ = some v := hk5.cell 11; have hbe5 : Below Z2.heap.size W w5 := (((show Below Z2.heap.size W W.drew from (by exact bl)).alloc (by simp; omega) _).grown hg5 (by simp; omega) (fun k hk => by have := (HOL.out k hk).1; omega))
              refine hK.out _ _ ?_ (fun hHeld => ?_)
              · try dsimp only
                exact HS9.out _ (by exact bl)
              clear hK K
              try simp only [Act.put, List.getElem_toArray, List.getElem_cons_zero, List.getElem_cons_succ, List.setIfInBounds_toArray, List.set_cons_zero, List.set_cons_succ]
              refine wpAnyH_take (i := 16) (v := ?_) rfl (by kernel_rfl) (by kernel_rfl) (by kernel_rfl) (fun _ _ _ h => h) (Or.inl ⟨by rfl, ?_⟩) (by assumption) ?_
              rotate_left
              · intro wq hSw
                try dsimp only at hSw
                go_simp
                try with_reducible rfl
              try simp only [Act.put, List.getElem_toArray, List.getElem_cons_zero, List.getElem_cons_succ, List.setIfInBounds_toArray, List.set_cons_zero, List.set_cons_succ]
              refine wpAnyH_ready (rs := [17]) (by kernel_rfl) (by simp) ?_
              refine AllReadyH.cons rfl (fun K hK => ?_) AllReadyH.nil
              go_simp
              skip
              go_wp2_with fail
              refine hK.out _ _ ?_ (fun hHeld => ?_)
              · try dsimp only
                exact HS9.out _ (by exact bl)
              clear hK K
              try simp only [Act.put, List.getElem_toArray, List.getElem_cons_zero, List.getElem_cons_succ, List.setIfInBounds_toArray, List.set_cons_zero, List.set_cons_succ]
              refine wpAnyH_done (by kernel_rfl) ?_ _
              go_wp2_with fail
              go_roundw
              case rel =>
                have hbu6 : But Z2.heap.size W1 (w5.setCell ⟨Z2.heap.size, 11, none⟩ (.slice (some ⟨g5, 0, none⟩) (j + 1) cap)) := (((HBT.out.drew).alloc _).grown hg5 (fun k hk => by have := (HOL.out k hk).1; have := HZ1.out; omega)).set 11 _
                have hW' : ∀ (l : List V) (A : Option Addr), WQ l A (Old Z2.heap.size) W → WQ l A (Old Z2.heap.size) (w5.setCell ⟨Z2.heap.size, 11, none⟩ (.slice (some ⟨g5, 0, none⟩) (j + 1) cap)) := fun l A h => h.keep fun b hb => ⟨hb, fun o => (hbu6.cell (by have : b < Z2.heap.size := hb; omega) (by have : b < Z2.heap.size := hb; omega) o).trans (HBT.out.cell (by have : b < Z2.heap.size := hb; omega) (by have : b < Z2.heap.size := hb; omega) o).symm⟩
                refine ⟨j + 1, .slice (some ⟨g5, 0, none⟩) (j + 1) cap, L ++ [r], by omega, by go_num, by rw [HL.out, HTK.out]; rfl, by simpa using hk5.set_ 11 (.slice (some ⟨g5, 0, none⟩) (j + 1) cap), ⟨recs ++ [⟨⟨A', c'⟩, r⟩], by rw [List.map_append, HRL.out]; rfl, ?_, ?_⟩, hbu6⟩
                · rw [List.map_append, List.length_append, HLJ.out]
                  exact hown5.kept (grown_set6 w5 ⟨Z2.heap.size, 11, none⟩ _) (.inr (fun e => by have := (hown5.lt g5 rfl).1; simp [Value.ownBlock] at e; omega))
                · intro q hq
                  rcases List.mem_append.1 hq with hq | hq
                  · exact hW' _ _ (HREC.out q hq)
                  · obtain rfl : q = ⟨⟨A', c'⟩, r⟩ := by simpa using hq
                    exact hW' _ _ HWR.out
              case measure => simp [intOf]; omega
          · have hjN : j = N := by omega
            have i7 : ¬ (j : Int) < (N : Int) := by omega
            have HEX : Hid (RowsOld wr 43 Z2.heap.size v (turned X.rows [] n N)) := by show RowsOld _ _ _ _ _; rw [← hjN, ← HL.out]; exact hro
            have HKK := Lib.hid hk
            have HBU := Lib.hid hbut
            clear hlt hk hbut hro hjN
            go_wp2_with fail
            go_meet
            exact ⟨v, HKK.out, HEX.out, HBU.out⟩
      obtain ⟨v, hk3, hro3, hbu3⟩ := hcut
      obtain ⟨W3, rfl⟩ : ∃ W, W = wc := ⟨_, rfl⟩
      have lk3 := hk3.lt
      obtain ⟨A9, c9, rfl, hR9⟩ := hro3.out lk3
      have hperm := turned_perm X.rows [] n (by rw [HN.out]; exact HPOS.out)
      have hol := order_law hOK.out (by rw [HN.out]; exact HPOS.out) n
      rw [HN.out] at hperm hol
      obtain ⟨L, hL⟩ : ∃ L, turned X.rows [] n N = L := ⟨_, rfl⟩
      have hLN : L.length = N := by rw [← hL]; unfold turned; simp
      rw [hL] at hk3 hR9 hperm hol
      rw [hLN] at hk3
      have hz1 := HZ1.out
      have hz3 := hbu3.size
      have hQ3 := HXB.out W3 hbu3
      have hQ4 : RlQ 1000 X ⟨⟨⟨b1, l1⟩, ⟨b2, l2⟩, ⟨b3, l3⟩, ⟨b4, l4⟩⟩, ⟨b5, l5⟩⟩ (Old W3.heap.size) W3 := hQ3.keep fun b hb => ⟨by have : b < Z2.heap.size := hb; show b < _; omega, fun _ => rfl⟩
      have hQY : RlQ 1000 ⟨X.t, L⟩ ⟨⟨⟨b1, l1⟩, ⟨b2, l2⟩, ⟨b3, l3⟩, ⟨b4, l4⟩⟩, ⟨A9, c9⟩⟩ (Old W3.heap.size) W3 := ⟨hQ4.1, hR9⟩
      have hsmY : (⟨X.t, L⟩ : Rl).small := ⟨HSM.out.1, by show L.length ≤ _; have := HSM.out.2.1; have := HN.out; omega, fun r hr => HSM.out.2.2 r (hperm.mem_iff.1 hr)⟩
      have HS2 : Hid (∀ Z : World, Below W3.heap.size W3 Z → Calls Tryz.prog 15 #[.agg #[.string ⟨X.t.n.toArray⟩, .slice b1 X.t.cols.length l1, .int .i64 X.t.key, .slice b2 X.t.uniq.length l2, .slice b3 X.t.refs.length l3, .string ⟨X.t.chk.op.toArray⟩, .int .i64 X.t.chk.v.k, .int .i64 X.t.chk.v.i, .string ⟨X.t.chk.v.s.toArray⟩, .string ⟨X.t.chk.s.toArray⟩, .slice b4 X.t.chk.l.length l4, .slice A9 N c9]] Z (RetRl X Z)) := fun Z hz => by
        have := relSort_any ⟨X.t, L⟩ ⟨⟨⟨b1, l1⟩, ⟨b2, l2⟩, ⟨b3, l3⟩, ⟨b4, l4⟩⟩, ⟨A9, c9⟩⟩ Z HTB.out hsmY HSL.out (hQY.keep (old_keep hz hz.size))
        dsimp only [Rl.cells] at this
        rw [hLN] at this
        refine this.mono ?_
        rintro en Z' ⟨r2, h2, h3⟩
        obtain rfl := sortedOf_uniq h2 hol
        exact h3
      have HSM7 : Hid (∀ (Z : World) (p9 : RlP), Below W3.heap.size W3 Z → RlQ 1000 X p9 (Old Z.heap.size) Z → Calls Tryz.prog 14 #[.agg (X.cells p9).toArray, .agg #[.string ⟨X.t.n.toArray⟩, .slice b1 X.t.cols.length l1, .int .i64 X.t.key, .slice b2 X.t.uniq.length l2, .slice b3 X.t.refs.length l3, .string ⟨X.t.chk.op.toArray⟩, .int .i64 X.t.chk.v.k, .int .i64 X.t.chk.v.i, .string ⟨X.t.chk.v.s.toArray⟩, .string ⟨X.t.chk.s.toArray⟩, .slice b4 X.t.chk.l.length l4, .slice b5 N l5]] Z (Ret (.bool true) Z)) := fun Z p9 hz h9 => by
        have := same7_any X p9 ⟨⟨⟨b1, l1⟩, ⟨b2, l2⟩, ⟨b3, l3⟩, ⟨b4, l4⟩⟩, ⟨b5, l5⟩⟩ Z HTB.out HSM.out h9 (hQ4.keep (old_keep hz hz.size))
        dsimp only [Rl.cells] at this ⊢
        rw [HN.out] at this ⊢
        exact this
      have HBF : Hid (∀ Y : World, Below W3.heap.size W3 Y → Below w.heap.size w Y) := fun Y h => HBW.out Y (((But.inside HBZ1.out hl12 hbu3).trans (h.mono (by omega))))
      have HSH : Hid (∀ Z : World, Below W3.heap.size W3 Z → (Z.cell? ⟨w.heap.size, 0, none⟩ = some (.string ⟨X.t.n.toArray⟩) ∧ Z.cell? ⟨w.heap.size, 1, none⟩ = some (.slice b1 X.t.cols.length l1) ∧ Z.cell? ⟨w.heap.size, 2, none⟩ = some (.int .i64 X.t.key) ∧ Z.cell? ⟨w.heap.size, 3, none⟩ = some (.slice b2 X.t.uniq.length l2) ∧ Z.cell? ⟨w.heap.size, 4, none⟩ = some (.slice b3 X.t.refs.length l3) ∧ Z.cell? ⟨w.heap.size, 5, none⟩ = some (.string ⟨X.t.chk.op.toArray⟩) ∧ Z.cell? ⟨w.heap.size, 6, none⟩ = some (.int .i64 X.t.chk.v.k) ∧ Z.cell? ⟨w.heap.size, 7, none⟩ = some (.int .i64 X.t.chk.v.i) ∧ Z.cell? ⟨w.heap.size, 8, none⟩ = some (.string ⟨X.t.chk.v.s.toArray⟩) ∧ Z.cell? ⟨w.heap.size, 9, none⟩ = some (.string ⟨X.t.chk.s.toArray⟩) ∧ Z.cell? ⟨w.heap.size, 10, none⟩ = some (.slice b4 X.t.chk.l.length l4) ∧ Z.cell? ⟨w.heap.size, 11, none⟩ = some (.slice b5 N l5)) ∧ Z.cell? ⟨Z2.heap.size, 0, none⟩ = some (.string ⟨X.t.n.toArray⟩) ∧ Z.cell? ⟨Z2.heap.size, 1, none⟩ = some (.slice b1 X.t.cols.length l1) ∧ Z.cell? ⟨Z2.heap.size, 2, none⟩ = some (.int .i64 X.t.key) ∧ Z.cell? ⟨Z2.heap.size, 3, none⟩ = some (.slice b2 X.t.uniq.length l2) ∧ Z.cell? ⟨Z2.heap.size, 4, none⟩ = some (.slice b3 X.t.refs.length l3) ∧ Z.cell? ⟨Z2.heap.size, 5, none⟩ = some (.string ⟨X.t.chk.op.toArray⟩) ∧ Z.cell? ⟨Z2.heap.size, 6, none⟩ = some (.int .i64 X.t.chk.v.k) ∧ Z.cell? ⟨Z2.heap.size, 7, none⟩ = some (.int .i64 X.t.chk.v.i) ∧ Z.cell? ⟨Z2.heap.size, 8, none⟩ = some (.string ⟨X.t.chk.v.s.toArray⟩) ∧ Z.cell? ⟨Z2.heap.size, 9, none⟩ = some (.string ⟨X.t.chk.s.toArray⟩) ∧ Z.cell? ⟨Z2.heap.size, 10, none⟩ = some (.slice b4 X.t.chk.l.length l4) ∧ Z.cell? ⟨Z2.heap.size, 11, none⟩ = some (.slice A9 N c9)) := fun Z hz => by
        obtain ⟨q0, q1, q2, q3, q4, q5, q6, q7, q8, q9, q10, q11⟩ := HXK.out W3 hbu3
        have h1 : ∀ o, Z.cell? ⟨w.heap.size, o, none⟩ = W3.cell? ⟨w.heap.size, o, none⟩ := fun o => hz.cell (p := ⟨w.heap.size, o, none⟩) (show w.heap.size < _ by omega)
        have kz := hk3.below hz lk3
        exact ⟨⟨(h1 0).trans q0, (h1 1).trans q1, (h1 2).trans q2, (h1 3).trans q3, (h1 4).trans q4, (h1 5).trans q5, (h1 6).trans q6, (h1 7).trans q7, (h1 8).trans q8, (h1 9).trans q9, (h1 10).trans q10, (h1 11).trans q11⟩, kz.cell 0, kz.cell 1, kz.cell 2, kz.cell 3, kz.cell 4, kz.cell 5, kz.cell 6, kz.cell 7, kz.cell 8, kz.cell 9, kz.cell 10, kz.cell 11⟩
      obtain ⟨⟨q0, q1, q2, q3, q4, q5, q6, q7, q8, q9, q10, q11⟩, y0, y1, y2, y3, y4, y5, y6, y7, y8, y9, y10, y11⟩ := HSH.out W3 (Below.refl _ _)
      have hgw3 : Z2.heap.size < W3.heap.size := lk3
      clear hk3 hro3 hbu3 hR9 hperm hol hL hLN hz1 hz3 hQ3 hQ4 hQY hsmY HXB HXK HBZ1 HKY HQ2 HZ1 hOK hi0 zi0 zi1 zi2
      go_upto_region 9 with fail
      refine wp_region_held_drew (S := (fun Z => (Z.cell? ⟨w.heap.size, 0, none⟩ = some (.string ⟨X.t.n.toArray⟩) ∧ Z.cell? ⟨w.heap.size, 1, none⟩ = some (.slice b1 X.t.cols.length l1) ∧ Z.cell? ⟨w.heap.size, 2, none⟩ = some (.int .i64 X.t.key) ∧ Z.cell? ⟨w.heap.size, 3, none⟩ = some (.slice b2 X.t.uniq.length l2) ∧ Z.cell? ⟨w.heap.size, 4, none⟩ = some (.slice b3 X.t.refs.length l3) ∧ Z.cell? ⟨w.heap.size, 5, none⟩ = some (.string ⟨X.t.chk.op.toArray⟩) ∧ Z.cell? ⟨w.heap.size, 6, none⟩ = some (.int .i64 X.t.chk.v.k) ∧ Z.cell? ⟨w.heap.size, 7, none⟩ = some (.int .i64 X.t.chk.v.i) ∧ Z.cell? ⟨w.heap.size, 8, none⟩ = some (.string ⟨X.t.chk.v.s.toArray⟩) ∧ Z.cell? ⟨w.heap.size, 9, none⟩ = some (.string ⟨X.t.chk.s.toArray⟩) ∧ Z.cell? ⟨w.heap.size, 10, none⟩ = some (.slice b4 X.t.chk.l.length l4) ∧ Z.cell? ⟨w.heap.size, 11, none⟩ = some (.slice b5 N l5)) ∧ Z.cell? ⟨Z2.heap.size, 0, none⟩ = some (.string ⟨X.t.n.toArray⟩) ∧ Z.cell? ⟨Z2.heap.size, 1, none⟩ = some (.slice b1 X.t.cols.length l1) ∧ Z.cell? ⟨Z2.heap.size, 2, none⟩ = some (.int .i64 X.t.key) ∧ Z.cell? ⟨Z2.heap.size, 3, none⟩ = some (.slice b2 X.t.uniq.length l2) ∧ Z.cell? ⟨Z2.heap.size, 4, none⟩ = some (.slice b3 X.t.refs.length l3) ∧ Z.cell? ⟨Z2.heap.size, 5, none⟩ = some (.string ⟨X.t.chk.op.toArray⟩) ∧ Z.cell? ⟨Z2.heap.size, 6, none⟩ = some (.int .i64 X.t.chk.v.k) ∧ Z.cell? ⟨Z2.heap.size, 7, none⟩ = some (.int .i64 X.t.chk.v.i) ∧ Z.cell? ⟨Z2.heap.size, 8, none⟩ = some (.string ⟨X.t.chk.v.s.toArray⟩) ∧ Z.cell? ⟨Z2.heap.size, 9, none⟩ = some (.string ⟨X.t.chk.s.toArray⟩) ∧ Z.cell? ⟨Z2.heap.size, 10, none⟩ = some (.slice b4 X.t.chk.l.length l4) ∧ Z.cell? ⟨Z2.heap.size, 11, none⟩ = some (.slice A9 N c9))) (by kernel_rfl) ?_ (fun hHeld => ?_)
      · try dsimp only
        exact HSH.out _ (by exact bl)
      refine wpAnyT_start [0, 2] ?_
      iterate 2
        refine wpAnyT_cons (v := ?_) rfl (by kernel_rfl) (by kernel_rfl) (by kernel_rfl) (fun _ _ _ h => h) (Or.inl ⟨by rfl, ?_⟩) (by assumption) ?_
        rotate_left
        · intro wq hSw
          try dsimp only at hSw
          go_simp
          try with_reducible rfl
        try simp only [Act.put, List.getElem_toArray, List.getElem_cons_zero, List.getElem_cons_succ, List.setIfInBounds_toArray, List.set_cons_zero, List.set_cons_succ]
      refine wpAnyT_nil ?_
      refine wpAnyH_ready (rs := [1]) (by kernel_rfl) (by simp) ?_
      refine AllReadyH.cons rfl (fun K hK => ?_) AllReadyH.nil
      go_simp
      (refine (HS2.out _ (by exact bl)).mono ?_) <;> rintro en w1 ⟨p9, rfl, hQ9, _, _, hb1⟩ <;> have hz1 := hb1.size <;> (try simp at hz1)
      go_wp2_with fail
      refine hK.out _ _ ?_ (fun hHeld => ?_)
      · try dsimp only
        exact HSH.out _ (by exact bl)
      clear hK K
      try simp only [Act.put, List.getElem_toArray, List.getElem_cons_zero, List.getElem_cons_succ, List.setIfInBounds_toArray, List.set_cons_zero, List.set_cons_succ]
      refine wpAnyH_ready (rs := [3]) (by kernel_rfl) (by simp) ?_
      refine AllReadyH.cons rfl (fun K hK => ?_) AllReadyH.nil
      go_simp
      (refine (HSM7.out _ p9 (by exact bl) (hQ9.keep fun b hb => ⟨hb.2, fun _ => rfl⟩)).mono ?_) <;> rintro en w3 ⟨rfl, hb3⟩ <;> have hz3 := hb3.size <;> (try simp at hz3)
      go_wp2_with fail
      refine hK.out _ _ ?_ (fun hHeld => ?_)
      · try dsimp only
        exact HSH.out _ (by exact bl)
      clear hK K
      try simp only [Act.put, List.getElem_toArray, List.getElem_cons_zero, List.getElem_cons_succ, List.setIfInBounds_toArray, List.set_cons_zero, List.set_cons_succ]
      refine wpAnyH_take (i := 4) (v := ?_) rfl (by kernel_rfl) (by kernel_rfl) (by kernel_rfl) (fun _ _ _ h => h) (Or.inl ⟨by rfl, ?_⟩) (by assumption) ?_
      rotate_left
      · intro wq hSw
        try dsimp only at hSw
        go_simp
        try with_reducible rfl
      try simp only [Act.put, List.getElem_toArray, List.getElem_cons_zero, List.getElem_cons_succ, List.setIfInBounds_toArray, List.set_cons_zero, List.set_cons_succ]
      refine wpAnyH_ready (rs := [5]) (by kernel_rfl) (by simp) ?_
      refine AllReadyH.cons rfl (fun K hK => ?_) AllReadyH.nil
      go_simp
      (refine (awake7_any _).mono ?_) <;> rintro en w5 ⟨rfl, hb5⟩ <;> have hz5 := hb5.size <;> (try simp at hz5)
      go_wp2_with fail
      refine hK.out _ _ ?_ (fun hHeld => ?_)
      · try dsimp only
        exact HSH.out _ (by exact bl)
      clear hK K
      try simp only [Act.put, List.getElem_toArray, List.getElem_cons_zero, List.getElem_cons_succ, List.setIfInBounds_toArray, List.set_cons_zero, List.set_cons_succ]
      refine wpAnyT_start [6, 7] ?_
      iterate 2
        refine wpAnyT_cons (v := ?_) rfl (by kernel_rfl) (by kernel_rfl) (by kernel_rfl) (fun _ _ _ h => h) (Or.inl ⟨by rfl, ?_⟩) (by assumption) ?_
        rotate_left
        · intro wq hSw
          try dsimp only at hSw
          go_simp
          try with_reducible rfl
        try simp only [Act.put, List.getElem_toArray, List.getElem_cons_zero, List.getElem_cons_succ, List.setIfInBounds_toArray, List.set_cons_zero, List.set_cons_succ]
      refine wpAnyT_nil ?_
      refine wpAnyH_done (by kernel_rfl) ?_ _
      go_wp2_with fail
      go_ret
      exact ⟨rfl, HBF.out _ (by exact bl)⟩
  · have gn : (n0 == 0) = false := by rw [beq_eq_false_iff_ne]; exact hn0
    clear hb2
    go_wp2_with fail
    refine (awake7_any _).mono ?_
    rintro en w9 ⟨rfl, hb9⟩
    go_wp2_with fail
    go_ret
    exact ⟨rfl, HBW.out _ (HB2.out.trans (hb9.mono HB2.out.size))⟩
open Go.ChangeShapes Go.WideShapes Go.ChangeAt
set_option maxRecDepth 100000 in
theorem relOrder_lifted (os : Os) (started : os.Started) (H : Type) (enc : TypeId × Value → H) :
    ReturnsInHanded {} Tryz.checked os 7 .any (Rows.relOrderSpec.pre6 enc Tryz.prog Tryz.f7 Rows.relOrderRow.domain false) (Rows.relOrderSpec.post enc Tryz.prog Tryz.f7 false true false false) := by
  refine returnsInHanded_of_change (C := Tryz.checked) own started (by kernel_rfl) Tryz.func7
    (ChangeSpec.witness6 (enc := enc) (C := Tryz.checked) false ⟨#[], #[.agg #[.string ⟨#[]⟩, .slice none 0 0, .int .i64 0, .slice none 0 0, .slice none 0 0, .string ⟨#[]⟩, .int .i64 0, .int .i64 0, .string ⟨#[]⟩, .string ⟨#[]⟩, .slice none 0 0, .slice none 0 0], .int .u8 0], []⟩ 8 (by kernel_rfl) (by kernel_rfl) (by kernel_rfl) (by kernel_rfl)) ?_
  intro W base args ds gs before hval0 hW hcnd _
  have hval : ∀ (j : Nat) t v, Tryz.f7.params[j]? = some t → args[j]? = some v → Value.okWide Tryz.prog W .any base t v := hval0
  have hW' := hW
  obtain ⟨p, q, hA0, hV, rfl, hfz, hnd⟩ := hW
  have hA : DataW.TrodAll enc Tryz.prog W 0 (fun _ => true) true Tryz.f7.params.toList args.toList ds p := hA0
  rw [Tryz.params7] at hA hval
  obtain ⟨v0, vs0, d0, ds0, p0, q0, hargs, rfl, rfl, h0, r0⟩ := trodAll_cons hA
  have k0 := h0
  have lt0 : ∀ x ∈ p0, x.block < W.heap.size := by obtain ⟨m, hm⟩ := k0; exact DataW.trod_lt m _ _ _ hm
  obtain ⟨v1, vs1, d1, ds1, p1, q1, rfl, rfl, rfl, h1, r1⟩ := trodAll_cons r0
  have k1 := h1
  have lt1 : ∀ x ∈ p1, x.block < W.heap.size := by obtain ⟨m, hm⟩ := k1; exact DataW.trod_lt m _ _ _ hm
  obtain ⟨rfl, rfl, rfl⟩ := trodAll_nil r1
  obtain rfl : args = #[v0, v1] := by cases args; simp_all
  obtain ⟨rfl, rfl⟩ := trodVars_none hV
  obtain ⟨x, p, rfl, hx, hq⟩ := open_rl (hval 0 34 v0 rfl rfl) h0
  obtain ⟨n, rfl, hn⟩ := open_u8 (hval 1 5 v1 rfl rfl) h1
  clear hA0 hval0
  refine (relOrder_walk x p n W hn hx hq).mono fun e W' ⟨he, bel⟩ => ?_
  subst he
  exact ⟨_, rfl, _, _, _, [], _, [], hW', trodAll_mk1 (shut_bool Tryz.underlying4 _), (trodAll_cons_mk (Below.trod laidOut (by kernel_rfl) (of_decide_eq_true (by kernel_rfl)) k0 bel lt0) (trodAll_cons_mk (Below.trod laidOut (by kernel_rfl) (of_decide_eq_true (by kernel_rfl)) k1 bel lt1) trodAll_mk0)), rfl, bel.frame _, fun h => by cases h⟩

theorem relOrder_over : Rows.relOrderRow.holds Tryz.pinned (OpenSpec.ofChange Rows.relOrderSpec) :=
  OpenClaim.holds_of_wide 7 Tryz.f7 rfl rfl rfl rfl rfl rfl rfl ⟨rfl, rfl, rfl, rfl, rfl⟩ rfl rfl rfl rfl rfl (by kernel_rfl) Tryz.func7 (by kernel_rfl)
    (of_decide_eq_true (by kernel_rfl)) (by unfold Func.isWrapper; first | (rw [if_pos (by decide +kernel)]; kernel_rfl) | (rw [if_neg (by decide +kernel)]; exact ⟨rfl, rfl⟩))
    (fun os started H enc _ => relOrder_lifted os started H enc)

theorem relOrder_holds : Rows.RelOrderSaid := relOrder_over
#print axioms relOrder_holds

end Go.Proofs.YtdhjogmkhbpcgaaGreat
