/- rel.Sort: the rows rise by the key, alike ones as they stood; all in memory of its own. Condition: a table with rows that reads as one, of the sizes that are looked at. -/
import Derived.Test.YtdhjogmkhbpcgaaGreatCopy
import Derived.Test.YtdhjogmkhbpcgaaGreatSort489M
import Derived.Test.YtdhjogmkhbpcgaaGreatFitM
import Derived.Test.YtdhjogmkhbpcgaaGreatFew67M
import Derived.Deep.CutBlock
import Derived.Deep.DeepCutAuto
namespace Go.Proofs.YtdhjogmkhbpcgaaGreat
open Go.RowKit

attribute [local go_sem] ByteArray.extract_mk ba_get ba_append
attribute [local go_sem ↓] Go.wp_at_zero Go.wp_at_succ run_eql_V run_neq_V

/-- A table with rows that a call answers, sorted. -/
def RetSorted (x : Rl) (w : World) (en : Ending) (w' : World) : Prop := ∃ rows', SortedOf (ofF x.t) x.rows rows' ∧ RetRl ⟨x.t, rows'⟩ w en w'
set_option maxRecDepth 100000 in
set_option maxHeartbeats 32000000 in
theorem relSort_any (x : Rl) (p : RlP) (w : World) (hst : x.t.small) (hsm : x.small) (hsl : x.t.chk.slim) (hQ : RlQ 1000 x p (Old w.heap.size) w) :
    Calls Tryz.prog 15 #[.agg (x.cells p).toArray] w (RetSorted x w) := by
  obtain ⟨⟨⟨a1, k1⟩, ⟨a2, k2⟩, ⟨a3, k3⟩, ⟨a4, k4⟩⟩, ⟨a5, k5⟩⟩ := p
  obtain ⟨w0, hw0⟩ : ∃ w0, (w.alloc (.cells #[.string ⟨x.t.n.toArray⟩, .slice a1 x.t.cols.length k1, .int .i64 x.t.key, .slice a2 x.t.uniq.length k2, .slice a3 x.t.refs.length k3, .string ⟨x.t.chk.op.toArray⟩, .int .i64 x.t.chk.v.k, .int .i64 x.t.chk.v.i, .string ⟨x.t.chk.v.s.toArray⟩, .string ⟨x.t.chk.s.toArray⟩, .slice a4 x.t.chk.l.length k4, .slice a5 x.rows.length k5] 34)).alloc (.cells #[.string ⟨#[]⟩, .slice none 0 0, .int .i64 0, .slice none 0 0, .slice none 0 0, .string ⟨#[]⟩, .int .i64 0, .int .i64 0, .string ⟨#[]⟩, .string ⟨#[]⟩, .slice none 0 0, .slice none 0 0] 34) = w0 := ⟨_, rfl⟩
  have kE : Blk w0 w.heap.size 34 #[.string ⟨x.t.n.toArray⟩, .slice a1 x.t.cols.length k1, .int .i64 x.t.key, .slice a2 x.t.uniq.length k2, .slice a3 x.t.refs.length k3, .string ⟨x.t.chk.op.toArray⟩, .int .i64 x.t.chk.v.k, .int .i64 x.t.chk.v.i, .string ⟨x.t.chk.v.s.toArray⟩, .string ⟨x.t.chk.s.toArray⟩, .slice a4 x.t.chk.l.length k4, .slice a5 x.rows.length k5] := by rw [← hw0]; exact (Blk.new _ _ _).alloc _
  have kR : Blk w0 (w.heap.size + 1) 34 #[.string ⟨#[]⟩, .slice none 0 0, .int .i64 0, .slice none 0 0, .slice none 0 0, .string ⟨#[]⟩, .int .i64 0, .int .i64 0, .string ⟨#[]⟩, .string ⟨#[]⟩, .slice none 0 0, .slice none 0 0] := by rw [← hw0]; exact Blk.new' _ _ _ _ (by simp)
  have hb0 : Below w.heap.size w w0 := by rw [← hw0]; exact bl
  have hs0 : w0.heap.size = w.heap.size + 1 + 1 := by rw [← hw0]; simp
  have HCP : Hid (Calls Tryz.prog 34 #[.agg #[.string ⟨x.t.n.toArray⟩, .slice a1 x.t.cols.length k1, .int .i64 x.t.key, .slice a2 x.t.uniq.length k2, .slice a3 x.t.refs.length k3, .string ⟨x.t.chk.op.toArray⟩, .int .i64 x.t.chk.v.k, .int .i64 x.t.chk.v.i, .string ⟨x.t.chk.v.s.toArray⟩, .string ⟨x.t.chk.s.toArray⟩, .slice a4 x.t.chk.l.length k4, .slice a5 x.rows.length k5]] w0 (RetCopy x w0)) := copy_any x ⟨⟨⟨a1, k1⟩, ⟨a2, k2⟩, ⟨a3, k3⟩, ⟨a4, k4⟩⟩, ⟨a5, k5⟩⟩ w0 hsm hst.2.2.2.2.2.2.1 hsl hst.2.2.2.1 hst.2.2.2.2.1 (hQ.keep (old_keep hb0 hb0.size))
  obtain ⟨q0, q1, q2, q3, q4, q5, q6, q7, q8, q9, q10, q11⟩ : w0.cell? ⟨w.heap.size, 0, none⟩ = some (.string ⟨x.t.n.toArray⟩) ∧ w0.cell? ⟨w.heap.size, 1, none⟩ = some (.slice a1 x.t.cols.length k1) ∧ w0.cell? ⟨w.heap.size, 2, none⟩ = some (.int .i64 x.t.key) ∧ w0.cell? ⟨w.heap.size, 3, none⟩ = some (.slice a2 x.t.uniq.length k2) ∧ w0.cell? ⟨w.heap.size, 4, none⟩ = some (.slice a3 x.t.refs.length k3) ∧ w0.cell? ⟨w.heap.size, 5, none⟩ = some (.string ⟨x.t.chk.op.toArray⟩) ∧ w0.cell? ⟨w.heap.size, 6, none⟩ = some (.int .i64 x.t.chk.v.k) ∧ w0.cell? ⟨w.heap.size, 7, none⟩ = some (.int .i64 x.t.chk.v.i) ∧ w0.cell? ⟨w.heap.size, 8, none⟩ = some (.string ⟨x.t.chk.v.s.toArray⟩) ∧ w0.cell? ⟨w.heap.size, 9, none⟩ = some (.string ⟨x.t.chk.s.toArray⟩) ∧ w0.cell? ⟨w.heap.size, 10, none⟩ = some (.slice a4 x.t.chk.l.length k4) ∧ w0.cell? ⟨w.heap.size, 11, none⟩ = some (.slice a5 x.rows.length k5) := ⟨kE.cell 0, kE.cell 1, kE.cell 2, kE.cell 3, kE.cell 4, kE.cell 5, kE.cell 6, kE.cell 7, kE.cell 8, kE.cell 9, kE.cell 10, kE.cell 11⟩
  have HW := Lib.hid hw0
  have HB0 := Lib.hid hb0
  have HS0 := Lib.hid hs0
  have HST := Lib.hid hst
  have HN : Hid (x.rows.length ≤ 1000) := hsm.2.1
  dsimp only [Rl.cells]
  clear hw0 hs0 hst hsm hsl hQ
  go_enter Tryz.func15, Tryz.ntmps15
  go_upto_region 1 with fail
  rw [HW.out]
  clear HW
  go_wp2_with fail
  refine HCP.out.mono ?_
  rintro en w1 ⟨⟨⟨⟨A1, c1⟩, ⟨A2, c2⟩, ⟨A3, c3⟩, ⟨A4, c4⟩⟩, ⟨A5, c5⟩⟩, rfl, hlc, hcm, hb1, g, rcs, hgw, hrcs, hArr, hrow, hTb⟩
  dsimp only [Rl.cells] at *
  obtain ⟨N, hNN⟩ : ∃ n, x.rows.length = n := ⟨_, rfl⟩
  have HNN := Lib.hid hNN
  rw [hNN] at hlc hArr ⊢
  have hz1 := hb1.size
  have hsz := HS0.out
  have kE1 := kE.below hb1 kE.lt
  have kR1 := kR.below hb1 kR.lt
  have hbw1 : Below w.heap.size w w1 := HB0.out.trans (hb1.mono HB0.out.size)
  obtain ⟨Z1, hZ1⟩ : ∃ Z, ((((((((((((w1.setCell ⟨w.heap.size, 0, none⟩ (.string ⟨x.t.n.toArray⟩)).setCell ⟨w.heap.size, 1, none⟩ (.slice A1 x.t.cols.length c1)).setCell ⟨w.heap.size, 2, none⟩ (.int .i64 x.t.key)).setCell ⟨w.heap.size, 3, none⟩ (.slice A2 x.t.uniq.length c2)).setCell ⟨w.heap.size, 4, none⟩ (.slice A3 x.t.refs.length c3)).setCell ⟨w.heap.size, 5, none⟩ (.string ⟨x.t.chk.op.toArray⟩)).setCell ⟨w.heap.size, 6, none⟩ (.int .i64 x.t.chk.v.k)).setCell ⟨w.heap.size, 7, none⟩ (.int .i64 x.t.chk.v.i)).setCell ⟨w.heap.size, 8, none⟩ (.string ⟨x.t.chk.v.s.toArray⟩)).setCell ⟨w.heap.size, 9, none⟩ (.string ⟨x.t.chk.s.toArray⟩)).setCell ⟨w.heap.size, 10, none⟩ (.slice A4 x.t.chk.l.length c4)).setCell ⟨w.heap.size, 11, none⟩ (.slice A5 N c5)) = Z := ⟨_, rfl⟩
  have hput : Blk ((((((((((((w1.setCell ⟨w.heap.size, 0, none⟩ (.string ⟨x.t.n.toArray⟩)).setCell ⟨w.heap.size, 1, none⟩ (.slice A1 x.t.cols.length c1)).setCell ⟨w.heap.size, 2, none⟩ (.int .i64 x.t.key)).setCell ⟨w.heap.size, 3, none⟩ (.slice A2 x.t.uniq.length c2)).setCell ⟨w.heap.size, 4, none⟩ (.slice A3 x.t.refs.length c3)).setCell ⟨w.heap.size, 5, none⟩ (.string ⟨x.t.chk.op.toArray⟩)).setCell ⟨w.heap.size, 6, none⟩ (.int .i64 x.t.chk.v.k)).setCell ⟨w.heap.size, 7, none⟩ (.int .i64 x.t.chk.v.i)).setCell ⟨w.heap.size, 8, none⟩ (.string ⟨x.t.chk.v.s.toArray⟩)).setCell ⟨w.heap.size, 9, none⟩ (.string ⟨x.t.chk.s.toArray⟩)).setCell ⟨w.heap.size, 10, none⟩ (.slice A4 x.t.chk.l.length c4)).setCell ⟨w.heap.size, 11, none⟩ (.slice A5 N c5)) w.heap.size 34 #[.string ⟨x.t.n.toArray⟩, .slice A1 x.t.cols.length c1, .int .i64 x.t.key, .slice A2 x.t.uniq.length c2, .slice A3 x.t.refs.length c3, .string ⟨x.t.chk.op.toArray⟩, .int .i64 x.t.chk.v.k, .int .i64 x.t.chk.v.i, .string ⟨x.t.chk.v.s.toArray⟩, .string ⟨x.t.chk.s.toArray⟩, .slice A4 x.t.chk.l.length c4, .slice A5 N c5] ∧ But w.heap.size w1 ((((((((((((w1.setCell ⟨w.heap.size, 0, none⟩ (.string ⟨x.t.n.toArray⟩)).setCell ⟨w.heap.size, 1, none⟩ (.slice A1 x.t.cols.length c1)).setCell ⟨w.heap.size, 2, none⟩ (.int .i64 x.t.key)).setCell ⟨w.heap.size, 3, none⟩ (.slice A2 x.t.uniq.length c2)).setCell ⟨w.heap.size, 4, none⟩ (.slice A3 x.t.refs.length c3)).setCell ⟨w.heap.size, 5, none⟩ (.string ⟨x.t.chk.op.toArray⟩)).setCell ⟨w.heap.size, 6, none⟩ (.int .i64 x.t.chk.v.k)).setCell ⟨w.heap.size, 7, none⟩ (.int .i64 x.t.chk.v.i)).setCell ⟨w.heap.size, 8, none⟩ (.string ⟨x.t.chk.v.s.toArray⟩)).setCell ⟨w.heap.size, 9, none⟩ (.string ⟨x.t.chk.s.toArray⟩)).setCell ⟨w.heap.size, 10, none⟩ (.slice A4 x.t.chk.l.length c4)).setCell ⟨w.heap.size, 11, none⟩ (.slice A5 N c5)) := put12 kE1
  rw [hZ1] at hput
  obtain ⟨kE2, hbt⟩ := hput
  have kR2 : Blk Z1 (w.heap.size + 1) 34 #[.string ⟨#[]⟩, .slice none 0 0, .int .i64 0, .slice none 0 0, .slice none 0 0, .string ⟨#[]⟩, .int .i64 0, .int .i64 0, .string ⟨#[]⟩, .string ⟨#[]⟩, .slice none 0 0, .slice none 0 0] := hbt.blk kR1 (by omega)
  have hbz : Below w.heap.size w Z1 := But.inside hbw1 (Nat.le_refl _) hbt
  have hzz := hbt.size
  have hl : rcs.length = N := by rw [← hNN, ← hrcs, List.length_map]
  have hArr2 : 0 < N → A5 = some ⟨g, 0, none⟩ ∧ w0.heap.size ≤ g ∧ g < Z1.heap.size ∧ Arr Z1 g 43 rcs := fun h0 => by
    obtain ⟨e1, e2, e3, cur, hcur, hcc⟩ := hArr h0
    exact ⟨e1, e2, by omega, cur, hbt.blk hcur (by omega), hcc⟩
  have hrow2 : ∀ q ∈ rcs, WQ q.r q.s.a (fun b => w0.heap.size ≤ b ∧ b < Z1.heap.size ∧ b ≠ g) Z1 := fun q hq => (hrow q hq).keep fun b hb => ⟨⟨hb.1, by omega, hb.2.2⟩, fun o => hbt.cell hb.2.1 (by omega) o⟩
  have hTb2 : TbQ 1000 x.t ⟨⟨A1, c1⟩, ⟨A2, c2⟩, ⟨A3, c3⟩, ⟨A4, c4⟩⟩ (fun b => w0.heap.size ≤ b ∧ b < Z1.heap.size ∧ b ≠ g) Z1 := hTb.keep fun b hb => ⟨⟨hb.1, by omega, hb.2.2⟩, fun o => hbt.cell hb.2.1 (by omega) o⟩
  have HSH : Hid (∀ Z : World, Below Z1.heap.size Z1 Z → Z.cell? ⟨w.heap.size, 0, none⟩ = some (.string ⟨x.t.n.toArray⟩) ∧ Z.cell? ⟨w.heap.size, 1, none⟩ = some (.slice A1 x.t.cols.length c1) ∧ Z.cell? ⟨w.heap.size, 2, none⟩ = some (.int .i64 x.t.key) ∧ Z.cell? ⟨w.heap.size, 3, none⟩ = some (.slice A2 x.t.uniq.length c2) ∧ Z.cell? ⟨w.heap.size, 4, none⟩ = some (.slice A3 x.t.refs.length c3) ∧ Z.cell? ⟨w.heap.size, 5, none⟩ = some (.string ⟨x.t.chk.op.toArray⟩) ∧ Z.cell? ⟨w.heap.size, 6, none⟩ = some (.int .i64 x.t.chk.v.k) ∧ Z.cell? ⟨w.heap.size, 7, none⟩ = some (.int .i64 x.t.chk.v.i) ∧ Z.cell? ⟨w.heap.size, 8, none⟩ = some (.string ⟨x.t.chk.v.s.toArray⟩) ∧ Z.cell? ⟨w.heap.size, 9, none⟩ = some (.string ⟨x.t.chk.s.toArray⟩) ∧ Z.cell? ⟨w.heap.size, 10, none⟩ = some (.slice A4 x.t.chk.l.length c4) ∧ Z.cell? ⟨w.heap.size, 11, none⟩ = some (.slice A5 N c5)) := fun Z hz => ⟨(kE2.below hz kE2.lt).cell 0, (kE2.below hz kE2.lt).cell 1, (kE2.below hz kE2.lt).cell 2, (kE2.below hz kE2.lt).cell 3, (kE2.below hz kE2.lt).cell 4, (kE2.below hz kE2.lt).cell 5, (kE2.below hz kE2.lt).cell 6, (kE2.below hz kE2.lt).cell 7, (kE2.below hz kE2.lt).cell 8, (kE2.below hz kE2.lt).cell 9, (kE2.below hz kE2.lt).cell 10, (kE2.below hz kE2.lt).cell 11⟩
  have HOF : Hid (∀ Z : World, Below Z1.heap.size Z1 Z → Calls Tryz.prog 36 #[.agg #[.string ⟨x.t.n.toArray⟩, .slice A1 x.t.cols.length c1, .int .i64 x.t.key, .slice A2 x.t.uniq.length c2, .slice A3 x.t.refs.length c3, .string ⟨x.t.chk.op.toArray⟩, .int .i64 x.t.chk.v.k, .int .i64 x.t.chk.v.i, .string ⟨x.t.chk.v.s.toArray⟩, .string ⟨x.t.chk.s.toArray⟩, .slice A4 x.t.chk.l.length c4]] Z (Ret (.agg #[.int .i64 (ofF x.t)]) Z)) := fun Z hz =>
    of_any x.t ⟨⟨A1, c1⟩, ⟨A2, c2⟩, ⟨A3, c3⟩, ⟨A4, c4⟩⟩ Z HST.out (hTb2.keep fun b hb => ⟨by have := hz.size; show b < _; omega, fun o => hz.cell (p := ⟨b, o, none⟩) hb.2.1⟩)
  have HSS : Hid (∀ Z : World, Below Z1.heap.size Z1 Z → Calls Tryz.prog 35 #[.slice A5 N c5, .func (.func 37) #[.agg #[.int .i64 (ofF x.t)]] #[]] Z (fun en Z' => en = .returned (.tuple #[]) ∧ Hid (∃ H' : List Rc, (Rise (ordRc (ofF x.t)) H' ∧ Stab (ordRc (ofF x.t)) rcs H') ∧ (0 < N → Arr Z' g 43 H') ∧ But g Z Z'))) := fun Z hz => by
    rcases Nat.eq_zero_or_pos N with h0 | h0
    · subst h0
      have hr0 : rcs = [] := List.eq_nil_of_length_eq_zero hl
      refine (sortStable0_any _ A5 c5 Z).mono ?_
      rintro en Z' ⟨rfl, hb⟩
      exact ⟨rfl, [], ⟨List.Pairwise.nil, by rw [hr0]; exact Stab.refl _⟩, fun h => absurd h (by omega), But.of_below hb⟩
    · obtain ⟨e1, e2, e3, e4⟩ := hArr2 h0
      subst e1
      have hRA : RowsAt g rcs Z := fun q hq => (hrow2 q hq).keep fun b hb => ⟨⟨by have := hz.size; omega, hb.2.2⟩, fun o => hz.cell (p := ⟨b, o, none⟩) hb.2.1⟩
      refine (sortStable_any (ofF x.t) g c5 N rcs Z (by have := HN.out; omega) hl (e4.below hz) (cmpOk_of hRA)).mono ?_
      rintro en Z' ⟨rfl, ⟨H', hx, hA'⟩, hb⟩
      exact ⟨rfl, H', hx, fun _ => hA', hb⟩
  obtain ⟨r0, r1, r2, r3, r4, r5, r6, r7, r8, r9, r10, r11⟩ : w1.cell? ⟨w.heap.size, 0, none⟩ = some (.string ⟨x.t.n.toArray⟩) ∧ w1.cell? ⟨w.heap.size, 1, none⟩ = some (.slice a1 x.t.cols.length k1) ∧ w1.cell? ⟨w.heap.size, 2, none⟩ = some (.int .i64 x.t.key) ∧ w1.cell? ⟨w.heap.size, 3, none⟩ = some (.slice a2 x.t.uniq.length k2) ∧ w1.cell? ⟨w.heap.size, 4, none⟩ = some (.slice a3 x.t.refs.length k3) ∧ w1.cell? ⟨w.heap.size, 5, none⟩ = some (.string ⟨x.t.chk.op.toArray⟩) ∧ w1.cell? ⟨w.heap.size, 6, none⟩ = some (.int .i64 x.t.chk.v.k) ∧ w1.cell? ⟨w.heap.size, 7, none⟩ = some (.int .i64 x.t.chk.v.i) ∧ w1.cell? ⟨w.heap.size, 8, none⟩ = some (.string ⟨x.t.chk.v.s.toArray⟩) ∧ w1.cell? ⟨w.heap.size, 9, none⟩ = some (.string ⟨x.t.chk.s.toArray⟩) ∧ w1.cell? ⟨w.heap.size, 10, none⟩ = some (.slice a4 x.t.chk.l.length k4) ∧ w1.cell? ⟨w.heap.size, 11, none⟩ = some (.slice a5 x.rows.length k5) := ⟨kE1.cell 0, kE1.cell 1, kE1.cell 2, kE1.cell 3, kE1.cell 4, kE1.cell 5, kE1.cell 6, kE1.cell 7, kE1.cell 8, kE1.cell 9, kE1.cell 10, kE1.cell 11⟩
  obtain ⟨f0, f1, f2, f3, f4, f5, f6, f7, f8, f9, f10, f11⟩ : w1.frozen? ⟨w.heap.size, 0, none⟩ = false ∧ w1.frozen? ⟨w.heap.size, 1, none⟩ = false ∧ w1.frozen? ⟨w.heap.size, 2, none⟩ = false ∧ w1.frozen? ⟨w.heap.size, 3, none⟩ = false ∧ w1.frozen? ⟨w.heap.size, 4, none⟩ = false ∧ w1.frozen? ⟨w.heap.size, 5, none⟩ = false ∧ w1.frozen? ⟨w.heap.size, 6, none⟩ = false ∧ w1.frozen? ⟨w.heap.size, 7, none⟩ = false ∧ w1.frozen? ⟨w.heap.size, 8, none⟩ = false ∧ w1.frozen? ⟨w.heap.size, 9, none⟩ = false ∧ w1.frozen? ⟨w.heap.size, 10, none⟩ = false ∧ w1.frozen? ⟨w.heap.size, 11, none⟩ = false := ⟨kE1.frozen 0, kE1.frozen 1, kE1.frozen 2, kE1.frozen 3, kE1.frozen 4, kE1.frozen 5, kE1.frozen 6, kE1.frozen 7, kE1.frozen 8, kE1.frozen 9, kE1.frozen 10, kE1.frozen 11⟩
  have HVZ := Lib.hid hZ1
  have HK2 := Lib.hid kE2
  have HR2 := Lib.hid kR2
  have HBZ := Lib.hid hbz
  have HA2 := Lib.hid hArr2
  have HRW2 := Lib.hid hrow2
  have HTB2 := Lib.hid hTb2
  have HRC := Lib.hid hrcs
  have HCC : Hid (N ≤ c5 ∧ c5 ≤ maxLen) := ⟨hlc, hcm⟩
  clear hZ1 kE kR kE1 kR1 kE2 kR2 hbz hArr hArr2 hrow hrow2 hTb hTb2 hrcs hlc hcm hbt hbw1 hb1 hz1 hzz hNN hl hsz HCP q0 q1 q2 q3 q4 q5 q6 q7 q8 q9 q10 q11
  go_upto_region 2 with fail
  rw [HVZ.out]
  clear HVZ r0 f0 r1 f1 r2 f2 r3 f3 r4 f4 r5 f5 r6 f6 r7 f7 r8 f8 r9 f9 r10 f10 r11 f11
  go_cut [] (fun wx => Hid (∃ (Z : World) (H' : List Rc), Below Z1.heap.size Z1 Z ∧ (Rise (ordRc (ofF x.t)) H' ∧ Stab (ordRc (ofF x.t)) rcs H') ∧ (0 < N → Arr wx g 43 H') ∧ But g Z wx))
  case first => as_aux_lemma =>
    refine wp_region_till [6] (fun Z => Z.cell? ⟨w.heap.size, 0, none⟩ = some (.string ⟨x.t.n.toArray⟩) ∧ Z.cell? ⟨w.heap.size, 1, none⟩ = some (.slice A1 x.t.cols.length c1) ∧ Z.cell? ⟨w.heap.size, 2, none⟩ = some (.int .i64 x.t.key) ∧ Z.cell? ⟨w.heap.size, 3, none⟩ = some (.slice A2 x.t.uniq.length c2) ∧ Z.cell? ⟨w.heap.size, 4, none⟩ = some (.slice A3 x.t.refs.length c3) ∧ Z.cell? ⟨w.heap.size, 5, none⟩ = some (.string ⟨x.t.chk.op.toArray⟩) ∧ Z.cell? ⟨w.heap.size, 6, none⟩ = some (.int .i64 x.t.chk.v.k) ∧ Z.cell? ⟨w.heap.size, 7, none⟩ = some (.int .i64 x.t.chk.v.i) ∧ Z.cell? ⟨w.heap.size, 8, none⟩ = some (.string ⟨x.t.chk.v.s.toArray⟩) ∧ Z.cell? ⟨w.heap.size, 9, none⟩ = some (.string ⟨x.t.chk.s.toArray⟩) ∧ Z.cell? ⟨w.heap.size, 10, none⟩ = some (.slice A4 x.t.chk.l.length c4) ∧ Z.cell? ⟨w.heap.size, 11, none⟩ = some (.slice A5 N c5)) (by kernel_rfl) ?_ (fun hHeld => ?_)
    · try dsimp only
      exact HSH.out _ (by exact bl)
    refine wpAnyI_take (i := 0) (v := ?_) 6 [1, 6] rfl (by decide) (by decide) (by decide) (by kernel_rfl) (by kernel_rfl) (by kernel_rfl) (by kernel_rfl) (by kernel_rfl) (fun _ _ _ h => h) (Or.inl ⟨by rfl, ?_⟩) (by assumption) ?_
    rotate_left
    · intro wq hSw
      try dsimp only at hSw
      go_simp
      try with_reducible rfl
    try simp only [Act.put, List.getElem_toArray, List.getElem_cons_zero, List.setIfInBounds_toArray, List.set_cons_zero, List.set_cons_succ]
    refine wpAnyI_take (i := 1) (v := ?_) 6 [6] rfl (by decide) (by decide) (by decide) (by kernel_rfl) (by kernel_rfl) (by kernel_rfl) (by kernel_rfl) (by kernel_rfl) (fun _ _ _ h => h) (Or.inl ⟨by rfl, ?_⟩) (by assumption) ?_
    rotate_left
    · intro wq hSw
      try dsimp only at hSw
      go_simp
      try with_reducible rfl
    try simp only [Act.put, List.getElem_toArray, List.getElem_cons_zero, List.getElem_cons_succ, List.setIfInBounds_toArray, List.set_cons_zero, List.set_cons_succ]
    refine wpAnyI_take (i := 2) (v := ?_) 6 [3, 4, 6] rfl (by decide) (by decide) (by decide) (by kernel_rfl) (by kernel_rfl) (by kernel_rfl) (by kernel_rfl) (by kernel_rfl) (fun _ _ _ h => h) (Or.inl ⟨by rfl, ?_⟩) (by assumption) ?_
    rotate_left
    · intro wq hSw
      try dsimp only at hSw
      go_simp
      try with_reducible rfl
    try simp only [Act.put, List.getElem_toArray, List.getElem_cons_zero, List.getElem_cons_succ, List.setIfInBounds_toArray, List.set_cons_zero, List.set_cons_succ]
    refine wpAnyI_take (i := 3) (v := ?_) 6 [4, 6] rfl (by decide) (by decide) (by decide) (by kernel_rfl) (by kernel_rfl) (by kernel_rfl) (by kernel_rfl) (by kernel_rfl) (fun _ _ _ h => h) (Or.inl ⟨by rfl, ?_⟩) (by assumption) ?_
    rotate_left
    · intro wq hSw
      try dsimp only at hSw
      go_simp
      try with_reducible rfl
    try simp only [Act.put, List.getElem_toArray, List.getElem_cons_zero, List.getElem_cons_succ, List.setIfInBounds_toArray, List.set_cons_zero, List.set_cons_succ]
    refine wpAnyI_ready (rs := [4]) (by kernel_rfl) (by simp) ?_
    refine AllReadyI.consT rfl (fun K hK => ?_) AllReadyI.nil
    go_simp
    (refine (HOF.out _ (by exact bl)).mono ?_) <;> rintro en w4 ⟨rfl, hb4⟩ <;> have hz4 := hb4.size <;> (try simp at hz4)
    go_wp2_with fail
    refine hK.out _ _ ?_ (fun hHeld => ?_)
    · try dsimp only
      exact HSH.out _ (by exact bl)
    clear hK K
    try simp only [Act.put, List.getElem_toArray, List.getElem_cons_zero, List.getElem_cons_succ, List.setIfInBounds_toArray, List.set_cons_zero, List.set_cons_succ]
    refine wpAnyI_ready (rs := [5]) (by kernel_rfl) (by simp) ?_
    refine AllReadyI.consT rfl (fun K hK => ?_) AllReadyI.nil
    go_simp
    skip
    go_wp2_with fail
    refine hK.out _ _ ?_ (fun hHeld => ?_)
    · try dsimp only
      exact HSH.out _ (by exact bl)
    clear hK K
    try simp only [Act.put, List.getElem_toArray, List.getElem_cons_zero, List.getElem_cons_succ, List.setIfInBounds_toArray, List.set_cons_zero, List.set_cons_succ]
    refine wpAnyI_ready (rs := [6]) (by kernel_rfl) (by simp) ?_
    refine AllReadyI.consD rfl (by decide) (fun K hK => ?_) AllReadyI.nil
    go_simp
    (refine (HSS.out _ (by exact bl)).mono ?_) <;> rintro en w6 ⟨rfl, hS6⟩
    go_wp2_with fail
    refine hK.out _ _ ?_
    clear hK K
    try simp only [Act.put, List.getElem_toArray, List.getElem_cons_zero, List.getElem_cons_succ, List.setIfInBounds_toArray, List.set_cons_zero, List.set_cons_succ]
    refine wpAnyI_done (by kernel_rfl) ?_ _
    go_wp2_with fail
    go_meet
    obtain ⟨H', h1, h2, h3⟩ := hS6.out
    exact ⟨_, H', by exact bl, h1, h2, h3⟩
  obtain ⟨Z, H', hzb, hso, hA3, hbu⟩ := hcut.out
  obtain ⟨wk, rfl⟩ : ∃ wk : World, wk = wc := ⟨_, rfl⟩
  have hsz := HS0.out
  have hbz := HBZ.out
  have kE3 : Blk wk w.heap.size 34 #[.string ⟨x.t.n.toArray⟩, .slice A1 x.t.cols.length c1, .int .i64 x.t.key, .slice A2 x.t.uniq.length c2, .slice A3 x.t.refs.length c3, .string ⟨x.t.chk.op.toArray⟩, .int .i64 x.t.chk.v.k, .int .i64 x.t.chk.v.i, .string ⟨x.t.chk.v.s.toArray⟩, .string ⟨x.t.chk.s.toArray⟩, .slice A4 x.t.chk.l.length c4, .slice A5 N c5] := hbu.blk (HK2.out.below hzb HK2.out.lt) (by omega)
  have kR3 : Blk wk (w.heap.size + 1) 34 #[.string ⟨#[]⟩, .slice none 0 0, .int .i64 0, .slice none 0 0, .slice none 0 0, .string ⟨#[]⟩, .int .i64 0, .int .i64 0, .string ⟨#[]⟩, .string ⟨#[]⟩, .slice none 0 0, .slice none 0 0] := hbu.blk (HR2.out.below hzb HR2.out.lt) (by omega)
  have hln : (H'.map Rc.r).length = N := by
    rw [List.length_map, hso.2.1.length_eq, ← HNN.out, ← HRC.out, List.length_map]
  have hzz := hzb.size
  have hzw := hbu.size
  have HFIN : Hid (∀ W : World, But (w.heap.size + 1) wk W → RetSorted x w (.returned (.agg #[.string ⟨x.t.n.toArray⟩, .slice A1 x.t.cols.length c1, .int .i64 x.t.key, .slice A2 x.t.uniq.length c2, .slice A3 x.t.refs.length c3, .string ⟨x.t.chk.op.toArray⟩, .int .i64 x.t.chk.v.k, .int .i64 x.t.chk.v.i, .string ⟨x.t.chk.v.s.toArray⟩, .string ⟨x.t.chk.s.toArray⟩, .slice A4 x.t.chk.l.length c4, .slice A5 N c5])) W) := fun W hW => by
    have hzW := hW.size
    have hk : ∀ b, (w0.heap.size ≤ b ∧ b < Z1.heap.size ∧ b ≠ g) → (w.heap.size ≤ b ∧ b < W.heap.size) ∧ ∀ o, W.cell? ⟨b, o, none⟩ = Z1.cell? ⟨b, o, none⟩ := fun b hb => ⟨⟨by omega, by omega⟩, fun o =>
      ((hW.cell (by omega) (by omega) o).trans (hbu.cell (by omega) hb.2.2 o)).trans (hzb.cell (p := ⟨b, o, none⟩) hb.2.1)⟩
    refine ⟨H'.map Rc.r, by rw [← HRC.out]; exact sortedOf_map hso.1 hso.2, ⟨⟨⟨A1, c1⟩, ⟨A2, c2⟩, ⟨A3, c3⟩, ⟨A4, c4⟩⟩, ⟨A5, c5⟩⟩, ?_, ⟨HTB2.out.keep hk, fun hl0 => ?_⟩, ?_, HCC.out.2, But.inside (But.inside (hbz.trans (hzb.mono hbz.size)) (by omega) hbu) (by omega) hW⟩
    · dsimp only [Rl.cells]
      rw [hln]
    · have hl1 : 0 < N := by rw [← hln]; exact hl0
      obtain ⟨e1, e2, e3, _⟩ := HA2.out hl1
      obtain ⟨cur, hcur, hcc⟩ := hA3 hl1
      refine ⟨g, 0, e1, ⟨by omega, by omega⟩, fun i r hr => ?_⟩
      rw [List.getElem?_map, Option.map_eq_some_iff] at hr
      obtain ⟨q, hq, rfl⟩ := hr
      have hA4 : Arr W g 43 H' := ⟨cur, hW.blk hcur (by omega), hcc⟩
      have hc := hA4.cell hq
      refine ⟨q.s.a, q.s.c, by rw [Nat.zero_add]; exact hc, (HRW2.out q (hso.2.1.mem_iff.1 (List.mem_of_getElem? hq))).keep hk⟩
    · show (H'.map Rc.r).length ≤ c5
      rw [hln]; exact HCC.out.1
  obtain ⟨q0, q1, q2, q3, q4, q5, q6, q7, q8, q9, q10, q11⟩ : wk.cell? ⟨w.heap.size, 0, none⟩ = some (.string ⟨x.t.n.toArray⟩) ∧ wk.cell? ⟨w.heap.size, 1, none⟩ = some (.slice A1 x.t.cols.length c1) ∧ wk.cell? ⟨w.heap.size, 2, none⟩ = some (.int .i64 x.t.key) ∧ wk.cell? ⟨w.heap.size, 3, none⟩ = some (.slice A2 x.t.uniq.length c2) ∧ wk.cell? ⟨w.heap.size, 4, none⟩ = some (.slice A3 x.t.refs.length c3) ∧ wk.cell? ⟨w.heap.size, 5, none⟩ = some (.string ⟨x.t.chk.op.toArray⟩) ∧ wk.cell? ⟨w.heap.size, 6, none⟩ = some (.int .i64 x.t.chk.v.k) ∧ wk.cell? ⟨w.heap.size, 7, none⟩ = some (.int .i64 x.t.chk.v.i) ∧ wk.cell? ⟨w.heap.size, 8, none⟩ = some (.string ⟨x.t.chk.v.s.toArray⟩) ∧ wk.cell? ⟨w.heap.size, 9, none⟩ = some (.string ⟨x.t.chk.s.toArray⟩) ∧ wk.cell? ⟨w.heap.size, 10, none⟩ = some (.slice A4 x.t.chk.l.length c4) ∧ wk.cell? ⟨w.heap.size, 11, none⟩ = some (.slice A5 N c5) := ⟨kE3.cell 0, kE3.cell 1, kE3.cell 2, kE3.cell 3, kE3.cell 4, kE3.cell 5, kE3.cell 6, kE3.cell 7, kE3.cell 8, kE3.cell 9, kE3.cell 10, kE3.cell 11⟩
  obtain ⟨p0, p1, p2, p3, p4, p5, p6, p7, p8, p9, p10, p11⟩ : wk.cell? ⟨w.heap.size + 1, 0, none⟩ = some (.string ⟨#[]⟩) ∧ wk.cell? ⟨w.heap.size + 1, 1, none⟩ = some (.slice none 0 0) ∧ wk.cell? ⟨w.heap.size + 1, 2, none⟩ = some (.int .i64 0) ∧ wk.cell? ⟨w.heap.size + 1, 3, none⟩ = some (.slice none 0 0) ∧ wk.cell? ⟨w.heap.size + 1, 4, none⟩ = some (.slice none 0 0) ∧ wk.cell? ⟨w.heap.size + 1, 5, none⟩ = some (.string ⟨#[]⟩) ∧ wk.cell? ⟨w.heap.size + 1, 6, none⟩ = some (.int .i64 0) ∧ wk.cell? ⟨w.heap.size + 1, 7, none⟩ = some (.int .i64 0) ∧ wk.cell? ⟨w.heap.size + 1, 8, none⟩ = some (.string ⟨#[]⟩) ∧ wk.cell? ⟨w.heap.size + 1, 9, none⟩ = some (.string ⟨#[]⟩) ∧ wk.cell? ⟨w.heap.size + 1, 10, none⟩ = some (.slice none 0 0) ∧ wk.cell? ⟨w.heap.size + 1, 11, none⟩ = some (.slice none 0 0) := ⟨kR3.cell 0, kR3.cell 1, kR3.cell 2, kR3.cell 3, kR3.cell 4, kR3.cell 5, kR3.cell 6, kR3.cell 7, kR3.cell 8, kR3.cell 9, kR3.cell 10, kR3.cell 11⟩
  obtain ⟨f0, f1, f2, f3, f4, f5, f6, f7, f8, f9, f10, f11⟩ : wk.frozen? ⟨w.heap.size + 1, 0, none⟩ = false ∧ wk.frozen? ⟨w.heap.size + 1, 1, none⟩ = false ∧ wk.frozen? ⟨w.heap.size + 1, 2, none⟩ = false ∧ wk.frozen? ⟨w.heap.size + 1, 3, none⟩ = false ∧ wk.frozen? ⟨w.heap.size + 1, 4, none⟩ = false ∧ wk.frozen? ⟨w.heap.size + 1, 5, none⟩ = false ∧ wk.frozen? ⟨w.heap.size + 1, 6, none⟩ = false ∧ wk.frozen? ⟨w.heap.size + 1, 7, none⟩ = false ∧ wk.frozen? ⟨w.heap.size + 1, 8, none⟩ = false ∧ wk.frozen? ⟨w.heap.size + 1, 9, none⟩ = false ∧ wk.frozen? ⟨w.heap.size + 1, 10, none⟩ = false ∧ wk.frozen? ⟨w.heap.size + 1, 11, none⟩ = false := ⟨kR3.frozen 0, kR3.frozen 1, kR3.frozen 2, kR3.frozen 3, kR3.frozen 4, kR3.frozen 5, kR3.frozen 6, kR3.frozen 7, kR3.frozen 8, kR3.frozen 9, kR3.frozen 10, kR3.frozen 11⟩
  have ne1 : ¬ (w.heap.size = w.heap.size + 1) := by omega
  clear hcut hzb hso hA3 hbu hgw hbz kE3 kR3 hln hzz hzw hsz
  go_wp2_with fail
  refine bodyPost_ret (v := .agg #[.string ⟨x.t.n.toArray⟩, .slice A1 x.t.cols.length c1, .int .i64 x.t.key, .slice A2 x.t.uniq.length c2, .slice A3 x.t.refs.length c3, .string ⟨x.t.chk.op.toArray⟩, .int .i64 x.t.chk.v.k, .int .i64 x.t.chk.v.i, .string ⟨x.t.chk.v.s.toArray⟩, .string ⟨x.t.chk.s.toArray⟩, .slice A4 x.t.chk.l.length c4, .slice A5 N c5]) (by simp [results, Tryz.results15, go_sem, *]) rfl (HFIN.out _ ?_)
  exact (((((((((((((But.refl _ _).set _ _).set _ _).set _ _).set _ _).set _ _).set _ _).set _ _).set _ _).set _ _).set _ _).set _ _).set _ _)

end Go.Proofs.YtdhjogmkhbpcgaaGreat
