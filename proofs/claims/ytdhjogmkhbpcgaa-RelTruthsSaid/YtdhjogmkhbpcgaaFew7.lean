/- caddislaw07.Few: a table with rows of which no more is looked at than may be. Condition: a table with rows that reads as one. -/
import Derived.Test.YtdhjogmkhbpcgaaFew6
import Derived.Test.YtdhjogmkhbpcgaaRowsOwn
import Derived.Test.YtdhjogmkhbpcgaaWhere
namespace Go.Proofs.Ytdhjogmkhbpcgaa
open Go.RowKit

attribute [local go_sem] ByteArray.extract_mk ba_get ba_append
attribute [local go_sem ↓] Go.wp_at_zero Go.wp_at_succ run_eql_V run_neq_V

theorem RowsOwn.but {w w' : World} {e : TypeId} {lo p : Nat} {sv : Value} {l : List (List V)} (h : RowsOwn w e lo sv l) (hb : But p w w') (hp : p < lo) : RowsOwn w' e lo sv l := by
  obtain ⟨recs, h1, h2, h3⟩ := h
  exact ⟨recs, h1, own_but h2 hb hp, fun q hq => (h3 q hq).keep fun b hb' => ⟨⟨hb'.1, Nat.lt_of_lt_of_le hb'.2.1 hb.size, hb'.2.2⟩, fun o => hb.cell hb'.2.1 (by omega) o⟩⟩
/-- What a call leaves that answers a table with rows. -/
def RetRl (X : Rl) (w : World) (en : Ending) (w' : World) : Prop :=
  ∃ p : RlP, en = .returned (.agg (X.cells p).toArray) ∧ RlQ 1000 X p (fun b => w.heap.size ≤ b ∧ b < w'.heap.size) w' ∧ X.rows.length ≤ p.rows.c ∧ p.rows.c ≤ maxLen ∧ Below w.heap.size w w'
theorem few7_fin {w W3 : World} {r : Nat} {T : Tb} {L : List (List V)} {b1 b2 b3 b4 AR : Option Addr} {l1 l2 l3 l4 cR : Nat} (hb : Below w.heap.size w W3) (hr : w.heap.size ≤ r)
    (hT : TbQ 1000 T ⟨⟨b1, l1⟩, ⟨b2, l2⟩, ⟨b3, l3⟩, ⟨b4, l4⟩⟩ (fun b => r < b ∧ b < W3.heap.size) W3) (hR : RQ L AR (fun b => r < b ∧ b < W3.heap.size) W3) (hlc : L.length ≤ cR) (hcm : cR ≤ maxLen) :
    RetRl ⟨T, L⟩ w (.returned (.agg #[.string ⟨T.n.toArray⟩, .slice b1 T.cols.length l1, .int .i64 T.key, .slice b2 T.uniq.length l2, .slice b3 T.refs.length l3, .string ⟨T.chk.op.toArray⟩, .int .i64 T.chk.v.k, .int .i64 T.chk.v.i, .string ⟨T.chk.v.s.toArray⟩, .string ⟨T.chk.s.toArray⟩, .slice b4 T.chk.l.length l4, .slice AR L.length cR])) ((((((((((((W3.setCell ⟨r, 0, none⟩ (.string ⟨T.n.toArray⟩)).setCell ⟨r, 1, none⟩ (.slice b1 T.cols.length l1)).setCell ⟨r, 2, none⟩ (.int .i64 T.key)).setCell ⟨r, 3, none⟩ (.slice b2 T.uniq.length l2)).setCell ⟨r, 4, none⟩ (.slice b3 T.refs.length l3)).setCell ⟨r, 5, none⟩ (.string ⟨T.chk.op.toArray⟩)).setCell ⟨r, 6, none⟩ (.int .i64 T.chk.v.k)).setCell ⟨r, 7, none⟩ (.int .i64 T.chk.v.i)).setCell ⟨r, 8, none⟩ (.string ⟨T.chk.v.s.toArray⟩)).setCell ⟨r, 9, none⟩ (.string ⟨T.chk.s.toArray⟩)).setCell ⟨r, 10, none⟩ (.slice b4 T.chk.l.length l4)).setCell ⟨r, 11, none⟩ (.slice AR L.length cR)) := by
  have bt : But r W3 ((((((((((((W3.setCell ⟨r, 0, none⟩ (.string ⟨T.n.toArray⟩)).setCell ⟨r, 1, none⟩ (.slice b1 T.cols.length l1)).setCell ⟨r, 2, none⟩ (.int .i64 T.key)).setCell ⟨r, 3, none⟩ (.slice b2 T.uniq.length l2)).setCell ⟨r, 4, none⟩ (.slice b3 T.refs.length l3)).setCell ⟨r, 5, none⟩ (.string ⟨T.chk.op.toArray⟩)).setCell ⟨r, 6, none⟩ (.int .i64 T.chk.v.k)).setCell ⟨r, 7, none⟩ (.int .i64 T.chk.v.i)).setCell ⟨r, 8, none⟩ (.string ⟨T.chk.v.s.toArray⟩)).setCell ⟨r, 9, none⟩ (.string ⟨T.chk.s.toArray⟩)).setCell ⟨r, 10, none⟩ (.slice b4 T.chk.l.length l4)).setCell ⟨r, 11, none⟩ (.slice AR L.length cR)) := (((((((((((((But.refl r W3).set 0 _).set 1 _).set 2 _).set 3 _).set 4 _).set 5 _).set 6 _).set 7 _).set 8 _).set 9 _).set 10 _).set 11 _)
  have hbx : Below w.heap.size w ((((((((((((W3.setCell ⟨r, 0, none⟩ (.string ⟨T.n.toArray⟩)).setCell ⟨r, 1, none⟩ (.slice b1 T.cols.length l1)).setCell ⟨r, 2, none⟩ (.int .i64 T.key)).setCell ⟨r, 3, none⟩ (.slice b2 T.uniq.length l2)).setCell ⟨r, 4, none⟩ (.slice b3 T.refs.length l3)).setCell ⟨r, 5, none⟩ (.string ⟨T.chk.op.toArray⟩)).setCell ⟨r, 6, none⟩ (.int .i64 T.chk.v.k)).setCell ⟨r, 7, none⟩ (.int .i64 T.chk.v.i)).setCell ⟨r, 8, none⟩ (.string ⟨T.chk.v.s.toArray⟩)).setCell ⟨r, 9, none⟩ (.string ⟨T.chk.s.toArray⟩)).setCell ⟨r, 10, none⟩ (.slice b4 T.chk.l.length l4)).setCell ⟨r, 11, none⟩ (.slice AR L.length cR)) := by ((repeat' (first | with_reducible exact Below.refl _ _ | with_reducible assumption | with_reducible refine Below.drew ?_ | with_reducible refine below_drewN ?_ _ | with_reducible refine Below.setCell ?_ ?_ _ | with_reducible refine Below.alloc ?_ ?_ _ | with_reducible refine Below.trans ?_ (Below.mono (by assumption) ?_))) <;> (first | (simp; done) | (simp; omega) | omega))
  generalize ((((((((((((W3.setCell ⟨r, 0, none⟩ (.string ⟨T.n.toArray⟩)).setCell ⟨r, 1, none⟩ (.slice b1 T.cols.length l1)).setCell ⟨r, 2, none⟩ (.int .i64 T.key)).setCell ⟨r, 3, none⟩ (.slice b2 T.uniq.length l2)).setCell ⟨r, 4, none⟩ (.slice b3 T.refs.length l3)).setCell ⟨r, 5, none⟩ (.string ⟨T.chk.op.toArray⟩)).setCell ⟨r, 6, none⟩ (.int .i64 T.chk.v.k)).setCell ⟨r, 7, none⟩ (.int .i64 T.chk.v.i)).setCell ⟨r, 8, none⟩ (.string ⟨T.chk.v.s.toArray⟩)).setCell ⟨r, 9, none⟩ (.string ⟨T.chk.s.toArray⟩)).setCell ⟨r, 10, none⟩ (.slice b4 T.chk.l.length l4)).setCell ⟨r, 11, none⟩ (.slice AR L.length cR)) = wx at *
  have hk : ∀ b, (r < b ∧ b < W3.heap.size) → (w.heap.size ≤ b ∧ b < wx.heap.size) ∧ ∀ o, wx.cell? ⟨b, o, none⟩ = W3.cell? ⟨b, o, none⟩ := fun b h => ⟨⟨by omega, by have := bt.size; omega⟩, fun o => bt.cell h.2 (by omega) o⟩
  exact ⟨⟨⟨⟨b1, l1⟩, ⟨b2, l2⟩, ⟨b3, l3⟩, ⟨b4, l4⟩⟩, ⟨AR, cR⟩⟩, rfl, ⟨hT.keep hk, hR.keep hk⟩, hlc, hcm, hbx⟩

set_option maxRecDepth 100000 in
set_option maxHeartbeats 8000000 in
theorem few7_any (x : Rl) (p : RlP) (w : World) (hs : x.big) (hQ : RlQ maxLen x p (Old w.heap.size) w) : Calls Try.prog 4 #[.agg (x.cells p).toArray] w (RetRl x.few w) := by
  obtain ⟨i0, hi0, zi0, zi1, zi2⟩ := info_parts infoR
  obtain ⟨t, rows⟩ := x
  obtain ⟨hn, hcl, hcn, hul, hrl, hrt, hcf, hck, hrows, hrw⟩ := hs
  obtain ⟨hT, hR⟩ := hQ
  obtain ⟨⟨⟨a1, k1⟩, ⟨a2, k2⟩, ⟨a3, k3⟩, ⟨a4, k4⟩⟩, ⟨a5, k5⟩⟩ := p
  obtain ⟨w0, hw0⟩ : ∃ w0, (w.alloc (.cells (Rl.cells ⟨t, rows⟩ ⟨⟨⟨a1, k1⟩, ⟨a2, k2⟩, ⟨a3, k3⟩, ⟨a4, k4⟩⟩, ⟨a5, k5⟩⟩).toArray 34)).alloc (.cells #[.string ⟨#[]⟩, .slice none 0 0, .int .i64 0, .slice none 0 0, .slice none 0 0, .string ⟨#[]⟩, .int .i64 0, .int .i64 0, .string ⟨#[]⟩, .string ⟨#[]⟩, .slice none 0 0, .slice none 0 0] 34) = w0 := ⟨_, rfl⟩
  have kx0 : Blk w0 w.heap.size 34 (Rl.cells ⟨t, rows⟩ ⟨⟨⟨a1, k1⟩, ⟨a2, k2⟩, ⟨a3, k3⟩, ⟨a4, k4⟩⟩, ⟨a5, k5⟩⟩).toArray := by rw [← hw0]; exact (Blk.new _ _ _).alloc _
  have kr0 : Blk w0 (w.heap.size + 1) 34 #[.string ⟨#[]⟩, .slice none 0 0, .int .i64 0, .slice none 0 0, .slice none 0 0, .string ⟨#[]⟩, .int .i64 0, .int .i64 0, .string ⟨#[]⟩, .string ⟨#[]⟩, .slice none 0 0, .slice none 0 0] := by rw [← hw0]; exact Blk.new' _ _ _ _ (by simp)
  have hb0 : Below w.heap.size w w0 := by rw [← hw0]; ((repeat' (first | with_reducible exact Below.refl _ _ | with_reducible assumption | with_reducible refine Below.drew ?_ | with_reducible refine below_drewN ?_ _ | with_reducible refine Below.setCell ?_ ?_ _ | with_reducible refine Below.alloc ?_ ?_ _ | with_reducible refine Below.trans ?_ (Below.mono (by assumption) ?_))) <;> (first | (simp; done) | (simp; omega) | omega))
  have hz0 : w0.heap.size = w.heap.size + 2 := by rw [← hw0]; simp
  have HW := Lib.hid hw0
  have HF6 := Lib.hid (few6_any t ⟨⟨a1, k1⟩, ⟨a2, k2⟩, ⟨a3, k3⟩, ⟨a4, k4⟩⟩ w0 ⟨hn, hcl, hcn, hul, hrl, hrt, hcf, hck⟩ (hT.keep (old_keep hb0 hb0.size)))
  have HRO : Hid (∀ Y : World, Below w.heap.size w Y → RQ rows a5 (Old w.heap.size) Y) := fun Y h => hR.keep (fun b hb => ⟨hb, fun o => h.cell (p := ⟨b, o, none⟩) hb⟩)
  have HRW : Hid (∀ r ∈ rows, r.length ≤ maxLen ∧ ∀ v ∈ r, fitI v.i) := hrw
  have HZ0 := Lib.hid hz0
  obtain ⟨T, hTT⟩ : ∃ T, t.few = T := ⟨_, rfl⟩
  rw [hTT] at HF6
  obtain ⟨m, hm⟩ : ∃ m, (if 200 < rows.length then 201 else 40) = m := ⟨_, rfl⟩
  have hm40 : 40 ≤ m ∧ m ≤ 201 := by rw [← hm]; split <;> omega
  have HM := Lib.hid hm
  have HRES : Hid (Rl.few ⟨t, rows⟩ = ⟨T, (rows.take m).map fewL⟩) := by show _ = _; unfold Rl.few; simp only; rw [hTT, hm]
  unfold maxLen at hrows
  have q0 : w0.cell? ⟨w.heap.size, 0, none⟩ = some (.string ⟨t.n.toArray⟩) := kx0.cell 0
  have q1 : w0.cell? ⟨w.heap.size, 1, none⟩ = some (.slice a1 t.cols.length k1) := kx0.cell 1
  have q2 : w0.cell? ⟨w.heap.size, 2, none⟩ = some (.int .i64 t.key) := kx0.cell 2
  have q3 : w0.cell? ⟨w.heap.size, 3, none⟩ = some (.slice a2 t.uniq.length k2) := kx0.cell 3
  have q4 : w0.cell? ⟨w.heap.size, 4, none⟩ = some (.slice a3 t.refs.length k3) := kx0.cell 4
  have q5 : w0.cell? ⟨w.heap.size, 5, none⟩ = some (.string ⟨t.chk.op.toArray⟩) := kx0.cell 5
  have q6 : w0.cell? ⟨w.heap.size, 6, none⟩ = some (.int .i64 t.chk.v.k) := kx0.cell 6
  have q7 : w0.cell? ⟨w.heap.size, 7, none⟩ = some (.int .i64 t.chk.v.i) := kx0.cell 7
  have q8 : w0.cell? ⟨w.heap.size, 8, none⟩ = some (.string ⟨t.chk.v.s.toArray⟩) := kx0.cell 8
  have q9 : w0.cell? ⟨w.heap.size, 9, none⟩ = some (.string ⟨t.chk.s.toArray⟩) := kx0.cell 9
  have q10 : w0.cell? ⟨w.heap.size, 10, none⟩ = some (.slice a4 t.chk.l.length k4) := kx0.cell 10
  have q11 : w0.cell? ⟨w.heap.size, 11, none⟩ = some (.slice a5 rows.length k5) := kx0.cell 11
  clear hw0 hT hR hrw hTT hm hcn hrt hcf
  go_enter Try.func4, Try.ntmps4
  go_upto_region 1 with fail
  rw [HW.out]
  clear HW
  dsimp only [Tb.cells] at HF6
  go_wp2_with fail
  refine HF6.out.mono ?_
  rintro en wT ⟨⟨⟨b1, l1⟩, ⟨b2, l2⟩, ⟨b3, l3⟩, ⟨b4, l4⟩⟩, rfl, hTQ, hbT⟩
  dsimp only [Tb.cells]
  have hzT := hbT.size
  have HTQ := Lib.hid hTQ
  have hbwT := hb0.trans (hbT.mono hb0.size)
  have kxT := kx0.below hbT kx0.lt
  have krT := kr0.below hbT kr0.lt
  clear hTQ q0 q1 q2 q3 q4 q5 q6 q7 q8 q9 q10 q11
  have qT : wT.cell? ⟨w.heap.size, 11, none⟩ = some (.slice a5 rows.length k5) := kxT.cell 11
  have lxT := kxT.lt
  obtain ⟨W1, hW1⟩ : ∃ W1, wT.alloc (.cells #[.string ⟨T.n.toArray⟩, .slice b1 T.cols.length l1, .int .i64 T.key, .slice b2 T.uniq.length l2, .slice b3 T.refs.length l3, .string ⟨T.chk.op.toArray⟩, .int .i64 T.chk.v.k, .int .i64 T.chk.v.i, .string ⟨T.chk.v.s.toArray⟩, .string ⟨T.chk.s.toArray⟩, .slice b4 T.chk.l.length l4, .slice none 0 0] 34) = W1 := ⟨_, rfl⟩
  have ky1 : Blk W1 wT.heap.size 34 #[.string ⟨T.n.toArray⟩, .slice b1 T.cols.length l1, .int .i64 T.key, .slice b2 T.uniq.length l2, .slice b3 T.refs.length l3, .string ⟨T.chk.op.toArray⟩, .int .i64 T.chk.v.k, .int .i64 T.chk.v.i, .string ⟨T.chk.v.s.toArray⟩, .string ⟨T.chk.s.toArray⟩, .slice b4 T.chk.l.length l4, .slice none 0 0] := by rw [← hW1]; exact Blk.new _ _ _
  have hbT1 : Below wT.heap.size wT W1 := by rw [← hW1]; ((repeat' (first | with_reducible exact Below.refl _ _ | with_reducible assumption | with_reducible refine Below.drew ?_ | with_reducible refine below_drewN ?_ _ | with_reducible refine Below.setCell ?_ ?_ _ | with_reducible refine Below.alloc ?_ ?_ _ | with_reducible refine Below.trans ?_ (Below.mono (by assumption) ?_))) <;> (first | (simp; done) | (simp; omega) | omega))
  have hz1 : W1.heap.size = wT.heap.size + 1 := by rw [← hW1]; simp
  have HW1 := Lib.hid hW1
  have HZ1 := Lib.hid hz1
  have kx1 := kxT.below hbT1 kxT.lt
  have kr1 := krT.below hbT1 krT.lt
  have hbw1 : Below w.heap.size w W1 := hbwT.trans (hbT1.mono hbwT.size)
  have hb01 : Below w0.heap.size w0 W1 := hbT.trans (hbT1.mono hzT)
  have lx1 := kx1.lt
  have lr1 := kr1.lt
  have ly1 := ky1.lt
  have x11 : W1.cell? ⟨w.heap.size, 11, none⟩ = some (.slice a5 rows.length k5) := kx1.cell 11
  clear hW1 qT
  go_upto_region 2 with fail
  rw [HW1.out]
  clear HW1 hz1
  have hz0 := HZ0.out
  go_upto_if 13 with fail
  go_cut [4] (fun s4 wx => s4 = .int .i64 (m : Nat) ∧ wx = W1)
  case first =>
    by_cases hbig : 200 < rows.length
    · have hmm : m = 201 := by rw [← HM.out, if_pos hbig]
      have HMM := Lib.hid hmm
      have hbi : (200 : Int) < (rows.length : Int) := by omega
      clear hmm
      go_wp2_with fail
      go_meet
      rw [HMM.out]
      exact ⟨rfl, rfl⟩
    · have hmm : m = 40 := by rw [← HM.out, if_neg hbig]
      have HMM := Lib.hid hmm
      have hbi : ¬ (200 : Int) < (rows.length : Int) := by omega
      clear hmm
      go_wp2_with fail
      go_meet
      rw [HMM.out]
      exact ⟨rfl, rfl⟩
  obtain ⟨rfl, rfl⟩ := hcut
  have lgy : w0.heap.size ≤ wT.heap.size := hzT
  have hz1 := HZ1.out
  obtain ⟨gy, hgy⟩ : ∃ g, wT.heap.size = g := ⟨_, rfl⟩
  rw [hgy] at ky1 lgy hz1 ly1
  have HGY := Lib.hid hgy
  have HTQ1 : Hid (TbQ 1000 T ⟨⟨b1, l1⟩, ⟨b2, l2⟩, ⟨b3, l3⟩, ⟨b4, l4⟩⟩ (fun b => w0.heap.size ≤ b ∧ b < gy) wc) := HTQ.out.keep fun b hb => ⟨⟨hb.1, by rw [← hgy]; exact hb.2⟩, fun o => hbT1.cell (p := ⟨b, o, none⟩) hb.2⟩
  rw [hgy]
  clear hgy HTQ hbT hbT1 hbwT kxT krT lxT hzT
  obtain ⟨W1, rfl⟩ : ∃ W, W = wc := ⟨_, rfl⟩
  go_upto_block 0 with fail
  go_cut [5] from 14 to 36 (fun _ wx => ∃ v : Value, Blk wx gy 34 #[.string ⟨T.n.toArray⟩, .slice b1 T.cols.length l1, .int .i64 T.key, .slice b2 T.uniq.length l2, .slice b3 T.refs.length l3, .string ⟨T.chk.op.toArray⟩, .int .i64 T.chk.v.k, .int .i64 T.chk.v.i, .string ⟨T.chk.v.s.toArray⟩, .string ⟨T.chk.s.toArray⟩, .slice b4 T.chk.l.length l4, v] ∧ RowsOwn wx 44 W1.heap.size v ((rows.take m).map fewL) ∧ But gy W1 wx)
  case first =>
    go_wp2_with fail
    go_loopw [5] (fun i wr => ∃ (j N : Nat) (v : Value) (L : List (List V)), j ≤ rows.length ∧ j ≤ m ∧ N ≤ 201 ∧ i = .int .i64 j ∧ Hid (N = j) ∧ Hid (L = (rows.take j).map fewL) ∧ Blk wr gy 34 #[.string ⟨T.n.toArray⟩, .slice b1 T.cols.length l1, .int .i64 T.key, .slice b2 T.uniq.length l2, .slice b3 T.refs.length l3, .string ⟨T.chk.op.toArray⟩, .int .i64 T.chk.v.k, .int .i64 T.chk.v.i, .string ⟨T.chk.v.s.toArray⟩, .string ⟨T.chk.s.toArray⟩, .slice b4 T.chk.l.length l4, v] ∧ RowsOwn wr 44 W1.heap.size v L ∧ But gy W1 wr) (fun i _ => rows.length - (intOf i).toNat)
    case atStart => exact ⟨0, 0, .slice none 0 0, [], by omega, by omega, by omega, rfl, rfl, rfl, ky1, RowsOwn.nil, But.refl _ _⟩
    case round =>
      obtain ⟨j, N, v, L, hj1, hj2, hN201, rfl, HN, HL, hk, hro, hbut⟩ := hrel
      have hb0r := But.inside hb01 lgy hbut
      have hbwr : Below w.heap.size w wr := hb0.trans (hb0r.mono hb0.size)
      have hzr := hbut.size
      have kxr := hbut.blk kx1 (by omega)
      have lkr := hk.lt
      by_cases hlt : j < rows.length ∧ j < m
      · obtain ⟨hlt, h10⟩ := hlt
        obtain ⟨b, off, r, A', c', rfl, hbB, hv, cr, hWr⟩ := (HRO.out wr hbwr).at_ hlt
        have hbB' : b < w.heap.size := hbB
        obtain ⟨hrl0, _⟩ := HRW.out r (List.mem_of_getElem? hv)
        have HTK : Hid ((rows.take (j + 1)).map fewL = (rows.take j).map fewL ++ [fewL r]) := by show _ = _; rw [List.take_add_one, hv]; simp
        have i1 : (0 : Int) ≤ (j : Int) := by omega
        have i2 : (j : Int) < (rows.length : Int) := by omega
        obtain ⟨W, rfl⟩ : ∃ W, W = wr := ⟨_, rfl⟩
        have lW : w0.heap.size ≤ W.heap.size := hb0r.size
        have x4 : W.cell? ⟨gy, 11, none⟩ = some v := hk.cell 11
        have t4 : W.cell? ⟨w.heap.size, 11, none⟩ = some (.slice (some ⟨b, off, none⟩) rows.length k5) := kxr.cell 11
        have HS9 : Hid (∀ w' : World, Below w0.heap.size W w' → (w'.cell? ⟨w.heap.size, 11, none⟩ = some (.slice (some ⟨b, off, none⟩) rows.length k5) ∧ w'.cell? ⟨b, off + j, none⟩ = some (.slice A' r.length c'))) := fun w' h =>
          ⟨(h.cell (p := ⟨w.heap.size, 11, none⟩) (show w.heap.size < _ by omega)).trans t4, (h.cell (p := ⟨b, off + j, none⟩) (show b < _ by omega)).trans cr⟩
        have HWR : Hid (∀ Z : World, Below W.heap.size W Z → VS Z Z.heap.size A' r) := fun Z h => (hWr.keep (Q' := Old Z.heap.size) fun b hb => ⟨Nat.lt_of_lt_of_le hb (Nat.le_trans hbwr.size h.size), fun o => h.cell (p := ⟨b, o, none⟩) (Nat.lt_of_lt_of_le hb hbwr.size)⟩).s (fun b h => h)
        have HRL0 := Lib.hid hrl0
        obtain ⟨recs, hrl1, hown, hrec⟩ := hro
        have HOL := Lib.hid hown.lt
        have hLN : L.length = N := by rw [HL.out, HN.out, List.length_map, List.length_take]; omega
        rw [hLN] at hown
        have HLN := Lib.hid hLN.symm
        have HRL := Lib.hid hrl1
        have HREC := Lib.hid hrec
        have HOW := Lib.hid hown
        have hd : W.drew.heap.size = W.heap.size := rfl
        have HD := Lib.hid hd
        clear hv hbB hown cr hWr hrec hrl1 hLN hrl0 hd
        go_wp2_with fail
        refine wp_region_held_drew (S := (fun w' => (w'.cell? ⟨w.heap.size, 11, none⟩ = some (.slice (some ⟨b, off, none⟩) rows.length k5) ∧ w'.cell? ⟨b, off + j, none⟩ = some (.slice A' r.length c')))) (by kernel_rfl) ?_ (fun hHeld => ?_)
        · try dsimp only
          exact HS9.out _ (by ((repeat' (first | with_reducible exact Below.refl _ _ | with_reducible assumption | with_reducible refine Below.drew ?_ | with_reducible refine below_drewN ?_ _ | with_reducible refine Below.setCell ?_ ?_ _ | with_reducible refine Below.alloc ?_ ?_ _ | with_reducible refine Below.trans ?_ (Below.mono (by assumption) ?_))) <;> (first | (simp; done) | (simp; omega) | omega)))
        refine wpAnyH_take (i := 0) (v := ?_) rfl (by kernel_rfl) (by kernel_rfl) (by kernel_rfl) (fun _ _ _ h => h) (Or.inl ⟨by rfl, ?_⟩) (by assumption) ?_
        rotate_left
        · intro wq hSw
          try dsimp only at hSw
          go_simp
          try with_reducible rfl
        try simp only [Act.put, List.getElem_toArray, List.getElem_cons_zero, List.setIfInBounds_toArray, List.set_cons_zero, List.set_cons_succ]
        refine wpAnyH_take (i := 2) (v := ?_) rfl (by kernel_rfl) (by kernel_rfl) (by kernel_rfl) (fun _ _ _ h => h) (Or.inl ⟨by rfl, ?_⟩) (by assumption) ?_
        rotate_left
        · intro wq hSw
          try dsimp only at hSw
          go_simp
          try with_reducible rfl
        try simp only [Act.put, List.getElem_toArray, List.getElem_cons_zero, List.getElem_cons_succ, List.setIfInBounds_toArray, List.set_cons_zero, List.set_cons_succ]
        refine wpAnyH_take (i := 3) (v := ?_) rfl (by kernel_rfl) (by kernel_rfl) (by kernel_rfl) (fun _ _ _ h => h) (Or.inl ⟨by rfl, ?_⟩) (by assumption) ?_
        rotate_left
        · intro wq hSw
          try dsimp only at hSw
          go_simp
          try with_reducible rfl
        try simp only [Act.put, List.getElem_toArray, List.getElem_cons_zero, List.getElem_cons_succ, List.setIfInBounds_toArray, List.set_cons_zero, List.set_cons_succ]
        refine wpAnyH_take (i := 4) (v := ?_) rfl (by kernel_rfl) (by kernel_rfl) (by kernel_rfl) (fun _ _ _ h => h) (Or.inl ⟨by rfl, ?_⟩) (by assumption) ?_
        rotate_left
        · intro wq hSw
          try dsimp only at hSw
          go_simp
          try with_reducible rfl
        try simp only [Act.put, List.getElem_toArray, List.getElem_cons_zero, List.getElem_cons_succ, List.setIfInBounds_toArray, List.set_cons_zero, List.set_cons_succ]
        refine wpAnyH_take (i := 5) (v := ?_) rfl (by kernel_rfl) (by kernel_rfl) (by kernel_rfl) (fun _ _ _ h => h) (Or.inl ⟨by rfl, ?_⟩) (by assumption) ?_
        rotate_left
        · intro wq hSw
          try dsimp only at hSw
          go_simp
          try with_reducible rfl
        try simp only [Act.put, List.getElem_toArray, List.getElem_cons_zero, List.getElem_cons_succ, List.setIfInBounds_toArray, List.set_cons_zero, List.set_cons_succ]
        refine wpAnyH_take (i := 6) (v := ?_) rfl (by kernel_rfl) (by kernel_rfl) (by kernel_rfl) (fun _ _ _ h => h) (Or.inl ⟨by rfl, ?_⟩) (by assumption) ?_
        rotate_left
        · intro wq hSw
          try dsimp only at hSw
          go_simp
          try with_reducible rfl
        try simp only [Act.put, List.getElem_toArray, List.getElem_cons_zero, List.getElem_cons_succ, List.setIfInBounds_toArray, List.set_cons_zero, List.set_cons_succ]
        refine wpAnyH_ready (rs := [1, 7]) (by kernel_rfl) (by simp) ?_
        refine (AllReadyH.cons rfl (fun K hK => ?_) (AllReadyH.cons rfl (fun K hK => ?_) AllReadyH.nil))
        · skip
          go_simp
          skip
          go_wp2_with fail
          refine hK.out _ _ ?_ (fun hHeld => ?_)
          · try dsimp only
            exact HS9.out _ (by ((repeat' (first | with_reducible exact Below.refl _ _ | with_reducible assumption | with_reducible refine Below.drew ?_ | with_reducible refine below_drewN ?_ _ | with_reducible refine Below.setCell ?_ ?_ _ | with_reducible refine Below.alloc ?_ ?_ _ | with_reducible refine Below.trans ?_ (Below.mono (by assumption) ?_))) <;> (first | (simp; done) | (simp; omega) | omega)))
          clear hK K
          try simp only [Act.put, List.getElem_toArray, List.getElem_cons_zero, List.getElem_cons_succ, List.setIfInBounds_toArray, List.set_cons_zero, List.set_cons_succ]
          refine wpAnyH_ready (rs := [7]) (by kernel_rfl) (by simp) ?_
          refine AllReadyH.cons rfl (fun K hK => ?_) AllReadyH.nil
          go_simp
          refine (few_any A' c' r _ HRL0.out (HWR.out _ (by ((repeat' (first | with_reducible exact Below.refl _ _ | with_reducible assumption | with_reducible refine Below.drew ?_ | with_reducible refine below_drewN ?_ _ | with_reducible refine Below.setCell ?_ ?_ _ | with_reducible refine Below.alloc ?_ ?_ _ | with_reducible refine Below.trans ?_ (Below.mono (by assumption) ?_))) <;> (first | (simp; done) | (simp; omega) | omega))))).mono ?_ <;> rintro en w7 ⟨A5, c5, rfl, hc51, hc52, hV5, hb7⟩ <;> have hz7 := hb7.size <;> have hbW7 : Below W.heap.size W w7 := (by ((repeat' (first | with_reducible exact Below.refl _ _ | with_reducible assumption | with_reducible refine Below.drew ?_ | with_reducible refine below_drewN ?_ _ | with_reducible refine Below.setCell ?_ ?_ _ | with_reducible refine Below.alloc ?_ ?_ _ | with_reducible refine Below.trans ?_ (Below.mono (by assumption) ?_))) <;> (first | (simp; done) | (simp; omega) | omega))) <;> have hzW7 := hbW7.size <;> have lg7 : gy < w7.heap.size := (by omega) <;> have x47 : w7.cell? ⟨gy, 11, none⟩ = some v := ((hk.below hbW7 lkr).cell 11) <;> have HV5 : Hid (WQ (fewL r) A5 (fun b => W1.heap.size ≤ b ∧ b < w7.heap.size ∧ some b ≠ v.ownBlock) w7) := (WQ.ofF hV5 (fun b h1 h2 => ⟨by have := HD.out; omega, h2, fun e1 => by have := (HOL.out b e1.symm).2; have := HD.out; omega⟩)) <;> clear hV5
          go_wp2_with fail
          refine hK.out _ _ ?_ (fun hHeld => ?_)
          · try dsimp only
            exact HS9.out _ (by ((repeat' (first | with_reducible exact Below.refl _ _ | with_reducible assumption | with_reducible refine Below.drew ?_ | with_reducible refine below_drewN ?_ _ | with_reducible refine Below.setCell ?_ ?_ _ | with_reducible refine Below.alloc ?_ ?_ _ | with_reducible refine Below.trans ?_ (Below.mono (by assumption) ?_))) <;> (first | (simp; done) | (simp; omega) | omega)))
          clear hK K
          try simp only [Act.put, List.getElem_toArray, List.getElem_cons_zero, List.getElem_cons_succ, List.setIfInBounds_toArray, List.set_cons_zero, List.set_cons_succ]
          refine wpAnyH_ready (rs := [8]) (by kernel_rfl) (by simp) ?_
          refine AllReadyH.cons rfl (fun K hK => ?_) AllReadyH.nil
          go_simp
          skip
          go_wp2_with fail
          refine hK.out _ _ ?_ (fun hHeld => ?_)
          · try dsimp only
            exact HS9.out _ (by ((repeat' (first | with_reducible exact Below.refl _ _ | with_reducible assumption | with_reducible refine Below.drew ?_ | with_reducible refine below_drewN ?_ _ | with_reducible refine Below.setCell ?_ ?_ _ | with_reducible refine Below.alloc ?_ ?_ _ | with_reducible refine Below.trans ?_ (Below.mono (by assumption) ?_))) <;> (first | (simp; done) | (simp; omega) | omega)))
          clear hK K
          try simp only [Act.put, List.getElem_toArray, List.getElem_cons_zero, List.getElem_cons_succ, List.setIfInBounds_toArray, List.set_cons_zero, List.set_cons_succ]
          refine wpAnyH_ready (rs := [9]) (by kernel_rfl) (by simp) ?_
          refine AllReadyH.cons rfl (fun K hK => ?_) AllReadyH.nil
          refine step_append_lies _ rfl (.tmp 27) (.tmp 34) 32 rfl W1.heap.size 44 i0 _ 1 24 Try.underlying32 hi0 zi0 zi1 zi2 rfl (by decide) v N (recs.map Rc.cell) (by simp [Act.eval]) ((own_below HOW.out hbW7).alloc _) ⟨w7.heap.size, 0, none⟩ 1 1 [.slice A5 (fewL r).length c5] (by simp [Act.eval]) rfl (World.news_of_block (cs := #[.slice A5 (fewL r).length c5]) (t := 44) (fr := (0, 0)) (heap_alloc_new w7 _)) (by simp [Value.oneCell']) (by omega) (by unfold maxLen; omega) (by omega) (by have := hbW7.size; simp; omega) _ rfl ?_; intro g5 cap w5 hown5 hg5 hor5 hl5; have hk5 := ((hk.below hbW7 lkr).alloc (.cells #[.slice A5 (fewL r).length c5] 44)).grown hg5 (fun e => (by have := (HOL.out _ e.symm).1; omega)); have hfr5 := hk5.frozen 11; have hcl5 : w5.cell? ⟨gy, 11, none⟩ = some v := hk5.cell 11; have hbw5 : Below w0.heap.size W w5 := ((hbW7.mono lW).alloc (by have := hbW7.size; omega) _).grown hg5 (by have := hbW7.size; simp; omega) (fun k hk => by have := (HOL.out k hk).1; omega); have HST := Lib.hid (RowsOwn.step (w := w7) (l := L) HRL.out (fun q hq => (HREC.out q hq).keep fun b hb' => ⟨⟨hb'.1, Nat.lt_of_lt_of_le hb'.2.1 hbW7.size, hb'.2.2⟩, fun o => hbW7.cell (p := ⟨b, o, none⟩) hb'.2.1⟩) HV5.out HLN.out hown5 ((Below.refl _ _).alloc (Nat.le_refl _) _) hg5 (by simpa using hor5))
          refine hK.out _ _ ?_ (fun hHeld => ?_)
          · try dsimp only
            exact HS9.out _ (by ((repeat' (first | with_reducible exact Below.refl _ _ | with_reducible assumption | with_reducible refine Below.drew ?_ | with_reducible refine below_drewN ?_ _ | with_reducible refine Below.setCell ?_ ?_ _ | with_reducible refine Below.alloc ?_ ?_ _ | with_reducible refine Below.trans ?_ (Below.mono (by assumption) ?_))) <;> (first | (simp; done) | (simp; omega) | omega)))
          clear hK K
          try simp only [Act.put, List.getElem_toArray, List.getElem_cons_zero, List.getElem_cons_succ, List.setIfInBounds_toArray, List.set_cons_zero, List.set_cons_succ]
          refine wpAnyH_take (i := 10) (v := ?_) rfl (by kernel_rfl) (by kernel_rfl) (by kernel_rfl) (fun _ _ _ h => h) (Or.inl ⟨by rfl, ?_⟩) (by assumption) ?_
          rotate_left
          · intro wq hSw
            try dsimp only at hSw
            go_simp
            try with_reducible rfl
          try simp only [Act.put, List.getElem_toArray, List.getElem_cons_zero, List.getElem_cons_succ, List.setIfInBounds_toArray, List.set_cons_zero, List.set_cons_succ]
          refine wpAnyH_ready (rs := [11]) (by kernel_rfl) (by simp) ?_
          refine AllReadyH.cons rfl (fun K hK => ?_) AllReadyH.nil
          go_simp
          skip
          go_wp2_with fail
          refine hK.out _ _ ?_ (fun hHeld => ?_)
          · try dsimp only
            exact HS9.out _ (by ((repeat' (first | with_reducible exact Below.refl _ _ | with_reducible assumption | with_reducible refine Below.drew ?_ | with_reducible refine below_drewN ?_ _ | with_reducible refine Below.setCell ?_ ?_ _ | with_reducible refine Below.alloc ?_ ?_ _ | with_reducible refine Below.trans ?_ (Below.mono (by assumption) ?_))) <;> (first | (simp; done) | (simp; omega) | omega)))
          clear hK K
          try simp only [Act.put, List.getElem_toArray, List.getElem_cons_zero, List.getElem_cons_succ, List.setIfInBounds_toArray, List.set_cons_zero, List.set_cons_succ]
          refine wpAnyH_done (by kernel_rfl) ?_ _
          go_wp2_with fail
          go_roundw
          case rel =>
            refine ⟨j + 1, N + 1, .slice (some ⟨g5, 0, none⟩) (N + 1) cap, L ++ [fewL r], by omega, by omega, by have := HN.out; omega, by go_num, by rw [HN.out]; rfl, by rw [HL.out, HTK.out]; rfl, by simpa using hk5.set_ 11 (.slice (some ⟨g5, 0, none⟩) (N + 1) cap), ?_, ?_⟩
            · exact HST.out.but ((But.refl gy w5).set 11 _) (by omega)
            · exact (((hbut.after hbW7).alloc _).grown hg5 (fun k hk => (HOL.out k hk).1)).set 11 _
          case measure => simp [intOf]; omega
        · skip
          go_simp
          refine (few_any A' c' r _ HRL0.out (HWR.out _ (by ((repeat' (first | with_reducible exact Below.refl _ _ | with_reducible assumption | with_reducible refine Below.drew ?_ | with_reducible refine below_drewN ?_ _ | with_reducible refine Below.setCell ?_ ?_ _ | with_reducible refine Below.alloc ?_ ?_ _ | with_reducible refine Below.trans ?_ (Below.mono (by assumption) ?_))) <;> (first | (simp; done) | (simp; omega) | omega))))).mono ?_ <;> rintro en w7 ⟨A5, c5, rfl, hc51, hc52, hV5, hb7⟩ <;> have hz7 := hb7.size <;> have hbW7 : Below W.heap.size W w7 := (by ((repeat' (first | with_reducible exact Below.refl _ _ | with_reducible assumption | with_reducible refine Below.drew ?_ | with_reducible refine below_drewN ?_ _ | with_reducible refine Below.setCell ?_ ?_ _ | with_reducible refine Below.alloc ?_ ?_ _ | with_reducible refine Below.trans ?_ (Below.mono (by assumption) ?_))) <;> (first | (simp; done) | (simp; omega) | omega))) <;> have hzW7 := hbW7.size <;> have lg7 : gy < w7.heap.size := (by omega) <;> have x47 : w7.cell? ⟨gy, 11, none⟩ = some v := ((hk.below hbW7 lkr).cell 11) <;> have HV5 : Hid (WQ (fewL r) A5 (fun b => W1.heap.size ≤ b ∧ b < w7.heap.size ∧ some b ≠ v.ownBlock) w7) := (WQ.ofF hV5 (fun b h1 h2 => ⟨by have := HD.out; omega, h2, fun e1 => by have := (HOL.out b e1.symm).2; have := HD.out; omega⟩)) <;> clear hV5
          go_wp2_with fail
          refine hK.out _ _ ?_ (fun hHeld => ?_)
          · try dsimp only
            exact HS9.out _ (by ((repeat' (first | with_reducible exact Below.refl _ _ | with_reducible assumption | with_reducible refine Below.drew ?_ | with_reducible refine below_drewN ?_ _ | with_reducible refine Below.setCell ?_ ?_ _ | with_reducible refine Below.alloc ?_ ?_ _ | with_reducible refine Below.trans ?_ (Below.mono (by assumption) ?_))) <;> (first | (simp; done) | (simp; omega) | omega)))
          clear hK K
          try simp only [Act.put, List.getElem_toArray, List.getElem_cons_zero, List.getElem_cons_succ, List.setIfInBounds_toArray, List.set_cons_zero, List.set_cons_succ]
          refine wpAnyH_ready (rs := [1, 8]) (by kernel_rfl) (by simp) ?_
          refine (AllReadyH.cons rfl (fun K hK => ?_) (AllReadyH.cons rfl (fun K hK => ?_) AllReadyH.nil))
          · skip
            go_simp
            skip
            go_wp2_with fail
            refine hK.out _ _ ?_ (fun hHeld => ?_)
            · try dsimp only
              exact HS9.out _ (by ((repeat' (first | with_reducible exact Below.refl _ _ | with_reducible assumption | with_reducible refine Below.drew ?_ | with_reducible refine below_drewN ?_ _ | with_reducible refine Below.setCell ?_ ?_ _ | with_reducible refine Below.alloc ?_ ?_ _ | with_reducible refine Below.trans ?_ (Below.mono (by assumption) ?_))) <;> (first | (simp; done) | (simp; omega) | omega)))
            clear hK K
            try simp only [Act.put, List.getElem_toArray, List.getElem_cons_zero, List.getElem_cons_succ, List.setIfInBounds_toArray, List.set_cons_zero, List.set_cons_succ]
            refine wpAnyH_ready (rs := [8]) (by kernel_rfl) (by simp) ?_
            refine AllReadyH.cons rfl (fun K hK => ?_) AllReadyH.nil
            go_simp
            skip
            go_wp2_with fail
            refine hK.out _ _ ?_ (fun hHeld => ?_)
            · try dsimp only
              exact HS9.out _ (by ((repeat' (first | with_reducible exact Below.refl _ _ | with_reducible assumption | with_reducible refine Below.drew ?_ | with_reducible refine below_drewN ?_ _ | with_reducible refine Below.setCell ?_ ?_ _ | with_reducible refine Below.alloc ?_ ?_ _ | with_reducible refine Below.trans ?_ (Below.mono (by assumption) ?_))) <;> (first | (simp; done) | (simp; omega) | omega)))
            clear hK K
            try simp only [Act.put, List.getElem_toArray, List.getElem_cons_zero, List.getElem_cons_succ, List.setIfInBounds_toArray, List.set_cons_zero, List.set_cons_succ]
            refine wpAnyH_ready (rs := [9]) (by kernel_rfl) (by simp) ?_
            refine AllReadyH.cons rfl (fun K hK => ?_) AllReadyH.nil
            refine step_append_lies _ rfl (.tmp 27) (.tmp 34) 32 rfl W1.heap.size 44 i0 _ 1 24 Try.underlying32 hi0 zi0 zi1 zi2 rfl (by decide) v N (recs.map Rc.cell) (by simp [Act.eval]) ((own_below HOW.out hbW7).alloc _) ⟨w7.heap.size, 0, none⟩ 1 1 [.slice A5 (fewL r).length c5] (by simp [Act.eval]) rfl (World.news_of_block (cs := #[.slice A5 (fewL r).length c5]) (t := 44) (fr := (0, 0)) (heap_alloc_new w7 _)) (by simp [Value.oneCell']) (by omega) (by unfold maxLen; omega) (by omega) (by have := hbW7.size; simp; omega) _ rfl ?_; intro g5 cap w5 hown5 hg5 hor5 hl5; have hk5 := ((hk.below hbW7 lkr).alloc (.cells #[.slice A5 (fewL r).length c5] 44)).grown hg5 (fun e => (by have := (HOL.out _ e.symm).1; omega)); have hfr5 := hk5.frozen 11; have hcl5 : w5.cell? ⟨gy, 11, none⟩ = some v := hk5.cell 11; have hbw5 : Below w0.heap.size W w5 := ((hbW7.mono lW).alloc (by have := hbW7.size; omega) _).grown hg5 (by have := hbW7.size; simp; omega) (fun k hk => by have := (HOL.out k hk).1; omega); have HST := Lib.hid (RowsOwn.step (w := w7) (l := L) HRL.out (fun q hq => (HREC.out q hq).keep fun b hb' => ⟨⟨hb'.1, Nat.lt_of_lt_of_le hb'.2.1 hbW7.size, hb'.2.2⟩, fun o => hbW7.cell (p := ⟨b, o, none⟩) hb'.2.1⟩) HV5.out HLN.out hown5 ((Below.refl _ _).alloc (Nat.le_refl _) _) hg5 (by simpa using hor5))
            refine hK.out _ _ ?_ (fun hHeld => ?_)
            · try dsimp only
              exact HS9.out _ (by ((repeat' (first | with_reducible exact Below.refl _ _ | with_reducible assumption | with_reducible refine Below.drew ?_ | with_reducible refine below_drewN ?_ _ | with_reducible refine Below.setCell ?_ ?_ _ | with_reducible refine Below.alloc ?_ ?_ _ | with_reducible refine Below.trans ?_ (Below.mono (by assumption) ?_))) <;> (first | (simp; done) | (simp; omega) | omega)))
            clear hK K
            try simp only [Act.put, List.getElem_toArray, List.getElem_cons_zero, List.getElem_cons_succ, List.setIfInBounds_toArray, List.set_cons_zero, List.set_cons_succ]
            refine wpAnyH_take (i := 10) (v := ?_) rfl (by kernel_rfl) (by kernel_rfl) (by kernel_rfl) (fun _ _ _ h => h) (Or.inl ⟨by rfl, ?_⟩) (by assumption) ?_
            rotate_left
            · intro wq hSw
              try dsimp only at hSw
              go_simp
              try with_reducible rfl
            try simp only [Act.put, List.getElem_toArray, List.getElem_cons_zero, List.getElem_cons_succ, List.setIfInBounds_toArray, List.set_cons_zero, List.set_cons_succ]
            refine wpAnyH_ready (rs := [11]) (by kernel_rfl) (by simp) ?_
            refine AllReadyH.cons rfl (fun K hK => ?_) AllReadyH.nil
            go_simp
            skip
            go_wp2_with fail
            refine hK.out _ _ ?_ (fun hHeld => ?_)
            · try dsimp only
              exact HS9.out _ (by ((repeat' (first | with_reducible exact Below.refl _ _ | with_reducible assumption | with_reducible refine Below.drew ?_ | with_reducible refine below_drewN ?_ _ | with_reducible refine Below.setCell ?_ ?_ _ | with_reducible refine Below.alloc ?_ ?_ _ | with_reducible refine Below.trans ?_ (Below.mono (by assumption) ?_))) <;> (first | (simp; done) | (simp; omega) | omega)))
            clear hK K
            try simp only [Act.put, List.getElem_toArray, List.getElem_cons_zero, List.getElem_cons_succ, List.setIfInBounds_toArray, List.set_cons_zero, List.set_cons_succ]
            refine wpAnyH_done (by kernel_rfl) ?_ _
            go_wp2_with fail
            go_roundw
            case rel =>
              refine ⟨j + 1, N + 1, .slice (some ⟨g5, 0, none⟩) (N + 1) cap, L ++ [fewL r], by omega, by omega, by have := HN.out; omega, by go_num, by rw [HN.out]; rfl, by rw [HL.out, HTK.out]; rfl, by simpa using hk5.set_ 11 (.slice (some ⟨g5, 0, none⟩) (N + 1) cap), ?_, ?_⟩
              · exact HST.out.but ((But.refl gy w5).set 11 _) (by omega)
              · exact (((hbut.after hbW7).alloc _).grown hg5 (fun k hk => (HOL.out k hk).1)).set 11 _
            case measure => simp [intOf]; omega
          · skip
            go_simp
            skip
            go_wp2_with fail
            refine hK.out _ _ ?_ (fun hHeld => ?_)
            · try dsimp only
              exact HS9.out _ (by ((repeat' (first | with_reducible exact Below.refl _ _ | with_reducible assumption | with_reducible refine Below.drew ?_ | with_reducible refine below_drewN ?_ _ | with_reducible refine Below.setCell ?_ ?_ _ | with_reducible refine Below.alloc ?_ ?_ _ | with_reducible refine Below.trans ?_ (Below.mono (by assumption) ?_))) <;> (first | (simp; done) | (simp; omega) | omega)))
            clear hK K
            try simp only [Act.put, List.getElem_toArray, List.getElem_cons_zero, List.getElem_cons_succ, List.setIfInBounds_toArray, List.set_cons_zero, List.set_cons_succ]
            refine wpAnyH_ready (rs := [1]) (by kernel_rfl) (by simp) ?_
            refine AllReadyH.cons rfl (fun K hK => ?_) AllReadyH.nil
            go_simp
            skip
            go_wp2_with fail
            refine hK.out _ _ ?_ (fun hHeld => ?_)
            · try dsimp only
              exact HS9.out _ (by ((repeat' (first | with_reducible exact Below.refl _ _ | with_reducible assumption | with_reducible refine Below.drew ?_ | with_reducible refine below_drewN ?_ _ | with_reducible refine Below.setCell ?_ ?_ _ | with_reducible refine Below.alloc ?_ ?_ _ | with_reducible refine Below.trans ?_ (Below.mono (by assumption) ?_))) <;> (first | (simp; done) | (simp; omega) | omega)))
            clear hK K
            try simp only [Act.put, List.getElem_toArray, List.getElem_cons_zero, List.getElem_cons_succ, List.setIfInBounds_toArray, List.set_cons_zero, List.set_cons_succ]
            refine wpAnyH_ready (rs := [9]) (by kernel_rfl) (by simp) ?_
            refine AllReadyH.cons rfl (fun K hK => ?_) AllReadyH.nil
            refine step_append_lies _ rfl (.tmp 27) (.tmp 34) 32 rfl W1.heap.size 44 i0 _ 1 24 Try.underlying32 hi0 zi0 zi1 zi2 rfl (by decide) v N (recs.map Rc.cell) (by simp [Act.eval]) ((own_below HOW.out hbW7).alloc _) ⟨w7.heap.size, 0, none⟩ 1 1 [.slice A5 (fewL r).length c5] (by simp [Act.eval]) rfl (World.news_of_block (cs := #[.slice A5 (fewL r).length c5]) (t := 44) (fr := (0, 0)) (heap_alloc_new w7 _)) (by simp [Value.oneCell']) (by omega) (by unfold maxLen; omega) (by omega) (by have := hbW7.size; simp; omega) _ rfl ?_; intro g5 cap w5 hown5 hg5 hor5 hl5; have hk5 := ((hk.below hbW7 lkr).alloc (.cells #[.slice A5 (fewL r).length c5] 44)).grown hg5 (fun e => (by have := (HOL.out _ e.symm).1; omega)); have hfr5 := hk5.frozen 11; have hcl5 : w5.cell? ⟨gy, 11, none⟩ = some v := hk5.cell 11; have hbw5 : Below w0.heap.size W w5 := ((hbW7.mono lW).alloc (by have := hbW7.size; omega) _).grown hg5 (by have := hbW7.size; simp; omega) (fun k hk => by have := (HOL.out k hk).1; omega); have HST := Lib.hid (RowsOwn.step (w := w7) (l := L) HRL.out (fun q hq => (HREC.out q hq).keep fun b hb' => ⟨⟨hb'.1, Nat.lt_of_lt_of_le hb'.2.1 hbW7.size, hb'.2.2⟩, fun o => hbW7.cell (p := ⟨b, o, none⟩) hb'.2.1⟩) HV5.out HLN.out hown5 ((Below.refl _ _).alloc (Nat.le_refl _) _) hg5 (by simpa using hor5))
            refine hK.out _ _ ?_ (fun hHeld => ?_)
            · try dsimp only
              exact HS9.out _ (by ((repeat' (first | with_reducible exact Below.refl _ _ | with_reducible assumption | with_reducible refine Below.drew ?_ | with_reducible refine below_drewN ?_ _ | with_reducible refine Below.setCell ?_ ?_ _ | with_reducible refine Below.alloc ?_ ?_ _ | with_reducible refine Below.trans ?_ (Below.mono (by assumption) ?_))) <;> (first | (simp; done) | (simp; omega) | omega)))
            clear hK K
            try simp only [Act.put, List.getElem_toArray, List.getElem_cons_zero, List.getElem_cons_succ, List.setIfInBounds_toArray, List.set_cons_zero, List.set_cons_succ]
            refine wpAnyH_take (i := 10) (v := ?_) rfl (by kernel_rfl) (by kernel_rfl) (by kernel_rfl) (fun _ _ _ h => h) (Or.inl ⟨by rfl, ?_⟩) (by assumption) ?_
            rotate_left
            · intro wq hSw
              try dsimp only at hSw
              go_simp
              try with_reducible rfl
            try simp only [Act.put, List.getElem_toArray, List.getElem_cons_zero, List.getElem_cons_succ, List.setIfInBounds_toArray, List.set_cons_zero, List.set_cons_succ]
            refine wpAnyH_ready (rs := [11]) (by kernel_rfl) (by simp) ?_
            refine AllReadyH.cons rfl (fun K hK => ?_) AllReadyH.nil
            go_simp
            skip
            go_wp2_with fail
            refine hK.out _ _ ?_ (fun hHeld => ?_)
            · try dsimp only
              exact HS9.out _ (by ((repeat' (first | with_reducible exact Below.refl _ _ | with_reducible assumption | with_reducible refine Below.drew ?_ | with_reducible refine below_drewN ?_ _ | with_reducible refine Below.setCell ?_ ?_ _ | with_reducible refine Below.alloc ?_ ?_ _ | with_reducible refine Below.trans ?_ (Below.mono (by assumption) ?_))) <;> (first | (simp; done) | (simp; omega) | omega)))
            clear hK K
            try simp only [Act.put, List.getElem_toArray, List.getElem_cons_zero, List.getElem_cons_succ, List.setIfInBounds_toArray, List.set_cons_zero, List.set_cons_succ]
            refine wpAnyH_done (by kernel_rfl) ?_ _
            go_wp2_with fail
            go_roundw
            case rel =>
              refine ⟨j + 1, N + 1, .slice (some ⟨g5, 0, none⟩) (N + 1) cap, L ++ [fewL r], by omega, by omega, by have := HN.out; omega, by go_num, by rw [HN.out]; rfl, by rw [HL.out, HTK.out]; rfl, by simpa using hk5.set_ 11 (.slice (some ⟨g5, 0, none⟩) (N + 1) cap), ?_, ?_⟩
              · exact HST.out.but ((But.refl gy w5).set 11 _) (by omega)
              · exact (((hbut.after hbW7).alloc _).grown hg5 (fun k hk => (HOL.out k hk).1)).set 11 _
            case measure => simp [intOf]; omega
      · have htk : rows.take m = rows.take j := by
          by_cases h : j < rows.length
          · rw [show j = m by omega]
          · rw [List.take_of_length_le (i := m) (by omega), List.take_of_length_le (by omega)]
        have hwi : ¬ ((j : Int) < (rows.length : Int)) ∨ (j < rows.length ∧ ¬ (j : Int) < (m : Int)) := by omega
        have HEX : Hid (RowsOwn wr 44 W1.heap.size v ((rows.take m).map fewL)) := by show RowsOwn _ _ _ _ _; rw [htk, ← HL.out]; exact hro
        have t4 : wr.cell? ⟨w.heap.size, 11, none⟩ = some (.slice a5 rows.length k5) := kxr.cell 11
        clear htk hlt
        rcases hwi with h | ⟨h, h'⟩
        all_goals
          go_wp2_with fail
          go_meet
          exact ⟨v, hk, HEX.out, hbut⟩
  obtain ⟨vR, hk3, hro3, hbut3⟩ := hcut
  obtain ⟨W3, rfl⟩ : ∃ W, W = wc := ⟨_, rfl⟩
  have hz3 := hbut3.size
  obtain ⟨LL, hLL⟩ : ∃ L, (rows.take m).map fewL = L := ⟨_, rfl⟩
  rw [hLL] at hro3 HRES
  obtain ⟨AR, cR, rfl, hcR1, hcR2, hRQ⟩ := hro3.out
  have hb03 := But.inside hb01 lgy hbut3
  have HBW3 : Hid (Below w.heap.size w W3) := hb0.trans (hb03.mono hb0.size)
  have kr3 := hbut3.blk kr1 (by omega)
  have lk3 := hk3.lt
  have lr3 := kr3.lt
  have HTQ3 : Hid (TbQ 1000 T ⟨⟨b1, l1⟩, ⟨b2, l2⟩, ⟨b3, l3⟩, ⟨b4, l4⟩⟩ (fun b => w.heap.size + 1 < b ∧ b < W3.heap.size) W3) := HTQ1.out.keep fun b hb => ⟨⟨by omega, by omega⟩, fun o => hbut3.cell (by omega) (by omega) o⟩
  have HRQ3 : Hid (RQ LL AR (fun b => w.heap.size + 1 < b ∧ b < W3.heap.size) W3) := hRQ.keep fun b hb => ⟨⟨by omega, hb.2⟩, fun _ => rfl⟩
  have e0 : W3.cell? ⟨gy, 0, none⟩ = some (.string ⟨T.n.toArray⟩) := hk3.cell 0
  have e1 : W3.cell? ⟨gy, 1, none⟩ = some (.slice b1 T.cols.length l1) := hk3.cell 1
  have e2 : W3.cell? ⟨gy, 2, none⟩ = some (.int .i64 T.key) := hk3.cell 2
  have e3 : W3.cell? ⟨gy, 3, none⟩ = some (.slice b2 T.uniq.length l2) := hk3.cell 3
  have e4 : W3.cell? ⟨gy, 4, none⟩ = some (.slice b3 T.refs.length l3) := hk3.cell 4
  have e5 : W3.cell? ⟨gy, 5, none⟩ = some (.string ⟨T.chk.op.toArray⟩) := hk3.cell 5
  have e6 : W3.cell? ⟨gy, 6, none⟩ = some (.int .i64 T.chk.v.k) := hk3.cell 6
  have e7 : W3.cell? ⟨gy, 7, none⟩ = some (.int .i64 T.chk.v.i) := hk3.cell 7
  have e8 : W3.cell? ⟨gy, 8, none⟩ = some (.string ⟨T.chk.v.s.toArray⟩) := hk3.cell 8
  have e9 : W3.cell? ⟨gy, 9, none⟩ = some (.string ⟨T.chk.s.toArray⟩) := hk3.cell 9
  have e10 : W3.cell? ⟨gy, 10, none⟩ = some (.slice b4 T.chk.l.length l4) := hk3.cell 10
  have e11 : W3.cell? ⟨gy, 11, none⟩ = some (.slice AR LL.length cR) := hk3.cell 11
  have r0 : W3.cell? ⟨w.heap.size + 1, 0, none⟩ = some (.string ⟨#[]⟩) := kr3.cell 0
  have f0 := kr3.frozen 0
  have r1 : W3.cell? ⟨w.heap.size + 1, 1, none⟩ = some (.slice none 0 0) := kr3.cell 1
  have f1 := kr3.frozen 1
  have r2 : W3.cell? ⟨w.heap.size + 1, 2, none⟩ = some (.int .i64 0) := kr3.cell 2
  have f2 := kr3.frozen 2
  have r3 : W3.cell? ⟨w.heap.size + 1, 3, none⟩ = some (.slice none 0 0) := kr3.cell 3
  have f3 := kr3.frozen 3
  have r4 : W3.cell? ⟨w.heap.size + 1, 4, none⟩ = some (.slice none 0 0) := kr3.cell 4
  have f4 := kr3.frozen 4
  have r5 : W3.cell? ⟨w.heap.size + 1, 5, none⟩ = some (.string ⟨#[]⟩) := kr3.cell 5
  have f5 := kr3.frozen 5
  have r6 : W3.cell? ⟨w.heap.size + 1, 6, none⟩ = some (.int .i64 0) := kr3.cell 6
  have f6 := kr3.frozen 6
  have r7 : W3.cell? ⟨w.heap.size + 1, 7, none⟩ = some (.int .i64 0) := kr3.cell 7
  have f7 := kr3.frozen 7
  have r8 : W3.cell? ⟨w.heap.size + 1, 8, none⟩ = some (.string ⟨#[]⟩) := kr3.cell 8
  have f8 := kr3.frozen 8
  have r9 : W3.cell? ⟨w.heap.size + 1, 9, none⟩ = some (.string ⟨#[]⟩) := kr3.cell 9
  have f9 := kr3.frozen 9
  have r10 : W3.cell? ⟨w.heap.size + 1, 10, none⟩ = some (.slice none 0 0) := kr3.cell 10
  have f10 := kr3.frozen 10
  have r11 : W3.cell? ⟨w.heap.size + 1, 11, none⟩ = some (.slice none 0 0) := kr3.cell 11
  have f11 := kr3.frozen 11
  clear hLL hro3 hRQ hb03 hbut3 HRO HRW HTQ1
  go_wp2_with fail
  refine bodyPost_ret (v := .agg #[.string ⟨T.n.toArray⟩, .slice b1 T.cols.length l1, .int .i64 T.key, .slice b2 T.uniq.length l2, .slice b3 T.refs.length l3, .string ⟨T.chk.op.toArray⟩, .int .i64 T.chk.v.k, .int .i64 T.chk.v.i, .string ⟨T.chk.v.s.toArray⟩, .string ⟨T.chk.s.toArray⟩, .slice b4 T.chk.l.length l4, .slice AR LL.length cR]) (by simp [results, Try.results4, go_sem, *]) rfl ?_
  rw [HRES.out]
  exact few7_fin HBW3.out (Nat.le_succ _) HTQ3.out HRQ3.out hcR1 hcR2

end Go.Proofs.Ytdhjogmkhbpcgaa
