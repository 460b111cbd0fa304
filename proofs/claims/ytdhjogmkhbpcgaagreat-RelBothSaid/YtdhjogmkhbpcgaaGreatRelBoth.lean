/- RelBoth. Condition: none but that the arguments read as a table with rows and two expressions. -/
import Derived.Test.YtdhjogmkhbpcgaaGreatR7M
import Derived.Test.YtdhjogmkhbpcgaaGreatRelCkM
import Derived.Test.YtdhjogmkhbpcgaaGreatOpenRlM
import Derived.Deep.CutBlock
import Derived.Deep.DeepCutAuto
import Derived.Deep.RegionWith
import Derived.IntWalk
namespace Go.Proofs.YtdhjogmkhbpcgaaGreat
open Go.RowKit

attribute [local go_sem] ByteArray.extract_mk ba_get ba_append
attribute [local go_sem ↓] Go.wp_at_zero Go.wp_at_succ run_eql_V run_neq_V

theorem exS_up1 {K : Nat} {w : World} {B : Nat} : ∀ (n : Nat) {A : Option Addr} {l : List Ex}, ExS K n w B A l → ExS K (n + 1) w B A l
  | 0, _, _, h => by cases h; exact ExS.nil 1
  | n + 1, _, _, h => fun hl => by
    obtain ⟨b, off, rfl, hb, hr⟩ := h hl
    refine ⟨b, off, rfl, hb, fun i e he => ?_⟩
    obtain ⟨A', c', h1, h2, h3, h4, h5⟩ := hr i e he
    exact ⟨A', c', h1, h2, h3, h4, exS_up1 n h5⟩
theorem exS_ups {K : Nat} {w : World} {B : Nat} {n : Nat} {A : Option Addr} {l : List Ex} (h : ExS K n w B A l) : ∀ m, ExS K (n + m) w B A l
  | 0 => h
  | m + 1 => exS_up1 (n + m) (exS_ups h m)
theorem where_sub (cols : List Col) (rows : List (List V)) (e : Ex) : (whereX cols rows e).1.length ≤ rows.length ∧ ∀ r ∈ (whereX cols rows e).1, r ∈ rows := by
  unfold whereX
  split
  · exact ⟨Nat.le_refl _, fun _ h => h⟩
  · split
    · simp
    · split
      · simp
      · exact ⟨List.length_filter_le _ _, fun r h => (List.mem_filter.1 h).1⟩
/-- What lies in the variables after the first line. -/
def PSt2 (w : World) (r0 r1 r2 : Nat) (tr te : TypeId) (X : Rl) (E G : Ex) (wx : World) : Prop := ∃ b1 l1 b2 l2 b3 l3 b4 l4 b5 l5 A c B d, Blk wx r0 tr #[.string ⟨X.t.n.toArray⟩, .slice b1 X.t.cols.length l1, .int .i64 X.t.key, .slice b2 X.t.uniq.length l2, .slice b3 X.t.refs.length l3, .string ⟨X.t.chk.op.toArray⟩, .int .i64 X.t.chk.v.k, .int .i64 X.t.chk.v.i, .string ⟨X.t.chk.v.s.toArray⟩, .string ⟨X.t.chk.s.toArray⟩, .slice b4 X.t.chk.l.length l4, .slice b5 X.rows.length l5] ∧ Blk wx r1 te #[.string ⟨E.op.toArray⟩, .int .i64 E.v.k, .int .i64 E.v.i, .string ⟨E.v.s.toArray⟩, .string ⟨E.s.toArray⟩, .slice A E.l.length c] ∧ Blk wx r2 te #[.string ⟨G.op.toArray⟩, .int .i64 G.v.k, .int .i64 G.v.i, .string ⟨G.v.s.toArray⟩, .string ⟨G.s.toArray⟩, .slice B G.l.length d] ∧
  RlQ 1000 X ⟨⟨⟨b1, l1⟩, ⟨b2, l2⟩, ⟨b3, l3⟩, ⟨b4, l4⟩⟩, ⟨b5, l5⟩⟩ (Old wx.heap.size) wx ∧ ExR (Old wx.heap.size) E A c wx ∧ ExR (Old wx.heap.size) G B d wx ∧ Below w.heap.size w wx
theorem parts_fin2 {w wL : World} {r0 r1 r2 N : Nat} {tr te : TypeId} {X : Rl} {E G : Ex} {b1 b2 b3 b4 b5 A B : Option Addr} {l1 l2 l3 l4 l5 c d : Nat} {u0 u1 u2 u3 u4 u5 u6 u7 u8 u9 u10 u11 y0 y1 y2 y3 y4 y5 z0 z1 z2 z3 z4 z5 : Value} (hw : Below w.heap.size w wL) (h0 : w.heap.size ≤ r0) (h1 : r0 < r1) (h2 : r1 < r2) (h3 : r2 < N)
    (k0 : Blk wL r0 tr #[u0, u1, u2, u3, u4, u5, u6, u7, u8, u9, u10, u11]) (k1 : Blk wL r1 te #[y0, y1, y2, y3, y4, y5]) (k2 : Blk wL r2 te #[z0, z1, z2, z3, z4, z5])
    (hQ : RlQ 1000 X ⟨⟨⟨b1, l1⟩, ⟨b2, l2⟩, ⟨b3, l3⟩, ⟨b4, l4⟩⟩, ⟨b5, l5⟩⟩ (fun b => N ≤ b ∧ b < wL.heap.size) wL) (hE : ExR (fun b => N ≤ b ∧ b < wL.heap.size) E A c wL) (hG : ExR (fun b => N ≤ b ∧ b < wL.heap.size) G B d wL) : PSt2 w r0 r1 r2 tr te X E G ((((((((((((((((((((((((wL.setCell ⟨r0, 0, none⟩ (.string ⟨X.t.n.toArray⟩)).setCell ⟨r0, 1, none⟩ (.slice b1 X.t.cols.length l1)).setCell ⟨r0, 2, none⟩ (.int .i64 X.t.key)).setCell ⟨r0, 3, none⟩ (.slice b2 X.t.uniq.length l2)).setCell ⟨r0, 4, none⟩ (.slice b3 X.t.refs.length l3)).setCell ⟨r0, 5, none⟩ (.string ⟨X.t.chk.op.toArray⟩)).setCell ⟨r0, 6, none⟩ (.int .i64 X.t.chk.v.k)).setCell ⟨r0, 7, none⟩ (.int .i64 X.t.chk.v.i)).setCell ⟨r0, 8, none⟩ (.string ⟨X.t.chk.v.s.toArray⟩)).setCell ⟨r0, 9, none⟩ (.string ⟨X.t.chk.s.toArray⟩)).setCell ⟨r0, 10, none⟩ (.slice b4 X.t.chk.l.length l4)).setCell ⟨r0, 11, none⟩ (.slice b5 X.rows.length l5)).setCell ⟨r1, 0, none⟩ (.string ⟨E.op.toArray⟩)).setCell ⟨r1, 1, none⟩ (.int .i64 E.v.k)).setCell ⟨r1, 2, none⟩ (.int .i64 E.v.i)).setCell ⟨r1, 3, none⟩ (.string ⟨E.v.s.toArray⟩)).setCell ⟨r1, 4, none⟩ (.string ⟨E.s.toArray⟩)).setCell ⟨r1, 5, none⟩ (.slice A E.l.length c)).setCell ⟨r2, 0, none⟩ (.string ⟨G.op.toArray⟩)).setCell ⟨r2, 1, none⟩ (.int .i64 G.v.k)).setCell ⟨r2, 2, none⟩ (.int .i64 G.v.i)).setCell ⟨r2, 3, none⟩ (.string ⟨G.v.s.toArray⟩)).setCell ⟨r2, 4, none⟩ (.string ⟨G.s.toArray⟩)).setCell ⟨r2, 5, none⟩ (.slice B G.l.length d)) := by
  have p1 : Blk ((((((((((((wL.setCell ⟨r0, 0, none⟩ (.string ⟨X.t.n.toArray⟩)).setCell ⟨r0, 1, none⟩ (.slice b1 X.t.cols.length l1)).setCell ⟨r0, 2, none⟩ (.int .i64 X.t.key)).setCell ⟨r0, 3, none⟩ (.slice b2 X.t.uniq.length l2)).setCell ⟨r0, 4, none⟩ (.slice b3 X.t.refs.length l3)).setCell ⟨r0, 5, none⟩ (.string ⟨X.t.chk.op.toArray⟩)).setCell ⟨r0, 6, none⟩ (.int .i64 X.t.chk.v.k)).setCell ⟨r0, 7, none⟩ (.int .i64 X.t.chk.v.i)).setCell ⟨r0, 8, none⟩ (.string ⟨X.t.chk.v.s.toArray⟩)).setCell ⟨r0, 9, none⟩ (.string ⟨X.t.chk.s.toArray⟩)).setCell ⟨r0, 10, none⟩ (.slice b4 X.t.chk.l.length l4)).setCell ⟨r0, 11, none⟩ (.slice b5 X.rows.length l5)) r0 tr #[.string ⟨X.t.n.toArray⟩, .slice b1 X.t.cols.length l1, .int .i64 X.t.key, .slice b2 X.t.uniq.length l2, .slice b3 X.t.refs.length l3, .string ⟨X.t.chk.op.toArray⟩, .int .i64 X.t.chk.v.k, .int .i64 X.t.chk.v.i, .string ⟨X.t.chk.v.s.toArray⟩, .string ⟨X.t.chk.s.toArray⟩, .slice b4 X.t.chk.l.length l4, .slice b5 X.rows.length l5] ∧ But r0 wL ((((((((((((wL.setCell ⟨r0, 0, none⟩ (.string ⟨X.t.n.toArray⟩)).setCell ⟨r0, 1, none⟩ (.slice b1 X.t.cols.length l1)).setCell ⟨r0, 2, none⟩ (.int .i64 X.t.key)).setCell ⟨r0, 3, none⟩ (.slice b2 X.t.uniq.length l2)).setCell ⟨r0, 4, none⟩ (.slice b3 X.t.refs.length l3)).setCell ⟨r0, 5, none⟩ (.string ⟨X.t.chk.op.toArray⟩)).setCell ⟨r0, 6, none⟩ (.int .i64 X.t.chk.v.k)).setCell ⟨r0, 7, none⟩ (.int .i64 X.t.chk.v.i)).setCell ⟨r0, 8, none⟩ (.string ⟨X.t.chk.v.s.toArray⟩)).setCell ⟨r0, 9, none⟩ (.string ⟨X.t.chk.s.toArray⟩)).setCell ⟨r0, 10, none⟩ (.slice b4 X.t.chk.l.length l4)).setCell ⟨r0, 11, none⟩ (.slice b5 X.rows.length l5)) := put12 k0
  generalize ((((((((((((wL.setCell ⟨r0, 0, none⟩ (.string ⟨X.t.n.toArray⟩)).setCell ⟨r0, 1, none⟩ (.slice b1 X.t.cols.length l1)).setCell ⟨r0, 2, none⟩ (.int .i64 X.t.key)).setCell ⟨r0, 3, none⟩ (.slice b2 X.t.uniq.length l2)).setCell ⟨r0, 4, none⟩ (.slice b3 X.t.refs.length l3)).setCell ⟨r0, 5, none⟩ (.string ⟨X.t.chk.op.toArray⟩)).setCell ⟨r0, 6, none⟩ (.int .i64 X.t.chk.v.k)).setCell ⟨r0, 7, none⟩ (.int .i64 X.t.chk.v.i)).setCell ⟨r0, 8, none⟩ (.string ⟨X.t.chk.v.s.toArray⟩)).setCell ⟨r0, 9, none⟩ (.string ⟨X.t.chk.s.toArray⟩)).setCell ⟨r0, 10, none⟩ (.slice b4 X.t.chk.l.length l4)).setCell ⟨r0, 11, none⟩ (.slice b5 X.rows.length l5)) = wM at *
  obtain ⟨m0, m1⟩ := p1
  have p2 : Blk ((((((wM.setCell ⟨r1, 0, none⟩ (.string ⟨E.op.toArray⟩)).setCell ⟨r1, 1, none⟩ (.int .i64 E.v.k)).setCell ⟨r1, 2, none⟩ (.int .i64 E.v.i)).setCell ⟨r1, 3, none⟩ (.string ⟨E.v.s.toArray⟩)).setCell ⟨r1, 4, none⟩ (.string ⟨E.s.toArray⟩)).setCell ⟨r1, 5, none⟩ (.slice A E.l.length c)) r1 te #[.string ⟨E.op.toArray⟩, .int .i64 E.v.k, .int .i64 E.v.i, .string ⟨E.v.s.toArray⟩, .string ⟨E.s.toArray⟩, .slice A E.l.length c] ∧ But r1 wM ((((((wM.setCell ⟨r1, 0, none⟩ (.string ⟨E.op.toArray⟩)).setCell ⟨r1, 1, none⟩ (.int .i64 E.v.k)).setCell ⟨r1, 2, none⟩ (.int .i64 E.v.i)).setCell ⟨r1, 3, none⟩ (.string ⟨E.v.s.toArray⟩)).setCell ⟨r1, 4, none⟩ (.string ⟨E.s.toArray⟩)).setCell ⟨r1, 5, none⟩ (.slice A E.l.length c)) := put6 (m1.blk k1 (by omega))
  generalize ((((((wM.setCell ⟨r1, 0, none⟩ (.string ⟨E.op.toArray⟩)).setCell ⟨r1, 1, none⟩ (.int .i64 E.v.k)).setCell ⟨r1, 2, none⟩ (.int .i64 E.v.i)).setCell ⟨r1, 3, none⟩ (.string ⟨E.v.s.toArray⟩)).setCell ⟨r1, 4, none⟩ (.string ⟨E.s.toArray⟩)).setCell ⟨r1, 5, none⟩ (.slice A E.l.length c)) = wN at *
  obtain ⟨n0, n1⟩ := p2
  have p3 : Blk ((((((wN.setCell ⟨r2, 0, none⟩ (.string ⟨G.op.toArray⟩)).setCell ⟨r2, 1, none⟩ (.int .i64 G.v.k)).setCell ⟨r2, 2, none⟩ (.int .i64 G.v.i)).setCell ⟨r2, 3, none⟩ (.string ⟨G.v.s.toArray⟩)).setCell ⟨r2, 4, none⟩ (.string ⟨G.s.toArray⟩)).setCell ⟨r2, 5, none⟩ (.slice B G.l.length d)) r2 te #[.string ⟨G.op.toArray⟩, .int .i64 G.v.k, .int .i64 G.v.i, .string ⟨G.v.s.toArray⟩, .string ⟨G.s.toArray⟩, .slice B G.l.length d] ∧ But r2 wN ((((((wN.setCell ⟨r2, 0, none⟩ (.string ⟨G.op.toArray⟩)).setCell ⟨r2, 1, none⟩ (.int .i64 G.v.k)).setCell ⟨r2, 2, none⟩ (.int .i64 G.v.i)).setCell ⟨r2, 3, none⟩ (.string ⟨G.v.s.toArray⟩)).setCell ⟨r2, 4, none⟩ (.string ⟨G.s.toArray⟩)).setCell ⟨r2, 5, none⟩ (.slice B G.l.length d)) := put6 (n1.blk (m1.blk k2 (by omega)) (by omega))
  generalize ((((((wN.setCell ⟨r2, 0, none⟩ (.string ⟨G.op.toArray⟩)).setCell ⟨r2, 1, none⟩ (.int .i64 G.v.k)).setCell ⟨r2, 2, none⟩ (.int .i64 G.v.i)).setCell ⟨r2, 3, none⟩ (.string ⟨G.v.s.toArray⟩)).setCell ⟨r2, 4, none⟩ (.string ⟨G.s.toArray⟩)).setCell ⟨r2, 5, none⟩ (.slice B G.l.length d)) = wF at *
  obtain ⟨o0, o1⟩ := p3
  have z1 := m1.size
  have z2 := n1.size
  have z3 := o1.size
  have hk : ∀ b, (N ≤ b ∧ b < wL.heap.size) → Old wF.heap.size b ∧ ∀ o, wF.cell? ⟨b, o, none⟩ = wL.cell? ⟨b, o, none⟩ := fun b hb => ⟨by show b < _; omega, fun o => ((o1.cell (by omega) (by omega) o).trans (n1.cell (by omega) (by omega) o)).trans (m1.cell hb.2 (by omega) o)⟩
  have hbm : Below w.heap.size w wM := But.inside hw h0 m1
  have hbn : Below w.heap.size w wN := But.inside hbm (by omega) n1
  exact ⟨b1, l1, b2, l2, b3, l3, b4, l4, b5, l5, A, c, B, d, o1.blk (n1.blk m0 (by omega)) (by omega), o1.blk n0 (by omega), o0, hQ.keep hk, hE.keep hk, hG.keep hk, But.inside hbn (by omega) o1⟩

set_option maxRecDepth 100000 in
set_option maxHeartbeats 16000000 in
theorem relBoth_walk (x : Rl) (p : RlP) (e g : Ex) (A0 B0 : Option Addr) (c0 n0 d0 m0 : Nat) (w : World) (hs : x.big) (hQ : RlQ maxLen x p (Old w.heap.size) w) (hf : e.fit maxLen) (hl : e.l.length ≤ maxLen) (hE : ExS maxLen n0 w w.heap.size A0 e.l) (hf' : g.fit maxLen) (hl' : g.l.length ≤ maxLen) (hG : ExS maxLen m0 w w.heap.size B0 g.l) :
    Calls Tryz.prog 4 #[.agg (x.cells p).toArray, .agg (e.cells A0 c0).toArray, .agg (g.cells B0 d0).toArray] w (Ret (.bool true) w) := by
  obtain ⟨⟨⟨a1, k1⟩, ⟨a2, k2⟩, ⟨a3, k3⟩, ⟨a4, k4⟩⟩, ⟨a5, k5⟩⟩ := p
  obtain ⟨w0, hw0⟩ : ∃ w0, ((w.alloc (.cells #[.string ⟨x.t.n.toArray⟩, .slice a1 x.t.cols.length k1, .int .i64 x.t.key, .slice a2 x.t.uniq.length k2, .slice a3 x.t.refs.length k3, .string ⟨x.t.chk.op.toArray⟩, .int .i64 x.t.chk.v.k, .int .i64 x.t.chk.v.i, .string ⟨x.t.chk.v.s.toArray⟩, .string ⟨x.t.chk.s.toArray⟩, .slice a4 x.t.chk.l.length k4, .slice a5 x.rows.length k5] 34)).alloc (.cells #[.string ⟨e.op.toArray⟩, .int .i64 e.v.k, .int .i64 e.v.i, .string ⟨e.v.s.toArray⟩, .string ⟨e.s.toArray⟩, .slice A0 e.l.length c0] 29)).alloc (.cells #[.string ⟨g.op.toArray⟩, .int .i64 g.v.k, .int .i64 g.v.i, .string ⟨g.v.s.toArray⟩, .string ⟨g.s.toArray⟩, .slice B0 g.l.length d0] 29) = w0 := ⟨_, rfl⟩
  have kx0 : Blk w0 w.heap.size 34 #[.string ⟨x.t.n.toArray⟩, .slice a1 x.t.cols.length k1, .int .i64 x.t.key, .slice a2 x.t.uniq.length k2, .slice a3 x.t.refs.length k3, .string ⟨x.t.chk.op.toArray⟩, .int .i64 x.t.chk.v.k, .int .i64 x.t.chk.v.i, .string ⟨x.t.chk.v.s.toArray⟩, .string ⟨x.t.chk.s.toArray⟩, .slice a4 x.t.chk.l.length k4, .slice a5 x.rows.length k5] := by rw [← hw0]; exact ((Blk.new _ _ _).alloc _).alloc _
  have ke0 : Blk w0 (w.heap.size + 1) 29 #[.string ⟨e.op.toArray⟩, .int .i64 e.v.k, .int .i64 e.v.i, .string ⟨e.v.s.toArray⟩, .string ⟨e.s.toArray⟩, .slice A0 e.l.length c0] := by rw [← hw0]; exact (Blk.new' _ _ _ _ (by simp)).alloc _
  have kg0 : Blk w0 (w.heap.size + 1 + 1) 29 #[.string ⟨g.op.toArray⟩, .int .i64 g.v.k, .int .i64 g.v.i, .string ⟨g.v.s.toArray⟩, .string ⟨g.s.toArray⟩, .slice B0 g.l.length d0] := by rw [← hw0]; exact Blk.new' _ _ _ _ (by simp)
  have hb0 : Below w.heap.size w w0 := by rw [← hw0]; ((with_reducible repeat' (first | exact Below.refl _ _ | assumption | refine Below.drew ?_ | refine below_drewN ?_ _ | refine Below.setCell ?_ ?_ _ | refine Below.alloc ?_ ?_ _ | refine Below.trans ?_ (Below.mono (by assumption) ?_))) <;> first | (simp; done) | (simp; omega) | omega)
  have hz0 := hb0.size
  have hl1 : w.heap.size + 1 + 1 < w0.heap.size := kg0.lt
  have HSH : Hid (∀ w' : World, Below w0.heap.size w0 w' → (w'.cell? ⟨w.heap.size, 0, none⟩ = some (.string ⟨x.t.n.toArray⟩) ∧ w'.cell? ⟨w.heap.size, 1, none⟩ = some (.slice a1 x.t.cols.length k1) ∧ w'.cell? ⟨w.heap.size, 2, none⟩ = some (.int .i64 x.t.key) ∧ w'.cell? ⟨w.heap.size, 3, none⟩ = some (.slice a2 x.t.uniq.length k2) ∧ w'.cell? ⟨w.heap.size, 4, none⟩ = some (.slice a3 x.t.refs.length k3) ∧ w'.cell? ⟨w.heap.size, 5, none⟩ = some (.string ⟨x.t.chk.op.toArray⟩) ∧ w'.cell? ⟨w.heap.size, 6, none⟩ = some (.int .i64 x.t.chk.v.k) ∧ w'.cell? ⟨w.heap.size, 7, none⟩ = some (.int .i64 x.t.chk.v.i) ∧ w'.cell? ⟨w.heap.size, 8, none⟩ = some (.string ⟨x.t.chk.v.s.toArray⟩) ∧ w'.cell? ⟨w.heap.size, 9, none⟩ = some (.string ⟨x.t.chk.s.toArray⟩) ∧ w'.cell? ⟨w.heap.size, 10, none⟩ = some (.slice a4 x.t.chk.l.length k4) ∧ w'.cell? ⟨w.heap.size, 11, none⟩ = some (.slice a5 x.rows.length k5) ∧ w'.cell? ⟨w.heap.size + 1, 0, none⟩ = some (.string ⟨e.op.toArray⟩) ∧ w'.cell? ⟨w.heap.size + 1, 1, none⟩ = some (.int .i64 e.v.k) ∧ w'.cell? ⟨w.heap.size + 1, 2, none⟩ = some (.int .i64 e.v.i) ∧ w'.cell? ⟨w.heap.size + 1, 3, none⟩ = some (.string ⟨e.v.s.toArray⟩) ∧ w'.cell? ⟨w.heap.size + 1, 4, none⟩ = some (.string ⟨e.s.toArray⟩) ∧ w'.cell? ⟨w.heap.size + 1, 5, none⟩ = some (.slice A0 e.l.length c0) ∧ w'.cell? ⟨w.heap.size + 1 + 1, 0, none⟩ = some (.string ⟨g.op.toArray⟩) ∧ w'.cell? ⟨w.heap.size + 1 + 1, 1, none⟩ = some (.int .i64 g.v.k) ∧ w'.cell? ⟨w.heap.size + 1 + 1, 2, none⟩ = some (.int .i64 g.v.i) ∧ w'.cell? ⟨w.heap.size + 1 + 1, 3, none⟩ = some (.string ⟨g.v.s.toArray⟩) ∧ w'.cell? ⟨w.heap.size + 1 + 1, 4, none⟩ = some (.string ⟨g.s.toArray⟩) ∧ w'.cell? ⟨w.heap.size + 1 + 1, 5, none⟩ = some (.slice B0 g.l.length d0))) := fun w' h => by
    have k := kx0.below h kx0.lt
    have q := ke0.below h ke0.lt
    have r := kg0.below h kg0.lt
    exact ⟨k.cell 0, k.cell 1, k.cell 2, k.cell 3, k.cell 4, k.cell 5, k.cell 6, k.cell 7, k.cell 8, k.cell 9, k.cell 10, k.cell 11, q.cell 0, q.cell 1, q.cell 2, q.cell 3, q.cell 4, q.cell 5, r.cell 0, r.cell 1, r.cell 2, r.cell 3, r.cell 4, r.cell 5⟩
  have HFZ : Hid (∀ w' : World, Below w0.heap.size w0 w' → ∀ i, w'.frozen? ⟨w.heap.size, i, none⟩ = false ∧ w'.frozen? ⟨w.heap.size + 1, i, none⟩ = false ∧ w'.frozen? ⟨w.heap.size + 1 + 1, i, none⟩ = false) := fun w' h i => ⟨(kx0.below h kx0.lt).frozen i, (ke0.below h ke0.lt).frozen i, (kg0.below h kg0.lt).frozen i⟩
  have hwx : ∀ Y : World, Below w0.heap.size w0 Y → Below w.heap.size w Y := fun Y h => hb0.trans (h.mono hz0)
  have HFW : Hid (∀ Y : World, Below w0.heap.size w0 Y → Calls Tryz.prog 8 #[.agg #[.string ⟨x.t.n.toArray⟩, .slice a1 x.t.cols.length k1, .int .i64 x.t.key, .slice a2 x.t.uniq.length k2, .slice a3 x.t.refs.length k3, .string ⟨x.t.chk.op.toArray⟩, .int .i64 x.t.chk.v.k, .int .i64 x.t.chk.v.i, .string ⟨x.t.chk.v.s.toArray⟩, .string ⟨x.t.chk.s.toArray⟩, .slice a4 x.t.chk.l.length k4, .slice a5 x.rows.length k5]] Y (RetRl x.few Y)) := fun Y h => few7_any x ⟨⟨⟨a1, k1⟩, ⟨a2, k2⟩, ⟨a3, k3⟩, ⟨a4, k4⟩⟩, ⟨a5, k5⟩⟩ Y hs (hQ.keep (old_keep (hwx Y h) (hwx Y h).size))
  have HFX : Hid (∀ Y : World, Below w0.heap.size w0 Y → Calls Tryz.prog 9 #[.agg #[.string ⟨e.op.toArray⟩, .int .i64 e.v.k, .int .i64 e.v.i, .string ⟨e.v.s.toArray⟩, .string ⟨e.s.toArray⟩, .slice A0 e.l.length c0]] Y (RetFewX (fewX e) Y)) := fun Y h => fewX_any e A0 c0 n0 Y hf hl ((hE.below n0 (hwx Y h)).more (hwx Y h).size n0)
  have HFG : Hid (∀ Y : World, Below w0.heap.size w0 Y → Calls Tryz.prog 9 #[.agg #[.string ⟨g.op.toArray⟩, .int .i64 g.v.k, .int .i64 g.v.i, .string ⟨g.v.s.toArray⟩, .string ⟨g.s.toArray⟩, .slice B0 g.l.length d0]] Y (RetFewX (fewX g) Y)) := fun Y h => fewX_any g B0 d0 m0 Y hf' hl' ((hG.below m0 (hwx Y h)).more (hwx Y h).size m0)
  have hsm := few_small hs
  have hst := few_text hs
  obtain ⟨X, hX⟩ : ∃ X, x.few = X := ⟨_, rfl⟩
  obtain ⟨E, hEE⟩ : ∃ E, fewX e = E := ⟨_, rfl⟩
  obtain ⟨G, hGG⟩ : ∃ G, fewX g = G := ⟨_, rfl⟩
  rw [hX] at HFW hsm hst
  rw [hEE] at HFX
  rw [hGG] at HFG
  have HSM := Lib.hid hsm
  have HST := Lib.hid hst
  have HW := Lib.hid hw0
  have HB0 := Lib.hid hb0
  dsimp only [Rl.cells, Ex.cells]
  clear hw0 hX hEE hGG hsm hst hQ hE hG hf hl hf' hl' hs hwx
  obtain ⟨q0, q1, q2, q3, q4, q5, q6, q7, q8, q9, q10, q11, q12, q13, q14, q15, q16, q17, q18, q19, q20, q21, q22, q23⟩ := HSH.out w0 (Below.refl _ _)
  go_enter Tryz.func4, Tryz.ntmps4
  go_upto_region 1 with fail
  rw [HW.out]
  clear HW
  go_cut [] (fun wx => PSt2 w w.heap.size (w.heap.size + 1) (w.heap.size + 1 + 1) 34 29 X E G wx)
  case first =>
    clear q0 q1 q2 q3 q4 q5 q6 q7 q8 q9 q10 q11 q12 q13 q14 q15 q16 q17 q18 q19 q20 q21 q22 q23
    refine wp_region_till [6] (fun w' => w'.cell? ⟨w.heap.size, 0, none⟩ = some (.string ⟨x.t.n.toArray⟩) ∧ w'.cell? ⟨w.heap.size, 1, none⟩ = some (.slice a1 x.t.cols.length k1) ∧ w'.cell? ⟨w.heap.size, 2, none⟩ = some (.int .i64 x.t.key) ∧ w'.cell? ⟨w.heap.size, 3, none⟩ = some (.slice a2 x.t.uniq.length k2) ∧ w'.cell? ⟨w.heap.size, 4, none⟩ = some (.slice a3 x.t.refs.length k3) ∧ w'.cell? ⟨w.heap.size, 5, none⟩ = some (.string ⟨x.t.chk.op.toArray⟩) ∧ w'.cell? ⟨w.heap.size, 6, none⟩ = some (.int .i64 x.t.chk.v.k) ∧ w'.cell? ⟨w.heap.size, 7, none⟩ = some (.int .i64 x.t.chk.v.i) ∧ w'.cell? ⟨w.heap.size, 8, none⟩ = some (.string ⟨x.t.chk.v.s.toArray⟩) ∧ w'.cell? ⟨w.heap.size, 9, none⟩ = some (.string ⟨x.t.chk.s.toArray⟩) ∧ w'.cell? ⟨w.heap.size, 10, none⟩ = some (.slice a4 x.t.chk.l.length k4) ∧ w'.cell? ⟨w.heap.size, 11, none⟩ = some (.slice a5 x.rows.length k5) ∧ w'.cell? ⟨w.heap.size + 1, 0, none⟩ = some (.string ⟨e.op.toArray⟩) ∧ w'.cell? ⟨w.heap.size + 1, 1, none⟩ = some (.int .i64 e.v.k) ∧ w'.cell? ⟨w.heap.size + 1, 2, none⟩ = some (.int .i64 e.v.i) ∧ w'.cell? ⟨w.heap.size + 1, 3, none⟩ = some (.string ⟨e.v.s.toArray⟩) ∧ w'.cell? ⟨w.heap.size + 1, 4, none⟩ = some (.string ⟨e.s.toArray⟩) ∧ w'.cell? ⟨w.heap.size + 1, 5, none⟩ = some (.slice A0 e.l.length c0) ∧ w'.cell? ⟨w.heap.size + 1 + 1, 0, none⟩ = some (.string ⟨g.op.toArray⟩) ∧ w'.cell? ⟨w.heap.size + 1 + 1, 1, none⟩ = some (.int .i64 g.v.k) ∧ w'.cell? ⟨w.heap.size + 1 + 1, 2, none⟩ = some (.int .i64 g.v.i) ∧ w'.cell? ⟨w.heap.size + 1 + 1, 3, none⟩ = some (.string ⟨g.v.s.toArray⟩) ∧ w'.cell? ⟨w.heap.size + 1 + 1, 4, none⟩ = some (.string ⟨g.s.toArray⟩) ∧ w'.cell? ⟨w.heap.size + 1 + 1, 5, none⟩ = some (.slice B0 g.l.length d0)) (by kernel_rfl) ?_ (fun hHeld => ?_)
    · try dsimp only
      exact HSH.out _ (by ((with_reducible repeat' (first | exact Below.refl _ _ | assumption | refine Below.drew ?_ | refine below_drewN ?_ _ | refine Below.setCell ?_ ?_ _ | refine Below.alloc ?_ ?_ _ | refine Below.trans ?_ (Below.mono (by assumption) ?_))) <;> first | (simp; done) | (simp; omega) | omega))
    refine wpAnyI_take (i := 0) (v := ?_) 6 [6] rfl (by decide) (by decide) (by decide) (by kernel_rfl) (by kernel_rfl) (by kernel_rfl) (by kernel_rfl) (by kernel_rfl) (fun _ _ _ h => h) (Or.inl ⟨by rfl, ?_⟩) (by assumption) ?_
    rotate_left
    · intro wq hSw
      try dsimp only at hSw
      go_simp
      try with_reducible rfl
    try simp only [Act.put, List.getElem_toArray, List.getElem_cons_zero, List.setIfInBounds_toArray, List.set_cons_zero, List.set_cons_succ]
    refine wpAnyI_take (i := 2) (v := ?_) 6 [3, 5, 6] rfl (by decide) (by decide) (by decide) (by kernel_rfl) (by kernel_rfl) (by kernel_rfl) (by kernel_rfl) (by kernel_rfl) (fun _ _ _ h => h) (Or.inl ⟨by rfl, ?_⟩) (by assumption) ?_
    rotate_left
    · intro wq hSw
      try dsimp only at hSw
      go_simp
      try with_reducible rfl
    try simp only [Act.put, List.getElem_toArray, List.getElem_cons_zero, List.getElem_cons_succ, List.setIfInBounds_toArray, List.set_cons_zero, List.set_cons_succ]
    refine wpAnyI_take (i := 4) (v := ?_) 6 [5, 6] rfl (by decide) (by decide) (by decide) (by kernel_rfl) (by kernel_rfl) (by kernel_rfl) (by kernel_rfl) (by kernel_rfl) (fun _ _ _ h => h) (Or.inl ⟨by rfl, ?_⟩) (by assumption) ?_
    rotate_left
    · intro wq hSw
      try dsimp only at hSw
      go_simp
      try with_reducible rfl
    try simp only [Act.put, List.getElem_toArray, List.getElem_cons_zero, List.getElem_cons_succ, List.setIfInBounds_toArray, List.set_cons_zero, List.set_cons_succ]
    refine wpAnyI_ready (rs := [1]) (by kernel_rfl) (by simp) ?_
    refine AllReadyI.consT rfl (fun K hK => ?_) AllReadyI.nil
    go_simp
    (refine (HFW.out _ (by ((with_reducible repeat' (first | exact Below.refl _ _ | assumption | refine Below.drew ?_ | refine below_drewN ?_ _ | refine Below.setCell ?_ ?_ _ | refine Below.alloc ?_ ?_ _ | refine Below.trans ?_ (Below.mono (by assumption) ?_))) <;> first | (simp; done) | (simp; omega) | omega))).mono ?_) <;> rintro en w1 ⟨⟨⟨⟨b1, l1⟩, ⟨b2, l2⟩, ⟨b3, l3⟩, ⟨b4, l4⟩⟩, ⟨b5, l5⟩⟩, rfl, hQ1, _, _, hb1⟩ <;> dsimp only [Rl.cells] <;> have hz1 := hb1.size <;> (try simp at hz1) <;> (try clear hfz) <;> have hfz := HFZ.out w1 (by ((with_reducible repeat' (first | exact Below.refl _ _ | assumption | refine Below.drew ?_ | refine below_drewN ?_ _ | refine Below.setCell ?_ ?_ _ | refine Below.alloc ?_ ?_ _ | refine Below.trans ?_ (Below.mono (by assumption) ?_))) <;> first | (simp; done) | (simp; omega) | omega))
    go_wp2_with fail
    refine hK.out _ _ ?_ (fun hHeld => ?_)
    · try dsimp only
      exact HSH.out _ (by ((with_reducible repeat' (first | exact Below.refl _ _ | assumption | refine Below.drew ?_ | refine below_drewN ?_ _ | refine Below.setCell ?_ ?_ _ | refine Below.alloc ?_ ?_ _ | refine Below.trans ?_ (Below.mono (by assumption) ?_))) <;> first | (simp; done) | (simp; omega) | omega))
    clear hK K
    try simp only [Act.put, List.getElem_toArray, List.getElem_cons_zero, List.getElem_cons_succ, List.setIfInBounds_toArray, List.set_cons_zero, List.set_cons_succ]
    refine wpAnyI_ready (rs := [3]) (by kernel_rfl) (by simp) ?_
    refine AllReadyI.consT rfl (fun K hK => ?_) AllReadyI.nil
    go_simp
    (refine (HFX.out _ (by ((with_reducible repeat' (first | exact Below.refl _ _ | assumption | refine Below.drew ?_ | refine below_drewN ?_ _ | refine Below.setCell ?_ ?_ _ | refine Below.alloc ?_ ?_ _ | refine Below.trans ?_ (Below.mono (by assumption) ?_))) <;> first | (simp; done) | (simp; omega) | omega))).mono ?_) <;> rintro en w3 ⟨A, c, rfl, hE3, hb3⟩ <;> dsimp only [Ex.cells] <;> have hz3 := hb3.size <;> (try simp at hz3) <;> (try clear hfz) <;> have hfz := HFZ.out w3 (by ((with_reducible repeat' (first | exact Below.refl _ _ | assumption | refine Below.drew ?_ | refine below_drewN ?_ _ | refine Below.setCell ?_ ?_ _ | refine Below.alloc ?_ ?_ _ | refine Below.trans ?_ (Below.mono (by assumption) ?_))) <;> first | (simp; done) | (simp; omega) | omega))
    go_wp2_with fail
    refine hK.out _ _ ?_ (fun hHeld => ?_)
    · try dsimp only
      exact HSH.out _ (by ((with_reducible repeat' (first | exact Below.refl _ _ | assumption | refine Below.drew ?_ | refine below_drewN ?_ _ | refine Below.setCell ?_ ?_ _ | refine Below.alloc ?_ ?_ _ | refine Below.trans ?_ (Below.mono (by assumption) ?_))) <;> first | (simp; done) | (simp; omega) | omega))
    clear hK K
    try simp only [Act.put, List.getElem_toArray, List.getElem_cons_zero, List.getElem_cons_succ, List.setIfInBounds_toArray, List.set_cons_zero, List.set_cons_succ]
    refine wpAnyI_ready (rs := [5]) (by kernel_rfl) (by simp) ?_
    refine AllReadyI.consT rfl (fun K hK => ?_) AllReadyI.nil
    go_simp
    (refine (HFG.out _ (by ((with_reducible repeat' (first | exact Below.refl _ _ | assumption | refine Below.drew ?_ | refine below_drewN ?_ _ | refine Below.setCell ?_ ?_ _ | refine Below.alloc ?_ ?_ _ | refine Below.trans ?_ (Below.mono (by assumption) ?_))) <;> first | (simp; done) | (simp; omega) | omega))).mono ?_) <;> rintro en w5 ⟨B, d, rfl, hG5, hb5⟩ <;> dsimp only [Ex.cells] <;> have hz5 := hb5.size <;> (try simp at hz5) <;> (try clear hfz) <;> have hfz := HFZ.out w5 (by ((with_reducible repeat' (first | exact Below.refl _ _ | assumption | refine Below.drew ?_ | refine below_drewN ?_ _ | refine Below.setCell ?_ ?_ _ | refine Below.alloc ?_ ?_ _ | refine Below.trans ?_ (Below.mono (by assumption) ?_))) <;> first | (simp; done) | (simp; omega) | omega))
    go_wp2_with fail
    refine hK.out _ _ ?_ (fun hHeld => ?_)
    · try dsimp only
      exact HSH.out _ (by ((with_reducible repeat' (first | exact Below.refl _ _ | assumption | refine Below.drew ?_ | refine below_drewN ?_ _ | refine Below.setCell ?_ ?_ _ | refine Below.alloc ?_ ?_ _ | refine Below.trans ?_ (Below.mono (by assumption) ?_))) <;> first | (simp; done) | (simp; omega) | omega))
    clear hK K
    try simp only [Act.put, List.getElem_toArray, List.getElem_cons_zero, List.getElem_cons_succ, List.setIfInBounds_toArray, List.set_cons_zero, List.set_cons_succ]
    refine wpAnyI_ready (rs := [6]) (by kernel_rfl) (by simp) ?_
    refine AllReadyI.consD rfl (by decide) (fun K hK => ?_) AllReadyI.nil
    (obtain ⟨q0, q1, q2, q3, q4, q5, q6, q7, q8, q9, q10, q11, q12, q13, q14, q15, q16, q17, q18, q19, q20, q21, q22, q23⟩ := hHeld)
    go_simp
    go_wp2_with fail
    refine hK.out _ _ ?_
    clear hK K
    try simp only [Act.put, List.getElem_toArray, List.getElem_cons_zero, List.getElem_cons_succ, List.setIfInBounds_toArray, List.set_cons_zero, List.set_cons_succ]
    refine wpAnyI_ready (rs := [7]) (by kernel_rfl) (by simp) ?_
    refine AllReadyI.consD rfl (by decide) (fun K hK => ?_) AllReadyI.nil
    skip
    go_simp
    go_wp2_with fail
    refine hK.out _ _ ?_
    clear hK K
    try simp only [Act.put, List.getElem_toArray, List.getElem_cons_zero, List.getElem_cons_succ, List.setIfInBounds_toArray, List.set_cons_zero, List.set_cons_succ]
    refine wpAnyI_ready (rs := [8]) (by kernel_rfl) (by simp) ?_
    refine AllReadyI.consD rfl (by decide) (fun K hK => ?_) AllReadyI.nil
    skip
    go_simp
    go_wp2_with fail
    refine hK.out _ _ ?_
    clear hK K
    try simp only [Act.put, List.getElem_toArray, List.getElem_cons_zero, List.getElem_cons_succ, List.setIfInBounds_toArray, List.set_cons_zero, List.set_cons_succ]
    refine wpAnyI_done (by kernel_rfl) ?_ _
    go_wp2_with fail
    go_meet
    exact parts_fin2 (N := w0.heap.size) (HB0.out.trans (Below.mono (by ((with_reducible repeat' (first | exact Below.refl _ _ | assumption | refine Below.drew ?_ | refine below_drewN ?_ _ | refine Below.setCell ?_ ?_ _ | refine Below.alloc ?_ ?_ _ | refine Below.trans ?_ (Below.mono (by assumption) ?_))) <;> first | (simp; done) | (simp; omega) | omega)) hz0)) (Nat.le_refl _) (Nat.lt_succ_self _) (Nat.lt_succ_self _) hl1 (kx0.below (B := w0.heap.size) (by ((with_reducible repeat' (first | exact Below.refl _ _ | assumption | refine Below.drew ?_ | refine below_drewN ?_ _ | refine Below.setCell ?_ ?_ _ | refine Below.alloc ?_ ?_ _ | refine Below.trans ?_ (Below.mono (by assumption) ?_))) <;> first | (simp; done) | (simp; omega) | omega)) kx0.lt) (ke0.below (B := w0.heap.size) (by ((with_reducible repeat' (first | exact Below.refl _ _ | assumption | refine Below.drew ?_ | refine below_drewN ?_ _ | refine Below.setCell ?_ ?_ _ | refine Below.alloc ?_ ?_ _ | refine Below.trans ?_ (Below.mono (by assumption) ?_))) <;> first | (simp; done) | (simp; omega) | omega)) ke0.lt) (kg0.below (B := w0.heap.size) (by ((with_reducible repeat' (first | exact Below.refl _ _ | assumption | refine Below.drew ?_ | refine below_drewN ?_ _ | refine Below.setCell ?_ ?_ _ | refine Below.alloc ?_ ?_ _ | refine Below.trans ?_ (Below.mono (by assumption) ?_))) <;> first | (simp; done) | (simp; omega) | omega)) kg0.lt) (RlQ.upTo hQ1 (by ((with_reducible repeat' (first | exact Below.refl _ _ | assumption | refine Below.drew ?_ | refine below_drewN ?_ _ | refine Below.setCell ?_ ?_ _ | refine Below.alloc ?_ ?_ _ | refine Below.trans ?_ (Below.mono (by assumption) ?_))) <;> first | (simp; done) | (simp; omega) | omega)) (by first | (simp; done) | (simp; omega) | omega)) (ExR.upTo hE3 (by ((with_reducible repeat' (first | exact Below.refl _ _ | assumption | refine Below.drew ?_ | refine below_drewN ?_ _ | refine Below.setCell ?_ ?_ _ | refine Below.alloc ?_ ?_ _ | refine Below.trans ?_ (Below.mono (by assumption) ?_))) <;> first | (simp; done) | (simp; omega) | omega)) (by first | (simp; done) | (simp; omega) | omega)) (ExR.upTo hG5 (by ((with_reducible repeat' (first | exact Below.refl _ _ | assumption | refine Below.drew ?_ | refine below_drewN ?_ _ | refine Below.setCell ?_ ?_ _ | refine Below.alloc ?_ ?_ _ | refine Below.trans ?_ (Below.mono (by assumption) ?_))) <;> first | (simp; done) | (simp; omega) | omega)) (by first | (simp; done) | (simp; omega) | omega))
  obtain ⟨b1, l1, b2, l2, b3, l3, b4, l4, b5, l5, A, c, B, d, kX, kE, kG, hQX, hER, hGR, hbW⟩ := hcut
  obtain ⟨W1, rfl⟩ : ∃ W, W = wc := ⟨_, rfl⟩
  have HSX : Hid (∀ w' : World, Below W1.heap.size W1 w' → (w'.cell? ⟨w.heap.size, 0, none⟩ = some (.string ⟨X.t.n.toArray⟩) ∧ w'.cell? ⟨w.heap.size, 1, none⟩ = some (.slice b1 X.t.cols.length l1) ∧ w'.cell? ⟨w.heap.size, 2, none⟩ = some (.int .i64 X.t.key) ∧ w'.cell? ⟨w.heap.size, 3, none⟩ = some (.slice b2 X.t.uniq.length l2) ∧ w'.cell? ⟨w.heap.size, 4, none⟩ = some (.slice b3 X.t.refs.length l3) ∧ w'.cell? ⟨w.heap.size, 5, none⟩ = some (.string ⟨X.t.chk.op.toArray⟩) ∧ w'.cell? ⟨w.heap.size, 6, none⟩ = some (.int .i64 X.t.chk.v.k) ∧ w'.cell? ⟨w.heap.size, 7, none⟩ = some (.int .i64 X.t.chk.v.i) ∧ w'.cell? ⟨w.heap.size, 8, none⟩ = some (.string ⟨X.t.chk.v.s.toArray⟩) ∧ w'.cell? ⟨w.heap.size, 9, none⟩ = some (.string ⟨X.t.chk.s.toArray⟩) ∧ w'.cell? ⟨w.heap.size, 10, none⟩ = some (.slice b4 X.t.chk.l.length l4) ∧ w'.cell? ⟨w.heap.size, 11, none⟩ = some (.slice b5 X.rows.length l5) ∧ w'.cell? ⟨w.heap.size + 1, 0, none⟩ = some (.string ⟨E.op.toArray⟩) ∧ w'.cell? ⟨w.heap.size + 1, 1, none⟩ = some (.int .i64 E.v.k) ∧ w'.cell? ⟨w.heap.size + 1, 2, none⟩ = some (.int .i64 E.v.i) ∧ w'.cell? ⟨w.heap.size + 1, 3, none⟩ = some (.string ⟨E.v.s.toArray⟩) ∧ w'.cell? ⟨w.heap.size + 1, 4, none⟩ = some (.string ⟨E.s.toArray⟩) ∧ w'.cell? ⟨w.heap.size + 1, 5, none⟩ = some (.slice A E.l.length c) ∧ w'.cell? ⟨w.heap.size + 1 + 1, 0, none⟩ = some (.string ⟨G.op.toArray⟩) ∧ w'.cell? ⟨w.heap.size + 1 + 1, 1, none⟩ = some (.int .i64 G.v.k) ∧ w'.cell? ⟨w.heap.size + 1 + 1, 2, none⟩ = some (.int .i64 G.v.i) ∧ w'.cell? ⟨w.heap.size + 1 + 1, 3, none⟩ = some (.string ⟨G.v.s.toArray⟩) ∧ w'.cell? ⟨w.heap.size + 1 + 1, 4, none⟩ = some (.string ⟨G.s.toArray⟩) ∧ w'.cell? ⟨w.heap.size + 1 + 1, 5, none⟩ = some (.slice B G.l.length d))) := fun w' h => by
    have k := kX.below h kX.lt
    have q := kE.below h kE.lt
    have r := kG.below h kG.lt
    exact ⟨k.cell 0, k.cell 1, k.cell 2, k.cell 3, k.cell 4, k.cell 5, k.cell 6, k.cell 7, k.cell 8, k.cell 9, k.cell 10, k.cell 11, q.cell 0, q.cell 1, q.cell 2, q.cell 3, q.cell 4, q.cell 5, r.cell 0, r.cell 1, r.cell 2, r.cell 3, r.cell 4, r.cell 5⟩
  have HQY : Hid (∀ Y : World, Below W1.heap.size W1 Y → RlQ 1000 X ⟨⟨⟨b1, l1⟩, ⟨b2, l2⟩, ⟨b3, l3⟩, ⟨b4, l4⟩⟩, ⟨b5, l5⟩⟩ (Old Y.heap.size) Y) := fun Y h => hQX.keep (old_keep h h.size)
  have HBF : Hid (∀ Y : World, Below W1.heap.size W1 Y → Below w.heap.size w Y) := fun Y h => hbW.trans (h.mono hbW.size)
  have HCHK : Hid (∀ Y : World, Below W1.heap.size W1 Y → Calls Tryz.prog 11 #[.agg #[.string ⟨X.t.n.toArray⟩, .slice b1 X.t.cols.length l1, .int .i64 X.t.key, .slice b2 X.t.uniq.length l2, .slice b3 X.t.refs.length l3, .string ⟨X.t.chk.op.toArray⟩, .int .i64 X.t.chk.v.k, .int .i64 X.t.chk.v.i, .string ⟨X.t.chk.v.s.toArray⟩, .string ⟨X.t.chk.s.toArray⟩, .slice b4 X.t.chk.l.length l4, .slice b5 X.rows.length l5]] Y (RetChk X Y)) := fun Y h => check7_any X ⟨⟨⟨b1, l1⟩, ⟨b2, l2⟩, ⟨b3, l3⟩, ⟨b4, l4⟩⟩, ⟨b5, l5⟩⟩ Y HST.out.1 HSM.out.2.1 HST.out.2 (HQY.out Y h)
  have hps : ¬ E.op = [] → ¬ G.op = [] → _ := both_sum (x := X) (e := E) (g := G)
  have hsa := where_sub X.t.cols X.rows E
  have hsb := where_sub X.t.cols (whereX X.t.cols X.rows E).1 G
  have hsc := where_sub X.t.cols X.rows (.mk opAnd V.zero [] [E, G])
  have hsd := where_sub X.t.cols X.rows (.mk opOr V.zero [] [E, G])
  have hso := where_sub X.t.cols X.rows G
  obtain ⟨RA, hRA⟩ : ∃ R, whereX X.t.cols X.rows E = R := ⟨_, rfl⟩
  rw [hRA] at hps hsa hsb
  obtain ⟨La, fa⟩ := RA
  simp only at hps hsa hsb
  obtain ⟨RB, hRB⟩ : ∃ R, whereX X.t.cols La G = R := ⟨_, rfl⟩
  obtain ⟨RC, hRC⟩ : ∃ R, whereX X.t.cols X.rows (.mk opAnd V.zero [] [E, G]) = R := ⟨_, rfl⟩
  obtain ⟨RD, hRD⟩ : ∃ R, whereX X.t.cols X.rows (.mk opOr V.zero [] [E, G]) = R := ⟨_, rfl⟩
  obtain ⟨RO, hRO⟩ : ∃ R, whereX X.t.cols X.rows G = R := ⟨_, rfl⟩
  rw [hRB, hRC, hRD, hRO] at hps
  rw [hRB] at hsb
  rw [hRC] at hsc
  rw [hRD] at hsd
  rw [hRO] at hso
  obtain ⟨Lb, fb⟩ := RB
  obtain ⟨Lc, fc⟩ := RC
  obtain ⟨Ld, fd⟩ := RD
  obtain ⟨Lo, fo⟩ := RO
  have hX1000 : X.rows.length ≤ 1000 := HSM.out.2.1
  have HPS := Lib.hid hps
  have HSA := Lib.hid hsa
  have HSB := Lib.hid hsb
  have HSC := Lib.hid hsc
  have HSD := Lib.hid hsd
  have HSO := Lib.hid hso
  have hsmA : Rl.small ⟨X.t, La⟩ := ⟨HSM.out.1, by show La.length ≤ 1000; have := hsa.1; omega, fun r hr => HSM.out.2.2 r (hsa.2 r hr)⟩
  have HSMA := Lib.hid hsmA
  have HWA : Hid (∀ Y : World, Below W1.heap.size W1 Y → Calls Tryz.prog 10 #[.agg #[.string ⟨X.t.n.toArray⟩, .slice b1 X.t.cols.length l1, .int .i64 X.t.key, .slice b2 X.t.uniq.length l2, .slice b3 X.t.refs.length l3, .string ⟨X.t.chk.op.toArray⟩, .int .i64 X.t.chk.v.k, .int .i64 X.t.chk.v.i, .string ⟨X.t.chk.v.s.toArray⟩, .string ⟨X.t.chk.s.toArray⟩, .slice b4 X.t.chk.l.length l4, .slice b5 X.rows.length l5], .agg #[.string ⟨E.op.toArray⟩, .int .i64 E.v.k, .int .i64 E.v.i, .string ⟨E.v.s.toArray⟩, .string ⟨E.s.toArray⟩, .slice A E.l.length c]] Y (RetRows (La, fa) Y)) := fun Y h => by
    obtain ⟨n, hn⟩ := hER.at_ (fun b h => h) h
    have := where_any X ⟨⟨⟨b1, l1⟩, ⟨b2, l2⟩, ⟨b3, l3⟩, ⟨b4, l4⟩⟩, ⟨b5, l5⟩⟩ E A c n Y HSM.out (HQY.out Y h) hER.1 hn
    rw [hRA] at this
    exact this
  have HWB : Hid (∀ (Y : World) (A1 : Option Addr) (c1 : Nat), RQ La A1 (Old Y.heap.size) Y → Below W1.heap.size W1 Y → Calls Tryz.prog 10 #[.agg #[.string ⟨X.t.n.toArray⟩, .slice b1 X.t.cols.length l1, .int .i64 X.t.key, .slice b2 X.t.uniq.length l2, .slice b3 X.t.refs.length l3, .string ⟨X.t.chk.op.toArray⟩, .int .i64 X.t.chk.v.k, .int .i64 X.t.chk.v.i, .string ⟨X.t.chk.v.s.toArray⟩, .string ⟨X.t.chk.s.toArray⟩, .slice b4 X.t.chk.l.length l4, .slice A1 La.length c1], .agg #[.string ⟨G.op.toArray⟩, .int .i64 G.v.k, .int .i64 G.v.i, .string ⟨G.v.s.toArray⟩, .string ⟨G.s.toArray⟩, .slice B G.l.length d]] Y (RetRows (Lb, fb) Y)) := fun Y A1 c1 hA h => by
    obtain ⟨n, hn⟩ := hGR.at_ (fun b h => h) h
    have := where_any ⟨X.t, La⟩ ⟨⟨⟨b1, l1⟩, ⟨b2, l2⟩, ⟨b3, l3⟩, ⟨b4, l4⟩⟩, ⟨A1, c1⟩⟩ G B d n Y HSMA.out ⟨(HQY.out Y h).1, hA⟩ hGR.1 hn
    rw [show whereX (Rl.mk X.t La).t.cols (Rl.mk X.t La).rows G = (Lb, fb) from hRB] at this
    exact this
  have HWC : Hid (∀ (Y : World) (g : Nat), Blk Y g 29 #[.string ⟨E.op.toArray⟩, .int .i64 E.v.k, .int .i64 E.v.i, .string ⟨E.v.s.toArray⟩, .string ⟨E.s.toArray⟩, .slice A E.l.length c, .string ⟨G.op.toArray⟩, .int .i64 G.v.k, .int .i64 G.v.i, .string ⟨G.v.s.toArray⟩, .string ⟨G.s.toArray⟩, .slice B G.l.length d] → Below W1.heap.size W1 Y → Calls Tryz.prog 10 #[.agg #[.string ⟨X.t.n.toArray⟩, .slice b1 X.t.cols.length l1, .int .i64 X.t.key, .slice b2 X.t.uniq.length l2, .slice b3 X.t.refs.length l3, .string ⟨X.t.chk.op.toArray⟩, .int .i64 X.t.chk.v.k, .int .i64 X.t.chk.v.i, .string ⟨X.t.chk.v.s.toArray⟩, .string ⟨X.t.chk.s.toArray⟩, .slice b4 X.t.chk.l.length l4, .slice b5 X.rows.length l5], .agg #[.string ⟨#[97, 110, 100]⟩, .int .i64 0, .int .i64 0, .string ⟨#[]⟩, .string ⟨#[]⟩, .slice (some ⟨g, 0, none⟩) 2 2]] Y (RetRows (Lc, fc) Y)) := fun Y g hk h => by
    obtain ⟨n1, hn1⟩ := hER.at_ (fun b h => h) h
    obtain ⟨n2, hn2⟩ := hGR.at_ (fun b h => h) h
    have hS : ExS 1000 (n1 + n2 + 1) Y Y.heap.size (some ⟨g, 0, none⟩) [E, G] := exS_two hk hER.1 hER.2.1 hER.2.2.1 (exS_ups hn1 n2) hGR.1 hGR.2.1 hGR.2.2.1 (by rw [Nat.add_comm]; exact exS_ups hn2 n1)
    have := where_any X ⟨⟨⟨b1, l1⟩, ⟨b2, l2⟩, ⟨b3, l3⟩, ⟨b4, l4⟩⟩, ⟨b5, l5⟩⟩ (.mk opAnd V.zero [] [E, G]) (some ⟨g, 0, none⟩) 2 (n1 + n2 + 1) Y HSM.out (HQY.out Y h) ⟨zero_in, by simp [Ex.op, opAnd], by simp [Ex.s], by simp [Ex.v, V.zero]⟩ hS
    rw [hRC] at this
    exact this
  have HWD : Hid (∀ (Y : World) (g : Nat), Blk Y g 29 #[.string ⟨E.op.toArray⟩, .int .i64 E.v.k, .int .i64 E.v.i, .string ⟨E.v.s.toArray⟩, .string ⟨E.s.toArray⟩, .slice A E.l.length c, .string ⟨G.op.toArray⟩, .int .i64 G.v.k, .int .i64 G.v.i, .string ⟨G.v.s.toArray⟩, .string ⟨G.s.toArray⟩, .slice B G.l.length d] → Below W1.heap.size W1 Y → Calls Tryz.prog 10 #[.agg #[.string ⟨X.t.n.toArray⟩, .slice b1 X.t.cols.length l1, .int .i64 X.t.key, .slice b2 X.t.uniq.length l2, .slice b3 X.t.refs.length l3, .string ⟨X.t.chk.op.toArray⟩, .int .i64 X.t.chk.v.k, .int .i64 X.t.chk.v.i, .string ⟨X.t.chk.v.s.toArray⟩, .string ⟨X.t.chk.s.toArray⟩, .slice b4 X.t.chk.l.length l4, .slice b5 X.rows.length l5], .agg #[.string ⟨#[111, 114]⟩, .int .i64 0, .int .i64 0, .string ⟨#[]⟩, .string ⟨#[]⟩, .slice (some ⟨g, 0, none⟩) 2 2]] Y (RetRows (Ld, fd) Y)) := fun Y g hk h => by
    obtain ⟨n1, hn1⟩ := hER.at_ (fun b h => h) h
    obtain ⟨n2, hn2⟩ := hGR.at_ (fun b h => h) h
    have hS : ExS 1000 (n1 + n2 + 1) Y Y.heap.size (some ⟨g, 0, none⟩) [E, G] := exS_two hk hER.1 hER.2.1 hER.2.2.1 (exS_ups hn1 n2) hGR.1 hGR.2.1 hGR.2.2.1 (by rw [Nat.add_comm]; exact exS_ups hn2 n1)
    have := where_any X ⟨⟨⟨b1, l1⟩, ⟨b2, l2⟩, ⟨b3, l3⟩, ⟨b4, l4⟩⟩, ⟨b5, l5⟩⟩ (.mk opOr V.zero [] [E, G]) (some ⟨g, 0, none⟩) 2 (n1 + n2 + 1) Y HSM.out (HQY.out Y h) ⟨zero_in, by simp [Ex.op, opOr], by simp [Ex.s], by simp [Ex.v, V.zero]⟩ hS
    rw [hRD] at this
    exact this
  have HWO : Hid (∀ Y : World, Below W1.heap.size W1 Y → Calls Tryz.prog 10 #[.agg #[.string ⟨X.t.n.toArray⟩, .slice b1 X.t.cols.length l1, .int .i64 X.t.key, .slice b2 X.t.uniq.length l2, .slice b3 X.t.refs.length l3, .string ⟨X.t.chk.op.toArray⟩, .int .i64 X.t.chk.v.k, .int .i64 X.t.chk.v.i, .string ⟨X.t.chk.v.s.toArray⟩, .string ⟨X.t.chk.s.toArray⟩, .slice b4 X.t.chk.l.length l4, .slice b5 X.rows.length l5], .agg #[.string ⟨G.op.toArray⟩, .int .i64 G.v.k, .int .i64 G.v.i, .string ⟨G.v.s.toArray⟩, .string ⟨G.s.toArray⟩, .slice B G.l.length d]] Y (RetRows (Lo, fo) Y)) := fun Y h => by
    obtain ⟨n, hn⟩ := hGR.at_ (fun b h => h) h
    have := where_any X ⟨⟨⟨b1, l1⟩, ⟨b2, l2⟩, ⟨b3, l3⟩, ⟨b4, l4⟩⟩, ⟨b5, l5⟩⟩ G B d n Y HSM.out (HQY.out Y h) hGR.1 hn
    rw [hRO] at this
    exact this
  have hb1W1 : Below W1.heap.size W1 W1 := Below.refl _ _
  clear hps hsa hsb hsc hsd hso hsmA hRA hRB hRC hRD hRO hQX hER hGR hbW kX kE kG HFW HFX HFG HSH HFZ kx0 ke0 kg0 HB0
  obtain ⟨q0, q1, q2, q3, q4, q5, q6, q7, q8, q9, q10, q11, q12, q13, q14, q15, q16, q17, q18, q19, q20, q21, q22, q23⟩ := HSX.out W1 hb1W1
  go_wp2_with fail
  refine (HWA.out W1 hb1W1).mono ?_
  rintro en Y1 ⟨A1, c1, rfl, _, _, hR1, hby1⟩
  have hb1Y1 : Below W1.heap.size W1 Y1 := hb1W1.trans (hby1.mono hb1W1.size)
  have HR1 := Lib.hid hR1
  clear hR1 q0 q1 q2 q3 q4 q5 q6 q7 q8 q9 q10 q11 q12 q13 q14 q15 q16 q17 q18 q19 q20 q21 q22 q23
  obtain ⟨q0, q1, q2, q3, q4, q5, q6, q7, q8, q9, q10, q11, q12, q13, q14, q15, q16, q17, q18, q19, q20, q21, q22, q23⟩ := HSX.out Y1 hb1Y1
  have hqa : RQ La A1 (Old Y1.heap.size) Y1 := HR1.out.keep fun b hb => ⟨hb.2, fun _ => rfl⟩
  have HB1 := Lib.hid (HWB.out Y1 A1 c1 hqa hb1Y1)
  clear hqa
  go_wp2_with fail
  refine HB1.out.mono ?_
  rintro en Y2 ⟨A2, c2, rfl, _, _, hR2, hby2⟩
  have hb1Y2 : Below W1.heap.size W1 Y2 := hb1Y1.trans (hby2.mono hb1Y1.size)
  have HR2 := Lib.hid hR2
  clear hR2 HB1 q0 q1 q2 q3 q4 q5 q6 q7 q8 q9 q10 q11 q12 q13 q14 q15 q16 q17 q18 q19 q20 q21 q22 q23
  obtain ⟨q0, q1, q2, q3, q4, q5, q6, q7, q8, q9, q10, q11, q12, q13, q14, q15, q16, q17, q18, q19, q20, q21, q22, q23⟩ := HSX.out Y2 hb1Y2
  obtain ⟨V3, hV3⟩ : ∃ V, Y2.alloc (.cells #[.string ⟨E.op.toArray⟩, .int .i64 E.v.k, .int .i64 E.v.i, .string ⟨E.v.s.toArray⟩, .string ⟨E.s.toArray⟩, .slice A E.l.length c, .string ⟨G.op.toArray⟩, .int .i64 G.v.k, .int .i64 G.v.i, .string ⟨G.v.s.toArray⟩, .string ⟨G.s.toArray⟩, .slice B G.l.length d] 29) = V := ⟨_, rfl⟩
  have kv3 : Blk V3 Y2.heap.size 29 #[.string ⟨E.op.toArray⟩, .int .i64 E.v.k, .int .i64 E.v.i, .string ⟨E.v.s.toArray⟩, .string ⟨E.s.toArray⟩, .slice A E.l.length c, .string ⟨G.op.toArray⟩, .int .i64 G.v.k, .int .i64 G.v.i, .string ⟨G.v.s.toArray⟩, .string ⟨G.s.toArray⟩, .slice B G.l.length d] := by rw [← hV3]; exact Blk.new _ _ _
  have hv3 : Below Y2.heap.size Y2 V3 := by rw [← hV3]; ((with_reducible repeat' (first | exact Below.refl _ _ | assumption | refine Below.drew ?_ | refine below_drewN ?_ _ | refine Below.setCell ?_ ?_ _ | refine Below.alloc ?_ ?_ _ | refine Below.trans ?_ (Below.mono (by assumption) ?_))) <;> first | (simp; done) | (simp; omega) | omega)
  have hb1v3 : Below W1.heap.size W1 V3 := hb1Y2.trans (hv3.mono hb1Y2.size)
  have HC3 := Lib.hid (HWC.out V3 _ kv3 hb1v3)
  have HV3 := Lib.hid hV3
  clear hV3 kv3
  go_wp2_with fail
  rw [HV3.out]
  refine HC3.out.mono ?_
  rintro en Y3 ⟨A3, c3, rfl, _, _, hR3, hbz3⟩
  have hb1Y3 : Below W1.heap.size W1 Y3 := hb1v3.trans (hbz3.mono hb1v3.size)
  have hby3 : Below Y2.heap.size Y2 Y3 := hv3.trans (hbz3.mono hv3.size)
  have HR3 := Lib.hid hR3
  clear HC3 HV3 hR3 q0 q1 q2 q3 q4 q5 q6 q7 q8 q9 q10 q11 q12 q13 q14 q15 q16 q17 q18 q19 q20 q21 q22 q23
  obtain ⟨q0, q1, q2, q3, q4, q5, q6, q7, q8, q9, q10, q11, q12, q13, q14, q15, q16, q17, q18, q19, q20, q21, q22, q23⟩ := HSX.out Y3 hb1Y3
  obtain ⟨V4, hV4⟩ : ∃ V, Y3.alloc (.cells #[.string ⟨E.op.toArray⟩, .int .i64 E.v.k, .int .i64 E.v.i, .string ⟨E.v.s.toArray⟩, .string ⟨E.s.toArray⟩, .slice A E.l.length c, .string ⟨G.op.toArray⟩, .int .i64 G.v.k, .int .i64 G.v.i, .string ⟨G.v.s.toArray⟩, .string ⟨G.s.toArray⟩, .slice B G.l.length d] 29) = V := ⟨_, rfl⟩
  have kv4 : Blk V4 Y3.heap.size 29 #[.string ⟨E.op.toArray⟩, .int .i64 E.v.k, .int .i64 E.v.i, .string ⟨E.v.s.toArray⟩, .string ⟨E.s.toArray⟩, .slice A E.l.length c, .string ⟨G.op.toArray⟩, .int .i64 G.v.k, .int .i64 G.v.i, .string ⟨G.v.s.toArray⟩, .string ⟨G.s.toArray⟩, .slice B G.l.length d] := by rw [← hV4]; exact Blk.new _ _ _
  have hv4 : Below Y3.heap.size Y3 V4 := by rw [← hV4]; ((with_reducible repeat' (first | exact Below.refl _ _ | assumption | refine Below.drew ?_ | refine below_drewN ?_ _ | refine Below.setCell ?_ ?_ _ | refine Below.alloc ?_ ?_ _ | refine Below.trans ?_ (Below.mono (by assumption) ?_))) <;> first | (simp; done) | (simp; omega) | omega)
  have hb1v4 : Below W1.heap.size W1 V4 := hb1Y3.trans (hv4.mono hb1Y3.size)
  have HC4 := Lib.hid (HWD.out V4 _ kv4 hb1v4)
  have HV4 := Lib.hid hV4
  clear hV4 kv4
  go_wp2_with fail
  rw [HV4.out]
  refine HC4.out.mono ?_
  rintro en Y4 ⟨A4, c4, rfl, _, _, hR4, hbz4⟩
  have hb1Y4 : Below W1.heap.size W1 Y4 := hb1v4.trans (hbz4.mono hb1v4.size)
  have hby4 : Below Y3.heap.size Y3 Y4 := hv4.trans (hbz4.mono hv4.size)
  have HR4 := Lib.hid hR4
  clear HC4 HV4 hR4 q0 q1 q2 q3 q4 q5 q6 q7 q8 q9 q10 q11 q12 q13 q14 q15 q16 q17 q18 q19 q20 q21 q22 q23
  obtain ⟨q0, q1, q2, q3, q4, q5, q6, q7, q8, q9, q10, q11, q12, q13, q14, q15, q16, q17, q18, q19, q20, q21, q22, q23⟩ := HSX.out Y4 hb1Y4
  go_wp2_with fail
  refine (HWO.out Y4 hb1Y4).mono ?_
  rintro en Y5 ⟨A5, c5, rfl, _, _, hR5, hby5⟩
  have hb1Y5 : Below W1.heap.size W1 Y5 := hb1Y4.trans (hby5.mono hb1Y4.size)
  have HR5 := Lib.hid hR5
  clear hR5 q0 q1 q2 q3 q4 q5 q6 q7 q8 q9 q10 q11 q12 q13 q14 q15 q16 q17 q18 q19 q20 q21 q22 q23
  obtain ⟨q0, q1, q2, q3, q4, q5, q6, q7, q8, q9, q10, q11, q12, q13, q14, q15, q16, q17, q18, q19, q20, q21, q22, q23⟩ := HSX.out Y5 hb1Y5
  by_cases ho : E.op = []
  · have o1 : (E.op == []) = true := by rw [ho]; rfl
    have o2 : E.op.isEmpty = true := by rw [ho]; rfl
    clear ho
    go_wp2_with fail
    refine (awake7_any _).mono ?_
    rintro en w9 ⟨rfl, hb9⟩
    go_wp2_with fail
    go_ret
    exact ⟨rfl, HBF.out _ (hb1Y5.trans (hb9.mono hb1Y5.size))⟩
  have o1 : (E.op == []) = false := by rw [beq_eq_false_iff_ne]; exact ho
  have o2 : E.op.isEmpty = false := by cases he : E.op with | nil => exact absurd he ho | cons _ _ => rfl
  by_cases hg : G.op = []
  · have o3 : (G.op == []) = true := by rw [hg]; rfl
    have o4 : G.op.isEmpty = true := by rw [hg]; rfl
    clear ho hg
    go_wp2_with fail
    refine (awake7_any _).mono ?_
    rintro en w9 ⟨rfl, hb9⟩
    go_wp2_with fail
    go_ret
    exact ⟨rfl, HBF.out _ (hb1Y5.trans (hb9.mono hb1Y5.size))⟩
  have o3 : (G.op == []) = false := by rw [beq_eq_false_iff_ne]; exact hg
  have o4 : G.op.isEmpty = false := by cases he : G.op with | nil => exact absurd he hg | cons _ _ => rfl
  by_cases hfa : fa = 0
  case neg =>
    have e1 : (fa != 0) = true := by simpa using hfa
    clear hfa  ho hg
    go_wp2_with fail
    refine (awake7_any _).mono ?_
    rintro en w9 ⟨rfl, hb9⟩
    go_wp2_with fail
    go_ret
    exact ⟨rfl, HBF.out _ (hb1Y5.trans (hb9.mono hb1Y5.size))⟩
  by_cases hfb : fb = 0
  case neg =>
    have e1 : (fb != 0) = true := by simpa using hfb
    have ea : (fa != 0) = false := by simpa using hfa
    clear hfb hfa ho hg
    go_wp2_with fail
    refine (awake7_any _).mono ?_
    rintro en w9 ⟨rfl, hb9⟩
    go_wp2_with fail
    go_ret
    exact ⟨rfl, HBF.out _ (hb1Y5.trans (hb9.mono hb1Y5.size))⟩
  by_cases hfc : fc = 0
  case neg =>
    have e1 : (fc != 0) = true := by simpa using hfc
    have ea : (fa != 0) = false := by simpa using hfa
    have eb : (fb != 0) = false := by simpa using hfb
    clear hfc hfa hfb ho hg
    go_wp2_with fail
    refine (awake7_any _).mono ?_
    rintro en w9 ⟨rfl, hb9⟩
    go_wp2_with fail
    go_ret
    exact ⟨rfl, HBF.out _ (hb1Y5.trans (hb9.mono hb1Y5.size))⟩
  by_cases hfd : fd = 0
  case neg =>
    have e1 : (fd != 0) = true := by simpa using hfd
    have ea : (fa != 0) = false := by simpa using hfa
    have eb : (fb != 0) = false := by simpa using hfb
    have ec : (fc != 0) = false := by simpa using hfc
    clear hfd hfa hfb hfc ho hg
    go_wp2_with fail
    refine (awake7_any _).mono ?_
    rintro en w9 ⟨rfl, hb9⟩
    go_wp2_with fail
    go_ret
    exact ⟨rfl, HBF.out _ (hb1Y5.trans (hb9.mono hb1Y5.size))⟩
  by_cases hfo : fo = 0
  case neg =>
    have e1 : (fo != 0) = true := by simpa using hfo
    have ea : (fa != 0) = false := by simpa using hfa
    have eb : (fb != 0) = false := by simpa using hfb
    have ec : (fc != 0) = false := by simpa using hfc
    have ed : (fd != 0) = false := by simpa using hfd
    clear hfo hfa hfb hfc hfd ho hg
    go_wp2_with fail
    refine (awake7_any _).mono ?_
    rintro en w9 ⟨rfl, hb9⟩
    go_wp2_with fail
    go_ret
    exact ⟨rfl, HBF.out _ (hb1Y5.trans (hb9.mono hb1Y5.size))⟩
  subst hfa
  subst hfb
  subst hfc
  subst hfd
  subst hfo
  have HPS2 := Lib.hid (HPS.out ho hg rfl rfl rfl rfl rfl)
  clear ho hg HPS
  go_wp2_with fail
  refine (HCHK.out Y5 hb1Y5).mono ?_
  rintro en Y6 ⟨n, rfl, hn, hb6⟩
  have hb1Y6 : Below W1.heap.size W1 Y6 := hb1Y5.trans (hb6.mono hb1Y5.size)
  clear hn q0 q1 q2 q3 q4 q5 q6 q7 q8 q9 q10 q11 q12 q13 q14 q15 q16 q17 q18 q19 q20 q21 q22 q23 HCHK HWA HWB HWC HWD HWO
  obtain ⟨q0, q1, q2, q3, q4, q5, q6, q7, q8, q9, q10, q11, q12, q13, q14, q15, q16, q17, q18, q19, q20, q21, q22, q23⟩ := HSX.out Y6 hb1Y6
  by_cases hn0 : n = 0
  case neg =>
    have e1 : (n != 0) = true := by simpa using hn0
    clear hn0
    go_wp2_with fail
    refine (awake7_any _).mono ?_
    rintro en w9 ⟨rfl, hb9⟩
    go_wp2_with fail
    go_ret
    exact ⟨rfl, HBF.out _ (hb1Y6.trans (hb9.mono hb1Y6.size))⟩
  subst hn0
  obtain ⟨hsame, hsum⟩ := HPS2.out
  try simp only at hsame hsum
  subst hsame
  have h2 := HSA.out.1
  have h3 := HSC.out.1
  have h4 := HSD.out.1
  have h5 := HSO.out.1
  try simp only at h2 h3 h4 h5
  have b36 : Below Y3.heap.size Y3 Y6 := ((hby4.trans (hby5.mono hby4.size))).trans (hb6.mono (Nat.le_trans hby4.size hby5.size))
  have b26 : Below Y2.heap.size Y2 Y6 := hby3.trans (b36.mono hby3.size)
  have hA2 : RQ Lb A2 (Old Y6.heap.size) Y6 := HR2.out.keep fun b hb => ⟨Nat.lt_of_lt_of_le hb.2 b26.size, fun o => b26.cell (p := ⟨b, o, none⟩) hb.2⟩
  have hA3 : RQ Lb A3 (Old Y6.heap.size) Y6 := HR3.out.keep fun b hb => ⟨Nat.lt_of_lt_of_le hb.2 b36.size, fun o => b36.cell (p := ⟨b, o, none⟩) hb.2⟩
  have hlm : ∀ r ∈ Lb, r.length ≤ maxLen := fun r hr => (small_len HSM.out).2 r (HSC.out.2 r hr)
  have hsr := sameRows_any A2 A3 c2 c3 Lb Lb Y6 (by omega) (by omega) hA2 hA3 hlm hlm
  rw [rowsSame_self] at hsr
  have HSR := Lib.hid hsr
  have e1 : IntKind.i64.wrap ((La.length : Int) + (Lo.length : Int)) = ((La.length : Int) + (Lo.length : Int)) := IntWalk.i64_in _ (by omega)
  have e2 : IntKind.i64.wrap ((La.length : Int) + (Lo.length : Int) - (Lb.length : Int)) = (Ld.length : Int) := by rw [IntWalk.i64_in _ (by omega)]; omega
  clear hsum hsr hA2 hA3 hlm HPS2 q0 q1 q2 q3 q4 q5 q6 q7 q8 q9 q10 q11 q12 q13 q14 q15 q16 q17 q18 q19 q20 q21 q22 q23
  go_wp2_with fail
  refine HSR.out.mono ?_
  rintro en Y7 ⟨rfl, hb7⟩
  have hb1Y7 : Below W1.heap.size W1 Y7 := hb1Y6.trans (hb7.mono hb1Y6.size)
  go_wp2_with fail
  refine (awake7_any _).mono ?_
  rintro en w9 ⟨rfl, hb9⟩
  go_wp2_with fail
  go_ret
  exact ⟨rfl, HBF.out _ (hb1Y7.trans (hb9.mono hb1Y7.size))⟩

open Go.ChangeShapes Go.WideShapes Go.ChangeAt
set_option maxRecDepth 100000 in
theorem relBoth_lifted (os : Os) (started : os.Started) (H : Type) (enc : TypeId × Value → H) :
    ReturnsInHanded {} Tryz.checked os 4 .any (Rows.relBothSpec.pre6 enc Tryz.prog Tryz.f4 Rows.relBothRow.domain false) (Rows.relBothSpec.post enc Tryz.prog Tryz.f4 false true false false) := by
  refine returnsInHanded_of_change (C := Tryz.checked) own started (by kernel_rfl) Tryz.func4
    (ChangeSpec.witness6 (enc := enc) (C := Tryz.checked) false ⟨#[], #[.agg #[.string ⟨#[]⟩, .slice none 0 0, .int .i64 0, .slice none 0 0, .slice none 0 0, .string ⟨#[]⟩, .int .i64 0, .int .i64 0, .string ⟨#[]⟩, .string ⟨#[]⟩, .slice none 0 0, .slice none 0 0], .agg #[.string ⟨#[]⟩, .int .i64 0, .int .i64 0, .string ⟨#[]⟩, .string ⟨#[]⟩, .slice none 0 0], .agg #[.string ⟨#[]⟩, .int .i64 0, .int .i64 0, .string ⟨#[]⟩, .string ⟨#[]⟩, .slice none 0 0]], []⟩ 8 (by kernel_rfl) (by kernel_rfl) (by kernel_rfl) (by kernel_rfl)) ?_
  intro W base args ds gs before hval0 hW hcnd _
  have hval : ∀ (j : Nat) t v, Tryz.f4.params[j]? = some t → args[j]? = some v → Value.okWide Tryz.prog W .any base t v := hval0
  have hW' := hW
  obtain ⟨p, q, hA0, hV, rfl, hfz, hnd⟩ := hW
  have hA : DataW.TrodAll enc Tryz.prog W 0 (fun _ => true) true Tryz.f4.params.toList args.toList ds p := hA0
  rw [Tryz.params4] at hA hval
  obtain ⟨v0, vs0, d0, ds0, p0, q0, hargs, rfl, rfl, h0, r0⟩ := trodAll_cons hA
  have k0 := h0
  have lt0 : ∀ x ∈ p0, x.block < W.heap.size := by obtain ⟨m, hm⟩ := k0; exact DataW.trod_lt m _ _ _ hm
  obtain ⟨v1, vs1, d1, ds1, p1, q1, rfl, rfl, rfl, h1, r1⟩ := trodAll_cons r0
  have k1 := h1
  have lt1 : ∀ x ∈ p1, x.block < W.heap.size := by obtain ⟨m, hm⟩ := k1; exact DataW.trod_lt m _ _ _ hm
  obtain ⟨v2, vs2, d2, ds2, p2, q2, rfl, rfl, rfl, h2, r2⟩ := trodAll_cons r1
  have k2 := h2
  have lt2 : ∀ x ∈ p2, x.block < W.heap.size := by obtain ⟨m, hm⟩ := k2; exact DataW.trod_lt m _ _ _ hm
  obtain ⟨rfl, rfl, rfl⟩ := trodAll_nil r2
  obtain rfl : args = #[v0, v1, v2] := by cases args; simp_all
  obtain ⟨rfl, rfl⟩ := trodVars_none hV
  obtain ⟨x, p, rfl, hx, hq⟩ := open_rl (hval 0 34 v0 rfl rfl) h0
  obtain ⟨e, A0, c0, n0, rfl, hf, hl, hl', hE⟩ := open_ex (hval 1 29 v1 rfl rfl) h1
  obtain ⟨g, B0, d0, m0, rfl, hf2, hm, hm', hG⟩ := open_ex (hval 2 29 v2 rfl rfl) h2
  clear hA0 hval0
  refine (relBoth_walk x p e g A0 B0 c0 n0 d0 m0 W hx hq hf (Nat.le_trans hl hl') hE hf2 (Nat.le_trans hm hm') hG).mono fun e W' ⟨he, bel⟩ => ?_
  subst he
  exact ⟨_, rfl, _, _, _, [], _, [], hW', trodAll_mk1 (shut_bool Tryz.underlying4 _), (trodAll_cons_mk (Below.trod laidOut (by kernel_rfl) (of_decide_eq_true (by kernel_rfl)) k0 bel lt0) (trodAll_cons_mk (Below.trod laidOut (by kernel_rfl) (of_decide_eq_true (by kernel_rfl)) k1 bel lt1) (trodAll_cons_mk (Below.trod laidOut (by kernel_rfl) (of_decide_eq_true (by kernel_rfl)) k2 bel lt2) trodAll_mk0))), rfl, bel.frame _, fun h => by cases h⟩

theorem relBoth_over : Rows.relBothRow.holds Tryz.pinned (OpenSpec.ofChange Rows.relBothSpec) :=
  OpenClaim.holds_of_wide 4 Tryz.f4 rfl rfl rfl rfl rfl rfl rfl ⟨rfl, rfl, rfl, rfl, rfl⟩ rfl rfl rfl rfl rfl (by kernel_rfl) Tryz.func4 (by kernel_rfl)
    (of_decide_eq_true (by kernel_rfl)) (by unfold Func.isWrapper; first | (rw [if_pos (by decide +kernel)]; kernel_rfl) | (rw [if_neg (by decide +kernel)]; exact ⟨rfl, rfl⟩))
    (fun os started H enc _ => relBoth_lifted os started H enc)

theorem relBoth_holds : Rows.RelBothSaid := relBoth_over
#print axioms relBoth_holds

end Go.Proofs.YtdhjogmkhbpcgaaGreat
