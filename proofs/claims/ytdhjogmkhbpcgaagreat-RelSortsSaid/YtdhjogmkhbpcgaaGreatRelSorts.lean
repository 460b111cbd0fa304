/- RelSorts. Condition: none but that the arguments read as a table with rows and an expression. -/
import Derived.Test.YtdhjogmkhbpcgaaGreatTake
import Derived.Test.YtdhjogmkhbpcgaaGreatSomeM
import Derived.Test.YtdhjogmkhbpcgaaGreatRelSort
import Derived.Test.YtdhjogmkhbpcgaaGreatR7c
import Derived.Test.YtdhjogmkhbpcgaaGreatR7d
import Derived.Test.YtdhjogmkhbpcgaaGreatSame7
import Derived.Test.YtdhjogmkhbpcgaaGreatFewM
import Derived.Test.YtdhjogmkhbpcgaaGreatFewLaw
import Derived.Test.YtdhjogmkhbpcgaaGreatRelCkM
import Derived.Test.YtdhjogmkhbpcgaaGreatOpenM
import Derived.Deep.CutBlock
import Derived.Deep.DeepCutAuto
import Derived.Deep.RegionWith
import Derived.IntWalk
namespace Go.Proofs.YtdhjogmkhbpcgaaGreat
open Go.RowKit

attribute [local go_sem] ByteArray.extract_mk ba_get ba_append
attribute [local go_sem ↓] Go.wp_at_zero Go.wp_at_succ run_eql_V run_neq_V

theorem put6s {w : World} {r : Nat} {ty : TypeId} {v0 v1 v2 v3 v4 v5 u0 u1 u2 u3 u4 u5 : Value} (hk : Blk w r ty #[u0, u1, u2, u3, u4, u5]) : Blk ((((((w.setCell ⟨r, 0, none⟩ (v0)).setCell ⟨r, 1, none⟩ (v1)).setCell ⟨r, 2, none⟩ (v2)).setCell ⟨r, 3, none⟩ (v3)).setCell ⟨r, 4, none⟩ (v4)).setCell ⟨r, 5, none⟩ (v5)) r ty #[v0, v1, v2, v3, v4, v5] ∧ But r w ((((((w.setCell ⟨r, 0, none⟩ (v0)).setCell ⟨r, 1, none⟩ (v1)).setCell ⟨r, 2, none⟩ (v2)).setCell ⟨r, 3, none⟩ (v3)).setCell ⟨r, 4, none⟩ (v4)).setCell ⟨r, 5, none⟩ (v5)) :=
  ⟨by simpa using ((((((hk.set_ 0 v0).set_ 1 v1).set_ 2 v2).set_ 3 v3).set_ 4 v4).set_ 5 v5), (((((((But.refl r w).set 0 _).set 1 _).set 2 _).set 3 _).set 4 _).set 5 _)⟩
theorem RlQ.upToS {K : Nat} {x : Rl} {p : RlP} {w w' : World} {B B' : Nat} (h : RlQ K x p (fun b => B ≤ b ∧ b < w.heap.size) w) (hb : Below w.heap.size w w') (hB : B' ≤ B) : RlQ K x p (fun b => B' ≤ b ∧ b < w'.heap.size) w' :=
  h.keep fun b hb' => ⟨⟨Nat.le_trans hB hb'.1, Nat.lt_of_lt_of_le hb'.2 hb.size⟩, fun o => hb.cell (p := ⟨b, o, none⟩) hb'.2⟩
theorem ExR.upToS {e : Ex} {A : Option Addr} {c : Nat} {w w' : World} {B B' : Nat} (h : ExR (fun b => B ≤ b ∧ b < w.heap.size) e A c w) (hb : Below w.heap.size w w') (hB : B' ≤ B) : ExR (fun b => B' ≤ b ∧ b < w'.heap.size) e A c w' :=
  h.keep fun b hb' => ⟨⟨Nat.le_trans hB hb'.1, Nat.lt_of_lt_of_le hb'.2 hb.size⟩, fun o => hb.cell (p := ⟨b, o, none⟩) hb'.2⟩
/-- What lies in the variables after the first line. -/
def QSt (w : World) (r0 r1 : Nat) (tr te : TypeId) (X : Rl) (E : Ex) (wx : World) : Prop := ∃ b1 l1 b2 l2 b3 l3 b4 l4 b5 l5 A c, Blk wx r0 tr #[.string ⟨X.t.n.toArray⟩, .slice b1 X.t.cols.length l1, .int .i64 X.t.key, .slice b2 X.t.uniq.length l2, .slice b3 X.t.refs.length l3, .string ⟨X.t.chk.op.toArray⟩, .int .i64 X.t.chk.v.k, .int .i64 X.t.chk.v.i, .string ⟨X.t.chk.v.s.toArray⟩, .string ⟨X.t.chk.s.toArray⟩, .slice b4 X.t.chk.l.length l4, .slice b5 X.rows.length l5] ∧ Blk wx r1 te #[.string ⟨E.op.toArray⟩, .int .i64 E.v.k, .int .i64 E.v.i, .string ⟨E.v.s.toArray⟩, .string ⟨E.s.toArray⟩, .slice A E.l.length c] ∧
  RlQ 1000 X ⟨⟨⟨b1, l1⟩, ⟨b2, l2⟩, ⟨b3, l3⟩, ⟨b4, l4⟩⟩, ⟨b5, l5⟩⟩ (Old wx.heap.size) wx ∧ ExR (Old wx.heap.size) E A c wx ∧ Below w.heap.size w wx
theorem sorts_fin {w wL : World} {r0 r1 B : Nat} {tr te : TypeId} {X : Rl} {E : Ex} {b1 b2 b3 b4 b5 A : Option Addr} {l1 l2 l3 l4 l5 c : Nat} {u0 u1 u2 u3 u4 u5 u6 u7 u8 u9 u10 u11 y0 y1 y2 y3 y4 y5 : Value} (hw : Below w.heap.size w wL) (h0 : w.heap.size ≤ r0) (h1 : r0 < r1) (h2 : r1 < B)
    (k0 : Blk wL r0 tr #[u0, u1, u2, u3, u4, u5, u6, u7, u8, u9, u10, u11]) (k1 : Blk wL r1 te #[y0, y1, y2, y3, y4, y5])
    (hQ : RlQ 1000 X ⟨⟨⟨b1, l1⟩, ⟨b2, l2⟩, ⟨b3, l3⟩, ⟨b4, l4⟩⟩, ⟨b5, l5⟩⟩ (fun b => B ≤ b ∧ b < wL.heap.size) wL) (hE : ExR (fun b => B ≤ b ∧ b < wL.heap.size) E A c wL) : QSt w r0 r1 tr te X E ((((((((((((((((((wL.setCell ⟨r0, 0, none⟩ (.string ⟨X.t.n.toArray⟩)).setCell ⟨r0, 1, none⟩ (.slice b1 X.t.cols.length l1)).setCell ⟨r0, 2, none⟩ (.int .i64 X.t.key)).setCell ⟨r0, 3, none⟩ (.slice b2 X.t.uniq.length l2)).setCell ⟨r0, 4, none⟩ (.slice b3 X.t.refs.length l3)).setCell ⟨r0, 5, none⟩ (.string ⟨X.t.chk.op.toArray⟩)).setCell ⟨r0, 6, none⟩ (.int .i64 X.t.chk.v.k)).setCell ⟨r0, 7, none⟩ (.int .i64 X.t.chk.v.i)).setCell ⟨r0, 8, none⟩ (.string ⟨X.t.chk.v.s.toArray⟩)).setCell ⟨r0, 9, none⟩ (.string ⟨X.t.chk.s.toArray⟩)).setCell ⟨r0, 10, none⟩ (.slice b4 X.t.chk.l.length l4)).setCell ⟨r0, 11, none⟩ (.slice b5 X.rows.length l5)).setCell ⟨r1, 0, none⟩ (.string ⟨E.op.toArray⟩)).setCell ⟨r1, 1, none⟩ (.int .i64 E.v.k)).setCell ⟨r1, 2, none⟩ (.int .i64 E.v.i)).setCell ⟨r1, 3, none⟩ (.string ⟨E.v.s.toArray⟩)).setCell ⟨r1, 4, none⟩ (.string ⟨E.s.toArray⟩)).setCell ⟨r1, 5, none⟩ (.slice A E.l.length c)) := by
  have p1 : Blk ((((((((((((wL.setCell ⟨r0, 0, none⟩ (.string ⟨X.t.n.toArray⟩)).setCell ⟨r0, 1, none⟩ (.slice b1 X.t.cols.length l1)).setCell ⟨r0, 2, none⟩ (.int .i64 X.t.key)).setCell ⟨r0, 3, none⟩ (.slice b2 X.t.uniq.length l2)).setCell ⟨r0, 4, none⟩ (.slice b3 X.t.refs.length l3)).setCell ⟨r0, 5, none⟩ (.string ⟨X.t.chk.op.toArray⟩)).setCell ⟨r0, 6, none⟩ (.int .i64 X.t.chk.v.k)).setCell ⟨r0, 7, none⟩ (.int .i64 X.t.chk.v.i)).setCell ⟨r0, 8, none⟩ (.string ⟨X.t.chk.v.s.toArray⟩)).setCell ⟨r0, 9, none⟩ (.string ⟨X.t.chk.s.toArray⟩)).setCell ⟨r0, 10, none⟩ (.slice b4 X.t.chk.l.length l4)).setCell ⟨r0, 11, none⟩ (.slice b5 X.rows.length l5)) r0 tr #[.string ⟨X.t.n.toArray⟩, .slice b1 X.t.cols.length l1, .int .i64 X.t.key, .slice b2 X.t.uniq.length l2, .slice b3 X.t.refs.length l3, .string ⟨X.t.chk.op.toArray⟩, .int .i64 X.t.chk.v.k, .int .i64 X.t.chk.v.i, .string ⟨X.t.chk.v.s.toArray⟩, .string ⟨X.t.chk.s.toArray⟩, .slice b4 X.t.chk.l.length l4, .slice b5 X.rows.length l5] ∧ But r0 wL ((((((((((((wL.setCell ⟨r0, 0, none⟩ (.string ⟨X.t.n.toArray⟩)).setCell ⟨r0, 1, none⟩ (.slice b1 X.t.cols.length l1)).setCell ⟨r0, 2, none⟩ (.int .i64 X.t.key)).setCell ⟨r0, 3, none⟩ (.slice b2 X.t.uniq.length l2)).setCell ⟨r0, 4, none⟩ (.slice b3 X.t.refs.length l3)).setCell ⟨r0, 5, none⟩ (.string ⟨X.t.chk.op.toArray⟩)).setCell ⟨r0, 6, none⟩ (.int .i64 X.t.chk.v.k)).setCell ⟨r0, 7, none⟩ (.int .i64 X.t.chk.v.i)).setCell ⟨r0, 8, none⟩ (.string ⟨X.t.chk.v.s.toArray⟩)).setCell ⟨r0, 9, none⟩ (.string ⟨X.t.chk.s.toArray⟩)).setCell ⟨r0, 10, none⟩ (.slice b4 X.t.chk.l.length l4)).setCell ⟨r0, 11, none⟩ (.slice b5 X.rows.length l5)) := put12 k0
  generalize ((((((((((((wL.setCell ⟨r0, 0, none⟩ (.string ⟨X.t.n.toArray⟩)).setCell ⟨r0, 1, none⟩ (.slice b1 X.t.cols.length l1)).setCell ⟨r0, 2, none⟩ (.int .i64 X.t.key)).setCell ⟨r0, 3, none⟩ (.slice b2 X.t.uniq.length l2)).setCell ⟨r0, 4, none⟩ (.slice b3 X.t.refs.length l3)).setCell ⟨r0, 5, none⟩ (.string ⟨X.t.chk.op.toArray⟩)).setCell ⟨r0, 6, none⟩ (.int .i64 X.t.chk.v.k)).setCell ⟨r0, 7, none⟩ (.int .i64 X.t.chk.v.i)).setCell ⟨r0, 8, none⟩ (.string ⟨X.t.chk.v.s.toArray⟩)).setCell ⟨r0, 9, none⟩ (.string ⟨X.t.chk.s.toArray⟩)).setCell ⟨r0, 10, none⟩ (.slice b4 X.t.chk.l.length l4)).setCell ⟨r0, 11, none⟩ (.slice b5 X.rows.length l5)) = wM at *
  obtain ⟨m0, m1⟩ := p1
  have m2 := m1.blk k1 (by omega)
  have p2 : Blk ((((((wM.setCell ⟨r1, 0, none⟩ (.string ⟨E.op.toArray⟩)).setCell ⟨r1, 1, none⟩ (.int .i64 E.v.k)).setCell ⟨r1, 2, none⟩ (.int .i64 E.v.i)).setCell ⟨r1, 3, none⟩ (.string ⟨E.v.s.toArray⟩)).setCell ⟨r1, 4, none⟩ (.string ⟨E.s.toArray⟩)).setCell ⟨r1, 5, none⟩ (.slice A E.l.length c)) r1 te #[.string ⟨E.op.toArray⟩, .int .i64 E.v.k, .int .i64 E.v.i, .string ⟨E.v.s.toArray⟩, .string ⟨E.s.toArray⟩, .slice A E.l.length c] ∧ But r1 wM ((((((wM.setCell ⟨r1, 0, none⟩ (.string ⟨E.op.toArray⟩)).setCell ⟨r1, 1, none⟩ (.int .i64 E.v.k)).setCell ⟨r1, 2, none⟩ (.int .i64 E.v.i)).setCell ⟨r1, 3, none⟩ (.string ⟨E.v.s.toArray⟩)).setCell ⟨r1, 4, none⟩ (.string ⟨E.s.toArray⟩)).setCell ⟨r1, 5, none⟩ (.slice A E.l.length c)) := put6s m2
  generalize ((((((wM.setCell ⟨r1, 0, none⟩ (.string ⟨E.op.toArray⟩)).setCell ⟨r1, 1, none⟩ (.int .i64 E.v.k)).setCell ⟨r1, 2, none⟩ (.int .i64 E.v.i)).setCell ⟨r1, 3, none⟩ (.string ⟨E.v.s.toArray⟩)).setCell ⟨r1, 4, none⟩ (.string ⟨E.s.toArray⟩)).setCell ⟨r1, 5, none⟩ (.slice A E.l.length c)) = wF at *
  obtain ⟨n0, n1⟩ := p2
  have z1 := m1.size
  have z2 := n1.size
  have hk : ∀ b, (B ≤ b ∧ b < wL.heap.size) → Old wF.heap.size b ∧ ∀ o, wF.cell? ⟨b, o, none⟩ = wL.cell? ⟨b, o, none⟩ := fun b hb => ⟨by show b < _; omega, fun o => (n1.cell (by omega) (by omega) o).trans (m1.cell hb.2 (by omega) o)⟩
  have hbw : Below w.heap.size w wM := But.inside hw h0 m1
  exact ⟨b1, l1, b2, l2, b3, l3, b4, l4, b5, l5, A, c, n1.blk m0 (by omega), n0, hQ.keep hk, hE.keep hk, But.inside hbw (by omega) n1⟩
theorem fewFoldLs (f : Int → Ex → Ex × Int) : ∀ (l : List Ex) (left : Int), (fewFold f l left).1.length ≤ l.length
  | [], _ => Nat.le_refl _
  | x :: r, left => by
    unfold fewFold
    split
    · have := fewFoldLs f r (f left x).2
      simp only [List.length_cons]
      omega
    · simp
theorem fewXLs (e : Ex) : (fewX e).l.length ≤ 3 := by
  have h := fewFoldLs (fewE 13) (e.l.take 3) (80 - 1)
  have h2 : (e.l.take 3).length ≤ 3 := List.length_take_le _ _
  exact Nat.le_trans h h2
theorem fewTbS {x : Rl} (h : x.big) : x.few.t.small := by
  obtain ⟨_, _, _, _, _, _, hc, _, _, _⟩ := h
  refine ⟨?_, ?_, ?_, ?_, ?_, ?_, fewX_fit x.t.chk hc.1, ?_⟩
  · exact Nat.le_trans (List.length_take_le _ _) (by omega)
  · exact Nat.le_trans (fewCols_len _) (by omega)
  · intro c hc
    have hc' : c ∈ fewCols x.t.cols := hc
    unfold fewCols at hc'
    rw [List.mem_map] at hc'
    obtain ⟨d, _, rfl⟩ := hc'
    simp only [fewC, List.length_take]
    omega
  · exact Nat.le_trans (List.length_take_le _ _) (by omega)
  · show ((x.t.refs.take 10).map fun r => (⟨r.c, r.t.take 20⟩ : Fr)).length ≤ 1000
    rw [List.length_map, List.length_take]
    omega
  · intro r hr
    have hr' : r ∈ (x.t.refs.take 10).map fun r => (⟨r.c, r.t.take 20⟩ : Fr) := hr
    rw [List.mem_map] at hr'
    obtain ⟨d, _, rfl⟩ := hr'
    simp only [List.length_take]
    omega
  · have := fewXLs x.t.chk
    show (fewX x.t.chk).l.length ≤ maxLen
    unfold maxLen
    omega
theorem fewTextS {x : Rl} (h : x.big) : x.few.t.small ∧ ∀ r ∈ x.few.rows, r.length ≤ 1000 ∧ ∀ v ∈ r, fitI v.i ∧ v.s.length ≤ 1000 := by
  refine ⟨fewTbS h, fun r hm => ?_⟩
  obtain ⟨h1, h2⟩ := (few_small h).2.2 r hm
  refine ⟨h1, fun v hv => ⟨h2 v hv, ?_⟩⟩
  have hm' : r ∈ (x.rows.take (if 200 < x.rows.length then 201 else 40)).map fewL := hm
  rw [List.mem_map] at hm'
  obtain ⟨s, _, rfl⟩ := hm'
  unfold fewL at hv
  rw [List.mem_map] at hv
  obtain ⟨u, _, rfl⟩ := hv
  simp only [fewV, List.length_take]
  omega
theorem big_of {X : Rl} (h : X.t.small) (hs : X.small) : X.big := by
  obtain ⟨h1, h2, h3, h4, h5, h6, h7, h8⟩ := h
  obtain ⟨_, g2, g3⟩ := hs
  have k : 1000 ≤ maxLen := by unfold maxLen; omega
  exact ⟨Nat.le_trans h1 k, Nat.le_trans h2 k, fun c hc => Nat.le_trans (h3 c hc) k, Nat.le_trans h4 k, Nat.le_trans h5 k, fun c hc => Nat.le_trans (h6 c hc) k, fit_up k h7, h8, Nat.le_trans g2 k, fun r hr => ⟨Nat.le_trans (g3 r hr).1 k, (g3 r hr).2⟩⟩
theorem where_rows (cols : List Col) (rows : List (List V)) (e : Ex) : (whereX cols rows e).1.length ≤ rows.length := by
  rw [where_cond]
  split
  · simp
  · exact List.length_filter_le _ _
theorem where_len {cols : List Col} {rows : List (List V)} {e : Ex} {r : List V} (h : r ∈ (whereX cols rows e).1) {n : Nat} (hn : ∀ r ∈ rows, r.length ≤ n) : r.length ≤ n := by
  rw [where_cond] at h
  split at h
  · simp at h
  · exact hn r (List.mem_filter.1 h).1
set_option maxRecDepth 100000 in
set_option maxHeartbeats 32000000 in
theorem relSorts_walk (x : Rl) (p : RlP) (e : Ex) (A0 : Option Addr) (c0 n0 : Nat) (w : World) (hs : x.big) (hQ : RlQ maxLen x p (Old w.heap.size) w) (hf : e.fit maxLen) (hl : e.l.length ≤ maxLen) (hE : ExS maxLen n0 w w.heap.size A0 e.l) :
    Calls Tryz.prog 5 #[.agg (x.cells p).toArray, .agg (e.cells A0 c0).toArray] w (Ret (.bool true) w) := by
  obtain ⟨⟨⟨a1, k1⟩, ⟨a2, k2⟩, ⟨a3, k3⟩, ⟨a4, k4⟩⟩, ⟨a5, k5⟩⟩ := p
  obtain ⟨w0, hw0⟩ : ∃ w0, (w.alloc (.cells #[.string ⟨x.t.n.toArray⟩, .slice a1 x.t.cols.length k1, .int .i64 x.t.key, .slice a2 x.t.uniq.length k2, .slice a3 x.t.refs.length k3, .string ⟨x.t.chk.op.toArray⟩, .int .i64 x.t.chk.v.k, .int .i64 x.t.chk.v.i, .string ⟨x.t.chk.v.s.toArray⟩, .string ⟨x.t.chk.s.toArray⟩, .slice a4 x.t.chk.l.length k4, .slice a5 x.rows.length k5] 34)).alloc (.cells #[.string ⟨e.op.toArray⟩, .int .i64 e.v.k, .int .i64 e.v.i, .string ⟨e.v.s.toArray⟩, .string ⟨e.s.toArray⟩, .slice A0 e.l.length c0] 29) = w0 := ⟨_, rfl⟩
  have kx0 : Blk w0 w.heap.size 34 #[.string ⟨x.t.n.toArray⟩, .slice a1 x.t.cols.length k1, .int .i64 x.t.key, .slice a2 x.t.uniq.length k2, .slice a3 x.t.refs.length k3, .string ⟨x.t.chk.op.toArray⟩, .int .i64 x.t.chk.v.k, .int .i64 x.t.chk.v.i, .string ⟨x.t.chk.v.s.toArray⟩, .string ⟨x.t.chk.s.toArray⟩, .slice a4 x.t.chk.l.length k4, .slice a5 x.rows.length k5] := by rw [← hw0]; exact (Blk.new _ _ _).alloc _
  have ke0 : Blk w0 (w.heap.size + 1) 29 #[.string ⟨e.op.toArray⟩, .int .i64 e.v.k, .int .i64 e.v.i, .string ⟨e.v.s.toArray⟩, .string ⟨e.s.toArray⟩, .slice A0 e.l.length c0] := by rw [← hw0]; exact Blk.new' _ _ _ _ (by simp)
  have hb0 : Below w.heap.size w w0 := by rw [← hw0]; exact bl
  have hz0 := hb0.size
  have hl1 : w.heap.size + 1 < w0.heap.size := ke0.lt
  have HSH : Hid (∀ w' : World, Below w0.heap.size w0 w' → (w'.cell? ⟨w.heap.size, 0, none⟩ = some (.string ⟨x.t.n.toArray⟩) ∧ w'.cell? ⟨w.heap.size, 1, none⟩ = some (.slice a1 x.t.cols.length k1) ∧ w'.cell? ⟨w.heap.size, 2, none⟩ = some (.int .i64 x.t.key) ∧ w'.cell? ⟨w.heap.size, 3, none⟩ = some (.slice a2 x.t.uniq.length k2) ∧ w'.cell? ⟨w.heap.size, 4, none⟩ = some (.slice a3 x.t.refs.length k3) ∧ w'.cell? ⟨w.heap.size, 5, none⟩ = some (.string ⟨x.t.chk.op.toArray⟩) ∧ w'.cell? ⟨w.heap.size, 6, none⟩ = some (.int .i64 x.t.chk.v.k) ∧ w'.cell? ⟨w.heap.size, 7, none⟩ = some (.int .i64 x.t.chk.v.i) ∧ w'.cell? ⟨w.heap.size, 8, none⟩ = some (.string ⟨x.t.chk.v.s.toArray⟩) ∧ w'.cell? ⟨w.heap.size, 9, none⟩ = some (.string ⟨x.t.chk.s.toArray⟩) ∧ w'.cell? ⟨w.heap.size, 10, none⟩ = some (.slice a4 x.t.chk.l.length k4) ∧ w'.cell? ⟨w.heap.size, 11, none⟩ = some (.slice a5 x.rows.length k5) ∧ w'.cell? ⟨w.heap.size + 1, 0, none⟩ = some (.string ⟨e.op.toArray⟩) ∧ w'.cell? ⟨w.heap.size + 1, 1, none⟩ = some (.int .i64 e.v.k) ∧ w'.cell? ⟨w.heap.size + 1, 2, none⟩ = some (.int .i64 e.v.i) ∧ w'.cell? ⟨w.heap.size + 1, 3, none⟩ = some (.string ⟨e.v.s.toArray⟩) ∧ w'.cell? ⟨w.heap.size + 1, 4, none⟩ = some (.string ⟨e.s.toArray⟩) ∧ w'.cell? ⟨w.heap.size + 1, 5, none⟩ = some (.slice A0 e.l.length c0))) := fun w' h => by
    have k := kx0.below h kx0.lt
    have q := ke0.below h ke0.lt
    exact ⟨k.cell 0, k.cell 1, k.cell 2, k.cell 3, k.cell 4, k.cell 5, k.cell 6, k.cell 7, k.cell 8, k.cell 9, k.cell 10, k.cell 11, q.cell 0, q.cell 1, q.cell 2, q.cell 3, q.cell 4, q.cell 5⟩
  have HFZ : Hid (∀ w' : World, Below w0.heap.size w0 w' → ∀ i, w'.frozen? ⟨w.heap.size, i, none⟩ = false ∧ w'.frozen? ⟨w.heap.size + 1, i, none⟩ = false) := fun w' h i => ⟨(kx0.below h kx0.lt).frozen i, (ke0.below h ke0.lt).frozen i⟩
  have hwx : ∀ Y : World, Below w0.heap.size w0 Y → Below w.heap.size w Y := fun Y h => hb0.trans (h.mono hz0)
  have HFW : Hid (∀ Y : World, Below w0.heap.size w0 Y → Calls Tryz.prog 8 #[.agg #[.string ⟨x.t.n.toArray⟩, .slice a1 x.t.cols.length k1, .int .i64 x.t.key, .slice a2 x.t.uniq.length k2, .slice a3 x.t.refs.length k3, .string ⟨x.t.chk.op.toArray⟩, .int .i64 x.t.chk.v.k, .int .i64 x.t.chk.v.i, .string ⟨x.t.chk.v.s.toArray⟩, .string ⟨x.t.chk.s.toArray⟩, .slice a4 x.t.chk.l.length k4, .slice a5 x.rows.length k5]] Y (RetRl x.few Y)) := fun Y h => few7_any x ⟨⟨⟨a1, k1⟩, ⟨a2, k2⟩, ⟨a3, k3⟩, ⟨a4, k4⟩⟩, ⟨a5, k5⟩⟩ Y hs (hQ.keep (old_keep (hwx Y h) (hwx Y h).size))
  have HFX : Hid (∀ Y : World, Below w0.heap.size w0 Y → Calls Tryz.prog 9 #[.agg #[.string ⟨e.op.toArray⟩, .int .i64 e.v.k, .int .i64 e.v.i, .string ⟨e.v.s.toArray⟩, .string ⟨e.s.toArray⟩, .slice A0 e.l.length c0]] Y (RetFewX (fewX e) Y)) := fun Y h => fewX_any e A0 c0 n0 Y hf hl ((hE.below n0 (hwx Y h)).more (hwx Y h).size n0)
  have hsm := few_small hs
  have hst := fewTextS hs
  have hsl : x.few.t.chk.slim := fewX_slim x.t.chk
  have hag := few_again x
  obtain ⟨X, hX⟩ : ∃ X, x.few = X := ⟨_, rfl⟩
  obtain ⟨E, hEE⟩ : ∃ E, fewX e = E := ⟨_, rfl⟩
  rw [hX] at HFW hsm hst hsl hag
  rw [hEE] at HFX
  have HSM := Lib.hid hsm
  have HSL := Lib.hid hsl
  have HAG := Lib.hid hag
  have HST := Lib.hid hst
  have HW := Lib.hid hw0
  have HB0 := Lib.hid hb0
  have kx00 := kx0
  have ke00 := ke0
  dsimp only [Rl.cells, Ex.cells]
  clear hw0 hX hEE hsm hst hsl hag hQ hE hf hl hs hwx
  obtain ⟨q0, q1, q2, q3, q4, q5, q6, q7, q8, q9, q10, q11, q12, q13, q14, q15, q16, q17⟩ := HSH.out w0 (Below.refl _ _)
  go_enter Tryz.func5, Tryz.ntmps5
  go_upto_region 1 with fail
  rw [HW.out]
  clear HW
  go_cut [] (fun wx => QSt w w.heap.size (w.heap.size + 1) 34 29 X E wx)
  case first =>
    go_region_with (first
      | (go_at_call 8; refine (HFW.out _ (by exact bl)).mono ?_; rintro en w1 ⟨⟨⟨⟨b1, l1⟩, ⟨b2, l2⟩, ⟨b3, l3⟩, ⟨b4, l4⟩⟩, ⟨b5, l5⟩⟩, rfl, hQ1, _, _, hb1⟩; dsimp only [Rl.cells]; have hz1 := hb1.size; (try simp at hz1); have hW1 : Below w0.heap.size w0 w1 := (by exact bl); clear q0 q1 q2 q3 q4 q5 q6 q7 q8 q9 q10 q11 q12 q13 q14 q15 q16 q17; obtain ⟨q0, q1, q2, q3, q4, q5, q6, q7, q8, q9, q10, q11, q12, q13, q14, q15, q16, q17⟩ := HSH.out w1 hW1; have hfz := HFZ.out w1 hW1)
      | (go_at_call 9; refine (HFX.out _ (by exact bl)).mono ?_; rintro en w3 ⟨A, c, rfl, hE3, hb3⟩; dsimp only [Ex.cells]; have hz3 := hb3.size; (try simp at hz3); have hW3 : Below w0.heap.size w0 w3 := (by exact bl); clear q0 q1 q2 q3 q4 q5 q6 q7 q8 q9 q10 q11 q12 q13 q14 q15 q16 q17; obtain ⟨q0, q1, q2, q3, q4, q5, q6, q7, q8, q9, q10, q11, q12, q13, q14, q15, q16, q17⟩ := HSH.out w3 hW3; have hfz := HFZ.out w3 hW3))
    all_goals
      go_wp2_with fail
      go_meet
      exact sorts_fin (B := w0.heap.size) (HB0.out.trans (Below.mono (by exact bl) hz0)) (Nat.le_refl _) (Nat.lt_succ_self _) hl1 (kx00.below (B := w0.heap.size) (by exact bl) kx00.lt) (ke00.below (B := w0.heap.size) (by exact bl) ke00.lt) (RlQ.upToS hQ1 (by exact bl) (by first | (simp; done) | (simp; omega) | omega)) (ExR.upToS hE3 (by exact bl) (by first | (simp; done) | (simp; omega) | omega))
  obtain ⟨b1, l1, b2, l2, b3, l3, b4, l4, b5, l5, A, c, kX, kE, hQX, hER, hbW⟩ := hcut
  obtain ⟨W1, rfl⟩ : ∃ W, W = wc := ⟨_, rfl⟩
  have HSX : Hid (∀ w' : World, Below W1.heap.size W1 w' → (w'.cell? ⟨w.heap.size, 0, none⟩ = some (.string ⟨X.t.n.toArray⟩) ∧ w'.cell? ⟨w.heap.size, 1, none⟩ = some (.slice b1 X.t.cols.length l1) ∧ w'.cell? ⟨w.heap.size, 2, none⟩ = some (.int .i64 X.t.key) ∧ w'.cell? ⟨w.heap.size, 3, none⟩ = some (.slice b2 X.t.uniq.length l2) ∧ w'.cell? ⟨w.heap.size, 4, none⟩ = some (.slice b3 X.t.refs.length l3) ∧ w'.cell? ⟨w.heap.size, 5, none⟩ = some (.string ⟨X.t.chk.op.toArray⟩) ∧ w'.cell? ⟨w.heap.size, 6, none⟩ = some (.int .i64 X.t.chk.v.k) ∧ w'.cell? ⟨w.heap.size, 7, none⟩ = some (.int .i64 X.t.chk.v.i) ∧ w'.cell? ⟨w.heap.size, 8, none⟩ = some (.string ⟨X.t.chk.v.s.toArray⟩) ∧ w'.cell? ⟨w.heap.size, 9, none⟩ = some (.string ⟨X.t.chk.s.toArray⟩) ∧ w'.cell? ⟨w.heap.size, 10, none⟩ = some (.slice b4 X.t.chk.l.length l4) ∧ w'.cell? ⟨w.heap.size, 11, none⟩ = some (.slice b5 X.rows.length l5) ∧ w'.cell? ⟨w.heap.size + 1, 0, none⟩ = some (.string ⟨E.op.toArray⟩) ∧ w'.cell? ⟨w.heap.size + 1, 1, none⟩ = some (.int .i64 E.v.k) ∧ w'.cell? ⟨w.heap.size + 1, 2, none⟩ = some (.int .i64 E.v.i) ∧ w'.cell? ⟨w.heap.size + 1, 3, none⟩ = some (.string ⟨E.v.s.toArray⟩) ∧ w'.cell? ⟨w.heap.size + 1, 4, none⟩ = some (.string ⟨E.s.toArray⟩) ∧ w'.cell? ⟨w.heap.size + 1, 5, none⟩ = some (.slice A E.l.length c))) := fun w' h => by
    have k := kX.below h kX.lt
    have q := kE.below h kE.lt
    exact ⟨k.cell 0, k.cell 1, k.cell 2, k.cell 3, k.cell 4, k.cell 5, k.cell 6, k.cell 7, k.cell 8, k.cell 9, k.cell 10, k.cell 11, q.cell 0, q.cell 1, q.cell 2, q.cell 3, q.cell 4, q.cell 5⟩
  have HQY : Hid (∀ Y : World, Below W1.heap.size W1 Y → RlQ 1000 X ⟨⟨⟨b1, l1⟩, ⟨b2, l2⟩, ⟨b3, l3⟩, ⟨b4, l4⟩⟩, ⟨b5, l5⟩⟩ (Old Y.heap.size) Y) := fun Y h => hQX.keep (old_keep h h.size)
  have HBF : Hid (∀ Y : World, Below W1.heap.size W1 Y → Below w.heap.size w Y) := fun Y h => hbW.trans (h.mono hbW.size)
  have HTB := HST.out.1
  have hbig : X.big := big_of HTB HSM.out
  have HFF : Hid (∀ Y : World, Below W1.heap.size W1 Y → Calls Tryz.prog 8 #[.agg #[.string ⟨X.t.n.toArray⟩, .slice b1 X.t.cols.length l1, .int .i64 X.t.key, .slice b2 X.t.uniq.length l2, .slice b3 X.t.refs.length l3, .string ⟨X.t.chk.op.toArray⟩, .int .i64 X.t.chk.v.k, .int .i64 X.t.chk.v.i, .string ⟨X.t.chk.v.s.toArray⟩, .string ⟨X.t.chk.s.toArray⟩, .slice b4 X.t.chk.l.length l4, .slice b5 X.rows.length l5]] Y (RetRl X Y)) := fun Y h => by
    have := few7_any X ⟨⟨⟨b1, l1⟩, ⟨b2, l2⟩, ⟨b3, l3⟩, ⟨b4, l4⟩⟩, ⟨b5, l5⟩⟩ Y hbig ((HQY.out Y h).fitUp (by unfold maxLen; omega))
    rw [HAG.out] at this
    exact this
  have hb1W1 : Below W1.heap.size W1 W1 := Below.refl _ _
  have HSA : Hid (∀ Y : World, Below W1.heap.size W1 Y → Calls Tryz.prog 15 #[.agg #[.string ⟨X.t.n.toArray⟩, .slice b1 X.t.cols.length l1, .int .i64 X.t.key, .slice b2 X.t.uniq.length l2, .slice b3 X.t.refs.length l3, .string ⟨X.t.chk.op.toArray⟩, .int .i64 X.t.chk.v.k, .int .i64 X.t.chk.v.i, .string ⟨X.t.chk.v.s.toArray⟩, .string ⟨X.t.chk.s.toArray⟩, .slice b4 X.t.chk.l.length l4, .slice b5 X.rows.length l5]] Y (RetSorted X Y)) := fun Y h => relSort_any X ⟨⟨⟨b1, l1⟩, ⟨b2, l2⟩, ⟨b3, l3⟩, ⟨b4, l4⟩⟩, ⟨b5, l5⟩⟩ Y HTB HSM.out HSL.out (HQY.out Y h)
  have HSD : Hid (∀ Y : World, Below W1.heap.size W1 Y → Calls Tryz.prog 16 #[.agg #[.string ⟨X.t.n.toArray⟩, .slice b1 X.t.cols.length l1, .int .i64 X.t.key, .slice b2 X.t.uniq.length l2, .slice b3 X.t.refs.length l3, .string ⟨X.t.chk.op.toArray⟩, .int .i64 X.t.chk.v.k, .int .i64 X.t.chk.v.i, .string ⟨X.t.chk.v.s.toArray⟩, .string ⟨X.t.chk.s.toArray⟩, .slice b4 X.t.chk.l.length l4, .slice b5 X.rows.length l5]] Y (RetOldSorted X Y)) := fun Y h => sort7_any X ⟨⟨⟨b1, l1⟩, ⟨b2, l2⟩, ⟨b3, l3⟩, ⟨b4, l4⟩⟩, ⟨b5, l5⟩⟩ Y HTB HSM.out.2.1 HST.out.2 (HQY.out Y h)
  have HSS : Hid (∀ (Y : World) (R : List (List V)) (p p' : RlP), SortedOf (ofF X.t) X.rows R → RlQ 1000 ⟨X.t, R⟩ p (Old Y.heap.size) Y → RlQ 1000 ⟨X.t, R⟩ p' (Old Y.heap.size) Y → Calls Tryz.prog 14 #[.agg ((⟨X.t, R⟩ : Rl).cells p).toArray, .agg ((⟨X.t, R⟩ : Rl).cells p').toArray] Y (Ret (.bool true) Y)) := fun Y R p p' h h1 h2 =>
    same7_any ⟨X.t, R⟩ p p' Y HTB ⟨HSM.out.1, by show R.length ≤ _; rw [h.2.1.length_eq]; exact HSM.out.2.1, fun r hr => HSM.out.2.2 r (h.2.1.mem_iff.1 hr)⟩ h1 h2
  obtain ⟨R, hR⟩ : ∃ R, whereX X.t.cols X.rows E = R := ⟨_, rfl⟩
  have HWA : Hid (∀ Y : World, Below W1.heap.size W1 Y → Calls Tryz.prog 10 #[.agg #[.string ⟨X.t.n.toArray⟩, .slice b1 X.t.cols.length l1, .int .i64 X.t.key, .slice b2 X.t.uniq.length l2, .slice b3 X.t.refs.length l3, .string ⟨X.t.chk.op.toArray⟩, .int .i64 X.t.chk.v.k, .int .i64 X.t.chk.v.i, .string ⟨X.t.chk.v.s.toArray⟩, .string ⟨X.t.chk.s.toArray⟩, .slice b4 X.t.chk.l.length l4, .slice b5 X.rows.length l5], .agg #[.string ⟨E.op.toArray⟩, .int .i64 E.v.k, .int .i64 E.v.i, .string ⟨E.v.s.toArray⟩, .string ⟨E.s.toArray⟩, .slice A E.l.length c]] Y (RetRows R Y)) := fun Y h => by
    obtain ⟨n, hn⟩ := hER.at_ (fun b h => h) h
    have := where_any X ⟨⟨⟨b1, l1⟩, ⟨b2, l2⟩, ⟨b3, l3⟩, ⟨b4, l4⟩⟩, ⟨b5, l5⟩⟩ E A c n Y HSM.out (HQY.out Y h) hER.1 hn
    rw [hR] at this
    exact this
  have HWD : Hid (∀ Y : World, Below W1.heap.size W1 Y → Calls Tryz.prog 17 #[.agg #[.string ⟨X.t.n.toArray⟩, .slice b1 X.t.cols.length l1, .int .i64 X.t.key, .slice b2 X.t.uniq.length l2, .slice b3 X.t.refs.length l3, .string ⟨X.t.chk.op.toArray⟩, .int .i64 X.t.chk.v.k, .int .i64 X.t.chk.v.i, .string ⟨X.t.chk.v.s.toArray⟩, .string ⟨X.t.chk.s.toArray⟩, .slice b4 X.t.chk.l.length l4, .slice b5 X.rows.length l5], .agg #[.string ⟨E.op.toArray⟩, .int .i64 E.v.k, .int .i64 E.v.i, .string ⟨E.v.s.toArray⟩, .string ⟨E.s.toArray⟩, .slice A E.l.length c]] Y (RetRows R Y)) := fun Y h => by
    obtain ⟨n, hn⟩ := hER.at_ (fun b h => h) h
    have := where7_any X ⟨⟨⟨b1, l1⟩, ⟨b2, l2⟩, ⟨b3, l3⟩, ⟨b4, l4⟩⟩, ⟨b5, l5⟩⟩ E A c n Y HSM.out (fun r hr v hv => ((HST.out.2 r hr).2 v hv).2) (HQY.out Y h) hER.1 hn
    rw [hR] at this
    exact this
  have HRL : Hid (∀ r ∈ R.1, r.length ≤ maxLen) := fun r hr => by
    rw [← hR] at hr
    have := where_len hr (fun r hr => (HSM.out.2.2 r hr).1)
    unfold maxLen; omega
  have HRN : Hid (R.1.length ≤ 1000) := by
    show _ ≤ _
    rw [← hR]
    exact Nat.le_trans (where_rows X.t.cols X.rows E) HSM.out.2.1
  obtain ⟨RL, rf⟩ := R
  dsimp only at HRL HRN
  clear hQX hbW kX kE HFW HFX HSH HFZ kx0 ke0 kx00 ke00 HB0 hR hbig HAG
  obtain ⟨q0, q1, q2, q3, q4, q5, q6, q7, q8, q9, q10, q11, q12, q13, q14, q15, q16, q17⟩ := HSX.out W1 hb1W1
  go_wp2_with fail
  refine (HFF.out W1 hb1W1).mono ?_
  rintro en W2 ⟨⟨⟨⟨d1, m1⟩, ⟨d2, m2⟩, ⟨d3, m3⟩, ⟨d4, m4⟩⟩, ⟨d5, m5⟩⟩, rfl, hQ2, _, _, hb12⟩
  dsimp only [Rl.cells]
  obtain ⟨W3, hW3⟩ : ∃ W, W2.alloc (.cells #[.string ⟨X.t.n.toArray⟩, .slice d1 X.t.cols.length m1, .int .i64 X.t.key, .slice d2 X.t.uniq.length m2, .slice d3 X.t.refs.length m3, .string ⟨X.t.chk.op.toArray⟩, .int .i64 X.t.chk.v.k, .int .i64 X.t.chk.v.i, .string ⟨X.t.chk.v.s.toArray⟩, .string ⟨X.t.chk.s.toArray⟩, .slice d4 X.t.chk.l.length m4, .slice d5 X.rows.length m5] 34) = W := ⟨_, rfl⟩
  have k23 : Blk W3 W2.heap.size 34 #[.string ⟨X.t.n.toArray⟩, .slice d1 X.t.cols.length m1, .int .i64 X.t.key, .slice d2 X.t.uniq.length m2, .slice d3 X.t.refs.length m3, .string ⟨X.t.chk.op.toArray⟩, .int .i64 X.t.chk.v.k, .int .i64 X.t.chk.v.i, .string ⟨X.t.chk.v.s.toArray⟩, .string ⟨X.t.chk.s.toArray⟩, .slice d4 X.t.chk.l.length m4, .slice d5 X.rows.length m5] := by rw [← hW3]; exact Blk.new _ _ _
  have hb23 : Below W2.heap.size W2 W3 := by rw [← hW3]; exact bl
  have hb13 : Below W1.heap.size W1 W3 := hb12.trans (hb23.mono hb12.size)
  have hz3 := hb23.size
  have l23 := k23.lt
  have HQ3 : Hid (∀ Z : World, Below W3.heap.size W3 Z → RlQ 1000 X ⟨⟨⟨d1, m1⟩, ⟨d2, m2⟩, ⟨d3, m3⟩, ⟨d4, m4⟩⟩, ⟨d5, m5⟩⟩ (Old Z.heap.size) Z) := fun Z hz => hQ2.keep fun b hb => ⟨by have := hz.size; show b < _; omega, fun o => (hz.cell (p := ⟨b, o, none⟩) (show b < _ by omega)).trans (hb23.cell (p := ⟨b, o, none⟩) hb.2)⟩
  have HW3 := Lib.hid hW3
  have HB13 := Lib.hid hb13
  have HSZ : Hid (∀ Z : World, Below W3.heap.size W3 Z → (Z.cell? ⟨w.heap.size, 0, none⟩ = some (.string ⟨X.t.n.toArray⟩) ∧ Z.cell? ⟨w.heap.size, 1, none⟩ = some (.slice b1 X.t.cols.length l1) ∧ Z.cell? ⟨w.heap.size, 2, none⟩ = some (.int .i64 X.t.key) ∧ Z.cell? ⟨w.heap.size, 3, none⟩ = some (.slice b2 X.t.uniq.length l2) ∧ Z.cell? ⟨w.heap.size, 4, none⟩ = some (.slice b3 X.t.refs.length l3) ∧ Z.cell? ⟨w.heap.size, 5, none⟩ = some (.string ⟨X.t.chk.op.toArray⟩) ∧ Z.cell? ⟨w.heap.size, 6, none⟩ = some (.int .i64 X.t.chk.v.k) ∧ Z.cell? ⟨w.heap.size, 7, none⟩ = some (.int .i64 X.t.chk.v.i) ∧ Z.cell? ⟨w.heap.size, 8, none⟩ = some (.string ⟨X.t.chk.v.s.toArray⟩) ∧ Z.cell? ⟨w.heap.size, 9, none⟩ = some (.string ⟨X.t.chk.s.toArray⟩) ∧ Z.cell? ⟨w.heap.size, 10, none⟩ = some (.slice b4 X.t.chk.l.length l4) ∧ Z.cell? ⟨w.heap.size, 11, none⟩ = some (.slice b5 X.rows.length l5)) ∧ (Z.cell? ⟨w.heap.size + 1, 0, none⟩ = some (.string ⟨E.op.toArray⟩) ∧ Z.cell? ⟨w.heap.size + 1, 1, none⟩ = some (.int .i64 E.v.k) ∧ Z.cell? ⟨w.heap.size + 1, 2, none⟩ = some (.int .i64 E.v.i) ∧ Z.cell? ⟨w.heap.size + 1, 3, none⟩ = some (.string ⟨E.v.s.toArray⟩) ∧ Z.cell? ⟨w.heap.size + 1, 4, none⟩ = some (.string ⟨E.s.toArray⟩) ∧ Z.cell? ⟨w.heap.size + 1, 5, none⟩ = some (.slice A E.l.length c)) ∧ Z.cell? ⟨W2.heap.size, 0, none⟩ = some (.string ⟨X.t.n.toArray⟩) ∧ Z.cell? ⟨W2.heap.size, 1, none⟩ = some (.slice d1 X.t.cols.length m1) ∧ Z.cell? ⟨W2.heap.size, 2, none⟩ = some (.int .i64 X.t.key) ∧ Z.cell? ⟨W2.heap.size, 3, none⟩ = some (.slice d2 X.t.uniq.length m2) ∧ Z.cell? ⟨W2.heap.size, 4, none⟩ = some (.slice d3 X.t.refs.length m3) ∧ Z.cell? ⟨W2.heap.size, 5, none⟩ = some (.string ⟨X.t.chk.op.toArray⟩) ∧ Z.cell? ⟨W2.heap.size, 6, none⟩ = some (.int .i64 X.t.chk.v.k) ∧ Z.cell? ⟨W2.heap.size, 7, none⟩ = some (.int .i64 X.t.chk.v.i) ∧ Z.cell? ⟨W2.heap.size, 8, none⟩ = some (.string ⟨X.t.chk.v.s.toArray⟩) ∧ Z.cell? ⟨W2.heap.size, 9, none⟩ = some (.string ⟨X.t.chk.s.toArray⟩) ∧ Z.cell? ⟨W2.heap.size, 10, none⟩ = some (.slice d4 X.t.chk.l.length m4) ∧ Z.cell? ⟨W2.heap.size, 11, none⟩ = some (.slice d5 X.rows.length m5)) := fun Z hz => by
    obtain ⟨q0, q1, q2, q3, q4, q5, q6, q7, q8, q9, q10, q11, q12, q13, q14, q15, q16, q17⟩ := HSX.out Z (HB13.out.trans (hz.mono HB13.out.size))
    have kz := k23.below hz l23
    exact ⟨⟨q0, q1, q2, q3, q4, q5, q6, q7, q8, q9, q10, q11⟩, ⟨q12, q13, q14, q15, q16, q17⟩, kz.cell 0, kz.cell 1, kz.cell 2, kz.cell 3, kz.cell 4, kz.cell 5, kz.cell 6, kz.cell 7, kz.cell 8, kz.cell 9, kz.cell 10, kz.cell 11⟩
  have HBG : Hid (∀ Z : World, Below W3.heap.size W3 Z → Below W1.heap.size W1 Z) := fun Z hz => HB13.out.trans (hz.mono HB13.out.size)
  clear hW3 hQ2 hb23 hb13 k23
  have HSW : Hid (∀ Y : World, Below W3.heap.size W3 Y → Calls Tryz.prog 14 #[.agg #[.string ⟨X.t.n.toArray⟩, .slice b1 X.t.cols.length l1, .int .i64 X.t.key, .slice b2 X.t.uniq.length l2, .slice b3 X.t.refs.length l3, .string ⟨X.t.chk.op.toArray⟩, .int .i64 X.t.chk.v.k, .int .i64 X.t.chk.v.i, .string ⟨X.t.chk.v.s.toArray⟩, .string ⟨X.t.chk.s.toArray⟩, .slice b4 X.t.chk.l.length l4, .slice b5 X.rows.length l5], .agg #[.string ⟨X.t.n.toArray⟩, .slice d1 X.t.cols.length m1, .int .i64 X.t.key, .slice d2 X.t.uniq.length m2, .slice d3 X.t.refs.length m3, .string ⟨X.t.chk.op.toArray⟩, .int .i64 X.t.chk.v.k, .int .i64 X.t.chk.v.i, .string ⟨X.t.chk.v.s.toArray⟩, .string ⟨X.t.chk.s.toArray⟩, .slice d4 X.t.chk.l.length m4, .slice d5 X.rows.length m5]] Y (Ret (.bool true) Y)) := fun Y h =>
    same7_any X ⟨⟨⟨b1, l1⟩, ⟨b2, l2⟩, ⟨b3, l3⟩, ⟨b4, l4⟩⟩, ⟨b5, l5⟩⟩ ⟨⟨⟨d1, m1⟩, ⟨d2, m2⟩, ⟨d3, m3⟩, ⟨d4, m4⟩⟩, ⟨d5, m5⟩⟩ Y HTB HSM.out (HQY.out Y (HBG.out Y h)) (HQ3.out Y h)
  go_upto_region 3 with fail
  rw [HW3.out]
  clear HW3
  go_cut [21] (fun s wx => s = .bool false ∧ Below W3.heap.size W3 wx)
  case first => as_aux_lemma =>
    refine wp_region_held_drew (S := (fun Z => Z.cell? ⟨w.heap.size, 0, none⟩ = some (.string ⟨X.t.n.toArray⟩) ∧ Z.cell? ⟨w.heap.size, 1, none⟩ = some (.slice b1 X.t.cols.length l1) ∧ Z.cell? ⟨w.heap.size, 2, none⟩ = some (.int .i64 X.t.key) ∧ Z.cell? ⟨w.heap.size, 3, none⟩ = some (.slice b2 X.t.uniq.length l2) ∧ Z.cell? ⟨w.heap.size, 4, none⟩ = some (.slice b3 X.t.refs.length l3) ∧ Z.cell? ⟨w.heap.size, 5, none⟩ = some (.string ⟨X.t.chk.op.toArray⟩) ∧ Z.cell? ⟨w.heap.size, 6, none⟩ = some (.int .i64 X.t.chk.v.k) ∧ Z.cell? ⟨w.heap.size, 7, none⟩ = some (.int .i64 X.t.chk.v.i) ∧ Z.cell? ⟨w.heap.size, 8, none⟩ = some (.string ⟨X.t.chk.v.s.toArray⟩) ∧ Z.cell? ⟨w.heap.size, 9, none⟩ = some (.string ⟨X.t.chk.s.toArray⟩) ∧ Z.cell? ⟨w.heap.size, 10, none⟩ = some (.slice b4 X.t.chk.l.length l4) ∧ Z.cell? ⟨w.heap.size, 11, none⟩ = some (.slice b5 X.rows.length l5))) (by kernel_rfl) ?_ (fun hHeld => ?_)
    · try dsimp only
      exact (HSZ.out _ (by exact bl)).1
    refine wpAnyT_start [0, 2] ?_
    iterate 2
      refine wpAnyT_cons (v := ?_) rfl (by kernel_rfl) (by kernel_rfl) (by kernel_rfl) (fun _ _ _ h => h) (Or.inl ⟨by rfl, ?_⟩) (by assumption) ?_
      rotate_left
      · intro wq hSw
        try dsimp only at hSw
        go_simp
        try with_reducible rfl
      try simp only [Act.put, List.getElem_toArray, List.getElem_cons_zero, List.getElem_cons_succ, List.setIfInBounds_toArray, List.set_cons_zero, List.set_cons_succ]
    refine wpAnyT_nil ?_
    refine wpAnyH_ready (rs := [1]) (by kernel_rfl) (by simp) ?_
    refine AllReadyH.cons rfl (fun K hK => ?_) AllReadyH.nil
    go_simp
    (refine (HSA.out _ (HBG.out _ (by exact bl))).mono ?_) <;> rintro en w1 ⟨rows9, hso9, p9, rfl, hQ9, _, _, hb1⟩ <;> have hz1 := hb1.size <;> (try simp at hz1)
    go_wp2_with fail
    refine hK.out _ _ ?_ (fun hHeld => ?_)
    · try dsimp only
      exact (HSZ.out _ (by exact bl)).1
    clear hK K
    try simp only [Act.put, List.getElem_toArray, List.getElem_cons_zero, List.getElem_cons_succ, List.setIfInBounds_toArray, List.set_cons_zero, List.set_cons_succ]
    refine wpAnyH_ready (rs := [3]) (by kernel_rfl) (by simp) ?_
    refine AllReadyH.cons rfl (fun K hK => ?_) AllReadyH.nil
    go_simp
    (refine (HSD.out _ (HBG.out _ (by exact bl))).mono ?_) <;> rintro en w3 ⟨rows8, hso8, p8, rfl, hQ8, hb3⟩ <;> have hz3 := hb3.size <;> (try simp at hz3) <;> obtain rfl := sortedOf_uniq hso9 hso8
    go_wp2_with fail
    refine hK.out _ _ ?_ (fun hHeld => ?_)
    · try dsimp only
      exact (HSZ.out _ (by exact bl)).1
    clear hK K
    try simp only [Act.put, List.getElem_toArray, List.getElem_cons_zero, List.getElem_cons_succ, List.setIfInBounds_toArray, List.set_cons_zero, List.set_cons_succ]
    refine wpAnyH_ready (rs := [4]) (by kernel_rfl) (by simp) ?_
    refine AllReadyH.cons rfl (fun K hK => ?_) AllReadyH.nil
    go_simp
    (refine (HSS.out _ _ p9 p8 hso9 (hQ9.keep fun b hb => ⟨Nat.lt_of_lt_of_le hb.2 hb3.size, fun o => hb3.cell (p := ⟨b, o, none⟩) hb.2⟩) hQ8).mono ?_) <;> rintro en w4 ⟨rfl, hb4⟩ <;> have hz4 := hb4.size <;> (try simp at hz4)
    go_wp2_with fail
    refine hK.out _ _ ?_ (fun hHeld => ?_)
    · try dsimp only
      exact (HSZ.out _ (by exact bl)).1
    clear hK K
    try simp only [Act.put, List.getElem_toArray, List.getElem_cons_zero, List.getElem_cons_succ, List.setIfInBounds_toArray, List.set_cons_zero, List.set_cons_succ]
    refine wpAnyH_take (i := 5) (v := ?_) rfl (by kernel_rfl) (by kernel_rfl) (by kernel_rfl) (fun _ _ _ h => h) (Or.inl ⟨by rfl, ?_⟩) (by assumption) ?_
    rotate_left
    · intro wq hSw
      try dsimp only at hSw
      go_simp
      try with_reducible rfl
    try simp only [Act.put, List.getElem_toArray, List.getElem_cons_zero, List.getElem_cons_succ, List.setIfInBounds_toArray, List.set_cons_zero, List.set_cons_succ]
    refine wpAnyH_done (by kernel_rfl) ?_ _
    go_wp2_with fail
    go_meet
    exact ⟨rfl, by exact bl⟩
  obtain ⟨rfl, hb34⟩ := hcut
  obtain ⟨W4, rfl⟩ : ∃ W, W = wc := ⟨_, rfl⟩
  clear HSA HSD HSS
  obtain ⟨⟨q0, q1, q2, q3, q4, q5, q6, q7, q8, q9, q10, q11⟩, ⟨q12, q13, q14, q15, q16, q17⟩, y0, y1, y2, y3, y4, y5, y6, y7, y8, y9, y10, y11⟩ := HSZ.out W4 hb34
  go_wp2_with fail
  refine (HWA.out W4 (HBG.out W4 hb34)).mono ?_
  rintro en W5 ⟨A1, c1, rfl, _, _, hR1, hb45⟩
  have hb35 : Below W3.heap.size W3 W5 := hb34.trans (hb45.mono hb34.size)
  have HR1 := Lib.hid hR1
  clear hR1 q0 q1 q2 q3 q4 q5 q6 q7 q8 q9 q10 q11 q12 q13 q14 q15 q16 q17 y0 y1 y2 y3 y4 y5 y6 y7 y8 y9 y10 y11
  obtain ⟨⟨q0, q1, q2, q3, q4, q5, q6, q7, q8, q9, q10, q11⟩, ⟨q12, q13, q14, q15, q16, q17⟩, y0, y1, y2, y3, y4, y5, y6, y7, y8, y9, y10, y11⟩ := HSZ.out W5 hb35
  go_wp2_with fail
  refine (HWD.out W5 (HBG.out W5 hb35)).mono ?_
  rintro en W6 ⟨A2, c2, rfl, _, _, hR2, hb56⟩
  have hb36 : Below W3.heap.size W3 W6 := hb35.trans (hb56.mono hb35.size)
  have HSR : Hid (Calls Tryz.prog 13 #[.slice A1 RL.length c1, .slice A2 RL.length c2] W6 (Ret (.bool true) W6)) := by
    have := sameRows_any A1 A2 c1 c2 RL RL W6 (by have := HRN.out; omega) (by have := HRN.out; omega) (HR1.out.keep fun b hb => ⟨by have := hb56.size; show b < _; omega, fun o => hb56.cell (p := ⟨b, o, none⟩) hb.2⟩) (hR2.keep fun b hb => ⟨hb.2, fun _ => rfl⟩) HRL.out HRL.out
    rw [rowsSame_self] at this
    exact this
  clear hR2 HR1 q0 q1 q2 q3 q4 q5 q6 q7 q8 q9 q10 q11 q12 q13 q14 q15 q16 q17 y0 y1 y2 y3 y4 y5 y6 y7 y8 y9 y10 y11
  go_wp2_with fail
  refine HSR.out.mono ?_
  rintro en W7 ⟨rfl, hb67⟩
  have hb37 : Below W3.heap.size W3 W7 := hb36.trans (hb67.mono hb36.size)
  obtain ⟨⟨q0, q1, q2, q3, q4, q5, q6, q7, q8, q9, q10, q11⟩, ⟨q12, q13, q14, q15, q16, q17⟩, y0, y1, y2, y3, y4, y5, y6, y7, y8, y9, y10, y11⟩ := HSZ.out W7 hb37
  go_wp2_with fail
  refine (HSW.out W7 hb37).mono ?_
  rintro en W8 ⟨rfl, hb78⟩
  have hb38 : Below W3.heap.size W3 W8 := hb37.trans (hb78.mono hb37.size)
  clear q0 q1 q2 q3 q4 q5 q6 q7 q8 q9 q10 q11 q12 q13 q14 q15 q16 q17 y0 y1 y2 y3 y4 y5 y6 y7 y8 y9 y10 y11
  go_wp2_with fail
  refine (awake7_any _).mono ?_
  rintro en W9 ⟨rfl, hb9⟩
  go_wp2_with fail
  go_ret
  exact ⟨rfl, HBF.out _ (HBG.out _ (hb38.trans (hb9.mono hb38.size)))⟩

open Go.ChangeShapes Go.WideShapes Go.ChangeAt
set_option maxRecDepth 100000 in
theorem relSorts_lifted (os : Os) (started : os.Started) (H : Type) (enc : TypeId × Value → H) :
    ReturnsInHanded {} Tryz.checked os 5 .any (Rows.relSortsSpec.pre6 enc Tryz.prog Tryz.f5 Rows.relSortsRow.domain false) (Rows.relSortsSpec.post enc Tryz.prog Tryz.f5 false true false false) := by
  refine returnsInHanded_of_change (C := Tryz.checked) own started (by kernel_rfl) Tryz.func5
    (ChangeSpec.witness6 (enc := enc) (C := Tryz.checked) false ⟨#[], #[.agg #[.string ⟨#[]⟩, .slice none 0 0, .int .i64 0, .slice none 0 0, .slice none 0 0, .string ⟨#[]⟩, .int .i64 0, .int .i64 0, .string ⟨#[]⟩, .string ⟨#[]⟩, .slice none 0 0, .slice none 0 0], .agg #[.string ⟨#[]⟩, .int .i64 0, .int .i64 0, .string ⟨#[]⟩, .string ⟨#[]⟩, .slice none 0 0]], []⟩ 8 (by kernel_rfl) (by kernel_rfl) (by kernel_rfl) (by kernel_rfl)) ?_
  intro W base args ds gs before hval0 hW hcnd _
  have hval : ∀ (j : Nat) t v, Tryz.f5.params[j]? = some t → args[j]? = some v → Value.okWide Tryz.prog W .any base t v := hval0
  have hW' := hW
  obtain ⟨p, q, hA0, hV, rfl, hfz, hnd⟩ := hW
  have hA : DataW.TrodAll enc Tryz.prog W 0 (fun _ => true) true Tryz.f5.params.toList args.toList ds p := hA0
  rw [Tryz.params5] at hA hval
  obtain ⟨v0, vs0, d0, ds0, p0, q0, hargs, rfl, rfl, h0, r0⟩ := trodAll_cons hA
  have k0 := h0
  have lt0 : ∀ x ∈ p0, x.block < W.heap.size := by obtain ⟨m, hm⟩ := k0; exact DataW.trod_lt m _ _ _ hm
  obtain ⟨v1, vs1, d1, ds1, p1, q1, rfl, rfl, rfl, h1, r1⟩ := trodAll_cons r0
  have k1 := h1
  have lt1 : ∀ x ∈ p1, x.block < W.heap.size := by obtain ⟨m, hm⟩ := k1; exact DataW.trod_lt m _ _ _ hm
  obtain ⟨rfl, rfl, rfl⟩ := trodAll_nil r1
  obtain rfl : args = #[v0, v1] := by cases args; simp_all
  obtain ⟨rfl, rfl⟩ := trodVars_none hV
  obtain ⟨x, p, rfl, hx, hq⟩ := open_rl (hval 0 34 v0 rfl rfl) h0
  obtain ⟨e, A0, c0, n0, rfl, hf, hl, hl', hE⟩ := open_ex (hval 1 29 v1 rfl rfl) h1
  clear hA0 hval0
  refine (relSorts_walk x p e A0 c0 n0 W hx hq hf (Nat.le_trans hl hl') hE).mono fun e W' ⟨he, bel⟩ => ?_
  subst he
  exact ⟨_, rfl, _, _, _, [], _, [], hW', trodAll_mk1 (shut_bool Tryz.underlying4 _), (trodAll_cons_mk (Below.trod laidOut (by kernel_rfl) (of_decide_eq_true (by kernel_rfl)) k0 bel lt0) (trodAll_cons_mk (Below.trod laidOut (by kernel_rfl) (of_decide_eq_true (by kernel_rfl)) k1 bel lt1) trodAll_mk0)), rfl, bel.frame _, fun h => by cases h⟩

theorem relSorts_over : Rows.relSortsRow.holds Tryz.pinned (OpenSpec.ofChange Rows.relSortsSpec) :=
  OpenClaim.holds_of_wide 5 Tryz.f5 rfl rfl rfl rfl rfl rfl rfl ⟨rfl, rfl, rfl, rfl, rfl⟩ rfl rfl rfl rfl rfl (by kernel_rfl) Tryz.func5 (by kernel_rfl)
    (of_decide_eq_true (by kernel_rfl)) (by unfold Func.isWrapper; first | (rw [if_pos (by decide +kernel)]; kernel_rfl) | (rw [if_neg (by decide +kernel)]; exact ⟨rfl, rfl⟩))
    (fun os started H enc _ => relSorts_lifted os started H enc)

theorem relSorts_holds : Rows.RelSortsSaid := relSorts_over
#print axioms relSorts_holds

end Go.Proofs.YtdhjogmkhbpcgaaGreat
