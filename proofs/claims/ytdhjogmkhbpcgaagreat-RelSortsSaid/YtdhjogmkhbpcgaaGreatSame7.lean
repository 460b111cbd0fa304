/- ref06.Same, ref07.Same at two that are the same: true. Condition: they read as such, of the sizes that are looked at. -/
import Derived.Test.YtdhjogmkhbpcgaaGreatTake
import Derived.Test.YtdhjogmkhbpcgaaGreatR6M
import Derived.Test.YtdhjogmkhbpcgaaGreatSchM
import Derived.Test.YtdhjogmkhbpcgaaGreatSameM
import Derived.Test.YtdhjogmkhbpcgaaGreatWhere
import Derived.IntWalk
namespace Go.Proofs.YtdhjogmkhbpcgaaGreat
open Go.RowKit

attribute [local go_sem] ByteArray.extract_mk ba_get ba_append
theorem run_neq_C (n : List UInt8) (t : Int) (b : Bool) (w : World) : (binOp .neq 77 (.agg #[.string ⟨n.toArray⟩, .int .i64 t, .bool b]) (.agg #[.string ⟨n.toArray⟩, .int .i64 t, .bool b])).run Tryz.prog w = .ok (.bool false) w := by
  simp [go_sem, Tryz.underlying77, Tryz.underlying3, Tryz.underlying9, Tryz.underlying4]
theorem run_neq_F (n : List UInt8) (t : Int) (w : World) : (binOp .neq 80 (.agg #[.int .i64 t, .string ⟨n.toArray⟩]) (.agg #[.int .i64 t, .string ⟨n.toArray⟩])).run Tryz.prog w = .ok (.bool false) w := by
  simp [go_sem, Tryz.underlying80, Tryz.underlying3, Tryz.underlying9]
attribute [local go_sem ↓] Go.wp_at_zero Go.wp_at_succ run_eql_V run_neq_V run_neq_C run_neq_F

set_option maxRecDepth 100000 in
set_option maxHeartbeats 16000000 in
theorem same6_any (t : Tb) (p p' : TbP) (w : World) (hs : t.small) (hQ : TbQ 1000 t p (Old w.heap.size) w) (hQ' : TbQ 1000 t p' (Old w.heap.size) w) :
    Calls Tryz.prog 33 #[.agg (t.cells p).toArray, .agg (t.cells p').toArray] w (Ret (.bool true) w) := by
  obtain ⟨⟨a1, k1⟩, ⟨a2, k2⟩, ⟨a3, k3⟩, ⟨a4, k4⟩⟩ := p
  obtain ⟨⟨b1, l1⟩, ⟨b2, l2⟩, ⟨b3, l3⟩, ⟨b4, l4⟩⟩ := p'
  obtain ⟨w0, hw0⟩ : ∃ w0, (w.alloc (.cells #[.string ⟨t.n.toArray⟩, .slice a1 t.cols.length k1, .int .i64 t.key, .slice a2 t.uniq.length k2, .slice a3 t.refs.length k3, .string ⟨t.chk.op.toArray⟩, .int .i64 t.chk.v.k, .int .i64 t.chk.v.i, .string ⟨t.chk.v.s.toArray⟩, .string ⟨t.chk.s.toArray⟩, .slice a4 t.chk.l.length k4] 31)).alloc (.cells #[.string ⟨t.n.toArray⟩, .slice b1 t.cols.length l1, .int .i64 t.key, .slice b2 t.uniq.length l2, .slice b3 t.refs.length l3, .string ⟨t.chk.op.toArray⟩, .int .i64 t.chk.v.k, .int .i64 t.chk.v.i, .string ⟨t.chk.v.s.toArray⟩, .string ⟨t.chk.s.toArray⟩, .slice b4 t.chk.l.length l4] 31) = w0 := ⟨_, rfl⟩
  have kX : Blk w0 w.heap.size 31 #[.string ⟨t.n.toArray⟩, .slice a1 t.cols.length k1, .int .i64 t.key, .slice a2 t.uniq.length k2, .slice a3 t.refs.length k3, .string ⟨t.chk.op.toArray⟩, .int .i64 t.chk.v.k, .int .i64 t.chk.v.i, .string ⟨t.chk.v.s.toArray⟩, .string ⟨t.chk.s.toArray⟩, .slice a4 t.chk.l.length k4] := by rw [← hw0]; exact (Blk.new _ _ _).alloc _
  have kY : Blk w0 (w.heap.size + 1) 31 #[.string ⟨t.n.toArray⟩, .slice b1 t.cols.length l1, .int .i64 t.key, .slice b2 t.uniq.length l2, .slice b3 t.refs.length l3, .string ⟨t.chk.op.toArray⟩, .int .i64 t.chk.v.k, .int .i64 t.chk.v.i, .string ⟨t.chk.v.s.toArray⟩, .string ⟨t.chk.s.toArray⟩, .slice b4 t.chk.l.length l4] := by rw [← hw0]; exact Blk.new' _ _ _ _ (by simp)
  have hb0 : Below w.heap.size w w0 := by rw [← hw0]; exact bl
  obtain ⟨hq1, hq2, hq3, n1, hq4⟩ := hQ.keep (old_keep hb0 hb0.size)
  obtain ⟨hr1, hr2, hr3, n2, hr4⟩ := hQ'.keep (old_keep hb0 hb0.size)
  have HSH : Hid (∀ Z : World, Below w0.heap.size w0 Z → Z.cell? ⟨w.heap.size, 0, none⟩ = some (.string ⟨t.n.toArray⟩) ∧ Z.cell? ⟨w.heap.size, 1, none⟩ = some (.slice a1 t.cols.length k1) ∧ Z.cell? ⟨w.heap.size, 2, none⟩ = some (.int .i64 t.key) ∧ Z.cell? ⟨w.heap.size, 3, none⟩ = some (.slice a2 t.uniq.length k2) ∧ Z.cell? ⟨w.heap.size, 4, none⟩ = some (.slice a3 t.refs.length k3) ∧ Z.cell? ⟨w.heap.size, 5, none⟩ = some (.string ⟨t.chk.op.toArray⟩) ∧ Z.cell? ⟨w.heap.size, 6, none⟩ = some (.int .i64 t.chk.v.k) ∧ Z.cell? ⟨w.heap.size, 7, none⟩ = some (.int .i64 t.chk.v.i) ∧ Z.cell? ⟨w.heap.size, 8, none⟩ = some (.string ⟨t.chk.v.s.toArray⟩) ∧ Z.cell? ⟨w.heap.size, 9, none⟩ = some (.string ⟨t.chk.s.toArray⟩) ∧ Z.cell? ⟨w.heap.size, 10, none⟩ = some (.slice a4 t.chk.l.length k4) ∧ Z.cell? ⟨w.heap.size + 1, 0, none⟩ = some (.string ⟨t.n.toArray⟩) ∧ Z.cell? ⟨w.heap.size + 1, 1, none⟩ = some (.slice b1 t.cols.length l1) ∧ Z.cell? ⟨w.heap.size + 1, 2, none⟩ = some (.int .i64 t.key) ∧ Z.cell? ⟨w.heap.size + 1, 3, none⟩ = some (.slice b2 t.uniq.length l2) ∧ Z.cell? ⟨w.heap.size + 1, 4, none⟩ = some (.slice b3 t.refs.length l3) ∧ Z.cell? ⟨w.heap.size + 1, 5, none⟩ = some (.string ⟨t.chk.op.toArray⟩) ∧ Z.cell? ⟨w.heap.size + 1, 6, none⟩ = some (.int .i64 t.chk.v.k) ∧ Z.cell? ⟨w.heap.size + 1, 7, none⟩ = some (.int .i64 t.chk.v.i) ∧ Z.cell? ⟨w.heap.size + 1, 8, none⟩ = some (.string ⟨t.chk.v.s.toArray⟩) ∧ Z.cell? ⟨w.heap.size + 1, 9, none⟩ = some (.string ⟨t.chk.s.toArray⟩) ∧ Z.cell? ⟨w.heap.size + 1, 10, none⟩ = some (.slice b4 t.chk.l.length l4)) := fun Z hz => ⟨(kX.below hz kX.lt).cell 0, (kX.below hz kX.lt).cell 1, (kX.below hz kX.lt).cell 2, (kX.below hz kX.lt).cell 3, (kX.below hz kX.lt).cell 4, (kX.below hz kX.lt).cell 5, (kX.below hz kX.lt).cell 6, (kX.below hz kX.lt).cell 7, (kX.below hz kX.lt).cell 8, (kX.below hz kX.lt).cell 9, (kX.below hz kX.lt).cell 10, (kY.below hz kY.lt).cell 0, (kY.below hz kY.lt).cell 1, (kY.below hz kY.lt).cell 2, (kY.below hz kY.lt).cell 3, (kY.below hz kY.lt).cell 4, (kY.below hz kY.lt).cell 5, (kY.below hz kY.lt).cell 6, (kY.below hz kY.lt).cell 7, (kY.below hz kY.lt).cell 8, (kY.below hz kY.lt).cell 9, (kY.below hz kY.lt).cell 10⟩
  have HC : Hid (∀ Z : World, Below w0.heap.size w0 Z → ∀ k, k < t.cols.length → ∃ b o b' o' v, a1 = some ⟨b, o, none⟩ ∧ b1 = some ⟨b', o', none⟩ ∧ (Z.cell? ⟨b, o + k * 3, none⟩ = some (.string ⟨(Col.n v).toArray⟩) ∧ Z.cell? ⟨b, o + k * 3 + 1, none⟩ = some (.int .i64 v.t) ∧ Z.cell? ⟨b, o + k * 3 + 2, none⟩ = some (.bool v.b)) ∧
      (Z.cell? ⟨b', o' + k * 3, none⟩ = some (.string ⟨(Col.n v).toArray⟩) ∧ Z.cell? ⟨b', o' + k * 3 + 1, none⟩ = some (.int .i64 v.t) ∧ Z.cell? ⟨b', o' + k * 3 + 2, none⟩ = some (.bool v.b))) := fun Z hz k hk => by
    obtain ⟨b, o, e1, hb, h1⟩ := hq1 (by omega)
    obtain ⟨b', o', e2, hb', h2⟩ := hr1 (by omega)
    obtain ⟨c0, c1, c2⟩ := h1 k _ (List.getElem?_eq_getElem hk)
    obtain ⟨d0, d1, d2⟩ := h2 k _ (List.getElem?_eq_getElem hk)
    exact ⟨b, o, b', o', _, e1, e2, ⟨(hz.cell (p := ⟨b, _, none⟩) hb).trans c0, (hz.cell (p := ⟨b, _, none⟩) hb).trans c1, (hz.cell (p := ⟨b, _, none⟩) hb).trans c2⟩, ⟨(hz.cell (p := ⟨b', _, none⟩) hb').trans d0, (hz.cell (p := ⟨b', _, none⟩) hb').trans d1, (hz.cell (p := ⟨b', _, none⟩) hb').trans d2⟩⟩
  have HI : Hid (∀ Z : World, Below w0.heap.size w0 Z → ∀ k, k < t.uniq.length → ∃ b o b' o' v, a2 = some ⟨b, o, none⟩ ∧ b2 = some ⟨b', o', none⟩ ∧ Z.cell? ⟨b, o + k, none⟩ = some (.int .i64 v) ∧ Z.cell? ⟨b', o' + k, none⟩ = some (.int .i64 v)) := fun Z hz k hk => by
    obtain ⟨b, o, e1, hb, h1⟩ := hq2 (by omega)
    obtain ⟨b', o', e2, hb', h2⟩ := hr2 (by omega)
    exact ⟨b, o, b', o', _, e1, e2, (hz.cell (p := ⟨b, _, none⟩) hb).trans (h1 k _ (List.getElem?_eq_getElem hk)), (hz.cell (p := ⟨b', _, none⟩) hb').trans (h2 k _ (List.getElem?_eq_getElem hk))⟩
  have HF : Hid (∀ Z : World, Below w0.heap.size w0 Z → ∀ k, k < t.refs.length → ∃ b o b' o' v, a3 = some ⟨b, o, none⟩ ∧ b3 = some ⟨b', o', none⟩ ∧ (Z.cell? ⟨b, o + k * 2, none⟩ = some (.int .i64 (Fr.c v)) ∧ Z.cell? ⟨b, o + k * 2 + 1, none⟩ = some (.string ⟨v.t.toArray⟩)) ∧ (Z.cell? ⟨b', o' + k * 2, none⟩ = some (.int .i64 v.c) ∧ Z.cell? ⟨b', o' + k * 2 + 1, none⟩ = some (.string ⟨v.t.toArray⟩))) := fun Z hz k hk => by
    obtain ⟨b, o, e1, hb, h1⟩ := hq3 (by omega)
    obtain ⟨b', o', e2, hb', h2⟩ := hr3 (by omega)
    obtain ⟨c0, c1⟩ := h1 k _ (List.getElem?_eq_getElem hk)
    obtain ⟨d0, d1⟩ := h2 k _ (List.getElem?_eq_getElem hk)
    exact ⟨b, o, b', o', _, e1, e2, ⟨(hz.cell (p := ⟨b, _, none⟩) hb).trans c0, (hz.cell (p := ⟨b, _, none⟩) hb).trans c1⟩, ⟨(hz.cell (p := ⟨b', _, none⟩) hb').trans d0, (hz.cell (p := ⟨b', _, none⟩) hb').trans d1⟩⟩
  have HSM : Hid (∀ Z : World, Below w0.heap.size w0 Z → Calls Tryz.prog 60 #[.agg #[.string ⟨t.chk.op.toArray⟩, .int .i64 t.chk.v.k, .int .i64 t.chk.v.i, .string ⟨t.chk.v.s.toArray⟩, .string ⟨t.chk.s.toArray⟩, .slice a4 t.chk.l.length k4], .agg #[.string ⟨t.chk.op.toArray⟩, .int .i64 t.chk.v.k, .int .i64 t.chk.v.i, .string ⟨t.chk.v.s.toArray⟩, .string ⟨t.chk.s.toArray⟩, .slice b4 t.chk.l.length l4]] Z (Ret (.bool true) Z)) := fun Z hz => by
    have h1 := ((hq4.ups (max n1 n2) (Nat.le_max_left _ _)).keep (old_keep hz hz.size) _).toS (B := Z.heap.size) (fun _ h => h)
    have h2 := ((hr4.ups (max n1 n2) (Nat.le_max_right _ _)).keep (old_keep hz hz.size) _).toS (B := Z.heap.size) (fun _ h => h)
    have := same4_any (max n1 n2) t.chk t.chk a4 b4 k4 l4 Z hs.2.2.2.2.2.2.2 h1 h2
    rw [sameE_self] at this
    exact this
  obtain ⟨q0, q1, q2, q3, q4, q5, q6, q7, q8, q9, q10, q11, q12, q13, q14, q15, q16, q17, q18, q19, q20, q21⟩ := HSH.out w0 (Below.refl _ _)
  have HW := Lib.hid hw0
  have HB0 := Lib.hid hb0
  have hz0 := hb0.size
  have l1c : t.cols.length ≤ 1000 := hs.2.1
  have l1u : t.uniq.length ≤ 1000 := hs.2.2.2.1
  have l1r : t.refs.length ≤ 1000 := hs.2.2.2.2.1
  dsimp only [Tb.cells]
  clear hw0 hb0 hq1 hq2 hq3 hq4 hr1 hr2 hr3 hr4 hQ hQ' hs kX kY
  go_enter Tryz.func33, Tryz.ntmps33
  go_upto_region 1 with fail
  rw [HW.out]
  clear HW
  go_upto_block 0 with fail
  go_cut [] (fun wx => Below w0.heap.size w0 wx)
  case first => as_aux_lemma =>
    go_wp2_with fail
    go_loopw [5] (fun iv wr => ∃ k : Nat, k ≤ t.cols.length ∧ iv = .int .i64 k ∧ Below w0.heap.size w0 wr) (fun iv _ => t.cols.length - (intOf iv).toNat)
    case atStart => exact ⟨0, by omega, by go_num, Below.refl _ _⟩
    case round =>
      obtain ⟨k, hk, rfl, hbw⟩ := hrel
      obtain ⟨wk, rfl⟩ : ∃ wk : World, wk = wr := ⟨_, rfl⟩
      clear q0 q1 q2 q3 q4 q5 q6 q7 q8 q9 q10 q11 q12 q13 q14 q15 q16 q17 q18 q19 q20 q21
      obtain ⟨q0, q1, q2, q3, q4, q5, q6, q7, q8, q9, q10, q11, q12, q13, q14, q15, q16, q17, q18, q19, q20, q21⟩ := HSH.out wk hbw
      by_cases hlt : k < t.cols.length
      · obtain ⟨b, o, b', o', v, rfl, rfl, ⟨c0, c1, c2⟩, d0, d1, d2⟩ := HC.out wk hbw k hlt
        have j1 : (0 : Int) ≤ (k : Int) := by omega
        have j2 : (k : Int) < (t.cols.length : Int) := by omega
        have gd : decide (k < t.cols.length) = true := decide_eq_true hlt
        have i1 : IntKind.i64.wrap ((k : Int) + 1) = (k : Int) + 1 := IntWalk.i64_in _ (by omega)
        have HBW := Lib.hid hbw
        go_wp2_with fail
        refine wp_region_held_drew (S := (fun Z => Z.cell? ⟨w.heap.size, 1, none⟩ = some (.slice (some ⟨b, o, none⟩) t.cols.length k1) ∧ Z.cell? ⟨w.heap.size + 1, 1, none⟩ = some (.slice (some ⟨b', o', none⟩) t.cols.length l1) ∧ Z.cell? ⟨b, o + k * 3, none⟩ = some (.string ⟨v.n.toArray⟩) ∧ Z.cell? ⟨b, o + k * 3 + 1, none⟩ = some (.int .i64 v.t) ∧ Z.cell? ⟨b, o + k * 3 + 2, none⟩ = some (.bool v.b) ∧ Z.cell? ⟨b', o' + k * 3, none⟩ = some (.string ⟨v.n.toArray⟩) ∧ Z.cell? ⟨b', o' + k * 3 + 1, none⟩ = some (.int .i64 v.t) ∧ Z.cell? ⟨b', o' + k * 3 + 2, none⟩ = some (.bool v.b))) (by kernel_rfl) ?_ (fun hHeld => ?_)
        · try dsimp only
          exact ⟨q1, q12, c0, c1, c2, d0, d1, d2⟩
        refine wpAnyT_start [0, 1, 2, 3, 4, 5, 6, 7, 8, 9, 10] ?_
        iterate 11
          refine wpAnyT_cons (v := ?_) rfl (by kernel_rfl) (by kernel_rfl) (by kernel_rfl) (fun _ _ _ h => h) (Or.inl ⟨by rfl, ?_⟩) (by assumption) ?_
          rotate_left
          · intro wq hSw
            try dsimp only at hSw
            go_simp
            try with_reducible rfl
          try simp only [Act.put, List.getElem_toArray, List.getElem_cons_zero, List.getElem_cons_succ, List.setIfInBounds_toArray, List.set_cons_zero, List.set_cons_succ]
        refine wpAnyT_nil ?_
        refine wpAnyH_done (by kernel_rfl) ?_ _
        go_wp2_with fail
        go_roundw
        case rel => exact ⟨k + 1, by omega, by go_num, HBW.out.drew⟩
        case measure => simp [intOf]; omega
      · have gd : decide (k < t.cols.length) = false := decide_eq_false hlt
        have HBW := Lib.hid hbw
        clear hbw
        go_wp2_with fail
        go_meet
        exact HBW.out
  obtain ⟨W1, rfl⟩ : ∃ W, W = wc := ⟨_, rfl⟩
  have HW1 := Lib.hid hcut
  clear q0 q1 q2 q3 q4 q5 q6 q7 q8 q9 q10 q11 q12 q13 q14 q15 q16 q17 q18 q19 q20 q21 hcut
  obtain ⟨q0, q1, q2, q3, q4, q5, q6, q7, q8, q9, q10, q11, q12, q13, q14, q15, q16, q17, q18, q19, q20, q21⟩ := HSH.out W1 HW1.out
  go_upto_block 2 with fail
  go_cut [] (fun wx => Below w0.heap.size w0 wx)
  case first => as_aux_lemma =>
    go_wp2_with fail
    go_loopw [6] (fun iv wr => ∃ k : Nat, k ≤ t.uniq.length ∧ iv = .int .i64 k ∧ Below w0.heap.size w0 wr) (fun iv _ => t.uniq.length - (intOf iv).toNat)
    case atStart => exact ⟨0, by omega, by go_num, HW1.out⟩
    case round =>
      obtain ⟨k, hk, rfl, hbw⟩ := hrel
      obtain ⟨wk, rfl⟩ : ∃ wk : World, wk = wr := ⟨_, rfl⟩
      clear q0 q1 q2 q3 q4 q5 q6 q7 q8 q9 q10 q11 q12 q13 q14 q15 q16 q17 q18 q19 q20 q21
      obtain ⟨q0, q1, q2, q3, q4, q5, q6, q7, q8, q9, q10, q11, q12, q13, q14, q15, q16, q17, q18, q19, q20, q21⟩ := HSH.out wk hbw
      by_cases hlt : k < t.uniq.length
      · obtain ⟨b, o, b', o', v, rfl, rfl, c0, d0⟩ := HI.out wk hbw k hlt
        have j1 : (0 : Int) ≤ (k : Int) := by omega
        have j2 : (k : Int) < (t.uniq.length : Int) := by omega
        have gd : decide (k < t.uniq.length) = true := decide_eq_true hlt
        have i1 : IntKind.i64.wrap ((k : Int) + 1) = (k : Int) + 1 := IntWalk.i64_in _ (by omega)
        have HBW := Lib.hid hbw
        go_wp2_with fail
        refine wp_region_held_drew (S := (fun Z => Z.cell? ⟨w.heap.size, 3, none⟩ = some (.slice (some ⟨b, o, none⟩) t.uniq.length k2) ∧ Z.cell? ⟨w.heap.size + 1, 3, none⟩ = some (.slice (some ⟨b', o', none⟩) t.uniq.length l2) ∧ Z.cell? ⟨b, o + k, none⟩ = some (.int .i64 v) ∧ Z.cell? ⟨b', o' + k, none⟩ = some (.int .i64 v))) (by kernel_rfl) ?_ (fun hHeld => ?_)
        · try dsimp only
          exact ⟨q3, q14, c0, d0⟩
        refine wpAnyT_start [0, 1, 2, 3, 4, 5, 6, 7, 8, 9, 10] ?_
        iterate 11
          refine wpAnyT_cons (v := ?_) rfl (by kernel_rfl) (by kernel_rfl) (by kernel_rfl) (fun _ _ _ h => h) (Or.inl ⟨by rfl, ?_⟩) (by assumption) ?_
          rotate_left
          · intro wq hSw
            try dsimp only at hSw
            go_simp
            try with_reducible rfl
          try simp only [Act.put, List.getElem_toArray, List.getElem_cons_zero, List.getElem_cons_succ, List.setIfInBounds_toArray, List.set_cons_zero, List.set_cons_succ]
        refine wpAnyT_nil ?_
        refine wpAnyH_done (by kernel_rfl) ?_ _
        go_wp2_with fail
        go_roundw
        case rel => exact ⟨k + 1, by omega, by go_num, HBW.out.drew⟩
        case measure => simp [intOf]; omega
      · have gd : decide (k < t.uniq.length) = false := decide_eq_false hlt
        have HBW := Lib.hid hbw
        clear hbw
        go_wp2_with fail
        go_meet
        exact HBW.out
  obtain ⟨W2, rfl⟩ : ∃ W, W = wc := ⟨_, rfl⟩
  have HW2 := Lib.hid hcut
  clear q0 q1 q2 q3 q4 q5 q6 q7 q8 q9 q10 q11 q12 q13 q14 q15 q16 q17 q18 q19 q20 q21 hcut
  obtain ⟨q0, q1, q2, q3, q4, q5, q6, q7, q8, q9, q10, q11, q12, q13, q14, q15, q16, q17, q18, q19, q20, q21⟩ := HSH.out W2 HW2.out
  go_upto_block 4 with fail
  go_cut [] (fun wx => Below w0.heap.size w0 wx)
  case first => as_aux_lemma =>
    go_wp2_with fail
    go_loopw [7] (fun iv wr => ∃ k : Nat, k ≤ t.refs.length ∧ iv = .int .i64 k ∧ Below w0.heap.size w0 wr) (fun iv _ => t.refs.length - (intOf iv).toNat)
    case atStart => exact ⟨0, by omega, by go_num, HW2.out⟩
    case round =>
      obtain ⟨k, hk, rfl, hbw⟩ := hrel
      obtain ⟨wk, rfl⟩ : ∃ wk : World, wk = wr := ⟨_, rfl⟩
      clear q0 q1 q2 q3 q4 q5 q6 q7 q8 q9 q10 q11 q12 q13 q14 q15 q16 q17 q18 q19 q20 q21
      obtain ⟨q0, q1, q2, q3, q4, q5, q6, q7, q8, q9, q10, q11, q12, q13, q14, q15, q16, q17, q18, q19, q20, q21⟩ := HSH.out wk hbw
      by_cases hlt : k < t.refs.length
      · obtain ⟨b, o, b', o', v, rfl, rfl, ⟨c0, c1⟩, d0, d1⟩ := HF.out wk hbw k hlt
        have j1 : (0 : Int) ≤ (k : Int) := by omega
        have j2 : (k : Int) < (t.refs.length : Int) := by omega
        have gd : decide (k < t.refs.length) = true := decide_eq_true hlt
        have i1 : IntKind.i64.wrap ((k : Int) + 1) = (k : Int) + 1 := IntWalk.i64_in _ (by omega)
        have HBW := Lib.hid hbw
        go_wp2_with fail
        refine wp_region_held_drew (S := (fun Z => Z.cell? ⟨w.heap.size, 4, none⟩ = some (.slice (some ⟨b, o, none⟩) t.refs.length k3) ∧ Z.cell? ⟨w.heap.size + 1, 4, none⟩ = some (.slice (some ⟨b', o', none⟩) t.refs.length l3) ∧ Z.cell? ⟨b, o + k * 2, none⟩ = some (.int .i64 v.c) ∧ Z.cell? ⟨b, o + k * 2 + 1, none⟩ = some (.string ⟨v.t.toArray⟩) ∧ Z.cell? ⟨b', o' + k * 2, none⟩ = some (.int .i64 v.c) ∧ Z.cell? ⟨b', o' + k * 2 + 1, none⟩ = some (.string ⟨v.t.toArray⟩))) (by kernel_rfl) ?_ (fun hHeld => ?_)
        · try dsimp only
          exact ⟨q4, q15, c0, c1, d0, d1⟩
        refine wpAnyT_start [0, 1, 2, 3, 4, 5, 6, 7, 8, 9, 10] ?_
        iterate 11
          refine wpAnyT_cons (v := ?_) rfl (by kernel_rfl) (by kernel_rfl) (by kernel_rfl) (fun _ _ _ h => h) (Or.inl ⟨by rfl, ?_⟩) (by assumption) ?_
          rotate_left
          · intro wq hSw
            try dsimp only at hSw
            go_simp
            try with_reducible rfl
          try simp only [Act.put, List.getElem_toArray, List.getElem_cons_zero, List.getElem_cons_succ, List.setIfInBounds_toArray, List.set_cons_zero, List.set_cons_succ]
        refine wpAnyT_nil ?_
        refine wpAnyH_done (by kernel_rfl) ?_ _
        go_wp2_with fail
        go_roundw
        case rel => exact ⟨k + 1, by omega, by go_num, HBW.out.drew⟩
        case measure => simp [intOf]; omega
      · have gd : decide (k < t.refs.length) = false := decide_eq_false hlt
        have HBW := Lib.hid hbw
        clear hbw
        go_wp2_with fail
        go_meet
        exact HBW.out
  obtain ⟨W3, rfl⟩ : ∃ W, W = wc := ⟨_, rfl⟩
  have HW3 := Lib.hid hcut
  clear q0 q1 q2 q3 q4 q5 q6 q7 q8 q9 q10 q11 q12 q13 q14 q15 q16 q17 q18 q19 q20 q21 hcut
  obtain ⟨q0, q1, q2, q3, q4, q5, q6, q7, q8, q9, q10, q11, q12, q13, q14, q15, q16, q17, q18, q19, q20, q21⟩ := HSH.out W3 HW3.out
  go_wp2_with fail
  refine (HSM.out W3 HW3.out).mono ?_
  rintro en w9 ⟨rfl, hb9⟩
  go_wp2_with fail
  go_ret
  exact ⟨rfl, HB0.out.trans ((HW3.out.trans (hb9.mono HW3.out.size)).mono hz0)⟩

set_option maxRecDepth 100000 in
set_option maxHeartbeats 8000000 in
theorem same7_any (x : Rl) (p p' : RlP) (w : World) (hs : x.t.small) (hsm : x.small) (hQ : RlQ 1000 x p (Old w.heap.size) w) (hQ' : RlQ 1000 x p' (Old w.heap.size) w) :
    Calls Tryz.prog 14 #[.agg (x.cells p).toArray, .agg (x.cells p').toArray] w (Ret (.bool true) w) := by
  obtain ⟨⟨⟨a1, k1⟩, ⟨a2, k2⟩, ⟨a3, k3⟩, ⟨a4, k4⟩⟩, ⟨a5, k5⟩⟩ := p
  obtain ⟨⟨⟨b1, l1⟩, ⟨b2, l2⟩, ⟨b3, l3⟩, ⟨b4, l4⟩⟩, ⟨b5, l5⟩⟩ := p'
  obtain ⟨w0, hw0⟩ : ∃ w0, (w.alloc (.cells #[.string ⟨x.t.n.toArray⟩, .slice a1 x.t.cols.length k1, .int .i64 x.t.key, .slice a2 x.t.uniq.length k2, .slice a3 x.t.refs.length k3, .string ⟨x.t.chk.op.toArray⟩, .int .i64 x.t.chk.v.k, .int .i64 x.t.chk.v.i, .string ⟨x.t.chk.v.s.toArray⟩, .string ⟨x.t.chk.s.toArray⟩, .slice a4 x.t.chk.l.length k4, .slice a5 x.rows.length k5] 34)).alloc (.cells #[.string ⟨x.t.n.toArray⟩, .slice b1 x.t.cols.length l1, .int .i64 x.t.key, .slice b2 x.t.uniq.length l2, .slice b3 x.t.refs.length l3, .string ⟨x.t.chk.op.toArray⟩, .int .i64 x.t.chk.v.k, .int .i64 x.t.chk.v.i, .string ⟨x.t.chk.v.s.toArray⟩, .string ⟨x.t.chk.s.toArray⟩, .slice b4 x.t.chk.l.length l4, .slice b5 x.rows.length l5] 34) = w0 := ⟨_, rfl⟩
  have kX : Blk w0 w.heap.size 34 #[.string ⟨x.t.n.toArray⟩, .slice a1 x.t.cols.length k1, .int .i64 x.t.key, .slice a2 x.t.uniq.length k2, .slice a3 x.t.refs.length k3, .string ⟨x.t.chk.op.toArray⟩, .int .i64 x.t.chk.v.k, .int .i64 x.t.chk.v.i, .string ⟨x.t.chk.v.s.toArray⟩, .string ⟨x.t.chk.s.toArray⟩, .slice a4 x.t.chk.l.length k4, .slice a5 x.rows.length k5] := by rw [← hw0]; exact (Blk.new _ _ _).alloc _
  have kY : Blk w0 (w.heap.size + 1) 34 #[.string ⟨x.t.n.toArray⟩, .slice b1 x.t.cols.length l1, .int .i64 x.t.key, .slice b2 x.t.uniq.length l2, .slice b3 x.t.refs.length l3, .string ⟨x.t.chk.op.toArray⟩, .int .i64 x.t.chk.v.k, .int .i64 x.t.chk.v.i, .string ⟨x.t.chk.v.s.toArray⟩, .string ⟨x.t.chk.s.toArray⟩, .slice b4 x.t.chk.l.length l4, .slice b5 x.rows.length l5] := by rw [← hw0]; exact Blk.new' _ _ _ _ (by simp)
  have hb0 : Below w.heap.size w w0 := by rw [← hw0]; exact bl
  have hq := hQ.keep (old_keep hb0 hb0.size)
  have hr := hQ'.keep (old_keep hb0 hb0.size)
  have hlm : ∀ r ∈ x.rows, r.length ≤ maxLen := fun r hr => by have := (hsm.2.2 r hr).1; unfold maxLen; omega
  have HS6 : Hid (∀ Z : World, Below w0.heap.size w0 Z → Calls Tryz.prog 33 #[.agg #[.string ⟨x.t.n.toArray⟩, .slice a1 x.t.cols.length k1, .int .i64 x.t.key, .slice a2 x.t.uniq.length k2, .slice a3 x.t.refs.length k3, .string ⟨x.t.chk.op.toArray⟩, .int .i64 x.t.chk.v.k, .int .i64 x.t.chk.v.i, .string ⟨x.t.chk.v.s.toArray⟩, .string ⟨x.t.chk.s.toArray⟩, .slice a4 x.t.chk.l.length k4], .agg #[.string ⟨x.t.n.toArray⟩, .slice b1 x.t.cols.length l1, .int .i64 x.t.key, .slice b2 x.t.uniq.length l2, .slice b3 x.t.refs.length l3, .string ⟨x.t.chk.op.toArray⟩, .int .i64 x.t.chk.v.k, .int .i64 x.t.chk.v.i, .string ⟨x.t.chk.v.s.toArray⟩, .string ⟨x.t.chk.s.toArray⟩, .slice b4 x.t.chk.l.length l4]] Z (Ret (.bool true) Z)) := fun Z hz =>
    same6_any x.t ⟨⟨a1, k1⟩, ⟨a2, k2⟩, ⟨a3, k3⟩, ⟨a4, k4⟩⟩ ⟨⟨b1, l1⟩, ⟨b2, l2⟩, ⟨b3, l3⟩, ⟨b4, l4⟩⟩ Z hs (hq.1.keep (old_keep hz hz.size)) (hr.1.keep (old_keep hz hz.size))
  have HSR : Hid (∀ Z : World, Below w0.heap.size w0 Z → Calls Tryz.prog 13 #[.slice a5 x.rows.length k5, .slice b5 x.rows.length l5] Z (Ret (.bool true) Z)) := fun Z hz => by
    have := sameRows_any a5 b5 k5 l5 x.rows x.rows Z (by have := hsm.2.1; omega) (by have := hsm.2.1; omega) (hq.2.keep (old_keep hz hz.size)) (hr.2.keep (old_keep hz hz.size)) hlm hlm
    rw [rowsSame_self] at this
    exact this
  have HSH : Hid (∀ Z : World, Below w0.heap.size w0 Z → Z.cell? ⟨w.heap.size, 0, none⟩ = some (.string ⟨x.t.n.toArray⟩) ∧ Z.cell? ⟨w.heap.size, 1, none⟩ = some (.slice a1 x.t.cols.length k1) ∧ Z.cell? ⟨w.heap.size, 2, none⟩ = some (.int .i64 x.t.key) ∧ Z.cell? ⟨w.heap.size, 3, none⟩ = some (.slice a2 x.t.uniq.length k2) ∧ Z.cell? ⟨w.heap.size, 4, none⟩ = some (.slice a3 x.t.refs.length k3) ∧ Z.cell? ⟨w.heap.size, 5, none⟩ = some (.string ⟨x.t.chk.op.toArray⟩) ∧ Z.cell? ⟨w.heap.size, 6, none⟩ = some (.int .i64 x.t.chk.v.k) ∧ Z.cell? ⟨w.heap.size, 7, none⟩ = some (.int .i64 x.t.chk.v.i) ∧ Z.cell? ⟨w.heap.size, 8, none⟩ = some (.string ⟨x.t.chk.v.s.toArray⟩) ∧ Z.cell? ⟨w.heap.size, 9, none⟩ = some (.string ⟨x.t.chk.s.toArray⟩) ∧ Z.cell? ⟨w.heap.size, 10, none⟩ = some (.slice a4 x.t.chk.l.length k4) ∧ Z.cell? ⟨w.heap.size, 11, none⟩ = some (.slice a5 x.rows.length k5) ∧ Z.cell? ⟨w.heap.size + 1, 0, none⟩ = some (.string ⟨x.t.n.toArray⟩) ∧ Z.cell? ⟨w.heap.size + 1, 1, none⟩ = some (.slice b1 x.t.cols.length l1) ∧ Z.cell? ⟨w.heap.size + 1, 2, none⟩ = some (.int .i64 x.t.key) ∧ Z.cell? ⟨w.heap.size + 1, 3, none⟩ = some (.slice b2 x.t.uniq.length l2) ∧ Z.cell? ⟨w.heap.size + 1, 4, none⟩ = some (.slice b3 x.t.refs.length l3) ∧ Z.cell? ⟨w.heap.size + 1, 5, none⟩ = some (.string ⟨x.t.chk.op.toArray⟩) ∧ Z.cell? ⟨w.heap.size + 1, 6, none⟩ = some (.int .i64 x.t.chk.v.k) ∧ Z.cell? ⟨w.heap.size + 1, 7, none⟩ = some (.int .i64 x.t.chk.v.i) ∧ Z.cell? ⟨w.heap.size + 1, 8, none⟩ = some (.string ⟨x.t.chk.v.s.toArray⟩) ∧ Z.cell? ⟨w.heap.size + 1, 9, none⟩ = some (.string ⟨x.t.chk.s.toArray⟩) ∧ Z.cell? ⟨w.heap.size + 1, 10, none⟩ = some (.slice b4 x.t.chk.l.length l4) ∧ Z.cell? ⟨w.heap.size + 1, 11, none⟩ = some (.slice b5 x.rows.length l5)) := fun Z hz => ⟨(kX.below hz kX.lt).cell 0, (kX.below hz kX.lt).cell 1, (kX.below hz kX.lt).cell 2, (kX.below hz kX.lt).cell 3, (kX.below hz kX.lt).cell 4, (kX.below hz kX.lt).cell 5, (kX.below hz kX.lt).cell 6, (kX.below hz kX.lt).cell 7, (kX.below hz kX.lt).cell 8, (kX.below hz kX.lt).cell 9, (kX.below hz kX.lt).cell 10, (kX.below hz kX.lt).cell 11, (kY.below hz kY.lt).cell 0, (kY.below hz kY.lt).cell 1, (kY.below hz kY.lt).cell 2, (kY.below hz kY.lt).cell 3, (kY.below hz kY.lt).cell 4, (kY.below hz kY.lt).cell 5, (kY.below hz kY.lt).cell 6, (kY.below hz kY.lt).cell 7, (kY.below hz kY.lt).cell 8, (kY.below hz kY.lt).cell 9, (kY.below hz kY.lt).cell 10, (kY.below hz kY.lt).cell 11⟩
  obtain ⟨q0, q1, q2, q3, q4, q5, q6, q7, q8, q9, q10, q11, q12, q13, q14, q15, q16, q17, q18, q19, q20, q21, q22, q23⟩ := HSH.out w0 (Below.refl _ _)
  have HW := Lib.hid hw0
  have HB0 := Lib.hid hb0
  have hz0 := hb0.size
  dsimp only [Rl.cells]
  clear hw0 hb0 hq hr hQ hQ' hs hsm hlm kX kY
  go_enter Tryz.func14, Tryz.ntmps14
  go_upto_region 1 with fail
  rw [HW.out]
  clear HW
  go_wp2_with fail
  refine (HS6.out w0 (Below.refl _ _)).mono ?_
  rintro en w8 ⟨rfl, hb8⟩
  clear q0 q1 q2 q3 q4 q5 q6 q7 q8 q9 q10 q11 q12 q13 q14 q15 q16 q17 q18 q19 q20 q21 q22 q23
  obtain ⟨q0, q1, q2, q3, q4, q5, q6, q7, q8, q9, q10, q11, q12, q13, q14, q15, q16, q17, q18, q19, q20, q21, q22, q23⟩ := HSH.out w8 hb8
  go_wp2_with fail
  refine (HSR.out w8 hb8).mono ?_
  rintro en w9 ⟨rfl, hb9⟩
  go_wp2_with fail
  go_ret
  exact ⟨rfl, HB0.out.trans ((hb8.trans (hb9.mono hb8.size)).mono hz0)⟩

end Go.Proofs.YtdhjogmkhbpcgaaGreat
