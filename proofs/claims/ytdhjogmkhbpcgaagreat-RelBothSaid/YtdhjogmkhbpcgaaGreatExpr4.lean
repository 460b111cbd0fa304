/- (expr.over).value and expr.Eval as plain functions. Condition: an expression that reads as a tree, texts no longer than a thousand; columns and a row that read as lists; numbers of 64 bits. -/
import Derived.Test.YtdhjogmkhbpcgaaGreatExpr3
namespace Go.Proofs.YtdhjogmkhbpcgaaGreat
open Go.RowKit Go.ChangeMaps

attribute [local go_sem] ByteArray.extract_mk ba_get ba_append
attribute [local go_sem ↓] Go.wp_at_zero Go.wp_at_succ run_eql_V run_neq_V

set_option maxHeartbeats 400000 in
theorem doNot_any (k i : Int) (s : List UInt8) (k' i' : Int) (s' : List UInt8) (w : World) :
    Calls Tryz.prog 85 #[.agg #[.int .i64 k, .int .i64 i, .string ⟨s.toArray⟩], .agg #[.int .i64 k', .int .i64 i', .string ⟨s'.toArray⟩]] w (Ret (.agg #[.int .i64 (notV ⟨k, i, s⟩).k, .int .i64 (notV ⟨k, i, s⟩).i, .string ⟨(notV ⟨k, i, s⟩).s.toArray⟩]) w) := by
  obtain ⟨w0, hw0⟩ : ∃ w0, ((w.alloc (.cells #[.int .i64 k, .int .i64 i, .string ⟨s.toArray⟩] 26)).alloc (.cells #[.int .i64 k', .int .i64 i', .string ⟨s'.toArray⟩] 26)).alloc (.cells #[.int .i64 0, .int .i64 0, .string ⟨#[]⟩] 26) = w0 := ⟨_, rfl⟩
  have ka : Blk w0 w.heap.size 26 #[.int .i64 k, .int .i64 i, .string ⟨s.toArray⟩] := by rw [← hw0]; ((repeat' (first | with_reducible assumption | with_reducible refine Blk.drew ?_ | with_reducible refine Blk.drewN ?_ _ | with_reducible refine Blk.set3 ?_ _ _ _ | with_reducible refine Blk.far ?_ ?_ _ | ((with_reducible refine Blk.new' _ _ _ _ ?_) <;> (first | (simp; done) | (simp; omega) | omega) <;> done) | with_reducible refine Blk.alloc ?_ _ | with_reducible refine Blk3.drew ?_ | with_reducible refine Blk3.drewN ?_ _ | ((with_reducible refine Blk3.new' _ _ _ _ _ _ ?_) <;> (first | (simp; done) | (simp; omega) | omega) <;> done) | with_reducible refine Blk3.alloc ?_ _ | with_reducible refine Blk3.far ?_ ?_ _ | with_reducible refine Blk3.below ?_ (by assumption) ?_ | with_reducible refine Blk.below ?_ (by assumption) ?_)) <;> (first | (simp; done) | (simp; omega) | omega))
  have kr : Blk w0 (w.heap.size + 1 + 1) 26 #[.int .i64 0, .int .i64 0, .string ⟨#[]⟩] := by rw [← hw0]; ((repeat' (first | with_reducible assumption | with_reducible refine Blk.drew ?_ | with_reducible refine Blk.drewN ?_ _ | with_reducible refine Blk.set3 ?_ _ _ _ | with_reducible refine Blk.far ?_ ?_ _ | ((with_reducible refine Blk.new' _ _ _ _ ?_) <;> (first | (simp; done) | (simp; omega) | omega) <;> done) | with_reducible refine Blk.alloc ?_ _ | with_reducible refine Blk3.drew ?_ | with_reducible refine Blk3.drewN ?_ _ | ((with_reducible refine Blk3.new' _ _ _ _ _ _ ?_) <;> (first | (simp; done) | (simp; omega) | omega) <;> done) | with_reducible refine Blk3.alloc ?_ _ | with_reducible refine Blk3.far ?_ ?_ _ | with_reducible refine Blk3.below ?_ (by assumption) ?_ | with_reducible refine Blk.below ?_ (by assumption) ?_)) <;> (first | (simp; done) | (simp; omega) | omega))
  have hb0 : Below w.heap.size w w0 := by rw [← hw0]; ((with_reducible repeat' (first | exact Below.refl _ _ | assumption | refine Below.drew ?_ | refine below_drewN ?_ _ | refine Below.setCell ?_ ?_ _ | refine Below.alloc ?_ ?_ _ | refine Below.trans ?_ (Below.mono (by assumption) ?_))) <;> first | (simp; done) | (simp; omega) | omega)
  have HW := Lib.hid hw0
  clear hw0
  obtain ⟨⟨x0, x1, x2⟩, _⟩ := ka.three
  have hz0 := hb0.size
  obtain ⟨X, hX⟩ : ∃ X, notV ⟨k, i, s⟩ = X := ⟨_, rfl⟩
  rw [hX]
  have HX := Lib.hid hX
  clear hX
  go_enter Tryz.func85, Tryz.ntmps85
  go_upto_region 1 with fail
  rw [HW.out]
  go_wp2_with fail
  refine (not_any k i s w0).mono ?_
  rintro e w1 ⟨rfl, hb1⟩
  have kr1 := kr.below hb1 kr.lt
  have lr1 := kr1.lt
  have hbw1 := hb0.trans (hb1.mono hz0)
  obtain ⟨⟨y0, y1, y2⟩, z0, z1, z2⟩ := kr1.three
  go_wp2_with fail
  refine bodyPost_ret (v := .agg #[.int .i64 (X).k, .int .i64 (X).i, .string ⟨(X).s.toArray⟩]) (by rw [← HX.out]; simp [results, Tryz.results85, go_sem, *]; exact ⟨rfl, rfl, rfl⟩) rfl ⟨rfl, ?_⟩
  ((with_reducible repeat' (first | exact Below.refl _ _ | assumption | refine Below.drew ?_ | refine below_drewN ?_ _ | refine Below.setCell ?_ ?_ _ | refine Below.alloc ?_ ?_ _ | refine Below.trans ?_ (Below.mono (by assumption) ?_))) <;> first | (simp; done) | (simp; omega) | omega)
set_option maxHeartbeats 400000 in
theorem doNull_any (k i : Int) (s : List UInt8) (k' i' : Int) (s' : List UInt8) (w : World) :
    Calls Tryz.prog 91 #[.agg #[.int .i64 k, .int .i64 i, .string ⟨s.toArray⟩], .agg #[.int .i64 k', .int .i64 i', .string ⟨s'.toArray⟩]] w (Ret (.agg #[.int .i64 (nullV ⟨k, i, s⟩).k, .int .i64 (nullV ⟨k, i, s⟩).i, .string ⟨(nullV ⟨k, i, s⟩).s.toArray⟩]) w) := by
  obtain ⟨w0, hw0⟩ : ∃ w0, ((w.alloc (.cells #[.int .i64 k, .int .i64 i, .string ⟨s.toArray⟩] 26)).alloc (.cells #[.int .i64 k', .int .i64 i', .string ⟨s'.toArray⟩] 26)).alloc (.cells #[.int .i64 0, .int .i64 0, .string ⟨#[]⟩] 26) = w0 := ⟨_, rfl⟩
  have ka : Blk w0 w.heap.size 26 #[.int .i64 k, .int .i64 i, .string ⟨s.toArray⟩] := by rw [← hw0]; ((repeat' (first | with_reducible assumption | with_reducible refine Blk.drew ?_ | with_reducible refine Blk.drewN ?_ _ | with_reducible refine Blk.set3 ?_ _ _ _ | with_reducible refine Blk.far ?_ ?_ _ | ((with_reducible refine Blk.new' _ _ _ _ ?_) <;> (first | (simp; done) | (simp; omega) | omega) <;> done) | with_reducible refine Blk.alloc ?_ _ | with_reducible refine Blk3.drew ?_ | with_reducible refine Blk3.drewN ?_ _ | ((with_reducible refine Blk3.new' _ _ _ _ _ _ ?_) <;> (first | (simp; done) | (simp; omega) | omega) <;> done) | with_reducible refine Blk3.alloc ?_ _ | with_reducible refine Blk3.far ?_ ?_ _ | with_reducible refine Blk3.below ?_ (by assumption) ?_ | with_reducible refine Blk.below ?_ (by assumption) ?_)) <;> (first | (simp; done) | (simp; omega) | omega))
  have kr : Blk w0 (w.heap.size + 1 + 1) 26 #[.int .i64 0, .int .i64 0, .string ⟨#[]⟩] := by rw [← hw0]; ((repeat' (first | with_reducible assumption | with_reducible refine Blk.drew ?_ | with_reducible refine Blk.drewN ?_ _ | with_reducible refine Blk.set3 ?_ _ _ _ | with_reducible refine Blk.far ?_ ?_ _ | ((with_reducible refine Blk.new' _ _ _ _ ?_) <;> (first | (simp; done) | (simp; omega) | omega) <;> done) | with_reducible refine Blk.alloc ?_ _ | with_reducible refine Blk3.drew ?_ | with_reducible refine Blk3.drewN ?_ _ | ((with_reducible refine Blk3.new' _ _ _ _ _ _ ?_) <;> (first | (simp; done) | (simp; omega) | omega) <;> done) | with_reducible refine Blk3.alloc ?_ _ | with_reducible refine Blk3.far ?_ ?_ _ | with_reducible refine Blk3.below ?_ (by assumption) ?_ | with_reducible refine Blk.below ?_ (by assumption) ?_)) <;> (first | (simp; done) | (simp; omega) | omega))
  have hb0 : Below w.heap.size w w0 := by rw [← hw0]; ((with_reducible repeat' (first | exact Below.refl _ _ | assumption | refine Below.drew ?_ | refine below_drewN ?_ _ | refine Below.setCell ?_ ?_ _ | refine Below.alloc ?_ ?_ _ | refine Below.trans ?_ (Below.mono (by assumption) ?_))) <;> first | (simp; done) | (simp; omega) | omega)
  have HW := Lib.hid hw0
  clear hw0
  obtain ⟨⟨x0, x1, x2⟩, _⟩ := ka.three
  have hz0 := hb0.size
  obtain ⟨X, hX⟩ : ∃ X, nullV ⟨k, i, s⟩ = X := ⟨_, rfl⟩
  rw [hX]
  have HX := Lib.hid hX
  clear hX
  go_enter Tryz.func91, Tryz.ntmps91
  go_upto_region 1 with fail
  rw [HW.out]
  go_wp2_with fail
  refine (isNull_any k i s w0).mono ?_
  rintro e w1 ⟨rfl, hb1⟩
  have kr1 := kr.below hb1 kr.lt
  have lr1 := kr1.lt
  have hbw1 := hb0.trans (hb1.mono hz0)
  obtain ⟨⟨y0, y1, y2⟩, z0, z1, z2⟩ := kr1.three
  go_wp2_with fail
  refine bodyPost_ret (v := .agg #[.int .i64 (X).k, .int .i64 (X).i, .string ⟨(X).s.toArray⟩]) (by rw [← HX.out]; simp [results, Tryz.results91, go_sem, *]; exact ⟨rfl, rfl, rfl⟩) rfl ⟨rfl, ?_⟩
  ((with_reducible repeat' (first | exact Below.refl _ _ | assumption | refine Below.drew ?_ | refine below_drewN ?_ _ | refine Below.setCell ?_ ?_ _ | refine Below.alloc ?_ ?_ _ | refine Below.trans ?_ (Below.mono (by assumption) ?_))) <;> first | (simp; done) | (simp; omega) | omega)

def ValC (n : Nat) : Prop := ∀ (e : Ex) (A : Option Addr) (c : Nat) (A1 A2 : Option Addr) (c1 c2 m : Nat) (cols : List Col) (row : List V) (w : World), e.fit 1000 → okE n e → ExS 1000 n w w.heap.size A e.l →
    cols.length ≤ 1000000 → row.length ≤ 1000000 → ColS w w.heap.size A1 cols → VS w w.heap.size A2 row → (∀ x ∈ row, fitI x.i) → w.heap[m]? = some (.map doesE 8) →
    Calls Tryz.prog 51 #[.agg #[.slice A1 cols.length c1, .slice A2 row.length c2, .map (some m)], .agg (e.cells A c).toArray] w (Ret (.agg #[.int .i64 (evalE n cols row e).k, .int .i64 (evalE n cols row e).i, .string ⟨(evalE n cols row e).s.toArray⟩]) w)

theorem ops_of {e : Ex} (h : (e.l.length : Int) = partsF e.op) (hL : ¬ e.op = opLit) (hC : ¬ e.op = opCol) : (e.l.length = 1 ∧ (e.op = opNot ∨ e.op = opNull)) ∨ (e.l.length = 2 ∧ (e.op = opAnd ∨ e.op = opOr ∨ e.op = opEq ∨ e.op = opLt ∨ e.op = opPlus ∨ e.op = opMinus)) := by
  unfold partsF at h
  rw [if_neg (by simp [hL, hC])] at h
  split at h
  · left; exact ⟨by omega, by assumption⟩
  · split at h
    · right; exact ⟨by omega, by assumption⟩
    · omega


set_option maxRecDepth 100000 in
set_option maxHeartbeats 8000000 in
theorem val_step (n : Nat) (ih : ∀ m, n = m + 1 → ValC m) : ValC n := by
  intro e A c A1 A2 c1 c2 m cols row w hf hok hA hcl hrl hC hV hri hm
  have HA := Lib.hid hA
  have HIH := Lib.hid ih
  have HRI := Lib.hid hri
  have lm : m < w.heap.size := (Array.getElem?_eq_some_iff.1 hm).1
  have HM := Lib.hid hm
  obtain ⟨hfi, hf1, hf2, hf3⟩ := hf
  have HFI := Lib.hid hfi
  have HOK := Lib.hid hok
  obtain ⟨R, hR⟩ : ∃ R, evalE n cols row e = R := ⟨_, rfl⟩
  rw [hR]
  have HR := Lib.hid hR
  clear hA ih hR hfi hok hri hm
  obtain ⟨w0, hw0⟩ : ∃ w0, ((w.alloc (.cells #[.slice A1 cols.length c1, .slice A2 row.length c2, .map (some m)] 88)).alloc (.cells (e.cells A c).toArray 29)).alloc (.cells #[.int .i64 0, .int .i64 0, .string ⟨#[]⟩] 26) = w0 := ⟨_, rfl⟩
  have ko : Blk w0 w.heap.size 88 #[.slice A1 cols.length c1, .slice A2 row.length c2, .map (some m)] := by rw [← hw0]; ((repeat' (first | with_reducible assumption | with_reducible refine Blk.drew ?_ | with_reducible refine Blk.drewN ?_ _ | with_reducible refine Blk.set3 ?_ _ _ _ | with_reducible refine Blk.far ?_ ?_ _ | ((with_reducible refine Blk.new' _ _ _ _ ?_) <;> (first | (simp; done) | (simp; omega) | omega) <;> done) | with_reducible refine Blk.alloc ?_ _ | with_reducible refine Blk3.drew ?_ | with_reducible refine Blk3.drewN ?_ _ | ((with_reducible refine Blk3.new' _ _ _ _ _ _ ?_) <;> (first | (simp; done) | (simp; omega) | omega) <;> done) | with_reducible refine Blk3.alloc ?_ _ | with_reducible refine Blk3.far ?_ ?_ _ | with_reducible refine Blk3.below ?_ (by assumption) ?_ | with_reducible refine Blk.below ?_ (by assumption) ?_)) <;> (first | (simp; done) | (simp; omega) | omega))
  have ke : Blk w0 (w.heap.size + 1) 29 (e.cells A c).toArray := by rw [← hw0]; exact (Blk.new' _ _ _ _ (by simp)).alloc _
  have kr : Blk w0 (w.heap.size + 1 + 1) 26 #[.int .i64 0, .int .i64 0, .string ⟨#[]⟩] := by rw [← hw0]; exact Blk.new' _ _ _ _ (by simp)
  have hb0 : Below w.heap.size w w0 := by rw [← hw0]; ((with_reducible repeat' (first | exact Below.refl _ _ | assumption | refine Below.drew ?_ | refine below_drewN ?_ _ | refine Below.setCell ?_ ?_ _ | refine Below.alloc ?_ ?_ _ | refine Below.trans ?_ (Below.mono (by assumption) ?_))) <;> first | (simp; done) | (simp; omega) | omega)
  have HW := Lib.hid hw0
  clear hw0
  have hz0 := hb0.size
  have lr := kr.lt
  have hC0 := (hC.below hb0).more hz0
  have hV0 := (hV.below hb0).more hz0
  have HA0 := Lib.hid ((HA.out.below n hb0).more hz0 n)
  have HM0 := Lib.hid ((hb0.block m lm).trans HM.out)
  clear hC hV HA HM
  obtain ⟨q0, q1, q2, q3, q4, q5⟩ := ke.six
  obtain ⟨⟨o0, o1, o2⟩, _⟩ := ko.three
  obtain ⟨⟨r0, r1, r2⟩, t0, t1, t2⟩ := kr.three
  go_enter Tryz.func51, Tryz.ntmps51
  go_upto_region 1 with fail
  rw [HW.out]
  clear HW
  by_cases hL : e.op = opLit
  · have eL : (e.op == [108, 105, 116]) = true := by rw [hL]; rfl
    have HF : Hid (R = e.v) := by show _ = _; rw [← HR.out]; unfold evalE; rw [if_pos hL]
    clear hL
    go_wp2_with fail
    refine bodyPost_ret (v := .agg #[.int .i64 (R).k, .int .i64 (R).i, .string ⟨(R).s.toArray⟩]) (by rw [HF.out]; simp [results, Tryz.results51, go_sem, *]) rfl ⟨rfl, ?_⟩
    ((with_reducible repeat' (first | exact Below.refl _ _ | assumption | refine Below.drew ?_ | refine below_drewN ?_ _ | refine Below.setCell ?_ ?_ _ | refine Below.alloc ?_ ?_ _ | refine Below.trans ?_ (Below.mono (by assumption) ?_))) <;> first | (simp; done) | (simp; omega) | omega)
  have eL : (e.op == [108, 105, 116]) = false := by rw [beq_eq_false_iff_ne]; exact hL
  by_cases hCo : e.op = opCol
  · have eC : (e.op == [99, 111, 108]) = true := by rw [hCo]; rfl
    have hR1 : (if placeF cols e.s < 0 then V.zero else row.getD (placeF cols e.s).toNat V.zero) = R := by rw [← HR.out]; unfold evalE; rw [if_neg hL, if_pos hCo]
    have HR1 := Lib.hid hR1
    clear hL hCo hR1
    go_wp2_with fail
    refine (placeC_any A1 c1 cols e.s w0 hcl hC0).mono ?_
    rintro en w1 ⟨rfl, hb1⟩
    have hbw1 := hb0.trans (hb1.mono hz0)
    have hz1 := hbw1.size
    have hV1 := (hV0.below hb1).more hb1.size
    have kr1 := kr.below hb1 kr.lt
    have ko1 := ko.below hb1 ko.lt
    have lr1 := kr1.lt
    clear q0 q1 q2 q3 q4 q5 o0 o1 o2 r0 r1 r2 t0 t1 t2
    obtain ⟨⟨o0, o1, o2⟩, _⟩ := ko1.three
    obtain ⟨⟨r0, r1, r2⟩, t0, t1, t2⟩ := kr1.three
    obtain ⟨P, hP⟩ : ∃ P, placeF cols e.s = P := ⟨_, rfl⟩
    rw [hP] at HR1 ⊢
    clear hP
    by_cases hneg : P < 0
    · have HF : Hid (R = V.zero) := by show _ = _; rw [← HR1.out, if_pos hneg]
      go_wp2_with fail
      refine bodyPost_ret (v := .agg #[.int .i64 (R).k, .int .i64 (R).i, .string ⟨(R).s.toArray⟩]) (by rw [HF.out]; simp [results, Tryz.results51, go_sem, *, V.zero]) rfl ⟨rfl, ?_⟩
      ((with_reducible repeat' (first | exact Below.refl _ _ | assumption | refine Below.drew ?_ | refine below_drewN ?_ _ | refine Below.setCell ?_ ?_ _ | refine Below.alloc ?_ ?_ _ | refine Below.trans ?_ (Below.mono (by assumption) ?_))) <;> first | (simp; done) | (simp; omega) | omega)
    · obtain ⟨N, rfl⟩ : ∃ N : Nat, P = N := ⟨P.toNat, by omega⟩
      have hR2 : row.getD N V.zero = R := by rw [← HR1.out, if_neg hneg]; rfl
      by_cases hge : row.length ≤ N
      · have b2 : (row.length : Int) ≤ (N : Int) := by omega
        have HF : Hid (R = V.zero) := by show _ = _; rw [← hR2, List.getD_eq_getElem?_getD, List.getElem?_eq_none hge]; rfl
        clear hR2
        go_wp2_with fail
        refine bodyPost_ret (v := .agg #[.int .i64 (R).k, .int .i64 (R).i, .string ⟨(R).s.toArray⟩]) (by rw [HF.out]; simp [results, Tryz.results51, go_sem, *, V.zero]) rfl ⟨rfl, ?_⟩
        ((with_reducible repeat' (first | exact Below.refl _ _ | assumption | refine Below.drew ?_ | refine below_drewN ?_ _ | refine Below.setCell ?_ ?_ _ | refine Below.alloc ?_ ?_ _ | refine Below.trans ?_ (Below.mono (by assumption) ?_))) <;> first | (simp; done) | (simp; omega) | omega)
      · have b2 : ¬ (row.length : Int) ≤ (N : Int) := by omega
        have i1 : (0 : Int) ≤ (N : Int) := by omega
        have i2 : (N : Int) < (row.length : Int) := by omega
        obtain ⟨b1, o, x, rfl, hbB, hv, d0, d1, d2⟩ := hV1.at_ (j := N) (by omega)
        have HF : Hid (R = x) := by show _ = _; rw [← hR2, List.getD_eq_getElem?_getD, hv]; rfl
        clear hR2 hv
        go_wp2_with fail
        refine bodyPost_ret (v := .agg #[.int .i64 (R).k, .int .i64 (R).i, .string ⟨(R).s.toArray⟩]) (by rw [HF.out]; simp [results, Tryz.results51, go_sem, *]) rfl ⟨rfl, ?_⟩
        ((with_reducible repeat' (first | exact Below.refl _ _ | assumption | refine Below.drew ?_ | refine below_drewN ?_ _ | refine Below.setCell ?_ ?_ _ | refine Below.alloc ?_ ?_ _ | refine Below.trans ?_ (Below.mono (by assumption) ?_))) <;> first | (simp; done) | (simp; omega) | omega)
  have eC : (e.op == [99, 111, 108]) = false := by rw [beq_eq_false_iff_ne]; exact hCo
  have hops := ops_of (by have := HOK.out; unfold okE at this; exact this.1) hL hCo
  have HOPS := Lib.hid hops
  have hl2 : e.l.length ≤ 2 := by omega
  have hl1 : 1 ≤ e.l.length := by omega
  clear hops
  cases n with
  | zero => rw [show e.l = [] from HA0.out] at hl1; simp at hl1
  | succ n =>
    have hall : ∀ x ∈ e.l, okE n x := by
      have := HOK.out
      unfold okE at this
      rcases this.2 with h | h | h
      · exact absurd h hL
      · exact absurd h hCo
      · exact h
    have HALL := Lib.hid hall
    have hR4 : doF e.op ((e.l.map (evalE n cols row)).getD 0 V.zero) ((e.l.map (evalE n cols row)).getD 1 V.zero) = R := by rw [← HR.out]; conv => rhs; unfold evalE; rw [if_neg hL, if_neg hCo]
    have HR4 := Lib.hid hR4
    clear hall hR4 HR hL hCo HOK
    obtain ⟨w1, hw1⟩ : ∃ w1, w0.alloc (.cells #[.int .i64 0, .int .i64 0, .string ⟨#[]⟩, .int .i64 0, .int .i64 0, .string ⟨#[]⟩] 112) = w1 := ⟨_, rfl⟩
    have kf : Blk w1 w0.heap.size 112 #[.int .i64 0, .int .i64 0, .string ⟨#[]⟩, .int .i64 0, .int .i64 0, .string ⟨#[]⟩] := by rw [← hw1]; exact Blk.new _ _ _
    have hb1 : Below w0.heap.size w0 w1 := by rw [← hw1]; ((with_reducible repeat' (first | exact Below.refl _ _ | assumption | refine Below.drew ?_ | refine below_drewN ?_ _ | refine Below.setCell ?_ ?_ _ | refine Below.alloc ?_ ?_ _ | refine Below.trans ?_ (Below.mono (by assumption) ?_))) <;> first | (simp; done) | (simp; omega) | omega)
    have HW1 := Lib.hid hw1
    clear hw1
    have ko1 := ko.below hb1 ko.lt
    have ke1 := ke.below hb1 ke.lt
    have kr1 := kr.below hb1 kr.lt
    have lf1 := kf.lt
    clear r0 r1 r2 t0 t1 t2
    go_upto_region 10 with fail
    rw [HW1.out]
    clear HW1 q0 q1 q2 q3 q4 q5 o0 o1 o2
    obtain ⟨q0, q1, q2, q3, q4, q5⟩ := ke1.six
    go_wp2_with fail
    go_loopw [40] (fun i wr => ∃ (j : Nat) (va vb : V), j ≤ e.l.length ∧ i = .int .i64 j ∧ Blk wr w0.heap.size 112 #[.int .i64 va.k, .int .i64 va.i, .string ⟨va.s.toArray⟩, .int .i64 vb.k, .int .i64 vb.i, .string ⟨vb.s.toArray⟩] ∧ fitI va.i ∧ fitI vb.i ∧ Below w0.heap.size w0 wr ∧
      Hid (va = ((e.l.take j).map (evalE n cols row)).getD 0 V.zero ∧ vb = ((e.l.take j).map (evalE n cols row)).getD 1 V.zero)) (fun i _ => e.l.length - (intOf i).toNat)
    case atStart => exact ⟨0, V.zero, V.zero, by omega, rfl, kf, zero_in, zero_in, hb1, ⟨rfl, rfl⟩⟩
    case round =>
      obtain ⟨j, va, vb, hj, rfl, kfr, hva, hvb, hb0r, HJ⟩ := hrel
      have hbr : Below w.heap.size w wr := hb0.trans (hb0r.mono hz0)
      have hzr := hbr.size
      have koR := ko.below hb0r ko.lt
      have keR := ke.below hb0r ke.lt
      have krr := kr.below hb0r kr.lt
      have lfr := kfr.lt
      clear q0 q1 q2 q3 q4 q5
      obtain ⟨q0, q1, q2, q3, q4, q5⟩ := keR.six
      obtain ⟨⟨p0, p1, p2⟩, _⟩ := koR.three
      by_cases hlt : j < e.l.length
      · have hA3 : ExS 1000 (n + 1) wr w0.heap.size A e.l := HA0.out.below _ hb0r
        obtain ⟨b1, o1, x, A', c', rfl, hbB1, hv, hfx, hxc, hxm, ⟨d0, d1, d2, d3, d4, d5⟩, hx⟩ := hA3.at_ hlt
        have HFX := Lib.hid hfx
        have HOX := Lib.hid (HALL.out x (List.mem_of_getElem? hv))
        have hin : fitI (evalE n cols row x).i := evalE_in n cols row x hfx.1 HRI.out
        have i1 : (0 : Int) ≤ (j : Int) := by omega
        have i2 : (j : Int) < (e.l.length : Int) := by omega
        have HTK : Hid ((e.l.take (j + 1)).map (evalE n cols row) = (e.l.take j).map (evalE n cols row) ++ [evalE n cols row x]) := by
          show _ = _
          obtain ⟨hj', rfl⟩ := List.getElem?_eq_some_iff.1 hv
          rw [List.take_succ_eq_append_getElem hj', List.map_append]
          rfl
        have hlen : ((e.l.take j).map (evalE n cols row)).length = j := by rw [List.length_map, List.length_take]; omega
        have HLEN := Lib.hid hlen
        clear hv hA3 hfx hxm hlen
        obtain ⟨w2, hw2⟩ : ∃ w2, wr.alloc (.cells (x.cells A' c').toArray 29) = w2 := ⟨_, rfl⟩
        have kx2 : Blk w2 wr.heap.size 29 (x.cells A' c').toArray := by rw [← hw2]; exact Blk.new _ _ _
        have hb2 : Below wr.heap.size wr w2 := by rw [← hw2]; ((with_reducible repeat' (first | exact Below.refl _ _ | assumption | refine Below.drew ?_ | refine below_drewN ?_ _ | refine Below.setCell ?_ ?_ _ | refine Below.alloc ?_ ?_ _ | refine Below.trans ?_ (Below.mono (by assumption) ?_))) <;> first | (simp; done) | (simp; omega) | omega)
        have HW2 := Lib.hid hw2
        clear hw2
        have hb02 : Below w0.heap.size w0 w2 := hb0r.trans (hb2.mono hb0r.size)
        have HX2 := Lib.hid (((hx.below _ (hb2.mono hb0r.size)).more (show w0.heap.size ≤ w2.heap.size by have := hb02.size; omega) n))
        have hC2 := (hC0.below hb02).more hb02.size
        have hV2 := (hV0.below hb02).more hb02.size
        have HM2 := Lib.hid ((hb02.block m (by omega)).trans HM0.out)
        have koW := ko.below hb02 ko.lt
        have kfW := kfr.below hb2 lfr
        have l2 := kx2.lt
        have hz2 := hb2.size
        clear hx
        obtain ⟨y0, y1, y2, y3, y4, y5⟩ := kx2.six
        go_upto_region 13 with fail
        rw [show wr.alloc (.cells #[.string ⟨x.op.toArray⟩, .int .i64 x.v.k, .int .i64 x.v.i, .string ⟨x.v.s.toArray⟩, .string ⟨x.s.toArray⟩, .slice A' x.l.length c'] 29) = w2 from HW2.out]
        clear HW2 d0 d1 d2 d3 d4 d5 p0 p1 p2 q0 q1 q2 q3 q4 q5
        obtain ⟨⟨p0, p1, p2⟩, _⟩ := koW.three
        go_wp2_with fail
        refine (HIH.out n rfl x A' c' A1 A2 c1 c2 m cols row w2 HFX.out HOX.out HX2.out hcl hrl hC2 hV2 HRI.out HM2.out).mono ?_
        obtain ⟨X, hX⟩ : ∃ X, evalE n cols row x = X := ⟨_, rfl⟩
        rw [hX] at HTK hin ⊢
        clear hX
        rintro en w4 ⟨rfl, hb4⟩
        have kf4 := kfW.below hb4 kfW.lt
        have hb04 : Below w0.heap.size w0 w4 := hb02.trans (hb4.mono hb02.size)
        have lf4 := kf4.lt
        have hj01 : j = 0 ∨ j = 1 := by omega
        have u0 : w4.cell? ⟨w0.heap.size, 0, none⟩ = some (.int .i64 va.k) := kf4.cell 0
        have z0 : w4.frozen? ⟨w0.heap.size, 0, none⟩ = false := kf4.frozen 0
        have u1 : w4.cell? ⟨w0.heap.size, 1, none⟩ = some (.int .i64 va.i) := kf4.cell 1
        have z1 : w4.frozen? ⟨w0.heap.size, 1, none⟩ = false := kf4.frozen 1
        have u2 : w4.cell? ⟨w0.heap.size, 2, none⟩ = some (.string ⟨va.s.toArray⟩) := kf4.cell 2
        have z2 : w4.frozen? ⟨w0.heap.size, 2, none⟩ = false := kf4.frozen 2
        have u3 : w4.cell? ⟨w0.heap.size, 3, none⟩ = some (.int .i64 vb.k) := kf4.cell 3
        have z3 : w4.frozen? ⟨w0.heap.size, 3, none⟩ = false := kf4.frozen 3
        have u4 : w4.cell? ⟨w0.heap.size, 4, none⟩ = some (.int .i64 vb.i) := kf4.cell 4
        have z4 : w4.frozen? ⟨w0.heap.size, 4, none⟩ = false := kf4.frozen 4
        have u5 : w4.cell? ⟨w0.heap.size, 5, none⟩ = some (.string ⟨vb.s.toArray⟩) := kf4.cell 5
        have z5 : w4.frozen? ⟨w0.heap.size, 5, none⟩ = false := kf4.frozen 5
        rcases hj01 with rfl | rfl
        · go_wp2_with fail
          go_roundw
          case rel =>
            refine ⟨1, X, vb, by omega, rfl, ((kf4.set_ 0 _).set_ 1 _).set_ 2 _, hin, hvb, by ((with_reducible repeat' (first | exact Below.refl _ _ | assumption | refine Below.drew ?_ | refine below_drewN ?_ _ | refine Below.setCell ?_ ?_ _ | refine Below.alloc ?_ ?_ _ | refine Below.trans ?_ (Below.mono (by assumption) ?_))) <;> first | (simp; done) | (simp; omega) | omega), ?_⟩
            rw [HTK.out]
            exact ⟨rfl, HJ.out.2⟩
          case measure => simp [intOf]; omega
        · go_wp2_with fail
          go_roundw
          case rel =>
            refine ⟨2, va, X, by omega, rfl, ((kf4.set_ 3 _).set_ 4 _).set_ 5 _, hva, hin, by ((with_reducible repeat' (first | exact Below.refl _ _ | assumption | refine Below.drew ?_ | refine below_drewN ?_ _ | refine Below.setCell ?_ ?_ _ | refine Below.alloc ?_ ?_ _ | refine Below.trans ?_ (Below.mono (by assumption) ?_))) <;> first | (simp; done) | (simp; omega) | omega), ?_⟩
            rw [HTK.out]
            have h1 := HJ.out.1
            have h2 := HLEN.out
            generalize (e.l.take 1).map (evalE n cols row) = L at *
            match L, h2 with
            | [y], _ => exact ⟨h1, rfl⟩
          case measure => simp [intOf]; omega
      · obtain rfl : j = e.l.length := by omega
        have b0 : ¬ ((e.l.length : Int) < (e.l.length : Int)) := by omega
        have hmr := (hb0r.block m (by omega)).trans HM0.out
        have hJ := HJ.out
        rw [List.take_length] at hJ
        rw [← hJ.1, ← hJ.2] at HR4
        have f0 : wr.cell? ⟨w0.heap.size, 0, none⟩ = some (.int .i64 va.k) := kfr.cell 0
        have f1 : wr.cell? ⟨w0.heap.size, 1, none⟩ = some (.int .i64 va.i) := kfr.cell 1
        have f2 : wr.cell? ⟨w0.heap.size, 2, none⟩ = some (.string ⟨va.s.toArray⟩) := kfr.cell 2
        have f3 : wr.cell? ⟨w0.heap.size, 3, none⟩ = some (.int .i64 vb.k) := kfr.cell 3
        have f4 : wr.cell? ⟨w0.heap.size, 4, none⟩ = some (.int .i64 vb.i) := kfr.cell 4
        have f5 : wr.cell? ⟨w0.heap.size, 5, none⟩ = some (.string ⟨vb.s.toArray⟩) := kfr.cell 5
        have hops := HOPS.out
        clear HJ hJ HOPS HA0 HIH
        rcases hops with ⟨_, hop | hop⟩ | ⟨_, hop | hop | hop | hop | hop | hop⟩
        ·
          have HOP : Hid (doF e.op va vb = notV va) := by show _ = _; rw [hop]; rfl
          have hlk := lookM (w := wr) (b := m) (f := 85) opNot hmr (i := 2) (by kernel_rfl)
          rw [← hop] at hlk
          have HLK := Lib.hid hop
          clear hop
          go_wp2_with fail
          refine (doNot_any va.k va.i va.s vb.k vb.i vb.s wr).mono ?_
          rintro en w7 ⟨rfl, hb7⟩
          have kr7 := krr.below hb7 krr.lt
          have lr7 := kr7.lt
          have hbw7 := hbr.trans (hb7.mono hzr)
          obtain ⟨⟨y0, y1, y2⟩, z0, z1, z2⟩ := kr7.three
          go_wp2_with fail
          refine bodyPost_ret (v := .agg #[.int .i64 (R).k, .int .i64 (R).i, .string ⟨(R).s.toArray⟩]) (by rw [← HR4.out, HOP.out]; simp [results, Tryz.results51, go_sem, *]; first | done | exact ⟨rfl, rfl, rfl⟩) rfl ⟨rfl, ?_⟩
          ((with_reducible repeat' (first | exact Below.refl _ _ | assumption | refine Below.drew ?_ | refine below_drewN ?_ _ | refine Below.setCell ?_ ?_ _ | refine Below.alloc ?_ ?_ _ | refine Below.trans ?_ (Below.mono (by assumption) ?_))) <;> first | (simp; done) | (simp; omega) | omega)
        ·
          have HOP : Hid (doF e.op va vb = nullV va) := by show _ = _; rw [hop]; rfl
          have hlk := lookM (w := wr) (b := m) (f := 91) opNull hmr (i := 7) (by kernel_rfl)
          rw [← hop] at hlk
          have HLK := Lib.hid hop
          clear hop
          go_wp2_with fail
          refine (doNull_any va.k va.i va.s vb.k vb.i vb.s wr).mono ?_
          rintro en w7 ⟨rfl, hb7⟩
          have kr7 := krr.below hb7 krr.lt
          have lr7 := kr7.lt
          have hbw7 := hbr.trans (hb7.mono hzr)
          obtain ⟨⟨y0, y1, y2⟩, z0, z1, z2⟩ := kr7.three
          go_wp2_with fail
          refine bodyPost_ret (v := .agg #[.int .i64 (R).k, .int .i64 (R).i, .string ⟨(R).s.toArray⟩]) (by rw [← HR4.out, HOP.out]; simp [results, Tryz.results51, go_sem, *]; first | done | exact ⟨rfl, rfl, rfl⟩) rfl ⟨rfl, ?_⟩
          ((with_reducible repeat' (first | exact Below.refl _ _ | assumption | refine Below.drew ?_ | refine below_drewN ?_ _ | refine Below.setCell ?_ ?_ _ | refine Below.alloc ?_ ?_ _ | refine Below.trans ?_ (Below.mono (by assumption) ?_))) <;> first | (simp; done) | (simp; omega) | omega)
        ·
          have HOP : Hid (doF e.op va vb = andV va vb) := by show _ = _; rw [hop]; rfl
          have hlk := lookM (w := wr) (b := m) (f := 83) opAnd hmr (i := 0) (by kernel_rfl)
          rw [← hop] at hlk
          have HLK := Lib.hid hop
          clear hop
          go_wp2_with fail
          refine (and_any va.k va.i va.s vb.k vb.i vb.s wr).mono ?_
          rintro en w7 ⟨rfl, hb7⟩
          have kr7 := krr.below hb7 krr.lt
          have lr7 := kr7.lt
          have hbw7 := hbr.trans (hb7.mono hzr)
          obtain ⟨⟨y0, y1, y2⟩, z0, z1, z2⟩ := kr7.three
          go_wp2_with fail
          refine bodyPost_ret (v := .agg #[.int .i64 (R).k, .int .i64 (R).i, .string ⟨(R).s.toArray⟩]) (by rw [← HR4.out, HOP.out]; simp [results, Tryz.results51, go_sem, *]; first | done | exact ⟨rfl, rfl, rfl⟩) rfl ⟨rfl, ?_⟩
          ((with_reducible repeat' (first | exact Below.refl _ _ | assumption | refine Below.drew ?_ | refine below_drewN ?_ _ | refine Below.setCell ?_ ?_ _ | refine Below.alloc ?_ ?_ _ | refine Below.trans ?_ (Below.mono (by assumption) ?_))) <;> first | (simp; done) | (simp; omega) | omega)
        ·
          have HOP : Hid (doF e.op va vb = orV va vb) := by show _ = _; rw [hop]; rfl
          have hlk := lookM (w := wr) (b := m) (f := 84) opOr hmr (i := 1) (by kernel_rfl)
          rw [← hop] at hlk
          have HLK := Lib.hid hop
          clear hop
          go_wp2_with fail
          refine (or_any va.k va.i va.s vb.k vb.i vb.s wr).mono ?_
          rintro en w7 ⟨rfl, hb7⟩
          have kr7 := krr.below hb7 krr.lt
          have lr7 := kr7.lt
          have hbw7 := hbr.trans (hb7.mono hzr)
          obtain ⟨⟨y0, y1, y2⟩, z0, z1, z2⟩ := kr7.three
          go_wp2_with fail
          refine bodyPost_ret (v := .agg #[.int .i64 (R).k, .int .i64 (R).i, .string ⟨(R).s.toArray⟩]) (by rw [← HR4.out, HOP.out]; simp [results, Tryz.results51, go_sem, *]; first | done | exact ⟨rfl, rfl, rfl⟩) rfl ⟨rfl, ?_⟩
          ((with_reducible repeat' (first | exact Below.refl _ _ | assumption | refine Below.drew ?_ | refine below_drewN ?_ _ | refine Below.setCell ?_ ?_ _ | refine Below.alloc ?_ ?_ _ | refine Below.trans ?_ (Below.mono (by assumption) ?_))) <;> first | (simp; done) | (simp; omega) | omega)
        ·
          have HOP : Hid (doF e.op va vb = equalV va vb) := by show _ = _; rw [hop]; rfl
          have hlk := lookM (w := wr) (b := m) (f := 87) opEq hmr (i := 3) (by kernel_rfl)
          rw [← hop] at hlk
          have HLK := Lib.hid hop
          clear hop
          go_wp2_with fail
          refine (equal_any va.k va.i va.s vb.k vb.i vb.s wr).mono ?_
          rintro en w7 ⟨rfl, hb7⟩
          have kr7 := krr.below hb7 krr.lt
          have lr7 := kr7.lt
          have hbw7 := hbr.trans (hb7.mono hzr)
          obtain ⟨⟨y0, y1, y2⟩, z0, z1, z2⟩ := kr7.three
          go_wp2_with fail
          refine bodyPost_ret (v := .agg #[.int .i64 (R).k, .int .i64 (R).i, .string ⟨(R).s.toArray⟩]) (by rw [← HR4.out, HOP.out]; simp [results, Tryz.results51, go_sem, *]; first | done | exact ⟨rfl, rfl, rfl⟩) rfl ⟨rfl, ?_⟩
          ((with_reducible repeat' (first | exact Below.refl _ _ | assumption | refine Below.drew ?_ | refine below_drewN ?_ _ | refine Below.setCell ?_ ?_ _ | refine Below.alloc ?_ ?_ _ | refine Below.trans ?_ (Below.mono (by assumption) ?_))) <;> first | (simp; done) | (simp; omega) | omega)
        ·
          have HOP : Hid (doF e.op va vb = lessV va vb) := by show _ = _; rw [hop]; rfl
          have hlk := lookM (w := wr) (b := m) (f := 88) opLt hmr (i := 4) (by kernel_rfl)
          rw [← hop] at hlk
          have HLK := Lib.hid hop
          clear hop
          go_wp2_with fail
          refine (less_any va.k va.i va.s vb.k vb.i vb.s wr).mono ?_
          rintro en w7 ⟨rfl, hb7⟩
          have kr7 := krr.below hb7 krr.lt
          have lr7 := kr7.lt
          have hbw7 := hbr.trans (hb7.mono hzr)
          obtain ⟨⟨y0, y1, y2⟩, z0, z1, z2⟩ := kr7.three
          go_wp2_with fail
          refine bodyPost_ret (v := .agg #[.int .i64 (R).k, .int .i64 (R).i, .string ⟨(R).s.toArray⟩]) (by rw [← HR4.out, HOP.out]; simp [results, Tryz.results51, go_sem, *]; first | done | exact ⟨rfl, rfl, rfl⟩) rfl ⟨rfl, ?_⟩
          ((with_reducible repeat' (first | exact Below.refl _ _ | assumption | refine Below.drew ?_ | refine below_drewN ?_ _ | refine Below.setCell ?_ ?_ _ | refine Below.alloc ?_ ?_ _ | refine Below.trans ?_ (Below.mono (by assumption) ?_))) <;> first | (simp; done) | (simp; omega) | omega)
        ·
          have HOP : Hid (doF e.op va vb = plusV va vb) := by show _ = _; rw [hop]; rfl
          have hlk := lookM (w := wr) (b := m) (f := 89) opPlus hmr (i := 5) (by kernel_rfl)
          rw [← hop] at hlk
          have HLK := Lib.hid hop
          clear hop
          go_wp2_with fail
          refine (plus_any va.k va.i va.s vb.k vb.i vb.s wr hva hvb).mono ?_
          rintro en w7 ⟨rfl, hb7⟩
          have kr7 := krr.below hb7 krr.lt
          have lr7 := kr7.lt
          have hbw7 := hbr.trans (hb7.mono hzr)
          obtain ⟨⟨y0, y1, y2⟩, z0, z1, z2⟩ := kr7.three
          go_wp2_with fail
          refine bodyPost_ret (v := .agg #[.int .i64 (R).k, .int .i64 (R).i, .string ⟨(R).s.toArray⟩]) (by rw [← HR4.out, HOP.out]; simp [results, Tryz.results51, go_sem, *]; first | done | exact ⟨rfl, rfl, rfl⟩) rfl ⟨rfl, ?_⟩
          ((with_reducible repeat' (first | exact Below.refl _ _ | assumption | refine Below.drew ?_ | refine below_drewN ?_ _ | refine Below.setCell ?_ ?_ _ | refine Below.alloc ?_ ?_ _ | refine Below.trans ?_ (Below.mono (by assumption) ?_))) <;> first | (simp; done) | (simp; omega) | omega)
        ·
          have HOP : Hid (doF e.op va vb = minusV va vb) := by show _ = _; rw [hop]; rfl
          have hlk := lookM (w := wr) (b := m) (f := 90) opMinus hmr (i := 6) (by kernel_rfl)
          rw [← hop] at hlk
          have HLK := Lib.hid hop
          clear hop
          go_wp2_with fail
          refine (minus_any va.k va.i va.s vb.k vb.i vb.s wr hva hvb).mono ?_
          rintro en w7 ⟨rfl, hb7⟩
          have kr7 := krr.below hb7 krr.lt
          have lr7 := kr7.lt
          have hbw7 := hbr.trans (hb7.mono hzr)
          obtain ⟨⟨y0, y1, y2⟩, z0, z1, z2⟩ := kr7.three
          go_wp2_with fail
          refine bodyPost_ret (v := .agg #[.int .i64 (R).k, .int .i64 (R).i, .string ⟨(R).s.toArray⟩]) (by rw [← HR4.out, HOP.out]; simp [results, Tryz.results51, go_sem, *]; first | done | exact ⟨rfl, rfl, rfl⟩) rfl ⟨rfl, ?_⟩
          ((with_reducible repeat' (first | exact Below.refl _ _ | assumption | refine Below.drew ?_ | refine below_drewN ?_ _ | refine Below.setCell ?_ ?_ _ | refine Below.alloc ?_ ?_ _ | refine Below.trans ?_ (Below.mono (by assumption) ?_))) <;> first | (simp; done) | (simp; omega) | omega)

theorem valE_any (n : Nat) : ValC n := by
  induction n with
  | zero => exact val_step 0 (fun m h => by omega)
  | succ n ih =>
    refine val_step (n + 1) (fun m h => ?_)
    obtain rfl : n = m := by omega
    exact ih

end Go.Proofs.YtdhjogmkhbpcgaaGreat
