/- RelParts. Condition: none but that the arguments read as a table with rows and an expression. -/
import Derived.Test.YtdhjogmkhbpcgaaGreatR7M
import Derived.Test.YtdhjogmkhbpcgaaGreatRelCkM
import Derived.Test.YtdhjogmkhbpcgaaGreatOpenRl
import Derived.Deep.CutBlock
import Derived.Deep.DeepCutAuto
import Derived.Deep.RegionWith
import Derived.IntWalk
namespace Go.Proofs.YtdhjogmkhbpcgaaGreat
open Go.RowKit

attribute [local go_sem] ByteArray.extract_mk ba_get ba_append
attribute [local go_sem ↓] Go.wp_at_zero Go.wp_at_succ run_eql_V run_neq_V

def isIn (a : List V) : List (List V) → Bool
  | [] => false
  | r :: l => rowsSame [a] [r] || isIn a l
theorem isIn_app (a : List V) : ∀ (l m : List (List V)), isIn a (l ++ m) = (isIn a l || isIn a m)
  | [], m => rfl
  | r :: l, m => by simp [isIn, isIn_app a l m, Bool.or_assoc]
theorem isIn_mem (a : List V) : ∀ (l : List (List V)), a ∈ l → isIn a l = true
  | [], h => by simp at h
  | r :: l, h => by
    rcases List.mem_cons.1 h with rfl | h
    · simp [isIn, rowsSame_self]
    · simp [isIn, isIn_mem a l h]
theorem rq_one {Y : World} {g : Nat} {t : TypeId} {r : List V} {A : Option Addr} {c : Nat} (hk : Blk Y g t #[.slice A r.length c]) (hW : WQ r A (Old Y.heap.size) Y) : RQ [r] (some ⟨g, 0, none⟩) (Old Y.heap.size) Y := fun _ =>
  ⟨g, 0, rfl, hk.lt, fun i s hs => by
    match i, hs with
    | 0, hs => cases hs; exact ⟨A, c, hk.cell 0, hW⟩⟩
theorem if_or {a b c : Bool} : (a || b || c) = (a || (b || c)) := Bool.or_assoc a b c

set_option maxRecDepth 100000 in
set_option maxHeartbeats 16000000 in
theorem relParts_walk (x : Rl) (p : RlP) (e : Ex) (A0 : Option Addr) (c0 n0 : Nat) (w : World) (hs : x.big) (hQ : RlQ maxLen x p (Old w.heap.size) w) (hf : e.fit maxLen) (hl : e.l.length ≤ maxLen) (hE : ExS maxLen n0 w w.heap.size A0 e.l) :
    Calls Tryz.prog 3 #[.agg (x.cells p).toArray, .agg (e.cells A0 c0).toArray] w (Ret (.bool true) w) := by
  obtain ⟨⟨⟨a1, k1⟩, ⟨a2, k2⟩, ⟨a3, k3⟩, ⟨a4, k4⟩⟩, ⟨a5, k5⟩⟩ := p
  obtain ⟨w0, hw0⟩ : ∃ w0, (w.alloc (.cells #[.string ⟨x.t.n.toArray⟩, .slice a1 x.t.cols.length k1, .int .i64 x.t.key, .slice a2 x.t.uniq.length k2, .slice a3 x.t.refs.length k3, .string ⟨x.t.chk.op.toArray⟩, .int .i64 x.t.chk.v.k, .int .i64 x.t.chk.v.i, .string ⟨x.t.chk.v.s.toArray⟩, .string ⟨x.t.chk.s.toArray⟩, .slice a4 x.t.chk.l.length k4, .slice a5 x.rows.length k5] 34)).alloc (.cells #[.string ⟨e.op.toArray⟩, .int .i64 e.v.k, .int .i64 e.v.i, .string ⟨e.v.s.toArray⟩, .string ⟨e.s.toArray⟩, .slice A0 e.l.length c0] 29) = w0 := ⟨_, rfl⟩
  have kx0 : Blk w0 w.heap.size 34 #[.string ⟨x.t.n.toArray⟩, .slice a1 x.t.cols.length k1, .int .i64 x.t.key, .slice a2 x.t.uniq.length k2, .slice a3 x.t.refs.length k3, .string ⟨x.t.chk.op.toArray⟩, .int .i64 x.t.chk.v.k, .int .i64 x.t.chk.v.i, .string ⟨x.t.chk.v.s.toArray⟩, .string ⟨x.t.chk.s.toArray⟩, .slice a4 x.t.chk.l.length k4, .slice a5 x.rows.length k5] := by rw [← hw0]; exact (Blk.new _ _ _).alloc _
  have ke0 : Blk w0 (w.heap.size + 1) 29 #[.string ⟨e.op.toArray⟩, .int .i64 e.v.k, .int .i64 e.v.i, .string ⟨e.v.s.toArray⟩, .string ⟨e.s.toArray⟩, .slice A0 e.l.length c0] := by rw [← hw0]; exact Blk.new' _ _ _ _ (by simp)
  have hb0 : Below w.heap.size w w0 := by rw [← hw0]; ((with_reducible repeat' (first | exact Below.refl _ _ | assumption | refine Below.drew ?_ | refine below_drewN ?_ _ | refine Below.setCell ?_ ?_ _ | refine Below.alloc ?_ ?_ _ | refine Below.trans ?_ (Below.mono (by assumption) ?_))) <;> first | (simp; done) | (simp; omega) | omega)
  have hz0 := hb0.size
  have hl1 : w.heap.size + 1 < w0.heap.size := ke0.lt
  have HSH : Hid (∀ w' : World, Below w0.heap.size w0 w' → (w'.cell? ⟨w.heap.size, 0, none⟩ = some (.string ⟨x.t.n.toArray⟩) ∧ w'.cell? ⟨w.heap.size, 1, none⟩ = some (.slice a1 x.t.cols.length k1) ∧ w'.cell? ⟨w.heap.size, 2, none⟩ = some (.int .i64 x.t.key) ∧ w'.cell? ⟨w.heap.size, 3, none⟩ = some (.slice a2 x.t.uniq.length k2) ∧ w'.cell? ⟨w.heap.size, 4, none⟩ = some (.slice a3 x.t.refs.length k3) ∧ w'.cell? ⟨w.heap.size, 5, none⟩ = some (.string ⟨x.t.chk.op.toArray⟩) ∧ w'.cell? ⟨w.heap.size, 6, none⟩ = some (.int .i64 x.t.chk.v.k) ∧ w'.cell? ⟨w.heap.size, 7, none⟩ = some (.int .i64 x.t.chk.v.i) ∧ w'.cell? ⟨w.heap.size, 8, none⟩ = some (.string ⟨x.t.chk.v.s.toArray⟩) ∧ w'.cell? ⟨w.heap.size, 9, none⟩ = some (.string ⟨x.t.chk.s.toArray⟩) ∧ w'.cell? ⟨w.heap.size, 10, none⟩ = some (.slice a4 x.t.chk.l.length k4) ∧ w'.cell? ⟨w.heap.size, 11, none⟩ = some (.slice a5 x.rows.length k5) ∧ w'.cell? ⟨w.heap.size + 1, 0, none⟩ = some (.string ⟨e.op.toArray⟩) ∧ w'.cell? ⟨w.heap.size + 1, 1, none⟩ = some (.int .i64 e.v.k) ∧ w'.cell? ⟨w.heap.size + 1, 2, none⟩ = some (.int .i64 e.v.i) ∧ w'.cell? ⟨w.heap.size + 1, 3, none⟩ = some (.string ⟨e.v.s.toArray⟩) ∧ w'.cell? ⟨w.heap.size + 1, 4, none⟩ = some (.string ⟨e.s.toArray⟩) ∧ w'.cell? ⟨w.heap.size + 1, 5, none⟩ = some (.slice A0 e.l.length c0))) := fun w' h => by
    have k := kx0.below h kx0.lt
    have q := ke0.below h ke0.lt
    exact ⟨k.cell 0, k.cell 1, k.cell 2, k.cell 3, k.cell 4, k.cell 5, k.cell 6, k.cell 7, k.cell 8, k.cell 9, k.cell 10, k.cell 11, q.cell 0, q.cell 1, q.cell 2, q.cell 3, q.cell 4, q.cell 5⟩
  have HFZ : Hid (∀ w' : World, Below w0.heap.size w0 w' → ∀ i, w'.frozen? ⟨w.heap.size, i, none⟩ = false ∧ w'.frozen? ⟨w.heap.size + 1, i, none⟩ = false) := fun w' h i => ⟨(kx0.below h kx0.lt).frozen i, (ke0.below h ke0.lt).frozen i⟩
  have hwx : ∀ Y : World, Below w0.heap.size w0 Y → Below w.heap.size w Y := fun Y h => hb0.trans (h.mono hz0)
  have HFW : Hid (∀ Y : World, Below w0.heap.size w0 Y → Calls Tryz.prog 8 #[.agg #[.string ⟨x.t.n.toArray⟩, .slice a1 x.t.cols.length k1, .int .i64 x.t.key, .slice a2 x.t.uniq.length k2, .slice a3 x.t.refs.length k3, .string ⟨x.t.chk.op.toArray⟩, .int .i64 x.t.chk.v.k, .int .i64 x.t.chk.v.i, .string ⟨x.t.chk.v.s.toArray⟩, .string ⟨x.t.chk.s.toArray⟩, .slice a4 x.t.chk.l.length k4, .slice a5 x.rows.length k5]] Y (RetRl x.few Y)) := fun Y h => few7_any x ⟨⟨⟨a1, k1⟩, ⟨a2, k2⟩, ⟨a3, k3⟩, ⟨a4, k4⟩⟩, ⟨a5, k5⟩⟩ Y hs (hQ.keep (old_keep (hwx Y h) (hwx Y h).size))
  have HFX : Hid (∀ Y : World, Below w0.heap.size w0 Y → Calls Tryz.prog 9 #[.agg #[.string ⟨e.op.toArray⟩, .int .i64 e.v.k, .int .i64 e.v.i, .string ⟨e.v.s.toArray⟩, .string ⟨e.s.toArray⟩, .slice A0 e.l.length c0]] Y (RetFewX (fewX e) Y)) := fun Y h => fewX_any e A0 c0 n0 Y hf hl ((hE.below n0 (hwx Y h)).more (hwx Y h).size n0)
  have hsm := few_small hs
  have hst := few_text hs
  obtain ⟨X, hX⟩ : ∃ X, x.few = X := ⟨_, rfl⟩
  obtain ⟨E, hEE⟩ : ∃ E, fewX e = E := ⟨_, rfl⟩
  rw [hX] at HFW hsm hst
  rw [hEE] at HFX
  have HSM := Lib.hid hsm
  have HST := Lib.hid hst
  have HW := Lib.hid hw0
  have HB0 := Lib.hid hb0
  have kx00 := kx0
  have ke00 := ke0
  dsimp only [Rl.cells, Ex.cells]
  clear hw0 hX hEE hsm hst hQ hE hf hl hs hwx
  obtain ⟨q0, q1, q2, q3, q4, q5, q6, q7, q8, q9, q10, q11, q12, q13, q14, q15, q16, q17⟩ := HSH.out w0 (Below.refl _ _)
  go_enter Tryz.func3, Tryz.ntmps3
  go_upto_region 1 with fail
  rw [HW.out]
  clear HW
  go_cut [] (fun wx => PSt w w.heap.size (w.heap.size + 1) 34 29 X E wx)
  case first =>
    go_region_with (first
      | (go_at_call 8; refine (HFW.out _ (by ((with_reducible repeat' (first | exact Below.refl _ _ | assumption | refine Below.drew ?_ | refine below_drewN ?_ _ | refine Below.setCell ?_ ?_ _ | refine Below.alloc ?_ ?_ _ | refine Below.trans ?_ (Below.mono (by assumption) ?_))) <;> first | (simp; done) | (simp; omega) | omega))).mono ?_; rintro en w1 ⟨⟨⟨⟨b1, l1⟩, ⟨b2, l2⟩, ⟨b3, l3⟩, ⟨b4, l4⟩⟩, ⟨b5, l5⟩⟩, rfl, hQ1, _, _, hb1⟩; dsimp only [Rl.cells]; have hz1 := hb1.size; (try simp at hz1); have hW1 : Below w0.heap.size w0 w1 := (by ((with_reducible repeat' (first | exact Below.refl _ _ | assumption | refine Below.drew ?_ | refine below_drewN ?_ _ | refine Below.setCell ?_ ?_ _ | refine Below.alloc ?_ ?_ _ | refine Below.trans ?_ (Below.mono (by assumption) ?_))) <;> first | (simp; done) | (simp; omega) | omega)); clear q0 q1 q2 q3 q4 q5 q6 q7 q8 q9 q10 q11 q12 q13 q14 q15 q16 q17; obtain ⟨q0, q1, q2, q3, q4, q5, q6, q7, q8, q9, q10, q11, q12, q13, q14, q15, q16, q17⟩ := HSH.out w1 hW1; have hfz := HFZ.out w1 hW1)
      | (go_at_call 9; refine (HFX.out _ (by ((with_reducible repeat' (first | exact Below.refl _ _ | assumption | refine Below.drew ?_ | refine below_drewN ?_ _ | refine Below.setCell ?_ ?_ _ | refine Below.alloc ?_ ?_ _ | refine Below.trans ?_ (Below.mono (by assumption) ?_))) <;> first | (simp; done) | (simp; omega) | omega))).mono ?_; rintro en w3 ⟨A, c, rfl, hE3, hb3⟩; dsimp only [Ex.cells]; have hz3 := hb3.size; (try simp at hz3); have hW3 : Below w0.heap.size w0 w3 := (by ((with_reducible repeat' (first | exact Below.refl _ _ | assumption | refine Below.drew ?_ | refine below_drewN ?_ _ | refine Below.setCell ?_ ?_ _ | refine Below.alloc ?_ ?_ _ | refine Below.trans ?_ (Below.mono (by assumption) ?_))) <;> first | (simp; done) | (simp; omega) | omega)); clear q0 q1 q2 q3 q4 q5 q6 q7 q8 q9 q10 q11 q12 q13 q14 q15 q16 q17; obtain ⟨q0, q1, q2, q3, q4, q5, q6, q7, q8, q9, q10, q11, q12, q13, q14, q15, q16, q17⟩ := HSH.out w3 hW3; have hfz := HFZ.out w3 hW3))
    all_goals
      go_wp2_with fail
      go_meet
      exact parts_fin (B := w0.heap.size) (HB0.out.trans (Below.mono (by ((with_reducible repeat' (first | exact Below.refl _ _ | assumption | refine Below.drew ?_ | refine below_drewN ?_ _ | refine Below.setCell ?_ ?_ _ | refine Below.alloc ?_ ?_ _ | refine Below.trans ?_ (Below.mono (by assumption) ?_))) <;> first | (simp; done) | (simp; omega) | omega)) hz0)) (Nat.le_refl _) (Nat.lt_succ_self _) hl1 (kx00.below (B := w0.heap.size) (by ((with_reducible repeat' (first | exact Below.refl _ _ | assumption | refine Below.drew ?_ | refine below_drewN ?_ _ | refine Below.setCell ?_ ?_ _ | refine Below.alloc ?_ ?_ _ | refine Below.trans ?_ (Below.mono (by assumption) ?_))) <;> first | (simp; done) | (simp; omega) | omega)) kx00.lt) (ke00.below (B := w0.heap.size) (by ((with_reducible repeat' (first | exact Below.refl _ _ | assumption | refine Below.drew ?_ | refine below_drewN ?_ _ | refine Below.setCell ?_ ?_ _ | refine Below.alloc ?_ ?_ _ | refine Below.trans ?_ (Below.mono (by assumption) ?_))) <;> first | (simp; done) | (simp; omega) | omega)) ke00.lt) (RlQ.upTo hQ1 (by ((with_reducible repeat' (first | exact Below.refl _ _ | assumption | refine Below.drew ?_ | refine below_drewN ?_ _ | refine Below.setCell ?_ ?_ _ | refine Below.alloc ?_ ?_ _ | refine Below.trans ?_ (Below.mono (by assumption) ?_))) <;> first | (simp; done) | (simp; omega) | omega)) (by first | (simp; done) | (simp; omega) | omega)) (ExR.upTo hE3 (by ((with_reducible repeat' (first | exact Below.refl _ _ | assumption | refine Below.drew ?_ | refine below_drewN ?_ _ | refine Below.setCell ?_ ?_ _ | refine Below.alloc ?_ ?_ _ | refine Below.trans ?_ (Below.mono (by assumption) ?_))) <;> first | (simp; done) | (simp; omega) | omega)) (by first | (simp; done) | (simp; omega) | omega))
  obtain ⟨b1, l1, b2, l2, b3, l3, b4, l4, b5, l5, A, c, kX, kE, hQX, hER, hbW⟩ := hcut
  obtain ⟨W1, rfl⟩ : ∃ W, W = wc := ⟨_, rfl⟩
  have HSX : Hid (∀ w' : World, Below W1.heap.size W1 w' → (w'.cell? ⟨w.heap.size, 0, none⟩ = some (.string ⟨X.t.n.toArray⟩) ∧ w'.cell? ⟨w.heap.size, 1, none⟩ = some (.slice b1 X.t.cols.length l1) ∧ w'.cell? ⟨w.heap.size, 2, none⟩ = some (.int .i64 X.t.key) ∧ w'.cell? ⟨w.heap.size, 3, none⟩ = some (.slice b2 X.t.uniq.length l2) ∧ w'.cell? ⟨w.heap.size, 4, none⟩ = some (.slice b3 X.t.refs.length l3) ∧ w'.cell? ⟨w.heap.size, 5, none⟩ = some (.string ⟨X.t.chk.op.toArray⟩) ∧ w'.cell? ⟨w.heap.size, 6, none⟩ = some (.int .i64 X.t.chk.v.k) ∧ w'.cell? ⟨w.heap.size, 7, none⟩ = some (.int .i64 X.t.chk.v.i) ∧ w'.cell? ⟨w.heap.size, 8, none⟩ = some (.string ⟨X.t.chk.v.s.toArray⟩) ∧ w'.cell? ⟨w.heap.size, 9, none⟩ = some (.string ⟨X.t.chk.s.toArray⟩) ∧ w'.cell? ⟨w.heap.size, 10, none⟩ = some (.slice b4 X.t.chk.l.length l4) ∧ w'.cell? ⟨w.heap.size, 11, none⟩ = some (.slice b5 X.rows.length l5) ∧ w'.cell? ⟨w.heap.size + 1, 0, none⟩ = some (.string ⟨E.op.toArray⟩) ∧ w'.cell? ⟨w.heap.size + 1, 1, none⟩ = some (.int .i64 E.v.k) ∧ w'.cell? ⟨w.heap.size + 1, 2, none⟩ = some (.int .i64 E.v.i) ∧ w'.cell? ⟨w.heap.size + 1, 3, none⟩ = some (.string ⟨E.v.s.toArray⟩) ∧ w'.cell? ⟨w.heap.size + 1, 4, none⟩ = some (.string ⟨E.s.toArray⟩) ∧ w'.cell? ⟨w.heap.size + 1, 5, none⟩ = some (.slice A E.l.length c))) := fun w' h => by
    have k := kX.below h kX.lt
    have q := kE.below h kE.lt
    exact ⟨k.cell 0, k.cell 1, k.cell 2, k.cell 3, k.cell 4, k.cell 5, k.cell 6, k.cell 7, k.cell 8, k.cell 9, k.cell 10, k.cell 11, q.cell 0, q.cell 1, q.cell 2, q.cell 3, q.cell 4, q.cell 5⟩
  have HQY : Hid (∀ Y : World, Below W1.heap.size W1 Y → RlQ 1000 X ⟨⟨⟨b1, l1⟩, ⟨b2, l2⟩, ⟨b3, l3⟩, ⟨b4, l4⟩⟩, ⟨b5, l5⟩⟩ (Old Y.heap.size) Y) := fun Y h => hQX.keep (old_keep h h.size)
  have HBF : Hid (∀ Y : World, Below W1.heap.size W1 Y → Below w.heap.size w Y) := fun Y h => hbW.trans (h.mono hbW.size)
  have HCHK : Hid (∀ Y : World, Below W1.heap.size W1 Y → Calls Tryz.prog 11 #[.agg #[.string ⟨X.t.n.toArray⟩, .slice b1 X.t.cols.length l1, .int .i64 X.t.key, .slice b2 X.t.uniq.length l2, .slice b3 X.t.refs.length l3, .string ⟨X.t.chk.op.toArray⟩, .int .i64 X.t.chk.v.k, .int .i64 X.t.chk.v.i, .string ⟨X.t.chk.v.s.toArray⟩, .string ⟨X.t.chk.s.toArray⟩, .slice b4 X.t.chk.l.length l4, .slice b5 X.rows.length l5]] Y (RetChk X Y)) := fun Y h => check7_any X ⟨⟨⟨b1, l1⟩, ⟨b2, l2⟩, ⟨b3, l3⟩, ⟨b4, l4⟩⟩, ⟨b5, l5⟩⟩ Y HST.out.1 HSM.out.2.1 HST.out.2 (HQY.out Y h)
  have hps : ¬ E.op = [] → (whereX X.t.cols X.rows E).2 = 0 → (whereX X.t.cols X.rows (.mk opNot V.zero [] [E])).2 = 0 → (whereX X.t.cols X.rows (.mk opNull V.zero [] [E])).2 = 0 → (∀ r ∈ X.rows, fitsX X.t r = 0) → _ := parts_sum (x := X) (e := E)
  obtain ⟨RA, hRA⟩ : ∃ R, whereX X.t.cols X.rows E = R := ⟨_, rfl⟩
  obtain ⟨RB, hRB⟩ : ∃ R, whereX X.t.cols X.rows (.mk opNot V.zero [] [E]) = R := ⟨_, rfl⟩
  obtain ⟨RC, hRC⟩ : ∃ R, whereX X.t.cols X.rows (.mk opNull V.zero [] [E]) = R := ⟨_, rfl⟩
  rw [hRA, hRB, hRC] at hps
  obtain ⟨La, fa⟩ := RA
  obtain ⟨Lb, fb⟩ := RB
  obtain ⟨Lc, fc⟩ := RC
  have HPS := Lib.hid hps
  have HWA : Hid (∀ Y : World, Below W1.heap.size W1 Y → Calls Tryz.prog 10 #[.agg #[.string ⟨X.t.n.toArray⟩, .slice b1 X.t.cols.length l1, .int .i64 X.t.key, .slice b2 X.t.uniq.length l2, .slice b3 X.t.refs.length l3, .string ⟨X.t.chk.op.toArray⟩, .int .i64 X.t.chk.v.k, .int .i64 X.t.chk.v.i, .string ⟨X.t.chk.v.s.toArray⟩, .string ⟨X.t.chk.s.toArray⟩, .slice b4 X.t.chk.l.length l4, .slice b5 X.rows.length l5], .agg #[.string ⟨E.op.toArray⟩, .int .i64 E.v.k, .int .i64 E.v.i, .string ⟨E.v.s.toArray⟩, .string ⟨E.s.toArray⟩, .slice A E.l.length c]] Y (RetRows (La, fa) Y)) := fun Y h => by
    obtain ⟨n, hn⟩ := hER.at_ (fun b h => h) h
    have := where_any X ⟨⟨⟨b1, l1⟩, ⟨b2, l2⟩, ⟨b3, l3⟩, ⟨b4, l4⟩⟩, ⟨b5, l5⟩⟩ E A c n Y HSM.out (HQY.out Y h) hER.1 hn
    rw [hRA] at this
    exact this
  have HWB : Hid (∀ (Y : World) (g : Nat), Blk Y g 29 #[.string ⟨E.op.toArray⟩, .int .i64 E.v.k, .int .i64 E.v.i, .string ⟨E.v.s.toArray⟩, .string ⟨E.s.toArray⟩, .slice A E.l.length c] → Below W1.heap.size W1 Y → Calls Tryz.prog 10 #[.agg #[.string ⟨X.t.n.toArray⟩, .slice b1 X.t.cols.length l1, .int .i64 X.t.key, .slice b2 X.t.uniq.length l2, .slice b3 X.t.refs.length l3, .string ⟨X.t.chk.op.toArray⟩, .int .i64 X.t.chk.v.k, .int .i64 X.t.chk.v.i, .string ⟨X.t.chk.v.s.toArray⟩, .string ⟨X.t.chk.s.toArray⟩, .slice b4 X.t.chk.l.length l4, .slice b5 X.rows.length l5], .agg #[.string ⟨#[110, 111, 116]⟩, .int .i64 0, .int .i64 0, .string ⟨#[]⟩, .string ⟨#[]⟩, .slice (some ⟨g, 0, none⟩) 1 1]] Y (RetRows (Lb, fb) Y)) := fun Y g hk h => by
    obtain ⟨n, hn⟩ := hER.at_ (fun b h => h) h
    have hS : ExS 1000 (n + 1) Y Y.heap.size (some ⟨g, 0, none⟩) [E] := exS_one hk hER.1 hER.2.1 hER.2.2.1 hn
    have := where_any X ⟨⟨⟨b1, l1⟩, ⟨b2, l2⟩, ⟨b3, l3⟩, ⟨b4, l4⟩⟩, ⟨b5, l5⟩⟩ (.mk opNot V.zero [] [E]) (some ⟨g, 0, none⟩) 1 (n + 1) Y HSM.out (HQY.out Y h) ⟨zero_in, by simp [Ex.op, opNot], by simp [Ex.s], by simp [Ex.v, V.zero]⟩ hS
    rw [hRB] at this
    exact this
  have HWC : Hid (∀ (Y : World) (g : Nat), Blk Y g 29 #[.string ⟨E.op.toArray⟩, .int .i64 E.v.k, .int .i64 E.v.i, .string ⟨E.v.s.toArray⟩, .string ⟨E.s.toArray⟩, .slice A E.l.length c] → Below W1.heap.size W1 Y → Calls Tryz.prog 10 #[.agg #[.string ⟨X.t.n.toArray⟩, .slice b1 X.t.cols.length l1, .int .i64 X.t.key, .slice b2 X.t.uniq.length l2, .slice b3 X.t.refs.length l3, .string ⟨X.t.chk.op.toArray⟩, .int .i64 X.t.chk.v.k, .int .i64 X.t.chk.v.i, .string ⟨X.t.chk.v.s.toArray⟩, .string ⟨X.t.chk.s.toArray⟩, .slice b4 X.t.chk.l.length l4, .slice b5 X.rows.length l5], .agg #[.string ⟨#[110, 117, 108, 108]⟩, .int .i64 0, .int .i64 0, .string ⟨#[]⟩, .string ⟨#[]⟩, .slice (some ⟨g, 0, none⟩) 1 1]] Y (RetRows (Lc, fc) Y)) := fun Y g hk h => by
    obtain ⟨n, hn⟩ := hER.at_ (fun b h => h) h
    have hS : ExS 1000 (n + 1) Y Y.heap.size (some ⟨g, 0, none⟩) [E] := exS_one hk hER.1 hER.2.1 hER.2.2.1 hn
    have := where_any X ⟨⟨⟨b1, l1⟩, ⟨b2, l2⟩, ⟨b3, l3⟩, ⟨b4, l4⟩⟩, ⟨b5, l5⟩⟩ (.mk opNull V.zero [] [E]) (some ⟨g, 0, none⟩) 1 (n + 1) Y HSM.out (HQY.out Y h) ⟨zero_in, by simp [Ex.op, opNull], by simp [Ex.s], by simp [Ex.v, V.zero]⟩ hS
    rw [hRC] at this
    exact this
  have hb1W1 : Below W1.heap.size W1 W1 := Below.refl _ _
  clear hps hRA hRB hRC hQX hER hbW kX kE HFW HFX HSH HFZ kx0 ke0 kx00 ke00 HB0
  obtain ⟨q0, q1, q2, q3, q4, q5, q6, q7, q8, q9, q10, q11, q12, q13, q14, q15, q16, q17⟩ := HSX.out W1 hb1W1
  go_wp2_with fail
  refine (HWA.out W1 hb1W1).mono ?_
  rintro en Y1 ⟨A1, c1, rfl, _, _, hR1, hb1Y1⟩
  have HR1 := Lib.hid hR1
  clear hR1 q0 q1 q2 q3 q4 q5 q6 q7 q8 q9 q10 q11 q12 q13 q14 q15 q16 q17
  obtain ⟨q0, q1, q2, q3, q4, q5, q6, q7, q8, q9, q10, q11, q12, q13, q14, q15, q16, q17⟩ := HSX.out Y1 hb1Y1
  obtain ⟨V2, hV2⟩ : ∃ V, Y1.alloc (.cells #[.string ⟨E.op.toArray⟩, .int .i64 E.v.k, .int .i64 E.v.i, .string ⟨E.v.s.toArray⟩, .string ⟨E.s.toArray⟩, .slice A E.l.length c] 29) = V := ⟨_, rfl⟩
  have kv2 : Blk V2 Y1.heap.size 29 #[.string ⟨E.op.toArray⟩, .int .i64 E.v.k, .int .i64 E.v.i, .string ⟨E.v.s.toArray⟩, .string ⟨E.s.toArray⟩, .slice A E.l.length c] := by rw [← hV2]; exact Blk.new _ _ _
  have hv2 : Below Y1.heap.size Y1 V2 := by rw [← hV2]; ((with_reducible repeat' (first | exact Below.refl _ _ | assumption | refine Below.drew ?_ | refine below_drewN ?_ _ | refine Below.setCell ?_ ?_ _ | refine Below.alloc ?_ ?_ _ | refine Below.trans ?_ (Below.mono (by assumption) ?_))) <;> first | (simp; done) | (simp; omega) | omega)
  have hb1v2 : Below W1.heap.size W1 V2 := hb1Y1.trans (hv2.mono hb1Y1.size)
  have HC2 := Lib.hid (HWB.out V2 _ kv2 hb1v2)
  have HV2 := Lib.hid hV2
  clear hV2 kv2
  go_wp2_with fail
  rw [HV2.out]
  refine HC2.out.mono ?_
  rintro en Y2 ⟨A2, c2, rfl, _, _, _, hby2⟩
  have hb1Y2 : Below W1.heap.size W1 Y2 := hb1v2.trans (hby2.mono hb1v2.size)
  have hbs2 : Below Y1.heap.size Y1 Y2 := hv2.trans (hby2.mono hv2.size)
  clear HC2 HV2 q0 q1 q2 q3 q4 q5 q6 q7 q8 q9 q10 q11 q12 q13 q14 q15 q16 q17
  obtain ⟨q0, q1, q2, q3, q4, q5, q6, q7, q8, q9, q10, q11, q12, q13, q14, q15, q16, q17⟩ := HSX.out Y2 hb1Y2
  obtain ⟨V3, hV3⟩ : ∃ V, Y2.alloc (.cells #[.string ⟨E.op.toArray⟩, .int .i64 E.v.k, .int .i64 E.v.i, .string ⟨E.v.s.toArray⟩, .string ⟨E.s.toArray⟩, .slice A E.l.length c] 29) = V := ⟨_, rfl⟩
  have kv3 : Blk V3 Y2.heap.size 29 #[.string ⟨E.op.toArray⟩, .int .i64 E.v.k, .int .i64 E.v.i, .string ⟨E.v.s.toArray⟩, .string ⟨E.s.toArray⟩, .slice A E.l.length c] := by rw [← hV3]; exact Blk.new _ _ _
  have hv3 : Below Y2.heap.size Y2 V3 := by rw [← hV3]; ((with_reducible repeat' (first | exact Below.refl _ _ | assumption | refine Below.drew ?_ | refine below_drewN ?_ _ | refine Below.setCell ?_ ?_ _ | refine Below.alloc ?_ ?_ _ | refine Below.trans ?_ (Below.mono (by assumption) ?_))) <;> first | (simp; done) | (simp; omega) | omega)
  have hb1v3 : Below W1.heap.size W1 V3 := hb1Y2.trans (hv3.mono hb1Y2.size)
  have HC3 := Lib.hid (HWC.out V3 _ kv3 hb1v3)
  have HV3 := Lib.hid hV3
  clear hV3 kv3
  go_wp2_with fail
  rw [HV3.out]
  refine HC3.out.mono ?_
  rintro en Y3 ⟨A3, c3, rfl, _, _, _, hby3⟩
  have hb1Y3 : Below W1.heap.size W1 Y3 := hb1v3.trans (hby3.mono hb1v3.size)
  have hbs3 : Below Y2.heap.size Y2 Y3 := hv3.trans (hby3.mono hv3.size)
  clear HC3 HV3 q0 q1 q2 q3 q4 q5 q6 q7 q8 q9 q10 q11 q12 q13 q14 q15 q16 q17
  obtain ⟨q0, q1, q2, q3, q4, q5, q6, q7, q8, q9, q10, q11, q12, q13, q14, q15, q16, q17⟩ := HSX.out Y3 hb1Y3
  by_cases ho : E.op = []
  · have o1 : (E.op == []) = true := by rw [ho]; rfl
    have o2 : E.op.isEmpty = true := by rw [ho]; rfl
    clear ho
    go_wp2_with fail
    refine (awake7_any _).mono ?_
    rintro en w9 ⟨rfl, hb9⟩
    go_wp2_with fail
    go_ret
    exact ⟨rfl, HBF.out _ (hb1Y3.trans (hb9.mono hb1Y3.size))⟩
  have o1 : (E.op == []) = false := by rw [beq_eq_false_iff_ne]; exact ho
  have o2 : E.op.isEmpty = false := by cases he : E.op with | nil => exact absurd he ho | cons _ _ => rfl
  by_cases hfa : fa = 0
  case neg =>
    have e1 : (fa != 0) = true := by simpa using hfa
    clear hfa ho
    go_wp2_with fail
    refine (awake7_any _).mono ?_
    rintro en w9 ⟨rfl, hb9⟩
    go_wp2_with fail
    go_ret
    exact ⟨rfl, HBF.out _ (hb1Y3.trans (hb9.mono hb1Y3.size))⟩
  by_cases hfb : fb = 0
  case neg =>
    have e1 : (fb != 0) = true := by simpa using hfb
    have e2 : (fa != 0) = false := by simpa using hfa
    clear hfb hfa ho
    go_wp2_with fail
    refine (awake7_any _).mono ?_
    rintro en w9 ⟨rfl, hb9⟩
    go_wp2_with fail
    go_ret
    exact ⟨rfl, HBF.out _ (hb1Y3.trans (hb9.mono hb1Y3.size))⟩
  by_cases hfc : fc = 0
  case neg =>
    have e1 : (fc != 0) = true := by simpa using hfc
    have e2 : (fa != 0) = false := by simpa using hfa
    have e3 : (fb != 0) = false := by simpa using hfb
    clear hfc hfb hfa ho
    go_wp2_with fail
    refine (awake7_any _).mono ?_
    rintro en w9 ⟨rfl, hb9⟩
    go_wp2_with fail
    go_ret
    exact ⟨rfl, HBF.out _ (hb1Y3.trans (hb9.mono hb1Y3.size))⟩
  subst hfa
  subst hfb
  subst hfc
  have HPS2 := Lib.hid (HPS.out ho rfl rfl rfl)
  clear ho HPS
  go_wp2_with fail
  refine (HCHK.out Y3 hb1Y3).mono ?_
  rintro en Y4 ⟨n, rfl, hn, hb4⟩
  have hb1Y4 : Below W1.heap.size W1 Y4 := hb1Y3.trans (hb4.mono hb1Y3.size)
  have HNN := Lib.hid hn
  clear hn q0 q1 q2 q3 q4 q5 q6 q7 q8 q9 q10 q11 q12 q13 q14 q15 q16 q17 HCHK HWA HWB HWC
  obtain ⟨q0, q1, q2, q3, q4, q5, q6, q7, q8, q9, q10, q11, q12, q13, q14, q15, q16, q17⟩ := HSX.out Y4 hb1Y4
  by_cases hn0 : n = 0
  case neg =>
    have e1 : (n != 0) = true := by simpa using hn0
    clear hn0 HNN
    go_wp2_with fail
    refine (awake7_any _).mono ?_
    rintro en w9 ⟨rfl, hb9⟩
    go_wp2_with fail
    go_ret
    exact ⟨rfl, HBF.out _ (hb1Y4.trans (hb9.mono hb1Y4.size))⟩
  subst hn0
  obtain ⟨hsum, hsub⟩ := HPS2.out (HNN.out rfl).2.2.1
  have HSUB := Lib.hid hsub
  have hX1000 : X.rows.length ≤ 1000 := HSM.out.2.1
  have e1 : IntKind.i64.wrap ((La.length : Int) + (Lb.length : Int)) = ((La.length : Int) + (Lb.length : Int)) := IntWalk.i64_in _ (by omega)
  have e2 : IntKind.i64.wrap ((La.length : Int) + (Lb.length : Int) + (Lc.length : Int)) = (X.rows.length : Int) := by rw [IntWalk.i64_in _ (by omega)]; omega
  have hLa : La.length ≤ 1000 := by omega
  clear hsum hsub HNN HPS2
  go_wp2_with fail
  go_loopw [11] (fun s wr => ∃ i : Nat, i ≤ La.length ∧ s = .int .i64 i ∧ Below W1.heap.size W1 wr ∧ Below Y1.heap.size Y1 wr) (fun s _ => La.length - (intOf s).toNat)
  case atStart => exact ⟨0, by omega, rfl, hb1Y4, (hbs2.trans (hbs3.mono hbs2.size)).trans (hb4.mono (Nat.le_trans hbs2.size hbs3.size))⟩
  case round =>
    obtain ⟨i, hi, rfl, hbr, hbq⟩ := hrel
    clear q0 q1 q2 q3 q4 q5 q6 q7 q8 q9 q10 q11 q12 q13 q14 q15 q16 q17
    obtain ⟨W, rfl⟩ : ∃ W, W = wr := ⟨_, rfl⟩
    obtain ⟨q0, q1, q2, q3, q4, q5, q6, q7, q8, q9, q10, q11, q12, q13, q14, q15, q16, q17⟩ := HSX.out W hbr
    have hzr := hbr.size
    by_cases hlt : i < La.length
    · have hRA : RQ La A1 (Old W.heap.size) W := HR1.out.keep fun b hb => ⟨Nat.lt_of_lt_of_le hb.2 hbq.size, fun o => hbq.cell (p := ⟨b, o, none⟩) hb.2⟩
      obtain ⟨ab, ao, ra, A7, c7, rfl, habB, hva, cra, hWa⟩ := hRA.at_ hlt
      have hmem := HSUB.out ra (List.mem_of_getElem? hva)
      have HIN := Lib.hid (isIn_mem ra X.rows hmem)
      have HRA2 : Hid (∀ Y : World, Below W.heap.size W Y → Y.cell? ⟨ab, ao + i, none⟩ = some (.slice A7 ra.length c7) ∧ WQ ra A7 (Old Y.heap.size) Y) := fun Y h => ⟨(h.cell (p := ⟨ab, ao + i, none⟩) habB).trans cra, hWa.keep (old_keep h h.size)⟩
      have HLR : Hid (ra.length ≤ maxLen) := (small_len HSM.out).2 ra hmem
      have i1 : (0 : Int) ≤ (i : Int) := by omega
      have i2 : (i : Int) < (La.length : Int) := by omega
      have hbW0 : Below W.heap.size W W := Below.refl _ _
      clear hva hmem hRA hWa cra
      go_wp2_with fail
      go_loopw [12, 13] (fun f s wr => ∃ k : Nat, k ≤ X.rows.length ∧ f = .bool (isIn ra (X.rows.take k)) ∧ s = .int .i64 k ∧ Below W1.heap.size W1 wr ∧ Below W.heap.size W wr) (fun _ s _ => X.rows.length - (intOf s).toNat)
      case atStart => exact ⟨0, by omega, rfl, rfl, hbr, hbW0⟩
      case round =>
        obtain ⟨k, hk, rfl, rfl, hbr2, hbW2⟩ := hrel
        clear q0 q1 q2 q3 q4 q5 q6 q7 q8 q9 q10 q11 q12 q13 q14 q15 q16 q17
        obtain ⟨Z, rfl⟩ : ∃ W, W = wr := ⟨_, rfl⟩
        obtain ⟨q0, q1, q2, q3, q4, q5, q6, q7, q8, q9, q10, q11, q12, q13, q14, q15, q16, q17⟩ := HSX.out Z hbr2
        have hzr2 := hbr2.size
        have hzW2 := hbW2.size
        by_cases hlk : k < X.rows.length
        · obtain ⟨xb, xo, rx, A8, c8, rfl, hxbB, hvx, crx, hWx⟩ := (HQY.out Z hbr2).2.at_ hlk
          obtain ⟨cra, _⟩ := HRA2.out Z hbW2
          have HLX : Hid (rx.length ≤ maxLen) := (small_len HSM.out).2 rx (List.mem_of_getElem? hvx)
          have htk : isIn ra (X.rows.take (k + 1)) = (isIn ra (X.rows.take k) || rowsSame [ra] [rx]) := by
            rw [List.take_add_one, hvx, isIn_app]
            simp [isIn]
          have HTK := Lib.hid htk
          have HWX : Hid (∀ Y : World, Below Z.heap.size Z Y → WQ rx A8 (Old Y.heap.size) Y) := fun Y h => hWx.keep (old_keep h h.size)
          have habZ : ab < Z.heap.size := Nat.lt_of_lt_of_le habB hbW2.size
          have hrZ : w.heap.size < Z.heap.size := Blk_lt_of_cell q0
          have HSK : Hid (∀ w' : World, Below Z.heap.size Z w' → (w'.cell? ⟨w.heap.size, 11, none⟩ = some (.slice (some ⟨xb, xo, none⟩) X.rows.length l5) ∧ w'.cell? ⟨ab, ao + i, none⟩ = some (.slice A7 ra.length c7) ∧ w'.cell? ⟨xb, xo + k, none⟩ = some (.slice A8 rx.length c8))) := fun w' h => ⟨(h.cell (p := ⟨w.heap.size, 11, none⟩) hrZ).trans q11, (h.cell (p := ⟨ab, ao + i, none⟩) habZ).trans cra, (h.cell (p := ⟨xb, xo + k, none⟩) hxbB).trans crx⟩
          have i3 : (0 : Int) ≤ (k : Int) := by omega
          have i4 : (k : Int) < (X.rows.length : Int) := by omega
          obtain ⟨F, hF⟩ : ∃ F, isIn ra (X.rows.take k) = F := ⟨_, rfl⟩
          rw [hF] at HTK
          rw [hF]
          clear htk hvx hWx hF
          cases F
          · obtain ⟨S, hS⟩ : ∃ S, rowsSame [ra] [rx] = S := ⟨_, rfl⟩
            have HT2 : Hid (isIn ra (X.rows.take (k + 1)) = S) := by show _ = _; rw [HTK.out, hS]; rfl
            have HSR : Hid (∀ (Y : World) (g g' : Nat), Blk Y g 43 #[.slice A7 ra.length c7] → Blk Y g' 43 #[.slice A8 rx.length c8] → Below Z.heap.size Z Y → Calls Tryz.prog 13 #[.slice (some ⟨g, 0, none⟩) 1 1, .slice (some ⟨g', 0, none⟩) 1 1] Y (Ret (.bool S) Y)) := fun Y g g' h1 h2 h => by
              have := sameRows_any (some ⟨g, 0, none⟩) (some ⟨g', 0, none⟩) 1 1 [ra] [rx] Y (by simp) (by simp) (rq_one h1 (HRA2.out Y (hbW2.trans (h.mono hbW2.size))).2) (rq_one h2 (HWX.out Y h)) (fun r hr => by simp only [List.mem_singleton] at hr; rw [hr]; exact HLR.out) (fun r hr => by simp only [List.mem_singleton] at hr; rw [hr]; exact HLX.out)
              rw [hS] at this
              exact this
            clear hS HTK
            go_wp2_with fail
            skip
            refine wp_region_held_drew (S := (fun w' => w'.cell? ⟨w.heap.size, 11, none⟩ = some (.slice (some ⟨xb, xo, none⟩) X.rows.length l5) ∧ w'.cell? ⟨ab, ao + i, none⟩ = some (.slice A7 ra.length c7) ∧ w'.cell? ⟨xb, xo + k, none⟩ = some (.slice A8 rx.length c8))) (by kernel_rfl) ?_ (fun hHeld => ?_)
            · try dsimp only
              exact HSK.out _ (by ((with_reducible repeat' (first | exact Below.refl _ _ | assumption | refine Below.drew ?_ | refine below_drewN ?_ _ | refine Below.setCell ?_ ?_ _ | refine Below.alloc ?_ ?_ _ | refine Below.trans ?_ (Below.mono (by assumption) ?_))) <;> first | (simp; done) | (simp; omega) | omega))
            refine wpAnyH_take (i := 0) (v := ?_) rfl (by kernel_rfl) (by kernel_rfl) (by kernel_rfl) (fun _ _ _ h => h) (Or.inl ⟨by rfl, ?_⟩) (by assumption) ?_
            rotate_left
            · intro wq hSw
              try dsimp only at hSw
              go_simp
              try with_reducible rfl
            try simp only [Act.put, List.getElem_toArray, List.getElem_cons_zero, List.setIfInBounds_toArray, List.set_cons_zero, List.set_cons_succ]
            refine wpAnyH_take (i := 1) (v := ?_) rfl (by kernel_rfl) (by kernel_rfl) (by kernel_rfl) (fun _ _ _ h => h) (Or.inl ⟨by rfl, ?_⟩) (by assumption) ?_
            rotate_left
            · intro wq hSw
              try dsimp only at hSw
              go_simp
              try with_reducible rfl
            try simp only [Act.put, List.getElem_toArray, List.getElem_cons_zero, List.getElem_cons_succ, List.setIfInBounds_toArray, List.set_cons_zero, List.set_cons_succ]
            refine wpAnyH_take (i := 2) (v := ?_) rfl (by kernel_rfl) (by kernel_rfl) (by kernel_rfl) (fun _ _ _ h => h) (Or.inl ⟨by rfl, ?_⟩) (by assumption) ?_
            rotate_left
            · intro wq hSw
              try dsimp only at hSw
              go_simp
              try with_reducible rfl
            try simp only [Act.put, List.getElem_toArray, List.getElem_cons_zero, List.getElem_cons_succ, List.setIfInBounds_toArray, List.set_cons_zero, List.set_cons_succ]
            refine wpAnyH_take (i := 3) (v := ?_) rfl (by kernel_rfl) (by kernel_rfl) (by kernel_rfl) (fun _ _ _ h => h) (Or.inl ⟨by rfl, ?_⟩) (by assumption) ?_
            rotate_left
            · intro wq hSw
              try dsimp only at hSw
              go_simp
              try with_reducible rfl
            try simp only [Act.put, List.getElem_toArray, List.getElem_cons_zero, List.getElem_cons_succ, List.setIfInBounds_toArray, List.set_cons_zero, List.set_cons_succ]
            refine wpAnyH_take (i := 4) (v := ?_) rfl (by kernel_rfl) (by kernel_rfl) (by kernel_rfl) (fun _ _ _ h => h) (Or.inl ⟨by rfl, ?_⟩) (by assumption) ?_
            rotate_left
            · intro wq hSw
              try dsimp only at hSw
              go_simp
              try with_reducible rfl
            try simp only [Act.put, List.getElem_toArray, List.getElem_cons_zero, List.getElem_cons_succ, List.setIfInBounds_toArray, List.set_cons_zero, List.set_cons_succ]
            refine wpAnyH_take (i := 5) (v := ?_) rfl (by kernel_rfl) (by kernel_rfl) (by kernel_rfl) (fun _ _ _ h => h) (Or.inl ⟨by rfl, ?_⟩) (by assumption) ?_
            rotate_left
            · intro wq hSw
              try dsimp only at hSw
              go_simp
              try with_reducible rfl
            try simp only [Act.put, List.getElem_toArray, List.getElem_cons_zero, List.getElem_cons_succ, List.setIfInBounds_toArray, List.set_cons_zero, List.set_cons_succ]
            refine wpAnyH_take (i := 7) (v := ?_) rfl (by kernel_rfl) (by kernel_rfl) (by kernel_rfl) (fun _ _ _ h => h) (Or.inl ⟨by rfl, ?_⟩) (by assumption) ?_
            rotate_left
            · intro wq hSw
              try dsimp only at hSw
              go_simp
              try with_reducible rfl
            try simp only [Act.put, List.getElem_toArray, List.getElem_cons_zero, List.getElem_cons_succ, List.setIfInBounds_toArray, List.set_cons_zero, List.set_cons_succ]
            refine wpAnyH_take (i := 8) (v := ?_) rfl (by kernel_rfl) (by kernel_rfl) (by kernel_rfl) (fun _ _ _ h => h) (Or.inl ⟨by rfl, ?_⟩) (by assumption) ?_
            rotate_left
            · intro wq hSw
              try dsimp only at hSw
              go_simp
              try with_reducible rfl
            try simp only [Act.put, List.getElem_toArray, List.getElem_cons_zero, List.getElem_cons_succ, List.setIfInBounds_toArray, List.set_cons_zero, List.set_cons_succ]
            refine wpAnyH_take (i := 9) (v := ?_) rfl (by kernel_rfl) (by kernel_rfl) (by kernel_rfl) (fun _ _ _ h => h) (Or.inl ⟨by rfl, ?_⟩) (by assumption) ?_
            rotate_left
            · intro wq hSw
              try dsimp only at hSw
              go_simp
              try with_reducible rfl
            try simp only [Act.put, List.getElem_toArray, List.getElem_cons_zero, List.getElem_cons_succ, List.setIfInBounds_toArray, List.set_cons_zero, List.set_cons_succ]
            refine wpAnyH_take (i := 10) (v := ?_) rfl (by kernel_rfl) (by kernel_rfl) (by kernel_rfl) (fun _ _ _ h => h) (Or.inl ⟨by rfl, ?_⟩) (by assumption) ?_
            rotate_left
            · intro wq hSw
              try dsimp only at hSw
              go_simp
              try with_reducible rfl
            try simp only [Act.put, List.getElem_toArray, List.getElem_cons_zero, List.getElem_cons_succ, List.setIfInBounds_toArray, List.set_cons_zero, List.set_cons_succ]
            refine wpAnyH_take (i := 11) (v := ?_) rfl (by kernel_rfl) (by kernel_rfl) (by kernel_rfl) (fun _ _ _ h => h) (Or.inl ⟨by rfl, ?_⟩) (by assumption) ?_
            rotate_left
            · intro wq hSw
              try dsimp only at hSw
              go_simp
              try with_reducible rfl
            try simp only [Act.put, List.getElem_toArray, List.getElem_cons_zero, List.getElem_cons_succ, List.setIfInBounds_toArray, List.set_cons_zero, List.set_cons_succ]
            refine wpAnyH_ready (rs := [6, 12]) (by kernel_rfl) (by simp) ?_
            refine (AllReadyH.cons rfl (fun K hK => ?_) (AllReadyH.cons rfl (fun K hK => ?_) AllReadyH.nil))
            · skip
              go_simp
              skip
              go_wp2_with fail
              refine hK.out _ _ ?_ (fun hHeld => ?_)
              · try dsimp only
                exact HSK.out _ (by ((with_reducible repeat' (first | exact Below.refl _ _ | assumption | refine Below.drew ?_ | refine below_drewN ?_ _ | refine Below.setCell ?_ ?_ _ | refine Below.alloc ?_ ?_ _ | refine Below.trans ?_ (Below.mono (by assumption) ?_))) <;> first | (simp; done) | (simp; omega) | omega))
              clear hK K
              try simp only [Act.put, List.getElem_toArray, List.getElem_cons_zero, List.getElem_cons_succ, List.setIfInBounds_toArray, List.set_cons_zero, List.set_cons_succ]
              refine wpAnyH_ready (rs := [12]) (by kernel_rfl) (by simp) ?_
              refine AllReadyH.cons rfl (fun K hK => ?_) AllReadyH.nil
              go_simp
              skip
              go_wp2_with fail
              refine hK.out _ _ ?_ (fun hHeld => ?_)
              · try dsimp only
                exact HSK.out _ (by ((with_reducible repeat' (first | exact Below.refl _ _ | assumption | refine Below.drew ?_ | refine below_drewN ?_ _ | refine Below.setCell ?_ ?_ _ | refine Below.alloc ?_ ?_ _ | refine Below.trans ?_ (Below.mono (by assumption) ?_))) <;> first | (simp; done) | (simp; omega) | omega))
              clear hK K
              try simp only [Act.put, List.getElem_toArray, List.getElem_cons_zero, List.getElem_cons_succ, List.setIfInBounds_toArray, List.set_cons_zero, List.set_cons_succ]
              refine wpAnyH_ready (rs := [13]) (by kernel_rfl) (by simp) ?_
              refine AllReadyH.cons rfl (fun K hK => ?_) AllReadyH.nil
              go_simp
              (refine (HSR.out _ _ _ (by ((repeat' (first | with_reducible assumption | with_reducible refine Blk.drew ?_ | with_reducible refine Blk.drewN ?_ _ | with_reducible refine Blk.set3 ?_ _ _ _ | with_reducible refine Blk.far ?_ ?_ _ | ((with_reducible refine Blk.new' _ _ _ _ ?_) <;> (first | (simp; done) | (simp; omega) | omega) <;> done) | with_reducible refine Blk.alloc ?_ _ | with_reducible refine Blk3.drew ?_ | with_reducible refine Blk3.drewN ?_ _ | ((with_reducible refine Blk3.new' _ _ _ _ _ _ ?_) <;> (first | (simp; done) | (simp; omega) | omega) <;> done) | with_reducible refine Blk3.alloc ?_ _ | with_reducible refine Blk3.far ?_ ?_ _ | with_reducible refine Blk3.below ?_ (by assumption) ?_ | with_reducible refine Blk.below ?_ (by assumption) ?_)) <;> (first | (simp; done) | (simp; omega) | omega))) (by ((repeat' (first | with_reducible assumption | with_reducible refine Blk.drew ?_ | with_reducible refine Blk.drewN ?_ _ | with_reducible refine Blk.set3 ?_ _ _ _ | with_reducible refine Blk.far ?_ ?_ _ | ((with_reducible refine Blk.new' _ _ _ _ ?_) <;> (first | (simp; done) | (simp; omega) | omega) <;> done) | with_reducible refine Blk.alloc ?_ _ | with_reducible refine Blk3.drew ?_ | with_reducible refine Blk3.drewN ?_ _ | ((with_reducible refine Blk3.new' _ _ _ _ _ _ ?_) <;> (first | (simp; done) | (simp; omega) | omega) <;> done) | with_reducible refine Blk3.alloc ?_ _ | with_reducible refine Blk3.far ?_ ?_ _ | with_reducible refine Blk3.below ?_ (by assumption) ?_ | with_reducible refine Blk.below ?_ (by assumption) ?_)) <;> (first | (simp; done) | (simp; omega) | omega))) (by ((with_reducible repeat' (first | exact Below.refl _ _ | assumption | refine Below.drew ?_ | refine below_drewN ?_ _ | refine Below.setCell ?_ ?_ _ | refine Below.alloc ?_ ?_ _ | refine Below.trans ?_ (Below.mono (by assumption) ?_))) <;> first | (simp; done) | (simp; omega) | omega))).mono ?_) <;> rintro en w13 ⟨rfl, hb13⟩ <;> have hz13 := hb13.size <;> (try simp at hz13)
              go_wp2_with fail
              refine hK.out _ _ ?_ (fun hHeld => ?_)
              · try dsimp only
                exact HSK.out _ (by ((with_reducible repeat' (first | exact Below.refl _ _ | assumption | refine Below.drew ?_ | refine below_drewN ?_ _ | refine Below.setCell ?_ ?_ _ | refine Below.alloc ?_ ?_ _ | refine Below.trans ?_ (Below.mono (by assumption) ?_))) <;> first | (simp; done) | (simp; omega) | omega))
              clear hK K
              try simp only [Act.put, List.getElem_toArray, List.getElem_cons_zero, List.getElem_cons_succ, List.setIfInBounds_toArray, List.set_cons_zero, List.set_cons_succ]
              refine wpAnyH_take (i := 14) (v := ?_) rfl (by kernel_rfl) (by kernel_rfl) (by kernel_rfl) (fun _ _ _ h => h) (Or.inl ⟨by rfl, ?_⟩) (by assumption) ?_
              rotate_left
              · intro wq hSw
                try dsimp only at hSw
                go_simp
                try with_reducible rfl
              try simp only [Act.put, List.getElem_toArray, List.getElem_cons_zero, List.getElem_cons_succ, List.setIfInBounds_toArray, List.set_cons_zero, List.set_cons_succ]
              refine wpAnyH_take (i := 15) (v := ?_) rfl (by kernel_rfl) (by kernel_rfl) (by kernel_rfl) (fun _ _ _ h => h) (Or.inl ⟨by rfl, ?_⟩) (by assumption) ?_
              rotate_left
              · intro wq hSw
                try dsimp only at hSw
                go_simp
                try with_reducible rfl
              try simp only [Act.put, List.getElem_toArray, List.getElem_cons_zero, List.getElem_cons_succ, List.setIfInBounds_toArray, List.set_cons_zero, List.set_cons_succ]
              refine wpAnyH_done (by kernel_rfl) ?_ _
              have hbZ : Below Z.heap.size Z w13 := (by ((with_reducible repeat' (first | exact Below.refl _ _ | assumption | refine Below.drew ?_ | refine below_drewN ?_ _ | refine Below.setCell ?_ ?_ _ | refine Below.alloc ?_ ?_ _ | refine Below.trans ?_ (Below.mono (by assumption) ?_))) <;> first | (simp; done) | (simp; omega) | omega))
              go_wp2_with fail
              go_roundw
              case rel => exact ⟨k + 1, by omega, by rw [HT2.out], by go_num, hbr2.trans (hbZ.mono hzr2), hbW2.trans (hbZ.mono hzW2)⟩
              case measure => simp [intOf]; omega
            · skip
              go_simp
              skip
              go_wp2_with fail
              refine hK.out _ _ ?_ (fun hHeld => ?_)
              · try dsimp only
                exact HSK.out _ (by ((with_reducible repeat' (first | exact Below.refl _ _ | assumption | refine Below.drew ?_ | refine below_drewN ?_ _ | refine Below.setCell ?_ ?_ _ | refine Below.alloc ?_ ?_ _ | refine Below.trans ?_ (Below.mono (by assumption) ?_))) <;> first | (simp; done) | (simp; omega) | omega))
              clear hK K
              try simp only [Act.put, List.getElem_toArray, List.getElem_cons_zero, List.getElem_cons_succ, List.setIfInBounds_toArray, List.set_cons_zero, List.set_cons_succ]
              refine wpAnyH_ready (rs := [6]) (by kernel_rfl) (by simp) ?_
              refine AllReadyH.cons rfl (fun K hK => ?_) AllReadyH.nil
              go_simp
              skip
              go_wp2_with fail
              refine hK.out _ _ ?_ (fun hHeld => ?_)
              · try dsimp only
                exact HSK.out _ (by ((with_reducible repeat' (first | exact Below.refl _ _ | assumption | refine Below.drew ?_ | refine below_drewN ?_ _ | refine Below.setCell ?_ ?_ _ | refine Below.alloc ?_ ?_ _ | refine Below.trans ?_ (Below.mono (by assumption) ?_))) <;> first | (simp; done) | (simp; omega) | omega))
              clear hK K
              try simp only [Act.put, List.getElem_toArray, List.getElem_cons_zero, List.getElem_cons_succ, List.setIfInBounds_toArray, List.set_cons_zero, List.set_cons_succ]
              refine wpAnyH_ready (rs := [13]) (by kernel_rfl) (by simp) ?_
              refine AllReadyH.cons rfl (fun K hK => ?_) AllReadyH.nil
              go_simp
              (refine (HSR.out _ _ _ (by ((repeat' (first | with_reducible assumption | with_reducible refine Blk.drew ?_ | with_reducible refine Blk.drewN ?_ _ | with_reducible refine Blk.set3 ?_ _ _ _ | with_reducible refine Blk.far ?_ ?_ _ | ((with_reducible refine Blk.new' _ _ _ _ ?_) <;> (first | (simp; done) | (simp; omega) | omega) <;> done) | with_reducible refine Blk.alloc ?_ _ | with_reducible refine Blk3.drew ?_ | with_reducible refine Blk3.drewN ?_ _ | ((with_reducible refine Blk3.new' _ _ _ _ _ _ ?_) <;> (first | (simp; done) | (simp; omega) | omega) <;> done) | with_reducible refine Blk3.alloc ?_ _ | with_reducible refine Blk3.far ?_ ?_ _ | with_reducible refine Blk3.below ?_ (by assumption) ?_ | with_reducible refine Blk.below ?_ (by assumption) ?_)) <;> (first | (simp; done) | (simp; omega) | omega))) (by ((repeat' (first | with_reducible assumption | with_reducible refine Blk.drew ?_ | with_reducible refine Blk.drewN ?_ _ | with_reducible refine Blk.set3 ?_ _ _ _ | with_reducible refine Blk.far ?_ ?_ _ | ((with_reducible refine Blk.new' _ _ _ _ ?_) <;> (first | (simp; done) | (simp; omega) | omega) <;> done) | with_reducible refine Blk.alloc ?_ _ | with_reducible refine Blk3.drew ?_ | with_reducible refine Blk3.drewN ?_ _ | ((with_reducible refine Blk3.new' _ _ _ _ _ _ ?_) <;> (first | (simp; done) | (simp; omega) | omega) <;> done) | with_reducible refine Blk3.alloc ?_ _ | with_reducible refine Blk3.far ?_ ?_ _ | with_reducible refine Blk3.below ?_ (by assumption) ?_ | with_reducible refine Blk.below ?_ (by assumption) ?_)) <;> (first | (simp; done) | (simp; omega) | omega))) (by ((with_reducible repeat' (first | exact Below.refl _ _ | assumption | refine Below.drew ?_ | refine below_drewN ?_ _ | refine Below.setCell ?_ ?_ _ | refine Below.alloc ?_ ?_ _ | refine Below.trans ?_ (Below.mono (by assumption) ?_))) <;> first | (simp; done) | (simp; omega) | omega))).mono ?_) <;> rintro en w13 ⟨rfl, hb13⟩ <;> have hz13 := hb13.size <;> (try simp at hz13)
              go_wp2_with fail
              refine hK.out _ _ ?_ (fun hHeld => ?_)
              · try dsimp only
                exact HSK.out _ (by ((with_reducible repeat' (first | exact Below.refl _ _ | assumption | refine Below.drew ?_ | refine below_drewN ?_ _ | refine Below.setCell ?_ ?_ _ | refine Below.alloc ?_ ?_ _ | refine Below.trans ?_ (Below.mono (by assumption) ?_))) <;> first | (simp; done) | (simp; omega) | omega))
              clear hK K
              try simp only [Act.put, List.getElem_toArray, List.getElem_cons_zero, List.getElem_cons_succ, List.setIfInBounds_toArray, List.set_cons_zero, List.set_cons_succ]
              refine wpAnyH_take (i := 14) (v := ?_) rfl (by kernel_rfl) (by kernel_rfl) (by kernel_rfl) (fun _ _ _ h => h) (Or.inl ⟨by rfl, ?_⟩) (by assumption) ?_
              rotate_left
              · intro wq hSw
                try dsimp only at hSw
                go_simp
                try with_reducible rfl
              try simp only [Act.put, List.getElem_toArray, List.getElem_cons_zero, List.getElem_cons_succ, List.setIfInBounds_toArray, List.set_cons_zero, List.set_cons_succ]
              refine wpAnyH_take (i := 15) (v := ?_) rfl (by kernel_rfl) (by kernel_rfl) (by kernel_rfl) (fun _ _ _ h => h) (Or.inl ⟨by rfl, ?_⟩) (by assumption) ?_
              rotate_left
              · intro wq hSw
                try dsimp only at hSw
                go_simp
                try with_reducible rfl
              try simp only [Act.put, List.getElem_toArray, List.getElem_cons_zero, List.getElem_cons_succ, List.setIfInBounds_toArray, List.set_cons_zero, List.set_cons_succ]
              refine wpAnyH_done (by kernel_rfl) ?_ _
              have hbZ : Below Z.heap.size Z w13 := (by ((with_reducible repeat' (first | exact Below.refl _ _ | assumption | refine Below.drew ?_ | refine below_drewN ?_ _ | refine Below.setCell ?_ ?_ _ | refine Below.alloc ?_ ?_ _ | refine Below.trans ?_ (Below.mono (by assumption) ?_))) <;> first | (simp; done) | (simp; omega) | omega))
              go_wp2_with fail
              go_roundw
              case rel => exact ⟨k + 1, by omega, by rw [HT2.out], by go_num, hbr2.trans (hbZ.mono hzr2), hbW2.trans (hbZ.mono hzW2)⟩
              case measure => simp [intOf]; omega
          · have HT2 : Hid (isIn ra (X.rows.take (k + 1)) = true) := by show _ = _; rw [HTK.out]; rfl
            clear HTK
            go_wp2_with fail
            skip
            refine wp_region_held_drew (S := (fun w' => w'.cell? ⟨w.heap.size, 11, none⟩ = some (.slice (some ⟨xb, xo, none⟩) X.rows.length l5) ∧ w'.cell? ⟨ab, ao + i, none⟩ = some (.slice A7 ra.length c7) ∧ w'.cell? ⟨xb, xo + k, none⟩ = some (.slice A8 rx.length c8))) (by kernel_rfl) ?_ (fun hHeld => ?_)
            · try dsimp only
              exact HSK.out _ (by ((with_reducible repeat' (first | exact Below.refl _ _ | assumption | refine Below.drew ?_ | refine below_drewN ?_ _ | refine Below.setCell ?_ ?_ _ | refine Below.alloc ?_ ?_ _ | refine Below.trans ?_ (Below.mono (by assumption) ?_))) <;> first | (simp; done) | (simp; omega) | omega))
            refine wpAnyH_take (i := 0) (v := ?_) rfl (by kernel_rfl) (by kernel_rfl) (by kernel_rfl) (fun _ _ _ h => h) (Or.inl ⟨by rfl, ?_⟩) (by assumption) ?_
            rotate_left
            · intro wq hSw
              try dsimp only at hSw
              go_simp
              try with_reducible rfl
            try simp only [Act.put, List.getElem_toArray, List.getElem_cons_zero, List.setIfInBounds_toArray, List.set_cons_zero, List.set_cons_succ]
            refine wpAnyH_take (i := 1) (v := ?_) rfl (by kernel_rfl) (by kernel_rfl) (by kernel_rfl) (fun _ _ _ h => h) (Or.inl ⟨by rfl, ?_⟩) (by assumption) ?_
            rotate_left
            · intro wq hSw
              try dsimp only at hSw
              go_simp
              try with_reducible rfl
            try simp only [Act.put, List.getElem_toArray, List.getElem_cons_zero, List.getElem_cons_succ, List.setIfInBounds_toArray, List.set_cons_zero, List.set_cons_succ]
            refine wpAnyH_take (i := 2) (v := undef) rfl (by kernel_rfl) (by kernel_rfl) (by kernel_rfl) (fun _ _ _ h => h) (Or.inr ⟨by rfl, rfl⟩) (by assumption) ?_
            try simp only [Act.put, List.getElem_toArray, List.getElem_cons_zero, List.getElem_cons_succ, List.setIfInBounds_toArray, List.set_cons_zero, List.set_cons_succ]
            refine wpAnyH_take (i := 3) (v := undef) rfl (by kernel_rfl) (by kernel_rfl) (by kernel_rfl) (fun _ _ _ h => h) (Or.inr ⟨by rfl, rfl⟩) (by assumption) ?_
            try simp only [Act.put, List.getElem_toArray, List.getElem_cons_zero, List.getElem_cons_succ, List.setIfInBounds_toArray, List.set_cons_zero, List.set_cons_succ]
            refine wpAnyH_take (i := 4) (v := undef) rfl (by kernel_rfl) (by kernel_rfl) (by kernel_rfl) (fun _ _ _ h => h) (Or.inr ⟨by rfl, rfl⟩) (by assumption) ?_
            try simp only [Act.put, List.getElem_toArray, List.getElem_cons_zero, List.getElem_cons_succ, List.setIfInBounds_toArray, List.set_cons_zero, List.set_cons_succ]
            refine wpAnyH_take (i := 5) (v := undef) rfl (by kernel_rfl) (by kernel_rfl) (by kernel_rfl) (fun _ _ _ h => h) (Or.inr ⟨by rfl, rfl⟩) (by assumption) ?_
            try simp only [Act.put, List.getElem_toArray, List.getElem_cons_zero, List.getElem_cons_succ, List.setIfInBounds_toArray, List.set_cons_zero, List.set_cons_succ]
            refine wpAnyH_take (i := 6) (v := undef) rfl (by kernel_rfl) (by kernel_rfl) (by kernel_rfl) (fun _ _ _ h => h) (Or.inr ⟨by rfl, rfl⟩) (by assumption) ?_
            try simp only [Act.put, List.getElem_toArray, List.getElem_cons_zero, List.getElem_cons_succ, List.setIfInBounds_toArray, List.set_cons_zero, List.set_cons_succ]
            refine wpAnyH_take (i := 7) (v := undef) rfl (by kernel_rfl) (by kernel_rfl) (by kernel_rfl) (fun _ _ _ h => h) (Or.inr ⟨by rfl, rfl⟩) (by assumption) ?_
            try simp only [Act.put, List.getElem_toArray, List.getElem_cons_zero, List.getElem_cons_succ, List.setIfInBounds_toArray, List.set_cons_zero, List.set_cons_succ]
            refine wpAnyH_take (i := 8) (v := undef) rfl (by kernel_rfl) (by kernel_rfl) (by kernel_rfl) (fun _ _ _ h => h) (Or.inr ⟨by rfl, rfl⟩) (by assumption) ?_
            try simp only [Act.put, List.getElem_toArray, List.getElem_cons_zero, List.getElem_cons_succ, List.setIfInBounds_toArray, List.set_cons_zero, List.set_cons_succ]
            refine wpAnyH_take (i := 9) (v := undef) rfl (by kernel_rfl) (by kernel_rfl) (by kernel_rfl) (fun _ _ _ h => h) (Or.inr ⟨by rfl, rfl⟩) (by assumption) ?_
            try simp only [Act.put, List.getElem_toArray, List.getElem_cons_zero, List.getElem_cons_succ, List.setIfInBounds_toArray, List.set_cons_zero, List.set_cons_succ]
            refine wpAnyH_take (i := 10) (v := undef) rfl (by kernel_rfl) (by kernel_rfl) (by kernel_rfl) (fun _ _ _ h => h) (Or.inr ⟨by rfl, rfl⟩) (by assumption) ?_
            try simp only [Act.put, List.getElem_toArray, List.getElem_cons_zero, List.getElem_cons_succ, List.setIfInBounds_toArray, List.set_cons_zero, List.set_cons_succ]
            refine wpAnyH_take (i := 11) (v := undef) rfl (by kernel_rfl) (by kernel_rfl) (by kernel_rfl) (fun _ _ _ h => h) (Or.inr ⟨by rfl, rfl⟩) (by assumption) ?_
            try simp only [Act.put, List.getElem_toArray, List.getElem_cons_zero, List.getElem_cons_succ, List.setIfInBounds_toArray, List.set_cons_zero, List.set_cons_succ]
            refine wpAnyH_take (i := 12) (v := undef) rfl (by kernel_rfl) (by kernel_rfl) (by kernel_rfl) (fun _ _ _ h => h) (Or.inr ⟨by rfl, rfl⟩) (by assumption) ?_
            try simp only [Act.put, List.getElem_toArray, List.getElem_cons_zero, List.getElem_cons_succ, List.setIfInBounds_toArray, List.set_cons_zero, List.set_cons_succ]
            refine wpAnyH_take (i := 13) (v := undef) rfl (by kernel_rfl) (by kernel_rfl) (by kernel_rfl) (fun _ _ _ h => h) (Or.inr ⟨by rfl, rfl⟩) (by assumption) ?_
            try simp only [Act.put, List.getElem_toArray, List.getElem_cons_zero, List.getElem_cons_succ, List.setIfInBounds_toArray, List.set_cons_zero, List.set_cons_succ]
            refine wpAnyH_take (i := 14) (v := ?_) rfl (by kernel_rfl) (by kernel_rfl) (by kernel_rfl) (fun _ _ _ h => h) (Or.inl ⟨by rfl, ?_⟩) (by assumption) ?_
            rotate_left
            · intro wq hSw
              try dsimp only at hSw
              go_simp
              try with_reducible rfl
            try simp only [Act.put, List.getElem_toArray, List.getElem_cons_zero, List.getElem_cons_succ, List.setIfInBounds_toArray, List.set_cons_zero, List.set_cons_succ]
            refine wpAnyH_take (i := 15) (v := ?_) rfl (by kernel_rfl) (by kernel_rfl) (by kernel_rfl) (fun _ _ _ h => h) (Or.inl ⟨by rfl, ?_⟩) (by assumption) ?_
            rotate_left
            · intro wq hSw
              try dsimp only at hSw
              go_simp
              try with_reducible rfl
            try simp only [Act.put, List.getElem_toArray, List.getElem_cons_zero, List.getElem_cons_succ, List.setIfInBounds_toArray, List.set_cons_zero, List.set_cons_succ]
            refine wpAnyH_done (by kernel_rfl) ?_ _
            go_wp2_with fail
            go_roundw
            case rel => exact ⟨k + 1, by omega, by rw [HT2.out], by go_num, by ((with_reducible repeat' (first | exact Below.refl _ _ | assumption | refine Below.drew ?_ | refine below_drewN ?_ _ | refine Below.setCell ?_ ?_ _ | refine Below.alloc ?_ ?_ _ | refine Below.trans ?_ (Below.mono (by assumption) ?_))) <;> first | (simp; done) | (simp; omega) | omega), by ((with_reducible repeat' (first | exact Below.refl _ _ | assumption | refine Below.drew ?_ | refine below_drewN ?_ _ | refine Below.setCell ?_ ?_ _ | refine Below.alloc ?_ ?_ _ | refine Below.trans ?_ (Below.mono (by assumption) ?_))) <;> first | (simp; done) | (simp; omega) | omega)⟩
            case measure => simp [intOf]; omega
        obtain rfl : k = X.rows.length := by omega
        have b0 : ¬ ((X.rows.length : Int) < (X.rows.length : Int)) := by omega
        rw [List.take_length, HIN.out]
        go_wp2_with fail
        go_roundw
        case rel => exact ⟨i + 1, by omega, by go_num, hbr2, hbq.trans (hbW2.mono hbq.size)⟩
        case measure => simp [intOf]; omega
    obtain rfl : i = La.length := by omega
    have b0 : ¬ ((La.length : Int) < (La.length : Int)) := by omega
    go_wp2_with fail
    refine (awake7_any _).mono ?_
    rintro en w9 ⟨rfl, hb9⟩
    go_wp2_with fail
    go_ret
    exact ⟨rfl, HBF.out _ (hbr.trans (hb9.mono hbr.size))⟩

open Go.ChangeShapes Go.WideShapes Go.ChangeAt
set_option maxRecDepth 100000 in
theorem relParts_lifted (os : Os) (started : os.Started) (H : Type) (enc : TypeId × Value → H) :
    ReturnsInHanded {} Tryz.checked os 3 .any (Rows.relPartsSpec.pre6 enc Tryz.prog Tryz.f3 Rows.relPartsRow.domain false) (Rows.relPartsSpec.post enc Tryz.prog Tryz.f3 false true false false) := by
  refine returnsInHanded_of_change (C := Tryz.checked) own started (by kernel_rfl) Tryz.func3
    (ChangeSpec.witness6 (enc := enc) (C := Tryz.checked) false ⟨#[], #[.agg #[.string ⟨#[]⟩, .slice none 0 0, .int .i64 0, .slice none 0 0, .slice none 0 0, .string ⟨#[]⟩, .int .i64 0, .int .i64 0, .string ⟨#[]⟩, .string ⟨#[]⟩, .slice none 0 0, .slice none 0 0], .agg #[.string ⟨#[]⟩, .int .i64 0, .int .i64 0, .string ⟨#[]⟩, .string ⟨#[]⟩, .slice none 0 0]], []⟩ 8 (by kernel_rfl) (by kernel_rfl) (by kernel_rfl) (by kernel_rfl)) ?_
  intro W base args ds gs before hval0 hW hcnd _
  have hval : ∀ (j : Nat) t v, Tryz.f3.params[j]? = some t → args[j]? = some v → Value.okWide Tryz.prog W .any base t v := hval0
  have hW' := hW
  obtain ⟨p, q, hA0, hV, rfl, hfz, hnd⟩ := hW
  have hA : DataW.TrodAll enc Tryz.prog W 0 (fun _ => true) true Tryz.f3.params.toList args.toList ds p := hA0
  rw [Tryz.params3] at hA hval
  obtain ⟨v0, vs0, d0, ds0, p0, q0, hargs, rfl, rfl, h0, r0⟩ := trodAll_cons hA
  have k0 := h0
  have lt0 : ∀ x ∈ p0, x.block < W.heap.size := by obtain ⟨m, hm⟩ := k0; exact DataW.trod_lt m _ _ _ hm
  obtain ⟨v1, vs1, d1, ds1, p1, q1, rfl, rfl, rfl, h1, r1⟩ := trodAll_cons r0
  have k1 := h1
  have lt1 : ∀ x ∈ p1, x.block < W.heap.size := by obtain ⟨m, hm⟩ := k1; exact DataW.trod_lt m _ _ _ hm
  obtain ⟨rfl, rfl, rfl⟩ := trodAll_nil r1
  obtain rfl : args = #[v0, v1] := by cases args; simp_all
  obtain ⟨rfl, rfl⟩ := trodVars_none hV
  obtain ⟨x, p, rfl, hx, hq⟩ := open_rl (hval 0 34 v0 rfl rfl) h0
  obtain ⟨e, A0, c0, n0, rfl, hf, hl, hl', hE⟩ := open_ex (hval 1 29 v1 rfl rfl) h1
  clear hA0 hval0
  refine (relParts_walk x p e A0 c0 n0 W hx hq hf (Nat.le_trans hl hl') hE).mono fun e W' ⟨he, bel⟩ => ?_
  subst he
  exact ⟨_, rfl, _, _, _, [], _, [], hW', trodAll_mk1 (shut_bool Tryz.underlying4 _), (trodAll_cons_mk (Below.trod laidOut (by kernel_rfl) (of_decide_eq_true (by kernel_rfl)) k0 bel lt0) (trodAll_cons_mk (Below.trod laidOut (by kernel_rfl) (of_decide_eq_true (by kernel_rfl)) k1 bel lt1) trodAll_mk0)), rfl, bel.frame _, fun h => by cases h⟩

theorem relParts_over : Rows.relPartsRow.holds Tryz.pinned (OpenSpec.ofChange Rows.relPartsSpec) :=
  OpenClaim.holds_of_wide 3 Tryz.f3 rfl rfl rfl rfl rfl rfl rfl ⟨rfl, rfl, rfl, rfl, rfl⟩ rfl rfl rfl rfl rfl (by kernel_rfl) Tryz.func3 (by kernel_rfl)
    (of_decide_eq_true (by kernel_rfl)) (by unfold Func.isWrapper; first | (rw [if_pos (by decide +kernel)]; kernel_rfl) | (rw [if_neg (by decide +kernel)]; exact ⟨rfl, rfl⟩))
    (fun os started H enc _ => relParts_lifted os started H enc)

theorem relParts_holds : Rows.RelPartsSaid := relParts_over
#print axioms relParts_holds

end Go.Proofs.YtdhjogmkhbpcgaaGreat
