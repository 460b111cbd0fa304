/- caddislaw04.ExprTruths answers true, whatever expression, columns, row: one or its NOT is TRUE, or it is NULL; one and its NOT is never TRUE; it is NULL, or it is not. No condition beyond the row's own. -/
import Derived.Test.YtdnkkkgneikhkaaGreatDoorExprLaw4
import Derived.Test.YtdnkkkgneikhkaaGreatDoorAwake4
import Derived.Test.YtdnkkkgneikhkaaGreatDoorStageM
import Derived.Test.YtdnkkkgneikhkaaGreatDoorRef1Logic
import Derived.Deep.CutBlock
import Derived.Deep.DeepCutAuto
namespace Go.Proofs.YtdnkkkgneikhkaaGreatDoor
open Go.RowKit Go.ChangeMaps

attribute [local go_sem] ByteArray.extract_mk ba_get ba_append
attribute [local go_sem ↓] Go.wp_at_zero Go.wp_at_succ run_eql_V run_neq_V run_field0 run_field1 run_field2

/-- Three blocks, wherever they came to lie, hold three values. -/
def Held3 (W w : World) (p q r : Value) (x y z : V) : Prop :=
  ∃ g1 g2 g3, p = .pointer (some ⟨g1, 0, none⟩) ∧ q = .pointer (some ⟨g2, 0, none⟩) ∧ r = .pointer (some ⟨g3, 0, none⟩) ∧ Blk w g1 23 #[.int .i64 (x).k, .int .i64 (x).i, .string ⟨(x).s.toArray⟩] ∧ Blk w g2 23 #[.int .i64 (y).k, .int .i64 (y).i, .string ⟨(y).s.toArray⟩] ∧ Blk w g3 23 #[.int .i64 (z).k, .int .i64 (z).i, .string ⟨(z).s.toArray⟩] ∧ Below W.heap.size W w
def TruI (W : World) (v1 v2 v3 : Value) (F : Value → Value → Value → Value → Value → Value → Array Value) (L : Array Bool) (a : Act) (w : World) : Prop :=
  L.size = 18 ∧ (Up L 0 ∧ Up L 1 ∧ Up L 2 ∧ Up L 4 ∧ Up L 5 ∧ Up L 6 ∧ Up L 8 ∧ Up L 9 ∧ Up L 10) ∧ (L.getD 15 true = false ∧ L.getD 16 true = false ∧ L.getD 17 true = false) ∧ (Up L 11 → Up L 7) ∧ (Up L 7 → Up L 3) ∧ Below W.heap.size W w ∧
    ∃ U11 U12 U13 U51 U55 U59, a = ⟨F U11 U12 U13 U51 U55 U59, []⟩ ∧ Slot L 3 U51 v1 ∧ Slot L 7 U55 v2 ∧ Slot L 11 U59 v3 ∧ Newv L 12 W.heap.size w U11 ∧ Newv L 13 W.heap.size w U12 ∧ Newv L 14 W.heap.size w U13 ∧ Diff L 12 13 U11 U12 ∧ Diff L 12 14 U11 U13 ∧ Diff L 13 14 U12 U13

set_option maxRecDepth 100000 in
set_option maxHeartbeats 8000000 in
theorem exprTruths_walk (e : Ex) (A : Option Addr) (c n : Nat) (A1 A2 : Option Addr) (c1 c2 : Nat) (cols : List Col) (row : List V) (w : World) (hf : e.fit maxLen) (hl : e.l.length ≤ maxLen) (hA : ExS maxLen n w w.heap.size A e.l)
    (hcl : cols.length ≤ maxLen) (hC : ColS w w.heap.size A1 cols) (hcn : ∀ x ∈ cols, x.n.length ≤ maxLen) (hrl : row.length ≤ maxLen) (hV : VS w w.heap.size A2 row) (hri : ∀ x ∈ row, fitI x.i) (hE : Errs w) :
    Calls Tryz.prog 4 #[.agg (e.cells A c).toArray, .slice A1 cols.length c1, .slice A2 row.length c2] w (Ret (.bool true) w) := by
  obtain ⟨w0, hw0⟩ : ∃ w0, w.alloc (.cells (e.cells A c).toArray 26) = w0 := ⟨_, rfl⟩
  have kB0 : Blk w0 w.heap.size 26 (e.cells A c).toArray := by rw [← hw0]; exact Blk.new _ _ _
  have hb0 : Below w.heap.size w w0 := by rw [← hw0]; ((repeat' (first | with_reducible exact Below.refl _ _ | with_reducible assumption | with_reducible refine Below.drew ?_ | with_reducible refine below_drewN ?_ _ | with_reducible refine Below.setCell ?_ ?_ _ | with_reducible refine Below.alloc ?_ ?_ _ | with_reducible refine Below.trans ?_ (Below.mono (by assumption) ?_))) <;> (first | (simp; done) | (simp; omega) | omega))
  have hs0 : w0.heap.size = w.heap.size + 1 := by rw [← hw0]; simp
  have HW := Lib.hid hw0
  have HF := Lib.hid (fewX_any e A c n w0 hf hl ((hA.below n hb0).more hb0.size n))
  have hXf := fewX_fit e hf.1
  obtain ⟨X, hX⟩ : ∃ X, fewX e = X := ⟨_, rfl⟩
  rw [hX] at hXf
  have HX := Lib.hid hX
  have HXF := Lib.hid hXf
  have HCS : Hid (∀ Y, Below w.heap.size w Y → ColS Y Y.heap.size A1 cols) := fun Y h => (hC.below h).more h.size
  have HVS : Hid (∀ Y, Below w.heap.size w Y → VS Y Y.heap.size A2 row) := fun Y h => (hV.below h).more h.size
  have HCN := Lib.hid hcn
  have HRI := Lib.hid (fewL_in row hri)
  have HCL := Lib.hid (fewCols_len cols)
  have HRL := Lib.hid (fewL_len row)
  have HE := Lib.hid hE
  clear hw0 hf hA hX hXf hC hV hcn hri hE
  obtain ⟨q0, q1, q2, q3, q4, q5⟩ := kB0.six
  go_enter Tryz.func4, Tryz.ntmps4
  go_upto_region 1 with fail
  rw [HW.out]
  clear HW
  dsimp only [Ex.cells]
  go_wp2_with fail
  refine HF.out.mono ?_
  rw [HX.out]
  rintro en w1 ⟨A5, c5, rfl, hE1, hb1⟩
  dsimp only [Ex.cells]
  have hz1 := hb1.size
  have hbw1 := hb0.trans (hb1.mono hb0.size)
  clear HF q0 q1 q2 q3 q4 q5
  go_wp2_with fail
  refine (cols_any A1 c1 cols w1 hcl (HCS.out w1 hbw1) HCN.out).mono ?_
  obtain ⟨CO, hCO⟩ : ∃ CO, fewCols cols = CO := ⟨_, rfl⟩
  rw [hCO] at HCL ⊢
  clear hCO
  rintro en w2 ⟨A3, c3, rfl, hc31, hc32, hC2, hb2⟩
  have hz2 := hb2.size
  have hbw2 := hbw1.trans (hb2.mono hbw1.size)
  go_wp2_with fail
  refine (few_any A2 c2 row w2 hrl (HVS.out w2 hbw2)).mono ?_
  obtain ⟨RO, hRO⟩ : ∃ RO, fewL row = RO := ⟨_, rfl⟩
  rw [hRO] at HRL HRI ⊢
  clear hRO
  rintro en w3 ⟨A4, c4, rfl, hc41, hc42, hV3, hb3⟩
  have hz3 := hb3.size
  have hbw3 := hbw2.trans (hb3.mono hbw2.size)
  have kB3 := ((kB0.below hb1 kB0.lt).below hb2 (by omega)).below hb3 (by omega)
  have lB3 := kB3.lt
  have HE3 : Hid (ExR (fun b => w.heap.size < b ∧ b < w3.heap.size) X A5 c5 w3) := hE1.keep fun b hb => ⟨⟨by omega, by omega⟩, fun o => (hb3.cell (p := ⟨b, o, none⟩) (show b < _ by omega)).trans (hb2.cell (p := ⟨b, o, none⟩) hb.2)⟩
  have HC3 : Hid (ColF w3 (w.heap.size + 1) w3.heap.size A3 CO) := hC2.keep fun b h1 h2 => ⟨⟨by omega, by omega⟩, fun o => hb3.cell (p := ⟨b, o, none⟩) h2⟩
  have HV3 : Hid (VF w3 (w.heap.size + 1) w3.heap.size A4 RO) := hV3.keep fun b h1 h2 => ⟨⟨by omega, by omega⟩, fun o => rfl⟩
  obtain ⟨f0, f1, f2, f3, f4, f5⟩ := kB3.sixF
  obtain ⟨q0, q1, q2, q3, q4, q5⟩ := kB3.six
  clear hE1 hC2 hV3 hb1 hb2 hb3 hz1 hz2 hz3 hs0 hb0 hbw1 hbw2 kB0 HCS HVS HCN HX
  go_upto_region 2 with fail
  have hB6 := But.sixSet w3 w.heap.size (.string ⟨X.op.toArray⟩) (.int .i64 X.v.k) (.int .i64 X.v.i) (.string ⟨X.v.s.toArray⟩) (.string ⟨X.s.toArray⟩) (.slice A5 X.l.length c5)
  have h6 := hB6.size
  refine wp_forget (fun wx => Blk wx w.heap.size 26 (X.cells A5 c5).toArray ∧ Hid (ExR (fun b => b < wx.heap.size) X A5 c5 wx) ∧ Hid (ColS wx wx.heap.size A3 CO) ∧ Hid (VS wx wx.heap.size A4 RO) ∧ Below w.heap.size w wx)
    ⟨Blk.sixSet (e0 := e) kB3 _ _ _ _ _ _, HE3.out.keep fun b hb => ⟨by omega, fun o => hB6.cell hb.2 (by omega) o⟩, (HC3.out.keep (lo' := 0) fun b h1 h2 => ⟨⟨by omega, by omega⟩, fun o => hB6.cell h2 (by omega) o⟩).s (Nat.le_refl _), (HV3.out.keep (lo' := 0) fun b h1 h2 => ⟨⟨by omega, by omega⟩, fun o => hB6.cell h2 (by omega) o⟩).vs (Nat.le_refl _), by ((repeat' (first | with_reducible exact Below.refl _ _ | with_reducible assumption | with_reducible refine Below.drew ?_ | with_reducible refine below_drewN ?_ _ | with_reducible refine Below.setCell ?_ ?_ _ | with_reducible refine Below.alloc ?_ ?_ _ | with_reducible refine Below.trans ?_ (Below.mono (by assumption) ?_))) <;> (first | (simp; done) | (simp; omega) | omega))⟩ ?_
  clear hB6 h6 HE3 HC3 HV3 f0 f1 f2 f3 f4 f5 q0 q1 q2 q3 q4 q5 kB3 lB3 hbw3
  rintro W ⟨kX, HXW, HCW, HVW, hbw⟩
  have lX := kX.lt
  obtain ⟨w5, hw5⟩ : ∃ w5, ((((((((W.alloc (.cells #[.string ⟨X.op.toArray⟩, .int .i64 X.v.k, .int .i64 X.v.i, .string ⟨X.v.s.toArray⟩, .string ⟨X.s.toArray⟩, .slice A5 X.l.length c5] 26)).alloc (.cells #[.string ⟨#[110, 111, 116]⟩, .int .i64 0, .int .i64 0, .string ⟨#[]⟩, .string ⟨#[]⟩, .slice (some ⟨W.heap.size, 0, none⟩) 1 1] 26)).alloc (.cells #[.string ⟨X.op.toArray⟩, .int .i64 X.v.k, .int .i64 X.v.i, .string ⟨X.v.s.toArray⟩, .string ⟨X.s.toArray⟩, .slice A5 X.l.length c5] 26)).alloc (.cells #[.string ⟨#[110, 117, 108, 108]⟩, .int .i64 0, .int .i64 0, .string ⟨#[]⟩, .string ⟨#[]⟩, .slice (some ⟨W.heap.size + 1 + 1, 0, none⟩) 1 1] 26)).alloc (.cells #[.string ⟨X.op.toArray⟩, .int .i64 X.v.k, .int .i64 X.v.i, .string ⟨X.v.s.toArray⟩, .string ⟨X.s.toArray⟩, .slice A5 X.l.length c5, .string ⟨#[110, 111, 116]⟩, .int .i64 0, .int .i64 0, .string ⟨#[]⟩, .string ⟨#[]⟩, .slice (some ⟨W.heap.size, 0, none⟩) 1 1] 26)).alloc (.cells #[.string ⟨#[111, 114]⟩, .int .i64 0, .int .i64 0, .string ⟨#[]⟩, .string ⟨#[]⟩, .slice (some ⟨W.heap.size + 1 + 1 + 1 + 1, 0, none⟩) 2 2] 26)).alloc (.cells #[.string ⟨X.op.toArray⟩, .int .i64 X.v.k, .int .i64 X.v.i, .string ⟨X.v.s.toArray⟩, .string ⟨X.s.toArray⟩, .slice A5 X.l.length c5, .string ⟨#[110, 111, 116]⟩, .int .i64 0, .int .i64 0, .string ⟨#[]⟩, .string ⟨#[]⟩, .slice (some ⟨W.heap.size, 0, none⟩) 1 1] 26)).alloc (.cells #[.string ⟨#[97, 110, 100]⟩, .int .i64 0, .int .i64 0, .string ⟨#[]⟩, .string ⟨#[]⟩, .slice (some ⟨W.heap.size + 1 + 1 + 1 + 1 + 1 + 1, 0, none⟩) 2 2] 26)) = w5 := ⟨_, rfl⟩
  have k0 : Blk w5 (W.heap.size) 26 (X.cells A5 c5).toArray := show Blk w5 (W.heap.size) 26 #[.string ⟨X.op.toArray⟩, .int .i64 X.v.k, .int .i64 X.v.i, .string ⟨X.v.s.toArray⟩, .string ⟨X.s.toArray⟩, .slice A5 X.l.length c5] by rw [← hw5]; ((repeat' (first | with_reducible assumption | with_reducible refine Blk.drew ?_ | with_reducible refine Blk.drewN ?_ _ | with_reducible refine Blk.set3 ?_ _ _ _ | with_reducible refine Blk.far ?_ ?_ _ | ((with_reducible refine Blk.new' _ _ _ _ ?_) <;> (first | (simp; done) | (simp; omega) | omega) <;> done) | with_reducible refine Blk.alloc ?_ _ | with_reducible refine Blk3.drew ?_ | with_reducible refine Blk3.drewN ?_ _ | ((with_reducible refine Blk3.new' _ _ _ _ _ _ ?_) <;> (first | (simp; done) | (simp; omega) | omega) <;> done) | with_reducible refine Blk3.alloc ?_ _ | with_reducible refine Blk3.far ?_ ?_ _ | with_reducible refine Blk3.below ?_ (by assumption) ?_ | with_reducible refine Blk.below ?_ (by assumption) ?_)) <;> (first | (simp; done) | (simp; omega) | omega))
  have k2 : Blk w5 (W.heap.size + 1 + 1) 26 (X.cells A5 c5).toArray := show Blk w5 (W.heap.size + 1 + 1) 26 #[.string ⟨X.op.toArray⟩, .int .i64 X.v.k, .int .i64 X.v.i, .string ⟨X.v.s.toArray⟩, .string ⟨X.s.toArray⟩, .slice A5 X.l.length c5] by rw [← hw5]; ((repeat' (first | with_reducible assumption | with_reducible refine Blk.drew ?_ | with_reducible refine Blk.drewN ?_ _ | with_reducible refine Blk.set3 ?_ _ _ _ | with_reducible refine Blk.far ?_ ?_ _ | ((with_reducible refine Blk.new' _ _ _ _ ?_) <;> (first | (simp; done) | (simp; omega) | omega) <;> done) | with_reducible refine Blk.alloc ?_ _ | with_reducible refine Blk3.drew ?_ | with_reducible refine Blk3.drewN ?_ _ | ((with_reducible refine Blk3.new' _ _ _ _ _ _ ?_) <;> (first | (simp; done) | (simp; omega) | omega) <;> done) | with_reducible refine Blk3.alloc ?_ _ | with_reducible refine Blk3.far ?_ ?_ _ | with_reducible refine Blk3.below ?_ (by assumption) ?_ | with_reducible refine Blk.below ?_ (by assumption) ?_)) <;> (first | (simp; done) | (simp; omega) | omega))
  have k4 : Blk w5 (W.heap.size + 1 + 1 + 1 + 1) 26 (X.cells A5 c5 ++ (Ex.mk opNot V.zero [] [X]).cells (some ⟨W.heap.size, 0, none⟩) 1).toArray := show Blk w5 (W.heap.size + 1 + 1 + 1 + 1) 26 #[.string ⟨X.op.toArray⟩, .int .i64 X.v.k, .int .i64 X.v.i, .string ⟨X.v.s.toArray⟩, .string ⟨X.s.toArray⟩, .slice A5 X.l.length c5, .string ⟨#[110, 111, 116]⟩, .int .i64 0, .int .i64 0, .string ⟨#[]⟩, .string ⟨#[]⟩, .slice (some ⟨W.heap.size, 0, none⟩) 1 1] by rw [← hw5]; ((repeat' (first | with_reducible assumption | with_reducible refine Blk.drew ?_ | with_reducible refine Blk.drewN ?_ _ | with_reducible refine Blk.set3 ?_ _ _ _ | with_reducible refine Blk.far ?_ ?_ _ | ((with_reducible refine Blk.new' _ _ _ _ ?_) <;> (first | (simp; done) | (simp; omega) | omega) <;> done) | with_reducible refine Blk.alloc ?_ _ | with_reducible refine Blk3.drew ?_ | with_reducible refine Blk3.drewN ?_ _ | ((with_reducible refine Blk3.new' _ _ _ _ _ _ ?_) <;> (first | (simp; done) | (simp; omega) | omega) <;> done) | with_reducible refine Blk3.alloc ?_ _ | with_reducible refine Blk3.far ?_ ?_ _ | with_reducible refine Blk3.below ?_ (by assumption) ?_ | with_reducible refine Blk.below ?_ (by assumption) ?_)) <;> (first | (simp; done) | (simp; omega) | omega))
  have k6 : Blk w5 (W.heap.size + 1 + 1 + 1 + 1 + 1 + 1) 26 (X.cells A5 c5 ++ (Ex.mk opNot V.zero [] [X]).cells (some ⟨W.heap.size, 0, none⟩) 1).toArray := show Blk w5 (W.heap.size + 1 + 1 + 1 + 1 + 1 + 1) 26 #[.string ⟨X.op.toArray⟩, .int .i64 X.v.k, .int .i64 X.v.i, .string ⟨X.v.s.toArray⟩, .string ⟨X.s.toArray⟩, .slice A5 X.l.length c5, .string ⟨#[110, 111, 116]⟩, .int .i64 0, .int .i64 0, .string ⟨#[]⟩, .string ⟨#[]⟩, .slice (some ⟨W.heap.size, 0, none⟩) 1 1] by rw [← hw5]; ((repeat' (first | with_reducible assumption | with_reducible refine Blk.drew ?_ | with_reducible refine Blk.drewN ?_ _ | with_reducible refine Blk.set3 ?_ _ _ _ | with_reducible refine Blk.far ?_ ?_ _ | ((with_reducible refine Blk.new' _ _ _ _ ?_) <;> (first | (simp; done) | (simp; omega) | omega) <;> done) | with_reducible refine Blk.alloc ?_ _ | with_reducible refine Blk3.drew ?_ | with_reducible refine Blk3.drewN ?_ _ | ((with_reducible refine Blk3.new' _ _ _ _ _ _ ?_) <;> (first | (simp; done) | (simp; omega) | omega) <;> done) | with_reducible refine Blk3.alloc ?_ _ | with_reducible refine Blk3.far ?_ ?_ _ | with_reducible refine Blk3.below ?_ (by assumption) ?_ | with_reducible refine Blk.below ?_ (by assumption) ?_)) <;> (first | (simp; done) | (simp; omega) | omega))
  have k3 : Blk w5 (W.heap.size + 1 + 1 + 1) 26 ((Ex.mk opNull V.zero [] [X]).cells (some ⟨W.heap.size + 1 + 1, 0, none⟩) 1).toArray := show Blk w5 (W.heap.size + 1 + 1 + 1) 26 #[.string ⟨#[110, 117, 108, 108]⟩, .int .i64 0, .int .i64 0, .string ⟨#[]⟩, .string ⟨#[]⟩, .slice (some ⟨W.heap.size + 1 + 1, 0, none⟩) 1 1] by rw [← hw5]; ((repeat' (first | with_reducible assumption | with_reducible refine Blk.drew ?_ | with_reducible refine Blk.drewN ?_ _ | with_reducible refine Blk.set3 ?_ _ _ _ | with_reducible refine Blk.far ?_ ?_ _ | ((with_reducible refine Blk.new' _ _ _ _ ?_) <;> (first | (simp; done) | (simp; omega) | omega) <;> done) | with_reducible refine Blk.alloc ?_ _ | with_reducible refine Blk3.drew ?_ | with_reducible refine Blk3.drewN ?_ _ | ((with_reducible refine Blk3.new' _ _ _ _ _ _ ?_) <;> (first | (simp; done) | (simp; omega) | omega) <;> done) | with_reducible refine Blk3.alloc ?_ _ | with_reducible refine Blk3.far ?_ ?_ _ | with_reducible refine Blk3.below ?_ (by assumption) ?_ | with_reducible refine Blk.below ?_ (by assumption) ?_)) <;> (first | (simp; done) | (simp; omega) | omega))
  have k5 : Blk w5 (W.heap.size + 1 + 1 + 1 + 1 + 1) 26 ((Ex.mk opOr V.zero [] [X, .mk opNot V.zero [] [X]]).cells (some ⟨W.heap.size + 1 + 1 + 1 + 1, 0, none⟩) 2).toArray := show Blk w5 (W.heap.size + 1 + 1 + 1 + 1 + 1) 26 #[.string ⟨#[111, 114]⟩, .int .i64 0, .int .i64 0, .string ⟨#[]⟩, .string ⟨#[]⟩, .slice (some ⟨W.heap.size + 1 + 1 + 1 + 1, 0, none⟩) 2 2] by rw [← hw5]; ((repeat' (first | with_reducible assumption | with_reducible refine Blk.drew ?_ | with_reducible refine Blk.drewN ?_ _ | with_reducible refine Blk.set3 ?_ _ _ _ | with_reducible refine Blk.far ?_ ?_ _ | ((with_reducible refine Blk.new' _ _ _ _ ?_) <;> (first | (simp; done) | (simp; omega) | omega) <;> done) | with_reducible refine Blk.alloc ?_ _ | with_reducible refine Blk3.drew ?_ | with_reducible refine Blk3.drewN ?_ _ | ((with_reducible refine Blk3.new' _ _ _ _ _ _ ?_) <;> (first | (simp; done) | (simp; omega) | omega) <;> done) | with_reducible refine Blk3.alloc ?_ _ | with_reducible refine Blk3.far ?_ ?_ _ | with_reducible refine Blk3.below ?_ (by assumption) ?_ | with_reducible refine Blk.below ?_ (by assumption) ?_)) <;> (first | (simp; done) | (simp; omega) | omega))
  have k7 : Blk w5 (W.heap.size + 1 + 1 + 1 + 1 + 1 + 1 + 1) 26 ((Ex.mk opAnd V.zero [] [X, .mk opNot V.zero [] [X]]).cells (some ⟨W.heap.size + 1 + 1 + 1 + 1 + 1 + 1, 0, none⟩) 2).toArray := show Blk w5 (W.heap.size + 1 + 1 + 1 + 1 + 1 + 1 + 1) 26 #[.string ⟨#[97, 110, 100]⟩, .int .i64 0, .int .i64 0, .string ⟨#[]⟩, .string ⟨#[]⟩, .slice (some ⟨W.heap.size + 1 + 1 + 1 + 1 + 1 + 1, 0, none⟩) 2 2] by rw [← hw5]; ((repeat' (first | with_reducible assumption | with_reducible refine Blk.drew ?_ | with_reducible refine Blk.drewN ?_ _ | with_reducible refine Blk.set3 ?_ _ _ _ | with_reducible refine Blk.far ?_ ?_ _ | ((with_reducible refine Blk.new' _ _ _ _ ?_) <;> (first | (simp; done) | (simp; omega) | omega) <;> done) | with_reducible refine Blk.alloc ?_ _ | with_reducible refine Blk3.drew ?_ | with_reducible refine Blk3.drewN ?_ _ | ((with_reducible refine Blk3.new' _ _ _ _ _ _ ?_) <;> (first | (simp; done) | (simp; omega) | omega) <;> done) | with_reducible refine Blk3.alloc ?_ _ | with_reducible refine Blk3.far ?_ ?_ _ | with_reducible refine Blk3.below ?_ (by assumption) ?_ | with_reducible refine Blk.below ?_ (by assumption) ?_)) <;> (first | (simp; done) | (simp; omega) | omega))
  have hb5 : Below W.heap.size W w5 := by rw [← hw5]; ((repeat' (first | with_reducible exact Below.refl _ _ | with_reducible assumption | with_reducible refine Below.drew ?_ | with_reducible refine below_drewN ?_ _ | with_reducible refine Below.setCell ?_ ?_ _ | with_reducible refine Below.alloc ?_ ?_ _ | with_reducible refine Below.trans ?_ (Below.mono (by assumption) ?_))) <;> (first | (simp; done) | (simp; omega) | omega))
  have hz5 := hb5.size
  have HW5 := Lib.hid hw5
  have hX5 : ExR (fun b => b < w5.heap.size) X A5 c5 w5 := HXW.out.keep fun b hb => ⟨Nat.lt_of_lt_of_le hb hz5, fun o => hb5.cell (p := ⟨b, o, none⟩) hb⟩
  have hN5 : ExR (fun b => b < w5.heap.size) (.mk opNot V.zero [] [X]) (some ⟨W.heap.size, 0, none⟩) 1 w5 := ExR.one hX5 k0 k0.lt (by decide)
  have hI5 : ExR (fun b => b < w5.heap.size) (.mk opNull V.zero [] [X]) (some ⟨W.heap.size + 1 + 1, 0, none⟩) 1 w5 := ExR.one hX5 k2 k2.lt (by decide)
  have hO5 : ExR (fun b => b < w5.heap.size) (.mk opOr V.zero [] [X, .mk opNot V.zero [] [X]]) (some ⟨W.heap.size + 1 + 1 + 1 + 1, 0, none⟩) 2 w5 := ExR.two hX5 hN5 k4 k4.lt (by decide)
  have hA5 : ExR (fun b => b < w5.heap.size) (.mk opAnd V.zero [] [X, .mk opNot V.zero [] [X]]) (some ⟨W.heap.size + 1 + 1 + 1 + 1 + 1 + 1, 0, none⟩) 2 w5 := ExR.two hX5 hN5 k6 k6.lt (by decide)
  have hC5 := (HCW.out.below hb5).more hz5
  have hV5 := (HVW.out.below hb5).more hz5
  have hcl9 := HCL.out
  have hrl14 := HRL.out
  obtain ⟨MI, hMI⟩ : ∃ M, mayX (.mk opNull V.zero [] [X]) = M := ⟨_, rfl⟩
  obtain ⟨MO, hMO⟩ : ∃ M, mayX (.mk opOr V.zero [] [X, .mk opNot V.zero [] [X]]) = M := ⟨_, rfl⟩
  obtain ⟨MA, hMA⟩ : ∃ M, mayX (.mk opAnd V.zero [] [X, .mk opNot V.zero [] [X]]) = M := ⟨_, rfl⟩
  have HMI : Hid (∀ Y : World, Below w5.heap.size w5 Y → Calls Tryz.prog 12 #[.agg #[.string ⟨#[110, 117, 108, 108]⟩, .int .i64 0, .int .i64 0, .string ⟨#[]⟩, .string ⟨#[]⟩, .slice (some ⟨W.heap.size + 1 + 1, 0, none⟩) 1 1]] Y (Ret (.bool MI) Y)) := fun Y h => by have := may_of hI5 (fun b h => h) Y h; rw [hMI] at this; exact this
  have HMO : Hid (∀ Y : World, Below w5.heap.size w5 Y → Calls Tryz.prog 12 #[.agg #[.string ⟨#[111, 114]⟩, .int .i64 0, .int .i64 0, .string ⟨#[]⟩, .string ⟨#[]⟩, .slice (some ⟨W.heap.size + 1 + 1 + 1 + 1, 0, none⟩) 2 2]] Y (Ret (.bool MO) Y)) := fun Y h => by have := may_of hO5 (fun b h => h) Y h; rw [hMO] at this; exact this
  have HMA : Hid (∀ Y : World, Below w5.heap.size w5 Y → Calls Tryz.prog 12 #[.agg #[.string ⟨#[97, 110, 100]⟩, .int .i64 0, .int .i64 0, .string ⟨#[]⟩, .string ⟨#[]⟩, .slice (some ⟨W.heap.size + 1 + 1 + 1 + 1 + 1 + 1, 0, none⟩) 2 2]] Y (Ret (.bool MA) Y)) := fun Y h => by have := may_of hA5 (fun b h => h) Y h; rw [hMA] at this; exact this
  have HVI : Hid (∀ (v : V), evalX CO RO (.mk opNull V.zero [] [X]) = v → ∀ Y : World, Below w5.heap.size w5 Y → Calls Tryz.prog 14 #[.agg #[.string ⟨#[110, 117, 108, 108]⟩, .int .i64 0, .int .i64 0, .string ⟨#[]⟩, .string ⟨#[]⟩, .slice (some ⟨W.heap.size + 1 + 1, 0, none⟩) 1 1], .slice A3 CO.length c3, .slice A4 RO.length c4] Y (Ret (.agg #[.int .i64 (v).k, .int .i64 (v).i, .string ⟨(v).s.toArray⟩]) Y)) := fun v hv Y h => by subst hv; exact eval_of hI5 (fun b h => h) (by omega) (by omega) hC5 hV5 HRI.out Y h
  have HVO : Hid (∀ (v : V), evalX CO RO (.mk opOr V.zero [] [X, .mk opNot V.zero [] [X]]) = v → ∀ Y : World, Below w5.heap.size w5 Y → Calls Tryz.prog 14 #[.agg #[.string ⟨#[111, 114]⟩, .int .i64 0, .int .i64 0, .string ⟨#[]⟩, .string ⟨#[]⟩, .slice (some ⟨W.heap.size + 1 + 1 + 1 + 1, 0, none⟩) 2 2], .slice A3 CO.length c3, .slice A4 RO.length c4] Y (Ret (.agg #[.int .i64 (v).k, .int .i64 (v).i, .string ⟨(v).s.toArray⟩]) Y)) := fun v hv Y h => by subst hv; exact eval_of hO5 (fun b h => h) (by omega) (by omega) hC5 hV5 HRI.out Y h
  have HVA : Hid (∀ (v : V), evalX CO RO (.mk opAnd V.zero [] [X, .mk opNot V.zero [] [X]]) = v → ∀ Y : World, Below w5.heap.size w5 Y → Calls Tryz.prog 14 #[.agg #[.string ⟨#[97, 110, 100]⟩, .int .i64 0, .int .i64 0, .string ⟨#[]⟩, .string ⟨#[]⟩, .slice (some ⟨W.heap.size + 1 + 1 + 1 + 1 + 1 + 1, 0, none⟩) 2 2], .slice A3 CO.length c3, .slice A4 RO.length c4] Y (Ret (.agg #[.int .i64 (v).k, .int .i64 (v).i, .string ⟨(v).s.toArray⟩]) Y)) := fun v hv Y h => by subst hv; exact eval_of hA5 (fun b h => h) (by omega) (by omega) hC5 hV5 HRI.out Y h
  have HT : Hid (MO = true → MA = true → MI = true → ∃ a b c : V, evalX CO RO (.mk opOr V.zero [] [X, .mk opNot V.zero [] [X]]) = a ∧ evalX CO RO (.mk opAnd V.zero [] [X, .mk opNot V.zero [] [X]]) = b ∧ evalX CO RO (.mk opNull V.zero [] [X]) = c ∧
      veq a (bV false) = false ∧ veq b (bV true) = false ∧ (c.k == 3) = true ∧ (veq c (bV true) = true → a = V.zero)) := fun h1 h2 h3 => truths_of CO RO X (hMO.trans h1) (hMA.trans h2) (hMI.trans h3)
  have hbw5 := hbw.trans (hb5.mono hbw.size)
  have HE5 := Lib.hid (HE.out.below hbw5 rfl)
  obtain ⟨x0, x1, x2, x3, x4, x5⟩ := kX.six
  clear hw5 hX5 hN5 hI5 hO5 hA5 hC5 hV5 hcl9 hrl14 hMI hMO hMA HXW HCW HVW HE k0 k2 k4 k6
  have lX1 : w.heap.size < W.heap.size + 1 := by omega
  have lX2 : w.heap.size < W.heap.size + 1 + 1 := by omega
  have lX3 : w.heap.size < W.heap.size + 1 + 1 + 1 := by omega
  have lX4 : w.heap.size < W.heap.size + 1 + 1 + 1 + 1 := by omega
  have lX5 : w.heap.size < W.heap.size + 1 + 1 + 1 + 1 + 1 := by omega
  have lX6 : w.heap.size < W.heap.size + 1 + 1 + 1 + 1 + 1 + 1 := by omega
  have lX7 : w.heap.size < W.heap.size + 1 + 1 + 1 + 1 + 1 + 1 + 1 := by omega
  go_upto_region 6 with fail
  rw [HW5.out]
  clear HW5 x0 x1 x2 x3 x4 x5
  have HSO : Hid (∀ w' : World, Below w5.heap.size w5 w' → w'.cell? ⟨W.heap.size + 1 + 1 + 1 + 1 + 1, 0, none⟩ = some (.string ⟨#[111, 114]⟩) ∧ w'.cell? ⟨W.heap.size + 1 + 1 + 1 + 1 + 1, 1, none⟩ = some (.int .i64 0) ∧ w'.cell? ⟨W.heap.size + 1 + 1 + 1 + 1 + 1, 2, none⟩ = some (.int .i64 0) ∧ w'.cell? ⟨W.heap.size + 1 + 1 + 1 + 1 + 1, 3, none⟩ = some (.string ⟨#[]⟩) ∧ w'.cell? ⟨W.heap.size + 1 + 1 + 1 + 1 + 1, 4, none⟩ = some (.string ⟨#[]⟩) ∧ w'.cell? ⟨W.heap.size + 1 + 1 + 1 + 1 + 1, 5, none⟩ = some (.slice (some ⟨W.heap.size + 1 + 1 + 1 + 1, 0, none⟩) 2 2)) := fun w' h => (k5.below h k5.lt).six
  have HSA : Hid (∀ w' : World, Below w5.heap.size w5 w' → w'.cell? ⟨W.heap.size + 1 + 1 + 1 + 1 + 1 + 1 + 1, 0, none⟩ = some (.string ⟨#[97, 110, 100]⟩) ∧ w'.cell? ⟨W.heap.size + 1 + 1 + 1 + 1 + 1 + 1 + 1, 1, none⟩ = some (.int .i64 0) ∧ w'.cell? ⟨W.heap.size + 1 + 1 + 1 + 1 + 1 + 1 + 1, 2, none⟩ = some (.int .i64 0) ∧ w'.cell? ⟨W.heap.size + 1 + 1 + 1 + 1 + 1 + 1 + 1, 3, none⟩ = some (.string ⟨#[]⟩) ∧ w'.cell? ⟨W.heap.size + 1 + 1 + 1 + 1 + 1 + 1 + 1, 4, none⟩ = some (.string ⟨#[]⟩) ∧ w'.cell? ⟨W.heap.size + 1 + 1 + 1 + 1 + 1 + 1 + 1, 5, none⟩ = some (.slice (some ⟨W.heap.size + 1 + 1 + 1 + 1 + 1 + 1, 0, none⟩) 2 2)) := fun w' h => (k7.below h k7.lt).six
  have HSI : Hid (∀ w' : World, Below w5.heap.size w5 w' → w'.cell? ⟨W.heap.size + 1 + 1 + 1, 0, none⟩ = some (.string ⟨#[110, 117, 108, 108]⟩) ∧ w'.cell? ⟨W.heap.size + 1 + 1 + 1, 1, none⟩ = some (.int .i64 0) ∧ w'.cell? ⟨W.heap.size + 1 + 1 + 1, 2, none⟩ = some (.int .i64 0) ∧ w'.cell? ⟨W.heap.size + 1 + 1 + 1, 3, none⟩ = some (.string ⟨#[]⟩) ∧ w'.cell? ⟨W.heap.size + 1 + 1 + 1, 4, none⟩ = some (.string ⟨#[]⟩) ∧ w'.cell? ⟨W.heap.size + 1 + 1 + 1, 5, none⟩ = some (.slice (some ⟨W.heap.size + 1 + 1, 0, none⟩) 1 1)) := fun w' h => (k3.below h k3.lt).six
  go_cut [46] from 14 (fun s46 wx => s46 = .bool (!MO || !MA || !MI) ∧ Below w5.heap.size w5 wx)
  case first =>
    have r5 := Below.refl w5.heap.size w5
    obtain ⟨y0, y1, y2, y3, y4, y5⟩ := HSO.out w5 r5
    cases MO
    · go_wp2_with fail
      refine (HMO.out _ r5).mono ?_
      rintro en wa ⟨rfl, hba⟩
      go_wp2_with fail
      go_meet
      exact ⟨rfl, hba⟩
    · go_wp2_with fail
      refine (HMO.out _ r5).mono ?_
      rintro en wa ⟨rfl, hba⟩
      clear y0 y1 y2 y3 y4 y5
      obtain ⟨y0, y1, y2, y3, y4, y5⟩ := HSA.out wa hba
      cases MA
      · go_wp2_with fail
        refine (HMA.out _ hba).mono ?_
        rintro en wb ⟨rfl, hbb⟩
        go_wp2_with fail
        go_meet
        exact ⟨rfl, hba.trans (hbb.mono hba.size)⟩
      · go_wp2_with fail
        refine (HMA.out _ hba).mono ?_
        rintro en wb ⟨rfl, hbb⟩
        have hbab := hba.trans (hbb.mono hba.size)
        clear y0 y1 y2 y3 y4 y5
        obtain ⟨y0, y1, y2, y3, y4, y5⟩ := HSI.out wb hbab
        go_wp2_with fail
        refine (HMI.out _ hbab).mono ?_
        rintro en wd ⟨rfl, hbd⟩
        go_wp2_with fail
        go_meet
        exact ⟨by simp, hbab.trans (hbd.mono hbab.size)⟩
  case rest =>
    obtain ⟨rfl, hbc⟩ := hcut
    obtain ⟨W6, rfl⟩ : ∃ W6, W6 = wc := ⟨_, rfl⟩
    have HEc := Lib.hid (HE5.out.below hbc rfl)
    have hbw6 := hbw5.trans (hbc.mono hbw5.size)
    by_cases hm : MO = true ∧ MA = true ∧ MI = true
    · obtain ⟨rfl, rfl, rfl⟩ := hm
      rw [show ((!true || !true || !true) : Bool) = false from rfl]
      obtain ⟨va, vb, vc, ea, eb, ec, t1, t2, t3, t4⟩ := HT.out rfl rfl rfl
      have HV9 : Hid (∀ Y : World, Below W6.heap.size W6 Y → Calls Tryz.prog 14 #[.agg #[.string ⟨#[111, 114]⟩, .int .i64 0, .int .i64 0, .string ⟨#[]⟩, .string ⟨#[]⟩, .slice (some ⟨W.heap.size + 1 + 1 + 1 + 1, 0, none⟩) 2 2], .slice A3 CO.length c3, .slice A4 RO.length c4] Y (Ret (.agg #[.int .i64 (va).k, .int .i64 (va).i, .string ⟨(va).s.toArray⟩]) Y)) := fun Y h => HVO.out va ea Y (hbc.trans (h.mono hbc.size))
      have HV10 : Hid (∀ Y : World, Below W6.heap.size W6 Y → Calls Tryz.prog 14 #[.agg #[.string ⟨#[97, 110, 100]⟩, .int .i64 0, .int .i64 0, .string ⟨#[]⟩, .string ⟨#[]⟩, .slice (some ⟨W.heap.size + 1 + 1 + 1 + 1 + 1 + 1, 0, none⟩) 2 2], .slice A3 CO.length c3, .slice A4 RO.length c4] Y (Ret (.agg #[.int .i64 (vb).k, .int .i64 (vb).i, .string ⟨(vb).s.toArray⟩]) Y)) := fun Y h => HVA.out vb eb Y (hbc.trans (h.mono hbc.size))
      have HV8 : Hid (∀ Y : World, Below W6.heap.size W6 Y → Calls Tryz.prog 14 #[.agg #[.string ⟨#[110, 117, 108, 108]⟩, .int .i64 0, .int .i64 0, .string ⟨#[]⟩, .string ⟨#[]⟩, .slice (some ⟨W.heap.size + 1 + 1, 0, none⟩) 1 1], .slice A3 CO.length c3, .slice A4 RO.length c4] Y (Ret (.agg #[.int .i64 (vc).k, .int .i64 (vc).i, .string ⟨(vc).s.toArray⟩]) Y)) := fun Y h => HVI.out vc ec Y (hbc.trans (h.mono hbc.size))
      have HS6 : Hid (∀ w' : World, Below W6.heap.size W6 w' → ((w'.cell? ⟨W.heap.size + 1 + 1 + 1 + 1 + 1, 0, none⟩ = some (.string ⟨#[111, 114]⟩) ∧ w'.cell? ⟨W.heap.size + 1 + 1 + 1 + 1 + 1, 1, none⟩ = some (.int .i64 0) ∧ w'.cell? ⟨W.heap.size + 1 + 1 + 1 + 1 + 1, 2, none⟩ = some (.int .i64 0) ∧ w'.cell? ⟨W.heap.size + 1 + 1 + 1 + 1 + 1, 3, none⟩ = some (.string ⟨#[]⟩) ∧ w'.cell? ⟨W.heap.size + 1 + 1 + 1 + 1 + 1, 4, none⟩ = some (.string ⟨#[]⟩) ∧ w'.cell? ⟨W.heap.size + 1 + 1 + 1 + 1 + 1, 5, none⟩ = some (.slice (some ⟨W.heap.size + 1 + 1 + 1 + 1, 0, none⟩) 2 2)) ∧ (w'.cell? ⟨W.heap.size + 1 + 1 + 1 + 1 + 1 + 1 + 1, 0, none⟩ = some (.string ⟨#[97, 110, 100]⟩) ∧ w'.cell? ⟨W.heap.size + 1 + 1 + 1 + 1 + 1 + 1 + 1, 1, none⟩ = some (.int .i64 0) ∧ w'.cell? ⟨W.heap.size + 1 + 1 + 1 + 1 + 1 + 1 + 1, 2, none⟩ = some (.int .i64 0) ∧ w'.cell? ⟨W.heap.size + 1 + 1 + 1 + 1 + 1 + 1 + 1, 3, none⟩ = some (.string ⟨#[]⟩) ∧ w'.cell? ⟨W.heap.size + 1 + 1 + 1 + 1 + 1 + 1 + 1, 4, none⟩ = some (.string ⟨#[]⟩) ∧ w'.cell? ⟨W.heap.size + 1 + 1 + 1 + 1 + 1 + 1 + 1, 5, none⟩ = some (.slice (some ⟨W.heap.size + 1 + 1 + 1 + 1 + 1 + 1, 0, none⟩) 2 2)) ∧ (w'.cell? ⟨W.heap.size + 1 + 1 + 1, 0, none⟩ = some (.string ⟨#[110, 117, 108, 108]⟩) ∧ w'.cell? ⟨W.heap.size + 1 + 1 + 1, 1, none⟩ = some (.int .i64 0) ∧ w'.cell? ⟨W.heap.size + 1 + 1 + 1, 2, none⟩ = some (.int .i64 0) ∧ w'.cell? ⟨W.heap.size + 1 + 1 + 1, 3, none⟩ = some (.string ⟨#[]⟩) ∧ w'.cell? ⟨W.heap.size + 1 + 1 + 1, 4, none⟩ = some (.string ⟨#[]⟩) ∧ w'.cell? ⟨W.heap.size + 1 + 1 + 1, 5, none⟩ = some (.slice (some ⟨W.heap.size + 1 + 1, 0, none⟩) 1 1)))) := fun w' h => ⟨HSO.out w' (hbc.trans (h.mono hbc.size)), HSA.out w' (hbc.trans (h.mono hbc.size)), HSI.out w' (hbc.trans (h.mono hbc.size))⟩
      have T1 := Lib.hid t1
      have T2 := Lib.hid t2
      have T3 := Lib.hid t3
      have T4 := Lib.hid t4
      clear HVO HVA HVI HSO HSA HSI HMO HMA HMI HT ea eb ec t1 t2 t3 t4
      go_upto_region 8 with fail
      go_cut [11, 12, 13] (fun s11 s12 s13 wx => Held3 W6 wx s11 s12 s13 va vb vc)
      case first =>
        refine wp_region_held_drew (S := (fun w' => ((w'.cell? ⟨W.heap.size + 1 + 1 + 1 + 1 + 1, 0, none⟩ = some (.string ⟨#[111, 114]⟩) ∧ w'.cell? ⟨W.heap.size + 1 + 1 + 1 + 1 + 1, 1, none⟩ = some (.int .i64 0) ∧ w'.cell? ⟨W.heap.size + 1 + 1 + 1 + 1 + 1, 2, none⟩ = some (.int .i64 0) ∧ w'.cell? ⟨W.heap.size + 1 + 1 + 1 + 1 + 1, 3, none⟩ = some (.string ⟨#[]⟩) ∧ w'.cell? ⟨W.heap.size + 1 + 1 + 1 + 1 + 1, 4, none⟩ = some (.string ⟨#[]⟩) ∧ w'.cell? ⟨W.heap.size + 1 + 1 + 1 + 1 + 1, 5, none⟩ = some (.slice (some ⟨W.heap.size + 1 + 1 + 1 + 1, 0, none⟩) 2 2)) ∧ (w'.cell? ⟨W.heap.size + 1 + 1 + 1 + 1 + 1 + 1 + 1, 0, none⟩ = some (.string ⟨#[97, 110, 100]⟩) ∧ w'.cell? ⟨W.heap.size + 1 + 1 + 1 + 1 + 1 + 1 + 1, 1, none⟩ = some (.int .i64 0) ∧ w'.cell? ⟨W.heap.size + 1 + 1 + 1 + 1 + 1 + 1 + 1, 2, none⟩ = some (.int .i64 0) ∧ w'.cell? ⟨W.heap.size + 1 + 1 + 1 + 1 + 1 + 1 + 1, 3, none⟩ = some (.string ⟨#[]⟩) ∧ w'.cell? ⟨W.heap.size + 1 + 1 + 1 + 1 + 1 + 1 + 1, 4, none⟩ = some (.string ⟨#[]⟩) ∧ w'.cell? ⟨W.heap.size + 1 + 1 + 1 + 1 + 1 + 1 + 1, 5, none⟩ = some (.slice (some ⟨W.heap.size + 1 + 1 + 1 + 1 + 1 + 1, 0, none⟩) 2 2)) ∧ (w'.cell? ⟨W.heap.size + 1 + 1 + 1, 0, none⟩ = some (.string ⟨#[110, 117, 108, 108]⟩) ∧ w'.cell? ⟨W.heap.size + 1 + 1 + 1, 1, none⟩ = some (.int .i64 0) ∧ w'.cell? ⟨W.heap.size + 1 + 1 + 1, 2, none⟩ = some (.int .i64 0) ∧ w'.cell? ⟨W.heap.size + 1 + 1 + 1, 3, none⟩ = some (.string ⟨#[]⟩) ∧ w'.cell? ⟨W.heap.size + 1 + 1 + 1, 4, none⟩ = some (.string ⟨#[]⟩) ∧ w'.cell? ⟨W.heap.size + 1 + 1 + 1, 5, none⟩ = some (.slice (some ⟨W.heap.size + 1 + 1, 0, none⟩) 1 1))))) (by kernel_rfl) ?_ (fun hHeld => ?_)
        · try dsimp only
          exact HS6.out _ (by ((repeat' (first | with_reducible exact Below.refl _ _ | with_reducible assumption | with_reducible refine Below.drew ?_ | with_reducible refine below_drewN ?_ _ | with_reducible refine Below.setCell ?_ ?_ _ | with_reducible refine Below.alloc ?_ ?_ _ | with_reducible refine Below.trans ?_ (Below.mono (by assumption) ?_))) <;> (first | (simp; done) | (simp; omega) | omega)))
        refine wpAnyH_take (i := 0) (v := ?_) rfl (by kernel_rfl) (by kernel_rfl) (by kernel_rfl) (fun _ _ _ h => h) (Or.inl ⟨by rfl, ?_⟩) (by assumption) ?_
        rotate_left
        · intro wq hSw
          try dsimp only at hSw
          go_simp
          try with_reducible rfl
        try simp only [Act.put, List.getElem_toArray, List.getElem_cons_zero, List.setIfInBounds_toArray, List.set_cons_zero, List.set_cons_succ]
        refine wpAnyH_take (i := 1) (v := ?_) rfl (by kernel_rfl) (by kernel_rfl) (by kernel_rfl) (fun _ _ _ h => h) (Or.inl ⟨by rfl, ?_⟩) (by assumption) ?_
        rotate_left
        · intro wq hSw
          try dsimp only at hSw
          go_simp
          try with_reducible rfl
        try simp only [Act.put, List.getElem_toArray, List.getElem_cons_zero, List.getElem_cons_succ, List.setIfInBounds_toArray, List.set_cons_zero, List.set_cons_succ]
        refine wpAnyH_take (i := 2) (v := ?_) rfl (by kernel_rfl) (by kernel_rfl) (by kernel_rfl) (fun _ _ _ h => h) (Or.inl ⟨by rfl, ?_⟩) (by assumption) ?_
        rotate_left
        · intro wq hSw
          try dsimp only at hSw
          go_simp
          try with_reducible rfl
        try simp only [Act.put, List.getElem_toArray, List.getElem_cons_zero, List.getElem_cons_succ, List.setIfInBounds_toArray, List.set_cons_zero, List.set_cons_succ]
        refine wpAnyH_take (i := 4) (v := ?_) rfl (by kernel_rfl) (by kernel_rfl) (by kernel_rfl) (fun _ _ _ h => h) (Or.inl ⟨by rfl, ?_⟩) (by assumption) ?_
        rotate_left
        · intro wq hSw
          try dsimp only at hSw
          go_simp
          try with_reducible rfl
        try simp only [Act.put, List.getElem_toArray, List.getElem_cons_zero, List.getElem_cons_succ, List.setIfInBounds_toArray, List.set_cons_zero, List.set_cons_succ]
        refine wpAnyH_take (i := 5) (v := ?_) rfl (by kernel_rfl) (by kernel_rfl) (by kernel_rfl) (fun _ _ _ h => h) (Or.inl ⟨by rfl, ?_⟩) (by assumption) ?_
        rotate_left
        · intro wq hSw
          try dsimp only at hSw
          go_simp
          try with_reducible rfl
        try simp only [Act.put, List.getElem_toArray, List.getElem_cons_zero, List.getElem_cons_succ, List.setIfInBounds_toArray, List.set_cons_zero, List.set_cons_succ]
        refine wpAnyH_take (i := 6) (v := ?_) rfl (by kernel_rfl) (by kernel_rfl) (by kernel_rfl) (fun _ _ _ h => h) (Or.inl ⟨by rfl, ?_⟩) (by assumption) ?_
        rotate_left
        · intro wq hSw
          try dsimp only at hSw
          go_simp
          try with_reducible rfl
        try simp only [Act.put, List.getElem_toArray, List.getElem_cons_zero, List.getElem_cons_succ, List.setIfInBounds_toArray, List.set_cons_zero, List.set_cons_succ]
        refine wpAnyH_take (i := 8) (v := ?_) rfl (by kernel_rfl) (by kernel_rfl) (by kernel_rfl) (fun _ _ _ h => h) (Or.inl ⟨by rfl, ?_⟩) (by assumption) ?_
        rotate_left
        · intro wq hSw
          try dsimp only at hSw
          go_simp
          try with_reducible rfl
        try simp only [Act.put, List.getElem_toArray, List.getElem_cons_zero, List.getElem_cons_succ, List.setIfInBounds_toArray, List.set_cons_zero, List.set_cons_succ]
        refine wpAnyH_take (i := 9) (v := ?_) rfl (by kernel_rfl) (by kernel_rfl) (by kernel_rfl) (fun _ _ _ h => h) (Or.inl ⟨by rfl, ?_⟩) (by assumption) ?_
        rotate_left
        · intro wq hSw
          try dsimp only at hSw
          go_simp
          try with_reducible rfl
        try simp only [Act.put, List.getElem_toArray, List.getElem_cons_zero, List.getElem_cons_succ, List.setIfInBounds_toArray, List.set_cons_zero, List.set_cons_succ]
        refine wpAnyH_take (i := 10) (v := ?_) rfl (by kernel_rfl) (by kernel_rfl) (by kernel_rfl) (fun _ _ _ h => h) (Or.inl ⟨by rfl, ?_⟩) (by assumption) ?_
        rotate_left
        · intro wq hSw
          try dsimp only at hSw
          go_simp
          try with_reducible rfl
        try simp only [Act.put, List.getElem_toArray, List.getElem_cons_zero, List.getElem_cons_succ, List.setIfInBounds_toArray, List.set_cons_zero, List.set_cons_succ]
        refine wpAnyH_stage (ks := [3, 7, 11, 12, 13, 14]) (f0 := 3) (by decide) (TruI W6 (.agg #[.int .i64 (va).k, .int .i64 (va).i, .string ⟨(va).s.toArray⟩]) (.agg #[.int .i64 (vb).k, .int .i64 (vb).i, .string ⟨(vb).s.toArray⟩]) (.agg #[.int .i64 (vc).k, .int .i64 (vc).i, .string ⟨(vc).s.toArray⟩]) (fun U11 U12 U13 U51 U55 U59 => #[.agg #[.string ⟨e.op.toArray⟩, .int .i64 e.v.k, .int .i64 e.v.i, .string ⟨e.v.s.toArray⟩, .string ⟨e.s.toArray⟩, .slice A e.l.length c], .slice A3 CO.length c3, .slice A4 RO.length c4, .pointer (some ⟨w.heap.size, 0, none⟩), undef, undef, .bool false, .pointer (some ⟨W.heap.size + 1, 0, none⟩), .pointer (some ⟨W.heap.size + 1 + 1 + 1, 0, none⟩), .pointer (some ⟨W.heap.size + 1 + 1 + 1 + 1 + 1, 0, none⟩), .pointer (some ⟨W.heap.size + 1 + 1 + 1 + 1 + 1 + 1 + 1, 0, none⟩), U11, U12, U13, u14, u15, u16, u17, u18, u19, u20, u21, u22, u23, u24, u25, u26, u27, u28, u29, u30, u31, u32, u33, u34, u35, u36, u37, u38, u39, u40, u41, u42, u43, u44, u45, .bool false, u47, .agg #[.string ⟨#[111, 114]⟩, .int .i64 0, .int .i64 0, .string ⟨#[]⟩, .string ⟨#[]⟩, .slice (some ⟨W.heap.size + 1 + 1 + 1 + 1, 0, none⟩) 2 2], .slice A3 CO.length c3, .slice A4 RO.length c4, U51, .agg #[.string ⟨#[97, 110, 100]⟩, .int .i64 0, .int .i64 0, .string ⟨#[]⟩, .string ⟨#[]⟩, .slice (some ⟨W.heap.size + 1 + 1 + 1 + 1 + 1 + 1, 0, none⟩) 2 2], .slice A3 CO.length c3, .slice A4 RO.length c4, U55, .agg #[.string ⟨#[110, 117, 108, 108]⟩, .int .i64 0, .int .i64 0, .string ⟨#[]⟩, .string ⟨#[]⟩, .slice (some ⟨W.heap.size + 1 + 1, 0, none⟩) 1 1], .slice A3 CO.length c3, .slice A4 RO.length c4, U59, u60, u61, u62, u63, u64, u65, u66, u67, u68, u69, u70, u71, u72, u73, u74, u75, u76, u77, u78, u79, u80, u81, u82, u83, u84, u85])) ?_ ?_ ?_ 6 _ _ _ (by decide +kernel) ?_
        · rintro L ac wv i ⟨hsz, ⟨p0, p1, p2, p4, p5, p6, p8, p9, p10⟩, ⟨n15, n16, n17⟩, h11, h7, hb, U11, U12, U13, U51, U55, U59, rfl, s3, s7, s11, q12, q13, q14, d1, d2, d3⟩ hex hi
          obtain ⟨hun, o, ho, hall⟩ := mem_ready.1 hi
          have hlt : i < 18 := by rw [← hsz]; exact getD_self hun
          have e0 : i ≠ 0 := fun e => by subst e; exact not_up hun p0
          have e1 : i ≠ 1 := fun e => by subst e; exact not_up hun p1
          have e2 : i ≠ 2 := fun e => by subst e; exact not_up hun p2
          have e4 : i ≠ 4 := fun e => by subst e; exact not_up hun p4
          have e5 : i ≠ 5 := fun e => by subst e; exact not_up hun p5
          have e6 : i ≠ 6 := fun e => by subst e; exact not_up hun p6
          have e8 : i ≠ 8 := fun e => by subst e; exact not_up hun p8
          have e9 : i ≠ 9 := fun e => by subst e; exact not_up hun p9
          have e10 : i ≠ 10 := fun e => by subst e; exact not_up hun p10
          have e15 : i ≠ 15 := fun e => by
            subst e
            injection ho with ho
            subst ho
            have z11 := up_of (hall ⟨11, .chain⟩ (by simp) rfl)
            have z7 := h11 z11
            have z3 := h7 z7
            have z12 := up_of (hall ⟨12, .phase⟩ (by simp) rfl)
            have z13 := up_of (hall ⟨13, .phase⟩ (by simp) rfl)
            have z14 := up_of (hall ⟨14, .phase⟩ (by simp) rfl)
            obtain ⟨j, hj, hn⟩ := hex
            simp only [List.mem_cons, List.not_mem_nil, or_false] at hj
            rcases hj with rfl | rfl | rfl | rfl | rfl | rfl
            · exact not_up hn z3
            · exact not_up hn z7
            · exact not_up hn z11
            · exact not_up hn z12
            · exact not_up hn z13
            · exact not_up hn z14
          have e16 : i ≠ 16 := fun e => by
            subst e
            injection ho with ho
            subst ho
            exact not_up n15 (up_of (hall ⟨15, .chain⟩ (by simp) rfl))
          have e17 : i ≠ 17 := fun e => by
            subst e
            injection ho with ho
            subst ho
            exact not_up n16 (up_of (hall ⟨16, .chain⟩ (by simp) rfl))
          have hks : i = 3 ∨ i = 7 ∨ i = 11 ∨ i = 12 ∨ i = 13 ∨ i = 14 := by omega
          refine ⟨by simp only [List.mem_cons, List.not_mem_nil, or_false]; exact hks, ?_⟩
          clear e0 e1 e2 e4 e5 e6 e8 e9 e10 e15 e16 e17 hlt hex hi
          have hzv := hb.size
          rcases hks with rfl | rfl | rfl | rfl | rfl | rfl
          · injection ho with ho
            subst ho
            refine wpOp_one rfl (fun K hK => ?_)
            have Hall := Lib.hid hall
            have Hs := Lib.hid hsz
            go_simp
            refine (HV9.out _ (by ((repeat' (first | with_reducible exact Below.refl _ _ | with_reducible assumption | with_reducible refine Below.drew ?_ | with_reducible refine below_drewN ?_ _ | with_reducible refine Below.setCell ?_ ?_ _ | with_reducible refine Below.alloc ?_ ?_ _ | with_reducible refine Below.trans ?_ (Below.mono (by assumption) ?_))) <;> (first | (simp; done) | (simp; omega) | omega)))).mono ?_
            rintro e w1 ⟨rfl, hb1⟩
            have hz1 := hb1.size
            go_wp2_with fail
            refine hK.out _ _ ⟨HS6.out _ (by ((repeat' (first | with_reducible exact Below.refl _ _ | with_reducible assumption | with_reducible refine Below.drew ?_ | with_reducible refine below_drewN ?_ _ | with_reducible refine Below.setCell ?_ ?_ _ | with_reducible refine Below.alloc ?_ ?_ _ | with_reducible refine Below.trans ?_ (Below.mono (by assumption) ?_))) <;> (first | (simp; done) | (simp; omega) | omega))), ?_⟩
            exact ⟨by rw [Array.size_setIfInBounds]; exact hsz, ⟨p0.more, p1.more, p2.more, p4.more, p5.more, p6.more, p8.more, p9.more, p10.more⟩, ⟨(getD_put_other true (by decide)).trans n15, (getD_put_other true (by decide)).trans n16, (getD_put_other true (by decide)).trans n17⟩, fun h => (h11 (h.put (by decide))).more, fun h => (h7 (h.put (by decide))).more, (by ((repeat' (first | with_reducible exact Below.refl _ _ | with_reducible assumption | with_reducible refine Below.drew ?_ | with_reducible refine below_drewN ?_ _ | with_reducible refine Below.setCell ?_ ?_ _ | with_reducible refine Below.alloc ?_ ?_ _ | with_reducible refine Below.trans ?_ (Below.mono (by assumption) ?_))) <;> (first | (simp; done) | (simp; omega) | omega))), _, _, _, _, _, _, rfl, Slot.new, s7.put (by decide), s11.put (by decide), q12.put (by decide) hb1, q13.put (by decide) hb1, q14.put (by decide) hb1, d1.put (by decide) (by decide), d2.put (by decide) (by decide), d3.put (by decide) (by decide)⟩
          · injection ho with ho
            subst ho
            refine wpOp_one rfl (fun K hK => ?_)
            have Hall := Lib.hid hall
            have Hs := Lib.hid hsz
            go_simp
            refine (HV10.out _ (by ((repeat' (first | with_reducible exact Below.refl _ _ | with_reducible assumption | with_reducible refine Below.drew ?_ | with_reducible refine below_drewN ?_ _ | with_reducible refine Below.setCell ?_ ?_ _ | with_reducible refine Below.alloc ?_ ?_ _ | with_reducible refine Below.trans ?_ (Below.mono (by assumption) ?_))) <;> (first | (simp; done) | (simp; omega) | omega)))).mono ?_
            rintro e w1 ⟨rfl, hb1⟩
            have hz1 := hb1.size
            go_wp2_with fail
            refine hK.out _ _ ⟨HS6.out _ (by ((repeat' (first | with_reducible exact Below.refl _ _ | with_reducible assumption | with_reducible refine Below.drew ?_ | with_reducible refine below_drewN ?_ _ | with_reducible refine Below.setCell ?_ ?_ _ | with_reducible refine Below.alloc ?_ ?_ _ | with_reducible refine Below.trans ?_ (Below.mono (by assumption) ?_))) <;> (first | (simp; done) | (simp; omega) | omega))), ?_⟩
            exact ⟨by rw [Array.size_setIfInBounds]; exact hsz, ⟨p0.more, p1.more, p2.more, p4.more, p5.more, p6.more, p8.more, p9.more, p10.more⟩, ⟨(getD_put_other true (by decide)).trans n15, (getD_put_other true (by decide)).trans n16, (getD_put_other true (by decide)).trans n17⟩, fun h => (h11 (h.put (by decide))).more, fun h => (up_of (hall ⟨3, .chain⟩ (by simp) rfl)).more, (by ((repeat' (first | with_reducible exact Below.refl _ _ | with_reducible assumption | with_reducible refine Below.drew ?_ | with_reducible refine below_drewN ?_ _ | with_reducible refine Below.setCell ?_ ?_ _ | with_reducible refine Below.alloc ?_ ?_ _ | with_reducible refine Below.trans ?_ (Below.mono (by assumption) ?_))) <;> (first | (simp; done) | (simp; omega) | omega))), _, _, _, _, _, _, rfl, s3.put (by decide), Slot.new, s11.put (by decide), q12.put (by decide) hb1, q13.put (by decide) hb1, q14.put (by decide) hb1, d1.put (by decide) (by decide), d2.put (by decide) (by decide), d3.put (by decide) (by decide)⟩
          · injection ho with ho
            subst ho
            refine wpOp_one rfl (fun K hK => ?_)
            have Hall := Lib.hid hall
            have Hs := Lib.hid hsz
            go_simp
            refine (HV8.out _ (by ((repeat' (first | with_reducible exact Below.refl _ _ | with_reducible assumption | with_reducible refine Below.drew ?_ | with_reducible refine below_drewN ?_ _ | with_reducible refine Below.setCell ?_ ?_ _ | with_reducible refine Below.alloc ?_ ?_ _ | with_reducible refine Below.trans ?_ (Below.mono (by assumption) ?_))) <;> (first | (simp; done) | (simp; omega) | omega)))).mono ?_
            rintro e w1 ⟨rfl, hb1⟩
            have hz1 := hb1.size
            go_wp2_with fail
            refine hK.out _ _ ⟨HS6.out _ (by ((repeat' (first | with_reducible exact Below.refl _ _ | with_reducible assumption | with_reducible refine Below.drew ?_ | with_reducible refine below_drewN ?_ _ | with_reducible refine Below.setCell ?_ ?_ _ | with_reducible refine Below.alloc ?_ ?_ _ | with_reducible refine Below.trans ?_ (Below.mono (by assumption) ?_))) <;> (first | (simp; done) | (simp; omega) | omega))), ?_⟩
            exact ⟨by rw [Array.size_setIfInBounds]; exact hsz, ⟨p0.more, p1.more, p2.more, p4.more, p5.more, p6.more, p8.more, p9.more, p10.more⟩, ⟨(getD_put_other true (by decide)).trans n15, (getD_put_other true (by decide)).trans n16, (getD_put_other true (by decide)).trans n17⟩, fun h => (up_of (hall ⟨7, .chain⟩ (by simp) rfl)).more, fun h => (h7 (h.put (by decide))).more, (by ((repeat' (first | with_reducible exact Below.refl _ _ | with_reducible assumption | with_reducible refine Below.drew ?_ | with_reducible refine below_drewN ?_ _ | with_reducible refine Below.setCell ?_ ?_ _ | with_reducible refine Below.alloc ?_ ?_ _ | with_reducible refine Below.trans ?_ (Below.mono (by assumption) ?_))) <;> (first | (simp; done) | (simp; omega) | omega))), _, _, _, _, _, _, rfl, s3.put (by decide), s7.put (by decide), Slot.new, q12.put (by decide) hb1, q13.put (by decide) hb1, q14.put (by decide) hb1, d1.put (by decide) (by decide), d2.put (by decide) (by decide), d3.put (by decide) (by decide)⟩
          · injection ho with ho
            subst ho
            refine wpOp_one rfl (fun K hK => ?_)
            have Hall := Lib.hid hall
            have Hs := Lib.hid hsz
            go_simp
            go_wp2_with fail
            refine hK.out _ _ ⟨HS6.out _ (by ((repeat' (first | with_reducible exact Below.refl _ _ | with_reducible assumption | with_reducible refine Below.drew ?_ | with_reducible refine below_drewN ?_ _ | with_reducible refine Below.setCell ?_ ?_ _ | with_reducible refine Below.alloc ?_ ?_ _ | with_reducible refine Below.trans ?_ (Below.mono (by assumption) ?_))) <;> (first | (simp; done) | (simp; omega) | omega))), ?_⟩
            exact ⟨by rw [Array.size_setIfInBounds]; exact hsz, ⟨p0.more, p1.more, p2.more, p4.more, p5.more, p6.more, p8.more, p9.more, p10.more⟩, ⟨(getD_put_other true (by decide)).trans n15, (getD_put_other true (by decide)).trans n16, (getD_put_other true (by decide)).trans n17⟩, fun h => (h11 (h.put (by decide))).more, fun h => (h7 (h.put (by decide))).more, (by ((repeat' (first | with_reducible exact Below.refl _ _ | with_reducible assumption | with_reducible refine Below.drew ?_ | with_reducible refine below_drewN ?_ _ | with_reducible refine Below.setCell ?_ ?_ _ | with_reducible refine Below.alloc ?_ ?_ _ | with_reducible refine Below.trans ?_ (Below.mono (by assumption) ?_))) <;> (first | (simp; done) | (simp; omega) | omega))), _, _, _, _, _, _, rfl, s3.put (by decide), s7.put (by decide), s11.put (by decide), Newv.new hb.size, q13.put (by decide) ((Below.refl _ _).alloc (Nat.le_refl _) _), q14.put (by decide) ((Below.refl _ _).alloc (Nat.le_refl _) _), Diff.newL q13 (by decide), Diff.newL q14 (by decide), d3.put (by decide) (by decide)⟩
          · injection ho with ho
            subst ho
            refine wpOp_one rfl (fun K hK => ?_)
            have Hall := Lib.hid hall
            have Hs := Lib.hid hsz
            go_simp
            go_wp2_with fail
            refine hK.out _ _ ⟨HS6.out _ (by ((repeat' (first | with_reducible exact Below.refl _ _ | with_reducible assumption | with_reducible refine Below.drew ?_ | with_reducible refine below_drewN ?_ _ | with_reducible refine Below.setCell ?_ ?_ _ | with_reducible refine Below.alloc ?_ ?_ _ | with_reducible refine Below.trans ?_ (Below.mono (by assumption) ?_))) <;> (first | (simp; done) | (simp; omega) | omega))), ?_⟩
            exact ⟨by rw [Array.size_setIfInBounds]; exact hsz, ⟨p0.more, p1.more, p2.more, p4.more, p5.more, p6.more, p8.more, p9.more, p10.more⟩, ⟨(getD_put_other true (by decide)).trans n15, (getD_put_other true (by decide)).trans n16, (getD_put_other true (by decide)).trans n17⟩, fun h => (h11 (h.put (by decide))).more, fun h => (h7 (h.put (by decide))).more, (by ((repeat' (first | with_reducible exact Below.refl _ _ | with_reducible assumption | with_reducible refine Below.drew ?_ | with_reducible refine below_drewN ?_ _ | with_reducible refine Below.setCell ?_ ?_ _ | with_reducible refine Below.alloc ?_ ?_ _ | with_reducible refine Below.trans ?_ (Below.mono (by assumption) ?_))) <;> (first | (simp; done) | (simp; omega) | omega))), _, _, _, _, _, _, rfl, s3.put (by decide), s7.put (by decide), s11.put (by decide), q12.put (by decide) ((Below.refl _ _).alloc (Nat.le_refl _) _), Newv.new hb.size, q14.put (by decide) ((Below.refl _ _).alloc (Nat.le_refl _) _), Diff.newR q12 (by decide), d2.put (by decide) (by decide), Diff.newL q14 (by decide)⟩
          · injection ho with ho
            subst ho
            refine wpOp_one rfl (fun K hK => ?_)
            have Hall := Lib.hid hall
            have Hs := Lib.hid hsz
            go_simp
            go_wp2_with fail
            refine hK.out _ _ ⟨HS6.out _ (by ((repeat' (first | with_reducible exact Below.refl _ _ | with_reducible assumption | with_reducible refine Below.drew ?_ | with_reducible refine below_drewN ?_ _ | with_reducible refine Below.setCell ?_ ?_ _ | with_reducible refine Below.alloc ?_ ?_ _ | with_reducible refine Below.trans ?_ (Below.mono (by assumption) ?_))) <;> (first | (simp; done) | (simp; omega) | omega))), ?_⟩
            exact ⟨by rw [Array.size_setIfInBounds]; exact hsz, ⟨p0.more, p1.more, p2.more, p4.more, p5.more, p6.more, p8.more, p9.more, p10.more⟩, ⟨(getD_put_other true (by decide)).trans n15, (getD_put_other true (by decide)).trans n16, (getD_put_other true (by decide)).trans n17⟩, fun h => (h11 (h.put (by decide))).more, fun h => (h7 (h.put (by decide))).more, (by ((repeat' (first | with_reducible exact Below.refl _ _ | with_reducible assumption | with_reducible refine Below.drew ?_ | with_reducible refine below_drewN ?_ _ | with_reducible refine Below.setCell ?_ ?_ _ | with_reducible refine Below.alloc ?_ ?_ _ | with_reducible refine Below.trans ?_ (Below.mono (by assumption) ?_))) <;> (first | (simp; done) | (simp; omega) | omega))), _, _, _, _, _, _, rfl, s3.put (by decide), s7.put (by decide), s11.put (by decide), q12.put (by decide) ((Below.refl _ _).alloc (Nat.le_refl _) _), q13.put (by decide) ((Below.refl _ _).alloc (Nat.le_refl _) _), Newv.new hb.size, d1.put (by decide) (by decide), Diff.newR q12 (by decide), Diff.newR q13 (by decide)⟩
        · rintro L ac wv ⟨hsz, ⟨p0, p1, p2, p4, p5, p6, p8, p9, p10⟩, ⟨n15, n16, n17⟩, h11, h7, hb, _⟩ ⟨j, hj, hn⟩
          simp only [List.mem_cons, List.not_mem_nil, or_false] at hj
          rcases hj with rfl | rfl | rfl | rfl | rfl | rfl
          · exact ready_some 3 hn rfl (fun e he _ => by simp at he; rcases he with rfl | rfl | rfl <;> first | exact getF p0 (by rw [hsz]; decide) | exact getF p1 (by rw [hsz]; decide) | exact getF p2 (by rw [hsz]; decide))
          · cases y3 : L.getD 3 true
            · exact ready_some 3 y3 rfl (fun e he _ => by simp at he; rcases he with rfl | rfl | rfl <;> first | exact getF p0 (by rw [hsz]; decide) | exact getF p1 (by rw [hsz]; decide) | exact getF p2 (by rw [hsz]; decide))
            · exact ready_some 7 hn rfl (fun e he _ => by simp at he; rcases he with rfl | rfl | rfl | rfl <;> first | exact getF p4 (by rw [hsz]; decide) | exact getF p5 (by rw [hsz]; decide) | exact getF p6 (by rw [hsz]; decide) | exact getF y3 (by rw [hsz]; decide))
          · cases y3 : L.getD 3 true
            · exact ready_some 3 y3 rfl (fun e he _ => by simp at he; rcases he with rfl | rfl | rfl <;> first | exact getF p0 (by rw [hsz]; decide) | exact getF p1 (by rw [hsz]; decide) | exact getF p2 (by rw [hsz]; decide))
            · cases y7 : L.getD 7 true
              · exact ready_some 7 y7 rfl (fun e he _ => by simp at he; rcases he with rfl | rfl | rfl | rfl <;> first | exact getF p4 (by rw [hsz]; decide) | exact getF p5 (by rw [hsz]; decide) | exact getF p6 (by rw [hsz]; decide) | exact getF y3 (by rw [hsz]; decide))
              · exact ready_some 11 hn rfl (fun e he _ => by simp at he; rcases he with rfl | rfl | rfl | rfl <;> first | exact getF p8 (by rw [hsz]; decide) | exact getF p9 (by rw [hsz]; decide) | exact getF p10 (by rw [hsz]; decide) | exact getF y7 (by rw [hsz]; decide))
          · exact ready_some 12 hn rfl (fun e he _ => by simp at he)
          · exact ready_some 13 hn rfl (fun e he _ => by simp at he)
          · exact ready_some 14 hn rfl (fun e he _ => by simp at he)
        · rintro L ac wv ⟨hsz, ⟨p0, p1, p2, p4, p5, p6, p8, p9, p10⟩, ⟨n15, n16, n17⟩, h11, h7, hb, U11, U12, U13, U51, U55, U59, rfl, s3, s7, s11, q12, q13, q14, d1, d2, d3⟩ hall
          have z3 : Up L 3 := hall 3 (by simp)
          have z7 : Up L 7 := hall 7 (by simp)
          have z11 : Up L 11 := hall 11 (by simp)
          have z12 : Up L 12 := hall 12 (by simp)
          have z13 : Up L 13 := hall 13 (by simp)
          have z14 : Up L 14 := hall 14 (by simp)
          obtain rfl := s3 z3
          obtain rfl := s7 z7
          obtain rfl := s11 z11
          obtain ⟨g1, rfl, m1, k1⟩ := q12 z12
          obtain ⟨g2, rfl, m2, k2⟩ := q13 z13
          obtain ⟨g3, rfl, m3, k3⟩ := q14 z14
          have f12 : g1 ≠ g2 := fun e => d1 z12 z13 (by rw [e])
          have f21 : g2 ≠ g1 := Ne.symm f12
          have f13 : g1 ≠ g3 := fun e => d2 z12 z14 (by rw [e])
          have f31 : g3 ≠ g1 := Ne.symm f13
          have f23 : g2 ≠ g3 := fun e => d3 z13 z14 (by rw [e])
          have f32 : g3 ≠ g2 := Ne.symm f23
          obtain ⟨l⟩ := L
          match l, hsz with
          | [b0, b1, b2, b3, b4, b5, b6, b7, b8, b9, b10, b11, b12, b13, b14, b15, b16, b17], _ =>
            obtain rfl : b0 = true := p0
            obtain rfl : b1 = true := p1
            obtain rfl : b2 = true := p2
            obtain rfl : b3 = true := z3
            obtain rfl : b4 = true := p4
            obtain rfl : b5 = true := p5
            obtain rfl : b6 = true := p6
            obtain rfl : b7 = true := z7
            obtain rfl : b8 = true := p8
            obtain rfl : b9 = true := p9
            obtain rfl : b10 = true := p10
            obtain rfl : b11 = true := z11
            obtain rfl : b12 = true := z12
            obtain rfl : b13 = true := z13
            obtain rfl : b14 = true := z14
            obtain rfl : b15 = false := n15
            obtain rfl : b16 = false := n16
            obtain rfl : b17 = false := n17
            clear s3 s7 s11 q12 q13 q14 d1 d2 d3 hall h11 h7 hsz
            have hHeld := HS6.out wv hb
            have hzv := hb.size
            obtain ⟨⟨x10, x11, x12⟩, xf10, xf11, xf12⟩ := k1.three
            have B1 : Blk3 wv g1 23 := ⟨_, _, _, k1⟩
            obtain ⟨⟨x20, x21, x22⟩, xf20, xf21, xf22⟩ := k2.three
            have B2 : Blk3 wv g2 23 := ⟨_, _, _, k2⟩
            obtain ⟨⟨x30, x31, x32⟩, xf30, xf31, xf32⟩ := k3.three
            have B3 : Blk3 wv g3 23 := ⟨_, _, _, k3⟩
            refine wpAnyH_ready (rs := [15]) (by kernel_rfl) (by simp) ?_
            refine AllReadyH.cons rfl (fun K hK => ?_) AllReadyH.nil
            go_simp
            go_wp2_with fail
            refine hK.out _ _ ?_ (fun hHeld => ?_)
            · try dsimp only
              exact HS6.out _ (by ((repeat' (first | with_reducible exact Below.refl _ _ | with_reducible assumption | with_reducible refine Below.drew ?_ | with_reducible refine below_drewN ?_ _ | with_reducible refine Below.setCell ?_ ?_ _ | with_reducible refine Below.alloc ?_ ?_ _ | with_reducible refine Below.trans ?_ (Below.mono (by assumption) ?_))) <;> (first | (simp; done) | (simp; omega) | omega)))
            clear hK K
            refine wpAnyH_ready (rs := [16]) (by kernel_rfl) (by simp) ?_
            refine AllReadyH.cons rfl (fun K hK => ?_) AllReadyH.nil
            go_simp
            go_wp2_with fail
            refine hK.out _ _ ?_ (fun hHeld => ?_)
            · try dsimp only
              exact HS6.out _ (by ((repeat' (first | with_reducible exact Below.refl _ _ | with_reducible assumption | with_reducible refine Below.drew ?_ | with_reducible refine below_drewN ?_ _ | with_reducible refine Below.setCell ?_ ?_ _ | with_reducible refine Below.alloc ?_ ?_ _ | with_reducible refine Below.trans ?_ (Below.mono (by assumption) ?_))) <;> (first | (simp; done) | (simp; omega) | omega)))
            clear hK K
            refine wpAnyH_ready (rs := [17]) (by kernel_rfl) (by simp) ?_
            refine AllReadyH.cons rfl (fun K hK => ?_) AllReadyH.nil
            go_simp
            go_wp2_with fail
            refine hK.out _ _ ?_ (fun hHeld => ?_)
            · try dsimp only
              exact HS6.out _ (by ((repeat' (first | with_reducible exact Below.refl _ _ | with_reducible assumption | with_reducible refine Below.drew ?_ | with_reducible refine below_drewN ?_ _ | with_reducible refine Below.setCell ?_ ?_ _ | with_reducible refine Below.alloc ?_ ?_ _ | with_reducible refine Below.trans ?_ (Below.mono (by assumption) ?_))) <;> (first | (simp; done) | (simp; omega) | omega)))
            clear hK K
            refine wpAnyH_done (by kernel_rfl) ?_ _
            all_goals (go_wp2_with fail; go_meet)
            refine ⟨g1, g2, g3, rfl, rfl, rfl, ?_, ?_, ?_, ?_⟩
            · ((repeat' (first | with_reducible assumption | with_reducible refine Blk.drew ?_ | with_reducible refine Blk.drewN ?_ _ | with_reducible refine Blk.set3 ?_ _ _ _ | with_reducible refine Blk.far ?_ ?_ _ | ((with_reducible refine Blk.new' _ _ _ _ ?_) <;> (first | (simp; done) | (simp; omega) | omega) <;> done) | with_reducible refine Blk.alloc ?_ _ | with_reducible refine Blk3.drew ?_ | with_reducible refine Blk3.drewN ?_ _ | ((with_reducible refine Blk3.new' _ _ _ _ _ _ ?_) <;> (first | (simp; done) | (simp; omega) | omega) <;> done) | with_reducible refine Blk3.alloc ?_ _ | with_reducible refine Blk3.far ?_ ?_ _ | with_reducible refine Blk3.below ?_ (by assumption) ?_ | with_reducible refine Blk.below ?_ (by assumption) ?_)) <;> (first | (simp; done) | (simp; omega) | omega))
            · ((repeat' (first | with_reducible assumption | with_reducible refine Blk.drew ?_ | with_reducible refine Blk.drewN ?_ _ | with_reducible refine Blk.set3 ?_ _ _ _ | with_reducible refine Blk.far ?_ ?_ _ | ((with_reducible refine Blk.new' _ _ _ _ ?_) <;> (first | (simp; done) | (simp; omega) | omega) <;> done) | with_reducible refine Blk.alloc ?_ _ | with_reducible refine Blk3.drew ?_ | with_reducible refine Blk3.drewN ?_ _ | ((with_reducible refine Blk3.new' _ _ _ _ _ _ ?_) <;> (first | (simp; done) | (simp; omega) | omega) <;> done) | with_reducible refine Blk3.alloc ?_ _ | with_reducible refine Blk3.far ?_ ?_ _ | with_reducible refine Blk3.below ?_ (by assumption) ?_ | with_reducible refine Blk.below ?_ (by assumption) ?_)) <;> (first | (simp; done) | (simp; omega) | omega))
            · ((repeat' (first | with_reducible assumption | with_reducible refine Blk.drew ?_ | with_reducible refine Blk.drewN ?_ _ | with_reducible refine Blk.set3 ?_ _ _ _ | with_reducible refine Blk.far ?_ ?_ _ | ((with_reducible refine Blk.new' _ _ _ _ ?_) <;> (first | (simp; done) | (simp; omega) | omega) <;> done) | with_reducible refine Blk.alloc ?_ _ | with_reducible refine Blk3.drew ?_ | with_reducible refine Blk3.drewN ?_ _ | ((with_reducible refine Blk3.new' _ _ _ _ _ _ ?_) <;> (first | (simp; done) | (simp; omega) | omega) <;> done) | with_reducible refine Blk3.alloc ?_ _ | with_reducible refine Blk3.far ?_ ?_ _ | with_reducible refine Blk3.below ?_ (by assumption) ?_ | with_reducible refine Blk.below ?_ (by assumption) ?_)) <;> (first | (simp; done) | (simp; omega) | omega))
            · ((repeat' (first | with_reducible exact Below.refl _ _ | with_reducible assumption | with_reducible refine Below.drew ?_ | with_reducible refine below_drewN ?_ _ | with_reducible refine Below.setCell ?_ ?_ _ | with_reducible refine Below.alloc ?_ ?_ _ | with_reducible refine Below.trans ?_ (Below.mono (by assumption) ?_))) <;> (first | (simp; done) | (simp; omega) | omega))
        · refine ⟨by decide +kernel, ⟨by decide +kernel, by decide +kernel, by decide +kernel, by decide +kernel, by decide +kernel, by decide +kernel, by decide +kernel, by decide +kernel, by decide +kernel⟩, ⟨by decide +kernel, by decide +kernel, by decide +kernel⟩, by decide +kernel, by decide +kernel, by ((repeat' (first | with_reducible exact Below.refl _ _ | with_reducible assumption | with_reducible refine Below.drew ?_ | with_reducible refine below_drewN ?_ _ | with_reducible refine Below.setCell ?_ ?_ _ | with_reducible refine Below.alloc ?_ ?_ _ | with_reducible refine Below.trans ?_ (Below.mono (by assumption) ?_))) <;> (first | (simp; done) | (simp; omega) | omega)), _, _, _, _, _, _, rfl, ?_, ?_, ?_, ?_, ?_, ?_, ?_, ?_, ?_⟩
          all_goals (intro h; exact absurd h (by decide +kernel))

      case rest =>
        obtain ⟨g1, g2, g3, rfl, rfl, rfl, k1, k2, k3, hb9⟩ := hcut
        obtain ⟨W9, rfl⟩ : ∃ W9, W9 = wc := ⟨_, rfl⟩
        have HE9 := Lib.hid (HEc.out.below hb9 rfl)
        have hbw9 := hbw6.trans (hb9.mono hbw6.size)
        have l1 := k1.lt
        have l2 := k2.lt
        have l3 := k3.lt
        obtain ⟨⟨x0, x1, x2⟩, _⟩ := k1.three
        have e1 : veq ⟨va.k, va.i, va.s⟩ (bV false) = false := T1.out
        have e2 : veq ⟨vb.k, vb.i, vb.s⟩ (bV true) = false := T2.out
        have e3 := T3.out
        obtain ⟨q, hq⟩ : ∃ q, veq ⟨vc.k, vc.i, vc.s⟩ (bV true) = q := ⟨_, rfl⟩
        have E1 := Lib.hid e1
        have E2 := Lib.hid e2
        have EQ := Lib.hid hq
        clear e1 e2 hq HS6 HV8 HV9 HV10
        go_wp2_with fail
        refine (is_any va.k va.i va.s false W9).mono ?_
        rw [E1.out]
        rintro en wa ⟨rfl, hba⟩
        have k2a := k2.below hba l2
        obtain ⟨⟨y0, y1, y2⟩, _⟩ := k2a.three
        have hbwa := hbw9.trans (hba.mono hbw9.size)
        go_wp2_with fail
        refine (is_any vb.k vb.i vb.s true wa).mono ?_
        rw [E2.out]
        rintro en wb ⟨rfl, hbb⟩
        have hbab := hba.trans (hbb.mono hba.size)
        have k3b := k3.below hbab l3
        obtain ⟨⟨z0, z1, z2⟩, _⟩ := k3b.three
        have hbwb := hbw9.trans (hbab.mono hbw9.size)
        go_wp2_with fail
        refine (is_any vc.k vc.i vc.s true wb).mono ?_
        rw [EQ.out]
        rintro en wd ⟨rfl, hbd⟩
        have hbad := hbab.trans (hbd.mono hbab.size)
        have hbwd := hbw9.trans (hbad.mono hbw9.size)
        have HEd := Lib.hid (HE9.out.below hbad rfl)
        cases q
        · clear EQ
          go_wp2_with fail
          refine (awake4_any _ HEd.out).mono ?_
          rintro en wx ⟨rfl, hbx⟩
          go_wp2_with fail
          go_ret
          exact ⟨rfl, hbwd.trans (hbx.mono hbwd.size)⟩
        · have e4 : veq ⟨va.k, va.i, va.s⟩ ⟨0, 0, []⟩ = true := by rw [T4.out EQ.out]; decide
          have k1d := k1.below hbad l1
          clear x0 x1 x2 EQ
          obtain ⟨⟨x0, x1, x2⟩, _⟩ := k1d.three
          go_wp2_with fail
          refine (awake4_any _ HEd.out).mono ?_
          rintro en wx ⟨rfl, hbx⟩
          go_wp2_with fail
          go_ret
          exact ⟨rfl, hbwd.trans (hbx.mono hbwd.size)⟩
    · have e1 : (!MO || !MA || !MI) = true := by cases MO <;> cases MA <;> cases MI <;> simp_all
      rw [e1]
      clear e1 hm HVO HVA HVI HSO HSA HSI HMO HMA HMI HT
      go_wp2_with fail
      refine (awake4_any _ HEc.out).mono ?_
      rintro en w9 ⟨rfl, hb9⟩
      go_wp2_with fail
      go_ret
      exact ⟨rfl, hbw6.trans (hb9.mono hbw6.size)⟩

end Go.Proofs.YtdnkkkgneikhkaaGreatDoor
