/- caddislaw09.GrantTurns answers true: what is granted, or revoked, of two different roles, tables, or rights, is the same either way round. Condition: what the library's variables hold. -/
import Derived.Test.YtchilcchogcibaaGreatDoorSBytes
import Derived.Test.YtchilcchogcibaaGreatDoorSFew9
import Derived.Test.YtchilcchogcibaaGreatDoorSFew5
import Derived.Test.YtchilcchogcibaaGreatDoorSGrLaw3
import Derived.Test.YtchilcchogcibaaGreatDoorGrLaw4
import Derived.Test.YtchilcchogcibaaGreatDoorGrMap
import Derived.Test.YtchilcchogcibaaGreatDoorSGrR4
import Derived.Test.YtchilcchogcibaaGreatDoorSRd4
import Derived.Test.YtchilcchogcibaaGreatDoorSOwnRow
import Derived.Test.YtchilcchogcibaaGreatDoorSRowReg
import Derived.Test.YtchilcchogcibaaGreatDoorSOrdersL
import Derived.Deep.CutBlock
import Derived.Deep.DeepCutAuto
namespace Go.Proofs.YtchilcchogcibaaGreatDoor
open Go.RowKit

attribute [local go_sem] ByteArray.extract_mk ba_get ba_append
attribute [local go_sem ↓] Go.wp_at_zero Go.wp_at_succ

set_option maxRecDepth 100000 in
set_option maxHeartbeats 8000000 in
theorem grantTurns_walk (A : Option Addr) (c : Nat) (l : List Gr) (sa : St) (pa : StP) (sb : St) (pb : StP) (w : World) (hl : l.length ≤ maxLen) (h : GQ l A (Old w.heap.size) w) (ha : sa.big) (hQa : StQ maxLen sa pa (Old w.heap.size) w) (hb : sb.big) (hQb : StQ maxLen sb pb (Old w.heap.size) w) (hV : Env0 w) :
    Calls Tryz.prog 5 #[.slice A l.length c, .agg (sa.cells pa).toArray, .agg (sb.cells pb).toArray] w (Ret (.bool true) w) := by
  have hFL := fewG_len l
  have hFN := fewG_short l
  obtain ⟨F, hF⟩ : ∃ F, fewG l = F := ⟨_, rfl⟩
  rw [hF] at hFL hFN
  obtain ⟨X, hX⟩ : ∃ X, sa.few = X := ⟨_, rfl⟩
  obtain ⟨Y, hY⟩ : ∃ X, sb.few = X := ⟨_, rfl⟩
  obtain ⟨w0, hw0⟩ : ∃ w0, (w.alloc (.cells (sa.cells pa).toArray 34)).alloc (.cells (sb.cells pb).toArray 34) = w0 := ⟨_, rfl⟩
  have ka0 : Blk w0 w.heap.size 34 (sa.cells pa).toArray := by rw [← hw0]; exact (Blk.new _ _ _).alloc _
  have kb0 : Blk w0 (w.heap.size + 1) 34 (sb.cells pb).toArray := by rw [← hw0]; exact Blk.new' _ _ _ _ (by simp)
  have hb0 : Below w.heap.size w w0 := by rw [← hw0]; exact bl
  have hs0 : w0.heap.size = w.heap.size + 2 := by rw [← hw0]; simp
  have hz0 := hb0.size
  have HW := Lib.hid hw0
  have HB0 := Lib.hid hb0
  have hko : ∀ Z : World, Below w0.heap.size w0 Z → ∀ b, Old w.heap.size b → Old Z.heap.size b ∧ ∀ o, Z.cell? ⟨b, o, none⟩ = w.cell? ⟨b, o, none⟩ := fun Z hz => old_keep (hb0.trans (hz.mono hz0)) (Nat.le_trans hz0 hz.size)
  have HF9 : Hid (∀ Z : World, Below w0.heap.size w0 Z → Calls Tryz.prog 12 #[.slice A l.length c] Z (RetGs F Z)) := fun Z hz => by rw [← hF]; exact few9_any A c l Z hl (h.keep (hko Z hz))
  have HFA : Hid (∀ Z : World, Below w0.heap.size w0 Z → Calls Tryz.prog 14 #[.agg (sa.cells pa).toArray] Z (RetSt X Z)) := fun Z hz => by rw [← hX]; exact few5_any sa pa Z ha (hQa.keep (hko Z hz))
  have HFB : Hid (∀ Z : World, Below w0.heap.size w0 Z → Calls Tryz.prog 14 #[.agg (sb.cells pb).toArray] Z (RetSt Y Z)) := fun Z hz => by rw [← hY]; exact few5_any sb pb Z hb (hQb.keep (hko Z hz))
  have HSH : Hid (∀ Z : World, Below w0.heap.size w0 Z → Blk Z w.heap.size 34 (sa.cells pa).toArray ∧ Blk Z (w.heap.size + 1) 34 (sb.cells pb).toArray) := fun Z hz => ⟨ka0.below hz ka0.lt, kb0.below hz kb0.lt⟩
  have HEV : Hid (∀ Z : World, Below w.heap.size w Z → Env0 Z) := fun Z hz => hV.below hz
  have HFN := Lib.hid hFN
  clear hw0 hko hF hX hY h ha hQa hb hQb hV hFN ka0 kb0 hb0 hl
  go_enter Tryz.func5, Tryz.ntmps5
  go_upto_region 1 with fail
  rw [show World.alloc (World.alloc w _) _ = w0 from HW.out]
  clear HW
  refine wp_region_till [7] (fun Z => Blk Z w.heap.size 34 (sa.cells pa).toArray ∧ Blk Z (w.heap.size + 1) 34 (sb.cells pb).toArray) (by kernel_rfl) ?_ (fun hHeld => ?_)
  · try dsimp only
    exact HSH.out _ (by exact bl)
  refine tI 0 7 [7] ?_
  refine ap ?_
  refine tI 2 7 [7] (v := .agg ((sa.cells pa).toArray)) (hy := yields_row (34) _ rfl (by rfl) (w.heap.size) rfl (34) ((sa.cells pa).toArray) _ (Tryz.underlying34) rfl (size_st) (fun wq hSw => hSw.1)) ?_
  refine ap ?_
  refine tI 4 7 [5, 6, 7] (v := .agg ((sb.cells pb).toArray)) (hy := yields_row (34) _ rfl (by rfl) (w.heap.size + 1) rfl (34) ((sb.cells pb).toArray) _ (Tryz.underlying34) rfl (size_st) (fun wq hSw => hSw.2)) ?_
  refine ap ?_
  refine wpAnyI_ready (rs := [1]) (by kernel_rfl) (by simp) ?_
  refine AllReadyI.consT rfl (fun K hK => ?_) AllReadyI.nil
  go_simp
  (refine (HF9.out _ (by exact bl)).mono ?_) <;> rintro en w1 ⟨sv, rfl, hown, hb1⟩ <;> have hz1 : w0.heap.size ≤ w1.heap.size := hb1.size <;> obtain ⟨A1, c1, rfl, -, -, hQ1⟩ := GQ.own hown <;> clear hown
  go_wp2_with fail
  refine hK.out _ _ (HSH.out _ (by exact bl)) fun hHeld => ?_
  clear hK K
  refine ap ?_
  refine wpAnyI_ready (rs := [3]) (by kernel_rfl) (by simp) ?_
  refine AllReadyI.consT rfl (fun K hK => ?_) AllReadyI.nil
  go_simp
  (refine (HFA.out _ (by exact bl)).mono ?_) <;> rintro en w3 ⟨pX, rfl, okX, hQX, hb3⟩ <;> have hz3 := hb3.size
  go_wp2_with fail
  refine hK.out _ _ (HSH.out _ (by exact bl)) fun hHeld => ?_
  clear hK K
  refine ap ?_
  refine wpAnyI_ready (rs := [5]) (by kernel_rfl) (by simp) ?_
  refine AllReadyI.consT rfl (fun K hK => ?_) AllReadyI.nil
  go_simp
  (refine (HFB.out _ (by exact bl)).mono ?_) <;> rintro en w5 ⟨pY, rfl, okY, hQY, hb5⟩ <;> have hz5 := hb5.size
  go_wp2_with fail
  refine hK.out _ _ (HSH.out _ (by exact bl)) fun hHeld => ?_
  clear hK K
  refine ap ?_
  refine tI 6 7 [7] ?_
  refine ap ?_
  refine wpAnyI_ready (rs := [7]) (by kernel_rfl) (by simp) ?_
  refine AllReadyI.consD rfl (by decide) (fun K hK => ?_) AllReadyI.nil
  refine step_store_row (by rfl) (34) _ _ rfl (w.heap.size) ((X.cells pX).toArray) rfl rfl (34) (⟨(sa.cells pa).toArray, rfl, (HSH.out w5 (by exact bl)).1⟩) (size_st) (one_st X pX) ?_
  refine hK.out _ _ ?_
  clear hK K
  refine ap ?_
  refine wpAnyI_ready (rs := [8]) (by kernel_rfl) (by simp) ?_
  refine AllReadyI.consD rfl (by decide) (fun K hK => ?_) AllReadyI.nil
  refine step_store_row (by rfl) (34) _ _ rfl (w.heap.size + 1) ((Y.cells pY).toArray) rfl rfl (34) (⟨(sb.cells pb).toArray, rfl, ((HSH.out w5 (by exact bl)).2).rowFar (by omega) _⟩) (size_st) (one_st Y pY) ?_
  refine hK.out _ _ ?_
  clear hK K
  refine ap ?_
  refine wpAnyI_done (by kernel_rfl) ?_ _
  have hc5 : Below w0.heap.size w0 w5 := by exact bl
  obtain ⟨kk1, kk2⟩ := HSH.out w5 hc5
  obtain ⟨W, hW⟩ : ∃ W, (w5.setRow w.heap.size (X.cells pX).toArray).setRow (w.heap.size + 1) (Y.cells pY).toArray = W := ⟨_, rfl⟩
  rw [hW]
  have kX : Blk W w.heap.size 34 (X.cells pX).toArray := by rw [← hW]; exact (kk1.row _).rowFar (by omega) _
  have kY : Blk W (w.heap.size + 1) 34 (Y.cells pY).toArray := by rw [← hW]; exact (kk2.rowFar (by omega) _).row _
  have hsW : W.heap.size = w5.heap.size := by rw [← hW, setRow_size, setRow_size]
  have hcW : ∀ b o, w.heap.size + 2 ≤ b → W.cell? ⟨b, o, none⟩ = w5.cell? ⟨b, o, none⟩ := fun b o hb => by
    rw [← hW]
    exact (World.cell?_of_block (a := ⟨b, o, none⟩) (setRow_block _ _ b _ (by omega))).trans (World.cell?_of_block (a := ⟨b, o, none⟩) (setRow_block _ _ b _ (by omega)))
  have hn5 : Below w.heap.size w w5 := HB0.out.trans (hc5.mono hz0)
  have hnW : Below w.heap.size w W := by rw [← hW]; exact bwRow (bwRow hn5 (Nat.le_refl _) _) (Nat.le_succ _) _
  have hQF : GQ F A1 (Old W.heap.size) W := hQ1.keep fun b hb => by
    have hb' : w0.heap.size ≤ b ∧ b < w1.heap.size := hb
    exact ⟨show b < W.heap.size by omega, fun o => (hcW b o (by omega)).trans ((hb5.cell (p := ⟨b, o, none⟩) (show b < w3.heap.size by omega)).trans (hb3.cell (p := ⟨b, o, none⟩) hb'.2))⟩
  have hQX' : StQ 1000 X pX (Old W.heap.size) W := hQX.keep fun b hb => ⟨show b < W.heap.size by omega, fun o => (hcW b o (by omega)).trans (hb5.cell (p := ⟨b, o, none⟩) hb.2)⟩
  have hQY' : StQ 1000 Y pY (Old W.heap.size) W := hQY.keep fun b hb => ⟨show b < W.heap.size by omega, fun o => hcW b o (by omega)⟩
  have HQ : Hid (∀ Z : World, Below W.heap.size W Z → GQ F A1 (Old Z.heap.size) Z) := fun Z hz => hQF.keep (old_keep hz hz.size)
  have HQX : Hid (∀ Z : World, Below W.heap.size W Z → StQ 1000 X pX (Old Z.heap.size) Z) := fun Z hz => hQX'.keep (old_keep hz hz.size)
  have HQY : Hid (∀ Z : World, Below W.heap.size W Z → StQ 1000 Y pY (Old Z.heap.size) Z) := fun Z hz => hQY'.keep (old_keep hz hz.size)
  have HKK : Hid (∀ Z : World, Below W.heap.size W Z → Blk Z w.heap.size 34 (X.cells pX).toArray ∧ Blk Z (w.heap.size + 1) 34 (Y.cells pY).toArray) := fun Z hz => ⟨kX.below hz kX.lt, kY.below hz kY.lt⟩
  have HOX := Lib.hid okX
  have HOY := Lib.hid okY
  have HVV : Hid (∀ Z : World, Below W.heap.size W Z → Env0 Z) := fun Z hz => HEV.out Z (hnW.trans (hz.mono hnW.size))
  have HN0 : Hid (∀ g ∈ F, g.r.length ≤ 1000000 ∧ g.t.length ≤ 1000000) := fun g hg => by have := HFN.out g hg; omega
  have hN1 : ∀ (L : List Gr) (S : St), (∀ g ∈ L, g.r.length ≤ 1000 ∧ g.t.length ≤ 1000) → S.Ok → ∀ g ∈ (doG L S).1, g.r.length ≤ 1000 ∧ g.t.length ≤ 1000 := fun L S h1 h2 => doG_short 1000 L S h1 h2.role h2.tb
  have hN2 : ∀ g ∈ F, g.r.length ≤ 1000 ∧ g.t.length ≤ 1000 := fun g hg => by have := HFN.out g hg; omega
  have HNX := Lib.hid (hN1 F X hN2 okX)
  have HNY := Lib.hid (hN1 F Y hN2 okY)
  have hlx := doG_len4 F X
  have hly := doG_len4 F Y
  have HD1 := Lib.hid (do_any A1 c1 F X pX W (by omega) HN0.out hQF okX hQX' (HVV.out W (Below.refl _ _)))
  obtain ⟨r1, hr1⟩ : ∃ r, doG F X = r := ⟨_, rfl⟩
  obtain ⟨r3, hr3⟩ : ∃ r, doG F Y = r := ⟨_, rfl⟩
  rw [hr1] at HD1 HNX hlx
  rw [hr3] at HNY hly
  obtain ⟨L1, e1⟩ := r1
  obtain ⟨L3, e3⟩ := r3
  dsimp only at hlx hly
  have HR1 := Lib.hid hr1
  have HR3 := Lib.hid hr3
  clear hW kk1 kk2 hQ1 hQX hQY hb1 hb3 hb5 hcW hQF hQX' hQY' hN1 hN2 HF9 HFA HFB HSH HFN HB0 hr1 hr3 okX okY hn5 hHeld
  go_wp2_with (refine wpList_load_rowG (by rfl) 34 _ rfl (w.heap.size) rfl 34 (X.cells pX).toArray (0, 0) _ (kX) Tryz.underlying34 rfl size_st ?_)
  refine HD1.out.mono ?_
  rintro en w6 ⟨sv, rfl, hown, hb6⟩
  dsimp only at hown ⊢
  obtain ⟨A6, c6, rfl, -, -, hQ6⟩ := GQ.own hown
  have hz6 := hb6.size
  have HD2 := Lib.hid (do_any A6 c6 L1 Y pY w6 (by omega) (fun g hg => by have := HNX.out g hg; omega) (hQ6.keep fun b hb => ⟨hb.2, fun o => rfl⟩) HOY.out (HQY.out w6 hb6) (HVV.out w6 hb6))
  have hl2 := doG_len4 L1 Y
  obtain ⟨r2, hr2⟩ : ∃ r, doG L1 Y = r := ⟨_, rfl⟩
  rw [hr2] at HD2 hl2
  obtain ⟨L2, e2⟩ := r2
  dsimp only at hl2
  have HR2 := Lib.hid hr2
  have hk6 := (HKK.out w6 hb6).2
  clear hown HD1 hQ6 hr2 kX kY
  go_wp2_with (refine wpList_load_rowG (by rfl) 34 _ rfl (w.heap.size + 1) rfl 34 (Y.cells pY).toArray (0, 0) _ (hk6) Tryz.underlying34 rfl size_st ?_)
  refine HD2.out.mono ?_
  rintro en w7 ⟨sv, rfl, hown, hb7⟩
  dsimp only at hown ⊢
  obtain ⟨A7, c7, rfl, -, -, hQ7⟩ := GQ.own hown
  have hz7 := hb7.size
  have hc7 : Below W.heap.size W w7 := hb6.trans (hb7.mono hz6)
  have HQ7 : Hid (∀ Z : World, Below w7.heap.size w7 Z → GQ L2 A7 (Old Z.heap.size) Z) := fun Z hz => hQ7.keep fun b hb => ⟨Nat.lt_of_lt_of_le hb.2 hz.size, fun o => hz.cell (p := ⟨b, o, none⟩) hb.2⟩
  have HD3 := Lib.hid (do_any A1 c1 F Y pY w7 (by omega) HN0.out (HQ.out w7 hc7) HOY.out (HQY.out w7 hc7) (HVV.out w7 hc7))
  rw [HR3.out] at HD3
  have hk7 := (HKK.out w7 hc7).2
  clear hown HD2 hQ7 hk6 hb6
  go_wp2_with (refine wpList_load_rowG (by rfl) 34 _ rfl (w.heap.size + 1) rfl 34 (Y.cells pY).toArray (0, 0) _ (hk7) Tryz.underlying34 rfl size_st ?_)
  refine HD3.out.mono ?_
  rintro en w8 ⟨sv, rfl, hown, hb8⟩
  dsimp only at hown ⊢
  obtain ⟨A8, c8, rfl, -, -, hQ8⟩ := GQ.own hown
  have hz8 := hb8.size
  have hc8 : Below W.heap.size W w8 := hc7.trans (hb8.mono hc7.size)
  have HD4 := Lib.hid (do_any A8 c8 L3 X pX w8 (by omega) (fun g hg => by have := HNY.out g hg; omega) (hQ8.keep fun b hb => ⟨hb.2, fun o => rfl⟩) HOX.out (HQX.out w8 hc8) (HVV.out w8 hc8))
  have hl4 := doG_len4 L3 X
  obtain ⟨r4, hr4⟩ : ∃ r, doG L3 X = r := ⟨_, rfl⟩
  rw [hr4] at HD4 hl4
  obtain ⟨L4, e4⟩ := r4
  dsimp only at hl4
  have HR4 := Lib.hid hr4
  have hk8 := (HKK.out w8 hc8).1
  clear hown HD3 hQ8 hk7 hr4
  go_wp2_with (refine wpList_load_rowG (by rfl) 34 _ rfl (w.heap.size) rfl 34 (X.cells pX).toArray (0, 0) _ (hk8) Tryz.underlying34 rfl size_st ?_)
  refine HD4.out.mono ?_
  rintro en w9 ⟨sv, rfl, hown, hb9⟩
  dsimp only at hown ⊢
  obtain ⟨A9, c9, rfl, -, -, hQ9⟩ := GQ.own hown
  have hz9 := hb9.size
  have hc9 : Below W.heap.size W w9 := hc8.trans (hb9.mono hc8.size)
  have hc79 : Below w7.heap.size w7 w9 := hb8.trans (hb9.mono hz8)
  have HQ9 : Hid (∀ Z : World, Below w9.heap.size w9 Z → GQ L4 A9 (Old Z.heap.size) Z) := fun Z hz => hQ9.keep fun b hb => ⟨Nat.lt_of_lt_of_le hb.2 hz.size, fun o => hz.cell (p := ⟨b, o, none⟩) hb.2⟩
  obtain ⟨w10, w11, m0, m1, m2, hmap, hb11⟩ := rightM w9
  have hz11 := hb11.size
  have hc11 : Below W.heap.size W w11 := hc9.trans (hb11.mono hc9.size)
  have hn11 : Below w.heap.size w w11 := hnW.trans (hc11.mono hnW.size)
  have HMAP := Lib.hid hmap
  have HB11 := Lib.hid hb11
  have HC79 := Lib.hid (hc79.trans (hb11.mono hc79.size))
  unfold oWrite at m1
  unfold oUnwrite at m2
  clear hown HD4 hQ9 hk8 hb7 hb8 hb9 hc7 hc8 hc79 hmap
  go_upto_region 7 with fail
  clear m0 m1 m2
  obtain ⟨kk1, kk2⟩ := HKK.out w11 hc11
  have x0 : w11.cell? ⟨w.heap.size, 0, none⟩ = some (.string ⟨X.op.toArray⟩) := kk1.cell 0
  have x1 : w11.cell? ⟨w.heap.size, 1, none⟩ = some (.string ⟨X.tb.toArray⟩) := kk1.cell 1
  have x2 : w11.cell? ⟨w.heap.size, 22, none⟩ = some (.string ⟨X.role.toArray⟩) := kk1.cell 22
  have y0 : w11.cell? ⟨w.heap.size + 1, 0, none⟩ = some (.string ⟨Y.op.toArray⟩) := kk2.cell 0
  have y1 : w11.cell? ⟨w.heap.size + 1, 1, none⟩ = some (.string ⟨Y.tb.toArray⟩) := kk2.cell 1
  have y2 : w11.cell? ⟨w.heap.size + 1, 22, none⟩ = some (.string ⟨Y.role.toArray⟩) := kk2.cell 22
  have q1 := lookR X.op HMAP.out
  have q2 := lookR Y.op HMAP.out
  obtain ⟨SM, hSM⟩ : ∃ b, (decide (X.role = Y.role) && decide (X.tb = Y.tb) && (wrOp X.op == wrOp Y.op)) = b := ⟨_, rfl⟩
  have HSM := Lib.hid hSM
  obtain ⟨B1, hB1⟩ : ∃ b, wrOp X.op = b := ⟨_, rfl⟩
  obtain ⟨B2, hB2⟩ : ∃ b, wrOp Y.op = b := ⟨_, rfl⟩
  rw [hB1] at q1
  rw [hB2] at q2
  rw [hB1, hB2] at hSM
  have HS2 := Lib.hid hSM
  clear kk1 kk2 hB1 hB2 hSM
  go_cut [16] (fun s wx => s = .bool SM ∧ wx = w11)
  case first =>
    by_cases hr : X.role = Y.role
    · rw [← hr] at y2
      by_cases ht : X.tb = Y.tb
      · rw [← ht] at y1
        have hs : (B1 == B2) = SM := by rw [← HS2.out, decide_eq_true hr, decide_eq_true ht]; rfl
        have HE := Lib.hid hs
        clear hr ht hs
        cases B1 <;> cases B2
        all_goals
          go_wp2_with fail
          go_meet
          exact ⟨by rw [← HE.out]; rfl, rfl⟩
      · have e1 : (X.tb == Y.tb) = false := beq_eq_false_iff_ne.2 ht
        have hs : false = SM := by rw [← HS2.out, decide_eq_false ht]; simp
        have HE := Lib.hid hs
        clear hr ht hs
        go_wp2_with fail
        go_meet
        exact ⟨by rw [← HE.out], rfl⟩
    · have e1 : (X.role == Y.role) = false := beq_eq_false_iff_ne.2 hr
      have hs : false = SM := by rw [← HS2.out, decide_eq_false hr]; simp
      have HE := Lib.hid hs
      clear hr hs
      go_wp2_with fail
      go_meet
      exact ⟨by rw [← HE.out], rfl⟩
  obtain ⟨rfl, rfl⟩ := hcut
  clear x0 x1 x2 y0 y1 y2 q1 q2 HMAP HKK
  by_cases h1 : e1 = 0
  case neg =>
    have g1 : (e1 != 0) = true := by simpa using h1
    have HAW := Lib.hid (awake9_any _ (HEV.out _ hn11))
    go_wp2_with fail
    refine HAW.out.mono ?_
    rintro en wz ⟨rfl, hbz⟩
    go_wp2_with fail
    go_ret
    exact ⟨rfl, hn11.trans (hbz.mono hn11.size)⟩
  have g1 : (e1 != 0) = false := by simpa using h1
  by_cases h2 : e2 = 0
  case neg =>
    have g2 : (e2 != 0) = true := by simpa using h2
    have HAW := Lib.hid (awake9_any _ (HEV.out _ hn11))
    go_wp2_with fail
    refine HAW.out.mono ?_
    rintro en wz ⟨rfl, hbz⟩
    go_wp2_with fail
    go_ret
    exact ⟨rfl, hn11.trans (hbz.mono hn11.size)⟩
  have g2 : (e2 != 0) = false := by simpa using h2
  by_cases h3 : e3 = 0
  case neg =>
    have g3 : (e3 != 0) = true := by simpa using h3
    have HAW := Lib.hid (awake9_any _ (HEV.out _ hn11))
    go_wp2_with fail
    refine HAW.out.mono ?_
    rintro en wz ⟨rfl, hbz⟩
    go_wp2_with fail
    go_ret
    exact ⟨rfl, hn11.trans (hbz.mono hn11.size)⟩
  have g3 : (e3 != 0) = false := by simpa using h3
  by_cases h4 : e4 = 0
  case neg =>
    have g4 : (e4 != 0) = true := by simpa using h4
    have HAW := Lib.hid (awake9_any _ (HEV.out _ hn11))
    go_wp2_with fail
    refine HAW.out.mono ?_
    rintro en wz ⟨rfl, hbz⟩
    go_wp2_with fail
    go_ret
    exact ⟨rfl, hn11.trans (hbz.mono hn11.size)⟩
  have g4 : (e4 != 0) = false := by simpa using h4
  cases SM with
  | true =>
    have HAW := Lib.hid (awake9_any _ (HEV.out _ hn11))
    go_wp2_with fail
    refine HAW.out.mono ?_
    rintro en wz ⟨rfl, hbz⟩
    go_wp2_with fail
    go_ret
    exact ⟨rfl, hn11.trans (hbz.mono hn11.size)⟩
  | false =>
    have hLL : L2 = L4 := by
      have r1 := HR1.out
      have r2 := HR2.out
      have r3 := HR3.out
      have r4 := HR4.out
      have ht := turns_law F X Y (by rw [r1]; exact h1) (by rw [r1]; dsimp only; rw [r2]; exact h2) (by rw [r3]; exact h3) (by rw [r3]; dsimp only; rw [r4]; exact h4) (stG_ne HSM.out)
      rw [r1, r3] at ht
      dsimp only at ht
      rw [r2, r4] at ht
      exact ht
    subst hLL
    have hc9b : Below w9.heap.size w9 wc := HB11.out
    have HS := Lib.hid (rsameG_any A7 A9 c7 c9 L2 L2 wc (by omega) (by omega) (HQ7.out wc HC79.out) (HQ9.out wc hc9b))
    rw [decide_eq_true (rfl : L2 = L2)] at HS
    clear h1 h2 h3 h4
    go_wp2_with fail
    refine HS.out.mono ?_
    rintro en wa ⟨rfl, hba⟩
    have hna : Below w.heap.size w wa := hn11.trans (hba.mono hn11.size)
    have HAW := Lib.hid (awake9_any wa (HEV.out wa hna))
    go_wp2_with fail
    refine HAW.out.mono ?_
    rintro en wz ⟨rfl, hbz⟩
    go_wp2_with fail
    go_ret
    exact ⟨rfl, hna.trans (hbz.mono hna.size)⟩

end Go.Proofs.YtchilcchogcibaaGreatDoor
