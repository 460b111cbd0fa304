/- caddislaw09.GrantDoes answers true; What a row's list of variables gives; What a row's list of variables gives statements' texts; caddislaw09.GrantDoes answers true. -/
import Derived.Stop.LaidErr
import Derived.Test.YtchilcchogcibaaGreatDoorDFew5
import Derived.Test.YtchilcchogcibaaGreatDoorDGrDo
set_option maxRecDepth 100000
set_option maxHeartbeats 8000000
namespace Go.Proofs.YtchilcchogcibaaGreatDoor
open Go.RowKit
attribute [local go_sem] ByteArray.extract_mk ba_get ba_append
attribute [local go_sem ↓] Go.wp_at_zero Go.wp_at_succ run_neq_G
theorem fewG_again (l : List Gr) : fewG (fewG l) = fewG l := by
 unfold fewG
 rw [← List.map_take, List.take_take, Nat.min_self, List.map_map]
 refine List.map_congr_left fun g _ => ?_
 show fewGr (fewGr g) = fewGr g
 unfold fewGr
 simp [List.take_take]
theorem few_l (e : Ex) : (fewX e).l.length ≤ maxLen := by
 unfold fewX
 show (fewFold (fewE 13) (e.l.take 3) (80 - 1)).1.length ≤ maxLen
 have h1 := fewFold_len (fewE 13) (e.l.take 3) (80 - 1)
 have h2 : (e.l.take 3).length ≤ 3 := List.length_take_le _ _
 unfold maxLen; omega
theorem few_small (s : St) : s.few.small := by
 have h0 : (fewS s.names).length ≤ 10 := by unfold fewS; simp; omega
 have h1 : (fewCols s.cols).length ≤ 9 := by unfold fewCols; simp; omega
 have h2 : (fewS s.uniq).length ≤ 10 := by unfold fewS; simp; omega
 have h3 : ((s.refs.take 10).map fewRf).length ≤ 10 := by simp; omega
 have h4 : ((s.sets.take 10).map fewSe).length ≤ 10 := by simp; omega
 exact ⟨Nat.le_trans h0 (by decide), Nat.le_trans h1 (by decide), Nat.le_trans h2 (by decide), Nat.le_trans h3 (by decide), Nat.le_trans h4 (by decide)⟩
theorem few_sets (s : St) : ∀ x ∈ s.few.sets, x.e.l.length ≤ maxLen := fun x hx => by
 have hx' : x ∈ (s.sets.take 10).map fewSe := hx
 obtain ⟨y, -, rfl⟩ := List.mem_map.1 hx'
 exact few_l y.e
theorem grantDoes_walk (A : Option Addr) (c : Nat) (l : List Gr) (tt : List UInt8) (sa : St) (pa : StP) (w : World) (hl : l.length ≤ maxLen) (h : GQ l A (Old w.heap.size) w) (ha : sa.big) (hQa : StQ maxLen sa pa (Old w.heap.size) w) (hV : Env0 w) :
  Calls Tryz.prog 3 #[.slice A l.length c, .string ⟨tt.toArray⟩, .agg (sa.cells pa).toArray] w (Ret (.bool true) w) := by
 have hFL := fewG_len l
 have hFN := fewG_short l
 have hFA := fewG_again l
 have hXC : sa.few.chk.l.length ≤ maxLen := few_l sa.chk
 have hXW : sa.few.whr.l.length ≤ maxLen := few_l sa.whr
 have hXS := few_sets sa
 have hXM := few_small sa
 obtain ⟨F, hF⟩ : ∃ F, fewG l = F := ⟨_, rfl⟩
 rw [hF] at hFL hFN hFA
 obtain ⟨X, hX⟩ : ∃ X, sa.few = X := ⟨_, rfl⟩
 rw [hX] at hXC hXW hXS hXM
 obtain ⟨TT, hT⟩ : ∃ X, tt.take 20 = X := ⟨_, rfl⟩
 obtain ⟨w0, hw0⟩ : ∃ w0, w.alloc (.cells (sa.cells pa).toArray 34) = w0 := ⟨_, rfl⟩
 have ka0 : Blk w0 w.heap.size 34 (sa.cells pa).toArray := by rw [← hw0]; exact Blk.new _ _ _
 have hb0 : Below w.heap.size w w0 := by rw [← hw0]; exact bl
 have hs0 : w0.heap.size = w.heap.size + 1 := by rw [← hw0]; simp
 have hz0 := hb0.size
 have HW := Lib.hid hw0
 have HB0 := Lib.hid hb0
 have hko : ∀ Z : World, Below w0.heap.size w0 Z → ∀ b, Old w.heap.size b → Old Z.heap.size b ∧ ∀ o, Z.cell? ⟨b, o, none⟩ = w.cell? ⟨b, o, none⟩ := fun Z hz => old_keep (hb0.trans (hz.mono hz0)) (Nat.le_trans hz0 hz.size)
 have HF9 : Hid (∀ Z : World, Below w0.heap.size w0 Z → Calls Tryz.prog 12 #[.slice A l.length c] Z (RetGs F Z)) := fun Z hz => by rw [← hF]; exact few9_any A c l Z hl (h.keep (hko Z hz))
 have HFA : Hid (∀ Z : World, Below w0.heap.size w0 Z → Calls Tryz.prog 14 #[.agg (sa.cells pa).toArray] Z (RetSt X Z)) := fun Z hz => by rw [← hX]; exact few5_any sa pa Z ha (hQa.keep (hko Z hz))
 have HFT : Hid (∀ Z : World, Calls Tryz.prog 13 #[.string ⟨tt.toArray⟩] Z (Ret (.string ⟨TT.toArray⟩) Z)) := fun Z => by rw [← hT]; exact text9_any tt Z
 have HSH : Hid (∀ Z : World, Below w0.heap.size w0 Z → Blk Z w.heap.size 34 (sa.cells pa).toArray) := fun Z hz => ka0.below hz ka0.lt
 have HEV : Hid (∀ Z : World, Below w.heap.size w Z → Env0 Z) := fun Z hz => hV.below hz
 have HFN := Lib.hid hFN
 have HXS := Lib.hid hXS
 clear hw0 hko hF hX hT h ha hQa hV hFN ka0 hb0 hl hXS
 go_in
 go_upto_region 1 with fail
 rw [show World.alloc w _ = w0 from HW.out]
 clear HW
 refine wp_region_till [8] (fun Z => Blk Z w.heap.size 34 (sa.cells pa).toArray) (by kernel_rfl) ?_ (fun hHeld => ?_)
 ·try dsimp only
  exact HSH.out _ (by exact bl)
 refine tI 0 8 [8] ?_
 refine ap ?_
 refine tI 2 8 [8] ?_
 refine ap ?_
 refine tI 4 8 [8] (v := .agg ((sa.cells pa).toArray)) (hy := yields_row (34) _ rfl (by rfl) (w.heap.size) rfl (34) ((sa.cells pa).toArray) _ (Tryz.underlying34) rfl (size_st) (fun wq hSw => hSw)) ?_
 refine ap ?_
 refine wpAnyI_ready (rs := [1]) (by kernel_rfl) (by simp) ?_
 refine AllReadyI.consT rfl (fun K hK => ?_) AllReadyI.nil
 go_simp
 (refine (HF9.out _ (by exact bl)).mono ?_) <;> rintro en w1 ⟨sv, rfl, hown, hb1⟩ <;> have hz1 : w0.heap.size ≤ w1.heap.size := hb1.size <;> obtain ⟨A1, c1, rfl, -, -, hQ1⟩ := GQ.own hown <;> clear hown
 go_wp2_with fail
 refine hK.out _ _ (HSH.out _ (by exact bl)) fun hHeld => ?_
 clear hK K
 refine ap ?_
 refine wpAnyI_ready (rs := [3]) (by kernel_rfl) (by simp) ?_
 refine AllReadyI.consT rfl (fun K hK => ?_) AllReadyI.nil
 go_simp
 (refine (HFT.out _).mono ?_) <;> rintro en w3 ⟨rfl, hb3⟩ <;> have hz3 := hb3.size
 go_wp2_with fail
 refine hK.out _ _ (HSH.out _ (by exact bl)) fun hHeld => ?_
 clear hK K
 refine ap ?_
 refine wpAnyI_ready (rs := [5]) (by kernel_rfl) (by simp) ?_
 refine AllReadyI.consT rfl (fun K hK => ?_) AllReadyI.nil
 go_simp
 (refine (HFA.out _ (by exact bl)).mono ?_) <;> rintro en w5 ⟨pX, rfl, okX, hQX, hb5⟩ <;> have hz5 := hb5.size
 go_wp2_with fail
 refine hK.out _ _ (HSH.out _ (by exact bl)) fun hHeld => ?_
 clear hK K
 refine ap ?_
 refine tI 6 8 [8] ?_
 refine ap ?_
 refine tI 7 8 [8] ?_
 refine ap ?_
 refine wpAnyI_ready (rs := [8]) (by kernel_rfl) (by simp) ?_
 refine AllReadyI.consD rfl (by decide) (fun K hK => ?_) AllReadyI.nil
 refine step_store_row (by rfl) (34) _ _ rfl (w.heap.size) ((X.cells pX).toArray) rfl rfl (34) (⟨(sa.cells pa).toArray, rfl, HSH.out w5 (by exact bl)⟩) (size_st) (one_st X pX) ?_
 refine hK.out _ _ ?_
 clear hK K
 refine ap ?_
 refine wpAnyI_done (by kernel_rfl) ?_ _
 have hc5 : Below w0.heap.size w0 w5 := by exact bl
 have kk1 := HSH.out w5 hc5
 obtain ⟨W, hW⟩ : ∃ W, w5.setRow w.heap.size (X.cells pX).toArray = W := ⟨_, rfl⟩
 rw [hW]
 have kX : Blk W w.heap.size 34 (X.cells pX).toArray := by rw [← hW]; exact kk1.row _
 have hsW : W.heap.size = w5.heap.size := by rw [← hW, setRow_size]
 have hcW : ∀ b o, w.heap.size + 1 ≤ b → W.cell? ⟨b, o, none⟩ = w5.cell? ⟨b, o, none⟩ := fun b o hb => by
  rw [← hW]
  exact World.cell?_of_block (a := ⟨b, o, none⟩) (setRow_block _ _ b _ (by omega))
 have hn5 : Below w.heap.size w w5 := HB0.out.trans (hc5.mono hz0)
 have hnW : Below w.heap.size w W := by rw [← hW]; exact bwRow hn5 (Nat.le_refl _) _
 have hQF : GQ F A1 (Old W.heap.size) W := hQ1.keep fun b hb => by
  have hb' : w0.heap.size ≤ b ∧ b < w1.heap.size := hb
  exact ⟨show b < W.heap.size by omega, fun o => (hcW b o (by omega)).trans ((hb5.cell (p := ⟨b, o, none⟩) (show b < w3.heap.size by omega)).trans (hb3.cell (p := ⟨b, o, none⟩) hb'.2))⟩
 have hQX' : StQ 1000 X pX (Old W.heap.size) W := hQX.keep fun b hb => ⟨show b < W.heap.size by omega, fun o => hcW b o (by omega)⟩
 have HQ : Hid (∀ Z : World, Below W.heap.size W Z → GQ F A1 (Old Z.heap.size) Z) := fun Z hz => hQF.keep (old_keep hz hz.size)
 have HQX : Hid (∀ Z : World, Below W.heap.size W Z → StQ 1000 X pX (Old Z.heap.size) Z) := fun Z hz => hQX'.keep (old_keep hz hz.size)
 have HKK : Hid (∀ Z : World, Below W.heap.size W Z → Blk Z w.heap.size 34 (X.cells pX).toArray) := fun Z hz => kX.below hz kX.lt
 have HN0 : Hid (∀ g ∈ F, g.r.length ≤ 1000000 ∧ g.t.length ≤ 1000000) := fun g hg => by have := HFN.out g hg; omega
 have HVV : Hid (∀ Z : World, Below W.heap.size W Z → Env0 Z) := fun Z hz => HEV.out Z (hnW.trans (hz.mono hnW.size))
 have HNW := Lib.hid hnW
 have HTX : Hid (∀ Z : World, Below W.heap.size W Z → Calls Tryz.prog 42 #[.agg (X.cells pX).toArray] Z (RetTx X Z)) := fun Z hz => rtext_st X pX Z okX hXC hXW HXS.out hXM (HQX.out Z hz)
 have HF2 := Lib.hid (few9_any A1 c1 F W (by unfold maxLen; omega) hQF)
 rw [hFA] at HF2
 obtain ⟨r1, hr1⟩ : ∃ r, doG F X = r := ⟨_, rfl⟩
 have HDO : Hid (∀ Z : World, Below W.heap.size W Z → Calls Tryz.prog 15 #[.slice A1 F.length c1, .agg (X.cells pX).toArray] Z (RetGE r1 Z)) := fun Z hz => by rw [← hr1]; exact do_any A1 c1 F X pX Z (by omega) HN0.out (HQ.out Z hz) okX (HQX.out Z hz) (HVV.out Z hz)
 have HRD : Hid (∀ Z : World, Below W.heap.size W Z → Calls Tryz.prog 16 #[.slice A1 F.length c1, .agg (X.cells pX).toArray] Z (RetGE r1 Z)) := fun Z hz => by rw [← hr1, do_D]; exact rdo_any A1 c1 F X pX Z (by omega) HN0.out (HQ.out Z hz) fun Y hY => HTX.out Y (hz.trans (hY.mono hz.size))
 have hlr : r1.1.length ≤ 1000000 := by rw [← hr1]; have := doG_len F X; omega
 obtain ⟨MG, hMG⟩ : ∃ b, mayG F TT X.op X.tb = b := ⟨_, rfl⟩
 obtain ⟨C, hC⟩ : ∃ C, chkG F = C := ⟨_, rfl⟩
 have HM1 : Hid (∀ Z : World, Below W.heap.size W Z → Calls Tryz.prog 18 #[.slice A1 F.length c1, .string ⟨TT.toArray⟩, .agg (X.cells pX).toArray] Z (Ret (.bool MG) Z)) := fun Z hz => by rw [← hMG]; exact mayG_any A1 c1 F TT X pX Z (by omega) HN0.out (HQ.out Z hz)
 have HM2 : Hid (∀ Z : World, Below W.heap.size W Z → Calls Tryz.prog 19 #[.slice A1 F.length c1, .string ⟨TT.toArray⟩, .agg (X.cells pX).toArray] Z (Ret (.bool MG) Z)) := fun Z hz => by rw [← hMG]; exact rmayG_any A1 c1 F TT X pX Z (by omega) HN0.out (HQ.out Z hz)
 have HC1 : Hid (∀ Z : World, Below W.heap.size W Z → Calls Tryz.prog 20 #[.slice A1 F.length c1] Z (Ret (.int .i64 C) Z)) := fun Z hz => by rw [← hC]; exact checkG_any A1 c1 F Z (by omega) HN0.out (HQ.out Z hz)
 have HC2 : Hid (∀ Z : World, Below W.heap.size W Z → Calls Tryz.prog 21 #[.slice A1 F.length c1] Z (Ret (.int .i64 C) Z)) := fun Z hz => by rw [← hC]; exact rcheckG_any A1 c1 F Z (by omega) HN0.out (HQ.out Z hz)
 obtain ⟨L, E⟩ := r1
 dsimp only at hlr
 clear hW kk1 hQ1 hQX hb1 hb3 hb5 hcW hQF hQX' HF9 HFA HFT HSH HFN HB0 okX hn5 hHeld hr1 hMG hC hFA HTX hXC hXW HXS hXM HQX HN0 HEV hnW
 go_wp2_with fail
 refine HF2.out.mono ?_
 rintro en va ⟨sv, rfl, hown, hba⟩
 obtain ⟨A2, c2, rfl, -, -, hQ2⟩ := GQ.own hown
 have hza := hba.size
 have HQ2 : Hid (∀ Z : World, Below va.heap.size va Z → GQ F A2 (Old Z.heap.size) Z) := fun Z hz => hQ2.keep fun b hb => ⟨Nat.lt_of_lt_of_le hb.2 hz.size, fun o => hz.cell (p := ⟨b, o, none⟩) hb.2⟩
 have HD1 := Lib.hid (HDO.out va hba)
 have hka := HKK.out va hba
 clear hown hQ2 HF2 HDO kX
 go_wp2_with (refine wpList_load_rowG (by rfl) 34 _ rfl (w.heap.size) rfl 34 (X.cells pX).toArray (0, 0) _ (hka) Tryz.underlying34 rfl size_st ?_)
 refine HD1.out.mono ?_
 rintro en vb ⟨sv, rfl, hown, hbb⟩
 dsimp only at hown ⊢
 obtain ⟨A3, c3, rfl, -, -, hQ3⟩ := GQ.own hown
 have hzb := hbb.size
 have hcb : Below W.heap.size W vb := hba.trans (hbb.mono hza)
 have HQ3 : Hid (∀ Z : World, Below vb.heap.size vb Z → GQ L A3 (Old Z.heap.size) Z) := fun Z hz => hQ3.keep fun b hb => ⟨Nat.lt_of_lt_of_le hb.2 hz.size, fun o => hz.cell (p := ⟨b, o, none⟩) hb.2⟩
 have HD2 := Lib.hid (HRD.out vb hcb)
 have hkb := HKK.out vb hcb
 clear hown hQ3 HRD HD1 hka
 go_wp2_with (refine wpList_load_rowG (by rfl) 34 _ rfl (w.heap.size) rfl 34 (X.cells pX).toArray (0, 0) _ (hkb) Tryz.underlying34 rfl size_st ?_)
 refine HD2.out.mono ?_
 rintro en vc ⟨sv, rfl, hown, hbc⟩
 dsimp only at hown ⊢
 obtain ⟨A4, c4, rfl, -, -, hQ4⟩ := GQ.own hown
 have hzc := hbc.size
 have hcc : Below W.heap.size W vc := hcb.trans (hbc.mono hcb.size)
 have hac : Below va.heap.size va vc := hbb.trans (hbc.mono hzb)
 have HQ4 : Hid (∀ Z : World, Below vc.heap.size vc Z → GQ L A4 (Old Z.heap.size) Z) := fun Z hz => hQ4.keep fun b hb => ⟨Nat.lt_of_lt_of_le hb.2 hz.size, fun o => hz.cell (p := ⟨b, o, none⟩) hb.2⟩
 have hW' : ∀ Z : World, Below vc.heap.size vc Z → Below W.heap.size W Z := fun Z hz => hcc.trans (hz.mono hcc.size)
 have HA1 : Hid (∀ Z : World, Below vc.heap.size vc Z → Calls Tryz.prog 17 #[.slice A3 L.length c3, .slice A4 L.length c4] Z (Ret (.bool true) Z)) := fun Z hz => by
  have := rsameG_any A3 A4 c3 c4 L L Z hlr hlr (HQ3.out Z (hbc.trans (hz.mono hzc))) (HQ4.out Z hz)
  rw [decide_eq_true (rfl : L = L)] at this
  exact this
 have HA2 : Hid (∀ Z : World, Below vc.heap.size vc Z → Calls Tryz.prog 17 #[.slice A1 F.length c1, .slice A2 F.length c2] Z (Ret (.bool true) Z)) := fun Z hz => by
  have := rsameG_any A1 A2 c1 c2 F F Z (by omega) (by omega) (HQ.out Z (hW' Z hz)) (HQ2.out Z (hac.trans (hz.mono hac.size)))
  rw [decide_eq_true (rfl : F = F)] at this
  exact this
 have HB1 : Hid (∀ Z : World, Below vc.heap.size vc Z → Calls Tryz.prog 18 #[.slice A1 F.length c1, .string ⟨TT.toArray⟩, .agg (X.cells pX).toArray] Z (Ret (.bool MG) Z)) := fun Z hz => HM1.out Z (hW' Z hz)
 have HB2 : Hid (∀ Z : World, Below vc.heap.size vc Z → Calls Tryz.prog 19 #[.slice A1 F.length c1, .string ⟨TT.toArray⟩, .agg (X.cells pX).toArray] Z (Ret (.bool MG) Z)) := fun Z hz => HM2.out Z (hW' Z hz)
 have HB3 : Hid (∀ Z : World, Below vc.heap.size vc Z → Calls Tryz.prog 20 #[.slice A1 F.length c1] Z (Ret (.int .i64 C) Z)) := fun Z hz => HC1.out Z (hW' Z hz)
 have HB4 : Hid (∀ Z : World, Below vc.heap.size vc Z → Calls Tryz.prog 21 #[.slice A1 F.length c1] Z (Ret (.int .i64 C) Z)) := fun Z hz => HC2.out Z (hW' Z hz)
 have HB5 : Hid (∀ Z : World, Below vc.heap.size vc Z → Calls Tryz.prog 22 #[] Z (Ret (.bool true) Z)) := fun Z hz => awake9_any Z (HVV.out Z (hW' Z hz))
 have HSY : Hid (∀ Z : World, Below vc.heap.size vc Z → Blk Z w.heap.size 34 (X.cells pX).toArray) := fun Z hz => HKK.out Z (hW' Z hz)
 have HNC := Lib.hid (HNW.out.trans (hcc.mono HNW.out.size))
 clear hown hQ4 HD2 hkb HQ HQ2 HQ3 HQ4 HM1 HM2 HC1 HC2 hW' HKK HVV hba hbb hbc hcb hcc hac HNW hza hzb hzc
 go_upto_region 5 with fail
 refine rgn HSY fun hHeld => ?_
 refine tS [0, 1] ?_
 iterate 2 (refine tC ?_; refine ap ?_)
 refine tN ?_
 refine rdy 2 fun K hK => ?_
 go_simp
 (refine (HA1.out _ (by exact bl)).mono ?_) <;> rintro en w2 ⟨rfl, hb2⟩ <;> have hz2 := hb2.size <;> (try simp at hz2)
 go_wp2_with fail
 refine hK.out _ _ (HSY.out _ (by exact bl)) fun hHeld => ?_
 clear hK K
 refine ap ?_
 refine tS [3, 4, 5, 6, 7, 8, 9, 10] ?_
 iterate 8 (refine tC ?_; refine ap ?_)
 refine tN ?_
 refine wpAnyH_take (i := 11) (v := .agg ((X.cells pX).toArray)) rfl (by kernel_rfl) (by kernel_rfl) (by kernel_rfl) (fun _ _ _ h => h) (yields_row (34) _ rfl (by rfl) (w.heap.size) rfl (34) ((X.cells pX).toArray) _ (Tryz.underlying34) rfl (size_st) (fun wq hSw => hSw)) (by assumption) ?_
 refine ap ?_
 refine tS [13, 14] ?_
 iterate 2 (refine tC ?_; refine ap ?_)
 refine tN ?_
 refine wpAnyH_take (i := 15) (v := .agg ((X.cells pX).toArray)) rfl (by kernel_rfl) (by kernel_rfl) (by kernel_rfl) (fun _ _ _ h => h) (yields_row (34) _ rfl (by rfl) (w.heap.size) rfl (34) ((X.cells pX).toArray) _ (Tryz.underlying34) rfl (size_st) (fun wq hSw => hSw)) (by assumption) ?_
 refine ap ?_
 refine rdy 12 fun K hK => ?_
 go_simp
 (refine (HB1.out _ (by exact bl)).mono ?_) <;> rintro en w12 ⟨rfl, hb12⟩ <;> have hz12 := hb12.size
 go_wp2_with fail
 refine hK.out _ _ (HSY.out _ (by exact bl)) fun hHeld => ?_
 clear hK K
 refine ap ?_
 refine rdy 16 fun K hK => ?_
 go_simp
 (refine (HB2.out _ (by exact bl)).mono ?_) <;> rintro en w16 ⟨rfl, hb16⟩ <;> have hz16 := hb16.size
 go_wp2_with fail
 refine hK.out _ _ (HSY.out _ (by exact bl)) fun hHeld => ?_
 clear hK K
 refine ap ?_
 refine tS [17, 18, 19, 20, 22] ?_
 iterate 5 (refine tC ?_; refine ap ?_)
 refine tN ?_
 refine rdy 21 fun K hK => ?_
 go_simp
 (refine (HB3.out _ (by exact bl)).mono ?_) <;> rintro en w21 ⟨rfl, hb21⟩ <;> have hz21 := hb21.size
 go_wp2_with fail
 refine hK.out _ _ (HSY.out _ (by exact bl)) fun hHeld => ?_
 clear hK K
 refine ap ?_
 refine rdy 23 fun K hK => ?_
 go_simp
 (refine (HB4.out _ (by exact bl)).mono ?_) <;> rintro en w23 ⟨rfl, hb23⟩ <;> have hz23 := hb23.size
 go_wp2_with fail
 refine hK.out _ _ (HSY.out _ (by exact bl)) fun hHeld => ?_
 clear hK K
 refine ap ?_
 refine tS [24, 25, 26, 27, 28] ?_
 iterate 5 (refine tC ?_; refine ap ?_)
 refine tN ?_
 refine rdy 29 fun K hK => ?_
 go_simp
 (refine (HA2.out _ (by exact bl)).mono ?_) <;> rintro en w29 ⟨rfl, hb29⟩ <;> have hz29 := hb29.size
 go_wp2_with fail
 refine hK.out _ _ (HSY.out _ (by exact bl)) fun hHeld => ?_
 clear hK K
 refine ap ?_
 refine tS [30, 31] ?_
 iterate 2 (refine tC ?_; refine ap ?_)
 refine tN ?_
 refine rdy 32 fun K hK => ?_
 go_simp
 (refine (HB5.out _ (by exact bl)).mono ?_) <;> rintro en w32 ⟨rfl, hb32⟩ <;> have hz32 := hb32.size
 go_wp2_with fail
 refine hK.out _ _ (HSY.out _ (by exact bl)) fun hHeld => ?_
 clear hK K
 refine ap ?_
 refine tS [33, 34] ?_
 iterate 2 (refine tC ?_; refine ap ?_)
 refine tN ?_
 refine wpAnyH_done (by kernel_rfl) ?_ _
 have hbz : Below vc.heap.size vc w32 := by exact bl
 go_wp2_with fail
 go_ret
 exact ⟨rfl, HNC.out.trans (hbz.mono HNC.out.size)⟩
end Go.Proofs.YtchilcchogcibaaGreatDoor
namespace Go.Proofs.YtchilcchogcibaaGreatDoor
open Go.RowKit
theorem pow10_data : Rows.laid_internal_strconv_uint64pow10 (H := Unit) = Lib.tabData .u64 Lib.pow10Tab := by kernel_rfl
theorem g10 : Tryz.prog.globalNamed "internal/strconv.uint64pow10" = some 5 := by kernel_rfl
theorem t10 : (Tryz.prog.globals[5]?).map (·.type) = some 251 := by kernel_rfl
theorem c10 : Tryz.prog.cellsOf 228 = 1 := by kernel_rfl
theorem d10 : Tryz.prog.cellsOf 251 = 20 := by kernel_rfl
theorem tab10_of {W : World} {x y : String × DataW Unit} {rest : List (String × DataW Unit)} (hL : laidMet Tryz.prog (x :: y :: ("internal/strconv.uint64pow10", Rows.laid_internal_strconv_uint64pow10) :: rest) W) : Tab10 W := by
 have h := laidMet.tail (laidMet.tail hL)
 rw [pow10_data] at h
 exact Lib.tabIs_of_head g10 t10 Tryz.underlying251 Tryz.underlying228 c10 d10 h
end Go.Proofs.YtchilcchogcibaaGreatDoor
namespace Go.Proofs.YtchilcchogcibaaGreatDoor
open Go.RowKit Go.Lib
theorem gTypes : Tryz.prog.globalNamed "caddis/stmt.types" = some 0 := by kernel_rfl
theorem tTypes : (Tryz.prog.globals[0]?).map (·.type) = some 175 := by kernel_rfl
theorem dTypes : Tryz.prog.cellsOf 175 = 3 := by kernel_rfl
theorem eTypes : Tryz.prog.cellsOf 9 = 1 := by kernel_rfl
theorem cells_of_texts {H : Type} {enc : TypeId × Value → H} {P : Program} {w : World} {base : Nat} {sp : Nat → Bool} {held : Bool} {fuel : Nat} {t e : TypeId} {n : Nat} {cs : List Value} {zs : List (List UInt8)} {p : List MemPlace}
  (ht : P.underlying t = some (.array n e)) (he : P.underlying e = some .string) (hce : P.cellsOf e = 1) (hct : P.cellsOf t = n)
  (h : DataW.trod enc P w base sp held fuel t cs = some (.agg (zs.map fun z => (DataW.lit (.string z) : DataW H)), p)) : cs = zs.map fun z => Value.string ⟨z.toArray⟩ := by
 cases fuel with
 | zero => simp [DataW.trod] at h
 | succ fuel =>
  simp only [DataW.trod, ht, hce, hct, Nat.mul_one] at h
  split at h
  ·rename_i hl
   obtain ⟨xs, hm, hx⟩ := Option.map_eq_some_iff.1 h
   have hxs : xs.map (·.1) = zs.map fun z => (DataW.lit (.string z) : DataW H) := by
    have := congrArg Prod.fst hx
    simpa using this
   have hxl : xs.length = n := by simpa using mapM_length hm
   have hzl : zs.length = n := by
    have := congrArg List.length hxs
    simp at this
    omega
   apply List.ext_getElem?
   intro i
   by_cases hi : i < n
   ·obtain ⟨b, hb, hf⟩ := mapM_at hm i i (by simp [hi])
    obtain ⟨z, hc, rfl, _⟩ := DataW.trod_string he hf
    have h1 : cs[i]? = some (.string z) := by
     have := congrArg (·[0]?) hc
     simpa [List.getElem?_take, List.getElem?_drop] using this
    have h2 : (xs.map (·.1))[i]? = some (DataW.lit (.string z.data.toList) : DataW H) := by simp [hb]
    rw [hxs] at h2
    simp only [List.getElem?_map, Option.map_eq_some_iff, DataW.lit.injEq, Lit.string.injEq] at h2
    obtain ⟨z', hz', rfl⟩ := h2
    simp [h1, hz']
   ·rw [List.getElem?_eq_none (by omega), List.getElem?_eq_none (by simp; omega)]
  ·cases h
theorem typT_of {W : World} {x y z v : String × DataW Unit} {rest : List (String × DataW Unit)} (hL : laidMet Tryz.prog (x :: y :: z :: v :: ("caddis/stmt.types", Rows.laid_caddis_stmt_types) :: rest) W) : TypT W := by
 have h := laidMet.tail (laidMet.tail (laidMet.tail (laidMet.tail hL)))
 obtain ⟨ps, ⟨g', t', cs, fuel, p, q, hg', ht', hvar, hd, _, _⟩, _⟩ := h
 obtain rfl := Option.some.inj (gTypes.symm.trans hg')
 obtain rfl := Option.some.inj (tTypes.symm.trans ht')
 have hc := cells_of_texts (zs := [[73, 78, 84], [84, 69, 88, 84], [66, 79, 79, 76]]) Tryz.underlying175 Tryz.underlying9 eTypes dTypes hd
 have key : ∀ i, W.cell? ⟨0, i, none⟩ = ([[73, 78, 84], [84, 69, 88, 84], [66, 79, 79, 76]].map fun z => Value.string ⟨z.toArray⟩)[i]? := fun i => (World.var?_cell gTypes hvar i).trans (by rw [← Array.getElem?_toList, hc])
 exact ⟨key 0, key 1, key 2⟩
theorem env0_of {W : World} (hsh : W.ShapedOpen Tryz.prog) {x y v : String × DataW Unit} {rest : List (String × DataW Unit)} (hL : laidMet Tryz.prog (x :: y :: ("internal/strconv.uint64pow10", Rows.laid_internal_strconv_uint64pow10) :: v :: ("caddis/stmt.types", Rows.laid_caddis_stmt_types) :: rest) W) : Env0 W :=
 ⟨maxL_of hsh, tab10_of hL, typT_of hL⟩
end Go.Proofs.YtchilcchogcibaaGreatDoor
namespace Go.Proofs.YtchilcchogcibaaGreatDoor
open Go.RowKit
open Go.ChangeShapes Go.WideShapes Go.ChangeAt
theorem grantDoes_lifted (os : Os) (started : os.Started) (H : Type) (enc : TypeId × Value → H) :
  ReturnsInHanded {} Tryz.checked os 3 .any (fun w args => (Rows.grantDoesSpec.pre enc Tryz.prog Tryz.f3 [] false w args ∧ laidMetH Tryz.prog Rows.grantDoesRow.laid w) ∧ sizedMet enc Tryz.prog Tryz.f3 (OpenSpec.ofChange Rows.grantDoesSpec) false w args)
   (Rows.grantDoesSpec.post enc Tryz.prog Tryz.f3 false true false false) := by
 refine handed_and_shaped (C := Tryz.checked) (X := fun w _ => laidMetH Tryz.prog Rows.grantDoesRow.laid w) (fun _ _ _ hh h => h.of_heap hh) own started (by kernel_rfl) Tryz.func3
  (ChangeSpec.witness_shaped (enc := enc) (C := Tryz.checked) (os := os) (X := fun w _ => laidMetH Tryz.prog Rows.grantDoesRow.laid w) false (World.laidAll Tryz.prog os Rows.grantDoesRow.laid) #[.slice none 0 0, .string ⟨#[]⟩, .agg #[.string ⟨#[]⟩, .string ⟨#[]⟩, .string ⟨#[]⟩, .slice none 0 0, .slice none 0 0, .string ⟨#[]⟩, .slice none 0 0, .slice none 0 0, .string ⟨#[]⟩, .int .i64 0, .int .i64 0, .string ⟨#[]⟩, .string ⟨#[]⟩, .slice none 0 0, .slice none 0 0, .slice none 0 0, .string ⟨#[]⟩, .int .i64 0, .int .i64 0, .string ⟨#[]⟩, .string ⟨#[]⟩, .slice none 0 0, .string ⟨#[]⟩]] 8 (World.laidAll_os _ _ _)
   (World.shaped_of_ZipB (by kernel_rfl) (by kernel_rfl)) (by kernel_rfl) (by kernel_rfl) (by kernel_rfl)
   (by rw [MakeChecks.laidMetH_plain _ _ _ (by kernel_rfl)]; exact laidMet_laidAll _ (by kernel_rfl) (by kernel_rfl))) ?_
 intro W base args ds gs before hval0 hW _ _ hL hsh _
 have hval : ∀ (j : Nat) t v, Tryz.f3.params[j]? = some t → args[j]? = some v → Value.okWide Tryz.prog W .any base t v := hval0
 have hW' := hW
 obtain ⟨p, q, hA0, hV, rfl, hfz, hnd⟩ := hW
 have hA : DataW.TrodAll enc Tryz.prog W 0 (fun _ => true) true Tryz.f3.params.toList args.toList ds p := hA0
 rw [Tryz.params3] at hA hval
 obtain ⟨v0, vs0, d0, ds0, p0, q0, hargs, rfl, rfl, h0, r0⟩ := trodAll_cons hA
 have k0 := h0
 have lt0 : ∀ x ∈ p0, x.block < W.heap.size := by obtain ⟨m, hm⟩ := k0; exact DataW.trod_lt m _ _ _ hm
 obtain ⟨v1, vs1, d1, ds1, p1, q1, rfl, rfl, rfl, h1, r1⟩ := trodAll_cons r0
 have k1 := h1
 have lt1 : ∀ x ∈ p1, x.block < W.heap.size := by obtain ⟨m, hm⟩ := k1; exact DataW.trod_lt m _ _ _ hm
 obtain ⟨v2, vs2, d2, ds2, p2, q2, rfl, rfl, rfl, h2, r2⟩ := trodAll_cons r1
 have k2 := h2
 have lt2 : ∀ x ∈ p2, x.block < W.heap.size := by obtain ⟨m, hm⟩ := k2; exact DataW.trod_lt m _ _ _ hm
 obtain ⟨rfl, rfl, rfl⟩ := trodAll_nil r2
 obtain rfl : args = #[v0, v1, v2] := by cases args; simp_all
 obtain ⟨rfl, rfl⟩ := trodVars_none hV
 obtain ⟨A0, l0, c0, rfl, hl0, hq0, _⟩ := open_grs (hval 0 22 v0 rfl rfl) h0
 obtain ⟨x1, rfl, wx1⟩ := open_str (hval 1 9 v1 rfl rfl) h1
 obtain ⟨s2, p2', rfl, hb2, hq2⟩ := open_st (hval 2 34 v2 rfl rfl) h2
 have hEnv : Env0 W := by
  have h := hL
  rw [MakeChecks.laidMetH_plain _ _ _ (by kernel_rfl)] at h
  exact env0_of hsh h
 clear hA0 hval0
 refine (grantDoes_walk A0 c0 l0 x1 s2 p2' W hl0 hq0 hb2 hq2 hEnv).mono fun e W' ⟨he, bel⟩ => ?_
 subst he
 exact ⟨_, rfl, _, _, _, [], _, [], hW', trodAll_mk1 (shut_bool Tryz.underlying4 _), (trodAll_cons_mk (Below.trod laidOut (by kernel_rfl) (of_decide_eq_true (by kernel_rfl)) k0 bel lt0) (trodAll_cons_mk (Below.trod laidOut (by kernel_rfl) (of_decide_eq_true (by kernel_rfl)) k1 bel lt1) (trodAll_cons_mk (Below.trod laidOut (by kernel_rfl) (of_decide_eq_true (by kernel_rfl)) k2 bel lt2) trodAll_mk0))), rfl, bel.frame _, fun h => by cases h⟩
end Go.Proofs.YtchilcchogcibaaGreatDoor
