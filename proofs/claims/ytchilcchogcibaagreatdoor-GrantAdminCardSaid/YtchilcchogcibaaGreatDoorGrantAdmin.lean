/- caddislaw09.GrantAdmin answers true: the admin may all, by whatever grants may be; who has no grant may nothing; grants of one table, taken away, leave those of the others. Condition: what the library's variables hold. -/
import Derived.Test.YtchilcchogcibaaGreatDoorSBytes
import Derived.Test.YtchilcchogcibaaGreatDoorSFew9
import Derived.Test.YtchilcchogcibaaGreatDoorSFew5
import Derived.Test.YtchilcchogcibaaGreatDoorSGrLaw3
import Derived.Test.YtchilcchogcibaaGreatDoorSBadm
import Derived.Test.YtchilcchogcibaaGreatDoorSGr8
import Derived.Test.YtchilcchogcibaaGreatDoorSGrR4
import Derived.Test.YtchilcchogcibaaGreatDoorSRd4
import Derived.Test.YtchilcchogcibaaGreatDoorSOwnRow
import Derived.Test.YtchilcchogcibaaGreatDoorSRowReg
import Derived.Test.YtchilcchogcibaaGreatDoorSOrdersL
import Derived.Deep.CutBlock
import Derived.Deep.DeepCutAuto
namespace Go.Proofs.YtchilcchogcibaaGreatDoor
open Go.RowKit

attribute [local go_sem] ByteArray.extract_mk ba_get ba_append
attribute [local go_sem ↓] Go.wp_at_zero Go.wp_at_succ run_neq_G

theorem till_done {cs : List Nat} {T : World → Prop} {L : Array Bool} {w : World} (h : (cs.all fun c => L.getD c true) = true) : Till cs T L w := fun ⟨c, hc, hL⟩ => by
  have := List.all_eq_true.1 h c hc
  rw [hL] at this
  cases this
set_option maxRecDepth 100000 in
set_option maxHeartbeats 8000000 in
theorem grantAdmin_walk (A : Option Addr) (c : Nat) (l : List Gr) (sa : St) (pa : StP) (tt : List UInt8) (w : World) (hl : l.length ≤ maxLen) (h : GQ l A (Old w.heap.size) w) (ha : sa.big) (hQa : StQ maxLen sa pa (Old w.heap.size) w) (hV : Env0 w) :
    Calls Tryz.prog 6 #[.slice A l.length c, .agg (sa.cells pa).toArray, .string ⟨tt.toArray⟩] w (Ret (.bool true) w) := by
  have hFL := fewG_len l
  have hFN := fewG_short l
  obtain ⟨F, hF⟩ : ∃ F, fewG l = F := ⟨_, rfl⟩
  rw [hF] at hFL hFN
  obtain ⟨X, hX⟩ : ∃ X, sa.few = X := ⟨_, rfl⟩
  obtain ⟨TT, hT⟩ : ∃ X, tt.take 20 = X := ⟨_, rfl⟩
  obtain ⟨w0, hw0⟩ : ∃ w0, w.alloc (.cells (sa.cells pa).toArray 34) = w0 := ⟨_, rfl⟩
  have ka0 : Blk w0 w.heap.size 34 (sa.cells pa).toArray := by rw [← hw0]; exact Blk.new _ _ _
  have hb0 : Below w.heap.size w w0 := by rw [← hw0]; exact bl
  have hs0 : w0.heap.size = w.heap.size + 1 := by rw [← hw0]; simp
  have hz0 := hb0.size
  have HW := Lib.hid hw0
  have HB0 := Lib.hid hb0
  have hko : ∀ Z : World, Below w0.heap.size w0 Z → ∀ b, Old w.heap.size b → Old Z.heap.size b ∧ ∀ o, Z.cell? ⟨b, o, none⟩ = w.cell? ⟨b, o, none⟩ := fun Z hz => old_keep (hb0.trans (hz.mono hz0)) (Nat.le_trans hz0 hz.size)
  have HF9 : Hid (∀ Z : World, Below w0.heap.size w0 Z → Calls Tryz.prog 12 #[.slice A l.length c] Z (RetGs F Z)) := fun Z hz => by rw [← hF]; exact few9_any A c l Z hl (h.keep (hko Z hz))
  have HFA : Hid (∀ Z : World, Below w0.heap.size w0 Z → Calls Tryz.prog 14 #[.agg (sa.cells pa).toArray] Z (RetSt X Z)) := fun Z hz => by rw [← hX]; exact few5_any sa pa Z ha (hQa.keep (hko Z hz))
  have HFT : Hid (∀ Z : World, Calls Tryz.prog 13 #[.string ⟨tt.toArray⟩] Z (Ret (.string ⟨TT.toArray⟩) Z)) := fun Z => by rw [← hT]; exact text9_any tt Z
  have HSH : Hid (∀ Z : World, Below w0.heap.size w0 Z → Blk Z w.heap.size 34 (sa.cells pa).toArray) := fun Z hz => ka0.below hz ka0.lt
  have HEV : Hid (∀ Z : World, Below w.heap.size w Z → Env0 Z) := fun Z hz => hV.below hz
  have HFN := Lib.hid hFN
  clear hw0 hko hF hX hT h ha hQa hV hFN ka0 hb0 hl
  go_enter Tryz.func6, Tryz.ntmps6
  go_upto_region 1 with fail
  rw [show World.alloc w _ = w0 from HW.out]
  clear HW
  refine wp_region_till [7] (fun Z => Blk Z w.heap.size 34 (sa.cells pa).toArray) (by kernel_rfl) ?_ (fun hHeld => ?_)
  · try dsimp only
    exact HSH.out _ (by exact bl)
  refine tI 0 7 [7] ?_
  refine ap ?_
  refine tI 2 7 [7] (v := .agg ((sa.cells pa).toArray)) (hy := yields_row (34) _ rfl (by rfl) (w.heap.size) rfl (34) ((sa.cells pa).toArray) _ (Tryz.underlying34) rfl (size_st) (fun wq hSw => hSw)) ?_
  refine ap ?_
  refine tI 4 7 [5, 6, 7] ?_
  refine ap ?_
  refine wpAnyI_ready (rs := [1]) (by kernel_rfl) (by simp) ?_
  refine AllReadyI.consT rfl (fun K hK => ?_) AllReadyI.nil
  go_simp
  (refine (HF9.out _ (by exact bl)).mono ?_) <;> rintro en w1 ⟨sv, rfl, hown, hb1⟩ <;> have hz1 : w0.heap.size ≤ w1.heap.size := hb1.size <;> obtain ⟨A1, c1, rfl, -, -, hQ1⟩ := GQ.own hown <;> clear hown
  go_wp2_with fail
  refine hK.out _ _ (HSH.out _ (by exact bl)) fun hHeld => ?_
  clear hK K
  refine ap ?_
  refine wpAnyI_ready (rs := [3]) (by kernel_rfl) (by simp) ?_
  refine AllReadyI.consT rfl (fun K hK => ?_) AllReadyI.nil
  go_simp
  (refine (HFA.out _ (by exact bl)).mono ?_) <;> rintro en w3 ⟨pX, rfl, okX, hQX, hb3⟩ <;> have hz3 := hb3.size
  go_wp2_with fail
  refine hK.out _ _ (HSH.out _ (by exact bl)) fun hHeld => ?_
  clear hK K
  refine ap ?_
  refine wpAnyI_ready (rs := [5]) (by kernel_rfl) (by simp) ?_
  refine AllReadyI.consT rfl (fun K hK => ?_) AllReadyI.nil
  go_simp
  (refine (HFT.out _).mono ?_) <;> rintro en w5 ⟨rfl, hb5⟩ <;> have hz5 := hb5.size
  go_wp2_with fail
  refine hK.out _ _ (HSH.out _ (by exact bl)) fun hHeld => ?_
  clear hK K
  refine ap ?_
  refine tI 6 7 [7] ?_
  refine ap ?_
  refine wpAnyI_ready (rs := [7]) (by kernel_rfl) (by simp) ?_
  refine AllReadyI.consD rfl (by decide) (fun K hK => ?_) AllReadyI.nil
  refine step_store_row (by rfl) (34) _ _ rfl (w.heap.size) ((X.cells pX).toArray) rfl rfl (34) (⟨(sa.cells pa).toArray, rfl, HSH.out w5 (by exact bl)⟩) (size_st) (one_st X pX) ?_
  refine hK.out _ _ ?_
  clear hK K
  refine ap ?_
  refine tI0 8 (hS := till_done (by kernel_rfl)) ?_
  refine ap ?_
  refine wpAnyI_done (by kernel_rfl) ?_ _
  have hc5 : Below w0.heap.size w0 w5 := by exact bl
  have kk1 := HSH.out w5 hc5
  obtain ⟨W, hW⟩ : ∃ W, w5.setRow w.heap.size (X.cells pX).toArray = W := ⟨_, rfl⟩
  rw [hW]
  have kX : Blk W w.heap.size 34 (X.cells pX).toArray := by rw [← hW]; exact kk1.row _
  have hsW : W.heap.size = w5.heap.size := by rw [← hW, setRow_size]
  have hcW : ∀ b o, w.heap.size + 1 ≤ b → W.cell? ⟨b, o, none⟩ = w5.cell? ⟨b, o, none⟩ := fun b o hb => by
    rw [← hW]
    exact World.cell?_of_block (a := ⟨b, o, none⟩) (setRow_block _ _ b _ (by omega))
  have hn5 : Below w.heap.size w w5 := HB0.out.trans (hc5.mono hz0)
  have hnW : Below w.heap.size w W := by rw [← hW]; exact bwRow hn5 (Nat.le_refl _) _
  have hQF : GQ F A1 (Old W.heap.size) W := hQ1.keep fun b hb => by
    have hb' : w0.heap.size ≤ b ∧ b < w1.heap.size := hb
    exact ⟨show b < W.heap.size by omega, fun o => (hcW b o (by omega)).trans ((hb5.cell (p := ⟨b, o, none⟩) (show b < w3.heap.size by omega)).trans (hb3.cell (p := ⟨b, o, none⟩) hb'.2))⟩
  have hQX' : StQ 1000 X pX (Old W.heap.size) W := hQX.keep fun b hb => ⟨show b < W.heap.size by omega, fun o => (hcW b o (by omega)).trans (hb5.cell (p := ⟨b, o, none⟩) hb.2)⟩
  have HQ : Hid (∀ Z : World, Below W.heap.size W Z → GQ F A1 (Old Z.heap.size) Z) := fun Z hz => hQF.keep (old_keep hz hz.size)
  have HKK : Hid (∀ Z : World, Below W.heap.size W Z → Blk Z w.heap.size 34 (X.cells pX).toArray) := fun Z hz => kX.below hz kX.lt
  have HN0 : Hid (∀ g ∈ F, g.r.length ≤ 1000000 ∧ g.t.length ≤ 1000000) := fun g hg => by have := HFN.out g hg; omega
  obtain ⟨C, hC⟩ : ∃ C, chkG F = C := ⟨_, rfl⟩
  have HCK : Hid (Calls Tryz.prog 20 #[.slice A1 F.length c1] W (Ret (.int .i64 C) W)) := by rw [← hC]; exact checkG_any A1 c1 F W (by omega) HN0.out hQF
  have HMY : Hid (∀ Z : World, Below W.heap.size W Z → Calls Tryz.prog 18 #[.slice A1 F.length c1, .string ⟨adminT.toArray⟩, .agg (X.cells pX).toArray] Z (Ret (.bool (mayG F adminT X.op X.tb)) Z)) := fun Z hz => mayG_any A1 c1 F adminT X pX Z (by omega) HN0.out (HQ.out Z hz)
  have HMN : Hid (∀ Z : World, Calls Tryz.prog 18 #[.slice none 0 0, .string ⟨#[114]⟩, .agg (X.cells pX).toArray] Z (Ret (.bool false) Z)) := fun Z => by
    have := mayG_any none 0 [] [114] X pX Z (by decide) (fun g hg => by cases hg) GQ.nil
    rw [mayG_none] at this
    exact this
  have HC := Lib.hid hC
  clear hW kk1 hQ1 hQX hb1 hb3 hb5 hcW hQF hQX' HF9 HFA HFT HSH HFN HB0 hC okX hn5 hHeld
  go_wp2_with fail
  refine HCK.out.mono ?_
  rintro en w6 ⟨rfl, hb6⟩
  have hz6 := hb6.size
  have hk6 := HKK.out w6 hb6
  by_cases h0 : C = 0
  case neg =>
    have e1 : (C != 0) = true := by simpa using h0
    have hm := HMY.out w6 hb6
    rw [mayG_bad F adminT X.op X.tb (by rw [HC.out]; exact h0)] at hm
    have HM := Lib.hid hm
    clear hm HMY HC
    go_wp2_with (refine wpList_load_rowG (by rfl) 34 _ rfl (w.heap.size) rfl 34 (X.cells pX).toArray (0, 0) _ (hk6) Tryz.underlying34 rfl size_st ?_)
    refine HM.out.mono ?_
    rintro en w7 ⟨rfl, hb7⟩
    have hn7 : Below w.heap.size w w7 := hnW.trans (Below.mono (hb6.trans (hb7.mono hz6)) hnW.size)
    have HAW := Lib.hid (awake9_any w7 (HEV.out w7 hn7))
    go_wp2_with fail
    refine HAW.out.mono ?_
    rintro en wz ⟨rfl, hbz⟩
    go_wp2_with fail
    go_ret
    exact ⟨rfl, hn7.trans (hbz.mono hn7.size)⟩
  subst h0
  have HM1 : Hid (∀ Z : World, Below W.heap.size W Z → Calls Tryz.prog 18 #[.slice A1 F.length c1, .string ⟨adminT.toArray⟩, .agg (X.cells pX).toArray] Z (Ret (.bool true) Z)) := fun Z hz => by
    have := HMY.out Z hz
    rw [mayG_admin F X.op X.tb HC.out] at this
    exact this
  have HWO := Lib.hid (without_any A1 c1 F TT w6 (by omega) (HQ.out w6 hb6))
  obtain ⟨L, hL⟩ : ∃ L, withoutG F TT = L := ⟨_, rfl⟩
  have hLL : L.length ≤ 61 := by rw [← hL]; exact Nat.le_trans (List.length_filter_le _ _) hFL
  rw [hL] at HWO
  have HL := Lib.hid hL
  clear hL HMY HC hk6
  go_wp2_with fail
  refine HWO.out.mono ?_
  rintro en w7 ⟨sv, rfl, hown, hb7⟩
  obtain ⟨A7, c7, rfl, -, -, hQ7⟩ := GQ.own hown
  have hz7 := hb7.size
  have hc7 : Below W.heap.size W w7 := hb6.trans (hb7.mono hz6)
  have HQL : Hid (∀ Z : World, Below w7.heap.size w7 Z → GQ L A7 (Old Z.heap.size) Z) := fun Z hz => hQ7.keep fun b hb => ⟨Nat.lt_of_lt_of_le hb.2 hz.size, fun o => hz.cell (p := ⟨b, o, none⟩) hb.2⟩
  obtain ⟨NF, hNF⟩ : ∃ n, F.length = n := ⟨_, rfl⟩
  obtain ⟨NL, hNL⟩ : ∃ n, L.length = n := ⟨_, rfl⟩
  have HNF := Lib.hid hNF
  have HNL := Lib.hid hNL
  rw [hNF] at hFL HM1
  rw [hNL] at hLL
  rw [hNF, hNL]
  clear hown hQ7 hb6 hb7 HWO HCK hNF hNL
  go_wp2_with fail
  go_loopw [8, 9] (fun n i wr => ∃ j m : Nat, j ≤ NF ∧ m ≤ j ∧ n = .int .i64 m ∧ i = .int .i64 j ∧ Hid (m = (withoutG (F.take j) TT).length) ∧ Below w7.heap.size w7 wr) (fun _ i _ => NF - (intOf i).toNat)
  case atStart => exact ⟨0, 0, by omega, by omega, rfl, rfl, rfl, Below.refl _ _⟩
  case round =>
    obtain ⟨j, m, hj, hmj, rfl, rfl, HM, hbw⟩ := hrel
    obtain ⟨W9, rfl⟩ : ∃ W, W = wr := ⟨_, rfl⟩
    have hzw := hbw.size
    have hc9 : Below W.heap.size W W9 := hc7.trans (hbw.mono hc7.size)
    by_cases hlt : j < NF
    · obtain ⟨b, off, x, hA, hbB, hv, c0, c1', c2⟩ := (HQ.out W9 hc9).at_ (j := j) (by rw [HNF.out]; exact hlt)
      subst hA
      have i1 : (0 : Int) ≤ (j : Int) := by omega
      have i2 : (j : Int) < (NF : Int) := by omega
      have i3 : (0 : Int) ≤ (m : Int) := by omega
      by_cases ht : x.t = TT
      · rw [ht] at c1'
        have HM2 : Hid (m = (withoutG (F.take (j + 1)) TT).length) := by show _ = _; rw [without_skip hv ht]; exact HM.out
        clear hv HM
        go_wp2_with fail
        go_roundw
        case rel => exact ⟨j + 1, m, by omega, by omega, rfl, by go_num, HM2, hbw⟩
        case measure => simp [intOf]; omega
      · obtain ⟨hat, hlen⟩ := without_at hv ht
        rw [HL.out, ← HM.out] at hat
        rw [← HM.out] at hlen
        have hmlt : m < NL := by rw [← HNL.out]; exact (List.getElem?_eq_some_iff.1 hat).1
        have HM2 : Hid (m + 1 = (withoutG (F.take (j + 1)) TT).length) := hlen.symm
        obtain ⟨b2, off2, y, hA2, hbB2, hv2, d0, d1, d2⟩ := (HQL.out W9 hbw).at_ (j := m) (by rw [HNL.out]; exact hmlt)
        subst hA2
        obtain rfl : x = y := Option.some.inj (hat.symm.trans hv2)
        have e1 : (x.t == TT) = false := beq_eq_false_iff_ne.2 ht
        have e2 : ¬ ((NL : Int) ≤ (m : Int)) := by omega
        have e3 : decide (NL ≤ m) = false := decide_eq_false (by omega)
        have i4 : (m : Int) < (NL : Int) := by omega
        obtain ⟨xr, xt, xw⟩ := x
        dsimp only at c0 c1' c2 d0 d1 d2 e1 ht
        have e5 : eqG (⟨xr, xt, xw⟩ : Gr) ⟨xr, xt, xw⟩ = true := by rw [eqG_iff]; exact decide_eq_true rfl
        have HSS : Hid (∀ Z : World, Below W9.heap.size W9 Z → (Z.cell? ⟨b, off + j * 3, none⟩ = some (.string ⟨xr.toArray⟩) ∧ Z.cell? ⟨b, off + j * 3 + 1, none⟩ = some (.string ⟨xt.toArray⟩) ∧ Z.cell? ⟨b, off + j * 3 + 2, none⟩ = some (.bool xw)) ∧ Z.cell? ⟨b2, off2 + m * 3, none⟩ = some (.string ⟨xr.toArray⟩) ∧ Z.cell? ⟨b2, off2 + m * 3 + 1, none⟩ = some (.string ⟨xt.toArray⟩) ∧ Z.cell? ⟨b2, off2 + m * 3 + 2, none⟩ = some (.bool xw)) := fun Z hz =>
          ⟨⟨(hz.cell (p := ⟨b, off + j * 3, none⟩) hbB).trans c0, (hz.cell (p := ⟨b, off + j * 3 + 1, none⟩) hbB).trans c1', (hz.cell (p := ⟨b, off + j * 3 + 2, none⟩) hbB).trans c2⟩, (hz.cell (p := ⟨b2, off2 + m * 3, none⟩) hbB2).trans d0, (hz.cell (p := ⟨b2, off2 + m * 3 + 1, none⟩) hbB2).trans d1, (hz.cell (p := ⟨b2, off2 + m * 3 + 2, none⟩) hbB2).trans d2⟩
        clear hv hv2 hat hlen HM d0 d1 d2
        go_wp2_with fail
        clear c0 c1' c2
        refine rgn HSS fun hHeld => ?_
        refine tS [0, 1, 2, 3, 4, 5, 6, 7, 8, 9, 10, 11, 12, 13, 14] ?_
        iterate 15 (refine tC ?_; refine ap ?_)
        refine tN ?_
        refine wpAnyH_done (by kernel_rfl) ?_ _
        go_wp2_with fail
        go_roundw
        case rel => exact ⟨j + 1, m + 1, by omega, by omega, by go_num, by go_num, HM2, by exact bl⟩
        case measure => simp [intOf]; omega
    · obtain rfl : j = NF := by omega
      have hmm : m = NL := by
        have := HM.out
        rw [← HNF.out, List.take_length, HL.out] at this
        rw [this]; exact HNL.out
      subst hmm
      have hk9 := HKK.out W9 hc9
      have hn9 : Below w.heap.size w W9 := hnW.trans (hc9.mono hnW.size)
      clear HM hlt HL
      go_wp2_with (refine wpList_load_rowG (by rfl) 34 _ rfl (w.heap.size) rfl 34 (X.cells pX).toArray (0, 0) _ (hk9) Tryz.underlying34 rfl size_st ?_)
      refine (HM1.out W9 hc9).mono ?_
      rintro en wa ⟨rfl, hba⟩
      have hza := hba.size
      have hca : Below W.heap.size W wa := hc9.trans (hba.mono hc9.size)
      have hka := HKK.out wa hca
      clear hk9
      go_wp2_with (refine wpList_load_rowG (by rfl) 34 _ rfl (w.heap.size) rfl 34 (X.cells pX).toArray (0, 0) _ (hka) Tryz.underlying34 rfl size_st ?_)
      refine (HMN.out wa).mono ?_
      rintro en wb ⟨rfl, hbb⟩
      have hnb : Below w.heap.size w wb := hn9.trans (Below.mono (hba.trans (hbb.mono hza)) hn9.size)
      have HAW := Lib.hid (awake9_any wb (HEV.out wb hnb))
      clear hka
      go_wp2_with fail
      refine HAW.out.mono ?_
      rintro en wz ⟨rfl, hbz⟩
      go_wp2_with fail
      go_ret
      exact ⟨rfl, hnb.trans (hbz.mono hnb.size)⟩

end Go.Proofs.YtchilcchogcibaaGreatDoor
