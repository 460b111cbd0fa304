/- caddislaw09.GrantBoth answers true: a role may do with a table that stands for two what it may do with each of them; grants of other tables stay. Condition: what the library's variables hold. -/
import Derived.Test.YtchilcchogcibaaGreatDoorSLex1
import Derived.Test.YtchilcchogcibaaGreatDoorSGrR4
import Derived.Test.YtchilcchogcibaaGreatDoorSAwake9
import Derived.Test.YtchilcchogcibaaGreatDoorSGrLaw2B
import Derived.Test.YtchilcchogcibaaGreatDoorSLift
import Derived.Deep.CutBlock
import Derived.Deep.DeepCutAuto
namespace Go.Proofs.YtchilcchogcibaaGreatDoor
open Go.RowKit

attribute [local go_sem] ByteArray.extract_mk ba_get ba_append
attribute [local go_sem ↓] Go.wp_at_zero Go.wp_at_succ

theorem bothG_short (l : List Gr) (u : List UInt8) (ts : List (List UInt8)) (K : Nat) (hl : ∀ g ∈ l, g.r.length ≤ K ∧ g.t.length ≤ K) (hu : u.length ≤ K) : ∀ g ∈ bothG l u ts, g.r.length ≤ K ∧ g.t.length ≤ K := by
  intro g hg
  unfold bothG at hg
  by_cases ht : ts = []
  · rw [if_pos ht] at hg
    exact hl g (List.mem_filter.1 hg).1
  · rw [if_neg ht] at hg
    rcases (mem_foldl _ _ _ _ _ _).1 hg with h | ⟨x, hx, _, rfl⟩
    · exact hl g (List.mem_filter.1 h).1
    · exact ⟨(hl x hx).1, hu⟩
theorem bothG_len (l : List Gr) (u : List UInt8) (ts : List (List UInt8)) : (bothG l u ts).length ≤ l.length + l.length := by
  unfold bothG
  have h2 : (withoutG l u).length ≤ l.length := List.length_filter_le _ _
  split
  · omega
  · have h1 := foldl_len l u ts l (withoutG l u)
    omega
def zzT : List UInt8 := [122, 122]
set_option maxRecDepth 100000 in
set_option maxHeartbeats 4000000 in
theorem grantBoth_walk (A : Option Addr) (c : Nat) (l : List Gr) (a b role : List UInt8) (w : World) (hl : l.length ≤ maxLen) (h : GQ l A (Old w.heap.size) w) (hV : Env0 w) :
    Calls Tryz.prog 8 #[.agg #[.slice A l.length c, .string ⟨a.toArray⟩, .string ⟨b.toArray⟩, .string ⟨role.toArray⟩]] w (Ret (.bool true) w) := by
  have hFL := fewG_len l
  have hFN := fewG_short l
  obtain ⟨F, hF⟩ : ∃ F, fewG l = F := ⟨_, rfl⟩
  rw [hF] at hFL hFN
  obtain ⟨TA, hA⟩ : ∃ U, a.take 20 = U := ⟨_, rfl⟩
  obtain ⟨TB, hB⟩ : ∃ U, b.take 20 = U := ⟨_, rfl⟩
  obtain ⟨TR, hR⟩ : ∃ U, role.take 20 = U := ⟨_, rfl⟩
  have hTA : TA.length ≤ 20 := by rw [← hA]; exact List.length_take_le _ _
  obtain ⟨w0, hw0⟩ : ∃ w0, w.alloc (.cells #[.slice A l.length c, .string ⟨a.toArray⟩, .string ⟨b.toArray⟩, .string ⟨role.toArray⟩] 60) = w0 := ⟨_, rfl⟩
  have kb0 : Blk w0 w.heap.size 60 #[.slice A l.length c, .string ⟨a.toArray⟩, .string ⟨b.toArray⟩, .string ⟨role.toArray⟩] := by rw [← hw0]; exact Blk.new _ _ _
  have hb0 : Below w.heap.size w w0 := by rw [← hw0]; exact bl
  have hz0 := hb0.size
  have HK : Hid (∀ Z : World, Below w0.heap.size w0 Z → ∀ i, Z.cell? ⟨w.heap.size, i, none⟩ = (#[.slice A l.length c, .string ⟨a.toArray⟩, .string ⟨b.toArray⟩, .string ⟨role.toArray⟩] : Array Value)[i]?) := fun Z hz i => (kb0.below hz kb0.lt).cell i
  have HW := Lib.hid hw0
  have HB := Lib.hid hb0
  clear hw0 kb0 hb0
  have HQ0 : Hid (∀ Z : World, Below w0.heap.size w0 Z → Calls Tryz.prog 12 #[.slice A l.length c] Z (RetGs F Z)) := fun Z hz => by
    rw [← hF]
    exact few9_any A c l Z hl (h.keep (old_keep (HB.out.trans (hz.mono hz0)) (Nat.le_trans hz0 hz.size)))
  have HUA : Hid (∀ Z : World, Calls Tryz.prog 13 #[.string ⟨a.toArray⟩] Z (Ret (.string ⟨TA.toArray⟩) Z)) := fun Z => by rw [← hA]; exact text9_any a Z
  have HUB : Hid (∀ Z : World, Calls Tryz.prog 13 #[.string ⟨b.toArray⟩] Z (Ret (.string ⟨TB.toArray⟩) Z)) := fun Z => by rw [← hB]; exact text9_any b Z
  have HUR : Hid (∀ Z : World, Calls Tryz.prog 13 #[.string ⟨role.toArray⟩] Z (Ret (.string ⟨TR.toArray⟩) Z)) := fun Z => by rw [← hR]; exact text9_any role Z
  have HS : Hid (∀ Z : World, Below w0.heap.size w0 Z → Z.cell? ⟨w.heap.size, 0, none⟩ = some (.slice A l.length c) ∧ Z.cell? ⟨w.heap.size, 1, none⟩ = some (.string ⟨a.toArray⟩) ∧ Z.cell? ⟨w.heap.size, 2, none⟩ = some (.string ⟨b.toArray⟩) ∧ Z.cell? ⟨w.heap.size, 3, none⟩ = some (.string ⟨role.toArray⟩)) := fun Z hz => ⟨HK.out Z hz 0, HK.out Z hz 1, HK.out Z hz 2, HK.out Z hz 3⟩
  have HFN := Lib.hid hFN
  have HEV : Hid (∀ Z : World, Below w.heap.size w Z → Env0 Z) := fun Z hz => hV.below hz
  clear hF hA hB hR h hV hl hFN HK
  go_enter Tryz.func8, Tryz.ntmps8
  go_upto_region 1 with fail
  rw [show w.alloc _ = w0 from HW.out]
  clear HW
  refine wp_region_held_drew (S := (fun Z => Z.cell? ⟨w.heap.size, 0, none⟩ = some (.slice A l.length c) ∧ Z.cell? ⟨w.heap.size, 1, none⟩ = some (.string ⟨a.toArray⟩) ∧ Z.cell? ⟨w.heap.size, 2, none⟩ = some (.string ⟨b.toArray⟩) ∧ Z.cell? ⟨w.heap.size, 3, none⟩ = some (.string ⟨role.toArray⟩))) (by kernel_rfl) ?_ (fun hHeld => ?_)
  · try dsimp only
    exact HS.out _ (by exact bl)
  refine tS [0, 1, 3, 4, 6, 7, 9, 10] ?_
  iterate 8 (refine tC ?_; refine ap ?_)
  refine tN ?_
  refine rdy 2 fun K hK => ?_
  go_simp
  (refine (HQ0.out _ (by exact bl)).mono ?_) <;> rintro en w2 ⟨sv, rfl, hown, hb2⟩ <;> have hz2 : w0.heap.size ≤ w2.heap.size := hb2.size <;> obtain ⟨A1, c1, rfl, -, -, hQ1⟩ := GQ.own hown <;> clear hown
  go_wp2_with fail
  refine hK.out _ _ ?_ (fun hHeld => ?_)
  · try dsimp only
    exact HS.out _ (by exact bl)
  clear hK K
  refine ap ?_
  refine rdy 5 fun K hK => ?_
  go_simp
  (refine (HUA.out _).mono ?_) <;> rintro en w5 ⟨rfl, hb5⟩ <;> have hz5 := hb5.size
  go_wp2_with fail
  refine hK.out _ _ ?_ (fun hHeld => ?_)
  · try dsimp only
    exact HS.out _ (by exact bl)
  clear hK K
  refine ap ?_
  refine rdy 8 fun K hK => ?_
  go_simp
  (refine (HUB.out _).mono ?_) <;> rintro en w8 ⟨rfl, hb8⟩ <;> have hz8 := hb8.size
  go_wp2_with fail
  refine hK.out _ _ ?_ (fun hHeld => ?_)
  · try dsimp only
    exact HS.out _ (by exact bl)
  clear hK K
  refine ap ?_
  refine rdy 11 fun K hK => ?_
  go_simp
  (refine (HUR.out _).mono ?_) <;> rintro en w11 ⟨rfl, hb11⟩ <;> have hz11 := hb11.size
  go_wp2_with fail
  refine hK.out _ _ ?_ (fun hHeld => ?_)
  · try dsimp only
    exact HS.out _ (by exact bl)
  clear hK K
  refine ap ?_
  refine tS [12, 13, 14, 15] ?_
  iterate 4 (refine tC ?_; refine ap ?_)
  refine tN ?_
  refine wpAnyH_done (by kernel_rfl) ?_ _
  have hc11 : Below w2.heap.size w2 w11 := by exact bl
  have hn11 : Below w.heap.size w w11 := HB.out.trans (Below.mono (B := w0.heap.size) (by exact bl) hz0)
  have HQ : Hid (∀ Z : World, Below w11.heap.size w11 Z → GQ F A1 (Old Z.heap.size) Z) := fun Z hz => hQ1.keep fun b hb => ⟨Nat.lt_of_lt_of_le hb.2 (Nat.le_trans hc11.size hz.size), fun o => (hz.cell (p := ⟨b, o, none⟩) (Nat.lt_of_lt_of_le hb.2 hc11.size)).trans (hc11.cell (p := ⟨b, o, none⟩) hb.2)⟩
  clear hQ1 hb2 hb5 hb8 hb11 hHeld HS HQ0 HUA HUB HUR
  go_wp2_with fail
  obtain ⟨w12, hw12⟩ : ∃ w12, w11.alloc (.cells #[.string ⟨TA.toArray⟩, .string ⟨TB.toArray⟩] 9) = w12 := ⟨_, rfl⟩
  have kt : Blk w12 w11.heap.size 9 #[.string ⟨TA.toArray⟩, .string ⟨TB.toArray⟩] := by rw [← hw12]; exact Blk.new _ _ _
  have hb12 : Below w11.heap.size w11 w12 := by rw [← hw12]; exact bl
  have hz12 := hb12.size
  rw [hw12]
  have hsq : SQ [TA, TB] (some ⟨w11.heap.size, 0, none⟩) (Old w12.heap.size) w12 := fun _ => ⟨_, 0, rfl, kt.lt, fun i x hx => by
    match i, hx with
    | 0, hx => obtain rfl := Option.some.inj hx; exact kt.cell 0
    | 1, hx => obtain rfl := Option.some.inj hx; exact kt.cell 1
    | i + 2, hx => cases hx⟩
  have HX1 := Lib.hid (both_any A1 c1 F zzT (some ⟨w11.heap.size, 0, none⟩) 2 [TA, TB] w12 (by omega) (by simp) (HQ.out w12 hb12) hsq)
  have hXS := bothG_short F zzT [TA, TB] 20 HFN.out (by decide)
  have hXL := bothG_len F zzT [TA, TB]
  obtain ⟨X, hX⟩ : ∃ X, bothG F zzT [TA, TB] = X := ⟨_, rfl⟩
  rw [hX] at HX1 hXS hXL
  clear hw12 kt hsq
  refine HX1.out.mono ?_
  rintro en w13 ⟨sv, rfl, hown, hb13⟩
  obtain ⟨AX, cX, rfl, -, -, hQX⟩ := GQ.own hown
  have hz13 := hb13.size
  have hc13 : Below w11.heap.size w11 w13 := hb12.trans (hb13.mono hz12)
  have hn13 : Below w.heap.size w w13 := hn11.trans (hc13.mono hn11.size)
  have HQX : Hid (∀ Z : World, Below w13.heap.size w13 Z → GQ X AX (Old Z.heap.size) Z) := fun Z hz => hQX.keep fun b hb => ⟨Nat.lt_of_lt_of_le hb.2 hz.size, fun o => hz.cell (p := ⟨b, o, none⟩) hb.2⟩
  have HXS := Lib.hid hXS
  obtain ⟨C1, hC1⟩ : ∃ C, chkG F = C := ⟨_, rfl⟩
  obtain ⟨C2, hC2⟩ : ∃ C, chkG X = C := ⟨_, rfl⟩
  have HC1 : Hid (∀ Z : World, Below w13.heap.size w13 Z → Calls Tryz.prog 20 #[.slice A1 F.length c1] Z (Ret (.int .i64 C1) Z)) := fun Z hz => by
    have := checkG_any A1 c1 F Z (by omega) (fun g hg => by have := HFN.out g hg; omega) (HQ.out Z (hc13.trans (hz.mono hc13.size)))
    rw [hC1] at this
    exact this
  have HC2 : Hid (∀ Z : World, Below w13.heap.size w13 Z → Calls Tryz.prog 20 #[.slice AX X.length cX] Z (Ret (.int .i64 C2) Z)) := fun Z hz => by
    have := checkG_any AX cX X Z (by omega) (fun g hg => by have := HXS.out g hg; omega) (HQX.out Z hz)
    rw [hC2] at this
    exact this
  have HMF : Hid (∀ (O T : List UInt8) (Z : World), Below w13.heap.size w13 Z → Calls Tryz.prog 18 #[.slice A1 F.length c1, .string ⟨TR.toArray⟩, .agg ((stZ O T).cells stPZ).toArray] Z (Ret (.bool (mayG F TR O T)) Z)) := fun O T Z hz =>
    mayG_any A1 c1 F TR (stZ O T) stPZ Z (by omega) (fun g hg => by have := HFN.out g hg; omega) (HQ.out Z (hc13.trans (hz.mono hc13.size)))
  have HMX : Hid (∀ (O T : List UInt8) (Z : World), Below w13.heap.size w13 Z → Calls Tryz.prog 18 #[.slice AX X.length cX, .string ⟨TR.toArray⟩, .agg ((stZ O T).cells stPZ).toArray] Z (Ret (.bool (mayG X TR O T)) Z)) := fun O T Z hz =>
    mayG_any AX cX X TR (stZ O T) stPZ Z (by omega) (fun g hg => by have := HXS.out g hg; omega) (HQX.out Z hz)
  have HCC := Lib.hid (And.intro hC1 hC2)
  have HXE := Lib.hid hX
  clear hX hXS HX1 hown hQX hC1 hC2 hb12 hb13 hc11 hTA
  have h13 : Below w13.heap.size w13 w13 := Below.refl _ _
  go_wp2_with fail
  refine (HC1.out _ h13).mono ?_
  rintro en w14 ⟨rfl, hb14⟩
  have hz14 := hb14.size
  have hn14 : Below w.heap.size w w14 := hn13.trans (hb14.mono hn13.size)
  by_cases h1 : C1 = 0
  case neg =>
    have e1 : (C1 != 0) = true := by simpa using h1
    clear HCC
    have hzz := hn14.size
    have HAW := Lib.hid (awake9_any w14 (HEV.out w14 hn14))
    go_wp2_with fail
    refine HAW.out.mono ?_
    rintro en wz ⟨rfl, hbz⟩
    go_wp2_with fail
    go_ret
    exact ⟨rfl, hn14.trans (hbz.mono hzz)⟩
  subst h1
  go_wp2_with fail
  refine (HC2.out _ hb14).mono ?_
  rintro en w15 ⟨rfl, hb15⟩
  have hz15 := hb15.size
  have hc15 : Below w13.heap.size w13 w15 := hb14.trans (hb15.mono hz14)
  have hn15 : Below w.heap.size w w15 := hn13.trans (hc15.mono hn13.size)
  clear hb14 hb15
  by_cases h2 : C2 = 0
  case neg =>
    have e1 : (C2 != 0) = true := by simpa using h2
    clear HCC
    have hzz := hn15.size
    have HAW := Lib.hid (awake9_any w15 (HEV.out w15 hn15))
    go_wp2_with fail
    refine HAW.out.mono ?_
    rintro en wz ⟨rfl, hbz⟩
    go_wp2_with fail
    go_ret
    exact ⟨rfl, hn15.trans (hbz.mono hzz)⟩
  subst h2
  by_cases h3 : TR = adminT
  case pos =>
    have e3 : (TR == [97, 100, 109, 105, 110]) = true := by rw [h3]; rfl
    clear h3 HCC
    have hzz := hn15.size
    have HAW := Lib.hid (awake9_any w15 (HEV.out w15 hn15))
    go_wp2_with fail
    refine HAW.out.mono ?_
    rintro en wz ⟨rfl, hbz⟩
    go_wp2_with fail
    go_ret
    exact ⟨rfl, hn15.trans (hbz.mono hzz)⟩
  have e3 : (TR == [97, 100, 109, 105, 110]) = false := beq_eq_false_iff_ne.2 h3
  by_cases h4 : TA = zzT
  case pos =>
    have e4 : (TA == [122, 122]) = true := by rw [h4]; rfl
    clear h3 h4 HCC
    have hzz := hn15.size
    have HAW := Lib.hid (awake9_any w15 (HEV.out w15 hn15))
    go_wp2_with fail
    refine HAW.out.mono ?_
    rintro en wz ⟨rfl, hbz⟩
    go_wp2_with fail
    go_ret
    exact ⟨rfl, hn15.trans (hbz.mono hzz)⟩
  have e4 : (TA == [122, 122]) = false := beq_eq_false_iff_ne.2 h4
  by_cases h5 : TB = zzT
  case pos =>
    have e5 : (TB == [122, 122]) = true := by rw [h5]; rfl
    clear h3 h4 h5 HCC
    have hzz := hn15.size
    have HAW := Lib.hid (awake9_any w15 (HEV.out w15 hn15))
    go_wp2_with fail
    refine HAW.out.mono ?_
    rintro en wz ⟨rfl, hbz⟩
    go_wp2_with fail
    go_ret
    exact ⟨rfl, hn15.trans (hbz.mono hzz)⟩
  have e5 : (TB == [122, 122]) = false := beq_eq_false_iff_ne.2 h5
  have HLAW : Hid (∀ O : List UInt8, O = oSelect ∨ O = oDelete → mayG X TR O zzT = (mayG F TR O TA && mayG F TR O TB) ∧ mayG X TR O TA = mayG F TR O TA) := by
    have hx := HXE.out
    have hc2 := HCC.out.2
    rw [← hx] at hc2
    obtain ⟨l1, l2, l3, l4⟩ := both_law F zzT TA TB TR HCC.out.1 hc2 h3 h4
    rw [hx] at l1 l2 l3 l4
    rintro O (rfl | rfl)
    · exact ⟨l1, l3⟩
    · exact ⟨l2, l4⟩
  clear h3 h4 h5 HCC HXE HFN HXS HC1 HC2
  go_wp2_with fail
  obtain ⟨wo, hwo⟩ : ∃ wo, w15.alloc (.cells #[.string ⟨oSelect.toArray⟩, .string ⟨oDelete.toArray⟩] 9) = wo := ⟨_, rfl⟩
  have ko : Blk wo w15.heap.size 9 #[.string ⟨oSelect.toArray⟩, .string ⟨oDelete.toArray⟩] := by rw [← hwo]; exact Blk.new _ _ _
  have hbo : Below w15.heap.size w15 wo := by rw [← hwo]; exact bl
  have hzo := hbo.size
  have hlo := ko.lt
  rw [show w15.alloc (.cells #[.string ⟨#[115, 101, 108, 101, 99, 116]⟩, .string ⟨#[100, 101, 108, 101, 116, 101]⟩] 9) = wo from hwo]
  have hco : Below w13.heap.size w13 wo := hc15.trans (hbo.mono hc15.size)
  have hno : Below w.heap.size w wo := hn15.trans (hbo.mono hn15.size)
  obtain ⟨ga, hga⟩ : ∃ ga, w15.heap.size = ga := ⟨_, rfl⟩
  rw [hga] at ko hlo ⊢
  clear hwo hbo hga hc15 hn15 hn14
  go_loopw [51] (fun i wr => ∃ j : Nat, j ≤ 2 ∧ i = .int .i64 j ∧ Below wo.heap.size wo wr) (fun i _ => 2 - (intOf i).toNat)
  case atStart => exact ⟨0, by omega, rfl, Below.refl _ _⟩
  case round =>
    obtain ⟨j, hj, rfl, hbw⟩ := hrel
    obtain ⟨W, rfl⟩ : ∃ W, W = wr := ⟨_, rfl⟩
    have hzw := hbw.size
    by_cases hlt : j < 2
    · obtain ⟨O, hO, k0⟩ : ∃ O : List UInt8, (O = oSelect ∨ O = oDelete) ∧ W.cell? ⟨ga, j, none⟩ = some (.string ⟨O.toArray⟩) := by
        have k := ko.below hbw ko.lt
        rcases (show j = 0 ∨ j = 1 by omega) with rfl | rfl
        · exact ⟨oSelect, .inl rfl, k.cell 0⟩
        · exact ⟨oDelete, .inr rfl, k.cell 1⟩
      have hl := HLAW.out O hO
      have hcw : Below w13.heap.size w13 W := hco.trans (hbw.mono hco.size)
      obtain ⟨M1, hM1⟩ : ∃ M, mayG F TR O TA = M := ⟨_, rfl⟩
      obtain ⟨M2, hM2⟩ : ∃ M, mayG F TR O TB = M := ⟨_, rfl⟩
      rw [hM1, hM2] at hl
      have H1 : Hid (∀ Z : World, Below W.heap.size W Z → Calls Tryz.prog 18 #[.slice A1 F.length c1, .string ⟨TR.toArray⟩, .agg ((stZ O TA).cells stPZ).toArray] Z (Ret (.bool M1) Z)) := fun Z hz => by rw [← hM1]; exact HMF.out O TA Z (hcw.trans (hz.mono hcw.size))
      have H2 : Hid (∀ Z : World, Below W.heap.size W Z → Calls Tryz.prog 18 #[.slice A1 F.length c1, .string ⟨TR.toArray⟩, .agg ((stZ O TB).cells stPZ).toArray] Z (Ret (.bool M2) Z)) := fun Z hz => by rw [← hM2]; exact HMF.out O TB Z (hcw.trans (hz.mono hcw.size))
      have H3 : Hid (∀ Z : World, Below W.heap.size W Z → Calls Tryz.prog 18 #[.slice AX X.length cX, .string ⟨TR.toArray⟩, .agg ((stZ O zzT).cells stPZ).toArray] Z (Ret (.bool (M1 && M2)) Z)) := fun Z hz => by rw [← hl.1]; exact HMX.out O zzT Z (hcw.trans (hz.mono hcw.size))
      have H4 : Hid (∀ Z : World, Below W.heap.size W Z → Calls Tryz.prog 18 #[.slice AX X.length cX, .string ⟨TR.toArray⟩, .agg ((stZ O TA).cells stPZ).toArray] Z (Ret (.bool M1) Z)) := fun Z hz => by rw [← hl.2]; exact HMX.out O TA Z (hcw.trans (hz.mono hcw.size))
      have i1 : (0 : Int) ≤ (j : Int) := by omega
      have i2 : (j : Int) < 2 := by omega
      clear hM1 hM2 hl hO hcw HLAW HMF HMX
      have hcW : Below W.heap.size W W := Below.refl _ _
      go_wp2_with fail
      refine (H1.out _ (by exact bl)).mono ?_
      rintro en wc1 ⟨rfl, hbc1⟩
      have hzc1 := hbc1.size
      cases M1 with
      | false =>
        rw [Bool.false_and] at H3
        go_wp2_with fail
        refine (H3.out _ (by exact bl)).mono ?_
        rintro en wc3 ⟨rfl, hbc3⟩
        have hzc3 := hbc3.size
        go_wp2_with fail
        refine (H4.out _ (by exact bl)).mono ?_
        rintro en wc4 ⟨rfl, hbc4⟩
        have hzc4 := hbc4.size
        go_wp2_with fail
        refine (H1.out _ (by exact bl)).mono ?_
        rintro en wc5 ⟨rfl, hbc5⟩
        have hzc5 := hbc5.size
        have hcc : Below wo.heap.size wo wc5 := hbw.trans (Below.mono (B := W.heap.size) (by exact bl) hbw.size)
        clear H1 H2 H3 H4 hbc3 hbc4 hbc5
        go_wp2_with fail
        go_roundw
        case rel => exact ⟨j + 1, by omega, by go_num, hcc⟩
        case measure => simp [intOf]; omega
      | true =>
        rw [Bool.true_and] at H3
        go_wp2_with fail
        refine (H2.out _ (by exact bl)).mono ?_
        rintro en wc2 ⟨rfl, hbc2⟩
        have hzc2 := hbc2.size
        cases M2 with
        | false =>
          go_wp2_with fail
          refine (H3.out _ (by exact bl)).mono ?_
          rintro en wc3 ⟨rfl, hbc3⟩
          have hzc3 := hbc3.size
          go_wp2_with fail
          refine (H4.out _ (by exact bl)).mono ?_
          rintro en wc4 ⟨rfl, hbc4⟩
          have hzc4 := hbc4.size
          go_wp2_with fail
          refine (H1.out _ (by exact bl)).mono ?_
          rintro en wc5 ⟨rfl, hbc5⟩
          have hzc5 := hbc5.size
          have hcc : Below wo.heap.size wo wc5 := hbw.trans (Below.mono (B := W.heap.size) (by exact bl) hbw.size)
          clear H1 H2 H3 H4 hbc3 hbc4 hbc5
          go_wp2_with fail
          go_roundw
          case rel => exact ⟨j + 1, by omega, by go_num, hcc⟩
          case measure => simp [intOf]; omega
        | true =>
          go_wp2_with fail
          refine (H3.out _ (by exact bl)).mono ?_
          rintro en wc3 ⟨rfl, hbc3⟩
          have hzc3 := hbc3.size
          go_wp2_with fail
          refine (H4.out _ (by exact bl)).mono ?_
          rintro en wc4 ⟨rfl, hbc4⟩
          have hzc4 := hbc4.size
          go_wp2_with fail
          refine (H1.out _ (by exact bl)).mono ?_
          rintro en wc5 ⟨rfl, hbc5⟩
          have hzc5 := hbc5.size
          have hcc : Below wo.heap.size wo wc5 := hbw.trans (Below.mono (B := W.heap.size) (by exact bl) hbw.size)
          clear H1 H2 H3 H4 hbc3 hbc4 hbc5
          go_wp2_with fail
          go_roundw
          case rel => exact ⟨j + 1, by omega, by go_num, hcc⟩
          case measure => simp [intOf]; omega
    · obtain rfl : j = 2 := by omega
      have hnw : Below w.heap.size w W := hno.trans (hbw.mono hno.size)
      clear hlt HLAW HMF HMX
      have hzz := hnw.size
      have HAW := Lib.hid (awake9_any W (HEV.out W hnw))
      go_wp2_with fail
      refine HAW.out.mono ?_
      rintro en wz ⟨rfl, hbz⟩
      go_wp2_with fail
      go_ret
      exact ⟨rfl, hnw.trans (hbz.mono hzz)⟩

end Go.Proofs.YtchilcchogcibaaGreatDoor
