/- caddislaw09.Few; stmt.creates and stmt.parts as plain functions; The document's Same of grants as a plain function. -/
import Derived.Deep.CutBlock
import Derived.Deep.DeepCutAuto
import Derived.Deep.WholeRow
import Derived.Test.YtchilcchogcibaaGreatDoorSGr6
import Derived.Test.YtchilcchogcibaaGreatDoorSLex1
import Derived.Test.YtchilcchogcibaaGreatDoorSRd1
import Derived.Test.YtchilcchogcibaaGreatDoorSStC
namespace Go.Proofs.YtchilcchogcibaaGreatDoor
open Go.RowKit
attribute [local go_sem] ByteArray.extract_mk ba_get ba_append
attribute [local go_sem ↓] Go.wp_at_zero Go.wp_at_succ
def fewGr (g : Gr) : Gr := ⟨g.r.take 20, g.t.take 20, g.w⟩
def fewG (l : List Gr) : List Gr := (l.take 61).map fewGr
theorem fewG_snoc (l : List Gr) (j : Nat) (v : Gr) (h : l[j]? = some v) : (l.take (j + 1)).map fewGr = (l.take j).map fewGr ++ [fewGr v] := by
 rw [List.take_add_one, h]; simp
set_option maxRecDepth 100000 in
set_option maxHeartbeats 2000000 in
theorem few9_any (A : Option Addr) (c : Nat) (l : List Gr) (w : World) (hl : l.length ≤ maxLen) (h : GQ l A (Old w.heap.size) w) :
  Calls Tryz.prog 12 #[.slice A l.length c] w (RetGs (fewG l) w) := by
 unfold maxLen at hl
 obtain ⟨i0, hi0, zi0, zi1, zi2⟩ := info_parts infoGr
 go_enter Tryz.func12, Tryz.ntmps12
 go_wp2
 go_loopw [3, 4] (fun v i wr => ∃ j : Nat, j ≤ l.length ∧ j ≤ 61 ∧ i = .int .i64 j ∧ wr.ownsRow w.heap.size 54 3 v j (gcs ((l.take j).map fewGr)) ∧ Below w.heap.size w wr) (fun _ i _ => l.length - (intOf i).toNat)
 case atStart => exact ⟨0, by omega, by omega, rfl, World.ownsRow_nil _ _ _ _, Below.refl _ _⟩
 case round =>
  obtain ⟨j, hj1, hj2, rfl, hown, hbw⟩ := hrel
  have hzw := hbw.size
  by_cases hlt : j < l.length
  ·by_cases h14 : j < 61
   ·obtain ⟨b, off, x, hA, hbB, hx, c0, c1, c2⟩ := h.at_ hlt
    subst hA
    have hbB2 : b < w.heap.size := hbB
    obtain ⟨W, rfl⟩ : ∃ W, W = wr := ⟨_, rfl⟩
    have HX := Lib.hid hx
    have HOW := Lib.hid hown
    have HLT := Lib.hid hown.lt
    have i1 : (0 : Int) ≤ (j : Int) := by omega
    have i2 : (j : Int) < (l.length : Int) := by omega
    obtain ⟨xr, xt, xw⟩ := x
    dsimp only at c0 c1 c2
    obtain ⟨VR, hR⟩ : ∃ V, xr.take 20 = V := ⟨_, rfl⟩
    obtain ⟨VT, hT⟩ : ∃ V, xt.take 20 = V := ⟨_, rfl⟩
    have HT1 : Hid (∀ Z : World, Calls Tryz.prog 13 #[.string ⟨xr.toArray⟩] Z (Ret (.string ⟨VR.toArray⟩) Z)) := fun Z => by rw [← hR]; exact text9_any xr Z
    have HT2 : Hid (∀ Z : World, Calls Tryz.prog 13 #[.string ⟨xt.toArray⟩] Z (Ret (.string ⟨VT.toArray⟩) Z)) := fun Z => by rw [← hT]; exact text9_any xt Z
    have HG : Hid (fewGr ⟨xr, xt, xw⟩ = ⟨VR, VT, xw⟩) := by show _ = _; rw [← hR, ← hT]; rfl
    have HS : Hid (∀ Z : World, Below w.heap.size w Z → Z.cell? ⟨b, off + j * 3, none⟩ = some (.string ⟨xr.toArray⟩) ∧ Z.cell? ⟨b, off + j * 3 + 1, none⟩ = some (.string ⟨xt.toArray⟩) ∧ Z.cell? ⟨b, off + j * 3 + 2, none⟩ = some (.bool xw)) := fun Z hz =>
     ⟨(hz.cell (p := ⟨b, off + j * 3, none⟩) hbB2).trans c0, (hz.cell (p := ⟨b, off + j * 3 + 1, none⟩) hbB2).trans c1, (hz.cell (p := ⟨b, off + j * 3 + 2, none⟩) hbB2).trans c2⟩
    clear hx hown hR hT c0 c1 c2
    go_upto_region 5 with fail
    refine wp_region_held_drew (S := (fun Z => Z.cell? ⟨b, off + j * 3, none⟩ = some (.string ⟨xr.toArray⟩) ∧ Z.cell? ⟨b, off + j * 3 + 1, none⟩ = some (.string ⟨xt.toArray⟩) ∧ Z.cell? ⟨b, off + j * 3 + 2, none⟩ = some (.bool xw))) (by kernel_rfl) ?_ (fun hHeld => ?_)
    ·try dsimp only
     first | exact HS.out _ (by assumption) | exact HS.out _ (by ((with_reducible repeat' (first | exact bwR | assumption | refine bwD ?_ | refine bwN ?_ | refine bwS ?_ ?_ | refine bwA ?_ ?_ | refine bwT ?_ (by assumption) ?_)) <;> first | (simp; done) | (simp; omega) | omega))
    refine tS [0, 1, 2, 3, 4, 5, 7, 8, 9, 10, 11, 13, 14, 15, 16, 17] ?_
    iterate 16 (refine tC ?_; refine ap ?_)
    refine tN ?_
    refine rdy 6 fun K hK => ?_
    go_simp
    (refine (HT1.out _).mono ?_) <;> rintro en w6 ⟨rfl, hb6⟩ <;> have hz6 := hb6.size <;> (try simp at hz6)
    go_wp2_with fail
    refine hK.out _ _ ?_ (fun hHeld => ?_)
    ·try dsimp only
     first | exact HS.out _ (by assumption) | exact HS.out _ (by ((with_reducible repeat' (first | exact bwR | assumption | refine bwD ?_ | refine bwN ?_ | refine bwS ?_ ?_ | refine bwA ?_ ?_ | refine bwT ?_ (by assumption) ?_)) <;> first | (simp; done) | (simp; omega) | omega))
    clear hK K
    refine ap ?_
    refine rdy 12 fun K hK => ?_
    go_simp
    (refine (HT2.out _).mono ?_) <;> rintro en w12 ⟨rfl, hb12⟩ <;> have hz12 := hb12.size <;> (try simp at hz12)
    go_wp2_with fail
    refine hK.out _ _ ?_ (fun hHeld => ?_)
    ·try dsimp only
     first | exact HS.out _ (by assumption) | exact HS.out _ (by ((with_reducible repeat' (first | exact bwR | assumption | refine bwD ?_ | refine bwN ?_ | refine bwS ?_ ?_ | refine bwA ?_ ?_ | refine bwT ?_ (by assumption) ?_)) <;> first | (simp; done) | (simp; omega) | omega))
    clear hK K
    refine ap ?_
    refine tS [18] (tC ?_)
    refine ap (tN ?_)
    refine rdy 19 fun K hK => ?_
    go_simp
    skip
    go_wp2_with fail
    refine hK.out _ _ ?_ (fun hHeld => ?_)
    ·try dsimp only
     first | exact HS.out _ (by assumption) | exact HS.out _ (by ((with_reducible repeat' (first | exact bwR | assumption | refine bwD ?_ | refine bwN ?_ | refine bwS ?_ ?_ | refine bwA ?_ ?_ | refine bwT ?_ (by assumption) ?_)) <;> first | (simp; done) | (simp; omega) | omega))
    clear hK K
    refine ap ?_
    refine rdy 20 fun K hK => ?_
    have hb12' : Below W.heap.size W w12 := (by ((with_reducible repeat' (first | exact bwR | assumption | refine bwD ?_ | refine bwN ?_ | refine bwS ?_ ?_ | refine bwA ?_ ?_ | refine bwT ?_ (by assumption) ?_)) <;> first | (simp; done) | (simp; omega) | omega)); refine step_append_lies _ rfl (.tmp 15) (.tmp 34) 22 rfl w.heap.size 54 i0 _ 3 40 Tryz.underlying22 hi0 zi0 zi1 zi2 rfl (by decide) u3 j (gcs ((l.take j).map fewGr)) (by simp [Act.eval]) ((own_below HOW.out hb12').alloc _) ⟨w12.heap.size, 0, none⟩ 1 1 [.string ⟨VR.toArray⟩, .string ⟨VT.toArray⟩, .bool xw] (by simp [Act.eval]) rfl (World.news_of_block (cs := #[.string ⟨VR.toArray⟩, .string ⟨VT.toArray⟩, .bool xw]) (t := 54) (fr := (0, 0)) (heap_alloc_new w12 _)) (by simp [Value.oneCell']) (by omega) (by unfold maxLen; omega) (by omega) (by simp; omega) _ rfl ?_; intro g5 cap w20 hown20 hg20 hor20 hl20; have hb20w : Below w.heap.size w w20 := Below.grown ((hbw.trans (hb12'.mono hzw)).alloc (by omega) _) hg20 (by simp; omega) (fun k hk => (HLT.out k hk).1)
    refine hK.out _ _ ?_ (fun hHeld => ?_)
    ·try dsimp only
     first | exact HS.out _ (by assumption) | exact HS.out _ (by ((with_reducible repeat' (first | exact bwR | assumption | refine bwD ?_ | refine bwN ?_ | refine bwS ?_ ?_ | refine bwA ?_ ?_ | refine bwT ?_ (by assumption) ?_)) <;> first | (simp; done) | (simp; omega) | omega))
    clear hK K
    refine ap ?_
    refine tS [21] (tC ?_)
    refine ap (tN ?_)
    refine wpAnyH_done (by kernel_rfl) ?_ _
    go_wp2_with fail
    go_roundw
    case rel => exact ⟨j + 1, by omega, by omega, by go_num, by rw [fewG_snoc l j _ HX.out, gcs_app, HG.out]; exact hown20, hb20w⟩
    case measure => simp [intOf]; omega
   ·have e : fewG l = (l.take j).map fewGr := by unfold fewG; rw [show j = 61 by omega]
    have hn : (fewG l).length = j := by rw [e]; simp; omega
    go_wp2
    go_ret
    exact ⟨_, rfl, by rw [hn, e]; exact hown, hbw⟩
  ·have e : fewG l = (l.take j).map fewGr := by unfold fewG; rw [List.take_of_length_le (i := 61) (by omega), List.take_of_length_le (by omega)]
   have hn : (fewG l).length = j := by rw [e]; simp; omega
   have HE := Lib.hid (And.intro e hn)
   clear e hn
   go_wp2
   go_ret
   exact ⟨_, rfl, by rw [HE.out.2, HE.out.1]; exact hown, hbw⟩
/-- A statement's memory below a block, whose expressions are of these heights. -/
def StH (s : St) (p : StP) (kc ks kw : Nat) (Q : Nat → Prop) (w : World) : Prop :=
 SQ s.names p.names.a Q w ∧ CQ s.cols p.cols.a Q w ∧ SQ s.uniq p.uniq.a Q w ∧ XQ s.refs p.refs.a Q w ∧ ExQ 1000 kc w Q p.chk.a s.chk.l ∧ WQ s.row p.row.a Q w ∧ ZQ 1000 ks s.sets p.sets.a Q w ∧ ExQ 1000 kw w Q p.whr.a s.whr.l
theorem StQ.h {s : St} {p : StP} {Q : Nat → Prop} {w : World} (h : StQ 1000 s p Q w) : ∃ kc ks kw, StH s p kc ks kw Q w := by
 obtain ⟨h1, h2, h3, h4, ⟨n, h5⟩, h6, ⟨m, h7⟩, k, h8⟩ := h
 exact ⟨n, m, k, h1, h2, h3, h4, h5, h6, h7, h8⟩
theorem StH.keep {s : St} {p : StP} {kc ks kw : Nat} {Q Q' : Nat → Prop} {w w' : World} (h : StH s p kc ks kw Q w) (hk : ∀ b, Q b → Q' b ∧ ∀ o, w'.cell? ⟨b, o, none⟩ = w.cell? ⟨b, o, none⟩) : StH s p kc ks kw Q' w' := by
 obtain ⟨h1, h2, h3, h4, h5, h6, h7, h8⟩ := h
 exact ⟨h1.keep hk, h2.keep hk, h3.keep hk, h4.keep hk, h5.keep hk kc, h6.keep hk, h7.keep hk, h8.keep hk kw⟩
set_option maxRecDepth 100000 in
set_option maxHeartbeats 4000000 in
theorem creates_any (s : St) (p : StP) (w : World) (hok : s.Ok) (hQ : StQ 1000 s p (Old w.heap.size) w) : Calls Tryz.prog 75 #[.agg (s.cells p).toArray] w (Ret (.bool (creS s)) w) := by
 obtain ⟨kc, ks, kw, hM⟩ := hQ.h
 refine stBox_in s p w fun w0 HW ks0 hb0 hz0 HST HB => ?_
 dsimp only [St.cells] at HW
 have HM : Hid (∀ Y : World, Below w0.heap.size w0 Y → StH s p kc ks kw (Old Y.heap.size) Y) := fun Y hY => hM.keep (old_keep (hb0.trans (hY.mono hz0)) (Nat.le_trans hz0 hY.size))
 obtain ⟨B1, hB1⟩ : ∃ B, manyB s.cols 1 8 colOkB = B := ⟨_, rfl⟩
 have H1 : Hid (∀ Y : World, Below w0.heap.size w0 Y → Calls Tryz.prog 132 #[.slice p.cols.a s.cols.length p.cols.c, .int .i64 1, .int .i64 8, .func (.func 130) #[] #[]] Y (Ret (.bool B1) Y)) := fun Y hY => by
  rw [← hB1]
  exact manyCol_any p.cols.a p.cols.c s.cols 1 8 Y (by decide) (by decide) hok.nC hok.cols (HM.out Y hY).2.1
 obtain ⟨B2, hB2⟩ : ∃ B, nameG s.key = B := ⟨_, rfl⟩
 have H2 : Hid (∀ Y : World, Below w0.heap.size w0 Y → Calls Tryz.prog 74 #[.string ⟨s.key.toArray⟩] Y (Ret (.bool B2) Y)) := fun Y hY => by
  rw [← hB2]
  exact name_at rfl hok.key Y
 obtain ⟨B3, hB3⟩ : ∃ B, manyB s.uniq 0 8 nameG = B := ⟨_, rfl⟩
 have H3 : Hid (∀ Y : World, Below w0.heap.size w0 Y → Calls Tryz.prog 82 #[.slice p.uniq.a s.uniq.length p.uniq.c, .int .i64 0, .int .i64 8, .func (.func 74) #[] #[]] Y (Ret (.bool B3) Y)) := fun Y hY => by
  rw [← hB3]
  exact manyN_any p.uniq.a p.uniq.c s.uniq 0 8 Y (by decide) (by decide) hok.nU hok.uniq (HM.out Y hY).2.2.1
 obtain ⟨B4, hB4⟩ : ∃ B, manyB s.refs 0 8 refOkB = B := ⟨_, rfl⟩
 have H4 : Hid (∀ Y : World, Below w0.heap.size w0 Y → Calls Tryz.prog 133 #[.slice p.refs.a s.refs.length p.refs.c, .int .i64 0, .int .i64 8, .func (.func 131) #[] #[]] Y (Ret (.bool B4) Y)) := fun Y hY => by
  rw [← hB4]
  exact manyRef_any p.refs.a p.refs.c s.refs 0 8 Y (by decide) (by decide) hok.nR hok.refs (HM.out Y hY).2.2.2.1
 obtain ⟨B5, hB5⟩ : ∃ B, perhapsE s.chk = B := ⟨_, rfl⟩
 have H5 : Hid (∀ Y : World, Below w0.heap.size w0 Y → Calls Tryz.prog 81 #[.agg #[.string ⟨s.chk.op.toArray⟩, .int .i64 s.chk.v.k, .int .i64 s.chk.v.i, .string ⟨s.chk.v.s.toArray⟩, .string ⟨s.chk.s.toArray⟩, .slice p.chk.a s.chk.l.length p.chk.c]] Y (Ret (.bool B5) Y)) := fun Y hY => by
  rw [← hB5]
  exact perhaps_any s.chk p.chk.a p.chk.c kc Y hok.chk (exq_s (HM.out Y hY).2.2.2.2.1 (Nat.le_refl _))
 have hR : creS s = (B1 && (B2 && (B3 && (B4 && B5)))) := by unfold creS; rw [hB1, hB2, hB3, hB4, hB5]; simp only [Bool.and_assoc]
 obtain ⟨R, hR0⟩ : ∃ R, creS s = R := ⟨_, rfl⟩
 rw [hR0] at hR ⊢
 have HR := Lib.hid hR
 clear hR hR0 hB1 hB2 hB3 hB4 hB5 ks0 hQ hM hok HM
 obtain ⟨s0, s1, s2, s3, s4, s5, s6, s7, s8, s9, s10, s11, s12, s13, s14, s15, s16, s17, s18, s19, s20, s21, s22⟩ := HST.out w0 (Below.refl _ _)
 dsimp only [St.cells]
 go_enter Tryz.func75, Tryz.ntmps75
 go_upto_region 1 with fail
 rw [show w.alloc _ = w0 from HW.out]
 clear HW
 have hc0 : Below w0.heap.size w0 w0 := Below.refl _ _
 go_wp2_with fail
 refine (H1.out w0 hc0).mono ?_
 rintro en w1 ⟨rfl, hb1⟩
 have hc1 : Below w0.heap.size w0 w1 := hc0.trans (hb1.mono hc0.size)
 have hz1 := hc1.size
 clear s0 s1 s2 s3 s4 s5 s6 s7 s8 s9 s10 s11 s12 s13 s14 s15 s16 s17 s18 s19 s20 s21 s22
 cases B1 with
 | false =>
  go_wp2_with fail
  go_ret
  exact ⟨by rw [HR.out]; rfl, HB.out.trans (hc1.mono hz0)⟩
 | true =>
  obtain ⟨s0, s1, s2, s3, s4, s5, s6, s7, s8, s9, s10, s11, s12, s13, s14, s15, s16, s17, s18, s19, s20, s21, s22⟩ := HST.out w1 hc1
  go_wp2_with fail
  refine (H2.out w1 hc1).mono ?_
  rintro en w2 ⟨rfl, hb2⟩
  have hc2 : Below w0.heap.size w0 w2 := hc1.trans (hb2.mono hc1.size)
  have hz2 := hc2.size
  clear s0 s1 s2 s3 s4 s5 s6 s7 s8 s9 s10 s11 s12 s13 s14 s15 s16 s17 s18 s19 s20 s21 s22
  cases B2 with
  | false =>
   go_wp2_with fail
   go_ret
   exact ⟨by rw [HR.out]; rfl, HB.out.trans (hc2.mono hz0)⟩
  | true =>
   obtain ⟨s0, s1, s2, s3, s4, s5, s6, s7, s8, s9, s10, s11, s12, s13, s14, s15, s16, s17, s18, s19, s20, s21, s22⟩ := HST.out w2 hc2
   go_wp2_with fail
   refine (H3.out w2 hc2).mono ?_
   rintro en w3 ⟨rfl, hb3⟩
   have hc3 : Below w0.heap.size w0 w3 := hc2.trans (hb3.mono hc2.size)
   have hz3 := hc3.size
   clear s0 s1 s2 s3 s4 s5 s6 s7 s8 s9 s10 s11 s12 s13 s14 s15 s16 s17 s18 s19 s20 s21 s22
   cases B3 with
   | false =>
    go_wp2_with fail
    go_ret
    exact ⟨by rw [HR.out]; rfl, HB.out.trans (hc3.mono hz0)⟩
   | true =>
    obtain ⟨s0, s1, s2, s3, s4, s5, s6, s7, s8, s9, s10, s11, s12, s13, s14, s15, s16, s17, s18, s19, s20, s21, s22⟩ := HST.out w3 hc3
    go_wp2_with fail
    refine (H4.out w3 hc3).mono ?_
    rintro en w4 ⟨rfl, hb4⟩
    have hc4 : Below w0.heap.size w0 w4 := hc3.trans (hb4.mono hc3.size)
    have hz4 := hc4.size
    clear s0 s1 s2 s3 s4 s5 s6 s7 s8 s9 s10 s11 s12 s13 s14 s15 s16 s17 s18 s19 s20 s21 s22
    cases B4 with
    | false =>
     go_wp2_with fail
     go_ret
     exact ⟨by rw [HR.out]; rfl, HB.out.trans (hc4.mono hz0)⟩
    | true =>
     obtain ⟨s0, s1, s2, s3, s4, s5, s6, s7, s8, s9, s10, s11, s12, s13, s14, s15, s16, s17, s18, s19, s20, s21, s22⟩ := HST.out w4 hc4
     go_wp2_with fail
     refine (H5.out w4 hc4).mono ?_
     rintro en w5 ⟨rfl, hb5⟩
     have hc5 : Below w0.heap.size w0 w5 := hc4.trans (hb5.mono hc4.size)
     have hz5 := hc5.size
     clear s0 s1 s2 s3 s4 s5 s6 s7 s8 s9 s10 s11 s12 s13 s14 s15 s16 s17 s18 s19 s20 s21 s22
     go_wp2_with fail
     go_ret
     exact ⟨by rw [HR.out]; rfl, HB.out.trans (hc5.mono hz0)⟩
/-- The whole of a statement's memory, at a later world. -/
theorem StH.q {s : St} {p : StP} {kc ks kw : Nat} {Q : Nat → Prop} {w : World} (h : StH s p kc ks kw Q w) : StQ 1000 s p Q w := by
 obtain ⟨h1, h2, h3, h4, h5, h6, h7, h8⟩ := h
 exact ⟨h1, h2, h3, h4, ⟨_, h5⟩, h6, ⟨_, h7⟩, _, h8⟩
/-- What stmt.empty wants. -/
def St.Slim (s : St) : Prop := s.tb.length ≤ 1000 ∧ s.ot.length ≤ 1000 ∧ s.key.length ≤ 1000 ∧ s.role.length ≤ 1000 ∧ s.names.length ≤ 1000 ∧ s.cols.length ≤ 1000 ∧ s.uniq.length ≤ 1000 ∧ s.refs.length ≤ 1000 ∧ s.row.length ≤ 1000 ∧ s.sets.length ≤ 1000
theorem emptyAt (s : St) (p : StP) (h : s.Slim) {E : Bool} (he : emptyS s = E) (Y : World) : Calls Tryz.prog 83 #[.agg (s.cells p).toArray] Y (Ret (.bool E) Y) := by
 obtain ⟨h1, h2, h3, h4, h5, h6, h7, h8, h9, h10⟩ := h
 have := empty_any s p Y (by omega) (by omega) (by omega) (by omega) (by omega) (by omega) (by omega) (by omega) (by omega) (by omega)
 rw [he] at this
 exact this
theorem st_set_tb {w : World} {g : Nat} {t : TypeId} {s : St} {p : StP} (h : Blk w g t (s.cells p).toArray) : Blk (w.setCell ⟨g, 1, none⟩ (.string ⟨#[]⟩)) g t (({ s with tb := [] } : St).cells p).toArray := by
 have := h.set_ 1 (.string ⟨#[]⟩)
 simpa [St.cells] using this
theorem st_set_ot {w : World} {g : Nat} {t : TypeId} {s : St} {p : StP} (h : Blk w g t (s.cells p).toArray) : Blk (w.setCell ⟨g, 2, none⟩ (.string ⟨#[]⟩)) g t (({ s with ot := [] } : St).cells p).toArray := by
 have := h.set_ 2 (.string ⟨#[]⟩)
 simpa [St.cells] using this
theorem st_set_names {w : World} {g : Nat} {t : TypeId} {s : St} {p : StP} (h : Blk w g t (s.cells p).toArray) : Blk (w.setCell ⟨g, 3, none⟩ (.slice none 0 0)) g t (({ s with names := [] } : St).cells ({ p with names := ⟨none, 0⟩ } : StP)).toArray := by
 have := h.set_ 3 (.slice none 0 0)
 simpa [St.cells] using this
theorem st_set_cols {w : World} {g : Nat} {t : TypeId} {s : St} {p : StP} (h : Blk w g t (s.cells p).toArray) : Blk (w.setCell ⟨g, 4, none⟩ (.slice none 0 0)) g t (({ s with cols := [] } : St).cells ({ p with cols := ⟨none, 0⟩ } : StP)).toArray := by
 have := h.set_ 4 (.slice none 0 0)
 simpa [St.cells] using this
theorem st_set_key {w : World} {g : Nat} {t : TypeId} {s : St} {p : StP} (h : Blk w g t (s.cells p).toArray) : Blk (w.setCell ⟨g, 5, none⟩ (.string ⟨#[]⟩)) g t (({ s with key := [] } : St).cells p).toArray := by
 have := h.set_ 5 (.string ⟨#[]⟩)
 simpa [St.cells] using this
theorem st_set_uniq {w : World} {g : Nat} {t : TypeId} {s : St} {p : StP} (h : Blk w g t (s.cells p).toArray) : Blk (w.setCell ⟨g, 6, none⟩ (.slice none 0 0)) g t (({ s with uniq := [] } : St).cells ({ p with uniq := ⟨none, 0⟩ } : StP)).toArray := by
 have := h.set_ 6 (.slice none 0 0)
 simpa [St.cells] using this
theorem st_set_refs {w : World} {g : Nat} {t : TypeId} {s : St} {p : StP} (h : Blk w g t (s.cells p).toArray) : Blk (w.setCell ⟨g, 7, none⟩ (.slice none 0 0)) g t (({ s with refs := [] } : St).cells ({ p with refs := ⟨none, 0⟩ } : StP)).toArray := by
 have := h.set_ 7 (.slice none 0 0)
 simpa [St.cells] using this
theorem st_set_row {w : World} {g : Nat} {t : TypeId} {s : St} {p : StP} (h : Blk w g t (s.cells p).toArray) : Blk (w.setCell ⟨g, 14, none⟩ (.slice none 0 0)) g t (({ s with row := [] } : St).cells ({ p with row := ⟨none, 0⟩ } : StP)).toArray := by
 have := h.set_ 14 (.slice none 0 0)
 simpa [St.cells] using this
theorem st_set_sets {w : World} {g : Nat} {t : TypeId} {s : St} {p : StP} (h : Blk w g t (s.cells p).toArray) : Blk (w.setCell ⟨g, 15, none⟩ (.slice none 0 0)) g t (({ s with sets := [] } : St).cells ({ p with sets := ⟨none, 0⟩ } : StP)).toArray := by
 have := h.set_ 15 (.slice none 0 0)
 simpa [St.cells] using this
theorem st_set_role {w : World} {g : Nat} {t : TypeId} {s : St} {p : StP} (h : Blk w g t (s.cells p).toArray) : Blk (w.setCell ⟨g, 22, none⟩ (.string ⟨#[]⟩)) g t (({ s with role := [] } : St).cells p).toArray := by
 have := h.set_ 22 (.string ⟨#[]⟩)
 simpa [St.cells] using this
theorem st_set_chk {w : World} {g : Nat} {t : TypeId} {s : St} {p : StP} (h : Blk w g t (s.cells p).toArray) : Blk ((((((w.setCell ⟨g, 8, none⟩ (.string ⟨#[]⟩)).setCell ⟨g, 9, none⟩ (.int .i64 0)).setCell ⟨g, 10, none⟩ (.int .i64 0)).setCell ⟨g, 11, none⟩ (.string ⟨#[]⟩)).setCell ⟨g, 12, none⟩ (.string ⟨#[]⟩)).setCell ⟨g, 13, none⟩ (.slice none 0 0)) g t (({ s with chk := exZero } : St).cells ({ p with chk := ⟨none, 0⟩ } : StP)).toArray := by
 have := (((((h.set_ 8 (.string ⟨#[]⟩)).set_ 9 (.int .i64 0)).set_ 10 (.int .i64 0)).set_ 11 (.string ⟨#[]⟩)).set_ 12 (.string ⟨#[]⟩)).set_ 13 (.slice none 0 0)
 simpa [St.cells, exZero, Ex.op, Ex.v, Ex.s, Ex.l, V.zero] using this
theorem st_set_whr {w : World} {g : Nat} {t : TypeId} {s : St} {p : StP} (h : Blk w g t (s.cells p).toArray) : Blk ((((((w.setCell ⟨g, 16, none⟩ (.string ⟨#[]⟩)).setCell ⟨g, 17, none⟩ (.int .i64 0)).setCell ⟨g, 18, none⟩ (.int .i64 0)).setCell ⟨g, 19, none⟩ (.string ⟨#[]⟩)).setCell ⟨g, 20, none⟩ (.string ⟨#[]⟩)).setCell ⟨g, 21, none⟩ (.slice none 0 0)) g t (({ s with whr := exZero } : St).cells ({ p with whr := ⟨none, 0⟩ } : StP)).toArray := by
 have := (((((h.set_ 16 (.string ⟨#[]⟩)).set_ 17 (.int .i64 0)).set_ 18 (.int .i64 0)).set_ 19 (.string ⟨#[]⟩)).set_ 20 (.string ⟨#[]⟩)).set_ 21 (.slice none 0 0)
 simpa [St.cells, exZero, Ex.op, Ex.v, Ex.s, Ex.l, V.zero] using this
theorem size_st : (Tryz.prog.info? 34).map (·.size) = some 23 := by kernel_rfl
theorem one_st (s : St) (p : StP) : (s.cells p).toArray.all (·.oneCell') = true := by simp [St.cells, Value.oneCell']
theorem wpList_load_rowG {P : Program} {ops : Array Oper} {rest : List Oper} {o : Oper} {a : Act} {w : World} {Q : Exit → Act → World → Prop} (hw : Region.wanted o (yielded ops a.tmps) = true) (ty : TypeId) (x : Operand) (ho : o.op = .load ty x)
  (g : Nat) (hx : a.eval x = .pointer (some ⟨g, 0, none⟩)) (t : TypeId) (cs : Array Value) (fr : Nat × Nat) (d : TypeDesc) (hg : w.heap[g]? = some (.cells cs t fr))
  (hu : P.underlying ty = some d) (hd : (match d with | .struct _ | .array _ _ => true | _ => false) = true) (hi : (P.info? ty).map (·.size) = some cs.size)
  (h : wpList P ops Q rest (a.put o.dst (.agg cs)) w) : wpList P ops Q (o :: rest) a w :=
 wpList_step fun K hK => by rw [if_pos hw]; exact wp_load_row ty x ho g hx t cs fr d hg hu hd hi (hK _ _ h)
theorem sl0 {α : Type} : ([] : List α).length ≤ 1000 := Nat.zero_le _
end Go.Proofs.YtchilcchogcibaaGreatDoor
namespace Go.Proofs.YtchilcchogcibaaGreatDoor
open Go.RowKit
theorem run_neq_G (r t : List UInt8) (u : Bool) (r' t' : List UInt8) (u' : Bool) (w : World) :
  (binOp .neq 54 (.agg #[.string ⟨r.toArray⟩, .string ⟨t.toArray⟩, .bool u]) (.agg #[.string ⟨r'.toArray⟩, .string ⟨t'.toArray⟩, .bool u'])).run Tryz.prog w = .ok (.bool (!eqG ⟨r, t, u⟩ ⟨r', t', u'⟩)) w := by
 by_cases h1 : r = r' <;> by_cases h2 : t = t' <;> cases u <;> cases u' <;> simp [go_sem, eqG, h1, h2, Tryz.underlying54, Tryz.underlying9, Tryz.underlying4]
attribute [local go_sem] ByteArray.extract_mk ba_get ba_append
attribute [local go_sem ↓] Go.wp_at_zero Go.wp_at_succ run_eql_G run_neq_G
set_option maxRecDepth 100000 in
set_option maxHeartbeats 4000000 in
theorem rsameG_any (A B : Option Addr) (c d : Nat) (a b : List Gr) (w : World) (ha : a.length ≤ 1000000) (hb : b.length ≤ 1000000) (hA : GQ a A (Old w.heap.size) w) (hB : GQ b B (Old w.heap.size) w) :
  Calls Tryz.prog 17 #[.slice A a.length c, .slice B b.length d] w (Ret (.bool (decide (a = b))) w) := by
 obtain ⟨N, hN⟩ : ∃ N, a.length = N := ⟨_, rfl⟩
 obtain ⟨M, hM⟩ : ∃ N, b.length = N := ⟨_, rfl⟩
 have HN := Lib.hid hN
 have HM := Lib.hid hM
 obtain ⟨R, hR⟩ : ∃ R, decide (a = b) = R := ⟨_, rfl⟩
 rw [hR]
 have HR := Lib.hid hR
 have HQA : Hid (∀ Z : World, Below w.heap.size w Z → GQ a A (Old w.heap.size) Z) := fun Z hz => hA.keep fun b hb => ⟨hb, fun o => hz.cell (p := ⟨b, o, none⟩) hb⟩
 have HQB : Hid (∀ Z : World, Below w.heap.size w Z → GQ b B (Old w.heap.size) Z) := fun Z hz => hB.keep fun b hb => ⟨hb, fun o => hz.cell (p := ⟨b, o, none⟩) hb⟩
 rw [hN] at ha ⊢
 rw [hM] at hb ⊢
 clear hN hM hR hA hB
 by_cases hl : N = M
 ·subst hl
  go_enter Tryz.func17, Tryz.ntmps17
  go_wp2_with fail
  go_loopw [5] (fun i wr => ∃ j : Nat, j ≤ N ∧ i = .int .i64 j ∧ Hid (a.take j = b.take j) ∧ Below w.heap.size w wr) (fun i _ => N - (intOf i).toNat)
  case atStart => exact ⟨0, by omega, rfl, by show _ = _; simp, Below.refl _ _⟩
  case round =>
   obtain ⟨j, hj, rfl, HJ, hbw⟩ := hrel
   obtain ⟨W, rfl⟩ : ∃ W, W = wr := ⟨_, rfl⟩
   have hzw := hbw.size
   by_cases hlt : j < N
   ·obtain ⟨b1, o1, x, rfl, hb1, hv, c0, c1, c2⟩ := (HQA.out _ hbw).at_ (j := j) (by rw [HN.out]; exact hlt)
    obtain ⟨b2, o2, y, rfl, hb2, hv2, d0, d1, d2⟩ := (HQB.out _ hbw).at_ (j := j) (by rw [HM.out]; exact hlt)
    have l1 : b1 < w.heap.size := hb1
    have l2 : b2 < w.heap.size := hb2
    have HSH : Hid (∀ Z : World, Below W.heap.size W Z → (Z.cell? ⟨b1, o1 + j * 3, none⟩ = some (.string ⟨x.r.toArray⟩) ∧ Z.cell? ⟨b1, o1 + j * 3 + 1, none⟩ = some (.string ⟨x.t.toArray⟩) ∧ Z.cell? ⟨b1, o1 + j * 3 + 2, none⟩ = some (.bool x.w)) ∧ Z.cell? ⟨b2, o2 + j * 3, none⟩ = some (.string ⟨y.r.toArray⟩) ∧ Z.cell? ⟨b2, o2 + j * 3 + 1, none⟩ = some (.string ⟨y.t.toArray⟩) ∧ Z.cell? ⟨b2, o2 + j * 3 + 2, none⟩ = some (.bool y.w)) := fun Z hz => by
     have h1 : ∀ o, Z.cell? ⟨b1, o, none⟩ = W.cell? ⟨b1, o, none⟩ := fun o => hz.cell (p := ⟨b1, o, none⟩) (show b1 < _ by omega)
     have h2 : ∀ o, Z.cell? ⟨b2, o, none⟩ = W.cell? ⟨b2, o, none⟩ := fun o => hz.cell (p := ⟨b2, o, none⟩) (show b2 < _ by omega)
     exact ⟨⟨(h1 _).trans c0, (h1 _).trans c1, (h1 _).trans c2⟩, (h2 _).trans d0, (h2 _).trans d1, (h2 _).trans d2⟩
    have HE : Hid (eqG x y = decide (x = y)) := eqG_iff x y
    have HT : Hid (x = y → a.take (j + 1) = b.take (j + 1)) := fun e => by rw [List.take_add_one, List.take_add_one, hv, hv2, HJ.out, e]
    have HF0 : Hid (¬ x = y → R = false) := fun e => by
     rw [← HR.out]
     exact decide_eq_false fun h => e (by rw [h, hv2] at hv; cases hv; rfl)
    have g10 : (0 : Int) ≤ (j : Int) := by omega
    have g11 : (j : Int) < (N : Int) := by omega
    clear hv hv2 c0 c1 c2 d0 d1 d2
    go_wp2_with fail
    refine wp_region_held_drew (S := (fun Z => (Z.cell? ⟨b1, o1 + j * 3, none⟩ = some (.string ⟨x.r.toArray⟩) ∧ Z.cell? ⟨b1, o1 + j * 3 + 1, none⟩ = some (.string ⟨x.t.toArray⟩) ∧ Z.cell? ⟨b1, o1 + j * 3 + 2, none⟩ = some (.bool x.w)) ∧ Z.cell? ⟨b2, o2 + j * 3, none⟩ = some (.string ⟨y.r.toArray⟩) ∧ Z.cell? ⟨b2, o2 + j * 3 + 1, none⟩ = some (.string ⟨y.t.toArray⟩) ∧ Z.cell? ⟨b2, o2 + j * 3 + 2, none⟩ = some (.bool y.w))) (by kernel_rfl) ?_ (fun hHeld => ?_)
    ·try dsimp only
     exact HSH.out _ (by exact bl)
    refine tS [0, 1, 2, 3, 4, 5, 6, 7, 8] ?_
    iterate 9 (refine tC ?_; refine ap ?_)
    refine tN ?_
    refine wpAnyH_done (by kernel_rfl) ?_ _
    have hbd : Below w.heap.size w W.drew := hbw.trans ((show Below W.heap.size W W.drew by exact bl).mono hzw)
    have HBD := Lib.hid hbd
    clear hbd
    obtain ⟨E, hE⟩ : ∃ E, eqG ⟨x.r, x.t, x.w⟩ ⟨y.r, y.t, y.w⟩ = E := ⟨_, rfl⟩
    rw [hE]
    have HE2 : Hid (E = decide (x = y)) := by show _ = _; rw [← hE]; exact HE.out
    clear hE HE
    cases E with
    | false =>
     have HF : Hid (R = false) := HF0.out (by have := HE2.out; simpa using this)
     clear HE2 HT HF0 HJ HR
     go_wp2_with fail
     go_ret
     exact ⟨by rw [HF.out]; rfl, HBD.out⟩
    | true =>
     have HF : Hid (a.take (j + 1) = b.take (j + 1)) := HT.out (by have := HE2.out; simpa using this)
     clear HE2 HT HF0 HJ
     go_wp2_with fail
     go_roundw
     case rel => exact ⟨j + 1, by omega, by go_num, HF, HBD.out⟩
     case measure => simp [intOf]; omega
   ·obtain rfl : j = N := by omega
    have HF : Hid (R = true) := by
     show _ = _
     have := HJ.out
     rw [← HN.out, List.take_length, HN.out, ← HM.out, List.take_length] at this
     rw [← HR.out]
     exact decide_eq_true this
    have g11 : ¬ (j : Int) < (j : Int) := by omega
    clear HJ hlt
    go_wp2_with fail
    go_ret
    exact ⟨by rw [HF.out]; rfl, hbw⟩
 ·have HF : Hid (R = false) := by
   show _ = _
   rw [← HR.out]
   exact decide_eq_false fun h => hl (by rw [← HN.out, ← HM.out, h])
  have e1 : ((N : Int) != (M : Int)) = true := by simp; omega
  have e2 : ¬ (N : Int) = (M : Int) := by omega
  clear HR
  go_enter Tryz.func17, Tryz.ntmps17
  go_wp2_with fail
  go_ret
  exact ⟨by rw [HF.out]; rfl, by exact bl⟩
end Go.Proofs.YtchilcchogcibaaGreatDoor
