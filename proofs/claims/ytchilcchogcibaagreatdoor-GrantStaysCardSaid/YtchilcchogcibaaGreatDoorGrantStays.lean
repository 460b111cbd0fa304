/- caddislaw09.GrantStays answers true: what is granted is allowed till it is revoked, whatever is granted and revoked of other roles and tables. Condition: what the library's variables hold. -/
import Derived.Test.YtchilcchogcibaaGreatDoorSFew5
import Derived.Test.YtchilcchogcibaaGreatDoorSGrLaw3
import Derived.Test.YtchilcchogcibaaGreatDoorSBsty
import Derived.Test.YtchilcchogcibaaGreatDoorOpenDs
import Derived.Test.YtchilcchogcibaaGreatDoorSFew9
import Derived.Test.YtchilcchogcibaaGreatDoorSRd4
import Derived.Test.YtchilcchogcibaaGreatDoorSR5Law
import Derived.Test.YtchilcchogcibaaGreatDoorSOwnRow
import Derived.Deep.CutBlock
import Derived.Deep.DeepCutAuto
namespace Go.Proofs.YtchilcchogcibaaGreatDoor
open Go.RowKit

attribute [local go_sem] ByteArray.extract_mk ba_get ba_append
attribute [local go_sem ↓] Go.wp_at_zero Go.wp_at_succ

set_option maxRecDepth 100000 in
set_option maxHeartbeats 8000000 in
theorem grantStays_walk (A : Option Addr) (c : Nat) (l : List St) (role tb : List UInt8) (w : World) (hl : l.length ≤ maxLen) (h : DQ maxLen l A (Old w.heap.size) w) (hV : Env0 w) :
    Calls Tryz.prog 4 #[.slice A l.length c, .string ⟨role.toArray⟩, .string ⟨tb.toArray⟩] w (Ret (.bool true) w) := by
  obtain ⟨TR, hR⟩ : ∃ X, role.take 20 = X := ⟨_, rfl⟩
  obtain ⟨TT, hT⟩ : ∃ X, tb.take 20 = X := ⟨_, rfl⟩
  have HUR : Hid (∀ Z : World, Calls Tryz.prog 13 #[.string ⟨role.toArray⟩] Z (Ret (.string ⟨TR.toArray⟩) Z)) := fun Z => by rw [← hR]; exact text9_any role Z
  have HUT : Hid (∀ Z : World, Calls Tryz.prog 13 #[.string ⟨tb.toArray⟩] Z (Ret (.string ⟨TT.toArray⟩) Z)) := fun Z => by rw [← hT]; exact text9_any tb Z
  have HD : Hid (∀ Z : World, Below w.heap.size w Z → w.heap.size ≤ Z.heap.size → DQ maxLen l A (Old Z.heap.size) Z) := fun Z hz hs => h.keep (old_keep hz hs)
  have HEV : Hid (∀ Z : World, Below w.heap.size w Z → Env0 Z) := fun Z hz => hV.below hz
  unfold maxLen at hl
  clear hR hT h hV
  go_enter Tryz.func4, Tryz.ntmps4
  go_wp2_with fail
  refine (HUR.out _).mono ?_
  rintro en w1 ⟨rfl, hb1⟩
  have hz1 := hb1.size
  go_wp2_with fail
  refine (HUT.out _).mono ?_
  rintro en w2 ⟨rfl, hb2⟩
  have hz2 := hb2.size
  have hn2 : Below w.heap.size w w2 := hb1.trans (hb2.mono hz1)
  clear hb1 hb2 HUR HUT
  go_upto_block 0 with fail
  go_cut [7, 8, 9, 10] from 18 to 64 (fun g r wv _ wx => ∃ (G : List Gr) (A' : Option Addr) (c' : Nat) (R1 R2 : Bool), g = .slice A' G.length c' ∧ Hid (chkG G = 0) ∧ r = .bool R1 ∧ wv = .bool R2 ∧ Hid (hasG G TR TT false = R1) ∧ Hid (hasG G TR TT true = R2) ∧ Hid (GQ G A' (Old wx.heap.size) wx) ∧ Below w2.heap.size w2 wx)
  case first =>
    go_wp2_with fail
    go_loopw [7, 8, 9, 10] (fun g r wv i wr => ∃ (j : Nat) (G : List Gr) (A' : Option Addr) (c' : Nat) (R1 R2 : Bool), j ≤ l.length ∧ j ≤ 30 ∧ i = .int .i64 j ∧ g = .slice A' G.length c' ∧ Hid (chkG G = 0) ∧ r = .bool R1 ∧ wv = .bool R2 ∧ Hid (hasG G TR TT false = R1) ∧ Hid (hasG G TR TT true = R2) ∧ Hid (GQ G A' (Old wr.heap.size) wr) ∧ Below w2.heap.size w2 wr) (fun _ _ _ i _ => l.length - (intOf i).toNat)
    case atStart => exact ⟨0, [], none, 0, false, false, by omega, by omega, rfl, rfl, chk_nil, rfl, rfl, has_nil _ _ _, has_nil _ _ _, GQ.nil, Below.refl _ _⟩
    case round =>
      obtain ⟨j, G, A', c', R1, R2, hj1, hj2, rfl, rfl, HC, rfl, rfl, HR1, HR2, HQ, hbw⟩ := hrel
      obtain ⟨W, rfl⟩ : ∃ W, W = wr := ⟨_, rfl⟩
      have hzw := hbw.size
      have hnw : Below w.heap.size w W := hn2.trans (hbw.mono hn2.size)
      by_cases hlt : j < l.length ∧ j < 30
      · obtain ⟨hlt, h30⟩ := hlt
        obtain ⟨b, off, s, p, hA, hbB, hv, hbig, hrg, hQs⟩ := (HD.out W hnw hnw.size).at_ hlt
        subst hA
        obtain ⟨hshort, hname⟩ := chk_short HC.out
        have HF := Lib.hid (few5_any s p W hbig hQs)
        obtain ⟨X, hX⟩ : ∃ X, s.few = X := ⟨_, rfl⟩
        rw [hX] at HF
        have HRG := Lib.hid hrg
        have HNA := Lib.hid hname
        have i1 : (0 : Int) ≤ (j : Int) := by omega
        have i2 : (j : Int) < (l.length : Int) := by omega
        obtain ⟨NG, hNG⟩ : ∃ n, G.length = n := ⟨_, rfl⟩
        have HNG := Lib.hid hNG
        rw [hNG] at hshort ⊢
        clear hv hbig hQs hX hrg hname hNG
        go_upto_region 7 with fail
        go_wp2_with (first | refine wpList_load_mid rfl 34 _ rfl b (off + j * 23) rfl (s.cells p) _ HRG.out Tryz.underlying34 rfl size_st ?_ | fail)
        refine HF.out.mono ?_
        rintro en w3 ⟨pX, rfl, okX, hQX, hb3⟩
        have hz3 := hb3.size
        obtain ⟨w4, hw4⟩ : ∃ w4, w3.alloc (.cells (X.cells pX).toArray 34) = w4 := ⟨_, rfl⟩
        have k4 : Blk w4 w3.heap.size 34 (X.cells pX).toArray := by rw [← hw4]; exact Blk.new _ _ _
        have hb4 : Below w3.heap.size w3 w4 := by rw [← hw4]; exact (Below.refl _ _).alloc (Nat.le_refl _) _
        have HW4 := Lib.hid hw4
        clear hw4
        go_upto_region 8 with (refine wpList_store_row rfl 34 _ _ rfl _ (X.cells pX).toArray rfl rfl 34 _ (heap_alloc_last _ _) size_st rfl (one_st X pX) ?_)
        rw [show World.setRow _ _ _ = w4 from (World.setRow_alloc_new _ _ _ _).trans HW4.out]
        have hz4 := hb4.size
        have hc4 : Below W.heap.size W w4 := hb3.trans (hb4.mono hz3)
        have hlt4 : w3.heap.size < w4.heap.size := k4.lt
        have hQX4 : StQ 1000 X pX (Old w4.heap.size) w4 := hQX.keep fun b hb => ⟨Nat.lt_of_lt_of_le hb.2 hz4, fun o => hb4.cell (p := ⟨b, o, none⟩) hb.2⟩
        have HDO := Lib.hid (do_any A' c' G X pX w4 (by have := HNG.out; omega) HNA.out (HQ.out.keep (old_keep hc4 hc4.size)) okX hQX4 (HEV.out w4 (hnw.trans (hc4.mono hnw.size))))
        obtain ⟨r, hr⟩ : ∃ r, doG G X = r := ⟨_, rfl⟩
        have HD1 : Hid (doG G X = r) := hr
        rw [hr] at HDO
        obtain ⟨L, e⟩ := r
        rw [HNG.out] at HDO
        clear HW4 HF HRG okX hQX hQX4 hr hb3 hb4
        go_wp2_with (refine wpList_load_rowG (by rfl) 34 _ rfl (w3.heap.size) rfl 34 (X.cells pX).toArray (0, 0) _ (k4) Tryz.underlying34 rfl size_st ?_)
        refine HDO.out.mono ?_
        rintro en w5 ⟨sv, rfl, hown, hb5⟩
        dsimp only at hown ⊢
        obtain ⟨A5, c5, rfl, -, -, hQ5⟩ := GQ.own hown
        have hz5 := hb5.size
        have hc5 : Below w2.heap.size w2 w5 := hbw.trans (Below.mono (hc4.trans (hb5.mono hc4.size)) hzw)
        have k5 := k4.below hb5 hlt4
        have x0 : w5.cell? ⟨w3.heap.size, 0, none⟩ = some (.string ⟨X.op.toArray⟩) := k5.cell 0
        have x1 : w5.cell? ⟨w3.heap.size, 1, none⟩ = some (.string ⟨X.tb.toArray⟩) := k5.cell 1
        have x2 : w5.cell? ⟨w3.heap.size, 22, none⟩ = some (.string ⟨X.role.toArray⟩) := k5.cell 22
        by_cases he : e = 0
        case neg =>
          have e1 : (e != 0) = true := by simpa using he
          obtain rfl : L = [] := by have := doG_err G X (by rw [HD1.out]; exact he); rw [HD1.out] at this; exact this
          have hcw5 : Below w2.heap.size w2 w5 := hc5
          have HQ' : Hid (GQ G A' (Old w5.heap.size) w5) := HQ.out.keep (old_keep (hc4.trans (hb5.mono hc4.size)) (hc4.trans (hb5.mono hc4.size)).size)
          clear HDO hown hQ5 k4 k5 x0 x1 x2 HQ he HD1 hc5
          go_wp2_with fail
          go_roundw
          case rel => exact ⟨j + 1, G, A', c', R1, R2, by omega, by omega, by go_num, by rw [HNG.out], HC, rfl, rfl, HR1, HR2, HQ', hcw5⟩
          case measure => simp [intOf]; omega
        subst he
        have hd2 : (doG G X).2 = 0 := by rw [HD1.out]
        have HCL : Hid (chkG L = 0) := by have := doG_chk G X hd2; rw [HD1.out] at this; exact this
        have HQL : Hid (GQ L A5 (Old w5.heap.size) w5) := hQ5.keep fun b hb => ⟨hb.2, fun o => rfl⟩
        have hcw5 : Below w2.heap.size w2 w5 := hc5
        by_cases hro : X.role = TR
        case neg =>
          have e2 : (X.role == TR) = false := beq_eq_false_iff_ne.2 hro
          have n1 := has_other G X hd2 TR TT false (fun h => hro h.1)
          have n2 := has_other G X hd2 TR TT true (fun h => hro h.1)
          rw [HD1.out, HR1.out] at n1
          rw [HD1.out, HR2.out] at n2
          have N1 : Hid (hasG L TR TT false = R1) := n1
          have N2 : Hid (hasG L TR TT true = R2) := n2
          clear HDO hown hQ5 k4 k5 x0 x1 HQ HD1 hc5 n1 n2 hd2 hro
          go_wp2_with fail
          go_roundw
          case rel => exact ⟨j + 1, L, A5, c5, R1, R2, by omega, by omega, by go_num, rfl, HCL, rfl, rfl, N1, N2, HQL, hcw5⟩
          case measure => simp [intOf]; omega
        rw [hro] at x2
        by_cases hta : X.tb = TT
        case neg =>
          have e2 : (X.tb == TT) = false := beq_eq_false_iff_ne.2 hta
          have n1 := has_other G X hd2 TR TT false (fun h => hta h.2)
          have n2 := has_other G X hd2 TR TT true (fun h => hta h.2)
          rw [HD1.out, HR1.out] at n1
          rw [HD1.out, HR2.out] at n2
          have N1 : Hid (hasG L TR TT false = R1) := n1
          have N2 : Hid (hasG L TR TT true = R2) := n2
          clear HDO hown hQ5 k4 k5 x0 HQ HD1 hc5 n1 n2 hd2 hro hta
          go_wp2_with fail
          go_roundw
          case rel => exact ⟨j + 1, L, A5, c5, R1, R2, by omega, by omega, by go_num, rfl, HCL, rfl, rfl, N1, N2, HQL, hcw5⟩
          case measure => simp [intOf]; omega
        rw [hta] at x1
        rcases doG_op G X hd2 with ho | ho | ho | ho
        · rw [ho] at x0
          unfold oRead at x0
          obtain ⟨n1, n2⟩ := has_read G X hd2 TR TT hro hta ho
          rw [HD1.out] at n1
          rw [HD1.out, HR2.out] at n2
          have N1 : Hid (hasG L TR TT false = true) := n1
          have N2 : Hid (hasG L TR TT true = R2) := n2
          clear HDO hown hQ5 k4 k5 HQ HD1 hc5 n1 n2 hd2 hro hta ho
          go_wp2_with fail
          go_roundw
          case rel => exact ⟨j + 1, L, A5, c5, true, R2, by omega, by omega, by go_num, rfl, HCL, rfl, rfl, N1, N2, HQL, hcw5⟩
          case measure => simp [intOf]; omega
        · rw [ho] at x0
          unfold oWrite at x0
          obtain ⟨n2, n1⟩ := has_write G X hd2 TR TT hro hta ho
          rw [HD1.out, HR1.out] at n1
          rw [HD1.out] at n2
          have N1 : Hid (hasG L TR TT false = R1) := n1
          have N2 : Hid (hasG L TR TT true = true) := n2
          clear HDO hown hQ5 k4 k5 HQ HD1 hc5 n1 n2 hd2 hro hta ho
          go_wp2_with fail
          go_roundw
          case rel => exact ⟨j + 1, L, A5, c5, R1, true, by omega, by omega, by go_num, rfl, HCL, rfl, rfl, N1, N2, HQL, hcw5⟩
          case measure => simp [intOf]; omega
        · rw [ho] at x0
          unfold oUnread at x0
          obtain ⟨n1, n2⟩ := has_unread G X hd2 TR TT hro hta ho
          rw [HD1.out] at n1
          rw [HD1.out, HR2.out] at n2
          have N1 : Hid (hasG L TR TT false = false) := n1
          have N2 : Hid (hasG L TR TT true = R2) := n2
          clear HDO hown hQ5 k4 k5 HQ HD1 hc5 n1 n2 hd2 hro hta ho
          go_wp2_with fail
          go_roundw
          case rel => exact ⟨j + 1, L, A5, c5, false, R2, by omega, by omega, by go_num, rfl, HCL, rfl, rfl, N1, N2, HQL, hcw5⟩
          case measure => simp [intOf]; omega
        · rw [ho] at x0
          unfold oUnwrite at x0
          obtain ⟨n2, n1⟩ := has_unwrite G X hd2 TR TT hro hta ho
          rw [HD1.out, HR1.out] at n1
          rw [HD1.out] at n2
          have N1 : Hid (hasG L TR TT false = R1) := n1
          have N2 : Hid (hasG L TR TT true = false) := n2
          clear HDO hown hQ5 k4 k5 HQ HD1 hc5 n1 n2 hd2 hro hta ho
          go_wp2_with fail
          go_roundw
          case rel => exact ⟨j + 1, L, A5, c5, R1, false, by omega, by omega, by go_num, rfl, HCL, rfl, rfl, N1, N2, HQL, hcw5⟩
          case measure => simp [intOf]; omega
      · have hnd : ¬ (j < l.length) ∨ (j < l.length ∧ ¬ (j < 30)) := by omega
        rcases hnd with h1 | ⟨h1, h30⟩
        · have i2 : ¬ ((j : Int) < (l.length : Int)) := by omega
          clear hlt
          go_wp2_with fail
          go_meet
          exact ⟨G, A', c', R1, R2, rfl, HC, rfl, rfl, HR1, HR2, HQ, hbw⟩
        · have i2 : (j : Int) < (l.length : Int) := by omega
          have i3 : ¬ ((j : Int) < 30) := by omega
          clear hlt
          go_wp2_with fail
          go_meet
          exact ⟨G, A', c', R1, R2, rfl, HC, rfl, rfl, HR1, HR2, HQ, hbw⟩
  obtain ⟨G, A', c', R1, R2, rfl, HC, rfl, rfl, HR1, HR2, HQ, hbK⟩ := hcut
  obtain ⟨wk, rfl⟩ : ∃ W, W = wc := ⟨_, rfl⟩
  have hnK : Below w.heap.size w wk := hn2.trans (hbK.mono hn2.size)
  obtain ⟨hshort, hname⟩ := chk_short HC.out
  obtain ⟨n, hn⟩ : ∃ n, G.length = n := ⟨_, rfl⟩
  have HN : Hid (G.length = n) := hn
  rw [hn]
  by_cases hra : TR = adminT
  case pos =>
    have HAW := Lib.hid (awake9_any wk (HEV.out wk hnK))
    have e1 : TR = [97, 100, 109, 105, 110] := hra
    subst e1
    clear hra hn HN HR1 HR2 HD HC HQ
    go_wp2_with fail
    refine HAW.out.mono ?_
    rintro en wz ⟨rfl, hbz⟩
    go_wp2_with fail
    go_ret
    exact ⟨rfl, hnK.trans (hbz.mono hnK.size)⟩
  have HCK : Hid (∀ Z : World, Below wk.heap.size wk Z → Calls Tryz.prog 20 #[.slice A' n c'] Z (Ret (.int .i64 0) Z)) := fun Z hz => by
    have := checkG_any A' c' G Z (by have := HN.out; omega) hname (HQ.out.keep (old_keep hz hz.size))
    rw [HC.out, HN.out] at this
    exact this
  have H1 : Hid (∀ Z : World, Below wk.heap.size wk Z → Calls Tryz.prog 18 #[.slice A' n c', .string ⟨TR.toArray⟩, .agg #[.string ⟨#[115, 101, 108, 101, 99, 116]⟩, .string ⟨TT.toArray⟩, .string ⟨#[]⟩, .slice none 0 0, .slice none 0 0, .string ⟨#[]⟩, .slice none 0 0, .slice none 0 0, .string ⟨#[]⟩, .int .i64 0, .int .i64 0, .string ⟨#[]⟩, .string ⟨#[]⟩, .slice none 0 0, .slice none 0 0, .slice none 0 0, .string ⟨#[]⟩, .int .i64 0, .int .i64 0, .string ⟨#[]⟩, .string ⟨#[]⟩, .slice none 0 0, .string ⟨#[]⟩]] Z (Ret (.bool R1) Z)) := fun Z hz => by
    have := mayG_any A' c' G TR (stZ oSelect TT) stPZ Z (by have := HN.out; omega) hname (HQ.out.keep (old_keep hz hz.size))
    rw [show mayG G TR (stZ oSelect TT).op (stZ oSelect TT).tb = R1 from (may_select G TR TT HC.out hra).trans (by exact HR1.out), HN.out] at this
    exact this
  have H2 : Hid (∀ Z : World, Below wk.heap.size wk Z → Calls Tryz.prog 18 #[.slice A' n c', .string ⟨TR.toArray⟩, .agg #[.string ⟨#[100, 101, 108, 101, 116, 101]⟩, .string ⟨TT.toArray⟩, .string ⟨#[]⟩, .slice none 0 0, .slice none 0 0, .string ⟨#[]⟩, .slice none 0 0, .slice none 0 0, .string ⟨#[]⟩, .int .i64 0, .int .i64 0, .string ⟨#[]⟩, .string ⟨#[]⟩, .slice none 0 0, .slice none 0 0, .slice none 0 0, .string ⟨#[]⟩, .int .i64 0, .int .i64 0, .string ⟨#[]⟩, .string ⟨#[]⟩, .slice none 0 0, .string ⟨#[]⟩]] Z (Ret (.bool (R1 && R2)) Z)) := fun Z hz => by
    have := mayG_any A' c' G TR (stZ oDelete TT) stPZ Z (by have := HN.out; omega) hname (HQ.out.keep (old_keep hz hz.size))
    rw [show mayG G TR (stZ oDelete TT).op (stZ oDelete TT).tb = (R1 && R2) from (may_delete G TR TT HC.out hra).trans (by rw [HR1.out, HR2.out]), HN.out] at this
    exact this
  have H3 : Hid (∀ Z : World, Below wk.heap.size wk Z → Calls Tryz.prog 18 #[.slice A' n c', .string ⟨TR.toArray⟩, .agg #[.string ⟨#[100, 114, 111, 112]⟩, .string ⟨TT.toArray⟩, .string ⟨#[]⟩, .slice none 0 0, .slice none 0 0, .string ⟨#[]⟩, .slice none 0 0, .slice none 0 0, .string ⟨#[]⟩, .int .i64 0, .int .i64 0, .string ⟨#[]⟩, .string ⟨#[]⟩, .slice none 0 0, .slice none 0 0, .slice none 0 0, .string ⟨#[]⟩, .int .i64 0, .int .i64 0, .string ⟨#[]⟩, .string ⟨#[]⟩, .slice none 0 0, .string ⟨#[]⟩]] Z (Ret (.bool false) Z)) := fun Z hz => by
    have := mayG_any A' c' G TR (stZ oDrop TT) stPZ Z (by have := HN.out; omega) hname (HQ.out.keep (old_keep hz hz.size))
    rw [show mayG G TR (stZ oDrop TT).op (stZ oDrop TT).tb = false from (may_drop G TR TT HC.out hra).trans (by rfl), HN.out] at this
    exact this
  have e1 : (TR == [97, 100, 109, 105, 110]) = false := beq_eq_false_iff_ne.2 hra
  clear hra hn hname HR1 HR2 HD
  go_wp2_with fail
  refine (HCK.out _ (Below.refl _ _)).mono ?_
  rintro en w3 ⟨rfl, hb3⟩
  have hz3 := hb3.size
  cases R1 <;> cases R2
  all_goals
    go_wp2_with fail
    refine (H1.out _ (by exact bl)).mono ?_
    rintro en wa ⟨rfl, hba⟩
    have hza := hba.size
    go_wp2_with fail
    refine (H2.out _ (by exact bl)).mono ?_
    rintro en wb ⟨rfl, hbb⟩
    have hzb := hbb.size
    go_wp2_with fail
    refine (H3.out _ (by exact bl)).mono ?_
    rintro en wc ⟨rfl, hbc⟩
    have hzc := hbc.size
    have hnc : Below w.heap.size w wc := hnK.trans (Below.mono (B := wk.heap.size) (by exact bl) hnK.size)
    have HAW := Lib.hid (awake9_any wc (HEV.out wc hnc))
    go_wp2_with fail
    refine HAW.out.mono ?_
    rintro en wz ⟨rfl, hbz⟩
    go_wp2_with fail
    go_ret
    exact ⟨rfl, hnc.trans (hbz.mono hnc.size)⟩

end Go.Proofs.YtchilcchogcibaaGreatDoor
