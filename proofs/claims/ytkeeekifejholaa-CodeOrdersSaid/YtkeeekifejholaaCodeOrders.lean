/- caddislaw02.CodeOrders answers true, whatever two rows it is handed: octets stand in the order of values and of rows of as many values. No condition beyond the row's own. -/
import Derived.Test.YtkeeekifejholaaOrderLaw
import Derived.Test.YtkeeekifejholaaCodeApart
import Derived.Deep.RegionHeld3
namespace Go.Proofs.Ytkeeekifejholaa
open Go.RowKit

attribute [local go_sem] ByteArray.extract_mk ba_get ba_append
attribute [local go_sem ↓] Go.wp_at_zero Go.wp_at_succ

theorem row_n (A : Option Addr) (c n : Nat) (l : List V) (hn : l.length = n) (w : World) (hl : l.length ≤ maxLen) (hwf : ∀ v ∈ l, v.wf) (h : VS w w.heap.size A l) :
    Calls Try.prog 12 #[.slice A n c] w (Ret (.tuple #[.string ⟨(rowS l).toArray⟩, .int .i64 (rowE l)]) w) := by
  subst hn; exact row_any A c l w hl hwf h
theorem order_n (A B : Option Addr) (c d n m : Nat) (a b : List V) (hn : a.length = n) (hm : b.length = m) (w : World) (ha : a.length ≤ maxLen) (hb : b.length ≤ maxLen) (wa : ∀ v ∈ a, v.wf) (wb : ∀ v ∈ b, v.wf) (hA : VS w w.heap.size A a) (hB : VS w w.heap.size B b) :
    Calls Try.prog 14 #[.slice A n c, .slice B m d] w (Ret (.int .i64 (rowOrd a b)) w) := by
  subst hn hm; exact order_any A B c d a b w ha hb wa wb hA hB


set_option maxRecDepth 100000 in
set_option maxHeartbeats 1000000 in
theorem codeOrders_walk (A B : Option Addr) (c d : Nat) (a b : List V) (w : World) (hA : VS w w.heap.size A a) (hB : VS w w.heap.size B b) (ha : a.length ≤ maxLen) (hb : b.length ≤ maxLen) (oa : ∀ v ∈ a, v.ok) (ob : ∀ v ∈ b, v.ok) :
    Calls Try.prog 3 #[.slice A a.length c, .slice B b.length d] w (Ret (.bool true) w) := by
  have wa := Lib.hid (few_wf a oa)
  have wb := Lib.hid (few_wf b ob)
  have ra := Lib.hid (few_rng a oa)
  have rb := Lib.hid (few_rng b ob)
  have la := few_len a
  have lb := few_len b
  clear oa ob
  go_enter Try.func3, Try.ntmps3
  go_wp2_with fail
  refine (few_any A c a _ ha hA).mono ?_
  rintro e w1 ⟨A1, c1, rfl, hc1, hm1, hv1, hb1⟩
  have hz1 := hb1.size
  have hB1 := (hB.below hb1).more hz1
  go_wp2_with fail
  refine (few_any B d b _ hb hB1).mono ?_
  rintro e w2 ⟨B1, d1, rfl, hd1, hn1, hu0, hb2⟩
  have hu1 := hu0.vs (Nat.le_refl _)
  have hz2 := hb2.size
  have hv2 := ((hv1.vs (Nat.le_refl _)).below hb2).more hz2
  clear hA hB hB1 hv1
  generalize fewL a = x at *
  generalize fewL b = y at *
  by_cases hgt : y.length < x.length
  · go_wp2_with fail
    obtain ⟨N, hN⟩ : ∃ N, y.length = N := ⟨_, rfl⟩
    obtain ⟨X, hXd⟩ : ∃ X, X = x.take N := ⟨_, rfl⟩
    obtain ⟨Y, hYd⟩ : ∃ Y, Y = y.take N := ⟨_, rfl⟩
    rw [hN] at lb hgt hd1 ⊢
    have hX : X.length = N := by rw [hXd, List.length_take]; omega
    have hY : Y.length = N := by rw [hYd, List.length_take]; omega
    have wX : Hid (∀ v ∈ X, v.wf) := fun v hv => wa.out v (by rw [hXd] at hv; exact List.mem_of_mem_take hv)
    have wY : Hid (∀ v ∈ Y, v.wf) := fun v hv => wb.out v (by rw [hYd] at hv; exact List.mem_of_mem_take hv)
    have rX : Hid (∀ v ∈ X, v.rng) := fun v hv => ra.out v (by rw [hXd] at hv; exact List.mem_of_mem_take hv)
    have rY : Hid (∀ v ∈ Y, v.rng) := fun v hv => rb.out v (by rw [hYd] at hv; exact List.mem_of_mem_take hv)
    have vX : VS w2 w2.heap.size A1 X := by rw [hXd]; exact hv2.take N
    have vY : VS w2 w2.heap.size B1 Y := by rw [hYd]; exact hu1.take N
    have mX : X.length ≤ maxLen := by unfold maxLen; omega
    have mY : Y.length ≤ maxLen := by unfold maxLen; omega
    have HX := Lib.hid hX
    have HY := Lib.hid hY
    have MX := Lib.hid mX
    have MY := Lib.hid mY
    clear hX hY hXd hYd wa wb ra rb hv2 hu1 mX mY
    refine (row_n A1 c1 N X HX.out _ MX.out wX.out vX).mono ?_
    rintro e w3 ⟨rfl, hb3⟩
    have hz3 := hb3.size
    have vX3 := (vX.below hb3).more hz3
    have vY3 := (vY.below hb3).more hz3
    go_wp2_with fail
    refine (row_n B1 d1 N Y HY.out _ MY.out wY.out vY3).mono ?_
    rintro e w4 ⟨rfl, hb4⟩
    have hz4 := hb4.size
    have vX4 := (vX3.below hb4).more hz4
    have vY4 := (vY3.below hb4).more hz4
    clear vX vY vX3 vY3
    cases h1 : rowOk X
    · have e1 : (rowE X != 0) = true := by rw [rowE_eq, h1]; rfl
      clear h1
      go_wp2_with fail
      refine (awake2_any _).mono ?_
      rintro e w5 ⟨rfl, hb5⟩
      go_wp2
      go_ret
      exact ⟨rfl, by ((repeat' (first | with_reducible exact Below.refl _ _ | with_reducible assumption | with_reducible refine Below.drew ?_ | with_reducible refine below_drewN ?_ _ | with_reducible refine Below.setCell ?_ ?_ _ | with_reducible refine Below.alloc ?_ ?_ _ | with_reducible refine Below.trans ?_ (Below.mono (by assumption) ?_))) <;> (first | (simp; done) | (simp; omega) | omega))⟩
    · have e1 : (rowE X != 0) = false := by rw [rowE_eq, h1]; rfl
      cases h2 : rowOk Y
      · have e2 : (rowE Y != 0) = true := by rw [rowE_eq, h2]; rfl
        clear h1 h2
        go_wp2_with fail
        refine (awake2_any _).mono ?_
        rintro e w5 ⟨rfl, hb5⟩
        go_wp2
        go_ret
        exact ⟨rfl, by ((repeat' (first | with_reducible exact Below.refl _ _ | with_reducible assumption | with_reducible refine Below.drew ?_ | with_reducible refine below_drewN ?_ _ | with_reducible refine Below.setCell ?_ ?_ _ | with_reducible refine Below.alloc ?_ ?_ _ | with_reducible refine Below.trans ?_ (Below.mono (by assumption) ?_))) <;> (first | (simp; done) | (simp; omega) | omega))⟩
      · have e2 : (rowE Y != 0) = false := by rw [rowE_eq, h2]; rfl
        obtain ⟨g1, g2⟩ := row_order X Y (HX.out.trans HY.out.symm) h1 h2 rX.out rY.out
        have M1 := Lib.hid (List.all_eq_true.1 (rowOk_all h1))
        have M2 := Lib.hid (List.all_eq_true.1 (rowOk_all h2))
        have G1 := Lib.hid g1
        have G2 := Lib.hid g2
        clear h1 h2 g1 g2
        go_wp2_with fail
        refine (order_n A1 B1 c1 d1 N N X Y HX.out HY.out _ MX.out MY.out wX.out wY.out vX4 vY4).mono ?_
        rintro e w5 ⟨rfl, hb5⟩
        have hz5 := hb5.size
        have vX5 := (vX4.below hb5).more hz5
        have vY5 := (vY4.below hb5).more hz5
        have g1 := G1.out
        have g2 := G2.out
        have hbw5 : Below w.heap.size w w5 := by ((repeat' (first | with_reducible exact Below.refl _ _ | with_reducible assumption | with_reducible refine Below.drew ?_ | with_reducible refine below_drewN ?_ _ | with_reducible refine Below.setCell ?_ ?_ _ | with_reducible refine Below.alloc ?_ ?_ _ | with_reducible refine Below.trans ?_ (Below.mono (by assumption) ?_))) <;> (first | (simp; done) | (simp; omega) | omega))
        clear vX4 vY4 hb1 hb2 hb3 hb4 hb5
        generalize rowOrd X Y = O at *
        have hz0 : w.heap.size ≤ w5.heap.size := by omega
        clear hz1 hz2 hz3 hz4 hz5
        go_wp2
        go_loopg [10] N (fun gk t wr => ∃ j : Nat, j + gk = N ∧ t = .int .i64 j ∧ Below w5.heap.size w5 wr)
        case atStart => exact ⟨0, by omega, rfl, Below.refl _ _⟩
        case round =>
          obtain ⟨j, hj, rfl, hbr⟩ := hrel
          have HJ := Lib.hid hj
          have hzr := hbr.size
          by_cases hlt : j < N
          · obtain ⟨b1, o1, v, rfl, hbB1, hv, p0, p1, p2⟩ := (vX5.below hbr).at_ (j := j) (by have := HX.out; omega)
            obtain ⟨b2, o2, v', rfl, hbB2, hv', q0, q1, q2⟩ := (vY5.below hbr).at_ (j := j) (by have := HY.out; omega)
            have mv := List.mem_of_getElem? hv
            have mv' := List.mem_of_getElem? hv'
            have W1 := Lib.hid (wX.out v mv)
            have W2 := Lib.hid (wY.out v' mv')
            obtain ⟨u1, u2⟩ := value_order v v' (M1.out v mv) (M2.out v' mv') (rX.out v mv) (rY.out v' mv')
            have U1 := Lib.hid u1
            have U2 := Lib.hid u2
            have i1 : (0 : Int) ≤ (j : Int) := by omega
            have i2 : (j : Int) < (N : Int) := by omega
            have l1 : b1 < wr.heap.size := by omega
            have l2 : b2 < wr.heap.size := by omega
            obtain ⟨g', rfl⟩ : ∃ g', gk = g' + 1 := ⟨gk - 1, by omega⟩
            clear hv hv' mv mv' u1 u2 hj g1 g2
            go_upto_region 15 with fail
            go_cut [11, 12] (fun s11 s12 wx => s11 = .string ⟨v.code.toArray⟩ ∧ s12 = .string ⟨v'.code.toArray⟩ ∧ Below wr.heap.size wr wx)
            case first =>
              go_region_held3 (fun w' => w'.cell? ⟨b1, o1 + j * 3, none⟩ = some (.int .i64 v.k) ∧ w'.cell? ⟨b1, o1 + j * 3 + 1, none⟩ = some (.int .i64 v.i) ∧ w'.cell? ⟨b1, o1 + j * 3 + 2, none⟩ = some (.string ⟨v.s.toArray⟩) ∧ w'.cell? ⟨b2, o2 + j * 3, none⟩ = some (.int .i64 v'.k) ∧ w'.cell? ⟨b2, o2 + j * 3 + 1, none⟩ = some (.int .i64 v'.i) ∧ w'.cell? ⟨b2, o2 + j * 3 + 2, none⟩ = some (.string ⟨v'.s.toArray⟩))
                (first | go_keep)
                (first | (go_at_call_of 15 (Value.agg #[.int .i64 v.k, .int .i64 v.i, .string ⟨v.s.toArray⟩]); refine (cvalue_any _ _ _ _ W1.out.2.1.1 W1.out.2.1.2).mono ?_; rintro e w6 ⟨rfl, hb6⟩; obtain ⟨hc6, hf6⟩ := bcell hb6; have hz6 := hb6.size; (try simp at hz6 hc6 hf6); have l6 : b1 < w6.heap.size := (by omega); have l7 : b2 < w6.heap.size := (by omega)) | (go_at_call_of 15 (Value.agg #[.int .i64 v'.k, .int .i64 v'.i, .string ⟨v'.s.toArray⟩]); refine (cvalue_any _ _ _ _ W2.out.2.1.1 W2.out.2.1.2).mono ?_; rintro e w7 ⟨rfl, hb7⟩; obtain ⟨hc7, hf7⟩ := bcell hb7; have hz7 := hb7.size; (try simp at hz7 hc7 hf7); have l8 : b1 < w7.heap.size := (by omega); have l9 : b2 < w7.heap.size := (by omega)))
              all_goals (go_wp2_with fail; go_meet)
              all_goals refine ⟨rfl, rfl, ?_⟩
              all_goals ((repeat' (first | with_reducible exact Below.refl _ _ | with_reducible assumption | with_reducible refine Below.drew ?_ | with_reducible refine below_drewN ?_ _ | with_reducible refine Below.setCell ?_ ?_ _ | with_reducible refine Below.alloc ?_ ?_ _ | with_reducible refine Below.trans ?_ (Below.mono (by assumption) ?_))) <;> (first | (simp; done) | (simp; omega) | omega))
            case rest =>
              obtain ⟨rfl, rfl, hbx⟩ := hcut
              have hzx := hbx.size
              have P0 := (hbx.cell (p := ⟨b1, o1 + j * 3, none⟩) l1).trans p0
              have P1 := (hbx.cell (p := ⟨b1, o1 + j * 3 + 1, none⟩) l1).trans p1
              have P2 := (hbx.cell (p := ⟨b1, o1 + j * 3 + 2, none⟩) l1).trans p2
              have Q0 := (hbx.cell (p := ⟨b2, o2 + j * 3, none⟩) l2).trans q0
              have Q1 := (hbx.cell (p := ⟨b2, o2 + j * 3 + 1, none⟩) l2).trans q1
              have Q2 := (hbx.cell (p := ⟨b2, o2 + j * 3 + 2, none⟩) l2).trans q2
              have l3 : b1 < wc.heap.size := by omega
              have l4 : b2 < wc.heap.size := by omega
              obtain ⟨O', hO'⟩ : ∃ O', V.ord v v' = O' := ⟨_, rfl⟩
              have HO' := Lib.hid hO'
              clear hO' p0 p1 p2 q0 q1 q2 l1 l2
              go_upto_region 16 with fail
              go_cut [13] (fun s13 wx => s13 = .int .i64 O' ∧ Below wc.heap.size wc wx)
              case first =>
                go_region_held3 (fun w' => w'.cell? ⟨b1, o1 + j * 3, none⟩ = some (.int .i64 v.k) ∧ w'.cell? ⟨b1, o1 + j * 3 + 1, none⟩ = some (.int .i64 v.i) ∧ w'.cell? ⟨b1, o1 + j * 3 + 2, none⟩ = some (.string ⟨v.s.toArray⟩) ∧ w'.cell? ⟨b2, o2 + j * 3, none⟩ = some (.int .i64 v'.k) ∧ w'.cell? ⟨b2, o2 + j * 3 + 1, none⟩ = some (.int .i64 v'.i) ∧ w'.cell? ⟨b2, o2 + j * 3 + 2, none⟩ = some (.string ⟨v'.s.toArray⟩))
                  (first | go_keep)
                  (first | (go_at_call 16; refine (rorder_any _ _ _ _ _ _ _ W1.out.2.2 W2.out.2.2).mono ?_; rintro e w8 ⟨rfl, hb8⟩; obtain ⟨hc8, hf8⟩ := bcell hb8; have hz8 := hb8.size; (try simp at hz8 hc8 hf8)))
                all_goals (go_wp2_with fail; go_meet)
                all_goals refine ⟨by rw [← HO'.out]; rfl, ?_⟩
                all_goals ((repeat' (first | with_reducible exact Below.refl _ _ | with_reducible assumption | with_reducible refine Below.drew ?_ | with_reducible refine below_drewN ?_ _ | with_reducible refine Below.setCell ?_ ?_ _ | with_reducible refine Below.alloc ?_ ?_ _ | with_reducible refine Below.trans ?_ (Below.mono (by assumption) ?_))) <;> (first | (simp; done) | (simp; omega) | omega))
              case rest =>
                obtain ⟨rfl, hby⟩ := hcut
                have u1 := U1.out
                have u2 := U2.out
                rw [HO'.out] at u1 u2
                have hfin : Below w5.heap.size w5 wc := by ((repeat' (first | with_reducible exact Below.refl _ _ | with_reducible assumption | with_reducible refine Below.drew ?_ | with_reducible refine below_drewN ?_ _ | with_reducible refine Below.setCell ?_ ?_ _ | with_reducible refine Below.alloc ?_ ?_ _ | with_reducible refine Below.trans ?_ (Below.mono (by assumption) ?_))) <;> (first | (simp; done) | (simp; omega) | omega))
                clear P0 P1 P2 Q0 Q1 Q2 hbx HO'
                generalize v.code = s1 at *
                generalize v'.code = s2 at *
                go_wp2
                go_roundg g'
                case measure => omega
                case rel => exact ⟨j + 1, by have := HJ.out; omega, by go_num, by ((repeat' (first | with_reducible exact Below.refl _ _ | with_reducible assumption | with_reducible refine Below.drew ?_ | with_reducible refine below_drewN ?_ _ | with_reducible refine Below.setCell ?_ ?_ _ | with_reducible refine Below.alloc ?_ ?_ _ | with_reducible refine Below.trans ?_ (Below.mono (by assumption) ?_))) <;> (first | (simp; done) | (simp; omega) | omega))⟩
          · clear g1 g2
            go_wp2_with fail
            refine (awake2_any _).mono ?_
            rintro e w9 ⟨rfl, hb9⟩
            go_wp2
            go_ret
            exact ⟨rfl, by ((repeat' (first | with_reducible exact Below.refl _ _ | with_reducible assumption | with_reducible refine Below.drew ?_ | with_reducible refine below_drewN ?_ _ | with_reducible refine Below.setCell ?_ ?_ _ | with_reducible refine Below.alloc ?_ ?_ _ | with_reducible refine Below.trans ?_ (Below.mono (by assumption) ?_))) <;> (first | (simp; done) | (simp; omega) | omega))⟩
  · go_wp2_with fail
    obtain ⟨N, hN⟩ : ∃ N, x.length = N := ⟨_, rfl⟩
    obtain ⟨X, hXd⟩ : ∃ X, X = x.take N := ⟨_, rfl⟩
    obtain ⟨Y, hYd⟩ : ∃ Y, Y = y.take N := ⟨_, rfl⟩
    rw [hN] at la hgt hc1 ⊢
    have hX : X.length = N := by rw [hXd, List.length_take]; omega
    have hY : Y.length = N := by rw [hYd, List.length_take]; omega
    have wX : Hid (∀ v ∈ X, v.wf) := fun v hv => wa.out v (by rw [hXd] at hv; exact List.mem_of_mem_take hv)
    have wY : Hid (∀ v ∈ Y, v.wf) := fun v hv => wb.out v (by rw [hYd] at hv; exact List.mem_of_mem_take hv)
    have rX : Hid (∀ v ∈ X, v.rng) := fun v hv => ra.out v (by rw [hXd] at hv; exact List.mem_of_mem_take hv)
    have rY : Hid (∀ v ∈ Y, v.rng) := fun v hv => rb.out v (by rw [hYd] at hv; exact List.mem_of_mem_take hv)
    have vX : VS w2 w2.heap.size A1 X := by rw [hXd]; exact hv2.take N
    have vY : VS w2 w2.heap.size B1 Y := by rw [hYd]; exact hu1.take N
    have mX : X.length ≤ maxLen := by unfold maxLen; omega
    have mY : Y.length ≤ maxLen := by unfold maxLen; omega
    have HX := Lib.hid hX
    have HY := Lib.hid hY
    have MX := Lib.hid mX
    have MY := Lib.hid mY
    clear hX hY hXd hYd wa wb ra rb hv2 hu1 mX mY
    refine (row_n A1 c1 N X HX.out _ MX.out wX.out vX).mono ?_
    rintro e w3 ⟨rfl, hb3⟩
    have hz3 := hb3.size
    have vX3 := (vX.below hb3).more hz3
    have vY3 := (vY.below hb3).more hz3
    go_wp2_with fail
    refine (row_n B1 d1 N Y HY.out _ MY.out wY.out vY3).mono ?_
    rintro e w4 ⟨rfl, hb4⟩
    have hz4 := hb4.size
    have vX4 := (vX3.below hb4).more hz4
    have vY4 := (vY3.below hb4).more hz4
    clear vX vY vX3 vY3
    cases h1 : rowOk X
    · have e1 : (rowE X != 0) = true := by rw [rowE_eq, h1]; rfl
      clear h1
      go_wp2_with fail
      refine (awake2_any _).mono ?_
      rintro e w5 ⟨rfl, hb5⟩
      go_wp2
      go_ret
      exact ⟨rfl, by ((repeat' (first | with_reducible exact Below.refl _ _ | with_reducible assumption | with_reducible refine Below.drew ?_ | with_reducible refine below_drewN ?_ _ | with_reducible refine Below.setCell ?_ ?_ _ | with_reducible refine Below.alloc ?_ ?_ _ | with_reducible refine Below.trans ?_ (Below.mono (by assumption) ?_))) <;> (first | (simp; done) | (simp; omega) | omega))⟩
    · have e1 : (rowE X != 0) = false := by rw [rowE_eq, h1]; rfl
      cases h2 : rowOk Y
      · have e2 : (rowE Y != 0) = true := by rw [rowE_eq, h2]; rfl
        clear h1 h2
        go_wp2_with fail
        refine (awake2_any _).mono ?_
        rintro e w5 ⟨rfl, hb5⟩
        go_wp2
        go_ret
        exact ⟨rfl, by ((repeat' (first | with_reducible exact Below.refl _ _ | with_reducible assumption | with_reducible refine Below.drew ?_ | with_reducible refine below_drewN ?_ _ | with_reducible refine Below.setCell ?_ ?_ _ | with_reducible refine Below.alloc ?_ ?_ _ | with_reducible refine Below.trans ?_ (Below.mono (by assumption) ?_))) <;> (first | (simp; done) | (simp; omega) | omega))⟩
      · have e2 : (rowE Y != 0) = false := by rw [rowE_eq, h2]; rfl
        obtain ⟨g1, g2⟩ := row_order X Y (HX.out.trans HY.out.symm) h1 h2 rX.out rY.out
        have M1 := Lib.hid (List.all_eq_true.1 (rowOk_all h1))
        have M2 := Lib.hid (List.all_eq_true.1 (rowOk_all h2))
        have G1 := Lib.hid g1
        have G2 := Lib.hid g2
        clear h1 h2 g1 g2
        go_wp2_with fail
        refine (order_n A1 B1 c1 d1 N N X Y HX.out HY.out _ MX.out MY.out wX.out wY.out vX4 vY4).mono ?_
        rintro e w5 ⟨rfl, hb5⟩
        have hz5 := hb5.size
        have vX5 := (vX4.below hb5).more hz5
        have vY5 := (vY4.below hb5).more hz5
        have g1 := G1.out
        have g2 := G2.out
        have hbw5 : Below w.heap.size w w5 := by ((repeat' (first | with_reducible exact Below.refl _ _ | with_reducible assumption | with_reducible refine Below.drew ?_ | with_reducible refine below_drewN ?_ _ | with_reducible refine Below.setCell ?_ ?_ _ | with_reducible refine Below.alloc ?_ ?_ _ | with_reducible refine Below.trans ?_ (Below.mono (by assumption) ?_))) <;> (first | (simp; done) | (simp; omega) | omega))
        clear vX4 vY4 hb1 hb2 hb3 hb4 hb5
        generalize rowOrd X Y = O at *
        have hz0 : w.heap.size ≤ w5.heap.size := by omega
        clear hz1 hz2 hz3 hz4 hz5
        go_wp2
        go_loopg [10] N (fun gk t wr => ∃ j : Nat, j + gk = N ∧ t = .int .i64 j ∧ Below w5.heap.size w5 wr)
        case atStart => exact ⟨0, by omega, rfl, Below.refl _ _⟩
        case round =>
          obtain ⟨j, hj, rfl, hbr⟩ := hrel
          have HJ := Lib.hid hj
          have hzr := hbr.size
          by_cases hlt : j < N
          · obtain ⟨b1, o1, v, rfl, hbB1, hv, p0, p1, p2⟩ := (vX5.below hbr).at_ (j := j) (by have := HX.out; omega)
            obtain ⟨b2, o2, v', rfl, hbB2, hv', q0, q1, q2⟩ := (vY5.below hbr).at_ (j := j) (by have := HY.out; omega)
            have mv := List.mem_of_getElem? hv
            have mv' := List.mem_of_getElem? hv'
            have W1 := Lib.hid (wX.out v mv)
            have W2 := Lib.hid (wY.out v' mv')
            obtain ⟨u1, u2⟩ := value_order v v' (M1.out v mv) (M2.out v' mv') (rX.out v mv) (rY.out v' mv')
            have U1 := Lib.hid u1
            have U2 := Lib.hid u2
            have i1 : (0 : Int) ≤ (j : Int) := by omega
            have i2 : (j : Int) < (N : Int) := by omega
            have l1 : b1 < wr.heap.size := by omega
            have l2 : b2 < wr.heap.size := by omega
            obtain ⟨g', rfl⟩ : ∃ g', gk = g' + 1 := ⟨gk - 1, by omega⟩
            clear hv hv' mv mv' u1 u2 hj g1 g2
            go_upto_region 15 with fail
            go_cut [11, 12] (fun s11 s12 wx => s11 = .string ⟨v.code.toArray⟩ ∧ s12 = .string ⟨v'.code.toArray⟩ ∧ Below wr.heap.size wr wx)
            case first =>
              go_region_held3 (fun w' => w'.cell? ⟨b1, o1 + j * 3, none⟩ = some (.int .i64 v.k) ∧ w'.cell? ⟨b1, o1 + j * 3 + 1, none⟩ = some (.int .i64 v.i) ∧ w'.cell? ⟨b1, o1 + j * 3 + 2, none⟩ = some (.string ⟨v.s.toArray⟩) ∧ w'.cell? ⟨b2, o2 + j * 3, none⟩ = some (.int .i64 v'.k) ∧ w'.cell? ⟨b2, o2 + j * 3 + 1, none⟩ = some (.int .i64 v'.i) ∧ w'.cell? ⟨b2, o2 + j * 3 + 2, none⟩ = some (.string ⟨v'.s.toArray⟩))
                (first | go_keep)
                (first | (go_at_call_of 15 (Value.agg #[.int .i64 v.k, .int .i64 v.i, .string ⟨v.s.toArray⟩]); refine (cvalue_any _ _ _ _ W1.out.2.1.1 W1.out.2.1.2).mono ?_; rintro e w6 ⟨rfl, hb6⟩; obtain ⟨hc6, hf6⟩ := bcell hb6; have hz6 := hb6.size; (try simp at hz6 hc6 hf6); have l6 : b1 < w6.heap.size := (by omega); have l7 : b2 < w6.heap.size := (by omega)) | (go_at_call_of 15 (Value.agg #[.int .i64 v'.k, .int .i64 v'.i, .string ⟨v'.s.toArray⟩]); refine (cvalue_any _ _ _ _ W2.out.2.1.1 W2.out.2.1.2).mono ?_; rintro e w7 ⟨rfl, hb7⟩; obtain ⟨hc7, hf7⟩ := bcell hb7; have hz7 := hb7.size; (try simp at hz7 hc7 hf7); have l8 : b1 < w7.heap.size := (by omega); have l9 : b2 < w7.heap.size := (by omega)))
              all_goals (go_wp2_with fail; go_meet)
              all_goals refine ⟨rfl, rfl, ?_⟩
              all_goals ((repeat' (first | with_reducible exact Below.refl _ _ | with_reducible assumption | with_reducible refine Below.drew ?_ | with_reducible refine below_drewN ?_ _ | with_reducible refine Below.setCell ?_ ?_ _ | with_reducible refine Below.alloc ?_ ?_ _ | with_reducible refine Below.trans ?_ (Below.mono (by assumption) ?_))) <;> (first | (simp; done) | (simp; omega) | omega))
            case rest =>
              obtain ⟨rfl, rfl, hbx⟩ := hcut
              have hzx := hbx.size
              have P0 := (hbx.cell (p := ⟨b1, o1 + j * 3, none⟩) l1).trans p0
              have P1 := (hbx.cell (p := ⟨b1, o1 + j * 3 + 1, none⟩) l1).trans p1
              have P2 := (hbx.cell (p := ⟨b1, o1 + j * 3 + 2, none⟩) l1).trans p2
              have Q0 := (hbx.cell (p := ⟨b2, o2 + j * 3, none⟩) l2).trans q0
              have Q1 := (hbx.cell (p := ⟨b2, o2 + j * 3 + 1, none⟩) l2).trans q1
              have Q2 := (hbx.cell (p := ⟨b2, o2 + j * 3 + 2, none⟩) l2).trans q2
              have l3 : b1 < wc.heap.size := by omega
              have l4 : b2 < wc.heap.size := by omega
              obtain ⟨O', hO'⟩ : ∃ O', V.ord v v' = O' := ⟨_, rfl⟩
              have HO' := Lib.hid hO'
              clear hO' p0 p1 p2 q0 q1 q2 l1 l2
              go_upto_region 16 with fail
              go_cut [13] (fun s13 wx => s13 = .int .i64 O' ∧ Below wc.heap.size wc wx)
              case first =>
                go_region_held3 (fun w' => w'.cell? ⟨b1, o1 + j * 3, none⟩ = some (.int .i64 v.k) ∧ w'.cell? ⟨b1, o1 + j * 3 + 1, none⟩ = some (.int .i64 v.i) ∧ w'.cell? ⟨b1, o1 + j * 3 + 2, none⟩ = some (.string ⟨v.s.toArray⟩) ∧ w'.cell? ⟨b2, o2 + j * 3, none⟩ = some (.int .i64 v'.k) ∧ w'.cell? ⟨b2, o2 + j * 3 + 1, none⟩ = some (.int .i64 v'.i) ∧ w'.cell? ⟨b2, o2 + j * 3 + 2, none⟩ = some (.string ⟨v'.s.toArray⟩))
                  (first | go_keep)
                  (first | (go_at_call 16; refine (rorder_any _ _ _ _ _ _ _ W1.out.2.2 W2.out.2.2).mono ?_; rintro e w8 ⟨rfl, hb8⟩; obtain ⟨hc8, hf8⟩ := bcell hb8; have hz8 := hb8.size; (try simp at hz8 hc8 hf8)))
                all_goals (go_wp2_with fail; go_meet)
                all_goals refine ⟨by rw [← HO'.out]; rfl, ?_⟩
                all_goals ((repeat' (first | with_reducible exact Below.refl _ _ | with_reducible assumption | with_reducible refine Below.drew ?_ | with_reducible refine below_drewN ?_ _ | with_reducible refine Below.setCell ?_ ?_ _ | with_reducible refine Below.alloc ?_ ?_ _ | with_reducible refine Below.trans ?_ (Below.mono (by assumption) ?_))) <;> (first | (simp; done) | (simp; omega) | omega))
              case rest =>
                obtain ⟨rfl, hby⟩ := hcut
                have u1 := U1.out
                have u2 := U2.out
                rw [HO'.out] at u1 u2
                have hfin : Below w5.heap.size w5 wc := by ((repeat' (first | with_reducible exact Below.refl _ _ | with_reducible assumption | with_reducible refine Below.drew ?_ | with_reducible refine below_drewN ?_ _ | with_reducible refine Below.setCell ?_ ?_ _ | with_reducible refine Below.alloc ?_ ?_ _ | with_reducible refine Below.trans ?_ (Below.mono (by assumption) ?_))) <;> (first | (simp; done) | (simp; omega) | omega))
                clear P0 P1 P2 Q0 Q1 Q2 hbx HO'
                generalize v.code = s1 at *
                generalize v'.code = s2 at *
                go_wp2
                go_roundg g'
                case measure => omega
                case rel => exact ⟨j + 1, by have := HJ.out; omega, by go_num, by ((repeat' (first | with_reducible exact Below.refl _ _ | with_reducible assumption | with_reducible refine Below.drew ?_ | with_reducible refine below_drewN ?_ _ | with_reducible refine Below.setCell ?_ ?_ _ | with_reducible refine Below.alloc ?_ ?_ _ | with_reducible refine Below.trans ?_ (Below.mono (by assumption) ?_))) <;> (first | (simp; done) | (simp; omega) | omega))⟩
          · clear g1 g2
            go_wp2_with fail
            refine (awake2_any _).mono ?_
            rintro e w9 ⟨rfl, hb9⟩
            go_wp2
            go_ret
            exact ⟨rfl, by ((repeat' (first | with_reducible exact Below.refl _ _ | with_reducible assumption | with_reducible refine Below.drew ?_ | with_reducible refine below_drewN ?_ _ | with_reducible refine Below.setCell ?_ ?_ _ | with_reducible refine Below.alloc ?_ ?_ _ | with_reducible refine Below.trans ?_ (Below.mono (by assumption) ?_))) <;> (first | (simp; done) | (simp; omega) | omega))⟩

open Go.ChangeShapes Go.WideShapes Go.ChangeAt
set_option maxRecDepth 100000 in
theorem codeOrders_lifted (os : Os) (started : os.Started) (H : Type) (enc : TypeId × Value → H) :
    ReturnsInHanded {} Try.checked os 3 .any (Rows.codeOrdersSpec.pre6 enc Try.prog Try.f3 Rows.codeOrdersRow.domain false) (Rows.codeOrdersSpec.post enc Try.prog Try.f3 false true false false) := by
  refine returnsInHanded_of_change (C := Try.checked) own started (by kernel_rfl) Try.func3
    (ChangeSpec.witness6 (enc := enc) (C := Try.checked) false ⟨#[], #[.slice none 0 0, .slice none 0 0], []⟩ 8 (by kernel_rfl) (by kernel_rfl) (by kernel_rfl) (by kernel_rfl)) ?_
  intro W base args ds gs before hval0 hW hcnd _
  have hval : ∀ (j : Nat) t v, Try.f3.params[j]? = some t → args[j]? = some v → Value.okWide Try.prog W .any base t v := hval0
  have hW' := hW
  obtain ⟨p, q, hA0, hV, rfl, hfz, hnd⟩ := hW
  have hA : DataW.TrodAll enc Try.prog W 0 (fun _ => true) true Try.f3.params.toList args.toList ds p := hA0
  rw [Try.params3] at hA hval
  obtain ⟨v0, vs0, d0, ds0, p0, q0, hargs, rfl, rfl, h0, r0⟩ := trodAll_cons hA
  have k0 := h0
  have lt0 : ∀ x ∈ p0, x.block < W.heap.size := by obtain ⟨m, hm⟩ := k0; exact DataW.trod_lt m _ _ _ hm
  obtain ⟨v1, vs1, d1, ds1, p1, q1, rfl, rfl, rfl, h1, r1⟩ := trodAll_cons r0
  have k1 := h1
  have lt1 : ∀ x ∈ p1, x.block < W.heap.size := by obtain ⟨m, hm⟩ := k1; exact DataW.trod_lt m _ _ _ hm
  obtain ⟨rfl, rfl, rfl⟩ := trodAll_nil r1
  obtain rfl : args = #[v0, v1] := by cases args; simp_all
  obtain ⟨rfl, rfl⟩ := trodVars_none hV
  obtain ⟨A, a, c, rfl, hac, hcm, vA, oa⟩ := open_vals (hval 0 22 v0 rfl rfl) h0
  obtain ⟨B, b, d, rfl, hbd, hdm, vB, ob⟩ := open_vals (hval 1 22 v1 rfl rfl) h1
  clear hA0 hval0
  refine (codeOrders_walk A B c d a b W vA vB (Nat.le_trans hac hcm) (Nat.le_trans hbd hdm) oa ob).mono fun e W' ⟨he, bel⟩ => ?_
  subst he
  exact ⟨_, rfl, _, _, _, [], _, [], hW', trodAll_mk1 (shut_bool Try.underlying4 _), (trodAll_cons_mk (Below.trod laidOut (by kernel_rfl) (of_decide_eq_true (by kernel_rfl)) k0 bel lt0) (trodAll_cons_mk (Below.trod laidOut (by kernel_rfl) (of_decide_eq_true (by kernel_rfl)) k1 bel lt1) trodAll_mk0)), rfl, bel.frame _, fun h => by cases h⟩

theorem codeOrders_over : Rows.codeOrdersRow.holds Try.pinned (OpenSpec.ofChange Rows.codeOrdersSpec) :=
  OpenClaim.holds_of_wide 3 Try.f3 rfl rfl rfl rfl rfl rfl rfl ⟨rfl, rfl, rfl, rfl, rfl⟩ rfl rfl rfl rfl rfl (by kernel_rfl) Try.func3 (by kernel_rfl)
    (of_decide_eq_true (by kernel_rfl)) (by unfold Func.isWrapper; first | (rw [if_pos (by decide +kernel)]; kernel_rfl) | (rw [if_neg (by decide +kernel)]; exact ⟨rfl, rfl⟩))
    (fun os started H enc _ => codeOrders_lifted os started H enc)

theorem codeOrders_holds : Rows.CodeOrdersSaid := codeOrders_over
#print axioms codeOrders_holds

end Go.Proofs.Ytkeeekifejholaa
