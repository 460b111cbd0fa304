/- slices.symMergeCmpFunc where the second run is one row. Condition: two risings of rows, one behind the other, in one block. -/
import Derived.Test.YtdhjogmkhbpcgaaGreatTake
import Derived.Test.YtdhjogmkhbpcgaaGreatSort5
namespace Go.Proofs.YtdhjogmkhbpcgaaGreat
open Go.RowKit

attribute [local go_sem] ByteArray.extract_mk ba_get
attribute [local go_sem ↓] Go.wp_at_zero Go.wp_at_succ

set_option maxRecDepth 100000 in
set_option maxHeartbeats 16000000 in
theorem merge2_any (a : Int) (b c : Nat) (K U A : List Rc) (y : Rc) (S : List Rc) (w : World) (hA1 : ¬ A.length = 1) (hl : (U ++ (A ++ (y :: S))).length ≤ 1000000) (hA : Arr w b 43 (U ++ (A ++ (y :: S)))) (hC : CmpOk a b K w) (hyK : y ∈ K) (hK : ∀ q ∈ A, q ∈ K) (hR : Rise (ordRc a) A) :
    Calls Tryz.prog 105 #[.slice (some ⟨b, 0, none⟩) (U ++ (A ++ (y :: S))).length c, .int .i64 U.length, .int .i64 ((U.length + A.length : Nat) : Int), .int .i64 ((U.length + A.length + 1 : Nat) : Int), .func (.func 37) #[.agg #[.int .i64 a]] #[]] w
      (RetS b 43 (fun H' => ∃ C, H' = U ++ (C ++ S) ∧ Rise (ordRc a) C ∧ Stab (ordRc a) (A ++ [y]) C) w) := by
  obtain ⟨N, hN⟩ : ∃ N, (U ++ (A ++ (y :: S))).length = N := ⟨_, rfl⟩
  have hNN := hN
  rw [hN] at hl ⊢
  simp only [List.length_append, List.length_cons] at hNN
  obtain ⟨e0, he0⟩ : ∃ j, U.length + A.length + 1 = j := ⟨_, rfl⟩
  obtain ⟨m0, hm0⟩ : ∃ j, U.length + A.length = j := ⟨_, rfl⟩
  obtain ⟨a0, ha0⟩ : ∃ i, U.length = i := ⟨_, rfl⟩
  obtain ⟨la, hla⟩ : ∃ i, A.length = i := ⟨_, rfl⟩
  rw [he0, hm0, ha0]
  have i0 : IntKind.i64.wrap ((m0 : Int) - (a0 : Int)) = (la : Int) := by rw [IntWalk.i64_in _ (by omega)]; omega
  have i1 : IntKind.i64.wrap ((e0 : Int) - (m0 : Int)) = 1 := by rw [IntWalk.i64_in _ (by omega)]; omega
  have g0 : ¬ (la : Int) = 1 := by omega
  have g1 : ((la : Int) == 1) = false := by rw [beq_eq_false_iff_ne]; exact g0
  have HLY : Hid ((U ++ (A ++ (y :: S)))[m0]? = some y) := by show _ = _; rw [← hm0, List.getElem?_append_right (by omega)]; simp
  have HLA : Hid (∀ (h : Nat) (x : Rc), a0 ≤ h → A[h - a0]? = some x → (U ++ (A ++ (y :: S)))[h]? = some x) := fun h x h1 h2 => by
    obtain ⟨h3, _⟩ := List.getElem?_eq_some_iff.1 h2
    rw [List.getElem?_append_right (by omega), ha0, List.getElem?_append_left h3]
    exact h2
  have hm1 : a0 ≤ m0 := by omega
  have he1 : m0 ≤ N := by omega
  have he2 : m0 < N := by omega
  have HM := Lib.hid hm0
  have HU := Lib.hid ha0
  have HC := Lib.hid hC
  have HK := Lib.hid hK
  have HRI := Lib.hid hR
  have HA := Lib.hid hA
  obtain ⟨H0, hH0⟩ : ∃ H, U ++ (A ++ (y :: S)) = H := ⟨_, rfl⟩
  rw [hH0] at HLY HLA HA
  have HH0 := Lib.hid hH0
  clear he0 hm0 ha0 hNN hN hC hK hR hA hH0 hla hA1
  go_enter Tryz.func105, Tryz.ntmps105
  go_wp2_with fail
  go_loopw [14, 15] (fun s t wr => ∃ i j : Nat, a0 ≤ i ∧ i ≤ j ∧ j ≤ m0 ∧ s = .int .i64 i ∧ t = .int .i64 j ∧ Hid (∀ x, a0 < i → A[i - 1 - a0]? = some x → 0 ≤ ordRc a y x) ∧ Hid (∀ x, A[j - a0]? = some x → ordRc a y x < 0) ∧ Arr wr b 43 H0 ∧ But b w wr) (fun s t _ => (intOf t).toNat - (intOf s).toNat)
  case atStart => exact ⟨a0, m0, Nat.le_refl _, hm1, Nat.le_refl _, rfl, rfl, fun _ h => absurd h (by omega), fun y h => by
    have := (List.getElem?_eq_some_iff.1 h).1
    have := HM.out
    have := HU.out
    omega, HA.out, But.refl _ _⟩
  case round =>
    obtain ⟨i, j, hi, hij, hj, rfl, rfl, HI, HJ, hR, hbt⟩ := hrel
    obtain ⟨wi, rfl⟩ : ∃ wi : World, wi = wr := ⟨_, rfl⟩
    by_cases hlt : i < j
    · obtain ⟨h, hh⟩ : ∃ h, (i + j) / 2 = h := ⟨_, rfl⟩
      have hw := wrap_mid hh
      have hih : i ≤ h := by omega
      have hhj : h < j := by omega
      obtain ⟨x, hx⟩ : ∃ x, A[h - a0]? = some x := ⟨_, List.getElem?_eq_getElem (by have := HM.out; have := HU.out; omega)⟩
      have hxK := HK.out x (List.mem_of_getElem? hx)
      obtain ⟨xA, xn, xc, hxc⟩ := cell_of x
      obtain ⟨yA, yn, yc, hyc⟩ := cell_of y
      obtain ⟨HSH, HCX⟩ := cmp_two hR HC.out hbt HLY.out (HLA.out h x (by omega) hx) hyK hxK hyc hxc
      obtain ⟨Rv, hRv⟩ : ∃ R, ordRc a y x = R := ⟨_, rfl⟩
      rw [hRv] at HCX
      have HX := Lib.hid hx
      have HRV := Lib.hid hRv
      have HAR := Lib.hid hR
      have HBT := Lib.hid hbt
      have j1 : (0 : Int) ≤ (h : Int) := by omega
      have j2 : (h : Int) < (N : Int) := by omega
      have j3 : (0 : Int) ≤ (m0 : Int) := by omega
      have j4 : (m0 : Int) < (N : Int) := by omega
      have k2 : h < N := by omega
      have i2 : IntKind.i64.wrap ((h : Int) + 1) = (h : Int) + 1 := IntWalk.i64_in _ (by omega)
      clear hx hRv hR hbt hxc hyc hxK hh
      by_cases hneg : Rv < 0
      · have d1 : decide (Rv < 0) = true := decide_eq_true hneg
        have HN1 : Hid (∀ x', A[h - a0]? = some x' → ordRc a y x' < 0) := fun x' h2 => by
          rw [HX.out] at h2
          cases h2
          rw [HRV.out]; exact hneg
        go_wp2_with fail
        refine wp_region_held_drew (S := (fun Z => Z.cell? ⟨b, m0, none⟩ = some (.slice yA yn yc) ∧ Z.cell? ⟨b, h, none⟩ = some (.slice xA xn xc))) (by kernel_rfl) ?_ (fun hHeld => ?_)
        · try dsimp only
          exact HSH.out _ (by exact bl)
        refine wpAnyT_start [0, 1, 2, 3, 4, 5, 6, 7, 8] ?_
        iterate 9
          refine wpAnyT_cons (v := ?_) rfl (by kernel_rfl) (by kernel_rfl) (by kernel_rfl) (fun _ _ _ h => h) (Or.inl ⟨by rfl, ?_⟩) (by assumption) ?_
          rotate_left
          · intro wq hSw
            try dsimp only at hSw
            go_simp
            try with_reducible rfl
          try simp only [Act.put, List.getElem_toArray, List.getElem_cons_zero, List.getElem_cons_succ, List.setIfInBounds_toArray, List.set_cons_zero, List.set_cons_succ]
        refine wpAnyT_nil ?_
        refine wpAnyH_ready (rs := [9]) (by kernel_rfl) (by simp) ?_
        refine AllReadyH.cons rfl (fun K hK => ?_) AllReadyH.nil
        go_simp
        (refine (HCX.out _ (by exact bl)).mono ?_) <;> rintro en w9 ⟨rfl, hb9⟩ <;> have hz9 := hb9.size <;> (try simp at hz9)
        go_wp2_with fail
        refine hK.out _ _ ?_ (fun hHeld => ?_)
        · try dsimp only
          exact HSH.out _ (by exact bl)
        clear hK K
        try simp only [Act.put, List.getElem_toArray, List.getElem_cons_zero, List.getElem_cons_succ, List.setIfInBounds_toArray, List.set_cons_zero, List.set_cons_succ]
        refine wpAnyT_start [10, 11] ?_
        iterate 2
          refine wpAnyT_cons (v := ?_) rfl (by kernel_rfl) (by kernel_rfl) (by kernel_rfl) (fun _ _ _ h => h) (Or.inl ⟨by rfl, ?_⟩) (by assumption) ?_
          rotate_left
          · intro wq hSw
            try dsimp only at hSw
            go_simp
            try with_reducible rfl
          try simp only [Act.put, List.getElem_toArray, List.getElem_cons_zero, List.getElem_cons_succ, List.setIfInBounds_toArray, List.set_cons_zero, List.set_cons_succ]
        refine wpAnyT_nil ?_
        refine wpAnyH_done (by kernel_rfl) ?_ _
        have hbW : Below wi.heap.size wi w9 := by exact bl
        have hAW := HAR.out.below hbW
        have hBW := HBT.out.trans (But.of_below hbW)
        have HAW := Lib.hid hAW
        clear HSH HCX HAR hAW
        go_wp2_with fail
        go_roundw
        case rel => exact ⟨i, h, by omega, by omega, by omega, rfl, rfl, HI, HN1, HAW.out, hBW⟩
        case measure => simp [intOf]; omega
      · have d1 : decide (Rv < 0) = false := decide_eq_false hneg
        have HN1 : Hid (∀ x', a0 < h + 1 → A[h + 1 - 1 - a0]? = some x' → 0 ≤ ordRc a y x') := fun x' _ h2 => by
          rw [Nat.add_sub_cancel, HX.out] at h2
          cases h2
          rw [HRV.out]; omega
        go_wp2_with fail
        refine wp_region_held_drew (S := (fun Z => Z.cell? ⟨b, m0, none⟩ = some (.slice yA yn yc) ∧ Z.cell? ⟨b, h, none⟩ = some (.slice xA xn xc))) (by kernel_rfl) ?_ (fun hHeld => ?_)
        · try dsimp only
          exact HSH.out _ (by exact bl)
        refine wpAnyT_start [0, 1, 2, 3, 4, 5, 6, 7, 8] ?_
        iterate 9
          refine wpAnyT_cons (v := ?_) rfl (by kernel_rfl) (by kernel_rfl) (by kernel_rfl) (fun _ _ _ h => h) (Or.inl ⟨by rfl, ?_⟩) (by assumption) ?_
          rotate_left
          · intro wq hSw
            try dsimp only at hSw
            go_simp
            try with_reducible rfl
          try simp only [Act.put, List.getElem_toArray, List.getElem_cons_zero, List.getElem_cons_succ, List.setIfInBounds_toArray, List.set_cons_zero, List.set_cons_succ]
        refine wpAnyT_nil ?_
        refine wpAnyH_ready (rs := [9]) (by kernel_rfl) (by simp) ?_
        refine AllReadyH.cons rfl (fun K hK => ?_) AllReadyH.nil
        go_simp
        (refine (HCX.out _ (by exact bl)).mono ?_) <;> rintro en w9 ⟨rfl, hb9⟩ <;> have hz9 := hb9.size <;> (try simp at hz9)
        go_wp2_with fail
        refine hK.out _ _ ?_ (fun hHeld => ?_)
        · try dsimp only
          exact HSH.out _ (by exact bl)
        clear hK K
        try simp only [Act.put, List.getElem_toArray, List.getElem_cons_zero, List.getElem_cons_succ, List.setIfInBounds_toArray, List.set_cons_zero, List.set_cons_succ]
        refine wpAnyT_start [10, 11] ?_
        iterate 2
          refine wpAnyT_cons (v := ?_) rfl (by kernel_rfl) (by kernel_rfl) (by kernel_rfl) (fun _ _ _ h => h) (Or.inl ⟨by rfl, ?_⟩) (by assumption) ?_
          rotate_left
          · intro wq hSw
            try dsimp only at hSw
            go_simp
            try with_reducible rfl
          try simp only [Act.put, List.getElem_toArray, List.getElem_cons_zero, List.getElem_cons_succ, List.setIfInBounds_toArray, List.set_cons_zero, List.set_cons_succ]
        refine wpAnyT_nil ?_
        refine wpAnyH_done (by kernel_rfl) ?_ _
        have hbW : Below wi.heap.size wi w9 := by exact bl
        have hAW := HAR.out.below hbW
        have hBW := HBT.out.trans (But.of_below hbW)
        have HAW := Lib.hid hAW
        clear HSH HCX HAR hAW
        go_wp2_with fail
        go_roundw
        case rel => exact ⟨h + 1, j, by omega, by omega, hj, by go_num, rfl, HN1, HJ, HAW.out, hBW⟩
        case measure => simp [intOf]; omega
    · obtain rfl : i = j := by omega
      have hlA : a0 + A.length = m0 := by have := HM.out; have := HU.out; omega
      obtain ⟨A1, A2, hAA, hA1⟩ := split_at A (i - a0) (by omega)
      have hlaw := merge2_law (ordRc_pre a) (y := y) (a1 := A1) (a2 := A2) (by rw [← hAA]; exact HRI.out) (fun x hx => by
        rw [List.getLast?_eq_getElem?] at hx
        obtain ⟨hn, _⟩ := List.getElem?_eq_some_iff.1 hx
        refine Int.not_lt.2 (HI.out x (by omega) ?_)
        rw [hAA, List.getElem?_append_left (by omega), ← hx]
        congr 1
        omega) (fun x hx => by
        refine HJ.out x ?_
        rw [hAA, List.getElem?_append_right (by omega), hA1, Nat.sub_self, ← hx, List.head?_eq_getElem?])
      rw [← hAA] at hlaw
      have HLAW := Lib.hid hlaw
      have HST : Hid (Arr wi b 43 (U ++ (A1 ++ (A2 ++ (y :: ([] ++ S)))))) := by
        have := hR
        rw [← HH0.out, hAA] at this
        show Arr _ _ _ _
        simpa using this
      have HBT := Lib.hid hbt
      have hA2 : i + A2.length = m0 := by have h1 := hlA; rw [hAA] at h1; simp at h1; omega
      have HA1 : Hid (A1.length = i - a0) := hA1
      have HA2 := Lib.hid hA2
      have gd : decide (i < i) = false := by simp
      clear hAA hlaw hR hbt HI HJ hA1 hlA hA2
      go_wp2_with fail
      go_loopw [17] (fun kv wr => ∃ (k : Nat) (X1 X2 : List Rc), i ≤ k ∧ k ≤ m0 ∧ kv = .int .i64 k ∧ Hid (k = i + X1.length ∧ A2 = X1 ++ X2) ∧ Arr wr b 43 (U ++ (A1 ++ (X1 ++ (y :: (X2 ++ S))))) ∧ But b w wr) (fun kv _ => (intOf kv).toNat)
      case atStart => exact ⟨m0, A2, [], by omega, by omega, rfl, ⟨HA2.out.symm, by simp⟩, HST.out, HBT.out⟩
      case round =>
        obtain ⟨k, X1, X2, hik, hkt, rfl, HX, hR2, hbt2⟩ := hrel
        obtain ⟨wk, rfl⟩ : ∃ wk : World, wk = wr := ⟨_, rfl⟩
        obtain ⟨hx1, hx2⟩ := HX.out
        by_cases hkl : i < k
        · obtain ⟨X1', z, rfl⟩ := last_split X1 (by rintro rfl; simp at hx1; omega)
          simp only [List.length_append, List.length_cons, List.length_nil] at hx1
          obtain ⟨k0, hk0⟩ : ∃ n, i + X1'.length = n := ⟨_, rfl⟩
          obtain ⟨yA, yn, yc, hyc⟩ := cell_of y
          obtain ⟨zA, zn, zc, hzc⟩ := cell_of z
          have hpl : k0 = (U ++ (A1 ++ X1')).length := by have := HU.out; have := HA1.out; simp; omega
          obtain ⟨c1, c2, f1, f2, c3, f3, c4, f4, HA1', HA2'⟩ := swap_facts (w := w) (P := U ++ (A1 ++ X1')) (S := X2 ++ S) (x := z) (y := y) (W := wk) (ty := 43) (b := b) (i := k0) (j := k) (by have := hR2; simpa using this) hbt2 hpl (by omega) hzc hyc
          have HP : Hid (k0 = i + X1'.length ∧ A2 = X1' ++ (z :: X2)) := ⟨hk0.symm, by rw [hx2]; simp⟩
          have HAP : Hid (Arr ((wk.drew.setCell ⟨b, k, none⟩ (.slice zA zn zc)).setCell ⟨b, k0, none⟩ (.slice yA yn yc)) b 43 (U ++ (A1 ++ (X1' ++ (y :: ((z :: X2) ++ S)))))) := by
            have := HA2'.out.1
            show Arr _ _ _ _
            simpa using this
          have i3 : IntKind.i64.wrap ((k : Int) - 1) = (k0 : Int) := by rw [IntWalk.i64_in _ (by omega)]; omega
          have j1 : (0 : Int) ≤ (k : Int) := by omega
          have j2 : (k : Int) < (N : Int) := by omega
          have j3 : (0 : Int) ≤ (k0 : Int) := by omega
          have j4 : (k0 : Int) < (N : Int) := by omega
          have k2 : k < N := by omega
          have k4 : k0 < N := by omega
          have ne1 : ¬ k = k0 := by omega
          have ne2 : ¬ k0 = k := by omega
          have hik0 : i ≤ k0 := by omega
          have hk0m : k0 ≤ m0 := by omega
          have hkk : k0 < k := by omega
          clear hx1 hx2 HX hR2 hbt2 hk0 hyc hzc hpl c3 f3 HA1'
          go_wp2_with fail
          refine wp_region_held_drew (S := (fun _ => True)) (by kernel_rfl) ?_ (fun hHeld => ?_)
          · try dsimp only
            skip
          refine wpAnyT_start [0, 1, 2, 3, 4, 5, 6, 7, 8, 10, 11, 12] ?_
          iterate 12
            refine wpAnyT_cons (v := ?_) rfl (by kernel_rfl) (by kernel_rfl) (by kernel_rfl) (fun _ _ _ h => h) (Or.inl ⟨by rfl, ?_⟩) (by assumption) ?_
            rotate_left
            · intro wq hSw
              try dsimp only at hSw
              go_simp
              try with_reducible rfl
            try simp only [Act.put, List.getElem_toArray, List.getElem_cons_zero, List.getElem_cons_succ, List.setIfInBounds_toArray, List.set_cons_zero, List.set_cons_succ]
          refine wpAnyT_nil ?_
          refine wpAnyH_ready (rs := [9, 13]) (by kernel_rfl) (by simp) ?_
          refine (AllReadyH.cons rfl (fun K hK => ?_) (AllReadyH.cons rfl (fun K hK => ?_) AllReadyH.nil))
          · skip
            go_simp
            skip
            go_wp2_with fail
            refine hK.out _ _ ?_ (fun hHeld => ?_)
            · try dsimp only
              skip
            clear hK K
            try simp only [Act.put, List.getElem_toArray, List.getElem_cons_zero, List.getElem_cons_succ, List.setIfInBounds_toArray, List.set_cons_zero, List.set_cons_succ]
            refine wpAnyH_ready (rs := [13]) (by kernel_rfl) (by simp) ?_
            refine AllReadyH.cons rfl (fun K hK => ?_) AllReadyH.nil
            go_simp
            skip
            go_wp2_with fail
            refine hK.out _ _ ?_ (fun hHeld => ?_)
            · try dsimp only
              skip
            clear hK K
            try simp only [Act.put, List.getElem_toArray, List.getElem_cons_zero, List.getElem_cons_succ, List.setIfInBounds_toArray, List.set_cons_zero, List.set_cons_succ]
            refine wpAnyH_take (i := 14) (v := ?_) rfl (by kernel_rfl) (by kernel_rfl) (by kernel_rfl) (fun _ _ _ h => h) (Or.inl ⟨by rfl, ?_⟩) (by assumption) ?_
            rotate_left
            · intro wq hSw
              try dsimp only at hSw
              go_simp
              try with_reducible rfl
            try simp only [Act.put, List.getElem_toArray, List.getElem_cons_zero, List.getElem_cons_succ, List.setIfInBounds_toArray, List.set_cons_zero, List.set_cons_succ]
            refine wpAnyH_ready (rs := [15]) (by kernel_rfl) (by simp) ?_
            refine AllReadyH.cons rfl (fun K hK => ?_) AllReadyH.nil
            go_simp
            skip
            go_wp2_with fail
            refine hK.out _ _ ?_ (fun hHeld => ?_)
            · try dsimp only
              skip
            clear hK K
            try simp only [Act.put, List.getElem_toArray, List.getElem_cons_zero, List.getElem_cons_succ, List.setIfInBounds_toArray, List.set_cons_zero, List.set_cons_succ]
            refine wpAnyH_take (i := 16) (v := ?_) rfl (by kernel_rfl) (by kernel_rfl) (by kernel_rfl) (fun _ _ _ h => h) (Or.inl ⟨by rfl, ?_⟩) (by assumption) ?_
            rotate_left
            · intro wq hSw
              try dsimp only at hSw
              go_simp
              try with_reducible rfl
            try simp only [Act.put, List.getElem_toArray, List.getElem_cons_zero, List.getElem_cons_succ, List.setIfInBounds_toArray, List.set_cons_zero, List.set_cons_succ]
            refine wpAnyH_ready (rs := [17]) (by kernel_rfl) (by simp) ?_
            refine AllReadyH.cons rfl (fun K hK => ?_) AllReadyH.nil
            go_simp
            skip
            go_wp2_with fail
            refine hK.out _ _ ?_ (fun hHeld => ?_)
            · try dsimp only
              skip
            clear hK K
            try simp only [Act.put, List.getElem_toArray, List.getElem_cons_zero, List.getElem_cons_succ, List.setIfInBounds_toArray, List.set_cons_zero, List.set_cons_succ]
            refine wpAnyH_done (by kernel_rfl) ?_ _
            go_wp2_with fail
            go_roundw
            case rel => exact ⟨k0, X1', z :: X2, hik0, hk0m, rfl, HP.out, HAP.out, HA2'.out.2⟩
            case measure => simp [intOf]; omega
          · skip
            go_simp
            skip
            go_wp2_with fail
            refine hK.out _ _ ?_ (fun hHeld => ?_)
            · try dsimp only
              skip
            clear hK K
            try simp only [Act.put, List.getElem_toArray, List.getElem_cons_zero, List.getElem_cons_succ, List.setIfInBounds_toArray, List.set_cons_zero, List.set_cons_succ]
            refine wpAnyH_ready (rs := [9]) (by kernel_rfl) (by simp) ?_
            refine AllReadyH.cons rfl (fun K hK => ?_) AllReadyH.nil
            go_simp
            skip
            go_wp2_with fail
            refine hK.out _ _ ?_ (fun hHeld => ?_)
            · try dsimp only
              skip
            clear hK K
            try simp only [Act.put, List.getElem_toArray, List.getElem_cons_zero, List.getElem_cons_succ, List.setIfInBounds_toArray, List.set_cons_zero, List.set_cons_succ]
            refine wpAnyH_take (i := 14) (v := ?_) rfl (by kernel_rfl) (by kernel_rfl) (by kernel_rfl) (fun _ _ _ h => h) (Or.inl ⟨by rfl, ?_⟩) (by assumption) ?_
            rotate_left
            · intro wq hSw
              try dsimp only at hSw
              go_simp
              try with_reducible rfl
            try simp only [Act.put, List.getElem_toArray, List.getElem_cons_zero, List.getElem_cons_succ, List.setIfInBounds_toArray, List.set_cons_zero, List.set_cons_succ]
            refine wpAnyH_ready (rs := [15]) (by kernel_rfl) (by simp) ?_
            refine AllReadyH.cons rfl (fun K hK => ?_) AllReadyH.nil
            go_simp
            skip
            go_wp2_with fail
            refine hK.out _ _ ?_ (fun hHeld => ?_)
            · try dsimp only
              skip
            clear hK K
            try simp only [Act.put, List.getElem_toArray, List.getElem_cons_zero, List.getElem_cons_succ, List.setIfInBounds_toArray, List.set_cons_zero, List.set_cons_succ]
            refine wpAnyH_take (i := 16) (v := ?_) rfl (by kernel_rfl) (by kernel_rfl) (by kernel_rfl) (fun _ _ _ h => h) (Or.inl ⟨by rfl, ?_⟩) (by assumption) ?_
            rotate_left
            · intro wq hSw
              try dsimp only at hSw
              go_simp
              try with_reducible rfl
            try simp only [Act.put, List.getElem_toArray, List.getElem_cons_zero, List.getElem_cons_succ, List.setIfInBounds_toArray, List.set_cons_zero, List.set_cons_succ]
            refine wpAnyH_ready (rs := [17]) (by kernel_rfl) (by simp) ?_
            refine AllReadyH.cons rfl (fun K hK => ?_) AllReadyH.nil
            go_simp
            skip
            go_wp2_with fail
            refine hK.out _ _ ?_ (fun hHeld => ?_)
            · try dsimp only
              skip
            clear hK K
            try simp only [Act.put, List.getElem_toArray, List.getElem_cons_zero, List.getElem_cons_succ, List.setIfInBounds_toArray, List.set_cons_zero, List.set_cons_succ]
            refine wpAnyH_done (by kernel_rfl) ?_ _
            go_wp2_with fail
            go_roundw
            case rel => exact ⟨k0, X1', z :: X2, hik0, hk0m, rfl, HP.out, HAP.out, HA2'.out.2⟩
            case measure => simp [intOf]; omega
        · have hX1 : X1 = [] := List.eq_nil_of_length_eq_zero (by omega)
          subst hX1
          have HFA : Hid (Arr wk b 43 (U ++ ((A1 ++ y :: A2) ++ S))) := by
            have := hR2
            show Arr _ _ _ _
            rw [hx2]
            simpa using this
          have HBT2 := Lib.hid hbt2
          clear hx1 hx2 HX hR2 hbt2
          go_wp2_with fail
          refine bodyPost_ret (v := .tuple #[]) (by simp [results, Tryz.results105, go_sem, *]) rfl ⟨rfl, ⟨_, ⟨A1 ++ y :: A2, rfl, HLAW.out.1, HLAW.out.2⟩, HFA.out⟩, HBT2.out⟩

end Go.Proofs.YtdhjogmkhbpcgaaGreat
