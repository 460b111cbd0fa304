/- slices.symMergeCmpFunc where the first run, or the second, is one row. Condition: two risings of rows, one behind the other, in one block. -/
import Derived.Test.YtdhjogmkhbpcgaaGreatTake
import Derived.Test.YtdhjogmkhbpcgaaGreatOrdM
import Derived.WalkArith
namespace Go.Proofs.YtdhjogmkhbpcgaaGreat
open Go.RowKit

attribute [local go_sem] ByteArray.extract_mk ba_get
attribute [local go_sem ↓] Go.wp_at_zero Go.wp_at_succ

/-- The one-block array holds x at i and y at j, of which the sorter says which is first. -/
theorem cmp_two {a : Int} {b : Nat} {ty : TypeId} {K H : List Rc} {w wi : World} {x y : Rc} {i j : Nat} {xA yA : Option Addr} {xn xc yn yc : Nat} (hA : Arr wi b ty H) (hC : CmpOk a b K w) (hb : But b w wi) (hi : H[i]? = some x) (hj : H[j]? = some y) (hx : x ∈ K) (hy : y ∈ K)
    (hxc : x.cell = .slice xA xn xc) (hyc : y.cell = .slice yA yn yc) :
    Hid (∀ Z : World, Below wi.heap.size wi Z → Z.cell? ⟨b, i, none⟩ = some (.slice xA xn xc) ∧ Z.cell? ⟨b, j, none⟩ = some (.slice yA yn yc)) ∧
    Hid (∀ Z : World, Below wi.heap.size wi Z → Calls Tryz.prog 37 #[.agg #[.int .i64 a], .slice xA xn xc, .slice yA yn yc] Z (Ret (.int .i64 (ordRc a x y)) Z)) := by
  refine ⟨fun Z hz => ⟨?_, ?_⟩, fun Z hz => ?_⟩
  · rw [← hxc]; exact (hA.below hz).cell hi
  · rw [← hyc]; exact (hA.below hz).cell hj
  · rw [← hxc, ← hyc]; exact hC Z x y (hb.trans (But.of_below hz)) hx hy
theorem cell_of (x : Rc) : ∃ A n c, x.cell = .slice A n c := ⟨_, _, _, rfl⟩
/-- Two neighbours' cells, and what is known when the first of two stores is done. -/
theorem swap_facts {b : Nat} {ty : TypeId} {P S : List Rc} {W w : World} {x y : Rc} {i j : Nat} {xA yA : Option Addr} {xn xc yn yc : Nat} (hA : Arr W b ty (P ++ x :: y :: S)) (hb : But b w W) (hi : i = P.length) (hj : j = i + 1) (hxc : x.cell = .slice xA xn xc) (hyc : y.cell = .slice yA yn yc) :
    W.cell? ⟨b, i, none⟩ = some (.slice xA xn xc) ∧ W.cell? ⟨b, j, none⟩ = some (.slice yA yn yc) ∧ W.frozen? ⟨b, i, none⟩ = false ∧ W.frozen? ⟨b, j, none⟩ = false ∧
    (W.drew.setCell ⟨b, i, none⟩ (.slice yA yn yc)).cell? ⟨b, j, none⟩ = some (.slice yA yn yc) ∧ (W.drew.setCell ⟨b, i, none⟩ (.slice yA yn yc)).frozen? ⟨b, j, none⟩ = false ∧
    (W.drew.setCell ⟨b, j, none⟩ (.slice xA xn xc)).cell? ⟨b, i, none⟩ = some (.slice xA xn xc) ∧ (W.drew.setCell ⟨b, j, none⟩ (.slice xA xn xc)).frozen? ⟨b, i, none⟩ = false ∧
    Hid (Arr ((W.drew.setCell ⟨b, i, none⟩ (.slice yA yn yc)).setCell ⟨b, j, none⟩ (.slice xA xn xc)) b ty (P ++ y :: x :: S) ∧ But b w ((W.drew.setCell ⟨b, i, none⟩ (.slice yA yn yc)).setCell ⟨b, j, none⟩ (.slice xA xn xc))) ∧
    Hid (Arr ((W.drew.setCell ⟨b, j, none⟩ (.slice xA xn xc)).setCell ⟨b, i, none⟩ (.slice yA yn yc)) b ty (P ++ y :: x :: S) ∧ But b w ((W.drew.setCell ⟨b, j, none⟩ (.slice xA xn xc)).setCell ⟨b, i, none⟩ (.slice yA yn yc))) := by
  subst hi
  subst hj
  have s1 : (P ++ x :: y :: S)[P.length]? = some x := by simp
  have s2 : (P ++ x :: y :: S)[P.length + 1]? = some y := by rw [List.getElem?_append_right (by omega)]; simp
  have hd : Arr W.drew b ty (P ++ x :: y :: S) := hA
  have h1 := hd.set (i := P.length) (by simp) y
  have h2 := hd.set (i := P.length + 1) (by simp) x
  have q1 := h1.cell (i := P.length + 1) (q := y) (by rw [List.getElem?_set_ne (by omega)]; exact s2)
  have q2 := h2.cell (i := P.length) (q := x) (by rw [List.getElem?_set_ne (by omega)]; exact s1)
  have q3 := h1.frozen (P.length + 1)
  have q4 := h2.frozen P.length
  have q5 := (hd.swap (P := P) (M := []) (S := S) (x := x) (y := y) (i := P.length) (j := P.length + 1) rfl rfl)
  have q6 := (hd.swap' (P := P) (M := []) (S := S) (x := x) (y := y) (i := P.length) (j := P.length + 1) rfl rfl)
  have hbd : But b w W.drew := hb.drew
  rw [hxc] at q2 q4 q5 q6
  rw [hyc] at q1 q3 q5 q6
  refine ⟨by rw [← hxc]; exact hA.cell s1, by rw [← hyc]; exact hA.cell s2, hA.frozen _, hA.frozen _, q1, q3, q2, q4, ⟨q5, (hbd.set _ _).set _ _⟩, ⟨q6, (hbd.set _ _).set _ _⟩⟩
theorem wrap_mid {i j h : Nat} (hh : (i + j) / 2 = h) : ((i : Int) + (j : Int)) / 2 = (h : Int) := by omega

set_option maxRecDepth 100000 in
set_option maxHeartbeats 16000000 in
theorem merge1_any (a : Int) (b c : Nat) (K U : List Rc) (x : Rc) (B S : List Rc) (w : World) (hl : (U ++ (x :: (B ++ S))).length ≤ 1000000) (hA : Arr w b 43 (U ++ (x :: (B ++ S)))) (hC : CmpOk a b K w) (hxK : x ∈ K) (hK : ∀ q ∈ B, q ∈ K) (hR : Rise (ordRc a) B) :
    Calls Tryz.prog 105 #[.slice (some ⟨b, 0, none⟩) (U ++ (x :: (B ++ S))).length c, .int .i64 U.length, .int .i64 ((U.length + 1 : Nat) : Int), .int .i64 ((U.length + 1 + B.length : Nat) : Int), .func (.func 37) #[.agg #[.int .i64 a]] #[]] w
      (RetS b 43 (fun H' => ∃ C, H' = U ++ (C ++ S) ∧ Rise (ordRc a) C ∧ Stab (ordRc a) (x :: B) C) w) := by
  obtain ⟨N, hN⟩ : ∃ N, (U ++ (x :: (B ++ S))).length = N := ⟨_, rfl⟩
  have hNN := hN
  rw [hN] at hl ⊢
  simp only [List.length_append, List.length_cons] at hNN
  obtain ⟨e0, he0⟩ : ∃ j, U.length + 1 + B.length = j := ⟨_, rfl⟩
  obtain ⟨m0, hm0⟩ : ∃ j, U.length + 1 = j := ⟨_, rfl⟩
  obtain ⟨a0, ha0⟩ : ∃ i, U.length = i := ⟨_, rfl⟩
  rw [he0, hm0, ha0]
  have i1 : IntKind.i64.wrap ((m0 : Int) - (a0 : Int)) = 1 := by rw [IntWalk.i64_in _ (by omega)]; omega
  have HLX : Hid ((U ++ (x :: (B ++ S)))[a0]? = some x) := by show _ = _; rw [← ha0]; simp
  have HLB : Hid (∀ (h : Nat) (y : Rc), m0 ≤ h → B[h - m0]? = some y → (U ++ (x :: (B ++ S)))[h]? = some y) := fun h y h1 h2 => by
    obtain ⟨h3, _⟩ := List.getElem?_eq_some_iff.1 h2
    obtain ⟨n, rfl⟩ : ∃ n, h = m0 + n := ⟨h - m0, by omega⟩
    rw [← hm0, List.getElem?_append_right (by omega)]
    rw [Nat.add_sub_cancel_left] at h2 h3
    have e : U.length + 1 + n - U.length = n + 1 := by omega
    rw [e, List.getElem?_cons_succ, List.getElem?_append_left h3]
    exact h2
  have hm1 : m0 ≤ a0 + 1 := by omega
  have hm2 : a0 + 1 ≤ m0 := by omega
  have he1 : m0 ≤ e0 := by omega
  have he2 : e0 ≤ N := by omega
  have HE := Lib.hid he0
  have HU := Lib.hid ha0
  have HC := Lib.hid hC
  have HK := Lib.hid hK
  have HRI := Lib.hid hR
  have HA := Lib.hid hA
  obtain ⟨H0, hH0⟩ : ∃ H, U ++ (x :: (B ++ S)) = H := ⟨_, rfl⟩
  rw [hH0] at HLX HLB HA
  have HH0 := Lib.hid hH0
  clear he0 hm0 ha0 hNN hN hC hK hR hA hH0
  go_enter Tryz.func105, Tryz.ntmps105
  go_wp2_with fail
  go_loopw [10, 11] (fun s t wr => ∃ i j : Nat, m0 ≤ i ∧ i ≤ j ∧ j ≤ e0 ∧ s = .int .i64 i ∧ t = .int .i64 j ∧ Hid (∀ y, m0 < i → B[i - 1 - m0]? = some y → ordRc a y x < 0) ∧ Hid (∀ y, B[j - m0]? = some y → 0 ≤ ordRc a y x) ∧ Arr wr b 43 H0 ∧ But b w wr) (fun s t _ => (intOf t).toNat - (intOf s).toNat)
  case atStart => exact ⟨m0, e0, Nat.le_refl _, he1, Nat.le_refl _, rfl, rfl, fun _ h => absurd h (by omega), fun y h => by
    have := (List.getElem?_eq_some_iff.1 h).1
    have := HE.out
    have := HU.out
    omega, HA.out, But.refl _ _⟩
  case round =>
    obtain ⟨i, j, hi, hij, hj, rfl, rfl, HI, HJ, hR, hbt⟩ := hrel
    obtain ⟨wi, rfl⟩ : ∃ wi : World, wi = wr := ⟨_, rfl⟩
    by_cases hlt : i < j
    · obtain ⟨h, hh⟩ : ∃ h, (i + j) / 2 = h := ⟨_, rfl⟩
      have hw := wrap_mid hh
      have hih : i ≤ h := by omega
      have hhj : h < j := by omega
      obtain ⟨y, hy⟩ : ∃ y, B[h - m0]? = some y := ⟨_, List.getElem?_eq_getElem (by have := HE.out; have := HU.out; omega)⟩
      have hyK := HK.out y (List.mem_of_getElem? hy)
      obtain ⟨xA, xn, xc, hxc⟩ := cell_of x
      obtain ⟨yA, yn, yc, hyc⟩ := cell_of y
      obtain ⟨HSH, HCX⟩ := cmp_two hR HC.out hbt (HLB.out h y (by omega) hy) HLX.out hyK hxK hyc hxc
      obtain ⟨Rv, hRv⟩ : ∃ R, ordRc a y x = R := ⟨_, rfl⟩
      rw [hRv] at HCX
      have HY := Lib.hid hy
      have HRV := Lib.hid hRv
      have HAR := Lib.hid hR
      have HBT := Lib.hid hbt
      have j1 : (0 : Int) ≤ (h : Int) := by omega
      have j2 : (h : Int) < (N : Int) := by omega
      have j3 : (0 : Int) ≤ (a0 : Int) := by omega
      have j4 : (a0 : Int) < (N : Int) := by omega
      have k2 : h < N := by omega
      have k4 : a0 < N := by omega
      have i2 : IntKind.i64.wrap ((h : Int) + 1) = (h : Int) + 1 := IntWalk.i64_in _ (by omega)
      clear hy hRv hR hbt hxc hyc hyK hh
      by_cases hneg : Rv < 0
      · have d1 : decide (Rv < 0) = true := decide_eq_true hneg
        have HN1 : Hid (∀ y', m0 < h + 1 → B[h + 1 - 1 - m0]? = some y' → ordRc a y' x < 0) := fun y' _ h2 => by
          rw [Nat.add_sub_cancel, HY.out] at h2
          cases h2
          rw [HRV.out]; omega
        go_wp2_with fail
        refine wp_region_held_drew (S := (fun Z => Z.cell? ⟨b, h, none⟩ = some (.slice yA yn yc) ∧ Z.cell? ⟨b, a0, none⟩ = some (.slice xA xn xc))) (by kernel_rfl) ?_ (fun hHeld => ?_)
        · try dsimp only
          exact HSH.out _ (by exact bl)
        refine wpAnyT_start [0, 1, 2, 3, 4, 5, 6, 7, 8] ?_
        iterate 9
          refine wpAnyT_cons (v := ?_) rfl (by kernel_rfl) (by kernel_rfl) (by kernel_rfl) (fun _ _ _ h => h) (Or.inl ⟨by rfl, ?_⟩) (by assumption) ?_
          rotate_left
          · intro wq hSw
            try dsimp only at hSw
            go_simp
            try with_reducible rfl
          try simp only [Act.put, List.getElem_toArray, List.getElem_cons_zero, List.getElem_cons_succ, List.setIfInBounds_toArray, List.set_cons_zero, List.set_cons_succ]
        refine wpAnyT_nil ?_
        refine wpAnyH_ready (rs := [9]) (by kernel_rfl) (by simp) ?_
        refine AllReadyH.cons rfl (fun K hK => ?_) AllReadyH.nil
        go_simp
        (refine (HCX.out _ (by exact bl)).mono ?_) <;> rintro en w9 ⟨rfl, hb9⟩ <;> have hz9 := hb9.size <;> (try simp at hz9)
        go_wp2_with fail
        refine hK.out _ _ ?_ (fun hHeld => ?_)
        · try dsimp only
          exact HSH.out _ (by exact bl)
        clear hK K
        try simp only [Act.put, List.getElem_toArray, List.getElem_cons_zero, List.getElem_cons_succ, List.setIfInBounds_toArray, List.set_cons_zero, List.set_cons_succ]
        refine wpAnyH_take (i := 10) (v := ?_) rfl (by kernel_rfl) (by kernel_rfl) (by kernel_rfl) (fun _ _ _ h => h) (Or.inl ⟨by rfl, ?_⟩) (by assumption) ?_
        rotate_left
        · intro wq hSw
          try dsimp only at hSw
          go_simp
          try with_reducible rfl
        try simp only [Act.put, List.getElem_toArray, List.getElem_cons_zero, List.getElem_cons_succ, List.setIfInBounds_toArray, List.set_cons_zero, List.set_cons_succ]
        refine wpAnyH_done (by kernel_rfl) ?_ _
        have hbW : Below wi.heap.size wi w9 := by exact bl
        have hAW := HAR.out.below hbW
        have hBW := HBT.out.trans (But.of_below hbW)
        have HAW := Lib.hid hAW
        clear HSH HCX HAR hAW
        go_wp2_with fail
        go_roundw
        case rel => exact ⟨h + 1, j, by omega, by omega, hj, by go_num, rfl, HN1, HJ, HAW.out, hBW⟩
        case measure => simp [intOf]; omega
      · have d1 : decide (Rv < 0) = false := decide_eq_false hneg
        have HN1 : Hid (∀ y', B[h - m0]? = some y' → 0 ≤ ordRc a y' x) := fun y' h2 => by
          rw [HY.out] at h2
          cases h2
          rw [HRV.out]; omega
        go_wp2_with fail
        refine wp_region_held_drew (S := (fun Z => Z.cell? ⟨b, h, none⟩ = some (.slice yA yn yc) ∧ Z.cell? ⟨b, a0, none⟩ = some (.slice xA xn xc))) (by kernel_rfl) ?_ (fun hHeld => ?_)
        · try dsimp only
          exact HSH.out _ (by exact bl)
        refine wpAnyT_start [0, 1, 2, 3, 4, 5, 6, 7, 8] ?_
        iterate 9
          refine wpAnyT_cons (v := ?_) rfl (by kernel_rfl) (by kernel_rfl) (by kernel_rfl) (fun _ _ _ h => h) (Or.inl ⟨by rfl, ?_⟩) (by assumption) ?_
          rotate_left
          · intro wq hSw
            try dsimp only at hSw
            go_simp
            try with_reducible rfl
          try simp only [Act.put, List.getElem_toArray, List.getElem_cons_zero, List.getElem_cons_succ, List.setIfInBounds_toArray, List.set_cons_zero, List.set_cons_succ]
        refine wpAnyT_nil ?_
        refine wpAnyH_ready (rs := [9]) (by kernel_rfl) (by simp) ?_
        refine AllReadyH.cons rfl (fun K hK => ?_) AllReadyH.nil
        go_simp
        (refine (HCX.out _ (by exact bl)).mono ?_) <;> rintro en w9 ⟨rfl, hb9⟩ <;> have hz9 := hb9.size <;> (try simp at hz9)
        go_wp2_with fail
        refine hK.out _ _ ?_ (fun hHeld => ?_)
        · try dsimp only
          exact HSH.out _ (by exact bl)
        clear hK K
        try simp only [Act.put, List.getElem_toArray, List.getElem_cons_zero, List.getElem_cons_succ, List.setIfInBounds_toArray, List.set_cons_zero, List.set_cons_succ]
        refine wpAnyH_take (i := 10) (v := ?_) rfl (by kernel_rfl) (by kernel_rfl) (by kernel_rfl) (fun _ _ _ h => h) (Or.inl ⟨by rfl, ?_⟩) (by assumption) ?_
        rotate_left
        · intro wq hSw
          try dsimp only at hSw
          go_simp
          try with_reducible rfl
        try simp only [Act.put, List.getElem_toArray, List.getElem_cons_zero, List.getElem_cons_succ, List.setIfInBounds_toArray, List.set_cons_zero, List.set_cons_succ]
        refine wpAnyH_done (by kernel_rfl) ?_ _
        have hbW : Below wi.heap.size wi w9 := by exact bl
        have hAW := HAR.out.below hbW
        have hBW := HBT.out.trans (But.of_below hbW)
        have HAW := Lib.hid hAW
        clear HSH HCX HAR hAW
        go_wp2_with fail
        go_roundw
        case rel => exact ⟨i, h, by omega, by omega, by omega, rfl, rfl, HI, HN1, HAW.out, hBW⟩
        case measure => simp [intOf]; omega
    · obtain rfl : i = j := by omega
      have hlB : m0 + B.length = e0 := by have := HE.out; have := HU.out; omega
      obtain ⟨B1, B2, hB, hB1⟩ := split_at B (i - m0) (by omega)
      have hlaw := merge1_law (ordRc_pre a) (x := x) (b1 := B1) (b2 := B2) (by rw [← hB]; exact HRI.out) (fun y hy => by
        rw [List.getLast?_eq_getElem?] at hy
        obtain ⟨hn, _⟩ := List.getElem?_eq_some_iff.1 hy
        refine HI.out y (by omega) ?_
        rw [hB, List.getElem?_append_left (by omega), ← hy]
        congr 1
        omega) (fun y hy => by
        refine Int.not_lt.2 (HJ.out y ?_)
        rw [hB, List.getElem?_append_right (by omega), hB1, Nat.sub_self, ← hy, List.head?_eq_getElem?])
      rw [← hB] at hlaw
      have HLAW := Lib.hid hlaw
      obtain ⟨t, ht⟩ : ∃ t, a0 + B1.length = t := ⟨_, rfl⟩
      have i2 : IntKind.i64.wrap ((i : Int) - 1) = (t : Int) := by rw [IntWalk.i64_in _ (by omega)]; omega
      have HT := Lib.hid ht
      have HST : Hid (Arr wi b 43 (U ++ ([] ++ (x :: (B1 ++ (B2 ++ S)))))) := by
        have := hR
        rw [← HH0.out, hB] at this
        show Arr _ _ _ _
        simpa using this
      have HBT := Lib.hid hbt
      have htN : t < N := by omega
      have gd : decide (i < i) = false := by simp
      clear hB hlaw ht hR hbt HI HJ hB1 hlB
      go_wp2_with fail
      go_loopw [13] (fun kv wr => ∃ (k : Nat) (X1 X2 : List Rc), k ≤ t ∧ kv = .int .i64 k ∧ Hid (k = a0 + X1.length ∧ B1 = X1 ++ X2) ∧ Arr wr b 43 (U ++ (X1 ++ (x :: (X2 ++ (B2 ++ S))))) ∧ But b w wr) (fun kv _ => t - (intOf kv).toNat)
      case atStart => exact ⟨a0, [], B1, by have := HT.out; omega, rfl, ⟨rfl, rfl⟩, HST.out, HBT.out⟩
      case round =>
        obtain ⟨k, X1, X2, hkt, rfl, HX, hR2, hbt2⟩ := hrel
        obtain ⟨wk, rfl⟩ : ∃ wk : World, wk = wr := ⟨_, rfl⟩
        obtain ⟨hx1, hx2⟩ := HX.out
        by_cases hkl : k < t
        · cases X2 with
          | nil => have := HT.out; rw [hx2] at this; simp at this; omega
          | cons z X2 =>
          obtain ⟨k1, hk1⟩ : ∃ n, k + 1 = n := ⟨_, rfl⟩
          obtain ⟨xA, xn, xc, hxc⟩ := cell_of x
          obtain ⟨zA, zn, zc, hzc⟩ := cell_of z
          have hpl : k = (U ++ X1).length := by have := HU.out; simp; omega
          obtain ⟨c1, c2, f1, f2, c3, f3, c4, f4, HA1, HA2⟩ := swap_facts (w := w) (P := U ++ X1) (S := X2 ++ (B2 ++ S)) (x := x) (y := z) (W := wk) (ty := 43) (b := b) (i := k) (j := k1) (by have := hR2; simpa using this) hbt2 hpl hk1.symm hxc hzc
          have HP : Hid (k1 = a0 + (X1 ++ [z]).length ∧ B1 = (X1 ++ [z]) ++ X2) := ⟨by simp; omega, by rw [hx2]; simp⟩
          have HAP : Hid (Arr ((wk.drew.setCell ⟨b, k, none⟩ (.slice zA zn zc)).setCell ⟨b, k1, none⟩ (.slice xA xn xc)) b 43 (U ++ ((X1 ++ [z]) ++ (x :: (X2 ++ (B2 ++ S)))))) := by
            have := HA1.out.1
            show Arr _ _ _ _
            simpa using this
          have i3 : IntKind.i64.wrap ((k : Int) + 1) = (k1 : Int) := by rw [IntWalk.i64_in _ (by omega)]; omega
          have i4 : (k : Int) + 1 = (k1 : Int) := by omega
          have j1 : (0 : Int) ≤ (k : Int) := by omega
          have j2 : (k : Int) < (N : Int) := by omega
          have j3 : (0 : Int) ≤ (k1 : Int) := by omega
          have j4 : (k1 : Int) < (N : Int) := by omega
          have k2 : k < N := by omega
          have k4 : k1 < N := by omega
          have ne1 : ¬ k = k1 := by omega
          have ne2 : ¬ k1 = k := by omega
          have hk1t : k1 ≤ t := by omega
          have hkk : k < k1 := by omega
          clear hx1 hx2 HX hR2 hbt2 hk1 hxc hzc hpl c4 f4 HA2 i4
          go_wp2_with fail
          refine wp_region_held_drew (S := (fun _ => True)) (by kernel_rfl) ?_ (fun hHeld => ?_)
          · try dsimp only
            skip
          refine wpAnyT_start [0, 1, 2, 3, 4, 5, 6, 7, 8, 10, 11, 12] ?_
          iterate 12
            refine wpAnyT_cons (v := ?_) rfl (by kernel_rfl) (by kernel_rfl) (by kernel_rfl) (fun _ _ _ h => h) (Or.inl ⟨by rfl, ?_⟩) (by assumption) ?_
            rotate_left
            · intro wq hSw
              try dsimp only at hSw
              go_simp
              try with_reducible rfl
            try simp only [Act.put, List.getElem_toArray, List.getElem_cons_zero, List.getElem_cons_succ, List.setIfInBounds_toArray, List.set_cons_zero, List.set_cons_succ]
          refine wpAnyT_nil ?_
          refine wpAnyH_ready (rs := [9, 13]) (by kernel_rfl) (by simp) ?_
          refine (AllReadyH.cons rfl (fun K hK => ?_) (AllReadyH.cons rfl (fun K hK => ?_) AllReadyH.nil))
          · skip
            go_simp
            skip
            go_wp2_with fail
            refine hK.out _ _ ?_ (fun hHeld => ?_)
            · try dsimp only
              skip
            clear hK K
            try simp only [Act.put, List.getElem_toArray, List.getElem_cons_zero, List.getElem_cons_succ, List.setIfInBounds_toArray, List.set_cons_zero, List.set_cons_succ]
            refine wpAnyH_ready (rs := [13]) (by kernel_rfl) (by simp) ?_
            refine AllReadyH.cons rfl (fun K hK => ?_) AllReadyH.nil
            go_simp
            skip
            go_wp2_with fail
            refine hK.out _ _ ?_ (fun hHeld => ?_)
            · try dsimp only
              skip
            clear hK K
            try simp only [Act.put, List.getElem_toArray, List.getElem_cons_zero, List.getElem_cons_succ, List.setIfInBounds_toArray, List.set_cons_zero, List.set_cons_succ]
            refine wpAnyH_take (i := 14) (v := ?_) rfl (by kernel_rfl) (by kernel_rfl) (by kernel_rfl) (fun _ _ _ h => h) (Or.inl ⟨by rfl, ?_⟩) (by assumption) ?_
            rotate_left
            · intro wq hSw
              try dsimp only at hSw
              go_simp
              try with_reducible rfl
            try simp only [Act.put, List.getElem_toArray, List.getElem_cons_zero, List.getElem_cons_succ, List.setIfInBounds_toArray, List.set_cons_zero, List.set_cons_succ]
            refine wpAnyH_ready (rs := [15]) (by kernel_rfl) (by simp) ?_
            refine AllReadyH.cons rfl (fun K hK => ?_) AllReadyH.nil
            go_simp
            skip
            go_wp2_with fail
            refine hK.out _ _ ?_ (fun hHeld => ?_)
            · try dsimp only
              skip
            clear hK K
            try simp only [Act.put, List.getElem_toArray, List.getElem_cons_zero, List.getElem_cons_succ, List.setIfInBounds_toArray, List.set_cons_zero, List.set_cons_succ]
            refine wpAnyH_take (i := 16) (v := ?_) rfl (by kernel_rfl) (by kernel_rfl) (by kernel_rfl) (fun _ _ _ h => h) (Or.inl ⟨by rfl, ?_⟩) (by assumption) ?_
            rotate_left
            · intro wq hSw
              try dsimp only at hSw
              go_simp
              try with_reducible rfl
            try simp only [Act.put, List.getElem_toArray, List.getElem_cons_zero, List.getElem_cons_succ, List.setIfInBounds_toArray, List.set_cons_zero, List.set_cons_succ]
            refine wpAnyH_ready (rs := [17]) (by kernel_rfl) (by simp) ?_
            refine AllReadyH.cons rfl (fun K hK => ?_) AllReadyH.nil
            go_simp
            skip
            go_wp2_with fail
            refine hK.out _ _ ?_ (fun hHeld => ?_)
            · try dsimp only
              skip
            clear hK K
            try simp only [Act.put, List.getElem_toArray, List.getElem_cons_zero, List.getElem_cons_succ, List.setIfInBounds_toArray, List.set_cons_zero, List.set_cons_succ]
            refine wpAnyH_done (by kernel_rfl) ?_ _
            go_wp2_with fail
            go_roundw
            case rel => exact ⟨k1, X1 ++ [z], X2, hk1t, rfl, HP.out, HAP.out, HA1.out.2⟩
            case measure => simp [intOf]; omega
          · skip
            go_simp
            skip
            go_wp2_with fail
            refine hK.out _ _ ?_ (fun hHeld => ?_)
            · try dsimp only
              skip
            clear hK K
            try simp only [Act.put, List.getElem_toArray, List.getElem_cons_zero, List.getElem_cons_succ, List.setIfInBounds_toArray, List.set_cons_zero, List.set_cons_succ]
            refine wpAnyH_ready (rs := [9]) (by kernel_rfl) (by simp) ?_
            refine AllReadyH.cons rfl (fun K hK => ?_) AllReadyH.nil
            go_simp
            skip
            go_wp2_with fail
            refine hK.out _ _ ?_ (fun hHeld => ?_)
            · try dsimp only
              skip
            clear hK K
            try simp only [Act.put, List.getElem_toArray, List.getElem_cons_zero, List.getElem_cons_succ, List.setIfInBounds_toArray, List.set_cons_zero, List.set_cons_succ]
            refine wpAnyH_take (i := 14) (v := ?_) rfl (by kernel_rfl) (by kernel_rfl) (by kernel_rfl) (fun _ _ _ h => h) (Or.inl ⟨by rfl, ?_⟩) (by assumption) ?_
            rotate_left
            · intro wq hSw
              try dsimp only at hSw
              go_simp
              try with_reducible rfl
            try simp only [Act.put, List.getElem_toArray, List.getElem_cons_zero, List.getElem_cons_succ, List.setIfInBounds_toArray, List.set_cons_zero, List.set_cons_succ]
            refine wpAnyH_ready (rs := [15]) (by kernel_rfl) (by simp) ?_
            refine AllReadyH.cons rfl (fun K hK => ?_) AllReadyH.nil
            go_simp
            skip
            go_wp2_with fail
            refine hK.out _ _ ?_ (fun hHeld => ?_)
            · try dsimp only
              skip
            clear hK K
            try simp only [Act.put, List.getElem_toArray, List.getElem_cons_zero, List.getElem_cons_succ, List.setIfInBounds_toArray, List.set_cons_zero, List.set_cons_succ]
            refine wpAnyH_take (i := 16) (v := ?_) rfl (by kernel_rfl) (by kernel_rfl) (by kernel_rfl) (fun _ _ _ h => h) (Or.inl ⟨by rfl, ?_⟩) (by assumption) ?_
            rotate_left
            · intro wq hSw
              try dsimp only at hSw
              go_simp
              try with_reducible rfl
            try simp only [Act.put, List.getElem_toArray, List.getElem_cons_zero, List.getElem_cons_succ, List.setIfInBounds_toArray, List.set_cons_zero, List.set_cons_succ]
            refine wpAnyH_ready (rs := [17]) (by kernel_rfl) (by simp) ?_
            refine AllReadyH.cons rfl (fun K hK => ?_) AllReadyH.nil
            go_simp
            skip
            go_wp2_with fail
            refine hK.out _ _ ?_ (fun hHeld => ?_)
            · try dsimp only
              skip
            clear hK K
            try simp only [Act.put, List.getElem_toArray, List.getElem_cons_zero, List.getElem_cons_succ, List.setIfInBounds_toArray, List.set_cons_zero, List.set_cons_succ]
            refine wpAnyH_done (by kernel_rfl) ?_ _
            go_wp2_with fail
            go_roundw
            case rel => exact ⟨k1, X1 ++ [z], X2, hk1t, rfl, HP.out, HAP.out, HA1.out.2⟩
            case measure => simp [intOf]; omega
        · have hX2 : X2 = [] := by
            have := HT.out
            rw [hx2] at this
            refine List.eq_nil_of_length_eq_zero ?_
            simp at this
            omega
          subst hX2
          have HFA : Hid (Arr wk b 43 (U ++ ((B1 ++ x :: B2) ++ S))) := by
            have := hR2
            show Arr _ _ _ _
            rw [hx2]
            simpa using this
          have HBT2 := Lib.hid hbt2
          clear hx1 hx2 HX hR2 hbt2
          go_wp2_with fail
          refine bodyPost_ret (v := .tuple #[]) (by simp [results, Tryz.results105, go_sem, *]) rfl ⟨rfl, ⟨_, ⟨B1 ++ x :: B2, rfl, HLAW.out.1, HLAW.out.2⟩, HFA.out⟩, HBT2.out⟩

end Go.Proofs.YtdhjogmkhbpcgaaGreat
