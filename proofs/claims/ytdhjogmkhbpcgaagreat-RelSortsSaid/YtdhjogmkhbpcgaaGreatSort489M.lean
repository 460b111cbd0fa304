/- slices.insertionSortCmpFunc: rows are put in order, alike ones as they stood. Condition: a row of rows in one block, each row's memory elsewhere. slices.stableCmpFunc and SortStableFunc: rows are put in order, alike ones as they stood. Condition: a row of rows in one block, each row's memory elsewhere. Sorting no rows at all; what is sorted, in plain words. -/
import Derived.Test.YtdhjogmkhbpcgaaGreatTake
import Derived.Test.YtdhjogmkhbpcgaaGreatOrdM
import Derived.Test.YtdhjogmkhbpcgaaGreatSort7
namespace Go.Proofs.YtdhjogmkhbpcgaaGreat
open Go.RowKit

attribute [local go_sem] ByteArray.extract_mk ba_get
attribute [local go_sem ↓] Go.wp_at_zero Go.wp_at_succ

set_option maxRecDepth 100000 in
set_option maxHeartbeats 16000000 in
theorem insertion_any (a : Int) (b c : Nat) (K U L S : List Rc) (w : World) (hl : (U ++ (L ++ S)).length ≤ 1000000) (hA : Arr w b 43 (U ++ (L ++ S))) (hC : CmpOk a b K w) (hK : ∀ q ∈ L, q ∈ K) :
    Calls Tryz.prog 104 #[.slice (some ⟨b, 0, none⟩) (U ++ (L ++ S)).length c, .int .i64 U.length, .int .i64 ((U.length + L.length : Nat) : Int), .func (.func 37) #[.agg #[.int .i64 a]] #[]] w
      (RetS b 43 (fun H' => ∃ L', H' = U ++ (L' ++ S) ∧ Rise (ordRc a) L' ∧ Stab (ordRc a) L L') w) := by
  obtain ⟨N, hN⟩ : ∃ N, (U ++ (L ++ S)).length = N := ⟨_, rfl⟩
  have hNN := hN
  rw [hN] at hl ⊢
  simp only [List.length_append] at hNN
  obtain ⟨e0, he0⟩ : ∃ j, U.length + L.length = j := ⟨_, rfl⟩
  obtain ⟨a0, ha0⟩ : ∃ i, U.length = i := ⟨_, rfl⟩
  rw [he0, ha0]
  have HE := Lib.hid he0
  have HU := Lib.hid ha0
  have HN := Lib.hid hNN
  have HC := Lib.hid hC
  have HK := Lib.hid hK
  have hb2 : e0 ≤ N := by omega
  have hb3 : a0 ≤ e0 := by omega
  have i1 : IntKind.i64.wrap ((a0 : Int) + 1) = (a0 : Int) + 1 := IntWalk.i64_in _ (by omega)
  clear he0 ha0 hNN hN hC hK
  go_enter Tryz.func104, Tryz.ntmps104
  go_wp2_with fail
  go_loopw [8] (fun i wr => ∃ (k : Nat) (P R : List Rc), 1 ≤ k ∧ k ≤ e0 + 1 ∧ i = .int .i64 ((a0 : Int) + (k : Int)) ∧ Hid (P.length ≤ k ∧ (P.length = k ∨ R = []) ∧ Rise (ordRc a) P ∧ Stab (ordRc a) L (P ++ R)) ∧ Arr wr b 43 (U ++ (P ++ (R ++ S))) ∧ But b w wr) (fun i _ => e0 + 2 - (intOf i).toNat)
  case atStart =>
    cases L with
    | nil => exact ⟨1, [], [], by omega, by omega, by go_num, ⟨by simp, Or.inr rfl, List.Pairwise.nil, Stab.refl _⟩, hA, But.refl _ _⟩
    | cons x r => exact ⟨1, [x], r, by omega, by omega, by go_num, ⟨by simp, Or.inl rfl, by simp [Rise], Stab.refl _⟩, hA, But.refl _ _⟩
  case round =>
    obtain ⟨k, P, R, hk1, hk2, rfl, HP, hR, hbt⟩ := hrel
    obtain ⟨wo, rfl⟩ : ∃ wo : World, wo = wr := ⟨_, rfl⟩
    obtain ⟨hPl, hPR, hRi, hST⟩ := HP.out
    have hlen := hST.1.length_eq
    have hE := HE.out
    have hU := HU.out
    simp only [List.length_append] at hlen
    by_cases hlt : a0 + k < e0
    · have hPk : P.length = k := by
        rcases hPR with h | h
        · exact h
        · rw [h] at hlen; simp at hlen; omega
      cases R with
      | nil => simp at hlen; omega
      | cons x R' =>
      have gd : decide ((a0 : Int) + (k : Int) < (e0 : Int)) = true := decide_eq_true (by omega)
      clear HP hPR hE hlen hPl
      go_wp2_with fail
      go_loopw [9] (fun jv wr => ∃ (j : Nat) (A Bq : List Rc), j ≤ N ∧ jv = .int .i64 j ∧ Hid (j = a0 + A.length ∧ P = A ++ Bq ∧ ∀ y ∈ Bq, 0 < ordRc a y x) ∧ Arr wr b 43 (U ++ (A ++ (x :: (Bq ++ (R' ++ S))))) ∧ But b w wr) (fun jv _ => (intOf jv).toNat)
      case atStart => exact ⟨a0 + k, P, [], by omega, by go_num, ⟨by omega, by simp, by simp⟩, by simpa using hR, hbt⟩
      case round =>
        obtain ⟨j, A, Bq, hjN, rfl, HJ, hR2, hbt2⟩ := hrel
        obtain ⟨wi, rfl⟩ : ∃ wi : World, wi = wr := ⟨_, rfl⟩
        obtain ⟨hj, hPAB, hAB⟩ := HJ.out
        by_cases hA0 : A = []
        · subst hA0
          have hjj : j = a0 := by simpa using hj
          have hRB : Rise (ordRc a) Bq := by rw [hPAB] at hRi; simpa using hRi
          have hpi := put_in (ordRc_pre a) (a := []) (b := Bq) (x := x) (by simpa using hRB) (Or.inl rfl) hAB
          have HNX : Hid (Rise (ordRc a) (x :: Bq) ∧ Stab (ordRc a) L ((x :: Bq) ++ R') ∧ (x :: Bq).length = k + 1) := by
            refine ⟨by simpa using hpi.1, ?_, by rw [hPAB] at hPk; simpa using hPk⟩
            have h1 : Stab (ordRc a) ([] ++ Bq ++ [x] ++ R') ([] ++ x :: Bq ++ R') := hpi.2.app (Stab.refl R')
            refine hST.trans ?_
            rw [hPAB]
            simpa using h1
          have hR3 : Arr wi b 43 (U ++ ((x :: Bq) ++ (R' ++ S))) := by simpa using hR2
          have g1 : decide ((a0 : Int) < (j : Int)) = false := decide_eq_false (by omega)
          have g2 : decide (a0 < j) = false := decide_eq_false (by omega)
          have i2 : IntKind.i64.wrap ((a0 : Int) + (k : Int) + 1) = (a0 : Int) + (k : Int) + 1 := IntWalk.i64_in _ (by omega)
          clear hj hPAB hAB hpi hRB HJ hST hRi hPk hjj hR hR2
          go_wp2_with fail
          refine wp_region_held_drew (S := (fun _ => True)) (by kernel_rfl) ?_ (fun hHeld => ?_)
          · try dsimp only
            skip
          refine wpAnyT_start [0, 1, 2, 3] ?_
          iterate 4
            refine wpAnyT_cons (v := ?_) rfl (by kernel_rfl) (by kernel_rfl) (by kernel_rfl) (fun _ _ _ h => h) (Or.inl ⟨by rfl, ?_⟩) (by assumption) ?_
            rotate_left
            · intro wq hSw
              try dsimp only at hSw
              go_simp
              try with_reducible rfl
            try simp only [Act.put, List.getElem_toArray, List.getElem_cons_zero, List.getElem_cons_succ, List.setIfInBounds_toArray, List.set_cons_zero, List.set_cons_succ]
          refine wpAnyT_nil ?_
          refine wpAnyT_start [4, 5, 6, 7, 8, 9, 10, 11, 12, 13, 14, 15] ?_
          iterate 12
            refine wpAnyT_cons (v := undef) rfl (by kernel_rfl) (by kernel_rfl) (by kernel_rfl) (fun _ _ _ h => h) (Or.inr ⟨by rfl, rfl⟩) (by assumption) ?_
            try simp only [Act.put, List.getElem_toArray, List.getElem_cons_zero, List.getElem_cons_succ, List.setIfInBounds_toArray, List.set_cons_zero, List.set_cons_succ]
          refine wpAnyT_nil ?_
          refine wpAnyH_take (i := 16) (v := ?_) rfl (by kernel_rfl) (by kernel_rfl) (by kernel_rfl) (fun _ _ _ h => h) (Or.inl ⟨by rfl, ?_⟩) (by assumption) ?_
          rotate_left
          · intro wq hSw
            try dsimp only at hSw
            go_simp
            try with_reducible rfl
          try simp only [Act.put, List.getElem_toArray, List.getElem_cons_zero, List.getElem_cons_succ, List.setIfInBounds_toArray, List.set_cons_zero, List.set_cons_succ]
          refine wpAnyH_done (by kernel_rfl) ?_ _
          go_wp2_with fail
          go_roundw
          case rel => exact ⟨k + 1, x :: Bq, R', by omega, by omega, by go_num, ⟨by have := HNX.out.2.2; omega, Or.inl HNX.out.2.2, HNX.out.1, HNX.out.2.1⟩, hR3, hbt2.drew⟩
          case measure => simp [intOf]; omega
        · obtain ⟨A', y, rfl⟩ := last_split A hA0
          simp only [List.length_append, List.length_cons, List.length_nil] at hj
          obtain ⟨m, hm⟩ : ∃ m, a0 + A'.length = m := ⟨_, rfl⟩
          have hjm : j = m + 1 := by omega
          have hmU : m = (U ++ A').length := by simp; omega
          have hR3 : Arr wi b 43 ((U ++ A') ++ y :: ([] ++ x :: (Bq ++ (R' ++ S)))) := by simpa using hR2
          obtain ⟨s1, s2⟩ := swap_at (P := U ++ A') (M := []) (S := Bq ++ (R' ++ S)) (x := y) (y := x)
          have hmL : j = (U ++ A').length + 1 + ([] : List Rc).length := by simp at hmU ⊢; omega
          rw [← hmU] at s1
          rw [← hmL] at s2
          have hxK : x ∈ K := HK.out x (hST.1.mem_iff.1 (by simp))
          have hyK : y ∈ K := HK.out y (hST.1.mem_iff.1 (by rw [hPAB]; simp))
          obtain ⟨Rv, hRv⟩ : ∃ Rv, ordRc a x y = Rv := ⟨_, rfl⟩
          have HCX : Hid (∀ Z : World, Below wi.heap.size wi Z → Calls Tryz.prog 37 #[.agg #[.int .i64 a], x.cell, y.cell] Z (Ret (.int .i64 Rv) Z)) := fun Z hz => by
            have := HC.out Z x y (hbt2.trans (But.of_below hz)) hxK hyK
            rw [hRv] at this
            exact this
          have hb0 := hR3.lt
          have HSH : Hid (∀ Z : World, Below wi.heap.size wi Z → Z.cell? ⟨b, j, none⟩ = some x.cell ∧ Z.cell? ⟨b, m, none⟩ = some y.cell) := fun Z hz => ⟨(hR3.below hz).cell s2, (hR3.below hz).cell s1⟩
          have HAR := Lib.hid hR3
          have HBT := Lib.hid hbt2
          have HM1 := Lib.hid hmU
          have HM2 := Lib.hid hmL
          have HJM := Lib.hid hjm
          have HMA := Lib.hid hm
          have HAB := Lib.hid hAB
          have HPA := Lib.hid hPAB
          have HRI := Lib.hid hRi
          have HSTH := Lib.hid hST
          have HPK := Lib.hid hPk
          have hb01 : j ≤ 1000000 := by omega
          have hjN2 : j < N := by
            have := HN.out
            have h1 := HPK.out
            have h2 := HSTH.out.1.length_eq
            rw [HPA.out] at h1 h2
            simp at h1 h2
            omega
          have g1 : decide ((a0 : Int) < (j : Int)) = true := decide_eq_true (by omega)
          have g2 : decide (a0 < j) = true := decide_eq_true (by omega)
          have g3 : a0 < j := by omega
          have i2 : IntKind.i64.wrap ((a0 : Int) + (k : Int) + 1) = (a0 : Int) + (k : Int) + 1 := IntWalk.i64_in _ (by omega)
          have i3 : IntKind.i64.wrap ((j : Int) - 1) = (m : Int) := by rw [IntWalk.i64_in _ (by omega)]; omega
          have j1 : (0 : Int) ≤ (j : Int) := by omega
          have j2 : (j : Int) < (N : Int) := by omega
          have j3 : (0 : Int) ≤ (m : Int) := by omega
          have j4 : (m : Int) < (N : Int) := by omega
          have k3 : m < N := by omega
          obtain ⟨⟨xA, xc⟩, xr⟩ := x
          obtain ⟨⟨yA, yc⟩, yr⟩ := y
          dsimp only [Rc.cell] at HSH HCX
          obtain ⟨xn, hxn⟩ : ∃ n, xr.length = n := ⟨_, rfl⟩
          obtain ⟨yn, hyn⟩ : ∃ n, yr.length = n := ⟨_, rfl⟩
          rw [hxn] at HCX HSH
          rw [hyn] at HCX HSH
          have HXN := Lib.hid hxn
          have HYN := Lib.hid hyn
          have HRV := Lib.hid hRv
          clear hj hPAB hAB HJ hST hRi hPk hR hR2 hR3 hbt2 hjm hmU hmL hm hxK hyK hRv s1 s2 hxn hyn hA0
          by_cases hneg : Rv < 0
          · have d1 : decide (Rv < 0) = true := decide_eq_true hneg
            go_wp2_with fail
            refine wp_region_held_drew (S := (fun Z => Z.cell? ⟨b, j, none⟩ = some (.slice xA xn xc) ∧ Z.cell? ⟨b, m, none⟩ = some (.slice yA yn yc))) (by kernel_rfl) ?_ (fun hHeld => ?_)
            · try dsimp only
              exact HSH.out _ (by exact bl)
            refine wpAnyT_start [0, 1, 2, 3, 4, 5, 6, 7, 8, 9, 10, 11, 12, 13] ?_
            iterate 14
              refine wpAnyT_cons (v := ?_) rfl (by kernel_rfl) (by kernel_rfl) (by kernel_rfl) (fun _ _ _ h => h) (Or.inl ⟨by rfl, ?_⟩) (by assumption) ?_
              rotate_left
              · intro wq hSw
                try dsimp only at hSw
                go_simp
                try with_reducible rfl
              try simp only [Act.put, List.getElem_toArray, List.getElem_cons_zero, List.getElem_cons_succ, List.setIfInBounds_toArray, List.set_cons_zero, List.set_cons_succ]
            refine wpAnyT_nil ?_
            refine wpAnyH_ready (rs := [14]) (by kernel_rfl) (by simp) ?_
            refine AllReadyH.cons rfl (fun K hK => ?_) AllReadyH.nil
            go_simp
            (refine (HCX.out _ (by exact bl)).mono ?_) <;> rintro en w14 ⟨rfl, hb14⟩ <;> have hz14 := hb14.size <;> (try simp at hz14)
            go_wp2_with fail
            refine hK.out _ _ ?_ (fun hHeld => ?_)
            · try dsimp only
              exact HSH.out _ (by exact bl)
            clear hK K
            try simp only [Act.put, List.getElem_toArray, List.getElem_cons_zero, List.getElem_cons_succ, List.setIfInBounds_toArray, List.set_cons_zero, List.set_cons_succ]
            refine wpAnyT_start [15, 16] ?_
            iterate 2
              refine wpAnyT_cons (v := ?_) rfl (by kernel_rfl) (by kernel_rfl) (by kernel_rfl) (fun _ _ _ h => h) (Or.inl ⟨by rfl, ?_⟩) (by assumption) ?_
              rotate_left
              · intro wq hSw
                try dsimp only at hSw
                go_simp
                try with_reducible rfl
              try simp only [Act.put, List.getElem_toArray, List.getElem_cons_zero, List.getElem_cons_succ, List.setIfInBounds_toArray, List.set_cons_zero, List.set_cons_succ]
            refine wpAnyT_nil ?_
            refine wpAnyH_done (by kernel_rfl) ?_ _
            have hbW : Below wi.heap.size wi w14 := by exact bl
            have hAW := HAR.out.below hbW
            have c1 := hAW.cell (i := m) (q := ⟨⟨yA, yc⟩, yr⟩) (by rw [HM1.out]; exact (swap_at (M := []) (y := ⟨⟨xA, xc⟩, xr⟩)).1)
            have c2 := hAW.cell (i := j) (q := ⟨⟨xA, xc⟩, xr⟩) (by rw [HM2.out]; exact (swap_at (M := []) (x := ⟨⟨yA, yc⟩, yr⟩)).2)
            have f1 := hAW.frozen m
            have f2 := hAW.frozen j
            have hsw := (Arr.drew hAW).swap' HM1.out HM2.out
            have HP2 : Hid (Arr ((w14.drew.setCell ⟨b, j, none⟩ (Rc.cell ⟨⟨yA, yc⟩, yr⟩)).setCell ⟨b, m, none⟩ (Rc.cell ⟨⟨xA, xc⟩, xr⟩)) b 43 (U ++ (A' ++ (⟨⟨xA, xc⟩, xr⟩ :: ((⟨⟨yA, yc⟩, yr⟩ :: Bq) ++ (R' ++ S)))))) := by
              have e : U ++ (A' ++ (⟨⟨xA, xc⟩, xr⟩ :: ((⟨⟨yA, yc⟩, yr⟩ :: Bq) ++ (R' ++ S)))) = (U ++ A') ++ ⟨⟨xA, xc⟩, xr⟩ :: ([] ++ ⟨⟨yA, yc⟩, yr⟩ :: (Bq ++ (R' ++ S))) := by simp
              rw [e]
              exact hsw
            have HB2 : Hid (But b w ((w14.drew.setCell ⟨b, j, none⟩ (Rc.cell ⟨⟨yA, yc⟩, yr⟩)).setCell ⟨b, m, none⟩ (Rc.cell ⟨⟨xA, xc⟩, xr⟩))) := (((HBT.out.trans (But.of_below hbW)).drew).set _ _).set _ _
            have c1' : (w14.drew.setCell ⟨b, j, none⟩ (Rc.cell ⟨⟨yA, yc⟩, yr⟩)).cell? ⟨b, m, none⟩ = some (Rc.cell ⟨⟨yA, yc⟩, yr⟩) := by
              have := ((Arr.drew hAW).set (i := j) (by rw [HM2.out]; simp; omega) ⟨⟨yA, yc⟩, yr⟩).cell (i := m) (q := ⟨⟨yA, yc⟩, yr⟩) (by rw [List.getElem?_set_ne (by have := HJM.out; omega), HM1.out]; exact (swap_at (M := []) (y := ⟨⟨xA, xc⟩, xr⟩)).1)
              exact this
            have f1' : (w14.drew.setCell ⟨b, j, none⟩ (Rc.cell ⟨⟨yA, yc⟩, yr⟩)).frozen? ⟨b, m, none⟩ = false := ((Arr.drew hAW).set (i := j) (by rw [HM2.out]; simp; omega) ⟨⟨yA, yc⟩, yr⟩).frozen _
            dsimp only [Rc.cell] at c1 c2 c1' f1' HP2 HB2
            rw [HXN.out] at c2 HP2 HB2
            rw [HYN.out] at c1 c1' f1' HP2 HB2
            have HNX : Hid (j - 1 = a0 + A'.length ∧ P = A' ++ (⟨⟨yA, yc⟩, yr⟩ :: Bq) ∧ ∀ z ∈ (⟨⟨yA, yc⟩, yr⟩ :: Bq : List Rc), 0 < ordRc a z ⟨⟨xA, xc⟩, xr⟩) := by
              refine ⟨by have := HMA.out; have := HJM.out; omega, by rw [HPA.out]; simp, fun z hz => ?_⟩
              rcases List.mem_cons.1 hz with rfl | hz
              · have := HRV.out
                exact ((ordRc_pre a).flip _ _).1 (by rw [this]; exact hneg)
              · exact HAB.out z hz
            have ne1 : ¬ (j = m) := by have := HJM.out; omega
            have ne2 : ¬ (m = j) := by have := HJM.out; omega
            have HJM1 : Hid ((m : Int) = ((j - 1 : Nat) : Int)) := by have := HJM.out; show _ = _; omega
            clear hAW hsw HSH HCX HAR
            go_wp2_with fail
            refine wp_region_held_drew (S := (fun _ => True)) (by kernel_rfl) ?_ (fun hHeld => ?_)
            · try dsimp only
              skip
            refine wpAnyT_start [0, 1, 2, 3, 4, 5, 6, 7, 8, 10, 11, 12] ?_
            iterate 12
              refine wpAnyT_cons (v := ?_) rfl (by kernel_rfl) (by kernel_rfl) (by kernel_rfl) (fun _ _ _ h => h) (Or.inl ⟨by rfl, ?_⟩) (by assumption) ?_
              rotate_left
              · intro wq hSw
                try dsimp only at hSw
                go_simp
                try with_reducible rfl
              try simp only [Act.put, List.getElem_toArray, List.getElem_cons_zero, List.getElem_cons_succ, List.setIfInBounds_toArray, List.set_cons_zero, List.set_cons_succ]
            refine wpAnyT_nil ?_
            refine wpAnyH_ready (rs := [9, 13]) (by kernel_rfl) (by simp) ?_
            refine (AllReadyH.cons rfl (fun K hK => ?_) (AllReadyH.cons rfl (fun K hK => ?_) AllReadyH.nil))
            · skip
              go_simp
              skip
              go_wp2_with fail
              refine hK.out _ _ ?_ (fun hHeld => ?_)
              · try dsimp only
                skip
              clear hK K
              try simp only [Act.put, List.getElem_toArray, List.getElem_cons_zero, List.getElem_cons_succ, List.setIfInBounds_toArray, List.set_cons_zero, List.set_cons_succ]
              refine wpAnyH_ready (rs := [13]) (by kernel_rfl) (by simp) ?_
              refine AllReadyH.cons rfl (fun K hK => ?_) AllReadyH.nil
              go_simp
              skip
              go_wp2_with fail
              refine hK.out _ _ ?_ (fun hHeld => ?_)
              · try dsimp only
                skip
              clear hK K
              try simp only [Act.put, List.getElem_toArray, List.getElem_cons_zero, List.getElem_cons_succ, List.setIfInBounds_toArray, List.set_cons_zero, List.set_cons_succ]
              refine wpAnyH_take (i := 14) (v := ?_) rfl (by kernel_rfl) (by kernel_rfl) (by kernel_rfl) (fun _ _ _ h => h) (Or.inl ⟨by rfl, ?_⟩) (by assumption) ?_
              rotate_left
              · intro wq hSw
                try dsimp only at hSw
                go_simp
                try with_reducible rfl
              try simp only [Act.put, List.getElem_toArray, List.getElem_cons_zero, List.getElem_cons_succ, List.setIfInBounds_toArray, List.set_cons_zero, List.set_cons_succ]
              refine wpAnyH_ready (rs := [15]) (by kernel_rfl) (by simp) ?_
              refine AllReadyH.cons rfl (fun K hK => ?_) AllReadyH.nil
              go_simp
              skip
              go_wp2_with fail
              refine hK.out _ _ ?_ (fun hHeld => ?_)
              · try dsimp only
                skip
              clear hK K
              try simp only [Act.put, List.getElem_toArray, List.getElem_cons_zero, List.getElem_cons_succ, List.setIfInBounds_toArray, List.set_cons_zero, List.set_cons_succ]
              refine wpAnyH_take (i := 16) (v := ?_) rfl (by kernel_rfl) (by kernel_rfl) (by kernel_rfl) (fun _ _ _ h => h) (Or.inl ⟨by rfl, ?_⟩) (by assumption) ?_
              rotate_left
              · intro wq hSw
                try dsimp only at hSw
                go_simp
                try with_reducible rfl
              try simp only [Act.put, List.getElem_toArray, List.getElem_cons_zero, List.getElem_cons_succ, List.setIfInBounds_toArray, List.set_cons_zero, List.set_cons_succ]
              refine wpAnyH_ready (rs := [17]) (by kernel_rfl) (by simp) ?_
              refine AllReadyH.cons rfl (fun K hK => ?_) AllReadyH.nil
              go_simp
              skip
              go_wp2_with fail
              refine hK.out _ _ ?_ (fun hHeld => ?_)
              · try dsimp only
                skip
              clear hK K
              try simp only [Act.put, List.getElem_toArray, List.getElem_cons_zero, List.getElem_cons_succ, List.setIfInBounds_toArray, List.set_cons_zero, List.set_cons_succ]
              refine wpAnyH_done (by kernel_rfl) ?_ _
              go_wp2_with fail
              go_roundw
              case rel => exact ⟨j - 1, A', ⟨⟨yA, yc⟩, yr⟩ :: Bq, by omega, by rw [HJM1.out], HNX.out, HP2.out, HB2.out⟩
              case measure => have hjj := HJM.out; simp [intOf]; omega
            · skip
              go_simp
              skip
              go_wp2_with fail
              refine hK.out _ _ ?_ (fun hHeld => ?_)
              · try dsimp only
                skip
              clear hK K
              try simp only [Act.put, List.getElem_toArray, List.getElem_cons_zero, List.getElem_cons_succ, List.setIfInBounds_toArray, List.set_cons_zero, List.set_cons_succ]
              refine wpAnyH_ready (rs := [9]) (by kernel_rfl) (by simp) ?_
              refine AllReadyH.cons rfl (fun K hK => ?_) AllReadyH.nil
              go_simp
              skip
              go_wp2_with fail
              refine hK.out _ _ ?_ (fun hHeld => ?_)
              · try dsimp only
                skip
              clear hK K
              try simp only [Act.put, List.getElem_toArray, List.getElem_cons_zero, List.getElem_cons_succ, List.setIfInBounds_toArray, List.set_cons_zero, List.set_cons_succ]
              refine wpAnyH_take (i := 14) (v := ?_) rfl (by kernel_rfl) (by kernel_rfl) (by kernel_rfl) (fun _ _ _ h => h) (Or.inl ⟨by rfl, ?_⟩) (by assumption) ?_
              rotate_left
              · intro wq hSw
                try dsimp only at hSw
                go_simp
                try with_reducible rfl
              try simp only [Act.put, List.getElem_toArray, List.getElem_cons_zero, List.getElem_cons_succ, List.setIfInBounds_toArray, List.set_cons_zero, List.set_cons_succ]
              refine wpAnyH_ready (rs := [15]) (by kernel_rfl) (by simp) ?_
              refine AllReadyH.cons rfl (fun K hK => ?_) AllReadyH.nil
              go_simp
              skip
              go_wp2_with fail
              refine hK.out _ _ ?_ (fun hHeld => ?_)
              · try dsimp only
                skip
              clear hK K
              try simp only [Act.put, List.getElem_toArray, List.getElem_cons_zero, List.getElem_cons_succ, List.setIfInBounds_toArray, List.set_cons_zero, List.set_cons_succ]
              refine wpAnyH_take (i := 16) (v := ?_) rfl (by kernel_rfl) (by kernel_rfl) (by kernel_rfl) (fun _ _ _ h => h) (Or.inl ⟨by rfl, ?_⟩) (by assumption) ?_
              rotate_left
              · intro wq hSw
                try dsimp only at hSw
                go_simp
                try with_reducible rfl
              try simp only [Act.put, List.getElem_toArray, List.getElem_cons_zero, List.getElem_cons_succ, List.setIfInBounds_toArray, List.set_cons_zero, List.set_cons_succ]
              refine wpAnyH_ready (rs := [17]) (by kernel_rfl) (by simp) ?_
              refine AllReadyH.cons rfl (fun K hK => ?_) AllReadyH.nil
              go_simp
              skip
              go_wp2_with fail
              refine hK.out _ _ ?_ (fun hHeld => ?_)
              · try dsimp only
                skip
              clear hK K
              try simp only [Act.put, List.getElem_toArray, List.getElem_cons_zero, List.getElem_cons_succ, List.setIfInBounds_toArray, List.set_cons_zero, List.set_cons_succ]
              refine wpAnyH_done (by kernel_rfl) ?_ _
              go_wp2_with fail
              go_roundw
              case rel => exact ⟨j - 1, A', ⟨⟨yA, yc⟩, yr⟩ :: Bq, by omega, by rw [HJM1.out], HNX.out, HP2.out, HB2.out⟩
              case measure => have hjj := HJM.out; simp [intOf]; omega
          · have d1 : decide (Rv < 0) = false := decide_eq_false hneg
            go_wp2_with fail
            refine wp_region_held_drew (S := (fun Z => Z.cell? ⟨b, j, none⟩ = some (.slice xA xn xc) ∧ Z.cell? ⟨b, m, none⟩ = some (.slice yA yn yc))) (by kernel_rfl) ?_ (fun hHeld => ?_)
            · try dsimp only
              exact HSH.out _ (by exact bl)
            refine wpAnyT_start [0, 1, 2, 3, 4, 5, 6, 7, 8, 9, 10, 11, 12, 13] ?_
            iterate 14
              refine wpAnyT_cons (v := ?_) rfl (by kernel_rfl) (by kernel_rfl) (by kernel_rfl) (fun _ _ _ h => h) (Or.inl ⟨by rfl, ?_⟩) (by assumption) ?_
              rotate_left
              · intro wq hSw
                try dsimp only at hSw
                go_simp
                try with_reducible rfl
              try simp only [Act.put, List.getElem_toArray, List.getElem_cons_zero, List.getElem_cons_succ, List.setIfInBounds_toArray, List.set_cons_zero, List.set_cons_succ]
            refine wpAnyT_nil ?_
            refine wpAnyH_ready (rs := [14]) (by kernel_rfl) (by simp) ?_
            refine AllReadyH.cons rfl (fun K hK => ?_) AllReadyH.nil
            go_simp
            (refine (HCX.out _ (by exact bl)).mono ?_) <;> rintro en w14 ⟨rfl, hb14⟩ <;> have hz14 := hb14.size <;> (try simp at hz14)
            go_wp2_with fail
            refine hK.out _ _ ?_ (fun hHeld => ?_)
            · try dsimp only
              exact HSH.out _ (by exact bl)
            clear hK K
            try simp only [Act.put, List.getElem_toArray, List.getElem_cons_zero, List.getElem_cons_succ, List.setIfInBounds_toArray, List.set_cons_zero, List.set_cons_succ]
            refine wpAnyT_start [15, 16] ?_
            iterate 2
              refine wpAnyT_cons (v := ?_) rfl (by kernel_rfl) (by kernel_rfl) (by kernel_rfl) (fun _ _ _ h => h) (Or.inl ⟨by rfl, ?_⟩) (by assumption) ?_
              rotate_left
              · intro wq hSw
                try dsimp only at hSw
                go_simp
                try with_reducible rfl
              try simp only [Act.put, List.getElem_toArray, List.getElem_cons_zero, List.getElem_cons_succ, List.setIfInBounds_toArray, List.set_cons_zero, List.set_cons_succ]
            refine wpAnyT_nil ?_
            refine wpAnyH_done (by kernel_rfl) ?_ _
            have hbW : Below wi.heap.size wi w14 := by exact bl
            have hAW := HAR.out.below hbW
            have HPI : Hid (Rise (ordRc a) (A' ++ ⟨⟨yA, yc⟩, yr⟩ :: ⟨⟨xA, xc⟩, xr⟩ :: Bq) ∧ Stab (ordRc a) L ((A' ++ ⟨⟨yA, yc⟩, yr⟩ :: ⟨⟨xA, xc⟩, xr⟩ :: Bq) ++ R') ∧ (A' ++ ⟨⟨yA, yc⟩, yr⟩ :: ⟨⟨xA, xc⟩, xr⟩ :: Bq).length = k + 1) := by
              have hpi := put_in (ordRc_pre a) (a := A' ++ [⟨⟨yA, yc⟩, yr⟩]) (b := Bq) (x := ⟨⟨xA, xc⟩, xr⟩) (by have := HRI.out; rw [HPA.out] at this; exact this) (Or.inr ⟨⟨⟨yA, yc⟩, yr⟩, by simp, (ordRc_pre a).rev (by rw [HRV.out]; omega)⟩) HAB.out
              refine ⟨by simpa using hpi.1, ?_, by have := HPK.out; rw [HPA.out] at this; simp at this ⊢; omega⟩
              have h1 := hpi.2.app (Stab.refl (o := ordRc a) R')
              refine HSTH.out.trans ?_
              rw [HPA.out]
              simpa using h1
            have HR3 : Hid (Arr w14 b 43 (U ++ ((A' ++ ⟨⟨yA, yc⟩, yr⟩ :: ⟨⟨xA, xc⟩, xr⟩ :: Bq) ++ (R' ++ S)))) := by
              have := hAW
              show Arr _ _ _ _
              simpa using this
            have HB3 : Hid (But b w w14) := HBT.out.trans (But.of_below hbW)
            clear hAW HSH HCX HAR
            go_wp2_with fail
            go_roundw
            case rel => exact ⟨k + 1, A' ++ ⟨⟨yA, yc⟩, yr⟩ :: ⟨⟨xA, xc⟩, xr⟩ :: Bq, R', by omega, by omega, by go_num, ⟨by have := HPI.out.2.2; omega, Or.inl HPI.out.2.2, HPI.out.1, HPI.out.2.1⟩, HR3.out, HB3.out⟩
            case measure => simp [intOf]; omega
    · have hRn : R = [] := by
        rcases hPR with h | h
        · refine List.eq_nil_of_length_eq_zero ?_
          omega
        · exact h
      subst hRn
      have HF : Hid (Arr wo b 43 (U ++ (P ++ S))) := by
        have := hR
        show Arr _ _ _ _
        simpa using this
      have HG : Hid (Rise (ordRc a) P ∧ Stab (ordRc a) L P) := ⟨hRi, by simpa using hST⟩
      have g1 : ¬ ((a0 : Int) + (k : Int)) < (e0 : Int) := by omega
      clear HP hPl hPR hRi hST hlen hE hU hR
      go_wp2_with fail
      refine bodyPost_ret (v := .tuple #[]) (by simp [results, Tryz.results104, go_sem, *]) rfl ⟨rfl, ⟨_, ⟨P, rfl, HG.out.1, HG.out.2⟩, HF.out⟩, hbt⟩

end Go.Proofs.YtdhjogmkhbpcgaaGreat

namespace Go.Proofs.YtdhjogmkhbpcgaaGreat
open Go.RowKit

attribute [local go_sem] ByteArray.extract_mk ba_get
attribute [local go_sem ↓] Go.wp_at_zero Go.wp_at_succ

set_option maxRecDepth 100000 in
set_option maxHeartbeats 16000000 in
theorem stable_any (a : Int) (b c N : Nat) (H : List Rc) (w : World) (hN : N ≤ 1000000) (hl : H.length = N) (hA : Arr w b 43 H) (hC : CmpOk a b H w) :
    Calls Tryz.prog 66 #[.slice (some ⟨b, 0, none⟩) N c, .int .i64 N, .func (.func 37) #[.agg #[.int .i64 a]] #[]] w
      (RetS b 43 (fun H' => Rise (ordRc a) H' ∧ Stab (ordRc a) H H') w) := by
  have HINS : Hid (∀ (U L S : List Rc) (u e : Nat) (Z : World), U.length = u → u + L.length = e → Stab (ordRc a) H (U ++ (L ++ S)) → Arr Z b 43 (U ++ (L ++ S)) → But b w Z →
      Calls Tryz.prog 104 #[.slice (some ⟨b, 0, none⟩) N c, .int .i64 u, .int .i64 e, .func (.func 37) #[.agg #[.int .i64 a]] #[]] Z (RetS b 43 (fun H' => ∃ L', H' = U ++ (L' ++ S) ∧ Rise (ordRc a) L' ∧ Stab (ordRc a) L L') Z)) := fun U L S u e Z hu he hs hz hb => by
    have hlen : (U ++ (L ++ S)).length = N := hs.1.length_eq.trans hl
    have := insertion_any a b c H U L S Z (by rw [hlen]; exact hN) hz (hC.but hb) (fun q hq => hs.1.mem_iff.1 (by simp [hq]))
    rw [hlen, show U.length + L.length = e by omega, hu] at this
    exact this
  have HMRG : Hid (∀ (U A B S : List Rc) (u m e : Nat) (Z : World), U.length = u → u + A.length = m → m + B.length = e → 0 < A.length → 0 < B.length → Stab (ordRc a) H (U ++ (A ++ (B ++ S))) → Arr Z b 43 (U ++ (A ++ (B ++ S))) → But b w Z → Rise (ordRc a) A → Rise (ordRc a) B →
      Calls Tryz.prog 105 #[.slice (some ⟨b, 0, none⟩) N c, .int .i64 u, .int .i64 m, .int .i64 e, .func (.func 37) #[.agg #[.int .i64 a]] #[]] Z (RetS b 43 (fun H' => ∃ C, H' = U ++ (C ++ S) ∧ Rise (ordRc a) C ∧ Stab (ordRc a) (A ++ B) C) Z)) := fun U A B S u m e Z hu hm he h1 h2 hs hz hb ra rb =>
    symMerge_any hN (A.length + B.length) U A B S u m e Z hu hm he (Nat.le_refl _) h1 h2 (hs.1.length_eq.trans hl) hz (hC.but hb) (fun q hq => hs.1.mem_iff.1 (by simp [hq])) (fun q hq => hs.1.mem_iff.1 (by simp [hq])) ra rb
  have HA := Lib.hid hA
  have HL := Lib.hid hl
  clear hA hC hl
  go_enter Tryz.func66, Tryz.ntmps66
  go_wp2_with fail
  go_loopw [7, 8] (fun u v wr => ∃ (k e : Nat) (P Q : List Rc), k ≤ N ∧ u = .int .i64 k ∧ v = .int .i64 e ∧ Hid (e = k + 20 ∧ P.length = k ∧ Full (ordRc a) 20 P ∧ Stab (ordRc a) H (P ++ Q)) ∧ Arr wr b 43 (P ++ Q) ∧ But b w wr) (fun _ v _ => N + 1 - (intOf v).toNat)
  case atStart => exact ⟨0, 20, [], H, by omega, by go_num, by go_num, ⟨rfl, rfl, Full.nil, Stab.refl _⟩, HA.out, But.refl _ _⟩
  case round =>
    obtain ⟨k, e, P, Q, hk, rfl, rfl, HP, hR, hbt⟩ := hrel
    obtain ⟨wi, rfl⟩ : ∃ wi : World, wi = wr := ⟨_, rfl⟩
    obtain ⟨he, hPk, hF, hS⟩ := HP.out
    have hlen := hS.1.length_eq.trans HL.out
    simp only [List.length_append] at hlen
    by_cases hle : e ≤ N
    · as_aux_lemma =>
      obtain ⟨Q1, Q2, rfl, hQ1⟩ := split_at Q 20 (by omega)
      have HC1 := Lib.hid (HINS.out P Q1 Q2 k e wi hPk (by omega) hS hR hbt)
      obtain ⟨e2, he2⟩ : ∃ n, e + 20 = n := ⟨_, rfl⟩
      have i1 : IntKind.i64.wrap ((e : Int) + 20) = (e2 : Int) := by rw [IntWalk.i64_in _ (by omega)]; omega
      have i2 : (e : Int) + 20 = (e2 : Int) := by omega
      have HE2 := Lib.hid he2
      have hee : e < e2 := by omega
      have HN2 : Hid (∀ L', Rise (ordRc a) L' → Stab (ordRc a) Q1 L' → e2 = e + 20 ∧ (P ++ L').length = e ∧ Full (ordRc a) 20 (P ++ L') ∧ Stab (ordRc a) H ((P ++ L') ++ Q2)) := fun L' r1 s1 => by
        have h1 : L'.length = 20 := s1.1.length_eq.trans hQ1
        refine ⟨he2.symm, by simp; omega, hF.snoc h1 r1, hS.trans ?_⟩
        have := (Stab.refl (o := ordRc a) P).app (s1.app (Stab.refl Q2))
        simpa using this
      have HBT := Lib.hid hbt
      clear he hPk hF hS hlen HP hR hbt he2 hQ1
      go_wp2_with fail
      refine HC1.out.mono ?_
      rintro en7 w7 ⟨rfl, ⟨H', ⟨L', rfl, hr7, hs7⟩, hA7⟩, hb7⟩
      have HX := Lib.hid (HN2.out L' hr7 hs7)
      have HA7 : Hid (Arr w7 b 43 ((P ++ L') ++ Q2)) := by
        show Arr _ _ _ _
        simpa using hA7
      have HB7 := Lib.hid (HBT.out.trans hb7)
      clear hr7 hs7 hA7 hb7
      go_wp2_with fail
      go_roundw
      case rel => exact ⟨e, e2, P ++ L', Q2, hle, rfl, rfl, HX.out, HA7.out, HB7.out⟩
      case measure => simp [intOf]; omega
    · as_aux_lemma =>
      have HC1 := Lib.hid (HINS.out P Q [] k N wi hPk (by omega) (by simpa using hS) (by simpa using hR) hbt)
      have HN2 : Hid (∀ L', Rise (ordRc a) L' → Stab (ordRc a) Q L' → Runs (ordRc a) 20 (P ++ L') ∧ Stab (ordRc a) H (P ++ L')) := fun L' r1 s1 =>
        ⟨hF.app (Runs.last L' (by have := s1.1.length_eq; omega) r1), hS.trans ((Stab.refl P).app s1)⟩
      have HBT := Lib.hid hbt
      have g1 : decide (e ≤ N) = false := decide_eq_false hle
      clear he hPk hF hS hlen HP hR hbt
      go_wp2_with fail
      refine HC1.out.mono ?_
      rintro en7 w7 ⟨rfl, ⟨H', ⟨L', rfl, hr7, hs7⟩, hA7⟩, hb7⟩
      have HX := Lib.hid (HN2.out L' hr7 hs7)
      have HA7 : Hid (Arr w7 b 43 (P ++ L')) := by
        show Arr _ _ _ _
        simpa using hA7
      have HB7 := Lib.hid (HBT.out.trans hb7)
      clear hr7 hs7 hA7 hb7
      go_wp2_with fail
      go_loopw [6] (fun u wr => ∃ (s : Nat) (H1 : List Rc), 0 < s ∧ s ≤ 2000000 ∧ u = .int .i64 s ∧ Hid (Runs (ordRc a) s H1 ∧ Stab (ordRc a) H H1) ∧ Arr wr b 43 H1 ∧ But b w wr) (fun u _ => 2000001 - (intOf u).toNat)
      case atStart => exact ⟨20, P ++ L', by omega, by omega, by go_num, HX.out, HA7.out, HB7.out⟩
      case round =>
        obtain ⟨s, H1, hs0, hs1, rfl, HR, hR, hbt⟩ := hrel
        obtain ⟨wk, rfl⟩ : ∃ wk : World, wk = wr := ⟨_, rfl⟩
        by_cases hsN : s < N
        · as_aux_lemma =>
          obtain ⟨s2, hs2⟩ : ∃ n, 2 * s = n := ⟨_, rfl⟩
          have i1 : IntKind.i64.wrap (2 * (s : Int)) = (s2 : Int) := by rw [IntWalk.i64_in _ (by omega)]; omega
          have i2 : 2 * (s : Int) = (s2 : Int) := by omega
          have i3 : IntKind.i64.wrap ((s : Int) * 2) = (s2 : Int) := by rw [IntWalk.i64_in _ (by omega)]; omega
          have i4 : (s : Int) * 2 = (s2 : Int) := by omega
          have gd : decide (s < N) = true := decide_eq_true hsN
          have HS2 := Lib.hid hs2
          have HAR := Lib.hid hR
          have HBT := Lib.hid hbt
          have hss : s < s2 := by omega
          have hs2b : s2 ≤ 2000000 := by omega
          clear hR hbt hs2
          go_wp2_with fail
          go_loopw [7, 8] (fun u v wr => ∃ (k e : Nat) (P Q : List Rc), k ≤ N ∧ u = .int .i64 k ∧ v = .int .i64 e ∧ Hid (e = k + s2 ∧ P.length = k ∧ Full (ordRc a) s2 P ∧ Runs (ordRc a) s Q ∧ Stab (ordRc a) H (P ++ Q)) ∧ Arr wr b 43 (P ++ Q) ∧ But b w wr) (fun _ v _ => N + 1 - (intOf v).toNat)
          case atStart => exact ⟨0, s2, [], H1, by omega, by go_num, rfl, ⟨by omega, rfl, Full.nil, HR.out.1, HR.out.2⟩, HAR.out, HBT.out⟩
          case round =>
            obtain ⟨k, e, P, Q, hk, rfl, rfl, HP, hR, hbt⟩ := hrel
            obtain ⟨wi, rfl⟩ : ∃ wi : World, wi = wr := ⟨_, rfl⟩
            obtain ⟨he, hPk, hF, hQ, hS⟩ := HP.out
            have hlen := hS.1.length_eq.trans HL.out
            have hs2 := HS2.out
            simp only [List.length_append] at hlen
            obtain ⟨m, hm⟩ : ∃ n, k + s = n := ⟨_, rfl⟩
            have j1 : IntKind.i64.wrap ((k : Int) + (s : Int)) = (m : Int) := by rw [IntWalk.i64_in _ (by omega)]; omega
            have j2 : (k : Int) + (s : Int) = (m : Int) := by omega
            by_cases hle : e ≤ N
            · as_aux_lemma =>
              obtain ⟨c1, r1, rfl, hc1, hrc1, hr1⟩ := hQ.split (by omega)
              simp only [List.length_append] at hlen
              obtain ⟨c2, r2, rfl, hc2, hrc2, hr2⟩ := hr1.split (by omega)
              have HC1 := Lib.hid (HMRG.out P c1 c2 r2 k m e wi hPk (by omega) (by omega) (by omega) (by omega) hS hR hbt hrc1 hrc2)
              obtain ⟨e2, he2⟩ : ∃ n, e + s2 = n := ⟨_, rfl⟩
              have i5 : IntKind.i64.wrap ((e : Int) + (s2 : Int)) = (e2 : Int) := by rw [IntWalk.i64_in _ (by omega)]; omega
              have i6 : (e : Int) + (s2 : Int) = (e2 : Int) := by omega
              have hee : e < e2 := by omega
              have HN2 : Hid (∀ L', Rise (ordRc a) L' → Stab (ordRc a) (c1 ++ c2) L' → e2 = e + s2 ∧ (P ++ L').length = e ∧ Full (ordRc a) s2 (P ++ L') ∧ Runs (ordRc a) s r2 ∧ Stab (ordRc a) H ((P ++ L') ++ r2)) := fun L' q1 s1 => by
                have h1 := s1.1.length_eq
                simp only [List.length_append] at h1
                refine ⟨he2.symm, by simp; omega, hF.snoc (by omega) q1, hr2, hS.trans ?_⟩
                have := (Stab.refl (o := ordRc a) P).app (s1.app (Stab.refl r2))
                simpa using this
              have HBT := Lib.hid hbt
              clear he hPk hF hQ hS hlen HP hR hbt he2 hm hs2 hc1 hrc1 hr1 hc2 hrc2 hr2
              go_wp2_with fail
              refine HC1.out.mono ?_
              rintro en7 w7 ⟨rfl, ⟨H', ⟨L', rfl, hr7, hs7⟩, hA7⟩, hb7⟩
              have HX := Lib.hid (HN2.out L' hr7 hs7)
              have HA7 : Hid (Arr w7 b 43 ((P ++ L') ++ r2)) := by
                show Arr _ _ _ _
                simpa using hA7
              have HB7 := Lib.hid (HBT.out.trans hb7)
              clear hr7 hs7 hA7 hb7
              go_wp2_with fail
              go_roundw
              case rel => exact ⟨e, e2, P ++ L', r2, hle, rfl, rfl, HX.out, HA7.out, HB7.out⟩
              case measure => simp [intOf]; omega
            · have g1 : decide (e ≤ N) = false := decide_eq_false hle
              by_cases hmN : m < N
              · as_aux_lemma =>
                obtain ⟨c1, r1, rfl, hc1, hrc1, hr1⟩ := hQ.split (by omega)
                simp only [List.length_append] at hlen
                have hrr := hr1.one (by omega)
                have HC1 := Lib.hid (HMRG.out P c1 r1 [] k m N wi hPk (by omega) (by omega) (by omega) (by omega) (by simpa using hS) (by simpa using hR) hbt hrc1 hrr)
                have HN2 : Hid (∀ L', Rise (ordRc a) L' → Stab (ordRc a) (c1 ++ r1) L' → Runs (ordRc a) s2 (P ++ L') ∧ Stab (ordRc a) H (P ++ L')) := fun L' q1 s1 =>
                  ⟨hF.app (Runs.last L' (by have := s1.1.length_eq; simp at this; omega) q1), hS.trans ((Stab.refl P).app s1)⟩
                have HBT := Lib.hid hbt
                clear he hPk hF hQ hS hlen HP hR hbt hm hs2 hc1 hrc1 hr1 hrr
                go_wp2_with fail
                refine HC1.out.mono ?_
                rintro en7 w7 ⟨rfl, ⟨H', ⟨L', rfl, hr7, hs7⟩, hA7⟩, hb7⟩
                have HX := Lib.hid (HN2.out L' hr7 hs7)
                have HA7 : Hid (Arr w7 b 43 (P ++ L')) := by
                  show Arr _ _ _ _
                  simpa using hA7
                have HB7 := Lib.hid (HBT.out.trans hb7)
                clear hr7 hs7 hA7 hb7
                go_wp2_with fail
                go_roundw
                case rel => exact ⟨s2, P ++ L', by omega, hs2b, rfl, HX.out, HA7.out, HB7.out⟩
                case measure => simp [intOf]; omega
              · as_aux_lemma =>
                have hrr := hQ.one (by omega)
                have HX : Hid (Runs (ordRc a) s2 (P ++ Q) ∧ Stab (ordRc a) H (P ++ Q)) := ⟨hF.app (Runs.last Q (by omega) hrr), hS⟩
                have HAR := Lib.hid hR
                have HBT := Lib.hid hbt
                have g2 : decide (m < N) = false := decide_eq_false hmN
                clear he hPk hF hQ hS hlen HP hR hbt hm hs2 hrr
                go_wp2_with fail
                go_roundw
                case rel => exact ⟨s2, P ++ Q, by omega, hs2b, rfl, HX.out, HAR.out, HBT.out⟩
                case measure => simp [intOf]; omega
        · as_aux_lemma =>
          have HF : Hid (Rise (ordRc a) H1 ∧ Stab (ordRc a) H H1) := ⟨HR.out.1.one (by have := HR.out.2.1.length_eq.trans HL.out; omega), HR.out.2⟩
          have HAR := Lib.hid hR
          have HBT := Lib.hid hbt
          clear hR hbt HR
          go_wp2_with fail
          refine bodyPost_ret (v := .tuple #[]) (by simp [results, Tryz.results66, go_sem, *]) rfl ⟨rfl, ⟨_, HF.out, HAR.out⟩, HBT.out⟩

theorem sortStable_any (a : Int) (b c N : Nat) (H : List Rc) (w : World) (hN : N ≤ 1000000) (hl : H.length = N) (hA : Arr w b 43 H) (hC : CmpOk a b H w) :
    Calls Tryz.prog 35 #[.slice (some ⟨b, 0, none⟩) N c, .func (.func 37) #[.agg #[.int .i64 a]] #[]] w
      (RetS b 43 (fun H' => Rise (ordRc a) H' ∧ Stab (ordRc a) H H') w) := by
  have HC := Lib.hid (stable_any a b c N H w hN hl hA hC)
  clear hl hA hC
  go_enter Tryz.func35, Tryz.ntmps35
  go_wp2_with fail
  refine HC.out.mono ?_
  rintro en7 w7 ⟨rfl, hx⟩
  have HX := Lib.hid hx
  clear hx
  go_wp2_with fail
  refine bodyPost_ret (v := .tuple #[]) (by simp [results, Tryz.results35, go_sem, *]) rfl ⟨rfl, HX.out⟩

end Go.Proofs.YtdhjogmkhbpcgaaGreat

namespace Go.Proofs.YtdhjogmkhbpcgaaGreat
open Go.RowKit

attribute [local go_sem] ByteArray.extract_mk ba_get
attribute [local go_sem ↓] Go.wp_at_zero Go.wp_at_succ

/-- A call that answers nothing. -/
def RetN (w : World) (en : Ending) (w' : World) : Prop := en = .returned (.tuple #[]) ∧ Below w.heap.size w w'
set_option maxHeartbeats 2000000 in
theorem insertion0_any (F : Value) (A : Option Addr) (c : Nat) (w : World) :
    Calls Tryz.prog 104 #[.slice A 0 c, .int .i64 0, .int .i64 0, F] w (RetN w) := by
  go_enter Tryz.func104, Tryz.ntmps104
  go_wp2_with fail
  refine wp_loop_rounds 1 ?_
  rw [rounds_succ]
  go_wp2_with fail
  refine bodyPost_ret (v := .tuple #[]) (by simp [results, Tryz.results104, go_sem, *]) rfl ⟨rfl, Below.refl _ _⟩
set_option maxHeartbeats 2000000 in
theorem stable0_any (F : Value) (A : Option Addr) (c : Nat) (w : World) :
    Calls Tryz.prog 66 #[.slice A 0 c, .int .i64 0, F] w (RetN w) := by
  go_enter Tryz.func66, Tryz.ntmps66
  go_wp2_with fail
  refine wp_loop_rounds 1 ?_
  rw [rounds_succ]
  go_wp2_with fail
  refine (insertion0_any F A c _).mono ?_
  rintro en w7 ⟨rfl, hb7⟩
  go_wp2_with fail
  refine wp_loop_rounds 1 ?_
  rw [rounds_succ]
  go_wp2_with fail
  refine bodyPost_ret (v := .tuple #[]) (by simp [results, Tryz.results66, go_sem, *]) rfl ⟨rfl, hb7⟩
theorem sortStable0_any (F : Value) (A : Option Addr) (c : Nat) (w : World) :
    Calls Tryz.prog 35 #[.slice A 0 c, F] w (RetN w) := by
  go_enter Tryz.func35, Tryz.ntmps35
  go_wp2_with fail
  refine (stable0_any F A c _).mono ?_
  rintro en w7 ⟨rfl, hb7⟩
  go_wp2_with fail
  refine bodyPost_ret (v := .tuple #[]) (by simp [results, Tryz.results35, go_sem, *]) rfl ⟨rfl, hb7⟩

/-- The rows r' are the rows r, rising by a place, alike ones as they stood. -/
def SortedOf (a : Int) (r r' : List (List V)) : Prop := Rise (cmpR a) r' ∧ Stab (cmpR a) r r'
theorem sortedOf_uniq {a : Int} {r r1 r2 : List (List V)} (h1 : SortedOf a r r1) (h2 : SortedOf a r r2) : r1 = r2 :=
  stab_eq (cmpR_pre a) h2.1 h1.1 ⟨h1.2.1.trans h2.2.1.symm, fun k => (h1.2.2 k).trans (h2.2.2 k).symm⟩
theorem sortedOf_again {a : Int} {r : List (List V)} (h : Rise (cmpR a) r) : SortedOf a r r := ⟨h, Stab.refl r⟩
theorem sortedOf_map {a : Int} {H H' : List Rc} (h1 : Rise (ordRc a) H') (h2 : Stab (ordRc a) H H') : SortedOf a (H.map Rc.r) (H'.map Rc.r) := by
  refine ⟨?_, h2.1.map _, fun k => ?_⟩
  · unfold Rise
    rw [List.pairwise_map]
    exact h1
  · have := h2.2 ⟨⟨none, 0⟩, k⟩
    rw [List.filter_map, List.filter_map]
    exact congrArg (List.map Rc.r) this

end Go.Proofs.YtdhjogmkhbpcgaaGreat
