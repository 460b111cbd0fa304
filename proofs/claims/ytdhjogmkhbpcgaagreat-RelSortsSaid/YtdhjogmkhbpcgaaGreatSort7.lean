/- slices.symMergeCmpFunc: two risings of rows, one behind the other, are merged. Condition: in one block, each row's memory elsewhere. -/
import Derived.Test.YtdhjogmkhbpcgaaGreatTake
import Derived.Test.YtdhjogmkhbpcgaaGreatSort6
import Derived.Deep.CutBlock
import Derived.Deep.DeepCutAuto
namespace Go.Proofs.YtdhjogmkhbpcgaaGreat
open Go.RowKit

attribute [local go_sem] ByteArray.extract_mk ba_get
attribute [local go_sem ↓] Go.wp_at_zero Go.wp_at_succ

/-- What a merge is good for, of so many rows at the most. -/
def MergeOk (a : Int) (b c N : Nat) (K : List Rc) (n : Nat) : Prop := ∀ (U A B S : List Rc) (u m e : Nat) (w : World), U.length = u → u + A.length = m → m + B.length = e → A.length + B.length ≤ n → 0 < A.length → 0 < B.length → (U ++ (A ++ (B ++ S))).length = N →
  Arr w b 43 (U ++ (A ++ (B ++ S))) → CmpOk a b K w → (∀ q ∈ A, q ∈ K) → (∀ q ∈ B, q ∈ K) → Rise (ordRc a) A → Rise (ordRc a) B →
  Calls Tryz.prog 105 #[.slice (some ⟨b, 0, none⟩) N c, .int .i64 u, .int .i64 m, .int .i64 e, .func (.func 37) #[.agg #[.int .i64 a]] #[]] w
    (RetS b 43 (fun H' => ∃ C, H' = U ++ (C ++ S) ∧ Rise (ordRc a) C ∧ Stab (ordRc a) (A ++ B) C) w)
/-- What the cut of a merge knows of its places. -/
def CutAt (a : Int) (a0 m0 p : Nat) (A B : List Rc) (s0 s r r0 : Nat) : Prop :=
  (∀ x y, s0 < s → A[s - 1 - a0]? = some x → B[p - (s - 1) - m0]? = some y → 0 ≤ ordRc a y x) ∧ (∀ x y, r < r0 → A[r - a0]? = some x → B[p - r - m0]? = some y → ordRc a y x < 0)
theorem cutAt_law {a : Int} {a0 m0 e0 p mid s0 s r0 : Nat} {A B A1 A2 B1 B2 : List Rc} (h : CutAt a a0 m0 p A B s0 s s r0) (hA : A = A1 ++ A2) (hB : B = B1 ++ B2) (h1 : a0 + A1.length = s) (h2 : s + A2.length = m0) (h3 : s + B1.length = mid) (h4 : m0 + B1.length + B2.length = e0) (hp : p + 1 = mid + m0)
    (hs0 : s0 = a0 ∨ s0 + e0 = mid + m0) (hr0 : r0 = m0 ∨ r0 = mid) (hs : s0 ≤ s) (hr : s ≤ r0) (ra : Rise (ordRc a) A) (rb : Rise (ordRc a) B) :
    (∀ x ∈ A2, ∀ y ∈ B1, 0 < ordRc a x y) ∧ (∀ x ∈ A1, ∀ y ∈ B2, ordRc a x y ≤ 0) := by
  refine sym_cut (ordRc_pre a) (by rw [← hA]; exact ra) (by rw [← hB]; exact rb) (fun x y hx hy => ?_) (fun x y hx hy => ?_)
  · rw [List.head?_eq_getElem?] at hx
    rw [List.getLast?_eq_getElem?] at hy
    obtain ⟨n1, _⟩ := List.getElem?_eq_some_iff.1 hx
    obtain ⟨n2, _⟩ := List.getElem?_eq_some_iff.1 hy
    refine ((ordRc_pre a).flip y x).1 (h.2 x y (by omega) ?_ ?_)
    · rw [hA, List.getElem?_append_right (by omega), ← hx]
      congr 1
      omega
    · rw [hB, List.getElem?_append_left (by omega), ← hy]
      congr 1
      omega
  · rw [List.getLast?_eq_getElem?] at hx
    rw [List.head?_eq_getElem?] at hy
    obtain ⟨n1, _⟩ := List.getElem?_eq_some_iff.1 hx
    obtain ⟨n2, _⟩ := List.getElem?_eq_some_iff.1 hy
    refine (ordRc_pre a).rev (Int.not_lt.2 (h.1 x y (by omega) ?_ ?_))
    · rw [hA, List.getElem?_append_left (by omega), ← hx]
      congr 1
      omega
    · rw [hB, List.getElem?_append_right (by omega), ← hy]
      congr 1
      omega
set_option maxRecDepth 100000 in
set_option maxHeartbeats 32000000 in
theorem merge3_any {a : Int} {b c N : Nat} {K : List Rc} {n : Nat} (hN : N ≤ 1000000) (ih : MergeOk a b c N K n) (U A B S : List Rc) (a0 m0 e0 : Nat) (w : World) (hu : U.length = a0) (hm : a0 + A.length = m0) (he : m0 + B.length = e0) (hn : A.length + B.length ≤ n + 1)
    (hA2 : 2 ≤ A.length) (hB2 : 2 ≤ B.length) (hl : (U ++ (A ++ (B ++ S))).length = N) (hA : Arr w b 43 (U ++ (A ++ (B ++ S)))) (hC : CmpOk a b K w) (hKA : ∀ q ∈ A, q ∈ K) (hKB : ∀ q ∈ B, q ∈ K) (hRA : Rise (ordRc a) A) (hRB : Rise (ordRc a) B) :
    Calls Tryz.prog 105 #[.slice (some ⟨b, 0, none⟩) N c, .int .i64 a0, .int .i64 m0, .int .i64 e0, .func (.func 37) #[.agg #[.int .i64 a]] #[]] w
      (RetS b 43 (fun H' => ∃ C, H' = U ++ (C ++ S) ∧ Rise (ordRc a) C ∧ Stab (ordRc a) (A ++ B) C) w) := by
  obtain ⟨la, hla⟩ : ∃ i, A.length = i := ⟨_, rfl⟩
  obtain ⟨lb, hlb⟩ : ∃ i, B.length = i := ⟨_, rfl⟩
  have hlen := hl
  simp only [List.length_append] at hlen
  rw [hla, hlb] at hlen hn
  rw [hla] at hm hA2
  rw [hlb] at he hB2
  rw [hu] at hlen
  have i0 : IntKind.i64.wrap ((m0 : Int) - (a0 : Int)) = (la : Int) := by rw [IntWalk.i64_in _ (by omega)]; omega
  have i1 : IntKind.i64.wrap ((e0 : Int) - (m0 : Int)) = (lb : Int) := by rw [IntWalk.i64_in _ (by omega)]; omega
  have g0 : ¬ (la : Int) = 1 := by omega
  have g0' : ((la : Int) == 1) = false := by rw [beq_eq_false_iff_ne]; exact g0
  have g1 : ¬ (lb : Int) = 1 := by omega
  have g1' : ((lb : Int) == 1) = false := by rw [beq_eq_false_iff_ne]; exact g1
  obtain ⟨mid, hmid⟩ : ∃ h, (a0 + e0) / 2 = h := ⟨_, rfl⟩
  have hwm := wrap_mid hmid
  obtain ⟨nn, hnn⟩ : ∃ k, mid + m0 = k := ⟨_, rfl⟩
  obtain ⟨p, hp⟩ : ∃ k, nn - 1 = k := ⟨_, rfl⟩
  have i2 : IntKind.i64.wrap ((mid : Int) + (m0 : Int)) = (nn : Int) := by rw [IntWalk.i64_in _ (by omega)]; omega
  have i2' : (mid : Int) + (m0 : Int) = (nn : Int) := by omega
  have i3 : IntKind.i64.wrap ((nn : Int) - 1) = (p : Int) := by rw [IntWalk.i64_in _ (by omega)]; omega
  obtain ⟨s0, hs0⟩ : ∃ k, (if mid < m0 then nn - e0 else a0) = k := ⟨_, rfl⟩
  obtain ⟨r0, hr0⟩ : ∃ k, (if mid < m0 then mid else m0) = k := ⟨_, rfl⟩
  have q1 : a0 ≤ s0 ∧ s0 ≤ r0 ∧ r0 ≤ mid ∧ r0 ≤ m0 ∧ nn ≤ s0 + e0 ∧ (s0 = a0 ∨ s0 + e0 = mid + m0) ∧ (r0 = m0 ∨ r0 = mid) := by
    by_cases h : mid < m0
    · rw [if_pos h] at hs0 hr0; omega
    · rw [if_neg h] at hs0 hr0; omega
  obtain ⟨q2, q3, q4, q5, q6, q7, q8⟩ := q1
  have HLA : Hid (∀ (h : Nat) (x : Rc), a0 ≤ h → A[h - a0]? = some x → (U ++ (A ++ (B ++ S)))[h]? = some x) := fun h x h1 h2 => by
    obtain ⟨h3, _⟩ := List.getElem?_eq_some_iff.1 h2
    rw [List.getElem?_append_right (by omega), hu, List.getElem?_append_left h3]
    exact h2
  have HLB : Hid (∀ (h : Nat) (x : Rc), m0 ≤ h → B[h - m0]? = some x → (U ++ (A ++ (B ++ S)))[h]? = some x) := fun h x h1 h2 => by
    obtain ⟨h3, _⟩ := List.getElem?_eq_some_iff.1 h2
    rw [List.getElem?_append_right (by omega), List.getElem?_append_right (by omega), hu, hla]
    have e : h - a0 - la = h - m0 := by omega
    rw [e, List.getElem?_append_left h3]
    exact h2
  have HC := Lib.hid hC
  have HKA := Lib.hid hKA
  have HKB := Lib.hid hKB
  have HRA := Lib.hid hRA
  have HRB := Lib.hid hRB
  have HA := Lib.hid hA
  have HL := Lib.hid hl
  have HU := Lib.hid hu
  have HLa := Lib.hid hla
  have HLb := Lib.hid hlb
  have HIH := Lib.hid ih
  have HQ7 := Lib.hid q7
  have HQ8 := Lib.hid q8
  have HN1 := Lib.hid hmid
  have HN2 := Lib.hid hnn
  have HN3 := Lib.hid hp
  have HM := Lib.hid hm
  have HE := Lib.hid he
  have HS0 := Lib.hid hs0
  have HR0 := Lib.hid hr0
  have b1 : mid < e0 := by omega
  have b2 : a0 < mid := by omega
  have b3 : e0 ≤ N := by omega
  have b4 : m0 < e0 := by omega
  have b5 : a0 < m0 := by omega
  have b6 : e0 - mid ≤ n ∧ mid - a0 ≤ n := by omega
  clear hC hKA hKB hRA hRB hA hl hu hla hlb ih q7 q8 hmid hnn hp hm he hs0 hr0 hlen hn
  go_enter Tryz.func105, Tryz.ntmps105
  go_upto_if 140 with fail
  go_cut [20, 21] (fun u v wx => u = .int .i64 s0 ∧ v = .int .i64 r0 ∧ wx = w)
  case first => as_aux_lemma =>
    by_cases hmm : mid < m0
    · have e1 := HS0.out
      have e2 := HR0.out
      rw [if_pos hmm] at e1 e2
      have i4 : IntKind.i64.wrap ((nn : Int) - (e0 : Int)) = (s0 : Int) := by rw [IntWalk.i64_in _ (by omega)]; omega
      have i5 : (mid : Int) = (r0 : Int) := by omega
      have I5 := Lib.hid i5
      have d1 : decide (mid < m0) = true := decide_eq_true hmm
      clear e1 e2 i5
      go_wp2_with fail
      go_meet
      exact ⟨rfl, by rw [I5.out], rfl⟩
    · have e1 := HS0.out
      have e2 := HR0.out
      rw [if_neg hmm] at e1 e2
      have I4 : Hid ((a0 : Int) = (s0 : Int)) := by show _ = _; omega
      have I5 : Hid ((m0 : Int) = (r0 : Int)) := by show _ = _; omega
      have d1 : decide (mid < m0) = false := decide_eq_false hmm
      clear e1 e2
      go_wp2_with fail
      go_meet
      exact ⟨by rw [I4.out], by rw [I5.out], rfl⟩
  obtain ⟨rfl, rfl, hwc⟩ := hcut
  obtain rfl := hwc.symm
  have HS0 := Lib.hid HS0.out
  go_wp2_with fail
  go_loopw [20, 21] (fun u v wr => ∃ s r : Nat, s0 ≤ s ∧ s ≤ r ∧ r ≤ r0 ∧ u = .int .i64 s ∧ v = .int .i64 r ∧ Hid (CutAt a a0 m0 p A B s0 s r r0) ∧ Arr wr b 43 (U ++ (A ++ (B ++ S))) ∧ But b w wr) (fun u v _ => (intOf v).toNat - (intOf u).toNat)
  case atStart => exact ⟨s0, r0, Nat.le_refl _, q3, Nat.le_refl _, rfl, rfl, ⟨fun _ _ h => absurd h (by omega), fun _ _ h => absurd h (by omega)⟩, HA.out, But.refl _ _⟩
  case round =>
    obtain ⟨s, r, hs, hsr, hr, rfl, rfl, HCU, hR, hbt⟩ := hrel
    obtain ⟨wi, rfl⟩ : ∃ wi : World, wi = wr := ⟨_, rfl⟩
    by_cases hlt : s < r
    · as_aux_lemma =>
      obtain ⟨h, hh⟩ : ∃ h, (s + r) / 2 = h := ⟨_, rfl⟩
      have hw := wrap_mid hh
      have hih : s ≤ h := by omega
      have hhj : h < r := by omega
      obtain ⟨d, hd⟩ : ∃ d, p - h = d := ⟨_, rfl⟩
      have n1 := HN1.out
      have n2 := HN2.out
      have n3 := HN3.out
      have n4 := HM.out
      have n5 := HE.out
      have hdp : d + h = p := by omega
      have hd1 : m0 ≤ d := by omega
      have hd2 : d < e0 := by omega
      obtain ⟨x, hx⟩ : ∃ x, A[h - a0]? = some x := ⟨_, List.getElem?_eq_getElem (by have := HLa.out; omega)⟩
      obtain ⟨y, hy⟩ : ∃ y, B[d - m0]? = some y := ⟨_, List.getElem?_eq_getElem (by have := HLb.out; omega)⟩
      have hxK := HKA.out x (List.mem_of_getElem? hx)
      have hyK := HKB.out y (List.mem_of_getElem? hy)
      obtain ⟨xA, xn, xc, hxc⟩ := cell_of x
      obtain ⟨yA, yn, yc, hyc⟩ := cell_of y
      obtain ⟨HSH, HCX⟩ := cmp_two hR HC.out hbt (HLB.out d y (by omega) hy) (HLA.out h x (by omega) hx) hyK hxK hyc hxc
      obtain ⟨Rv, hRv⟩ : ∃ R, ordRc a y x = R := ⟨_, rfl⟩
      rw [hRv] at HCX
      have HX := Lib.hid hx
      have HY := Lib.hid hy
      have HD := Lib.hid hd
      have HRV := Lib.hid hRv
      have HAR := Lib.hid hR
      have HBT := Lib.hid hbt
      have i4 : IntKind.i64.wrap ((p : Int) - (h : Int)) = (d : Int) := by rw [IntWalk.i64_in _ (by omega)]; omega
      have j1 : (0 : Int) ≤ (h : Int) := by omega
      have j2 : (h : Int) < (N : Int) := by omega
      have j3 : (0 : Int) ≤ (d : Int) := by omega
      have j4 : (d : Int) < (N : Int) := by omega
      have k2 : h < N := by omega
      have k4 : d < N := by omega
      have i5 : IntKind.i64.wrap ((h : Int) + 1) = (h : Int) + 1 := IntWalk.i64_in _ (by omega)
      clear hx hy hRv hR hbt hxc hyc hxK hyK hh hd n1 n2 n3 n4 n5 hdp
      by_cases hneg : Rv < 0
      · as_aux_lemma =>
        have d1 : decide (Rv < 0) = true := decide_eq_true hneg
        have HN9 : Hid (CutAt a a0 m0 p A B s0 s h r0) := ⟨HCU.out.1, fun x' y' _ h1 h2 => by
          rw [HX.out] at h1
          rw [HD.out, HY.out] at h2
          cases h1
          cases h2
          rw [HRV.out]; exact hneg⟩
        go_wp2_with fail
        refine wp_region_held_drew (S := (fun Z => Z.cell? ⟨b, d, none⟩ = some (.slice yA yn yc) ∧ Z.cell? ⟨b, h, none⟩ = some (.slice xA xn xc))) (by kernel_rfl) ?_ (fun hHeld => ?_)
        · try dsimp only
          exact HSH.out _ (by exact bl)
        refine wpAnyT_start [0, 1, 2, 3, 4, 5, 6, 7, 8, 9, 10] ?_
        iterate 11
          refine wpAnyT_cons (v := ?_) rfl (by kernel_rfl) (by kernel_rfl) (by kernel_rfl) (fun _ _ _ h => h) (Or.inl ⟨by rfl, ?_⟩) (by assumption) ?_
          rotate_left
          · intro wq hSw
            try dsimp only at hSw
            go_simp
            try with_reducible rfl
          try simp only [Act.put, List.getElem_toArray, List.getElem_cons_zero, List.getElem_cons_succ, List.setIfInBounds_toArray, List.set_cons_zero, List.set_cons_succ]
        refine wpAnyT_nil ?_
        refine wpAnyH_ready (rs := [11]) (by kernel_rfl) (by simp) ?_
        refine AllReadyH.cons rfl (fun K hK => ?_) AllReadyH.nil
        go_simp
        (refine (HCX.out _ (by exact bl)).mono ?_) <;> rintro en w11 ⟨rfl, hb11⟩ <;> have hz11 := hb11.size <;> (try simp at hz11)
        go_wp2_with fail
        refine hK.out _ _ ?_ (fun hHeld => ?_)
        · try dsimp only
          exact HSH.out _ (by exact bl)
        clear hK K
        try simp only [Act.put, List.getElem_toArray, List.getElem_cons_zero, List.getElem_cons_succ, List.setIfInBounds_toArray, List.set_cons_zero, List.set_cons_succ]
        refine wpAnyT_start [12, 13] ?_
        iterate 2
          refine wpAnyT_cons (v := ?_) rfl (by kernel_rfl) (by kernel_rfl) (by kernel_rfl) (fun _ _ _ h => h) (Or.inl ⟨by rfl, ?_⟩) (by assumption) ?_
          rotate_left
          · intro wq hSw
            try dsimp only at hSw
            go_simp
            try with_reducible rfl
          try simp only [Act.put, List.getElem_toArray, List.getElem_cons_zero, List.getElem_cons_succ, List.setIfInBounds_toArray, List.set_cons_zero, List.set_cons_succ]
        refine wpAnyT_nil ?_
        refine wpAnyH_done (by kernel_rfl) ?_ _
        have hbW : Below wi.heap.size wi w11 := by exact bl
        have HAW := Lib.hid (HAR.out.below hbW)
        have hBW := HBT.out.trans (But.of_below hbW)
        clear HSH HCX HAR
        go_wp2_with fail
        go_roundw
        case rel => exact ⟨s, h, hs, hih, by omega, rfl, rfl, HN9, HAW.out, hBW⟩
        case measure => simp [intOf]; omega
      · as_aux_lemma =>
        have d1 : decide (Rv < 0) = false := decide_eq_false hneg
        have HN9 : Hid (CutAt a a0 m0 p A B s0 (h + 1) r r0) := ⟨fun x' y' _ h1 h2 => by
          rw [Nat.add_sub_cancel, HX.out] at h1
          rw [Nat.add_sub_cancel, HD.out, HY.out] at h2
          cases h1
          cases h2
          rw [HRV.out]; omega, HCU.out.2⟩
        go_wp2_with fail
        refine wp_region_held_drew (S := (fun Z => Z.cell? ⟨b, d, none⟩ = some (.slice yA yn yc) ∧ Z.cell? ⟨b, h, none⟩ = some (.slice xA xn xc))) (by kernel_rfl) ?_ (fun hHeld => ?_)
        · try dsimp only
          exact HSH.out _ (by exact bl)
        refine wpAnyT_start [0, 1, 2, 3, 4, 5, 6, 7, 8, 9, 10] ?_
        iterate 11
          refine wpAnyT_cons (v := ?_) rfl (by kernel_rfl) (by kernel_rfl) (by kernel_rfl) (fun _ _ _ h => h) (Or.inl ⟨by rfl, ?_⟩) (by assumption) ?_
          rotate_left
          · intro wq hSw
            try dsimp only at hSw
            go_simp
            try with_reducible rfl
          try simp only [Act.put, List.getElem_toArray, List.getElem_cons_zero, List.getElem_cons_succ, List.setIfInBounds_toArray, List.set_cons_zero, List.set_cons_succ]
        refine wpAnyT_nil ?_
        refine wpAnyH_ready (rs := [11]) (by kernel_rfl) (by simp) ?_
        refine AllReadyH.cons rfl (fun K hK => ?_) AllReadyH.nil
        go_simp
        (refine (HCX.out _ (by exact bl)).mono ?_) <;> rintro en w11 ⟨rfl, hb11⟩ <;> have hz11 := hb11.size <;> (try simp at hz11)
        go_wp2_with fail
        refine hK.out _ _ ?_ (fun hHeld => ?_)
        · try dsimp only
          exact HSH.out _ (by exact bl)
        clear hK K
        try simp only [Act.put, List.getElem_toArray, List.getElem_cons_zero, List.getElem_cons_succ, List.setIfInBounds_toArray, List.set_cons_zero, List.set_cons_succ]
        refine wpAnyT_start [12, 13] ?_
        iterate 2
          refine wpAnyT_cons (v := ?_) rfl (by kernel_rfl) (by kernel_rfl) (by kernel_rfl) (fun _ _ _ h => h) (Or.inl ⟨by rfl, ?_⟩) (by assumption) ?_
          rotate_left
          · intro wq hSw
            try dsimp only at hSw
            go_simp
            try with_reducible rfl
          try simp only [Act.put, List.getElem_toArray, List.getElem_cons_zero, List.getElem_cons_succ, List.setIfInBounds_toArray, List.set_cons_zero, List.set_cons_succ]
        refine wpAnyT_nil ?_
        refine wpAnyH_done (by kernel_rfl) ?_ _
        have hbW : Below wi.heap.size wi w11 := by exact bl
        have HAW := Lib.hid (HAR.out.below hbW)
        have hBW := HBT.out.trans (But.of_below hbW)
        clear HSH HCX HAR
        go_wp2_with fail
        go_roundw
        case rel => exact ⟨h + 1, r, by omega, by omega, hr, by go_num, rfl, HN9, HAW.out, hBW⟩
        case measure => simp [intOf]; omega
    · as_aux_lemma =>
      obtain rfl : s = r := by omega
      have n1 := HN1.out
      have n2 := HN2.out
      have n3 := HN3.out
      have n4 := HM.out
      have n5 := HE.out
      have n6 := HLa.out
      have n7 := HLb.out
      have n8 := HU.out
      have n9 := HL.out
      obtain ⟨A1, A2, hAA, hA1⟩ := split_at A (s - a0) (by omega)
      obtain ⟨B1, B2, hBB, hB1⟩ := split_at B (mid - s) (by omega)
      obtain ⟨en, hen⟩ : ∃ k, nn - s = k := ⟨_, rfl⟩
      have lA : A1.length + A2.length = la := by rw [← n6, hAA]; simp
      have lB : B1.length + B2.length = lb := by rw [← n7, hBB]; simp
      have hcut := cutAt_law (e0 := e0) (mid := mid) HCU.out hAA hBB (by omega) (by omega) (by omega) (by omega) (by omega) HQ7.out HQ8.out hs hr HRA.out HRB.out
      have i4 : IntKind.i64.wrap ((nn : Int) - (s : Int)) = (en : Int) := by rw [IntWalk.i64_in _ (by omega)]; omega
      have hR0 : Arr wi b 43 ((U ++ A1) ++ (A2 ++ (B1 ++ (B2 ++ S)))) := by
        have := hR
        rw [hAA, hBB] at this
        simpa using this
      have hlr : ((U ++ A1) ++ (A2 ++ (B1 ++ (B2 ++ S)))).length = N := by rw [← n9, hAA, hBB]; simp
      have HROT : Hid (0 < A2.length → 0 < B1.length → Calls Tryz.prog 129 #[.slice (some ⟨b, 0, none⟩) N c, .int .i64 s, .int .i64 m0, .int .i64 en, .func (.func 37) #[.agg #[.int .i64 a]] #[]] wi (RetS b 43 (fun H' => H' = U ++ (A1 ++ (B1 ++ (A2 ++ (B2 ++ S))))) wi)) := fun h1 h2 => by
        have := rotate_any (.func (.func 37) #[.agg #[.int .i64 a]] #[]) b c (U ++ A1) A2 B1 (B2 ++ S) wi h1 h2 (by rw [hlr]; exact hN) hR0
        rw [hlr, show (U ++ A1).length = s by simp; omega, show s + A2.length = m0 by omega, show m0 + B1.length = en by omega] at this
        simpa only [List.append_assoc] using this
      have HM1 : Hid (∀ Z : World, But b w Z → Arr Z b 43 (U ++ (A1 ++ (B1 ++ (A2 ++ (B2 ++ S))))) → 0 < A1.length → 0 < B1.length → Calls Tryz.prog 105 #[.slice (some ⟨b, 0, none⟩) N c, .int .i64 a0, .int .i64 s, .int .i64 mid, .func (.func 37) #[.agg #[.int .i64 a]] #[]] Z
          (RetS b 43 (fun H' => ∃ C, H' = U ++ (C ++ (A2 ++ (B2 ++ S))) ∧ Rise (ordRc a) C ∧ Stab (ordRc a) (A1 ++ B1) C) Z)) := fun Z hz hAZ h1 h2 =>
        HIH.out U A1 B1 (A2 ++ (B2 ++ S)) a0 s mid Z n8 (by omega) (by omega) (by omega) h1 h2 (by rw [← hlr]; simp; omega) hAZ (HC.out.but hz) (fun q hq => HKA.out q (by rw [hAA]; simp [hq])) (fun q hq => HKB.out q (by rw [hBB]; simp [hq])) (by have := HRA.out; rw [hAA] at this; exact this.left) (by have := HRB.out; rw [hBB] at this; exact this.left)
      have HM2 : Hid (∀ (Z : World) (C : List Rc), But b w Z → C.length = A1.length + B1.length → Arr Z b 43 (U ++ (C ++ (A2 ++ (B2 ++ S)))) → 0 < A2.length → 0 < B2.length → Calls Tryz.prog 105 #[.slice (some ⟨b, 0, none⟩) N c, .int .i64 mid, .int .i64 en, .int .i64 e0, .func (.func 37) #[.agg #[.int .i64 a]] #[]] Z
          (RetS b 43 (fun H' => ∃ C', H' = (U ++ C) ++ (C' ++ S) ∧ Rise (ordRc a) C' ∧ Stab (ordRc a) (A2 ++ B2) C') Z)) := fun Z C hz hCl hAZ h1 h2 =>
        HIH.out (U ++ C) A2 B2 S mid en e0 Z (by simp; omega) (by omega) (by omega) (by omega) h1 h2 (by rw [← hlr]; simp; omega) (by simpa using hAZ) (HC.out.but hz) (fun q hq => HKA.out q (by rw [hAA]; simp [hq])) (fun q hq => HKB.out q (by rw [hBB]; simp [hq])) (by have := HRA.out; rw [hAA] at this; exact this.right) (by have := HRB.out; rw [hBB] at this; exact this.right)
      have HSP : Hid (∀ C1 C2, Rise (ordRc a) C1 → Stab (ordRc a) (A1 ++ B1) C1 → Rise (ordRc a) C2 → Stab (ordRc a) (A2 ++ B2) C2 → Rise (ordRc a) (C1 ++ C2) ∧ Stab (ordRc a) (A ++ B) (C1 ++ C2)) := fun C1 C2 r1 s1 r2 s2 => by
        have hra := HRA.out
        have hrb := HRB.out
        rw [hAA] at hra
        rw [hBB] at hrb
        have := sym_split (ordRc_pre a) hra hrb hcut.1 hcut.2 r1 s1 r2 s2
        rw [hAA, hBB]
        exact this
      have HR1 : Hid (Rise (ordRc a) A1 ∧ Rise (ordRc a) A2 ∧ Rise (ordRc a) B1 ∧ Rise (ordRc a) B2) := by
        have hra := HRA.out
        have hrb := HRB.out
        rw [hAA] at hra
        rw [hBB] at hrb
        exact ⟨hra.left, hra.right, hrb.left, hrb.right⟩
      have HZ : Hid ((s < m0 → 0 < A2.length) ∧ (m0 < en → 0 < B1.length) ∧ (a0 < s → 0 < A1.length) ∧ (s < mid → 0 < B1.length) ∧ (mid < en → 0 < A2.length) ∧ (en < e0 → 0 < B2.length) ∧ (¬ s < m0 → A2 = []) ∧ (¬ m0 < en → B1 = []) ∧ (¬ a0 < s → A1 = []) ∧ (¬ s < mid → B1 = []) ∧ (¬ mid < en → A2 = []) ∧ (¬ en < e0 → B2 = [])) :=
        ⟨fun _ => by omega, fun _ => by omega, fun _ => by omega, fun _ => by omega, fun _ => by omega, fun _ => by omega, fun _ => List.eq_nil_of_length_eq_zero (by omega), fun _ => List.eq_nil_of_length_eq_zero (by omega), fun _ => List.eq_nil_of_length_eq_zero (by omega), fun _ => List.eq_nil_of_length_eq_zero (by omega), fun _ => List.eq_nil_of_length_eq_zero (by omega), fun _ => List.eq_nil_of_length_eq_zero (by omega)⟩
      have HR0 := Lib.hid hR0
      have HBT := Lib.hid hbt
      have henN : en ≤ N := by omega
      have gd : decide (s < s) = false := by simp
      clear n1 n2 n3 n4 n5 n6 n7 n8 n9 hAA hBB hA1 hB1 hen lA lB hcut hR0 hlr hR hbt HCU
      obtain ⟨dA, hdA⟩ : ∃ d : Bool, (decide (s < m0) && decide (m0 < en)) = d := ⟨_, rfl⟩
      have HdA := Lib.hid hdA
      clear hdA
      go_upto_region 39 with fail
      go_cut [185] (fun z wy => z = .bool dA ∧ wy = wi)
      case first => as_aux_lemma =>
        have hd := HdA.out
        by_cases h1 : s < m0
        · by_cases h2 : m0 < en
          · have HD : Hid (dA = true) := by show _ = _; rw [← hd, decide_eq_true h1, decide_eq_true h2]; rfl
            clear hd
            go_wp2_with fail
            go_meet
            exact ⟨by rw [HD.out], rfl⟩
          · have HD : Hid (dA = false) := by show _ = _; rw [← hd, decide_eq_true h1, decide_eq_false h2]; rfl
            have d2 : decide (m0 < en) = false := decide_eq_false h2
            clear hd
            go_wp2_with fail
            go_meet
            exact ⟨by rw [HD.out], rfl⟩
        · have HD : Hid (dA = false) := by show _ = _; rw [← hd, decide_eq_false h1]; rfl
          have d1 : decide (s < m0) = false := decide_eq_false h1
          clear hd
          go_wp2_with fail
          go_meet
          exact ⟨by rw [HD.out], rfl⟩
      obtain ⟨rfl, hwc⟩ := hcut
      obtain rfl := hwc.symm
      go_upto_if 185 with fail
      go_cut [] (fun wy => Arr wy b 43 (U ++ (A1 ++ (B1 ++ (A2 ++ (B2 ++ S))))) ∧ But b w wy)
      case first => as_aux_lemma =>
        have hd := HdA.out
        cases dA with
        | true =>
          simp only [Bool.and_eq_true, decide_eq_true_eq] at hd
          have HC1 := Lib.hid (HROT.out (HZ.out.1 hd.1) (HZ.out.2.1 hd.2))
          clear hd
          go_wp2_with fail
          refine HC1.out.mono ?_
          rintro en7 w7 ⟨rfl, ⟨H', rfl, hA7⟩, hb7⟩
          go_wp2_with fail
          go_meet
          exact ⟨hA7, HBT.out.trans hb7⟩
        | false =>
          have HC1 : Hid (Arr wi b 43 (U ++ (A1 ++ (B1 ++ (A2 ++ (B2 ++ S)))))) := by
            obtain ⟨_, _, _, _, _, _, z1, z2, _⟩ := HZ.out
            have h0 := HR0.out
            show Arr _ _ _ _
            by_cases h1 : s < m0
            · have h2 : ¬ m0 < en := fun h2 => by rw [decide_eq_true h1, decide_eq_true h2] at hd; cases hd
              rw [z2 h2] at h0 ⊢
              simpa using h0
            · rw [z1 h1] at h0 ⊢
              simpa using h0
          clear hd
          go_wp2_with fail
          go_meet
          exact ⟨HC1.out, HBT.out⟩
      obtain ⟨hA3, hb3⟩ := hcut
      obtain ⟨w3, rfl⟩ : ∃ w3, w3 = wc := ⟨_, rfl⟩
      have HA3 := Lib.hid hA3
      have HB3 := Lib.hid hb3
      clear hA3 hb3 HROT HR0 HBT HdA
      obtain ⟨dB, hdB⟩ : ∃ d : Bool, (decide (a0 < s) && decide (s < mid)) = d := ⟨_, rfl⟩
      have HdB := Lib.hid hdB
      clear hdB
      go_upto_region 41 with fail
      go_cut [199] (fun z wy => z = .bool dB ∧ wy = w3)
      case first => as_aux_lemma =>
        have hd := HdB.out
        by_cases h1 : a0 < s
        · by_cases h2 : s < mid
          · have HD : Hid (dB = true) := by show _ = _; rw [← hd, decide_eq_true h1, decide_eq_true h2]; rfl
            clear hd
            go_wp2_with fail
            go_meet
            exact ⟨by rw [HD.out], rfl⟩
          · have HD : Hid (dB = false) := by show _ = _; rw [← hd, decide_eq_true h1, decide_eq_false h2]; rfl
            have d2 : decide (s < mid) = false := decide_eq_false h2
            clear hd
            go_wp2_with fail
            go_meet
            exact ⟨by rw [HD.out], rfl⟩
        · have HD : Hid (dB = false) := by show _ = _; rw [← hd, decide_eq_false h1]; rfl
          have d1 : decide (a0 < s) = false := decide_eq_false h1
          clear hd
          go_wp2_with fail
          go_meet
          exact ⟨by rw [HD.out], rfl⟩
      obtain ⟨rfl, hwc⟩ := hcut
      obtain rfl := hwc.symm
      go_upto_if 199 with fail
      go_cut [] (fun wy => (∃ C1, Arr wy b 43 (U ++ (C1 ++ (A2 ++ (B2 ++ S)))) ∧ Hid (Rise (ordRc a) C1 ∧ Stab (ordRc a) (A1 ++ B1) C1)) ∧ But b w wy)
      case first => as_aux_lemma =>
        have hd := HdB.out
        cases dB with
        | true =>
          simp only [Bool.and_eq_true, decide_eq_true_eq] at hd
          have HC1 := Lib.hid (HM1.out w3 HB3.out HA3.out (HZ.out.2.2.1 hd.1) (HZ.out.2.2.2.1 hd.2))
          clear hd
          go_wp2_with fail
          refine HC1.out.mono ?_
          rintro en7 w7 ⟨rfl, ⟨H', ⟨C, rfl, hr7, hs7⟩, hA7⟩, hb7⟩
          have HR7 : Hid (Rise (ordRc a) C ∧ Stab (ordRc a) (A1 ++ B1) C) := ⟨hr7, hs7⟩
          have HA7 := Lib.hid hA7
          have HB7 := Lib.hid (HB3.out.trans hb7)
          clear hr7 hs7 hA7
          go_wp2_with fail
          go_meet
          exact ⟨⟨C, HA7.out, HR7⟩, HB7.out⟩
        | false =>
          have HC1 : Hid (Rise (ordRc a) (A1 ++ B1)) := by
            obtain ⟨_, _, _, _, _, _, _, _, z3, z4, _⟩ := HZ.out
            obtain ⟨r1, _, r3, _⟩ := HR1.out
            show Rise _ _
            by_cases h1 : a0 < s
            · have h2 : ¬ s < mid := fun h2 => by rw [decide_eq_true h1, decide_eq_true h2] at hd; cases hd
              rw [z4 h2]
              simpa using r1
            · rw [z3 h1]
              simpa using r3
          have HA7 : Hid (Arr w3 b 43 (U ++ ((A1 ++ B1) ++ (A2 ++ (B2 ++ S))))) := by
            have := HA3.out
            show Arr _ _ _ _
            simpa using this
          clear hd
          go_wp2_with fail
          go_meet
          exact ⟨⟨A1 ++ B1, HA7.out, ⟨HC1.out, Stab.refl _⟩⟩, HB3.out⟩
      obtain ⟨⟨C1, hA4, HR4⟩, hb4⟩ := hcut
      obtain ⟨w4, rfl⟩ : ∃ w4, w4 = wc := ⟨_, rfl⟩
      have HA4 := Lib.hid hA4
      have HB4 := Lib.hid hb4
      have HL4 : Hid (C1.length = A1.length + B1.length) := by have := HR4.out.2.1.length_eq; simp at this; exact this
      clear hA4 hb4 HA3 HB3 HM1 HdB
      obtain ⟨dC, hdC⟩ : ∃ d : Bool, (decide (mid < en) && decide (en < e0)) = d := ⟨_, rfl⟩
      have HdC := Lib.hid hdC
      clear hdC
      go_upto_region 43 with fail
      go_cut [213] (fun z wy => z = .bool dC ∧ wy = w4)
      case first => as_aux_lemma =>
        have hd := HdC.out
        by_cases h1 : mid < en
        · by_cases h2 : en < e0
          · have HD : Hid (dC = true) := by show _ = _; rw [← hd, decide_eq_true h1, decide_eq_true h2]; rfl
            clear hd
            go_wp2_with fail
            go_meet
            exact ⟨by rw [HD.out], rfl⟩
          · have HD : Hid (dC = false) := by show _ = _; rw [← hd, decide_eq_true h1, decide_eq_false h2]; rfl
            have d2 : decide (en < e0) = false := decide_eq_false h2
            clear hd
            go_wp2_with fail
            go_meet
            exact ⟨by rw [HD.out], rfl⟩
        · have HD : Hid (dC = false) := by show _ = _; rw [← hd, decide_eq_false h1]; rfl
          have d1 : decide (mid < en) = false := decide_eq_false h1
          clear hd
          go_wp2_with fail
          go_meet
          exact ⟨by rw [HD.out], rfl⟩
      obtain ⟨rfl, hwc⟩ := hcut
      obtain rfl := hwc.symm
      have hd := HdC.out
      cases dC with
      | true => as_aux_lemma =>
        simp only [Bool.and_eq_true, decide_eq_true_eq] at hd
        have HC1 := Lib.hid (HM2.out w4 C1 HB4.out HL4.out HA4.out (HZ.out.2.2.2.2.1 hd.1) (HZ.out.2.2.2.2.2.1 hd.2))
        clear hd HdC
        go_wp2_with fail
        refine HC1.out.mono ?_
        rintro en7 w7 ⟨rfl, ⟨H', ⟨C, rfl, hr7, hs7⟩, hA7⟩, hb7⟩
        have HF := Lib.hid (HSP.out C1 C HR4.out.1 HR4.out.2 hr7 hs7)
        have HA7 : Hid (Arr w7 b 43 (U ++ ((C1 ++ C) ++ S))) := by
          show Arr _ _ _ _
          simpa using hA7
        have HB7 := Lib.hid (HB4.out.trans hb7)
        clear hr7 hs7 hA7
        go_wp2_with fail
        refine bodyPost_ret (v := .tuple #[]) (by simp [results, Tryz.results105, go_sem, *]) rfl ⟨rfl, ⟨_, ⟨C1 ++ C, rfl, HF.out.1, HF.out.2⟩, HA7.out⟩, HB7.out⟩
      | false => as_aux_lemma =>
        have HC1 : Hid (Rise (ordRc a) (A2 ++ B2)) := by
          obtain ⟨_, _, _, _, _, _, _, _, _, _, z5, z6⟩ := HZ.out
          obtain ⟨_, r2, _, r4⟩ := HR1.out
          show Rise _ _
          by_cases h1 : mid < en
          · have h2 : ¬ en < e0 := fun h2 => by rw [decide_eq_true h1, decide_eq_true h2] at hd; cases hd
            rw [z6 h2]
            simpa using r2
          · rw [z5 h1]
            simpa using r4
        have HF := Lib.hid (HSP.out C1 (A2 ++ B2) HR4.out.1 HR4.out.2 HC1.out (Stab.refl _))
        have HA7 : Hid (Arr w4 b 43 (U ++ ((C1 ++ (A2 ++ B2)) ++ S))) := by
          have := HA4.out
          show Arr _ _ _ _
          simpa using this
        clear hd HdC
        go_wp2_with fail
        refine bodyPost_ret (v := .tuple #[]) (by simp [results, Tryz.results105, go_sem, *]) rfl ⟨rfl, ⟨_, ⟨C1 ++ (A2 ++ B2), rfl, HF.out.1, HF.out.2⟩, HA7.out⟩, HB4.out⟩

theorem symMerge_any {a : Int} {b c N : Nat} {K : List Rc} (hN : N ≤ 1000000) : ∀ n, MergeOk a b c N K n
  | 0 => fun _ _ _ _ _ _ _ _ _ _ _ h1 h2 h3 => absurd h1 (by omega)
  | n + 1 => by
    intro U A B S u m e w hu hm he hn h1 h2 hl hA hC hKA hKB hRA hRB
    by_cases hA1 : A.length = 1
    · obtain ⟨x, rfl⟩ : ∃ x, A = [x] := by
        cases A with
        | nil => simp at hA1
        | cons x r => simp at hA1; exact ⟨x, by rw [hA1]⟩
      have := merge1_any a b c K U x B S w (by simp at hl ⊢; omega) (by simpa using hA) hC (hKA x (by simp)) hKB hRB
      simp only [List.length_cons, List.length_nil] at hm
      rw [show (U ++ (x :: (B ++ S))).length = N by simpa using hl, show U.length + 1 + B.length = e by omega, show U.length + 1 = m by omega, hu] at this
      simpa using this
    · by_cases hB1 : B.length = 1
      · obtain ⟨y, rfl⟩ : ∃ y, B = [y] := by
          cases B with
          | nil => simp at hB1
          | cons x r => simp at hB1; exact ⟨x, by rw [hB1]⟩
        have := merge2_any a b c K U A y S w hA1 (by simp at hl ⊢; omega) (by simpa using hA) hC (hKB y (by simp)) hKA hRA
        simp only [List.length_cons, List.length_nil] at he
        rw [show (U ++ (A ++ (y :: S))).length = N by simpa using hl, show U.length + A.length + 1 = e by omega, show U.length + A.length = m by omega, hu] at this
        exact this
      · exact merge3_any hN (symMerge_any hN n) U A B S u m e w hu hm he hn (by omega) (by omega) hl hA hC hKA hKB hRA hRB

end Go.Proofs.YtdhjogmkhbpcgaaGreat
