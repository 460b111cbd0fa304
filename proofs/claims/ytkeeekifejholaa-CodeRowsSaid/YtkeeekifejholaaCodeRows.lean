/- caddislaw02.CodeRows answers true, whatever row and value it is handed: the octets are the document's, or it is refused; they are read as they were. No condition beyond the row's own. -/
import Derived.Test.YtkeeekifejholaaCodeShort
import Derived.Test.YtkeeekifejholaaRef2V
import Derived.Deep.DeepCutAuto
import Derived.Deep.RegionHeld3
namespace Go.Proofs.Ytkeeekifejholaa
open Go.RowKit

attribute [local go_sem] ByteArray.extract_mk ba_get ba_append
attribute [local go_sem ↓] Go.wp_at_zero Go.wp_at_succ

theorem rowE_zero (l : List V) : (rowE l == 0) = rowOk l := by
  unfold rowE; cases rowOk l <;> rfl
theorem rowE_one (l : List V) (h : rowOk l = false) : (rowE l != 1) = false := by
  unfold rowE; rw [h]; rfl

set_option maxHeartbeats 4000000 in
theorem codeRows_walk (A : Option Addr) (c : Nat) (a : List V) (v : V) (w : World) (hA : VS w w.heap.size A a) (ha : a.length ≤ maxLen) (oa : ∀ v ∈ a, v.ok) (ov : v.ok) :
    Calls Try.prog 6 #[.slice A a.length c, .agg #[.int .i64 v.k, .int .i64 v.i, .string ⟨v.s.toArray⟩]] w (Ret (.bool true) w) := by
  have wa := Lib.hid (few_wf a oa)
  have ra := Lib.hid (few_rng a oa)
  have OV := Lib.hid ov
  clear oa ov
  have la := few_len a
  have hmx := Lib.hid (few_max a)
  have hAb : VS (w.alloc (.cells #[.int .i64 v.k, .int .i64 v.i, .string ⟨v.s.toArray⟩] 31)).drew (w.alloc (.cells #[.int .i64 v.k, .int .i64 v.i, .string ⟨v.s.toArray⟩] 31)).drew.heap.size A a := (hA.below (((Below.refl _ _).alloc (Nat.le_refl _) _).drew)).more (by simp)
  have hBx := Blk.new w 31 #[.int .i64 v.k, .int .i64 v.i, .string ⟨v.s.toArray⟩]
  have l0 : w.heap.size < w.heap.size + 1 := by omega
  go_enter Try.func6, Try.ntmps6
  go_upto_region 1 with fail
  go_cut [0] (fun s0 wx => ∃ A1 c1, s0 = .slice A1 (fewL a).length c1 ∧ VS wx wx.heap.size A1 (fewL a) ∧ Blk wx w.heap.size 31 #[.int .i64 v.k, .int .i64 v.i, .string ⟨(v.s.take 60).toArray⟩] ∧ Below w.heap.size w wx)
  case first =>
    go_region_with (first | (go_at_call 11; refine (few_any A c a _ ha hAb).mono ?_; rintro e w1 ⟨A1, c1, rfl, hc1, hm1, hv1, hb1⟩; obtain ⟨hr1, hf1⟩ := bcell hb1; have hz1 := hb1.size; (try simp at hz1 hr1 hf1)) | (go_at_call 17; refine (few1_any _ _ _ _).mono ?_; rintro e w2 ⟨rfl, hb2⟩; obtain ⟨hr2, hf2⟩ := bcell hb2; have hz2 := hb2.size; have lz : w.heap.size < w1.heap.size := (by omega); (try simp at hz2 hr2 hf2)))
    all_goals (go_wp2_with fail; go_meet)
    all_goals refine ⟨A1, c1, rfl, ((((hv1.below hb2 (Nat.le_refl _)).setCell (.inl (by simp)) _).setCell (.inl (by simp)) _).setCell (.inl (by simp)) _).vs (by simp; omega), (((Blk.below (Blk.below (Blk.drew hBx) hb1 (by simp)) hb2 (by omega)).set_ 0 _).set_ 1 _).set_ 2 _, ?_⟩
    all_goals ((repeat' (first | with_reducible exact Below.refl _ _ | with_reducible assumption | with_reducible refine Below.drew ?_ | with_reducible refine below_drewN ?_ _ | with_reducible refine Below.setCell ?_ ?_ _ | with_reducible refine Below.alloc ?_ ?_ _ | with_reducible refine Below.trans ?_ (Below.mono (by assumption) ?_))) <;> (first | (simp; done) | (simp; omega) | omega))
  case rest =>
    obtain ⟨A1, c1, rfl, hv1, hblk, hbw⟩ := hcut
    have hzb := hblk.lt
    clear hA hAb hBx
    generalize hx : fewL a = x at *
    clear hx
    go_wp2_with fail
    refine (row_any A1 c1 x _ hmx.out wa.out hv1).mono ?_
    rintro e w3 ⟨rfl, hb3⟩
    have hz3 := hb3.size
    have hv3 := (hv1.below hb3).more hz3
    go_wp2_with fail
    refine (rrow_any A1 c1 x _ (by omega) wa.out hv3).mono ?_
    rintro e w4 ⟨rfl, hb4⟩
    have hz4 := hb4.size
    have hv4 := (hv3.below hb4).more hz4
    have hbk4 := (hblk.below hb3 hzb).below hb4 (by omega)
    have hbw4 : Below w.heap.size w w4 := by ((repeat' (first | with_reducible exact Below.refl _ _ | with_reducible assumption | with_reducible refine Below.drew ?_ | with_reducible refine below_drewN ?_ _ | with_reducible refine Below.setCell ?_ ?_ _ | with_reducible refine Below.alloc ?_ ?_ _ | with_reducible refine Below.trans ?_ (Below.mono (by assumption) ?_))) <;> (first | (simp; done) | (simp; omega) | omega))
    have hsl := rowS_len x
    have e0 := rowE_zero x
    have hlt4 : w.heap.size < w4.heap.size := by omega
    clear hv1 hv3 hblk hbw hb3 hb4
    obtain ⟨⟨b0, b1, b2⟩, _, _, _⟩ := hbk4.three
    have H60 : Hid ((v.s.take 60).length ≤ 140737488351232) := by show _ ≤ _; rw [List.length_take]; omega
    cases h1 : rowOk x
    · have e1 := rowE_one x h1
      rw [h1] at e0
      have H1 := Lib.hid h1
      clear h1
      generalize rowS x = S at *
      generalize rowE x = E at *
      go_upto_region 4 with fail
      go_cut [48] (fun s48 wx => s48 = .bool false ∧ Below w4.heap.size w4 wx)
      case first =>
        go_region_held3 (fun w' => w'.cell? ⟨w.heap.size, 0, none⟩ = some (.int .i64 v.k) ∧ w'.cell? ⟨w.heap.size, 1, none⟩ = some (.int .i64 v.i) ∧ w'.cell? ⟨w.heap.size, 2, none⟩ = some (.string ⟨(v.s.take 60).toArray⟩))
          (first | go_keep)
          (first | (go_at_call 15; refine (cvalue_any _ _ _ _ OV.out.2.1.1 OV.out.2.1.2).mono ?_; rintro e w5 ⟨rfl, hb5⟩; obtain ⟨hr5, hf5⟩ := bcell hb5; have hz5 := hb5.size; (try simp at hz5 hr5 hf5); have hlt5 : w.heap.size < w5.heap.size := (by omega)) | (go_at_call 20; refine (rvalue_any _ _ _ _ OV.out.2.1.1 OV.out.2.1.2 H60.out).mono ?_; rintro e w6 ⟨rfl, hb6⟩; obtain ⟨hr6, hf6⟩ := bcell hb6; have hz6 := hb6.size; (try simp at hz6 hr6 hf6)))
        all_goals (go_wp2_with fail; go_meet)
        all_goals refine ⟨by simp, ?_⟩
        all_goals ((repeat' (first | with_reducible exact Below.refl _ _ | with_reducible assumption | with_reducible refine Below.drew ?_ | with_reducible refine below_drewN ?_ _ | with_reducible refine Below.setCell ?_ ?_ _ | with_reducible refine Below.alloc ?_ ?_ _ | with_reducible refine Below.trans ?_ (Below.mono (by assumption) ?_))) <;> (first | (simp; done) | (simp; omega) | omega))
      case rest =>
        obtain ⟨rfl, hbx⟩ := hcut
        have hzx := hbx.size
        clear e0 e1 b0 b1 b2
        go_wp2_with fail
        refine (read_any _ _ (by omega)).mono ?_
        rintro e w7 ⟨M1, m1, rfl, hmm1, hmx1, hvm0, hb7⟩
        have hz7 := hb7.size
        clear hvm0 hmm1
        go_wp2_with fail
        refine (awake2_any _).mono ?_
        rintro e w8 ⟨rfl, hb8⟩
        go_wp2
        go_ret
        exact ⟨rfl, by ((repeat' (first | with_reducible exact Below.refl _ _ | with_reducible assumption | with_reducible refine Below.drew ?_ | with_reducible refine below_drewN ?_ _ | with_reducible refine Below.setCell ?_ ?_ _ | with_reducible refine Below.alloc ?_ ?_ _ | with_reducible refine Below.trans ?_ (Below.mono (by assumption) ?_))) <;> (first | (simp; done) | (simp; omega) | omega))⟩
    · rw [h1] at e0
      have hrd := read_row x h1 ra.out
      have HS := Lib.hid hrd
      clear h1 hrd
      generalize rowS x = S at *
      generalize rowE x = E at *
      go_upto_region 4 with fail
      go_cut [48] (fun s48 wx => s48 = .bool false ∧ Below w4.heap.size w4 wx)
      case first =>
        have HSH : Hid (∀ w' : World, Below w4.heap.size w4 w' → w'.cell? ⟨w.heap.size, 0, none⟩ = some (.int .i64 v.k) ∧ w'.cell? ⟨w.heap.size, 1, none⟩ = some (.int .i64 v.i) ∧ w'.cell? ⟨w.heap.size, 2, none⟩ = some (.string ⟨(v.s.take 60).toArray⟩)) := fun w' hw' => ⟨(hw'.cell hlt4).trans b0, (hw'.cell hlt4).trans b1, (hw'.cell hlt4).trans b2⟩
        refine wp_region_held_drew (S := (fun w' => w'.cell? ⟨w.heap.size, 0, none⟩ = some (.int .i64 v.k) ∧ w'.cell? ⟨w.heap.size, 1, none⟩ = some (.int .i64 v.i) ∧ w'.cell? ⟨w.heap.size, 2, none⟩ = some (.string ⟨(v.s.take 60).toArray⟩))) (by kernel_rfl) ?_ (fun hHeld => ?_)
        · try dsimp only
          exact HSH.out _ (by ((repeat' (first | with_reducible exact Below.refl _ _ | with_reducible assumption | with_reducible refine Below.drew ?_ | with_reducible refine below_drewN ?_ _ | with_reducible refine Below.setCell ?_ ?_ _ | with_reducible refine Below.alloc ?_ ?_ _ | with_reducible refine Below.trans ?_ (Below.mono (by assumption) ?_))) <;> (first | (simp; done) | (simp; omega) | omega)))
        refine wpAnyH_take (i := 0) (v := ?_) rfl (by kernel_rfl) (by kernel_rfl) (by kernel_rfl) (fun _ _ _ h => h) (Or.inl ⟨by rfl, ?_⟩) (by assumption) ?_
        rotate_left
        · intro wq hSw
          try dsimp only at hSw
          go_simp
          try with_reducible rfl
        try simp only [Act.put, List.getElem_toArray, List.getElem_cons_zero, List.getElem_cons_succ, List.setIfInBounds_toArray, List.set_cons_zero, List.set_cons_succ]
        refine wpAnyH_take (i := 1) (v := ?_) rfl (by kernel_rfl) (by kernel_rfl) (by kernel_rfl) (fun _ _ _ h => h) (Or.inl ⟨by rfl, ?_⟩) (by assumption) ?_
        rotate_left
        · intro wq hSw
          try dsimp only at hSw
          go_simp
          try with_reducible rfl
        try simp only [Act.put, List.getElem_toArray, List.getElem_cons_zero, List.getElem_cons_succ, List.setIfInBounds_toArray, List.set_cons_zero, List.set_cons_succ]
        refine wpAnyH_take (i := 2) (v := ?_) rfl (by kernel_rfl) (by kernel_rfl) (by kernel_rfl) (fun _ _ _ h => h) (Or.inl ⟨by rfl, ?_⟩) (by assumption) ?_
        rotate_left
        · intro wq hSw
          try dsimp only at hSw
          go_simp
          try with_reducible rfl
        try simp only [Act.put, List.getElem_toArray, List.getElem_cons_zero, List.getElem_cons_succ, List.setIfInBounds_toArray, List.set_cons_zero, List.set_cons_succ]
        refine wpAnyH_take (i := 3) (v := ?_) rfl (by kernel_rfl) (by kernel_rfl) (by kernel_rfl) (fun _ _ _ h => h) (Or.inl ⟨by rfl, ?_⟩) (by assumption) ?_
        rotate_left
        · intro wq hSw
          try dsimp only at hSw
          go_simp
          try with_reducible rfl
        try simp only [Act.put, List.getElem_toArray, List.getElem_cons_zero, List.getElem_cons_succ, List.setIfInBounds_toArray, List.set_cons_zero, List.set_cons_succ]
        refine wpAnyH_take (i := 4) (v := ?_) rfl (by kernel_rfl) (by kernel_rfl) (by kernel_rfl) (fun _ _ _ h => h) (Or.inl ⟨by rfl, ?_⟩) (by assumption) ?_
        rotate_left
        · intro wq hSw
          try dsimp only at hSw
          go_simp
          try with_reducible rfl
        try simp only [Act.put, List.getElem_toArray, List.getElem_cons_zero, List.getElem_cons_succ, List.setIfInBounds_toArray, List.set_cons_zero, List.set_cons_succ]
        refine wpAnyH_take (i := 5) (v := ?_) rfl (by kernel_rfl) (by kernel_rfl) (by kernel_rfl) (fun _ _ _ h => h) (Or.inl ⟨by rfl, ?_⟩) (by assumption) ?_
        rotate_left
        · intro wq hSw
          try dsimp only at hSw
          go_simp
          try with_reducible rfl
        try simp only [Act.put, List.getElem_toArray, List.getElem_cons_zero, List.getElem_cons_succ, List.setIfInBounds_toArray, List.set_cons_zero, List.set_cons_succ]
        refine wpAnyH_take (i := 6) (v := ?_) rfl (by kernel_rfl) (by kernel_rfl) (by kernel_rfl) (fun _ _ _ h => h) (Or.inl ⟨by rfl, ?_⟩) (by assumption) ?_
        rotate_left
        · intro wq hSw
          try dsimp only at hSw
          go_simp
          try with_reducible rfl
        try simp only [Act.put, List.getElem_toArray, List.getElem_cons_zero, List.getElem_cons_succ, List.setIfInBounds_toArray, List.set_cons_zero, List.set_cons_succ]
        refine wpAnyH_take (i := 7) (v := ?_) rfl (by kernel_rfl) (by kernel_rfl) (by kernel_rfl) (fun _ _ _ h => h) (Or.inl ⟨by rfl, ?_⟩) (by assumption) ?_
        rotate_left
        · intro wq hSw
          try dsimp only at hSw
          go_simp
          try with_reducible rfl
        try simp only [Act.put, List.getElem_toArray, List.getElem_cons_zero, List.getElem_cons_succ, List.setIfInBounds_toArray, List.set_cons_zero, List.set_cons_succ]
        refine wpAnyH_take (i := 8) (v := ?_) rfl (by kernel_rfl) (by kernel_rfl) (by kernel_rfl) (fun _ _ _ h => h) (Or.inl ⟨by rfl, ?_⟩) (by assumption) ?_
        rotate_left
        · intro wq hSw
          try dsimp only at hSw
          go_simp
          try with_reducible rfl
        try simp only [Act.put, List.getElem_toArray, List.getElem_cons_zero, List.getElem_cons_succ, List.setIfInBounds_toArray, List.set_cons_zero, List.set_cons_succ]
        refine wpAnyH_take (i := 9) (v := ?_) rfl (by kernel_rfl) (by kernel_rfl) (by kernel_rfl) (fun _ _ _ h => h) (Or.inl ⟨by rfl, ?_⟩) (by assumption) ?_
        rotate_left
        · intro wq hSw
          try dsimp only at hSw
          go_simp
          try with_reducible rfl
        try simp only [Act.put, List.getElem_toArray, List.getElem_cons_zero, List.getElem_cons_succ, List.setIfInBounds_toArray, List.set_cons_zero, List.set_cons_succ]
        refine wpAnyH_take (i := 10) (v := ?_) rfl (by kernel_rfl) (by kernel_rfl) (by kernel_rfl) (fun _ _ _ h => h) (Or.inl ⟨by rfl, ?_⟩) (by assumption) ?_
        rotate_left
        · intro wq hSw
          try dsimp only at hSw
          go_simp
          try with_reducible rfl
        try simp only [Act.put, List.getElem_toArray, List.getElem_cons_zero, List.getElem_cons_succ, List.setIfInBounds_toArray, List.set_cons_zero, List.set_cons_succ]
        refine wpAnyH_take (i := 11) (v := ?_) rfl (by kernel_rfl) (by kernel_rfl) (by kernel_rfl) (fun _ _ _ h => h) (Or.inl ⟨by rfl, ?_⟩) (by assumption) ?_
        rotate_left
        · intro wq hSw
          try dsimp only at hSw
          go_simp
          try with_reducible rfl
        try simp only [Act.put, List.getElem_toArray, List.getElem_cons_zero, List.getElem_cons_succ, List.setIfInBounds_toArray, List.set_cons_zero, List.set_cons_succ]
        refine wpAnyH_take (i := 12) (v := ?_) rfl (by kernel_rfl) (by kernel_rfl) (by kernel_rfl) (fun _ _ _ h => h) (Or.inl ⟨by rfl, ?_⟩) (by assumption) ?_
        rotate_left
        · intro wq hSw
          try dsimp only at hSw
          go_simp
          try with_reducible rfl
        try simp only [Act.put, List.getElem_toArray, List.getElem_cons_zero, List.getElem_cons_succ, List.setIfInBounds_toArray, List.set_cons_zero, List.set_cons_succ]
        refine wpAnyH_take (i := 13) (v := undef) rfl (by kernel_rfl) (by kernel_rfl) (by kernel_rfl) (fun _ _ _ h => h) (Or.inr ⟨by rfl, rfl⟩) (by assumption) ?_
        try simp only [Act.put, List.getElem_toArray, List.getElem_cons_zero, List.getElem_cons_succ, List.setIfInBounds_toArray, List.set_cons_zero, List.set_cons_succ]
        refine wpAnyH_take (i := 14) (v := undef) rfl (by kernel_rfl) (by kernel_rfl) (by kernel_rfl) (fun _ _ _ h => h) (Or.inr ⟨by rfl, rfl⟩) (by assumption) ?_
        try simp only [Act.put, List.getElem_toArray, List.getElem_cons_zero, List.getElem_cons_succ, List.setIfInBounds_toArray, List.set_cons_zero, List.set_cons_succ]
        refine wpAnyH_take (i := 15) (v := ?_) rfl (by kernel_rfl) (by kernel_rfl) (by kernel_rfl) (fun _ _ _ h => h) (Or.inl ⟨by rfl, ?_⟩) (by assumption) ?_
        rotate_left
        · intro wq hSw
          try dsimp only at hSw
          go_simp
          try with_reducible rfl
        try simp only [Act.put, List.getElem_toArray, List.getElem_cons_zero, List.getElem_cons_succ, List.setIfInBounds_toArray, List.set_cons_zero, List.set_cons_succ]
        refine wpAnyH_take (i := 16) (v := ?_) rfl (by kernel_rfl) (by kernel_rfl) (by kernel_rfl) (fun _ _ _ h => h) (Or.inl ⟨by rfl, ?_⟩) (by assumption) ?_
        rotate_left
        · intro wq hSw
          try dsimp only at hSw
          go_simp
          try with_reducible rfl
        try simp only [Act.put, List.getElem_toArray, List.getElem_cons_zero, List.getElem_cons_succ, List.setIfInBounds_toArray, List.set_cons_zero, List.set_cons_succ]
        refine wpAnyH_take (i := 17) (v := ?_) rfl (by kernel_rfl) (by kernel_rfl) (by kernel_rfl) (fun _ _ _ h => h) (Or.inl ⟨by rfl, ?_⟩) (by assumption) ?_
        rotate_left
        · intro wq hSw
          try dsimp only at hSw
          go_simp
          try with_reducible rfl
        try simp only [Act.put, List.getElem_toArray, List.getElem_cons_zero, List.getElem_cons_succ, List.setIfInBounds_toArray, List.set_cons_zero, List.set_cons_succ]
        refine wpAnyH_take (i := 18) (v := ?_) rfl (by kernel_rfl) (by kernel_rfl) (by kernel_rfl) (fun _ _ _ h => h) (Or.inl ⟨by rfl, ?_⟩) (by assumption) ?_
        rotate_left
        · intro wq hSw
          try dsimp only at hSw
          go_simp
          try with_reducible rfl
        try simp only [Act.put, List.getElem_toArray, List.getElem_cons_zero, List.getElem_cons_succ, List.setIfInBounds_toArray, List.set_cons_zero, List.set_cons_succ]
        refine wpAnyH_take (i := 20) (v := ?_) rfl (by kernel_rfl) (by kernel_rfl) (by kernel_rfl) (fun _ _ _ h => h) (Or.inl ⟨by rfl, ?_⟩) (by assumption) ?_
        rotate_left
        · intro wq hSw
          try dsimp only at hSw
          go_simp
          try with_reducible rfl
        try simp only [Act.put, List.getElem_toArray, List.getElem_cons_zero, List.getElem_cons_succ, List.setIfInBounds_toArray, List.set_cons_zero, List.set_cons_succ]
        refine wpAnyH_ready (rs := [19]) (by kernel_rfl) (by simp) ?_
        refine AllReadyH.cons rfl (fun K hK => ?_) AllReadyH.nil
        go_simp
        refine (cvalue_any _ _ _ _ OV.out.2.1.1 OV.out.2.1.2).mono ?_ <;> rintro e w5 ⟨rfl, hb5⟩ <;> have hz5 := hb5.size <;> (try simp at hz5)
        go_wp2_with fail
        refine hK.out _ _ ?_ (fun hHeld => ?_)
        · try dsimp only
          exact HSH.out _ (by ((repeat' (first | with_reducible exact Below.refl _ _ | with_reducible assumption | with_reducible refine Below.drew ?_ | with_reducible refine below_drewN ?_ _ | with_reducible refine Below.setCell ?_ ?_ _ | with_reducible refine Below.alloc ?_ ?_ _ | with_reducible refine Below.trans ?_ (Below.mono (by assumption) ?_))) <;> (first | (simp; done) | (simp; omega) | omega)))
        clear hK K
        try simp only [Act.put, List.getElem_toArray, List.getElem_cons_zero, List.getElem_cons_succ, List.setIfInBounds_toArray, List.set_cons_zero, List.set_cons_succ]
        refine wpAnyH_ready (rs := [21]) (by kernel_rfl) (by simp) ?_
        refine AllReadyH.cons rfl (fun K hK => ?_) AllReadyH.nil
        go_simp
        refine (rvalue_any _ _ _ _ OV.out.2.1.1 OV.out.2.1.2 H60.out).mono ?_ <;> rintro e w6 ⟨rfl, hb6⟩ <;> have hz6 := hb6.size <;> (try simp at hz6)
        go_wp2_with fail
        refine hK.out _ _ ?_ (fun hHeld => ?_)
        · try dsimp only
          exact HSH.out _ (by ((repeat' (first | with_reducible exact Below.refl _ _ | with_reducible assumption | with_reducible refine Below.drew ?_ | with_reducible refine below_drewN ?_ _ | with_reducible refine Below.setCell ?_ ?_ _ | with_reducible refine Below.alloc ?_ ?_ _ | with_reducible refine Below.trans ?_ (Below.mono (by assumption) ?_))) <;> (first | (simp; done) | (simp; omega) | omega)))
        clear hK K
        try simp only [Act.put, List.getElem_toArray, List.getElem_cons_zero, List.getElem_cons_succ, List.setIfInBounds_toArray, List.set_cons_zero, List.set_cons_succ]
        refine wpAnyH_take (i := 22) (v := ?_) rfl (by kernel_rfl) (by kernel_rfl) (by kernel_rfl) (fun _ _ _ h => h) (Or.inl ⟨by rfl, ?_⟩) (by assumption) ?_
        rotate_left
        · intro wq hSw
          try dsimp only at hSw
          go_simp
          try with_reducible rfl
        try simp only [Act.put, List.getElem_toArray, List.getElem_cons_zero, List.getElem_cons_succ, List.setIfInBounds_toArray, List.set_cons_zero, List.set_cons_succ]
        refine wpAnyH_take (i := 23) (v := ?_) rfl (by kernel_rfl) (by kernel_rfl) (by kernel_rfl) (fun _ _ _ h => h) (Or.inl ⟨by rfl, ?_⟩) (by assumption) ?_
        rotate_left
        · intro wq hSw
          try dsimp only at hSw
          go_simp
          try with_reducible rfl
        try simp only [Act.put, List.getElem_toArray, List.getElem_cons_zero, List.getElem_cons_succ, List.setIfInBounds_toArray, List.set_cons_zero, List.set_cons_succ]
        refine wpAnyH_done (by kernel_rfl) ?_ _
        all_goals (go_wp2_with fail; go_meet)
        all_goals refine ⟨by simp, ?_⟩
        all_goals ((repeat' (first | with_reducible exact Below.refl _ _ | with_reducible assumption | with_reducible refine Below.drew ?_ | with_reducible refine below_drewN ?_ _ | with_reducible refine Below.setCell ?_ ?_ _ | with_reducible refine Below.alloc ?_ ?_ _ | with_reducible refine Below.trans ?_ (Below.mono (by assumption) ?_))) <;> (first | (simp; done) | (simp; omega) | omega))
      case rest =>
        obtain ⟨rfl, hbx⟩ := hcut
        have hzx := hbx.size
        have hvx := (hv4.below hbx).more hzx
        clear e0 b0 b1 b2
        go_wp2_with fail
        refine (read_any _ _ (by omega)).mono ?_
        rw [HS.out]
        rintro e w7 ⟨M1, m1, rfl, hmm1, hmx1, hvm0, hb7⟩
        have hz7 := hb7.size
        have hvm := hvm0.vs (Nat.le_refl _)
        have hv7 := (hvx.below hb7).more hz7
        have HR : Hid (rowSame x x = true) := (rowSame_iff x x).2 rfl
        simp only at hvm hmm1 ⊢
        clear hvm0 hmm1
        go_wp2_with fail
        refine (same_any M1 A1 m1 c1 x x _ hmx.out hmx.out hvm hv7).mono ?_
        rintro e w8 ⟨rfl, hb8⟩
        have hz8 := hb8.size
        rw [HR.out]
        clear hvm hv7
        go_wp2_with fail
        refine (awake2_any _).mono ?_
        rintro e w9 ⟨rfl, hb9⟩
        go_wp2
        go_ret
        exact ⟨rfl, by ((repeat' (first | with_reducible exact Below.refl _ _ | with_reducible assumption | with_reducible refine Below.drew ?_ | with_reducible refine below_drewN ?_ _ | with_reducible refine Below.setCell ?_ ?_ _ | with_reducible refine Below.alloc ?_ ?_ _ | with_reducible refine Below.trans ?_ (Below.mono (by assumption) ?_))) <;> (first | (simp; done) | (simp; omega) | omega))⟩

open Go.ChangeShapes Go.WideShapes Go.ChangeAt
set_option maxRecDepth 100000 in
theorem codeRows_lifted (os : Os) (started : os.Started) (H : Type) (enc : TypeId × Value → H) :
    ReturnsInHanded {} Try.checked os 6 .any (Rows.codeRowsSpec.pre6 enc Try.prog Try.f6 Rows.codeRowsRow.domain false) (Rows.codeRowsSpec.post enc Try.prog Try.f6 false true false false) := by
  refine returnsInHanded_of_change (C := Try.checked) own started (by kernel_rfl) Try.func6
    (ChangeSpec.witness6 (enc := enc) (C := Try.checked) false ⟨#[], #[.slice none 0 0, .agg #[.int .i64 0, .int .i64 0, .string ⟨#[]⟩]], []⟩ 8 (by kernel_rfl) (by kernel_rfl) (by kernel_rfl) (by kernel_rfl)) ?_
  intro W base args ds gs before hval0 hW hcnd _
  have hval : ∀ (j : Nat) t v, Try.f6.params[j]? = some t → args[j]? = some v → Value.okWide Try.prog W .any base t v := hval0
  have hW' := hW
  obtain ⟨p, q, hA0, hV, rfl, hfz, hnd⟩ := hW
  have hA : DataW.TrodAll enc Try.prog W 0 (fun _ => true) true Try.f6.params.toList args.toList ds p := hA0
  rw [Try.params6] at hA hval
  obtain ⟨v0, vs0, d0, ds0, p0, q0, hargs, rfl, rfl, h0, r0⟩ := trodAll_cons hA
  have k0 := h0
  have lt0 : ∀ x ∈ p0, x.block < W.heap.size := by obtain ⟨m, hm⟩ := k0; exact DataW.trod_lt m _ _ _ hm
  obtain ⟨v1, vs1, d1, ds1, p1, q1, rfl, rfl, rfl, h1, r1⟩ := trodAll_cons r0
  have k1 := h1
  have lt1 : ∀ x ∈ p1, x.block < W.heap.size := by obtain ⟨m, hm⟩ := k1; exact DataW.trod_lt m _ _ _ hm
  obtain ⟨rfl, rfl, rfl⟩ := trodAll_nil r1
  obtain rfl : args = #[v0, v1] := by cases args; simp_all
  obtain ⟨rfl, rfl⟩ := trodVars_none hV
  obtain ⟨A, a, c, rfl, hac, hcm, vA, oa⟩ := open_vals (hval 0 22 v0 rfl rfl) h0
  obtain ⟨x, rfl, ox⟩ := open_val (hval 1 31 v1 rfl rfl) h1
  clear hA0 hval0
  refine (codeRows_walk A c a x W vA (Nat.le_trans hac hcm) oa ox).mono fun e W' ⟨he, bel⟩ => ?_
  subst he
  exact ⟨_, rfl, _, _, _, [], _, [], hW', trodAll_mk1 (shut_bool Try.underlying4 _), (trodAll_cons_mk (Below.trod laidOut (by kernel_rfl) (of_decide_eq_true (by kernel_rfl)) k0 bel lt0) (trodAll_cons_mk (Below.trod laidOut (by kernel_rfl) (of_decide_eq_true (by kernel_rfl)) k1 bel lt1) trodAll_mk0)), rfl, bel.frame _, fun h => by cases h⟩

theorem codeRows_over : Rows.codeRowsRow.holds Try.pinned (OpenSpec.ofChange Rows.codeRowsSpec) :=
  OpenClaim.holds_of_wide 6 Try.f6 rfl rfl rfl rfl rfl rfl rfl ⟨rfl, rfl, rfl, rfl, rfl⟩ rfl rfl rfl rfl rfl (by kernel_rfl) Try.func6 (by kernel_rfl)
    (of_decide_eq_true (by kernel_rfl)) (by unfold Func.isWrapper; first | (rw [if_pos (by decide +kernel)]; kernel_rfl) | (rw [if_neg (by decide +kernel)]; exact ⟨rfl, rfl⟩))
    (fun os started H enc _ => codeRows_lifted os started H enc)

theorem codeRows_holds : Rows.CodeRowsSaid := codeRows_over
#print axioms codeRows_holds

end Go.Proofs.Ytkeeekifejholaa
