/- caddislaw14.TrackCounts answers true, whatever track it is handed: its text has a digit of each unit, as many 1 as are done, as many 0 as are pending; the first 0 is the next one. No condition beyond the row's own. -/
import Derived.Test.YtkeeekifejholaaAwake14
import Derived.Test.YtkeeekifejholaaTrackLaw
import Derived.Test.YtkeeekifejholaaOpenT
namespace Go.Proofs.Ytkeeekifejholaa
open Go.RowKit

attribute [local go_sem] ByteArray.extract_mk ba_get
attribute [local go_sem ↓] Go.wp_at_zero Go.wp_at_succ run_eql_V run_neq_V run_nil_V


theorem unitsL_len (u : List V) : (unitsL u).length ≤ 201 := by simp only [unitsL, List.length_map, List.length_take]; omega

set_option maxRecDepth 100000 in
set_option maxHeartbeats 4000000 in
theorem trackCounts_walk (A B : Option Addr) (c d : Nat) (u : List V) (t : List UInt8) (w : World) (hu : u.length ≤ maxLen) (ht : t.length ≤ maxLen) (hA : VS w w.heap.size A u) (hB : BS w w.heap.size B t) :
    Calls Try.prog 10 #[.agg #[.slice A u.length c, .slice B t.length d]] w (Ret (.bool true) w) := by
  obtain ⟨w0, hw0⟩ : ∃ w0, w.alloc (.cells #[.slice A u.length c, .slice B t.length d] 47) = w0 := ⟨_, rfl⟩
  have hb0 : Below w.heap.size w w0 := by rw [← hw0]; ((repeat' (first | with_reducible exact Below.refl _ _ | with_reducible assumption | with_reducible refine Below.drew ?_ | with_reducible refine below_drewN ?_ _ | with_reducible refine Below.setCell ?_ ?_ _ | with_reducible refine Below.alloc ?_ ?_ _ | with_reducible refine Below.trans ?_ (Below.mono (by assumption) ?_))) <;> (first | (simp; done) | (simp; omega) | omega))
  have hblk : Blk w0 w.heap.size 47 #[.slice A u.length c, .slice B t.length d] := by rw [← hw0]; ((repeat' (first | with_reducible assumption | with_reducible refine Blk.drew ?_ | with_reducible refine Blk.drewN ?_ _ | with_reducible refine Blk.set3 ?_ _ _ _ | with_reducible refine Blk.far ?_ ?_ _ | ((with_reducible refine Blk.new' _ _ _ _ ?_) <;> (first | (simp; done) | (simp; omega) | omega) <;> done) | with_reducible refine Blk.alloc ?_ _ | with_reducible refine Blk3.drew ?_ | with_reducible refine Blk3.drewN ?_ _ | ((with_reducible refine Blk3.new' _ _ _ _ _ _ ?_) <;> (first | (simp; done) | (simp; omega) | omega) <;> done) | with_reducible refine Blk3.alloc ?_ _ | with_reducible refine Blk3.far ?_ ?_ _ | with_reducible refine Blk3.below ?_ (by assumption) ?_ | with_reducible refine Blk.below ?_ (by assumption) ?_)) <;> (first | (simp; done) | (simp; omega) | omega))
  have hA0 := (hA.below hb0).more hb0.size
  have hB0 := (hB.below hb0).more hb0.size
  have HW := Lib.hid hw0
  have hs0 := hb0.size
  obtain ⟨s0, s1⟩ := hblk.two.1
  clear hw0
  go_enter Try.func10, Try.ntmps10
  go_upto_region 1 with fail
  rw [HW.out]
  go_wp2_with fail
  refine (fewT_any A B c d u t w0 hu ht hA0 hB0).mono ?_
  rintro e w1 ⟨A1, c1, B1, d1, rfl, hv1, hs1, hb1⟩
  have hbw1 : Below w.heap.size w w1 := by ((repeat' (first | with_reducible exact Below.refl _ _ | with_reducible assumption | with_reducible refine Below.drew ?_ | with_reducible refine below_drewN ?_ _ | with_reducible refine Below.setCell ?_ ?_ _ | with_reducible refine Below.alloc ?_ ?_ _ | with_reducible refine Below.trans ?_ (Below.mono (by assumption) ?_))) <;> (first | (simp; done) | (simp; omega) | omega))
  have hU := unitsL_len u
  have hT : (t.take 27).length ≤ 27 := by simp; omega
  generalize unitsL u = U at *
  generalize t.take 27 = T at *
  have k1 := hblk.below hb1 hblk.lt
  obtain ⟨⟨x0, x1⟩, y0, y1⟩ := k1.two
  have q1 := k1.lt
  have hl0 := hblk.lt
  obtain ⟨W, hW⟩ : ∃ W, (w1.setCell ⟨w.heap.size, 0, none⟩ (.slice A1 U.length c1)).setCell ⟨w.heap.size, 1, none⟩ (.slice B1 T.length d1) = W := ⟨_, rfl⟩
  have hkW : Blk W w.heap.size 47 #[.slice A1 U.length c1, .slice B1 T.length d1] := by rw [← hW]; exact k1.set2 _ _
  have hvW : VS W W.heap.size A1 U := by rw [← hW]; exact ((hv1.setCell (.inl hl0) _).setCell (.inl hl0) _).vs (by simp)
  have hsW : BS W W.heap.size B1 T := by rw [← hW]; exact ((hs1.setCell (.inl hl0) _).setCell (.inl hl0) _).bs (by simp)
  have hbW : Below w.heap.size w W := by rw [← hW]; ((repeat' (first | with_reducible exact Below.refl _ _ | with_reducible assumption | with_reducible refine Below.drew ?_ | with_reducible refine below_drewN ?_ _ | with_reducible refine Below.setCell ?_ ?_ _ | with_reducible refine Below.alloc ?_ ?_ _ | with_reducible refine Below.trans ?_ (Below.mono (by assumption) ?_))) <;> (first | (simp; done) | (simp; omega) | omega))
  have HWW := Lib.hid hW
  clear hW
  go_upto_region 2 with fail
  rw [HWW.out]
  clear HWW k1 x0 x1 y0 y1 q1 hbw1 hb1 hv1 hs1 s0 s1 hA0 hB0 hblk hb0 HW hA hB hl0
  have hU' : U.length ≤ 1000000 := by omega
  have hT' : T.length ≤ 1000000 := by omega
  obtain ⟨z0, z1⟩ := hkW.two.1
  have hlW := hkW.lt
  have hsz := hbW.size
  go_wp2_with fail
  refine (textT_any A1 B1 c1 d1 U T W hU' hT' hvW hsW).mono ?_
  rintro e w2 ⟨rfl, hb2⟩
  have k2 := hkW.below hb2 hlW
  obtain ⟨v0, v1⟩ := k2.two.1
  have hl2 := k2.lt
  have hv2 := (hvW.below hb2).more hb2.size
  have hs2 := (hsW.below hb2).more hb2.size
  have hbw2 : Below w.heap.size w w2 := by ((repeat' (first | with_reducible exact Below.refl _ _ | with_reducible assumption | with_reducible refine Below.drew ?_ | with_reducible refine below_drewN ?_ _ | with_reducible refine Below.setCell ?_ ?_ _ | with_reducible refine Below.alloc ?_ ?_ _ | with_reducible refine Below.trans ?_ (Below.mono (by assumption) ?_))) <;> (first | (simp; done) | (simp; omega) | omega))
  clear z0 z1
  cases hc : chkB U T
  · have e1 : textT U T = ([], 1) := by simp [textT, hc]
    have e2 : chkE U T = 1 := by simp [chkE, hc]
    rw [e1]
    have E2 := Lib.hid e2
    clear e1 hc e2
    go_wp2_with fail
    refine (check_any A1 B1 c1 d1 U T w2 (by unfold maxLen; omega) (by unfold maxLen; omega) hv2 hs2).mono ?_
    rw [E2.out]
    rintro e w3 ⟨rfl, hb3⟩
    have hz3 := hb3.size
    go_wp2_with fail
    refine (awake14_any _).mono ?_
    rintro e w4 ⟨rfl, hb4⟩
    go_wp2
    go_ret
    exact ⟨rfl, by ((repeat' (first | with_reducible exact Below.refl _ _ | with_reducible assumption | with_reducible refine Below.drew ?_ | with_reducible refine below_drewN ?_ _ | with_reducible refine Below.setCell ?_ ?_ _ | with_reducible refine Below.alloc ?_ ?_ _ | with_reducible refine Below.trans ?_ (Below.mono (by assumption) ?_))) <;> (first | (simp; done) | (simp; omega) | omega))⟩
  · have e1 : textT U T = (digs (unitsTo U T U.length), 0) := by simp [textT, hc]
    have hDl : (unitsTo U T U.length).length = U.length := unitsTo_length _ _ _
    have hpf : pendF U T = pend (unitsTo U T U.length) := by simp [pendF, hc]
    have hnx : (pend (unitsTo U T U.length) = [] → nextF U T = (V.zero, 6)) ∧ (∀ v r, pend (unitsTo U T U.length) = v :: r → nextF U T = (v, 0)) := ⟨nextF_nil hc, fun _ _ => nextF_cons hc⟩
    have hat := unitsTo_at U T
    rw [e1]
    generalize unitsTo U T U.length = D at *
    have hS : (digs D).length = U.length := by rw [digs_length, hDl]
    have hpz := pend_zer D
    have hfp := fst_pend D 0
    obtain ⟨S, hSd⟩ : ∃ S, digs D = S := ⟨_, rfl⟩
    rw [hSd] at hS hpz hfp ⊢
    have HS := Lib.hid hS
    have HPZ := Lib.hid hpz
    have HFP := Lib.hid hfp
    have HPF := Lib.hid hpf
    have HNX := Lib.hid hnx
    have HAT := Lib.hid hat
    have hSl : S.length ≤ 201 := by omega
    clear e1 hc hDl hpf hnx hat hS hpz hfp hSd
    go_wp2_with fail
    go_loop [5, 6, 7] (fun z f i => ∃ j : Nat, j ≤ S.length ∧ i = .int .i64 j ∧ z = .int .i64 (zer (S.take j)) ∧ f = .int .i64 (fstZ (S.take j) 0)) (fun _ _ i => S.length - (intOf i).toNat)
    case atStart => exact ⟨0, by omega, rfl, rfl, rfl⟩
    case round =>
      obtain ⟨j, hj, rfl, rfl, rfl⟩ := hrel
      by_cases hlt : j < S.length
      · have hcj : S[j]? = some S[j] := List.getElem?_eq_getElem hlt
        have htk := take_snoc8 S j _ hcj
        have hzs := zer_snoc (S.take j) S[j]
        have hfs := fstZ_snoc (S.take j) S[j] 0
        rw [← htk] at hzs hfs
        rw [List.length_take, Nat.min_eq_left (by omega), Nat.zero_add] at hfs
        have hzl := zer_le (S.take j)
        have hzl2 : (S.take j).length ≤ j := List.length_take_le _ _
        have HZS := Lib.hid hzs
        have HFS := Lib.hid hfs
        have hge := (fstZ_ge (S.take j) 0).1
        clear hzs hfs htk hcj
        by_cases h48 : S[j] = 48
        · have t1 : (((S[j]).toNat : Int) == 48) = true := by rw [h48]; rfl
          have t2 : (S[j] == 48) = true := by rw [h48]; rfl
          have HT := Lib.hid t2
          clear h48 t2
          by_cases hf : fstZ (S.take j) 0 < 0
          all_goals
            go_wp2
            go_round
            case rel => exact ⟨j + 1, by omega, by go_num, by rw [HZS.out, HT.out]; go_num, by rw [HFS.out, HT.out]; simp [hf]⟩
            case measure => simp [intOf]; omega
        · have t1 : (((S[j]).toNat : Int) == 48) = false := by
            rw [beq_eq_false_iff_ne]; intro e; exact h48 (UInt8.toNat_inj.1 (by simpa using (by exact_mod_cast e : (S[j]).toNat = 48)))
          have t2 : (S[j] == 48) = false := by simpa using h48
          have HT := Lib.hid t2
          clear h48 t2
          go_wp2
          go_round
          case rel => exact ⟨j + 1, by omega, by go_num, by rw [HZS.out, HT.out]; simp, by rw [HFS.out, HT.out]; congr 1; simp; omega⟩
          case measure => simp [intOf]; omega
      · obtain rfl : j = S.length := by omega
        rw [List.take_length]
        clear hlt hj
        have hPl : (pend D).length = zer S := HPZ.out
        have hnl : S.length = U.length := HS.out
        rcases HFP.out with ⟨hp, hf⟩ | ⟨k, v, r, hk, hkv, hp, hf⟩
        · have hn := HNX.out.1 hp
          have HN := Lib.hid hn
          have HPL := Lib.hid hPl
          rw [hf]
          rw [hnl]
          clear hn hp hf hPl HFP
          have hne : ((S.length : Int) != (U.length : Int)) = false := by rw [HS.out]; simp
          go_wp2_with fail
          refine (next_any A1 B1 c1 d1 U T w2 hU' hT' hv2 hs2).mono ?_
          rw [HN.out]
          rintro e w3 ⟨rfl, hb3⟩
          have k3 := k2.below hb3 hl2
          have hl3 := k3.lt
          have hv3 := (hv2.below hb3).more hb3.size
          have hs3 := (hs2.below hb3).more hb3.size
          obtain ⟨w4, hw4⟩ : ∃ w4, w3.alloc (.cells #[.int .i64 (V.zero).k, .int .i64 (V.zero).i, .string ⟨(V.zero).s.toArray⟩] 31) = w4 := ⟨_, rfl⟩
          have hb4 : Below w3.heap.size w3 w4 := by rw [← hw4]; ((repeat' (first | with_reducible exact Below.refl _ _ | with_reducible assumption | with_reducible refine Below.drew ?_ | with_reducible refine below_drewN ?_ _ | with_reducible refine Below.setCell ?_ ?_ _ | with_reducible refine Below.alloc ?_ ?_ _ | with_reducible refine Below.trans ?_ (Below.mono (by assumption) ?_))) <;> (first | (simp; done) | (simp; omega) | omega))
          have n4 : Blk w4 w3.heap.size 31 #[.int .i64 (V.zero).k, .int .i64 (V.zero).i, .string ⟨(V.zero).s.toArray⟩] := by rw [← hw4]; exact Blk.new _ _ _
          have m4 := k3.below hb4 hl3
          have hv4 := (hv3.below hb4).more hb4.size
          have hs4 := (hs3.below hb4).more hb4.size
          have HW4 := Lib.hid hw4
          clear hw4
          go_upto_region 14 with fail
          rw [show w3.alloc (.cells #[.int .i64 (V.zero).k, .int .i64 (V.zero).i, .string ⟨(V.zero).s.toArray⟩] 31) = w4 from HW4.out]
          clear HW4
          have hbw4 : Below w.heap.size w w4 := hbw2.trans ((hb3.trans (hb4.mono hb3.size)).mono hbw2.size)
          have hz4 := hbw4.size
          clear v0 v1
          obtain ⟨v0, v1⟩ := m4.two.1
          go_wp2_with fail
          refine (pending_any A1 B1 c1 d1 U T w4 hU' hT' hv4 hs4).mono ?_
          rw [HPF.out]
          rintro e w5 ⟨A5, c5, rfl, hc5, hm5, hv5, hb5⟩
          rw [HPL.out]
          have k5 := m4.below hb5 m4.lt
          have p5 := n4.below hb5 n4.lt
          obtain ⟨v0, v1⟩ := k5.two.1
          have hbw5 : Below w.heap.size w w5 := hbw4.trans (hb5.mono hz4)
          have hz5 := hbw5.size
          clear hv5 HPF HPL
          go_wp2_with fail
          refine wp_region_held_drew (S := (fun _ => True)) (by kernel_rfl) ?_ (fun hHeld => ?_)
          · try dsimp only
            first | done | trivial
          refine wpAnyH_take (i := 0) (v := ?_) rfl (by kernel_rfl) (by kernel_rfl) (by kernel_rfl) (fun _ _ _ h => h) (Or.inl ⟨by rfl, ?_⟩) (by assumption) ?_
          rotate_left
          · intro wq hSw
            try dsimp only at hSw
            go_simp
            try with_reducible rfl
          try simp only [Act.put, List.getElem_toArray, List.getElem_cons_zero, List.setIfInBounds_toArray, List.set_cons_zero, List.set_cons_succ]
          refine wpAnyH_take (i := 1) (v := ?_) rfl (by kernel_rfl) (by kernel_rfl) (by kernel_rfl) (fun _ _ _ h => h) (Or.inl ⟨by rfl, ?_⟩) (by assumption) ?_
          rotate_left
          · intro wq hSw
            try dsimp only at hSw
            go_simp
            try with_reducible rfl
          try simp only [Act.put, List.getElem_toArray, List.getElem_cons_zero, List.getElem_cons_succ, List.setIfInBounds_toArray, List.set_cons_zero, List.set_cons_succ]
          refine wpAnyH_take (i := 2) (v := ?_) rfl (by kernel_rfl) (by kernel_rfl) (by kernel_rfl) (fun _ _ _ h => h) (Or.inl ⟨by rfl, ?_⟩) (by assumption) ?_
          rotate_left
          · intro wq hSw
            try dsimp only at hSw
            go_simp
            try with_reducible rfl
          try simp only [Act.put, List.getElem_toArray, List.getElem_cons_zero, List.getElem_cons_succ, List.setIfInBounds_toArray, List.set_cons_zero, List.set_cons_succ]
          refine wpAnyH_take (i := 3) (v := undef) rfl (by kernel_rfl) (by kernel_rfl) (by kernel_rfl) (fun _ _ _ h => h) (Or.inr ⟨by rfl, rfl⟩) (by assumption) ?_
          try simp only [Act.put, List.getElem_toArray, List.getElem_cons_zero, List.getElem_cons_succ, List.setIfInBounds_toArray, List.set_cons_zero, List.set_cons_succ]
          refine wpAnyH_take (i := 4) (v := undef) rfl (by kernel_rfl) (by kernel_rfl) (by kernel_rfl) (fun _ _ _ h => h) (Or.inr ⟨by rfl, rfl⟩) (by assumption) ?_
          try simp only [Act.put, List.getElem_toArray, List.getElem_cons_zero, List.getElem_cons_succ, List.setIfInBounds_toArray, List.set_cons_zero, List.set_cons_succ]
          refine wpAnyH_take (i := 5) (v := undef) rfl (by kernel_rfl) (by kernel_rfl) (by kernel_rfl) (fun _ _ _ h => h) (Or.inr ⟨by rfl, rfl⟩) (by assumption) ?_
          try simp only [Act.put, List.getElem_toArray, List.getElem_cons_zero, List.getElem_cons_succ, List.setIfInBounds_toArray, List.set_cons_zero, List.set_cons_succ]
          refine wpAnyH_take (i := 6) (v := undef) rfl (by kernel_rfl) (by kernel_rfl) (by kernel_rfl) (fun _ _ _ h => h) (Or.inr ⟨by rfl, rfl⟩) (by assumption) ?_
          try simp only [Act.put, List.getElem_toArray, List.getElem_cons_zero, List.getElem_cons_succ, List.setIfInBounds_toArray, List.set_cons_zero, List.set_cons_succ]
          refine wpAnyH_take (i := 7) (v := undef) rfl (by kernel_rfl) (by kernel_rfl) (by kernel_rfl) (fun _ _ _ h => h) (Or.inr ⟨by rfl, rfl⟩) (by assumption) ?_
          try simp only [Act.put, List.getElem_toArray, List.getElem_cons_zero, List.getElem_cons_succ, List.setIfInBounds_toArray, List.set_cons_zero, List.set_cons_succ]
          refine wpAnyH_take (i := 8) (v := undef) rfl (by kernel_rfl) (by kernel_rfl) (by kernel_rfl) (fun _ _ _ h => h) (Or.inr ⟨by rfl, rfl⟩) (by assumption) ?_
          try simp only [Act.put, List.getElem_toArray, List.getElem_cons_zero, List.getElem_cons_succ, List.setIfInBounds_toArray, List.set_cons_zero, List.set_cons_succ]
          refine wpAnyH_take (i := 9) (v := undef) rfl (by kernel_rfl) (by kernel_rfl) (by kernel_rfl) (fun _ _ _ h => h) (Or.inr ⟨by rfl, rfl⟩) (by assumption) ?_
          try simp only [Act.put, List.getElem_toArray, List.getElem_cons_zero, List.getElem_cons_succ, List.setIfInBounds_toArray, List.set_cons_zero, List.set_cons_succ]
          refine wpAnyH_take (i := 10) (v := ?_) rfl (by kernel_rfl) (by kernel_rfl) (by kernel_rfl) (fun _ _ _ h => h) (Or.inl ⟨by rfl, ?_⟩) (by assumption) ?_
          rotate_left
          · intro wq hSw
            try dsimp only at hSw
            go_simp
            try with_reducible rfl
          try simp only [Act.put, List.getElem_toArray, List.getElem_cons_zero, List.getElem_cons_succ, List.setIfInBounds_toArray, List.set_cons_zero, List.set_cons_succ]
          refine wpAnyH_take (i := 11) (v := ?_) rfl (by kernel_rfl) (by kernel_rfl) (by kernel_rfl) (fun _ _ _ h => h) (Or.inl ⟨by rfl, ?_⟩) (by assumption) ?_
          rotate_left
          · intro wq hSw
            try dsimp only at hSw
            go_simp
            try with_reducible rfl
          try simp only [Act.put, List.getElem_toArray, List.getElem_cons_zero, List.getElem_cons_succ, List.setIfInBounds_toArray, List.set_cons_zero, List.set_cons_succ]
          refine wpAnyH_ready (rs := [12]) (by kernel_rfl) (by simp) ?_
          refine AllReadyH.cons rfl (fun K hK => ?_) AllReadyH.nil
          go_simp
          refine (awake14_any _).mono ?_ <;> rintro e w12 ⟨rfl, hb12⟩ <;> have hz12 := hb12.size <;> (try simp at hz12)
          go_wp2_with fail
          refine hK.out _ _ ?_ (fun hHeld => ?_)
          · try dsimp only
            first | done | trivial
          clear hK K
          try simp only [Act.put, List.getElem_toArray, List.getElem_cons_zero, List.getElem_cons_succ, List.setIfInBounds_toArray, List.set_cons_zero, List.set_cons_succ]
          refine wpAnyH_take (i := 13) (v := ?_) rfl (by kernel_rfl) (by kernel_rfl) (by kernel_rfl) (fun _ _ _ h => h) (Or.inl ⟨by rfl, ?_⟩) (by assumption) ?_
          rotate_left
          · intro wq hSw
            try dsimp only at hSw
            go_simp
            try with_reducible rfl
          try simp only [Act.put, List.getElem_toArray, List.getElem_cons_zero, List.getElem_cons_succ, List.setIfInBounds_toArray, List.set_cons_zero, List.set_cons_succ]
          refine wpAnyH_take (i := 14) (v := ?_) rfl (by kernel_rfl) (by kernel_rfl) (by kernel_rfl) (fun _ _ _ h => h) (Or.inl ⟨by rfl, ?_⟩) (by assumption) ?_
          rotate_left
          · intro wq hSw
            try dsimp only at hSw
            go_simp
            try with_reducible rfl
          try simp only [Act.put, List.getElem_toArray, List.getElem_cons_zero, List.getElem_cons_succ, List.setIfInBounds_toArray, List.set_cons_zero, List.set_cons_succ]
          refine wpAnyH_done (by kernel_rfl) ?_ _
          go_wp2_with fail
          go_ret
          exact ⟨rfl, by ((repeat' (first | with_reducible exact Below.refl _ _ | with_reducible assumption | with_reducible refine Below.drew ?_ | with_reducible refine below_drewN ?_ _ | with_reducible refine Below.setCell ?_ ?_ _ | with_reducible refine Below.alloc ?_ ?_ _ | with_reducible refine Below.trans ?_ (Below.mono (by assumption) ?_))) <;> (first | (simp; done) | (simp; omega) | omega))⟩
        · have hn := HNX.out.2 v r hp
          have HN := Lib.hid hn
          have HPL := Lib.hid hPl
          rw [hf, Nat.zero_add]
          obtain ⟨huk, hkl⟩ := HAT.out k v false hkv
          have HUK := Lib.hid huk
          clear hn hp hf hPl HFP hkv hk huk
          have hne : ((S.length : Int) != (U.length : Int)) = false := by rw [HS.out]; simp
          go_wp2_with fail
          refine (next_any A1 B1 c1 d1 U T w2 hU' hT' hv2 hs2).mono ?_
          rw [HN.out]
          rintro e w3 ⟨rfl, hb3⟩
          have k3 := k2.below hb3 hl2
          have hl3 := k3.lt
          have hv3 := (hv2.below hb3).more hb3.size
          have hs3 := (hs2.below hb3).more hb3.size
          obtain ⟨w4, hw4⟩ : ∃ w4, w3.alloc (.cells #[.int .i64 (v).k, .int .i64 (v).i, .string ⟨(v).s.toArray⟩] 31) = w4 := ⟨_, rfl⟩
          have hb4 : Below w3.heap.size w3 w4 := by rw [← hw4]; ((repeat' (first | with_reducible exact Below.refl _ _ | with_reducible assumption | with_reducible refine Below.drew ?_ | with_reducible refine below_drewN ?_ _ | with_reducible refine Below.setCell ?_ ?_ _ | with_reducible refine Below.alloc ?_ ?_ _ | with_reducible refine Below.trans ?_ (Below.mono (by assumption) ?_))) <;> (first | (simp; done) | (simp; omega) | omega))
          have n4 : Blk w4 w3.heap.size 31 #[.int .i64 (v).k, .int .i64 (v).i, .string ⟨(v).s.toArray⟩] := by rw [← hw4]; exact Blk.new _ _ _
          have m4 := k3.below hb4 hl3
          have hv4 := (hv3.below hb4).more hb4.size
          have hs4 := (hs3.below hb4).more hb4.size
          have HW4 := Lib.hid hw4
          clear hw4
          go_upto_region 14 with fail
          rw [show w3.alloc (.cells #[.int .i64 (v).k, .int .i64 (v).i, .string ⟨(v).s.toArray⟩] 31) = w4 from HW4.out]
          clear HW4
          have hbw4 : Below w.heap.size w w4 := hbw2.trans ((hb3.trans (hb4.mono hb3.size)).mono hbw2.size)
          have hz4 := hbw4.size
          clear v0 v1
          obtain ⟨v0, v1⟩ := m4.two.1
          go_wp2_with fail
          refine (pending_any A1 B1 c1 d1 U T w4 hU' hT' hv4 hs4).mono ?_
          rw [HPF.out]
          rintro e w5 ⟨A5, c5, rfl, hc5, hm5, hv5, hb5⟩
          rw [HPL.out]
          have k5 := m4.below hb5 m4.lt
          have p5 := n4.below hb5 n4.lt
          have hbw5 : Below w.heap.size w w5 := hbw4.trans (hb5.mono hz4)
          have hz5 := hbw5.size
          have hv6 := (hv4.below hb5).more hb5.size
          obtain ⟨b, off, v', rfl, hbB, hv', c0, c1', c2⟩ := hv6.at_ hkl
          rw [HUK.out] at hv'
          cases hv'
          obtain ⟨W5, rfl⟩ : ∃ W5, W5 = w5 := ⟨_, rfl⟩
          have HSH : Hid (∀ w' : World, Below W5.heap.size W5 w' → ((w'.cell? ⟨w3.heap.size, 0, none⟩ = some (.int .i64 (v).k) ∧ w'.cell? ⟨w3.heap.size, 1, none⟩ = some (.int .i64 (v).i) ∧ w'.cell? ⟨w3.heap.size, 2, none⟩ = some (.string ⟨(v).s.toArray⟩)) ∧ w'.cell? ⟨w.heap.size, 0, none⟩ = some (.slice (some ⟨b, off, none⟩) U.length c1) ∧ w'.cell? ⟨b, off + k * 3, none⟩ = some (.int .i64 v.k) ∧ w'.cell? ⟨b, off + k * 3 + 1, none⟩ = some (.int .i64 v.i) ∧ w'.cell? ⟨b, off + k * 3 + 2, none⟩ = some (.string ⟨v.s.toArray⟩))) :=
            fun w' hw => ⟨(p5.below hw p5.lt).three.1, (k5.below hw k5.lt).two.1.1, (hw.cell hbB).trans c0, (hw.cell hbB).trans c1', (hw.cell hbB).trans c2⟩
          have i1 : (0 : Int) ≤ (k : Int) := by omega
          have i2 : (k : Int) < (U.length : Int) := by omega
          have hvv : veq ⟨v.k, v.i, v.s⟩ ⟨v.k, v.i, v.s⟩ = true := by simp [veq]
          have hkk : decide ((k : Int) < 0) = false := by simp
          clear hv5 HPF HPL c0 c1' c2 HUK
          go_wp2_with fail
          refine wp_region_held_drew (S := (fun w' => (w'.cell? ⟨w3.heap.size, 0, none⟩ = some (.int .i64 (v).k) ∧ w'.cell? ⟨w3.heap.size, 1, none⟩ = some (.int .i64 (v).i) ∧ w'.cell? ⟨w3.heap.size, 2, none⟩ = some (.string ⟨(v).s.toArray⟩)) ∧ w'.cell? ⟨w.heap.size, 0, none⟩ = some (.slice (some ⟨b, off, none⟩) U.length c1) ∧ w'.cell? ⟨b, off + k * 3, none⟩ = some (.int .i64 v.k) ∧ w'.cell? ⟨b, off + k * 3 + 1, none⟩ = some (.int .i64 v.i) ∧ w'.cell? ⟨b, off + k * 3 + 2, none⟩ = some (.string ⟨v.s.toArray⟩))) (by kernel_rfl) ?_ (fun hHeld => ?_)
          · try dsimp only
            exact HSH.out _ (by ((repeat' (first | with_reducible exact Below.refl _ _ | with_reducible assumption | with_reducible refine Below.drew ?_ | with_reducible refine below_drewN ?_ _ | with_reducible refine Below.setCell ?_ ?_ _ | with_reducible refine Below.alloc ?_ ?_ _ | with_reducible refine Below.trans ?_ (Below.mono (by assumption) ?_))) <;> (first | (simp; done) | (simp; omega) | omega)))
          refine wpAnyH_take (i := 0) (v := ?_) rfl (by kernel_rfl) (by kernel_rfl) (by kernel_rfl) (fun _ _ _ h => h) (Or.inl ⟨by rfl, ?_⟩) (by assumption) ?_
          rotate_left
          · intro wq hSw
            try dsimp only at hSw
            go_simp
            try with_reducible rfl
          try simp only [Act.put, List.getElem_toArray, List.getElem_cons_zero, List.setIfInBounds_toArray, List.set_cons_zero, List.set_cons_succ]
          refine wpAnyH_take (i := 1) (v := ?_) rfl (by kernel_rfl) (by kernel_rfl) (by kernel_rfl) (fun _ _ _ h => h) (Or.inl ⟨by rfl, ?_⟩) (by assumption) ?_
          rotate_left
          · intro wq hSw
            try dsimp only at hSw
            go_simp
            try with_reducible rfl
          try simp only [Act.put, List.getElem_toArray, List.getElem_cons_zero, List.getElem_cons_succ, List.setIfInBounds_toArray, List.set_cons_zero, List.set_cons_succ]
          refine wpAnyH_take (i := 2) (v := ?_) rfl (by kernel_rfl) (by kernel_rfl) (by kernel_rfl) (fun _ _ _ h => h) (Or.inl ⟨by rfl, ?_⟩) (by assumption) ?_
          rotate_left
          · intro wq hSw
            try dsimp only at hSw
            go_simp
            try with_reducible rfl
          try simp only [Act.put, List.getElem_toArray, List.getElem_cons_zero, List.getElem_cons_succ, List.setIfInBounds_toArray, List.set_cons_zero, List.set_cons_succ]
          refine wpAnyH_take (i := 3) (v := ?_) rfl (by kernel_rfl) (by kernel_rfl) (by kernel_rfl) (fun _ _ _ h => h) (Or.inl ⟨by rfl, ?_⟩) (by assumption) ?_
          rotate_left
          · intro wq hSw
            try dsimp only at hSw
            go_simp
            try with_reducible rfl
          try simp only [Act.put, List.getElem_toArray, List.getElem_cons_zero, List.getElem_cons_succ, List.setIfInBounds_toArray, List.set_cons_zero, List.set_cons_succ]
          refine wpAnyH_take (i := 4) (v := ?_) rfl (by kernel_rfl) (by kernel_rfl) (by kernel_rfl) (fun _ _ _ h => h) (Or.inl ⟨by rfl, ?_⟩) (by assumption) ?_
          rotate_left
          · intro wq hSw
            try dsimp only at hSw
            go_simp
            try with_reducible rfl
          try simp only [Act.put, List.getElem_toArray, List.getElem_cons_zero, List.getElem_cons_succ, List.setIfInBounds_toArray, List.set_cons_zero, List.set_cons_succ]
          refine wpAnyH_take (i := 5) (v := ?_) rfl (by kernel_rfl) (by kernel_rfl) (by kernel_rfl) (fun _ _ _ h => h) (Or.inl ⟨by rfl, ?_⟩) (by assumption) ?_
          rotate_left
          · intro wq hSw
            try dsimp only at hSw
            go_simp
            try with_reducible rfl
          try simp only [Act.put, List.getElem_toArray, List.getElem_cons_zero, List.getElem_cons_succ, List.setIfInBounds_toArray, List.set_cons_zero, List.set_cons_succ]
          refine wpAnyH_take (i := 6) (v := ?_) rfl (by kernel_rfl) (by kernel_rfl) (by kernel_rfl) (fun _ _ _ h => h) (Or.inl ⟨by rfl, ?_⟩) (by assumption) ?_
          rotate_left
          · intro wq hSw
            try dsimp only at hSw
            go_simp
            try with_reducible rfl
          try simp only [Act.put, List.getElem_toArray, List.getElem_cons_zero, List.getElem_cons_succ, List.setIfInBounds_toArray, List.set_cons_zero, List.set_cons_succ]
          refine wpAnyH_take (i := 7) (v := ?_) rfl (by kernel_rfl) (by kernel_rfl) (by kernel_rfl) (fun _ _ _ h => h) (Or.inl ⟨by rfl, ?_⟩) (by assumption) ?_
          rotate_left
          · intro wq hSw
            try dsimp only at hSw
            go_simp
            try with_reducible rfl
          try simp only [Act.put, List.getElem_toArray, List.getElem_cons_zero, List.getElem_cons_succ, List.setIfInBounds_toArray, List.set_cons_zero, List.set_cons_succ]
          refine wpAnyH_take (i := 8) (v := ?_) rfl (by kernel_rfl) (by kernel_rfl) (by kernel_rfl) (fun _ _ _ h => h) (Or.inl ⟨by rfl, ?_⟩) (by assumption) ?_
          rotate_left
          · intro wq hSw
            try dsimp only at hSw
            go_simp
            try with_reducible rfl
          try simp only [Act.put, List.getElem_toArray, List.getElem_cons_zero, List.getElem_cons_succ, List.setIfInBounds_toArray, List.set_cons_zero, List.set_cons_succ]
          refine wpAnyH_take (i := 9) (v := ?_) rfl (by kernel_rfl) (by kernel_rfl) (by kernel_rfl) (fun _ _ _ h => h) (Or.inl ⟨by rfl, ?_⟩) (by assumption) ?_
          rotate_left
          · intro wq hSw
            try dsimp only at hSw
            go_simp
            try with_reducible rfl
          try simp only [Act.put, List.getElem_toArray, List.getElem_cons_zero, List.getElem_cons_succ, List.setIfInBounds_toArray, List.set_cons_zero, List.set_cons_succ]
          refine wpAnyH_take (i := 10) (v := ?_) rfl (by kernel_rfl) (by kernel_rfl) (by kernel_rfl) (fun _ _ _ h => h) (Or.inl ⟨by rfl, ?_⟩) (by assumption) ?_
          rotate_left
          · intro wq hSw
            try dsimp only at hSw
            go_simp
            try with_reducible rfl
          try simp only [Act.put, List.getElem_toArray, List.getElem_cons_zero, List.getElem_cons_succ, List.setIfInBounds_toArray, List.set_cons_zero, List.set_cons_succ]
          refine wpAnyH_take (i := 11) (v := ?_) rfl (by kernel_rfl) (by kernel_rfl) (by kernel_rfl) (fun _ _ _ h => h) (Or.inl ⟨by rfl, ?_⟩) (by assumption) ?_
          rotate_left
          · intro wq hSw
            try dsimp only at hSw
            go_simp
            try with_reducible rfl
          try simp only [Act.put, List.getElem_toArray, List.getElem_cons_zero, List.getElem_cons_succ, List.setIfInBounds_toArray, List.set_cons_zero, List.set_cons_succ]
          refine wpAnyH_ready (rs := [12]) (by kernel_rfl) (by simp) ?_
          refine AllReadyH.cons rfl (fun K hK => ?_) AllReadyH.nil
          go_simp
          refine (awake14_any _).mono ?_ <;> rintro e w12 ⟨rfl, hb12⟩ <;> have hz12 := hb12.size <;> (try simp at hz12)
          go_wp2_with fail
          refine hK.out _ _ ?_ (fun hHeld => ?_)
          · try dsimp only
            exact HSH.out _ (by ((repeat' (first | with_reducible exact Below.refl _ _ | with_reducible assumption | with_reducible refine Below.drew ?_ | with_reducible refine below_drewN ?_ _ | with_reducible refine Below.setCell ?_ ?_ _ | with_reducible refine Below.alloc ?_ ?_ _ | with_reducible refine Below.trans ?_ (Below.mono (by assumption) ?_))) <;> (first | (simp; done) | (simp; omega) | omega)))
          clear hK K
          try simp only [Act.put, List.getElem_toArray, List.getElem_cons_zero, List.getElem_cons_succ, List.setIfInBounds_toArray, List.set_cons_zero, List.set_cons_succ]
          refine wpAnyH_take (i := 13) (v := ?_) rfl (by kernel_rfl) (by kernel_rfl) (by kernel_rfl) (fun _ _ _ h => h) (Or.inl ⟨by rfl, ?_⟩) (by assumption) ?_
          rotate_left
          · intro wq hSw
            try dsimp only at hSw
            go_simp
            try with_reducible rfl
          try simp only [Act.put, List.getElem_toArray, List.getElem_cons_zero, List.getElem_cons_succ, List.setIfInBounds_toArray, List.set_cons_zero, List.set_cons_succ]
          refine wpAnyH_take (i := 14) (v := ?_) rfl (by kernel_rfl) (by kernel_rfl) (by kernel_rfl) (fun _ _ _ h => h) (Or.inl ⟨by rfl, ?_⟩) (by assumption) ?_
          rotate_left
          · intro wq hSw
            try dsimp only at hSw
            go_simp
            try with_reducible rfl
          try simp only [Act.put, List.getElem_toArray, List.getElem_cons_zero, List.getElem_cons_succ, List.setIfInBounds_toArray, List.set_cons_zero, List.set_cons_succ]
          refine wpAnyH_done (by kernel_rfl) ?_ _
          go_wp2_with fail
          go_ret
          exact ⟨rfl, by ((repeat' (first | with_reducible exact Below.refl _ _ | with_reducible assumption | with_reducible refine Below.drew ?_ | with_reducible refine below_drewN ?_ _ | with_reducible refine Below.setCell ?_ ?_ _ | with_reducible refine Below.alloc ?_ ?_ _ | with_reducible refine Below.trans ?_ (Below.mono (by assumption) ?_))) <;> (first | (simp; done) | (simp; omega) | omega))⟩

open Go.ChangeShapes Go.WideShapes Go.ChangeAt
set_option maxRecDepth 100000 in
theorem trackCounts_lifted (os : Os) (started : os.Started) (H : Type) (enc : TypeId × Value → H) :
    ReturnsInHanded {} Try.checked os 10 .any (Rows.trackCountsSpec.pre6 enc Try.prog Try.f10 Rows.trackCountsRow.domain false) (Rows.trackCountsSpec.post enc Try.prog Try.f10 false true false false) := by
  refine returnsInHanded_of_change (C := Try.checked) own started (by kernel_rfl) Try.func10
    (ChangeSpec.witness6 (enc := enc) (C := Try.checked) false ⟨#[], #[.agg #[.slice none 0 0, .slice none 0 0]], []⟩ 8 (by kernel_rfl) (by kernel_rfl) (by kernel_rfl) (by kernel_rfl)) ?_
  intro W base args ds gs before hval0 hW hcnd _
  have hval : ∀ (j : Nat) t v, Try.f10.params[j]? = some t → args[j]? = some v → Value.okWide Try.prog W .any base t v := hval0
  have hW' := hW
  obtain ⟨p, q, hA0, hV, rfl, hfz, hnd⟩ := hW
  have hA : DataW.TrodAll enc Try.prog W 0 (fun _ => true) true Try.f10.params.toList args.toList ds p := hA0
  rw [Try.params10] at hA hval
  obtain ⟨v0, vs0, d0, ds0, p0, q0, hargs, rfl, rfl, h0, r0⟩ := trodAll_cons hA
  have k0 := h0
  have lt0 : ∀ x ∈ p0, x.block < W.heap.size := by obtain ⟨m, hm⟩ := k0; exact DataW.trod_lt m _ _ _ hm
  obtain ⟨rfl, rfl, rfl⟩ := trodAll_nil r0
  obtain rfl : args = #[v0] := by cases args; simp_all
  obtain ⟨rfl, rfl⟩ := trodVars_none hV
  obtain ⟨A, B, u, t, c, d, rfl, hu, ht, hA, hB, _⟩ := open_track (hval 0 47 v0 rfl rfl) h0
  clear hA0 hval0
  refine (trackCounts_walk A B c d u t W hu ht hA hB).mono fun e W' ⟨he, bel⟩ => ?_
  subst he
  exact ⟨_, rfl, _, _, _, [], _, [], hW', trodAll_mk1 (shut_bool Try.underlying4 _), (trodAll_cons_mk (Below.trod laidOut (by kernel_rfl) (of_decide_eq_true (by kernel_rfl)) k0 bel lt0) trodAll_mk0), rfl, bel.frame _, fun h => by cases h⟩

theorem trackCounts_over : Rows.trackCountsRow.holds Try.pinned (OpenSpec.ofChange Rows.trackCountsSpec) :=
  OpenClaim.holds_of_wide 10 Try.f10 rfl rfl rfl rfl rfl rfl rfl ⟨rfl, rfl, rfl, rfl, rfl⟩ rfl rfl rfl rfl rfl (by kernel_rfl) Try.func10 (by kernel_rfl)
    (of_decide_eq_true (by kernel_rfl)) (by unfold Func.isWrapper; first | (rw [if_pos (by decide +kernel)]; kernel_rfl) | (rw [if_neg (by decide +kernel)]; exact ⟨rfl, rfl⟩))
    (fun os started H enc _ => trackCounts_lifted os started H enc)

theorem trackCounts_holds : Rows.TrackCountsSaid := trackCounts_over
#print axioms trackCounts_holds

end Go.Proofs.Ytkeeekifejholaa
