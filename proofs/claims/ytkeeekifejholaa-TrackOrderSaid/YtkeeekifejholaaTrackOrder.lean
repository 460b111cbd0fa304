/- caddislaw14.TrackOrder answers true, whatever units and marks it is handed: in whatever order units are marked, the track is the same; those that are not are pending. No condition beyond the row's own. -/
import Derived.Test.YtkeeekifejholaaTrackX
import Derived.IntWalk
import Derived.Deep.CutBlock
namespace Go.Proofs.Ytkeeekifejholaa
open Go.RowKit

attribute [local go_sem] ByteArray.extract_mk ba_get
attribute [local go_sem ↓] Go.wp_at_zero Go.wp_at_succ run_eql_V run_neq_V run_nil_V





theorem unitsL_le (u : List V) : (unitsL u).length ≤ 201 := by simp only [unitsL, List.length_map, List.length_take]; omega

set_option maxRecDepth 100000 in
set_option maxHeartbeats 4000000 in
theorem trackOrder_walk (A B : Option Addr) (c d : Nat) (l : List V) (ks : List Nat) (w : World) (hl : l.length ≤ maxLen) (hks : ks.length ≤ maxLen) (hkb : ∀ n ∈ ks, n ≤ 65535) (hA : VS w w.heap.size A l) (hB : NS w w.heap.size B ks) :
    Calls Try.prog 8 #[.slice A l.length c, .slice B ks.length d] w (Ret (.bool true) w) := by
  have hlm := hks
  unfold maxLen at hlm
  have HKB := Lib.hid hkb
  clear hkb
  go_enter Try.func8, Try.ntmps8
  go_wp2_with fail
  refine (units_any A c l w hl hA).mono ?_
  rintro e w1 ⟨A1, c1, rfl, hc1, hm1, hv1, hb1⟩
  have hU := unitsL_le l
  generalize unitsL l = U at *
  have hU' : U.length ≤ 1000000 := by omega
  go_wp2_with fail
  refine (new_any A1 c1 U w1 hU' (hv1.vs (Nat.le_refl _))).mono ?_
  have hbw1s := hb1.size
  cases hr : risesB U
  · have e : newF U = (([], []), 1) := by simp [newF, hr]
    rw [e]
    rintro e w2 ⟨A2, c2, B2, d2, rfl, hv2, hs2, hb2⟩
    clear e hr
    have hz2 := hb2.size
    go_wp2_with fail
    refine (awake14_any _).mono ?_
    rintro e w3 ⟨rfl, hb3⟩
    go_wp2
    go_ret
    exact ⟨rfl, by ((repeat' (first | with_reducible exact Below.refl _ _ | with_reducible assumption | with_reducible refine Below.drew ?_ | with_reducible refine below_drewN ?_ _ | with_reducible refine Below.setCell ?_ ?_ _ | with_reducible refine Below.alloc ?_ ?_ _ | with_reducible refine Below.trans ?_ (Below.mono (by assumption) ?_))) <;> (first | (simp; done) | (simp; omega) | omega))⟩
  · have e : newF U = ((U, List.replicate ((U.length + 7) / 8) 0), 0) := by simp [newF, hr]
    have hck := chk_new hr
    rw [e]
    generalize List.replicate ((U.length + 7) / 8) (0 : UInt8) = T0 at *
    clear e hr
    rintro e w2 ⟨A2, c2, B2, d2, rfl, hv2, hs2, hb2⟩
    have hTl := chk_len hck
    have hT0 : T0.length ≤ 1000000 := by omega
    have HTL := Lib.hid hTl
    have HCK := Lib.hid hck
    clear hck hTl
    have hz2 := hb2.size
    obtain ⟨W, hW⟩ : ∃ W, w2.alloc (.cells #[.slice A2 U.length c2, .slice B2 T0.length d2] 47) = W := ⟨_, rfl⟩
    have hbW : Below w2.heap.size w2 W := by rw [← hW]; ((repeat' (first | with_reducible exact Below.refl _ _ | with_reducible assumption | with_reducible refine Below.drew ?_ | with_reducible refine below_drewN ?_ _ | with_reducible refine Below.setCell ?_ ?_ _ | with_reducible refine Below.alloc ?_ ?_ _ | with_reducible refine Below.trans ?_ (Below.mono (by assumption) ?_))) <;> (first | (simp; done) | (simp; omega) | omega))
    have hkW : Blk W w2.heap.size 47 #[.slice A2 U.length c2, .slice B2 T0.length d2] := by rw [← hW]; ((repeat' (first | with_reducible assumption | with_reducible refine Blk.drew ?_ | with_reducible refine Blk.drewN ?_ _ | with_reducible refine Blk.set3 ?_ _ _ _ | with_reducible refine Blk.far ?_ ?_ _ | ((with_reducible refine Blk.new' _ _ _ _ ?_) <;> (first | (simp; done) | (simp; omega) | omega) <;> done) | with_reducible refine Blk.alloc ?_ _ | with_reducible refine Blk3.drew ?_ | with_reducible refine Blk3.drewN ?_ _ | ((with_reducible refine Blk3.new' _ _ _ _ _ _ ?_) <;> (first | (simp; done) | (simp; omega) | omega) <;> done) | with_reducible refine Blk3.alloc ?_ _ | with_reducible refine Blk3.far ?_ ?_ _ | with_reducible refine Blk3.below ?_ (by assumption) ?_ | with_reducible refine Blk.below ?_ (by assumption) ?_)) <;> (first | (simp; done) | (simp; omega) | omega))
    have hbw2 : Below w.heap.size w w2 := by ((repeat' (first | with_reducible exact Below.refl _ _ | with_reducible assumption | with_reducible refine Below.drew ?_ | with_reducible refine below_drewN ?_ _ | with_reducible refine Below.setCell ?_ ?_ _ | with_reducible refine Below.alloc ?_ ?_ _ | with_reducible refine Below.trans ?_ (Below.mono (by assumption) ?_))) <;> (first | (simp; done) | (simp; omega) | omega))
    have hbwW : Below w.heap.size w W := hbw2.trans (hbW.mono hbw2.size)
    have hvW : VS W W.heap.size A2 U := ((hv2.vs (Nat.le_refl _)).below hbW).more hbW.size
    have hsW : BS W W.heap.size B2 T0 := ((hs2.bs (Nat.le_refl _)).below hbW).more hbW.size
    have hnW : NS W W.heap.size B ks := (hB.below hbwW).more hbwW.size
    have HW := Lib.hid hW
    have hszW := hbwW.size
    clear hW hv1 hv2 hs2 hb2 hb1 hA hB hbw2
    obtain ⟨g5, hg5⟩ : ∃ g, g = w2.heap.size := ⟨_, rfl⟩
    rw [← hg5] at hkW
    have hl5 := hkW.lt
    go_upto_region 2 with fail
    rw [HW.out, ← hg5]
    clear HW hg5 hbW hz2 hbw1s
    obtain ⟨q0, q1⟩ := hkW.two.1
    by_cases h0 : U.length = 0
    · have e0 : ((U.length : Int) == 0) = true := by rw [h0]; rfl
      clear h0
      go_wp2_with fail
      refine (awake14_any _).mono ?_
      rintro e w3 ⟨rfl, hb3⟩
      go_wp2
      go_ret
      exact ⟨rfl, by ((repeat' (first | with_reducible exact Below.refl _ _ | with_reducible assumption | with_reducible refine Below.drew ?_ | with_reducible refine below_drewN ?_ _ | with_reducible refine Below.setCell ?_ ?_ _ | with_reducible refine Below.alloc ?_ ?_ _ | with_reducible refine Below.trans ?_ (Below.mono (by assumption) ?_))) <;> (first | (simp; done) | (simp; omega) | omega))⟩
    · have e0 : ((U.length : Int) == 0) = false := by simpa using h0
      have hpos : 0 < U.length := by omega
      clear h0
      go_upto_region 4 with fail
      clear e0
      go_cut [7, 8] (fun s7 s8 wx => ∃ g7 g8, s7 = .pointer (some ⟨g7, 0, none⟩) ∧ s8 = .pointer (some ⟨g8, 0, none⟩) ∧ g7 ≠ g8 ∧ (W.heap.size ≤ g7 ∧ g7 < W.heap.size + 2) ∧ (W.heap.size ≤ g8 ∧ g8 < W.heap.size + 2) ∧ TX W.heap.size g7 U T0 wx ∧ TX W.heap.size g8 U T0 wx ∧ Below W.heap.size W wx ∧ W.heap.size + 2 ≤ wx.heap.size)
      case first =>
        have F : TX W.heap.size W.heap.size U T0 ((W.alloc (.cells #[.slice A2 U.length c2, .slice B2 T0.length d2] 47)).alloc (.cells #[.slice A2 U.length c2, .slice B2 T0.length d2] 47)).drew ∧
            TX W.heap.size (W.heap.size + 1) U T0 ((W.alloc (.cells #[.slice A2 U.length c2, .slice B2 T0.length d2] 47)).alloc (.cells #[.slice A2 U.length c2, .slice B2 T0.length d2] 47)).drew ∧
            Below W.heap.size W ((W.alloc (.cells #[.slice A2 U.length c2, .slice B2 T0.length d2] 47)).alloc (.cells #[.slice A2 U.length c2, .slice B2 T0.length d2] 47)).drew := by
          have hb : Below W.heap.size W ((W.alloc (.cells #[.slice A2 U.length c2, .slice B2 T0.length d2] 47)).alloc (.cells #[.slice A2 U.length c2, .slice B2 T0.length d2] 47)).drew := by ((repeat' (first | with_reducible exact Below.refl _ _ | with_reducible assumption | with_reducible refine Below.drew ?_ | with_reducible refine below_drewN ?_ _ | with_reducible refine Below.setCell ?_ ?_ _ | with_reducible refine Below.alloc ?_ ?_ _ | with_reducible refine Below.trans ?_ (Below.mono (by assumption) ?_))) <;> (first | (simp; done) | (simp; omega) | omega))
          exact ⟨TX.of A2 B2 c2 d2 (by ((repeat' (first | with_reducible assumption | with_reducible refine Blk.drew ?_ | with_reducible refine Blk.drewN ?_ _ | with_reducible refine Blk.set3 ?_ _ _ _ | with_reducible refine Blk.far ?_ ?_ _ | ((with_reducible refine Blk.new' _ _ _ _ ?_) <;> (first | (simp; done) | (simp; omega) | omega) <;> done) | with_reducible refine Blk.alloc ?_ _ | with_reducible refine Blk3.drew ?_ | with_reducible refine Blk3.drewN ?_ _ | ((with_reducible refine Blk3.new' _ _ _ _ _ _ ?_) <;> (first | (simp; done) | (simp; omega) | omega) <;> done) | with_reducible refine Blk3.alloc ?_ _ | with_reducible refine Blk3.far ?_ ?_ _ | with_reducible refine Blk3.below ?_ (by assumption) ?_ | with_reducible refine Blk.below ?_ (by assumption) ?_)) <;> (first | (simp; done) | (simp; omega) | omega))) (VX.low (hvW.below hb) hb.size) (BX.low (hsW.below hb) hb.size), TX.of A2 B2 c2 d2 (by ((repeat' (first | with_reducible assumption | with_reducible refine Blk.drew ?_ | with_reducible refine Blk.drewN ?_ _ | with_reducible refine Blk.set3 ?_ _ _ _ | with_reducible refine Blk.far ?_ ?_ _ | ((with_reducible refine Blk.new' _ _ _ _ ?_) <;> (first | (simp; done) | (simp; omega) | omega) <;> done) | with_reducible refine Blk.alloc ?_ _ | with_reducible refine Blk3.drew ?_ | with_reducible refine Blk3.drewN ?_ _ | ((with_reducible refine Blk3.new' _ _ _ _ _ _ ?_) <;> (first | (simp; done) | (simp; omega) | omega) <;> done) | with_reducible refine Blk3.alloc ?_ _ | with_reducible refine Blk3.far ?_ ?_ _ | with_reducible refine Blk3.below ?_ (by assumption) ?_ | with_reducible refine Blk.below ?_ (by assumption) ?_)) <;> (first | (simp; done) | (simp; omega) | omega))) (VX.low (hvW.below hb) hb.size) (BX.low (hsW.below hb) hb.size), hb⟩
        have FF := Lib.hid F
        clear F
        go_region
        all_goals (go_wp2_with fail; go_meet)
        · exact ⟨_, _, rfl, rfl, by omega, by omega, by omega, FF.out.1, FF.out.2.1, FF.out.2.2, by simp⟩
        · exact ⟨_, _, rfl, rfl, by omega, by omega, by omega, FF.out.2.1, FF.out.1, FF.out.2.2, by simp⟩
      case rest =>
        obtain ⟨g7, g8, rfl, rfl, h78, hg7, hg8, hT7, hT8, hbc, hnc⟩ := hcut
        obtain ⟨n, hn⟩ : ∃ n, n = W.heap.size := ⟨_, rfl⟩
        have HG : Hid (∀ w', Below n W w' → (w'.cell? ⟨g5, 0, none⟩ = some (.slice A2 U.length c2) ∧ VS w' n A2 U ∧ NS w' n B ks)) := by
          show ∀ w', Below n W w' → _
          rw [hn]
          intro w' h
          exact ⟨(hkW.below h hl5).two.1.1, hvW.below h, hnW.below h⟩
        rw [← hn] at hg7 hg8 hT7 hT8 hbc hnc hl5 hszW
        clear q0 q1 hkW hvW hsW hnW hn
        obtain ⟨pl, hpl⟩ : ∃ pl, pl = ks.map (· % U.length) := ⟨_, rfl⟩
        have hpk : ∀ (j x : Nat), ks[j]? = some x → pl[j]? = some (x % U.length) := by intro j x h; rw [hpl, List.getElem?_map, h]; rfl
        have hpl1 : pl.length = ks.length := by rw [hpl]; simp
        have hpb : ∀ j ∈ pl, j < U.length := by
          intro j hj
          rw [hpl, List.mem_map] at hj
          obtain ⟨x, _, rfl⟩ := hj
          exact Nat.mod_lt _ hpos
        have HPK := Lib.hid hpk
        have HPL := Lib.hid hpl1
        have HPB := Lib.hid hpb
        clear hpk hpl hpl1 hpb
        go_upto_block 0 with fail
        go_cut [9, 10, 11] from 38 to 68 (fun _ _ _ wx => TX n g7 U (marksL T0 (pl.take 60)) wx ∧ TX n g8 U T0 wx ∧ Below n W wx ∧ n + 2 ≤ wx.heap.size)
        case first =>
          go_wp2_with fail
          go_loopw [9] (fun i wr => ∃ j : Nat, j ≤ ks.length ∧ j ≤ 60 ∧ i = .int .i64 j ∧ TX n g7 U (marksL T0 (pl.take j)) wr ∧ TX n g8 U T0 wr ∧ Below n W wr ∧ n + 2 ≤ wr.heap.size) (fun i _ => ks.length - (intOf i).toNat)
          case atStart => exact ⟨0, by omega, by omega, rfl, hT7, hT8, hbc, hnc⟩
          case round =>
            obtain ⟨j, hj1, hj2, rfl, hx7, hx8, hbr, hnr⟩ := hrel
            by_cases hlt : j < ks.length ∧ j < 60
            · obtain ⟨hlt, h60⟩ := hlt
              obtain ⟨r0, r1, r2⟩ := HG.out wr hbr
              obtain ⟨x, hx⟩ : ∃ x, ks[j]? = some x := ⟨_, List.getElem?_eq_getElem hlt⟩
              have hxb := HKB.out x (List.mem_of_getElem? hx)
              have hkl : x % U.length < U.length := Nat.mod_lt _ hpos
              have hpj := HPK.out j x hx
              have hcn : chkB U (marksL T0 (pl.take j)) = true := marksL_chk HCK.out _ (fun i hi => HPB.out i (List.mem_of_mem_take hi))
              have hnext : marksL T0 (pl.take (j + 1)) = setBit (marksL T0 (pl.take j)) (x % U.length) := by
                rw [List.take_add_one, hpj]; exact marksL_snoc _ _ _
              generalize marksL T0 (pl.take j) = Ta at *
              have hlT := chk_len hcn
              have hTm : Ta.length ≤ 1000000 := by omega
              obtain ⟨k, hk⟩ : ∃ k, x % U.length = k := ⟨_, rfl⟩
              have i5 : Int.tmod (x : Int) (U.length : Int) = (k : Int) := by rw [Int.tmod_eq_emod_of_nonneg (by omega), ← hk]; exact (Int.natCast_emod _ _).symm
              have i7 : (x : Int) % (U.length : Int) = (k : Int) := by rw [← hk]; exact (Int.natCast_emod _ _).symm
              have i8 : IntKind.i64.wrap (x : Int) = (x : Int) := IntWalk.i64_in _ (by omega)
              rw [hk] at hkl hnext
              clear hk hpj
              have hk8 : k / 8 < Ta.length := by omega
              have hxk := hx7
              obtain ⟨A7, c7, B7, d7, k7, v7, s7⟩ := hx7
              obtain ⟨b, off, rfl, hbb, cj⟩ := r2.at_ hlt
              obtain ⟨b2, off2, v, rfl, hbb2, hv, e0, e1, e2⟩ := r1.at_ hkl
              have hmk := mark_at hcn hv
              rw [List.getElem?_eq_getElem hlt] at hx
              have hx' := Option.some.inj hx
              rw [hx'] at cj
              obtain ⟨⟨y0, y1⟩, _⟩ := k7.two
              have l7 := k7.lt
              have lb : b < wr.heap.size := by omega
              have lb2 : b2 < wr.heap.size := by omega
              have l5 : g5 < wr.heap.size := by omega
              have i1 : (0 : Int) ≤ (j : Int) := by omega
              have i2 : (j : Int) < (ks.length : Int) := by omega
              have i3 : (0 : Int) ≤ (k : Int) := by omega
              have i4 : (k : Int) < (U.length : Int) := by omega
              have i6 : ¬ (U = []) := by intro e; rw [e] at hpos; exact absurd hpos (by simp)
              have HMK := Lib.hid hmk
              have HNX := Lib.hid hnext
              have HCN := Lib.hid hcn
              have HK8 := Lib.hid hk8
              clear hmk hnext hlT hx hx' hv hxb hcn
              obtain ⟨M, hM⟩ : ∃ M, markF U Ta v = M := ⟨_, rfl⟩
              rw [hM] at HMK
              have HM := Lib.hid hM
              clear hM
              obtain ⟨Wr, rfl⟩ : ∃ Wr, Wr = wr := ⟨_, rfl⟩
              have hsh : ∀ w', Below Wr.heap.size Wr w' → (w'.cell? ⟨g7, 0, none⟩ = some (.slice A7 U.length c7) ∧ w'.cell? ⟨g7, 1, none⟩ = some (.slice B7 Ta.length d7) ∧ w'.cell? ⟨g5, 0, none⟩ = some (.slice (some ⟨b2, off2, none⟩) U.length c2) ∧ w'.cell? ⟨b, off + j, none⟩ = some (.int .u16 (x : Int)) ∧ w'.cell? ⟨b2, off2 + k * 3, none⟩ = some (.int .i64 v.k) ∧ w'.cell? ⟨b2, off2 + k * 3 + 1, none⟩ = some (.int .i64 v.i) ∧ w'.cell? ⟨b2, off2 + k * 3 + 2, none⟩ = some (.string ⟨v.s.toArray⟩)) :=
                fun w' h => ⟨(h.cell l7).trans y0, (h.cell l7).trans y1, (h.cell l5).trans r0, (h.cell lb).trans cj, (h.cell lb2).trans e0, (h.cell lb2).trans e1, (h.cell lb2).trans e2⟩
              have HSH := Lib.hid hsh
              clear hsh y0 y1 r0 cj e0 e1 e2
              go_upto_region 8 with fail
              go_cut [10, 11] (fun s10 s11 wx => s11 = .int .i64 M.2 ∧ ∃ g10, s10 = .pointer (some ⟨g10, 0, none⟩) ∧ TX n g10 M.1.1 M.1.2 wx ∧ Below Wr.heap.size Wr wx)
              case first =>
                refine wp_region_held_drew (S := (fun w' => w'.cell? ⟨g7, 0, none⟩ = some (.slice A7 U.length c7) ∧ w'.cell? ⟨g7, 1, none⟩ = some (.slice B7 Ta.length d7) ∧ w'.cell? ⟨g5, 0, none⟩ = some (.slice (some ⟨b2, off2, none⟩) U.length c2) ∧ w'.cell? ⟨b, off + j, none⟩ = some (.int .u16 (x : Int)) ∧ w'.cell? ⟨b2, off2 + k * 3, none⟩ = some (.int .i64 v.k) ∧ w'.cell? ⟨b2, off2 + k * 3 + 1, none⟩ = some (.int .i64 v.i) ∧ w'.cell? ⟨b2, off2 + k * 3 + 2, none⟩ = some (.string ⟨v.s.toArray⟩))) (by kernel_rfl) ?_ (fun hHeld => ?_)
                · try dsimp only
                  exact HSH.out _ (by ((repeat' (first | with_reducible exact Below.refl _ _ | with_reducible assumption | with_reducible refine Below.drew ?_ | with_reducible refine below_drewN ?_ _ | with_reducible refine Below.setCell ?_ ?_ _ | with_reducible refine Below.alloc ?_ ?_ _ | with_reducible refine Below.trans ?_ (Below.mono (by assumption) ?_))) <;> (first | (simp; done) | (simp; omega) | omega)))
                refine wpAnyH_take (i := 0) (v := ?_) rfl (by kernel_rfl) (by kernel_rfl) (by kernel_rfl) (fun _ _ _ h => h) (Or.inl ⟨by rfl, ?_⟩) (by assumption) ?_
                rotate_left
                · intro wq hSw
                  try dsimp only at hSw
                  go_simp
                  try with_reducible rfl
                try simp only [Act.put, List.getElem_toArray, List.getElem_cons_zero, List.setIfInBounds_toArray, List.set_cons_zero, List.set_cons_succ]
                refine wpAnyH_take (i := 1) (v := ?_) rfl (by kernel_rfl) (by kernel_rfl) (by kernel_rfl) (fun _ _ _ h => h) (Or.inl ⟨by rfl, ?_⟩) (by assumption) ?_
                rotate_left
                · intro wq hSw
                  try dsimp only at hSw
                  go_simp
                  try with_reducible rfl
                try simp only [Act.put, List.getElem_toArray, List.getElem_cons_zero, List.getElem_cons_succ, List.setIfInBounds_toArray, List.set_cons_zero, List.set_cons_succ]
                refine wpAnyH_take (i := 2) (v := ?_) rfl (by kernel_rfl) (by kernel_rfl) (by kernel_rfl) (fun _ _ _ h => h) (Or.inl ⟨by rfl, ?_⟩) (by assumption) ?_
                rotate_left
                · intro wq hSw
                  try dsimp only at hSw
                  go_simp
                  try with_reducible rfl
                try simp only [Act.put, List.getElem_toArray, List.getElem_cons_zero, List.getElem_cons_succ, List.setIfInBounds_toArray, List.set_cons_zero, List.set_cons_succ]
                refine wpAnyH_take (i := 3) (v := ?_) rfl (by kernel_rfl) (by kernel_rfl) (by kernel_rfl) (fun _ _ _ h => h) (Or.inl ⟨by rfl, ?_⟩) (by assumption) ?_
                rotate_left
                · intro wq hSw
                  try dsimp only at hSw
                  go_simp
                  try with_reducible rfl
                try simp only [Act.put, List.getElem_toArray, List.getElem_cons_zero, List.getElem_cons_succ, List.setIfInBounds_toArray, List.set_cons_zero, List.set_cons_succ]
                refine wpAnyH_take (i := 4) (v := ?_) rfl (by kernel_rfl) (by kernel_rfl) (by kernel_rfl) (fun _ _ _ h => h) (Or.inl ⟨by rfl, ?_⟩) (by assumption) ?_
                rotate_left
                · intro wq hSw
                  try dsimp only at hSw
                  go_simp
                  try with_reducible rfl
                try simp only [Act.put, List.getElem_toArray, List.getElem_cons_zero, List.getElem_cons_succ, List.setIfInBounds_toArray, List.set_cons_zero, List.set_cons_succ]
                refine wpAnyH_take (i := 5) (v := ?_) rfl (by kernel_rfl) (by kernel_rfl) (by kernel_rfl) (fun _ _ _ h => h) (Or.inl ⟨by rfl, ?_⟩) (by assumption) ?_
                rotate_left
                · intro wq hSw
                  try dsimp only at hSw
                  go_simp
                  try with_reducible rfl
                try simp only [Act.put, List.getElem_toArray, List.getElem_cons_zero, List.getElem_cons_succ, List.setIfInBounds_toArray, List.set_cons_zero, List.set_cons_succ]
                refine wpAnyH_take (i := 6) (v := ?_) rfl (by kernel_rfl) (by kernel_rfl) (by kernel_rfl) (fun _ _ _ h => h) (Or.inl ⟨by rfl, ?_⟩) (by assumption) ?_
                rotate_left
                · intro wq hSw
                  try dsimp only at hSw
                  go_simp
                  try with_reducible rfl
                try simp only [Act.put, List.getElem_toArray, List.getElem_cons_zero, List.getElem_cons_succ, List.setIfInBounds_toArray, List.set_cons_zero, List.set_cons_succ]
                refine wpAnyH_take (i := 7) (v := ?_) rfl (by kernel_rfl) (by kernel_rfl) (by kernel_rfl) (fun _ _ _ h => h) (Or.inl ⟨by rfl, ?_⟩) (by assumption) ?_
                rotate_left
                · intro wq hSw
                  try dsimp only at hSw
                  go_simp
                  try with_reducible rfl
                try simp only [Act.put, List.getElem_toArray, List.getElem_cons_zero, List.getElem_cons_succ, List.setIfInBounds_toArray, List.set_cons_zero, List.set_cons_succ]
                refine wpAnyH_take (i := 8) (v := ?_) rfl (by kernel_rfl) (by kernel_rfl) (by kernel_rfl) (fun _ _ _ h => h) (Or.inl ⟨by rfl, ?_⟩) (by assumption) ?_
                rotate_left
                · intro wq hSw
                  try dsimp only at hSw
                  go_simp
                  try with_reducible rfl
                try simp only [Act.put, List.getElem_toArray, List.getElem_cons_zero, List.getElem_cons_succ, List.setIfInBounds_toArray, List.set_cons_zero, List.set_cons_succ]
                refine wpAnyH_take (i := 9) (v := ?_) rfl (by kernel_rfl) (by kernel_rfl) (by kernel_rfl) (fun _ _ _ h => h) (Or.inl ⟨by rfl, ?_⟩) (by assumption) ?_
                rotate_left
                · intro wq hSw
                  try dsimp only at hSw
                  go_simp
                  try with_reducible rfl
                try simp only [Act.put, List.getElem_toArray, List.getElem_cons_zero, List.getElem_cons_succ, List.setIfInBounds_toArray, List.set_cons_zero, List.set_cons_succ]
                refine wpAnyH_take (i := 10) (v := ?_) rfl (by kernel_rfl) (by kernel_rfl) (by kernel_rfl) (fun _ _ _ h => h) (Or.inl ⟨by rfl, ?_⟩) (by assumption) ?_
                rotate_left
                · intro wq hSw
                  try dsimp only at hSw
                  go_simp
                  try with_reducible rfl
                try simp only [Act.put, List.getElem_toArray, List.getElem_cons_zero, List.getElem_cons_succ, List.setIfInBounds_toArray, List.set_cons_zero, List.set_cons_succ]
                refine wpAnyH_take (i := 11) (v := ?_) rfl (by kernel_rfl) (by kernel_rfl) (by kernel_rfl) (fun _ _ _ h => h) (Or.inl ⟨by rfl, ?_⟩) (by assumption) ?_
                rotate_left
                · intro wq hSw
                  try dsimp only at hSw
                  go_simp
                  try with_reducible rfl
                try simp only [Act.put, List.getElem_toArray, List.getElem_cons_zero, List.getElem_cons_succ, List.setIfInBounds_toArray, List.set_cons_zero, List.set_cons_succ]
                refine wpAnyH_take (i := 12) (v := ?_) rfl (by kernel_rfl) (by kernel_rfl) (by kernel_rfl) (fun _ _ _ h => h) (Or.inl ⟨by rfl, ?_⟩) (by assumption) ?_
                rotate_left
                · intro wq hSw
                  try dsimp only at hSw
                  go_simp
                  try with_reducible rfl
                try simp only [Act.put, List.getElem_toArray, List.getElem_cons_zero, List.getElem_cons_succ, List.setIfInBounds_toArray, List.set_cons_zero, List.set_cons_succ]
                refine wpAnyH_take (i := 13) (v := ?_) rfl (by kernel_rfl) (by kernel_rfl) (by kernel_rfl) (fun _ _ _ h => h) (Or.inl ⟨by rfl, ?_⟩) (by assumption) ?_
                rotate_left
                · intro wq hSw
                  try dsimp only at hSw
                  go_simp
                  try with_reducible rfl
                try simp only [Act.put, List.getElem_toArray, List.getElem_cons_zero, List.getElem_cons_succ, List.setIfInBounds_toArray, List.set_cons_zero, List.set_cons_succ]
                refine wpAnyH_ready (rs := [14, 18]) (by kernel_rfl) (by simp) ?_
                refine (AllReadyH.cons rfl (fun K hK => ?_) (AllReadyH.cons rfl (fun K hK => ?_) AllReadyH.nil))
                · skip
                  go_simp
                  (refine (mark_any A7 B7 c7 d7 U Ta v _ hU' hTm (v7.below (by ((repeat' (first | with_reducible exact Below.refl _ _ | with_reducible assumption | with_reducible refine Below.drew ?_ | with_reducible refine below_drewN ?_ _ | with_reducible refine Below.setCell ?_ ?_ _ | with_reducible refine Below.alloc ?_ ?_ _ | with_reducible refine Below.trans ?_ (Below.mono (by assumption) ?_))) <;> (first | (simp; done) | (simp; omega) | omega)))).vs (s7.below (by ((repeat' (first | with_reducible exact Below.refl _ _ | with_reducible assumption | with_reducible refine Below.drew ?_ | with_reducible refine below_drewN ?_ _ | with_reducible refine Below.setCell ?_ ?_ _ | with_reducible refine Below.alloc ?_ ?_ _ | with_reducible refine Below.trans ?_ (Below.mono (by assumption) ?_))) <;> (first | (simp; done) | (simp; omega) | omega)))).bs).mono ?_) <;> rw [HM.out] <;> rintro e w8 ⟨A8, c8, B8, d8, rfl, hv8, hs8, hb8⟩ <;> obtain ⟨hc8, hf8⟩ := bcell hb8 <;> have hz8 := hb8.size <;> (try simp at hz8 hc8 hf8) <;> (try have l8 : Wr.heap.size < w8.heap.size := (by omega)) <;> have l80 : Wr.heap.size < Wr.heap.size + 1 := (by omega)
                  go_wp2_with fail
                  refine hK.out _ _ ?_ (fun hHeld => ?_)
                  · try dsimp only
                    exact HSH.out _ (by ((repeat' (first | with_reducible exact Below.refl _ _ | with_reducible assumption | with_reducible refine Below.drew ?_ | with_reducible refine below_drewN ?_ _ | with_reducible refine Below.setCell ?_ ?_ _ | with_reducible refine Below.alloc ?_ ?_ _ | with_reducible refine Below.trans ?_ (Below.mono (by assumption) ?_))) <;> (first | (simp; done) | (simp; omega) | omega)))
                  clear hK K
                  try simp only [Act.put, List.getElem_toArray, List.getElem_cons_zero, List.getElem_cons_succ, List.setIfInBounds_toArray, List.set_cons_zero, List.set_cons_succ]
                  refine wpAnyH_take (i := 15) (v := ?_) rfl (by kernel_rfl) (by kernel_rfl) (by kernel_rfl) (fun _ _ _ h => h) (Or.inl ⟨by rfl, ?_⟩) (by assumption) ?_
                  rotate_left
                  · intro wq hSw
                    try dsimp only at hSw
                    go_simp
                    try with_reducible rfl
                  try simp only [Act.put, List.getElem_toArray, List.getElem_cons_zero, List.getElem_cons_succ, List.setIfInBounds_toArray, List.set_cons_zero, List.set_cons_succ]
                  refine wpAnyH_take (i := 16) (v := ?_) rfl (by kernel_rfl) (by kernel_rfl) (by kernel_rfl) (fun _ _ _ h => h) (Or.inl ⟨by rfl, ?_⟩) (by assumption) ?_
                  rotate_left
                  · intro wq hSw
                    try dsimp only at hSw
                    go_simp
                    try with_reducible rfl
                  try simp only [Act.put, List.getElem_toArray, List.getElem_cons_zero, List.getElem_cons_succ, List.setIfInBounds_toArray, List.set_cons_zero, List.set_cons_succ]
                  refine wpAnyH_take (i := 17) (v := ?_) rfl (by kernel_rfl) (by kernel_rfl) (by kernel_rfl) (fun _ _ _ h => h) (Or.inl ⟨by rfl, ?_⟩) (by assumption) ?_
                  rotate_left
                  · intro wq hSw
                    try dsimp only at hSw
                    go_simp
                    try with_reducible rfl
                  try simp only [Act.put, List.getElem_toArray, List.getElem_cons_zero, List.getElem_cons_succ, List.setIfInBounds_toArray, List.set_cons_zero, List.set_cons_succ]
                  refine wpAnyH_ready (rs := [18]) (by kernel_rfl) (by simp) ?_
                  refine AllReadyH.cons rfl (fun K hK => ?_) AllReadyH.nil
                  go_simp
                  skip
                  go_wp2_with fail
                  refine hK.out _ _ ?_ (fun hHeld => ?_)
                  · try dsimp only
                    exact HSH.out _ (by ((repeat' (first | with_reducible exact Below.refl _ _ | with_reducible assumption | with_reducible refine Below.drew ?_ | with_reducible refine below_drewN ?_ _ | with_reducible refine Below.setCell ?_ ?_ _ | with_reducible refine Below.alloc ?_ ?_ _ | with_reducible refine Below.trans ?_ (Below.mono (by assumption) ?_))) <;> (first | (simp; done) | (simp; omega) | omega)))
                  clear hK K
                  try simp only [Act.put, List.getElem_toArray, List.getElem_cons_zero, List.getElem_cons_succ, List.setIfInBounds_toArray, List.set_cons_zero, List.set_cons_succ]
                  refine wpAnyH_ready (rs := [19]) (by kernel_rfl) (by simp) ?_
                  refine AllReadyH.cons rfl (fun K hK => ?_) AllReadyH.nil
                  go_simp
                  skip
                  go_wp2_with fail
                  refine hK.out _ _ ?_ (fun hHeld => ?_)
                  · try dsimp only
                    exact HSH.out _ (by ((repeat' (first | with_reducible exact Below.refl _ _ | with_reducible assumption | with_reducible refine Below.drew ?_ | with_reducible refine below_drewN ?_ _ | with_reducible refine Below.setCell ?_ ?_ _ | with_reducible refine Below.alloc ?_ ?_ _ | with_reducible refine Below.trans ?_ (Below.mono (by assumption) ?_))) <;> (first | (simp; done) | (simp; omega) | omega)))
                  clear hK K
                  try simp only [Act.put, List.getElem_toArray, List.getElem_cons_zero, List.getElem_cons_succ, List.setIfInBounds_toArray, List.set_cons_zero, List.set_cons_succ]
                  refine wpAnyH_take (i := 20) (v := ?_) rfl (by kernel_rfl) (by kernel_rfl) (by kernel_rfl) (fun _ _ _ h => h) (Or.inl ⟨by rfl, ?_⟩) (by assumption) ?_
                  rotate_left
                  · intro wq hSw
                    try dsimp only at hSw
                    go_simp
                    try with_reducible rfl
                  try simp only [Act.put, List.getElem_toArray, List.getElem_cons_zero, List.getElem_cons_succ, List.setIfInBounds_toArray, List.set_cons_zero, List.set_cons_succ]
                  refine wpAnyH_done (by kernel_rfl) ?_ _
                  go_wp2_with fail
                  go_meet
                  refine ⟨rfl, _, rfl, ?_, ?_⟩
                  · first | exact tx_new hv8 hs8 (by simp; omega) | (refine tx_set (x0 := .slice none 0 0) (x1 := .slice none 0 0) ?_ hv8 hs8 ?_ ?_ <;> first | (((repeat' (first | with_reducible assumption | with_reducible refine Blk.drew ?_ | with_reducible refine Blk.drewN ?_ _ | with_reducible refine Blk.set3 ?_ _ _ _ | with_reducible refine Blk.far ?_ ?_ _ | ((with_reducible refine Blk.new' _ _ _ _ ?_) <;> (first | (simp; done) | (simp; omega) | omega) <;> done) | with_reducible refine Blk.alloc ?_ _ | with_reducible refine Blk3.drew ?_ | with_reducible refine Blk3.drewN ?_ _ | ((with_reducible refine Blk3.new' _ _ _ _ _ _ ?_) <;> (first | (simp; done) | (simp; omega) | omega) <;> done) | with_reducible refine Blk3.alloc ?_ _ | with_reducible refine Blk3.far ?_ ?_ _ | with_reducible refine Blk3.below ?_ (by assumption) ?_ | with_reducible refine Blk.below ?_ (by assumption) ?_)) <;> (first | (simp; done) | (simp; omega) | omega)); done) | (simp; omega) | simp)
                  · ((repeat' (first | with_reducible exact Below.refl _ _ | with_reducible assumption | with_reducible refine Below.drew ?_ | with_reducible refine below_drewN ?_ _ | with_reducible refine Below.setCell ?_ ?_ _ | with_reducible refine Below.alloc ?_ ?_ _ | with_reducible refine Below.trans ?_ (Below.mono (by assumption) ?_))) <;> (first | (simp; done) | (simp; omega) | omega))
                · skip
                  go_simp
                  skip
                  go_wp2_with fail
                  refine hK.out _ _ ?_ (fun hHeld => ?_)
                  · try dsimp only
                    exact HSH.out _ (by ((repeat' (first | with_reducible exact Below.refl _ _ | with_reducible assumption | with_reducible refine Below.drew ?_ | with_reducible refine below_drewN ?_ _ | with_reducible refine Below.setCell ?_ ?_ _ | with_reducible refine Below.alloc ?_ ?_ _ | with_reducible refine Below.trans ?_ (Below.mono (by assumption) ?_))) <;> (first | (simp; done) | (simp; omega) | omega)))
                  clear hK K
                  try simp only [Act.put, List.getElem_toArray, List.getElem_cons_zero, List.getElem_cons_succ, List.setIfInBounds_toArray, List.set_cons_zero, List.set_cons_succ]
                  refine wpAnyH_ready (rs := [14]) (by kernel_rfl) (by simp) ?_
                  refine AllReadyH.cons rfl (fun K hK => ?_) AllReadyH.nil
                  go_simp
                  (refine (mark_any A7 B7 c7 d7 U Ta v _ hU' hTm (v7.below (by ((repeat' (first | with_reducible exact Below.refl _ _ | with_reducible assumption | with_reducible refine Below.drew ?_ | with_reducible refine below_drewN ?_ _ | with_reducible refine Below.setCell ?_ ?_ _ | with_reducible refine Below.alloc ?_ ?_ _ | with_reducible refine Below.trans ?_ (Below.mono (by assumption) ?_))) <;> (first | (simp; done) | (simp; omega) | omega)))).vs (s7.below (by ((repeat' (first | with_reducible exact Below.refl _ _ | with_reducible assumption | with_reducible refine Below.drew ?_ | with_reducible refine below_drewN ?_ _ | with_reducible refine Below.setCell ?_ ?_ _ | with_reducible refine Below.alloc ?_ ?_ _ | with_reducible refine Below.trans ?_ (Below.mono (by assumption) ?_))) <;> (first | (simp; done) | (simp; omega) | omega)))).bs).mono ?_) <;> rw [HM.out] <;> rintro e w8 ⟨A8, c8, B8, d8, rfl, hv8, hs8, hb8⟩ <;> obtain ⟨hc8, hf8⟩ := bcell hb8 <;> have hz8 := hb8.size <;> (try simp at hz8 hc8 hf8) <;> (try have l8 : Wr.heap.size < w8.heap.size := (by omega)) <;> have l80 : Wr.heap.size < Wr.heap.size + 1 := (by omega)
                  go_wp2_with fail
                  refine hK.out _ _ ?_ (fun hHeld => ?_)
                  · try dsimp only
                    exact HSH.out _ (by ((repeat' (first | with_reducible exact Below.refl _ _ | with_reducible assumption | with_reducible refine Below.drew ?_ | with_reducible refine below_drewN ?_ _ | with_reducible refine Below.setCell ?_ ?_ _ | with_reducible refine Below.alloc ?_ ?_ _ | with_reducible refine Below.trans ?_ (Below.mono (by assumption) ?_))) <;> (first | (simp; done) | (simp; omega) | omega)))
                  clear hK K
                  try simp only [Act.put, List.getElem_toArray, List.getElem_cons_zero, List.getElem_cons_succ, List.setIfInBounds_toArray, List.set_cons_zero, List.set_cons_succ]
                  refine wpAnyH_take (i := 15) (v := ?_) rfl (by kernel_rfl) (by kernel_rfl) (by kernel_rfl) (fun _ _ _ h => h) (Or.inl ⟨by rfl, ?_⟩) (by assumption) ?_
                  rotate_left
                  · intro wq hSw
                    try dsimp only at hSw
                    go_simp
                    try with_reducible rfl
                  try simp only [Act.put, List.getElem_toArray, List.getElem_cons_zero, List.getElem_cons_succ, List.setIfInBounds_toArray, List.set_cons_zero, List.set_cons_succ]
                  refine wpAnyH_take (i := 16) (v := ?_) rfl (by kernel_rfl) (by kernel_rfl) (by kernel_rfl) (fun _ _ _ h => h) (Or.inl ⟨by rfl, ?_⟩) (by assumption) ?_
                  rotate_left
                  · intro wq hSw
                    try dsimp only at hSw
                    go_simp
                    try with_reducible rfl
                  try simp only [Act.put, List.getElem_toArray, List.getElem_cons_zero, List.getElem_cons_succ, List.setIfInBounds_toArray, List.set_cons_zero, List.set_cons_succ]
                  refine wpAnyH_take (i := 17) (v := ?_) rfl (by kernel_rfl) (by kernel_rfl) (by kernel_rfl) (fun _ _ _ h => h) (Or.inl ⟨by rfl, ?_⟩) (by assumption) ?_
                  rotate_left
                  · intro wq hSw
                    try dsimp only at hSw
                    go_simp
                    try with_reducible rfl
                  try simp only [Act.put, List.getElem_toArray, List.getElem_cons_zero, List.getElem_cons_succ, List.setIfInBounds_toArray, List.set_cons_zero, List.set_cons_succ]
                  refine wpAnyH_ready (rs := [19]) (by kernel_rfl) (by simp) ?_
                  refine AllReadyH.cons rfl (fun K hK => ?_) AllReadyH.nil
                  go_simp
                  skip
                  go_wp2_with fail
                  refine hK.out _ _ ?_ (fun hHeld => ?_)
                  · try dsimp only
                    exact HSH.out _ (by ((repeat' (first | with_reducible exact Below.refl _ _ | with_reducible assumption | with_reducible refine Below.drew ?_ | with_reducible refine below_drewN ?_ _ | with_reducible refine Below.setCell ?_ ?_ _ | with_reducible refine Below.alloc ?_ ?_ _ | with_reducible refine Below.trans ?_ (Below.mono (by assumption) ?_))) <;> (first | (simp; done) | (simp; omega) | omega)))
                  clear hK K
                  try simp only [Act.put, List.getElem_toArray, List.getElem_cons_zero, List.getElem_cons_succ, List.setIfInBounds_toArray, List.set_cons_zero, List.set_cons_succ]
                  refine wpAnyH_take (i := 20) (v := ?_) rfl (by kernel_rfl) (by kernel_rfl) (by kernel_rfl) (fun _ _ _ h => h) (Or.inl ⟨by rfl, ?_⟩) (by assumption) ?_
                  rotate_left
                  · intro wq hSw
                    try dsimp only at hSw
                    go_simp
                    try with_reducible rfl
                  try simp only [Act.put, List.getElem_toArray, List.getElem_cons_zero, List.getElem_cons_succ, List.setIfInBounds_toArray, List.set_cons_zero, List.set_cons_succ]
                  refine wpAnyH_done (by kernel_rfl) ?_ _
                  go_wp2_with fail
                  go_meet
                  refine ⟨rfl, _, rfl, ?_, ?_⟩
                  · first | exact tx_new hv8 hs8 (by simp; omega) | (refine tx_set (x0 := .slice none 0 0) (x1 := .slice none 0 0) ?_ hv8 hs8 ?_ ?_ <;> first | (((repeat' (first | with_reducible assumption | with_reducible refine Blk.drew ?_ | with_reducible refine Blk.drewN ?_ _ | with_reducible refine Blk.set3 ?_ _ _ _ | with_reducible refine Blk.far ?_ ?_ _ | ((with_reducible refine Blk.new' _ _ _ _ ?_) <;> (first | (simp; done) | (simp; omega) | omega) <;> done) | with_reducible refine Blk.alloc ?_ _ | with_reducible refine Blk3.drew ?_ | with_reducible refine Blk3.drewN ?_ _ | ((with_reducible refine Blk3.new' _ _ _ _ _ _ ?_) <;> (first | (simp; done) | (simp; omega) | omega) <;> done) | with_reducible refine Blk3.alloc ?_ _ | with_reducible refine Blk3.far ?_ ?_ _ | with_reducible refine Blk3.below ?_ (by assumption) ?_ | with_reducible refine Blk.below ?_ (by assumption) ?_)) <;> (first | (simp; done) | (simp; omega) | omega)); done) | (simp; omega) | simp)
                  · ((repeat' (first | with_reducible exact Below.refl _ _ | with_reducible assumption | with_reducible refine Below.drew ?_ | with_reducible refine below_drewN ?_ _ | with_reducible refine Below.setCell ?_ ?_ _ | with_reducible refine Below.alloc ?_ ?_ _ | with_reducible refine Below.trans ?_ (Below.mono (by assumption) ?_))) <;> (first | (simp; done) | (simp; omega) | omega))
              case rest =>
                obtain ⟨rfl, g10, rfl, hx10, hb10⟩ := hcut
                have hbn : Below n W wc := hbr.trans (hb10.mono (by omega))
                have hnn : n + 2 ≤ wc.heap.size := Nat.le_trans hnr hb10.size
                have hy7 := hxk.below hb10
                have hy8 := hx8.below hb10
                cases hbit : bitB Ta k
                · have hM : M = ((U, setBit Ta k), 0) := by rw [HMK.out, hbit]; rfl
                  subst hM
                  obtain ⟨A10, c10, B10, d10, k10, v10, s10⟩ := hx10
                  obtain ⟨x0, x1, kk7⟩ := hy7.blk
                  obtain ⟨⟨p0, p1⟩, p2, p3⟩ := kk7.two
                  obtain ⟨⟨z0, z1⟩, _⟩ := k10.two
                  have hput := TX.put (c := c10) (d := d10) kk7 v10 s10 hg7
                  have hfar := (hy8.far (p := ⟨g7, 0, none⟩) (show g8 ≠ g7 from fun e => h78 e.symm) hg7 (.slice A10 U.length c10)).far (p := ⟨g7, 1, none⟩) (show g8 ≠ g7 from fun e => h78 e.symm) hg7 (.slice B10 (setBit Ta k).length d10)
                  have HPUT := Lib.hid hput
                  have HFAR := Lib.hid hfar
                  clear hbit hput hfar hx8 hxk
                  go_wp2_with fail
                  go_roundw
                  case rel => exact ⟨j + 1, by omega, by omega, by go_num, by rw [HNX.out]; exact HPUT.out, HFAR.out, by ((repeat' (first | with_reducible exact Below.refl _ _ | with_reducible assumption | with_reducible refine Below.drew ?_ | with_reducible refine below_drewN ?_ _ | with_reducible refine Below.setCell ?_ ?_ _ | with_reducible refine Below.alloc ?_ ?_ _ | with_reducible refine Below.trans ?_ (Below.mono (by assumption) ?_))) <;> (first | (simp; done) | (simp; omega) | omega)), by simp; omega⟩
                  case measure => simp [intOf]; omega
                · have hM : M = (([], []), 7) := by rw [HMK.out, hbit]; rfl
                  subst hM
                  have hsame := setBit_same Ta k HK8.out hbit
                  have HS := Lib.hid hsame
                  clear hbit hsame
                  go_wp2_with fail
                  go_roundw
                  case rel => exact ⟨j + 1, by omega, by omega, by go_num, by rw [HNX.out, HS.out]; exact hy7, hy8, hbn, hnn⟩
                  case measure => simp [intOf]; omega
            · have hwi : ¬ ((j : Int) < (ks.length : Int)) ∨ (j < ks.length ∧ ¬ (j : Int) < 60) := by omega
              have hpl := HPL.out
              have htk : pl.take 60 = pl.take j := by
                by_cases h : j < ks.length
                · rw [show j = 60 by omega]
                · rw [List.take_of_length_le (i := 60) (by omega), List.take_of_length_le (by omega)]
              have HTK := Lib.hid htk
              clear htk hlt hpl
              rcases hwi with h | ⟨h, h'⟩
              all_goals
                go_wp2_with fail
                go_meet
                exact ⟨by rw [HTK.out]; exact hx7, hx8, hbr, hnr⟩
        case rest =>
          obtain ⟨hz7, hz8, hbc', hnc'⟩ := hcut
          have hpl := HPL.out
          have htl := HTL.out
          have hms : marksL T0 (pl.take 60) = marksR T0 (pl.take 60) := marks_same _ _ (fun i hi => by have := HPB.out i (List.mem_of_mem_take hi); omega)
          have hdr : (pl.take 60).drop ks.length = [] := List.drop_eq_nil_of_le (by rw [List.length_take]; omega)
          have hcf : chkB U (marksL T0 (pl.take 60)) = true := marksL_chk HCK.out _ (fun i hi => HPB.out i (List.mem_of_mem_take hi))
          have HMS := Lib.hid hms
          have HDR := Lib.hid hdr
          have HCF := Lib.hid hcf
          clear hT7 hT8 hbc hnc hpl hms hdr htl hcf
          generalize marksL T0 (pl.take 60) = Tf at *
          go_upto_block 2 with fail
          go_cut [12, 13, 14] from 72 to 98 (fun _ _ _ wx => TX n g7 U Tf wx ∧ TX n g8 U Tf wx ∧ Below n W wx ∧ n + 2 ≤ wx.heap.size)
          case first =>
            go_wp2_with fail
            go_loopw [12] (fun i wr => ∃ j : Nat, j ≤ ks.length ∧ i = .int .i64 ((j : Int) - 1) ∧ TX n g7 U Tf wr ∧ TX n g8 U (marksR T0 ((pl.take 60).drop j)) wr ∧ Below n W wr ∧ n + 2 ≤ wr.heap.size) (fun i _ => (intOf i + 1).toNat)
            case atStart => exact ⟨ks.length, by omega, rfl, hz7, by rw [HDR.out]; exact hz8, hbc', hnc'⟩
            case round =>
              obtain ⟨j, hj1, rfl, hx7, hx8, hbr, hnr⟩ := hrel
              cases j with
              | zero =>
                have hs : ¬ ((0 : Int) ≤ ((0 : Nat) : Int) - 1) := by omega
                go_wp2_with fail
                go_meet
                exact ⟨hx7, by rw [HMS.out]; exact hx8, hbr, hnr⟩
              | succ j =>
                rw [show (((j + 1 : Nat) : Int) - 1) = (j : Int) by omega]
                have hlt : j < ks.length := by omega
                by_cases h60 : j < 60
                · obtain ⟨r0, r1, r2⟩ := HG.out wr hbr
                  obtain ⟨x, hx⟩ : ∃ x, ks[j]? = some x := ⟨_, List.getElem?_eq_getElem hlt⟩
                  have hxb := HKB.out x (List.mem_of_getElem? hx)
                  have hkl : x % U.length < U.length := Nat.mod_lt _ hpos
                  have hpj := HPK.out j x hx
                  have hcn : chkB U (marksR T0 ((pl.take 60).drop (j + 1))) = true := marksR_chk HCK.out _ (fun i hi => HPB.out i (List.mem_of_mem_take (List.mem_of_mem_drop hi)))
                  have hnext : marksR T0 ((pl.take 60).drop j) = setBit (marksR T0 ((pl.take 60).drop (j + 1))) (x % U.length) := by
                    have hp2 : (pl.take 60)[j]? = some (x % U.length) := by rw [List.getElem?_take, if_pos h60, hpj]
                    obtain ⟨hh, he⟩ := List.getElem?_eq_some_iff.1 hp2
                    rw [List.drop_eq_getElem_cons hh, he]; rfl
                  generalize marksR T0 ((pl.take 60).drop (j + 1)) = Tb at *
                  have htl := HTL.out
                  have hlT := chk_len hcn
                  have hTm : Tb.length ≤ 1000000 := by omega
                  obtain ⟨k, hk⟩ : ∃ k, x % U.length = k := ⟨_, rfl⟩
                  have i5 : Int.tmod (x : Int) (U.length : Int) = (k : Int) := by rw [Int.tmod_eq_emod_of_nonneg (by omega), ← hk]; exact (Int.natCast_emod _ _).symm
                  have i7 : (x : Int) % (U.length : Int) = (k : Int) := by rw [← hk]; exact (Int.natCast_emod _ _).symm
                  have i8 : IntKind.i64.wrap (x : Int) = (x : Int) := IntWalk.i64_in _ (by omega)
                  rw [hk] at hkl hnext
                  clear hk hpj
                  have hk8 : k / 8 < Tb.length := by omega
                  have hxk := hx8
                  obtain ⟨A7, c7, B7, d7, k7, v7, s7⟩ := hx8
                  obtain ⟨b, off, rfl, hbb, cj⟩ := r2.at_ hlt
                  obtain ⟨b2, off2, v, rfl, hbb2, hv, e0, e1, e2⟩ := r1.at_ hkl
                  have hmk := mark_at hcn hv
                  rw [List.getElem?_eq_getElem hlt] at hx
                  have hx' := Option.some.inj hx
                  rw [hx'] at cj
                  obtain ⟨⟨y0, y1⟩, _⟩ := k7.two
                  have l7 := k7.lt
                  have lb : b < wr.heap.size := by omega
                  have lb2 : b2 < wr.heap.size := by omega
                  have l5 : g5 < wr.heap.size := by omega
                  have i1 : (0 : Int) ≤ (j : Int) := by omega
                  have i2 : (j : Int) < (ks.length : Int) := by omega
                  have i3 : (0 : Int) ≤ (k : Int) := by omega
                  have i4 : (k : Int) < (U.length : Int) := by omega
                  have i6 : ¬ (U = []) := by intro e; rw [e] at hpos; exact absurd hpos (by simp)
                  have HMK := Lib.hid hmk
                  have HNX := Lib.hid hnext
                  have HCN := Lib.hid hcn
                  have HK8 := Lib.hid hk8
                  clear hmk hnext hlT hx hx' hv hxb hcn
                  obtain ⟨M, hM⟩ : ∃ M, markF U Tb v = M := ⟨_, rfl⟩
                  rw [hM] at HMK
                  have HM := Lib.hid hM
                  clear hM
                  obtain ⟨Wr, rfl⟩ : ∃ Wr, Wr = wr := ⟨_, rfl⟩
                  clear htl
                  have hsh : ∀ w', Below Wr.heap.size Wr w' → (w'.cell? ⟨g8, 0, none⟩ = some (.slice A7 U.length c7) ∧ w'.cell? ⟨g8, 1, none⟩ = some (.slice B7 Tb.length d7) ∧ w'.cell? ⟨g5, 0, none⟩ = some (.slice (some ⟨b2, off2, none⟩) U.length c2) ∧ w'.cell? ⟨b, off + j, none⟩ = some (.int .u16 (x : Int)) ∧ w'.cell? ⟨b2, off2 + k * 3, none⟩ = some (.int .i64 v.k) ∧ w'.cell? ⟨b2, off2 + k * 3 + 1, none⟩ = some (.int .i64 v.i) ∧ w'.cell? ⟨b2, off2 + k * 3 + 2, none⟩ = some (.string ⟨v.s.toArray⟩)) :=
                    fun w' h => ⟨(h.cell l7).trans y0, (h.cell l7).trans y1, (h.cell l5).trans r0, (h.cell lb).trans cj, (h.cell lb2).trans e0, (h.cell lb2).trans e1, (h.cell lb2).trans e2⟩
                  have HSH := Lib.hid hsh
                  clear hsh y0 y1 r0 cj e0 e1 e2
                  go_upto_region 15 with fail
                  go_cut [13, 14] (fun s10 s11 wx => s11 = .int .i64 M.2 ∧ ∃ g10, s10 = .pointer (some ⟨g10, 0, none⟩) ∧ TX n g10 M.1.1 M.1.2 wx ∧ Below Wr.heap.size Wr wx)
                  case first =>
                    refine wp_region_held_drew (S := (fun w' => w'.cell? ⟨g8, 0, none⟩ = some (.slice A7 U.length c7) ∧ w'.cell? ⟨g8, 1, none⟩ = some (.slice B7 Tb.length d7) ∧ w'.cell? ⟨g5, 0, none⟩ = some (.slice (some ⟨b2, off2, none⟩) U.length c2) ∧ w'.cell? ⟨b, off + j, none⟩ = some (.int .u16 (x : Int)) ∧ w'.cell? ⟨b2, off2 + k * 3, none⟩ = some (.int .i64 v.k) ∧ w'.cell? ⟨b2, off2 + k * 3 + 1, none⟩ = some (.int .i64 v.i) ∧ w'.cell? ⟨b2, off2 + k * 3 + 2, none⟩ = some (.string ⟨v.s.toArray⟩))) (by kernel_rfl) ?_ (fun hHeld => ?_)
                    · try dsimp only
                      exact HSH.out _ (by ((repeat' (first | with_reducible exact Below.refl _ _ | with_reducible assumption | with_reducible refine Below.drew ?_ | with_reducible refine below_drewN ?_ _ | with_reducible refine Below.setCell ?_ ?_ _ | with_reducible refine Below.alloc ?_ ?_ _ | with_reducible refine Below.trans ?_ (Below.mono (by assumption) ?_))) <;> (first | (simp; done) | (simp; omega) | omega)))
                    refine wpAnyH_take (i := 0) (v := ?_) rfl (by kernel_rfl) (by kernel_rfl) (by kernel_rfl) (fun _ _ _ h => h) (Or.inl ⟨by rfl, ?_⟩) (by assumption) ?_
                    rotate_left
                    · intro wq hSw
                      try dsimp only at hSw
                      go_simp
                      try with_reducible rfl
                    try simp only [Act.put, List.getElem_toArray, List.getElem_cons_zero, List.setIfInBounds_toArray, List.set_cons_zero, List.set_cons_succ]
                    refine wpAnyH_take (i := 1) (v := ?_) rfl (by kernel_rfl) (by kernel_rfl) (by kernel_rfl) (fun _ _ _ h => h) (Or.inl ⟨by rfl, ?_⟩) (by assumption) ?_
                    rotate_left
                    · intro wq hSw
                      try dsimp only at hSw
                      go_simp
                      try with_reducible rfl
                    try simp only [Act.put, List.getElem_toArray, List.getElem_cons_zero, List.getElem_cons_succ, List.setIfInBounds_toArray, List.set_cons_zero, List.set_cons_succ]
                    refine wpAnyH_take (i := 2) (v := ?_) rfl (by kernel_rfl) (by kernel_rfl) (by kernel_rfl) (fun _ _ _ h => h) (Or.inl ⟨by rfl, ?_⟩) (by assumption) ?_
                    rotate_left
                    · intro wq hSw
                      try dsimp only at hSw
                      go_simp
                      try with_reducible rfl
                    try simp only [Act.put, List.getElem_toArray, List.getElem_cons_zero, List.getElem_cons_succ, List.setIfInBounds_toArray, List.set_cons_zero, List.set_cons_succ]
                    refine wpAnyH_take (i := 3) (v := ?_) rfl (by kernel_rfl) (by kernel_rfl) (by kernel_rfl) (fun _ _ _ h => h) (Or.inl ⟨by rfl, ?_⟩) (by assumption) ?_
                    rotate_left
                    · intro wq hSw
                      try dsimp only at hSw
                      go_simp
                      try with_reducible rfl
                    try simp only [Act.put, List.getElem_toArray, List.getElem_cons_zero, List.getElem_cons_succ, List.setIfInBounds_toArray, List.set_cons_zero, List.set_cons_succ]
                    refine wpAnyH_take (i := 4) (v := ?_) rfl (by kernel_rfl) (by kernel_rfl) (by kernel_rfl) (fun _ _ _ h => h) (Or.inl ⟨by rfl, ?_⟩) (by assumption) ?_
                    rotate_left
                    · intro wq hSw
                      try dsimp only at hSw
                      go_simp
                      try with_reducible rfl
                    try simp only [Act.put, List.getElem_toArray, List.getElem_cons_zero, List.getElem_cons_succ, List.setIfInBounds_toArray, List.set_cons_zero, List.set_cons_succ]
                    refine wpAnyH_take (i := 5) (v := ?_) rfl (by kernel_rfl) (by kernel_rfl) (by kernel_rfl) (fun _ _ _ h => h) (Or.inl ⟨by rfl, ?_⟩) (by assumption) ?_
                    rotate_left
                    · intro wq hSw
                      try dsimp only at hSw
                      go_simp
                      try with_reducible rfl
                    try simp only [Act.put, List.getElem_toArray, List.getElem_cons_zero, List.getElem_cons_succ, List.setIfInBounds_toArray, List.set_cons_zero, List.set_cons_succ]
                    refine wpAnyH_take (i := 6) (v := ?_) rfl (by kernel_rfl) (by kernel_rfl) (by kernel_rfl) (fun _ _ _ h => h) (Or.inl ⟨by rfl, ?_⟩) (by assumption) ?_
                    rotate_left
                    · intro wq hSw
                      try dsimp only at hSw
                      go_simp
                      try with_reducible rfl
                    try simp only [Act.put, List.getElem_toArray, List.getElem_cons_zero, List.getElem_cons_succ, List.setIfInBounds_toArray, List.set_cons_zero, List.set_cons_succ]
                    refine wpAnyH_take (i := 7) (v := ?_) rfl (by kernel_rfl) (by kernel_rfl) (by kernel_rfl) (fun _ _ _ h => h) (Or.inl ⟨by rfl, ?_⟩) (by assumption) ?_
                    rotate_left
                    · intro wq hSw
                      try dsimp only at hSw
                      go_simp
                      try with_reducible rfl
                    try simp only [Act.put, List.getElem_toArray, List.getElem_cons_zero, List.getElem_cons_succ, List.setIfInBounds_toArray, List.set_cons_zero, List.set_cons_succ]
                    refine wpAnyH_take (i := 8) (v := ?_) rfl (by kernel_rfl) (by kernel_rfl) (by kernel_rfl) (fun _ _ _ h => h) (Or.inl ⟨by rfl, ?_⟩) (by assumption) ?_
                    rotate_left
                    · intro wq hSw
                      try dsimp only at hSw
                      go_simp
                      try with_reducible rfl
                    try simp only [Act.put, List.getElem_toArray, List.getElem_cons_zero, List.getElem_cons_succ, List.setIfInBounds_toArray, List.set_cons_zero, List.set_cons_succ]
                    refine wpAnyH_take (i := 9) (v := ?_) rfl (by kernel_rfl) (by kernel_rfl) (by kernel_rfl) (fun _ _ _ h => h) (Or.inl ⟨by rfl, ?_⟩) (by assumption) ?_
                    rotate_left
                    · intro wq hSw
                      try dsimp only at hSw
                      go_simp
                      try with_reducible rfl
                    try simp only [Act.put, List.getElem_toArray, List.getElem_cons_zero, List.getElem_cons_succ, List.setIfInBounds_toArray, List.set_cons_zero, List.set_cons_succ]
                    refine wpAnyH_take (i := 10) (v := ?_) rfl (by kernel_rfl) (by kernel_rfl) (by kernel_rfl) (fun _ _ _ h => h) (Or.inl ⟨by rfl, ?_⟩) (by assumption) ?_
                    rotate_left
                    · intro wq hSw
                      try dsimp only at hSw
                      go_simp
                      try with_reducible rfl
                    try simp only [Act.put, List.getElem_toArray, List.getElem_cons_zero, List.getElem_cons_succ, List.setIfInBounds_toArray, List.set_cons_zero, List.set_cons_succ]
                    refine wpAnyH_take (i := 11) (v := ?_) rfl (by kernel_rfl) (by kernel_rfl) (by kernel_rfl) (fun _ _ _ h => h) (Or.inl ⟨by rfl, ?_⟩) (by assumption) ?_
                    rotate_left
                    · intro wq hSw
                      try dsimp only at hSw
                      go_simp
                      try with_reducible rfl
                    try simp only [Act.put, List.getElem_toArray, List.getElem_cons_zero, List.getElem_cons_succ, List.setIfInBounds_toArray, List.set_cons_zero, List.set_cons_succ]
                    refine wpAnyH_take (i := 12) (v := ?_) rfl (by kernel_rfl) (by kernel_rfl) (by kernel_rfl) (fun _ _ _ h => h) (Or.inl ⟨by rfl, ?_⟩) (by assumption) ?_
                    rotate_left
                    · intro wq hSw
                      try dsimp only at hSw
                      go_simp
                      try with_reducible rfl
                    try simp only [Act.put, List.getElem_toArray, List.getElem_cons_zero, List.getElem_cons_succ, List.setIfInBounds_toArray, List.set_cons_zero, List.set_cons_succ]
                    refine wpAnyH_take (i := 13) (v := ?_) rfl (by kernel_rfl) (by kernel_rfl) (by kernel_rfl) (fun _ _ _ h => h) (Or.inl ⟨by rfl, ?_⟩) (by assumption) ?_
                    rotate_left
                    · intro wq hSw
                      try dsimp only at hSw
                      go_simp
                      try with_reducible rfl
                    try simp only [Act.put, List.getElem_toArray, List.getElem_cons_zero, List.getElem_cons_succ, List.setIfInBounds_toArray, List.set_cons_zero, List.set_cons_succ]
                    refine wpAnyH_ready (rs := [14, 18]) (by kernel_rfl) (by simp) ?_
                    refine (AllReadyH.cons rfl (fun K hK => ?_) (AllReadyH.cons rfl (fun K hK => ?_) AllReadyH.nil))
                    · skip
                      go_simp
                      (refine (mark_any A7 B7 c7 d7 U Tb v _ hU' hTm (v7.below (by ((repeat' (first | with_reducible exact Below.refl _ _ | with_reducible assumption | with_reducible refine Below.drew ?_ | with_reducible refine below_drewN ?_ _ | with_reducible refine Below.setCell ?_ ?_ _ | with_reducible refine Below.alloc ?_ ?_ _ | with_reducible refine Below.trans ?_ (Below.mono (by assumption) ?_))) <;> (first | (simp; done) | (simp; omega) | omega)))).vs (s7.below (by ((repeat' (first | with_reducible exact Below.refl _ _ | with_reducible assumption | with_reducible refine Below.drew ?_ | with_reducible refine below_drewN ?_ _ | with_reducible refine Below.setCell ?_ ?_ _ | with_reducible refine Below.alloc ?_ ?_ _ | with_reducible refine Below.trans ?_ (Below.mono (by assumption) ?_))) <;> (first | (simp; done) | (simp; omega) | omega)))).bs).mono ?_) <;> rw [HM.out] <;> rintro e w8 ⟨A8, c8, B8, d8, rfl, hv8, hs8, hb8⟩ <;> obtain ⟨hc8, hf8⟩ := bcell hb8 <;> have hz8 := hb8.size <;> (try simp at hz8 hc8 hf8) <;> (try have l8 : Wr.heap.size < w8.heap.size := (by omega)) <;> have l80 : Wr.heap.size < Wr.heap.size + 1 := (by omega)
                      go_wp2_with fail
                      refine hK.out _ _ ?_ (fun hHeld => ?_)
                      · try dsimp only
                        exact HSH.out _ (by ((repeat' (first | with_reducible exact Below.refl _ _ | with_reducible assumption | with_reducible refine Below.drew ?_ | with_reducible refine below_drewN ?_ _ | with_reducible refine Below.setCell ?_ ?_ _ | with_reducible refine Below.alloc ?_ ?_ _ | with_reducible refine Below.trans ?_ (Below.mono (by assumption) ?_))) <;> (first | (simp; done) | (simp; omega) | omega)))
                      clear hK K
                      try simp only [Act.put, List.getElem_toArray, List.getElem_cons_zero, List.getElem_cons_succ, List.setIfInBounds_toArray, List.set_cons_zero, List.set_cons_succ]
                      refine wpAnyH_take (i := 15) (v := ?_) rfl (by kernel_rfl) (by kernel_rfl) (by kernel_rfl) (fun _ _ _ h => h) (Or.inl ⟨by rfl, ?_⟩) (by assumption) ?_
                      rotate_left
                      · intro wq hSw
                        try dsimp only at hSw
                        go_simp
                        try with_reducible rfl
                      try simp only [Act.put, List.getElem_toArray, List.getElem_cons_zero, List.getElem_cons_succ, List.setIfInBounds_toArray, List.set_cons_zero, List.set_cons_succ]
                      refine wpAnyH_take (i := 16) (v := ?_) rfl (by kernel_rfl) (by kernel_rfl) (by kernel_rfl) (fun _ _ _ h => h) (Or.inl ⟨by rfl, ?_⟩) (by assumption) ?_
                      rotate_left
                      · intro wq hSw
                        try dsimp only at hSw
                        go_simp
                        try with_reducible rfl
                      try simp only [Act.put, List.getElem_toArray, List.getElem_cons_zero, List.getElem_cons_succ, List.setIfInBounds_toArray, List.set_cons_zero, List.set_cons_succ]
                      refine wpAnyH_take (i := 17) (v := ?_) rfl (by kernel_rfl) (by kernel_rfl) (by kernel_rfl) (fun _ _ _ h => h) (Or.inl ⟨by rfl, ?_⟩) (by assumption) ?_
                      rotate_left
                      · intro wq hSw
                        try dsimp only at hSw
                        go_simp
                        try with_reducible rfl
                      try simp only [Act.put, List.getElem_toArray, List.getElem_cons_zero, List.getElem_cons_succ, List.setIfInBounds_toArray, List.set_cons_zero, List.set_cons_succ]
                      refine wpAnyH_ready (rs := [18]) (by kernel_rfl) (by simp) ?_
                      refine AllReadyH.cons rfl (fun K hK => ?_) AllReadyH.nil
                      go_simp
                      skip
                      go_wp2_with fail
                      refine hK.out _ _ ?_ (fun hHeld => ?_)
                      · try dsimp only
                        exact HSH.out _ (by ((repeat' (first | with_reducible exact Below.refl _ _ | with_reducible assumption | with_reducible refine Below.drew ?_ | with_reducible refine below_drewN ?_ _ | with_reducible refine Below.setCell ?_ ?_ _ | with_reducible refine Below.alloc ?_ ?_ _ | with_reducible refine Below.trans ?_ (Below.mono (by assumption) ?_))) <;> (first | (simp; done) | (simp; omega) | omega)))
                      clear hK K
                      try simp only [Act.put, List.getElem_toArray, List.getElem_cons_zero, List.getElem_cons_succ, List.setIfInBounds_toArray, List.set_cons_zero, List.set_cons_succ]
                      refine wpAnyH_ready (rs := [19]) (by kernel_rfl) (by simp) ?_
                      refine AllReadyH.cons rfl (fun K hK => ?_) AllReadyH.nil
                      go_simp
                      skip
                      go_wp2_with fail
                      refine hK.out _ _ ?_ (fun hHeld => ?_)
                      · try dsimp only
                        exact HSH.out _ (by ((repeat' (first | with_reducible exact Below.refl _ _ | with_reducible assumption | with_reducible refine Below.drew ?_ | with_reducible refine below_drewN ?_ _ | with_reducible refine Below.setCell ?_ ?_ _ | with_reducible refine Below.alloc ?_ ?_ _ | with_reducible refine Below.trans ?_ (Below.mono (by assumption) ?_))) <;> (first | (simp; done) | (simp; omega) | omega)))
                      clear hK K
                      try simp only [Act.put, List.getElem_toArray, List.getElem_cons_zero, List.getElem_cons_succ, List.setIfInBounds_toArray, List.set_cons_zero, List.set_cons_succ]
                      refine wpAnyH_take (i := 20) (v := ?_) rfl (by kernel_rfl) (by kernel_rfl) (by kernel_rfl) (fun _ _ _ h => h) (Or.inl ⟨by rfl, ?_⟩) (by assumption) ?_
                      rotate_left
                      · intro wq hSw
                        try dsimp only at hSw
                        go_simp
                        try with_reducible rfl
                      try simp only [Act.put, List.getElem_toArray, List.getElem_cons_zero, List.getElem_cons_succ, List.setIfInBounds_toArray, List.set_cons_zero, List.set_cons_succ]
                      refine wpAnyH_done (by kernel_rfl) ?_ _
                      go_wp2_with fail
                      go_meet
                      refine ⟨rfl, _, rfl, ?_, ?_⟩
                      · first | exact tx_new hv8 hs8 (by simp; omega) | (refine tx_set (x0 := .slice none 0 0) (x1 := .slice none 0 0) ?_ hv8 hs8 ?_ ?_ <;> first | (((repeat' (first | with_reducible assumption | with_reducible refine Blk.drew ?_ | with_reducible refine Blk.drewN ?_ _ | with_reducible refine Blk.set3 ?_ _ _ _ | with_reducible refine Blk.far ?_ ?_ _ | ((with_reducible refine Blk.new' _ _ _ _ ?_) <;> (first | (simp; done) | (simp; omega) | omega) <;> done) | with_reducible refine Blk.alloc ?_ _ | with_reducible refine Blk3.drew ?_ | with_reducible refine Blk3.drewN ?_ _ | ((with_reducible refine Blk3.new' _ _ _ _ _ _ ?_) <;> (first | (simp; done) | (simp; omega) | omega) <;> done) | with_reducible refine Blk3.alloc ?_ _ | with_reducible refine Blk3.far ?_ ?_ _ | with_reducible refine Blk3.below ?_ (by assumption) ?_ | with_reducible refine Blk.below ?_ (by assumption) ?_)) <;> (first | (simp; done) | (simp; omega) | omega)); done) | (simp; omega) | simp)
                      · ((repeat' (first | with_reducible exact Below.refl _ _ | with_reducible assumption | with_reducible refine Below.drew ?_ | with_reducible refine below_drewN ?_ _ | with_reducible refine Below.setCell ?_ ?_ _ | with_reducible refine Below.alloc ?_ ?_ _ | with_reducible refine Below.trans ?_ (Below.mono (by assumption) ?_))) <;> (first | (simp; done) | (simp; omega) | omega))
                    · skip
                      go_simp
                      skip
                      go_wp2_with fail
                      refine hK.out _ _ ?_ (fun hHeld => ?_)
                      · try dsimp only
                        exact HSH.out _ (by ((repeat' (first | with_reducible exact Below.refl _ _ | with_reducible assumption | with_reducible refine Below.drew ?_ | with_reducible refine below_drewN ?_ _ | with_reducible refine Below.setCell ?_ ?_ _ | with_reducible refine Below.alloc ?_ ?_ _ | with_reducible refine Below.trans ?_ (Below.mono (by assumption) ?_))) <;> (first | (simp; done) | (simp; omega) | omega)))
                      clear hK K
                      try simp only [Act.put, List.getElem_toArray, List.getElem_cons_zero, List.getElem_cons_succ, List.setIfInBounds_toArray, List.set_cons_zero, List.set_cons_succ]
                      refine wpAnyH_ready (rs := [14]) (by kernel_rfl) (by simp) ?_
                      refine AllReadyH.cons rfl (fun K hK => ?_) AllReadyH.nil
                      go_simp
                      (refine (mark_any A7 B7 c7 d7 U Tb v _ hU' hTm (v7.below (by ((repeat' (first | with_reducible exact Below.refl _ _ | with_reducible assumption | with_reducible refine Below.drew ?_ | with_reducible refine below_drewN ?_ _ | with_reducible refine Below.setCell ?_ ?_ _ | with_reducible refine Below.alloc ?_ ?_ _ | with_reducible refine Below.trans ?_ (Below.mono (by assumption) ?_))) <;> (first | (simp; done) | (simp; omega) | omega)))).vs (s7.below (by ((repeat' (first | with_reducible exact Below.refl _ _ | with_reducible assumption | with_reducible refine Below.drew ?_ | with_reducible refine below_drewN ?_ _ | with_reducible refine Below.setCell ?_ ?_ _ | with_reducible refine Below.alloc ?_ ?_ _ | with_reducible refine Below.trans ?_ (Below.mono (by assumption) ?_))) <;> (first | (simp; done) | (simp; omega) | omega)))).bs).mono ?_) <;> rw [HM.out] <;> rintro e w8 ⟨A8, c8, B8, d8, rfl, hv8, hs8, hb8⟩ <;> obtain ⟨hc8, hf8⟩ := bcell hb8 <;> have hz8 := hb8.size <;> (try simp at hz8 hc8 hf8) <;> (try have l8 : Wr.heap.size < w8.heap.size := (by omega)) <;> have l80 : Wr.heap.size < Wr.heap.size + 1 := (by omega)
                      go_wp2_with fail
                      refine hK.out _ _ ?_ (fun hHeld => ?_)
                      · try dsimp only
                        exact HSH.out _ (by ((repeat' (first | with_reducible exact Below.refl _ _ | with_reducible assumption | with_reducible refine Below.drew ?_ | with_reducible refine below_drewN ?_ _ | with_reducible refine Below.setCell ?_ ?_ _ | with_reducible refine Below.alloc ?_ ?_ _ | with_reducible refine Below.trans ?_ (Below.mono (by assumption) ?_))) <;> (first | (simp; done) | (simp; omega) | omega)))
                      clear hK K
                      try simp only [Act.put, List.getElem_toArray, List.getElem_cons_zero, List.getElem_cons_succ, List.setIfInBounds_toArray, List.set_cons_zero, List.set_cons_succ]
                      refine wpAnyH_take (i := 15) (v := ?_) rfl (by kernel_rfl) (by kernel_rfl) (by kernel_rfl) (fun _ _ _ h => h) (Or.inl ⟨by rfl, ?_⟩) (by assumption) ?_
                      rotate_left
                      · intro wq hSw
                        try dsimp only at hSw
                        go_simp
                        try with_reducible rfl
                      try simp only [Act.put, List.getElem_toArray, List.getElem_cons_zero, List.getElem_cons_succ, List.setIfInBounds_toArray, List.set_cons_zero, List.set_cons_succ]
                      refine wpAnyH_take (i := 16) (v := ?_) rfl (by kernel_rfl) (by kernel_rfl) (by kernel_rfl) (fun _ _ _ h => h) (Or.inl ⟨by rfl, ?_⟩) (by assumption) ?_
                      rotate_left
                      · intro wq hSw
                        try dsimp only at hSw
                        go_simp
                        try with_reducible rfl
                      try simp only [Act.put, List.getElem_toArray, List.getElem_cons_zero, List.getElem_cons_succ, List.setIfInBounds_toArray, List.set_cons_zero, List.set_cons_succ]
                      refine wpAnyH_take (i := 17) (v := ?_) rfl (by kernel_rfl) (by kernel_rfl) (by kernel_rfl) (fun _ _ _ h => h) (Or.inl ⟨by rfl, ?_⟩) (by assumption) ?_
                      rotate_left
                      · intro wq hSw
                        try dsimp only at hSw
                        go_simp
                        try with_reducible rfl
                      try simp only [Act.put, List.getElem_toArray, List.getElem_cons_zero, List.getElem_cons_succ, List.setIfInBounds_toArray, List.set_cons_zero, List.set_cons_succ]
                      refine wpAnyH_ready (rs := [19]) (by kernel_rfl) (by simp) ?_
                      refine AllReadyH.cons rfl (fun K hK => ?_) AllReadyH.nil
                      go_simp
                      skip
                      go_wp2_with fail
                      refine hK.out _ _ ?_ (fun hHeld => ?_)
                      · try dsimp only
                        exact HSH.out _ (by ((repeat' (first | with_reducible exact Below.refl _ _ | with_reducible assumption | with_reducible refine Below.drew ?_ | with_reducible refine below_drewN ?_ _ | with_reducible refine Below.setCell ?_ ?_ _ | with_reducible refine Below.alloc ?_ ?_ _ | with_reducible refine Below.trans ?_ (Below.mono (by assumption) ?_))) <;> (first | (simp; done) | (simp; omega) | omega)))
                      clear hK K
                      try simp only [Act.put, List.getElem_toArray, List.getElem_cons_zero, List.getElem_cons_succ, List.setIfInBounds_toArray, List.set_cons_zero, List.set_cons_succ]
                      refine wpAnyH_take (i := 20) (v := ?_) rfl (by kernel_rfl) (by kernel_rfl) (by kernel_rfl) (fun _ _ _ h => h) (Or.inl ⟨by rfl, ?_⟩) (by assumption) ?_
                      rotate_left
                      · intro wq hSw
                        try dsimp only at hSw
                        go_simp
                        try with_reducible rfl
                      try simp only [Act.put, List.getElem_toArray, List.getElem_cons_zero, List.getElem_cons_succ, List.setIfInBounds_toArray, List.set_cons_zero, List.set_cons_succ]
                      refine wpAnyH_done (by kernel_rfl) ?_ _
                      go_wp2_with fail
                      go_meet
                      refine ⟨rfl, _, rfl, ?_, ?_⟩
                      · first | exact tx_new hv8 hs8 (by simp; omega) | (refine tx_set (x0 := .slice none 0 0) (x1 := .slice none 0 0) ?_ hv8 hs8 ?_ ?_ <;> first | (((repeat' (first | with_reducible assumption | with_reducible refine Blk.drew ?_ | with_reducible refine Blk.drewN ?_ _ | with_reducible refine Blk.set3 ?_ _ _ _ | with_reducible refine Blk.far ?_ ?_ _ | ((with_reducible refine Blk.new' _ _ _ _ ?_) <;> (first | (simp; done) | (simp; omega) | omega) <;> done) | with_reducible refine Blk.alloc ?_ _ | with_reducible refine Blk3.drew ?_ | with_reducible refine Blk3.drewN ?_ _ | ((with_reducible refine Blk3.new' _ _ _ _ _ _ ?_) <;> (first | (simp; done) | (simp; omega) | omega) <;> done) | with_reducible refine Blk3.alloc ?_ _ | with_reducible refine Blk3.far ?_ ?_ _ | with_reducible refine Blk3.below ?_ (by assumption) ?_ | with_reducible refine Blk.below ?_ (by assumption) ?_)) <;> (first | (simp; done) | (simp; omega) | omega)); done) | (simp; omega) | simp)
                      · ((repeat' (first | with_reducible exact Below.refl _ _ | with_reducible assumption | with_reducible refine Below.drew ?_ | with_reducible refine below_drewN ?_ _ | with_reducible refine Below.setCell ?_ ?_ _ | with_reducible refine Below.alloc ?_ ?_ _ | with_reducible refine Below.trans ?_ (Below.mono (by assumption) ?_))) <;> (first | (simp; done) | (simp; omega) | omega))
                  case rest =>
                    obtain ⟨rfl, g10, rfl, hx10, hb10⟩ := hcut
                    have hbn : Below n W wc := hbr.trans (hb10.mono (by omega))
                    have hnn : n + 2 ≤ wc.heap.size := Nat.le_trans hnr hb10.size
                    have hy8 := hxk.below hb10
                    have hy7 := hx7.below hb10
                    cases hbit : bitB Tb k
                    · have hM : M = ((U, setBit Tb k), 0) := by rw [HMK.out, hbit]; rfl
                      subst hM
                      obtain ⟨A10, c10, B10, d10, k10, v10, s10⟩ := hx10
                      obtain ⟨x0, x1, kk8⟩ := hy8.blk
                      obtain ⟨⟨p0, p1⟩, p2, p3⟩ := kk8.two
                      obtain ⟨⟨z0, z1⟩, _⟩ := k10.two
                      have hput := TX.put (c := c10) (d := d10) kk8 v10 s10 hg8
                      have hfar := (hy7.far (p := ⟨g8, 0, none⟩) (show g7 ≠ g8 from h78) hg8 (.slice A10 U.length c10)).far (p := ⟨g8, 1, none⟩) (show g7 ≠ g8 from h78) hg8 (.slice B10 (setBit Tb k).length d10)
                      have HPUT := Lib.hid hput
                      have HFAR := Lib.hid hfar
                      clear hbit hput hfar hx7 hxk
                      go_wp2_with fail
                      go_roundw
                      case rel => exact ⟨j, by omega, rfl, HFAR.out, by rw [HNX.out]; exact HPUT.out, by ((repeat' (first | with_reducible exact Below.refl _ _ | with_reducible assumption | with_reducible refine Below.drew ?_ | with_reducible refine below_drewN ?_ _ | with_reducible refine Below.setCell ?_ ?_ _ | with_reducible refine Below.alloc ?_ ?_ _ | with_reducible refine Below.trans ?_ (Below.mono (by assumption) ?_))) <;> (first | (simp; done) | (simp; omega) | omega)), by simp; omega⟩
                      case measure => simp [intOf]
                    · have hM : M = (([], []), 7) := by rw [HMK.out, hbit]; rfl
                      subst hM
                      have hsame := setBit_same Tb k HK8.out hbit
                      have HS := Lib.hid hsame
                      clear hbit hsame
                      go_wp2_with fail
                      go_roundw
                      case rel => exact ⟨j, by omega, rfl, hy7, by rw [HNX.out, HS.out]; exact hy8, hbn, hnn⟩
                      case measure => simp [intOf]
                · have hd : (pl.take 60).drop j = (pl.take 60).drop (j + 1) := by
                    rw [List.drop_eq_nil_of_le (by rw [List.length_take]; omega), List.drop_eq_nil_of_le (by rw [List.length_take]; omega)]
                  have HD := Lib.hid hd
                  clear hd
                  have h61 : (60 : Int) ≤ (j : Int) := by omega
                  go_wp2_with fail
                  go_roundw
                  case rel => exact ⟨j, by omega, rfl, hx7, by rw [HD.out]; exact hx8, hbr, hnr⟩
                  case measure => simp [intOf]
          case rest =>
            obtain ⟨hz7', hz8', hbc, hnc⟩ := hcut
            clear hz7 hz8 hbc' hnc'
            have hTf := chk_len HCF.out
            have hTm : Tf.length ≤ 1000000 := by omega
            clear hTf
            go_upto_region 18 with fail
            go_wp2_with fail
            go_loopw [15] (fun i wr => ∃ j : Nat, j ≤ U.length ∧ i = .int .i64 j ∧ TX n g7 U Tf wr ∧ TX n g8 U Tf wr ∧ Below n W wr ∧ n + 2 ≤ wr.heap.size) (fun i _ => U.length - (intOf i).toNat)
            case atStart => exact ⟨0, by omega, rfl, hz7', hz8', hbc, hnc⟩
            case round =>
              obtain ⟨j, hj, rfl, hx7, hx8, hbr, hnr⟩ := hrel
              obtain ⟨r0, r1, r2⟩ := HG.out wr hbr
              have l5 : g5 < wr.heap.size := by omega
              by_cases hlt : j < U.length
              · obtain ⟨b2, off2, v, rfl, hbb2, hv, e0, e1, e2⟩ := r1.at_ hlt
                have hdn := done_at HCF.out hv
                have hpm := pend_mem HCF.out hv
                have HDN := Lib.hid hdn
                have HPM := Lib.hid hpm
                clear hdn hpm hv r1 r2
                have hxk := hx7
                obtain ⟨A7, c7, B7, d7, k7, v7, s7⟩ := hx7
                obtain ⟨⟨y0, y1⟩, _⟩ := k7.two
                have l7 := k7.lt
                have lb2 : b2 < wr.heap.size := by omega
                have i3 : (0 : Int) ≤ (j : Int) := by omega
                have i4 : (j : Int) < (U.length : Int) := by omega
                obtain ⟨Wr, rfl⟩ : ∃ Wr, Wr = wr := ⟨_, rfl⟩
                have hsh : ∀ w', Below Wr.heap.size Wr w' → (w'.cell? ⟨g7, 0, none⟩ = some (.slice A7 U.length c7) ∧ w'.cell? ⟨g7, 1, none⟩ = some (.slice B7 Tf.length d7) ∧ w'.cell? ⟨g5, 0, none⟩ = some (.slice (some ⟨b2, off2, none⟩) U.length c2) ∧ w'.cell? ⟨b2, off2 + j * 3, none⟩ = some (.int .i64 v.k) ∧ w'.cell? ⟨b2, off2 + j * 3 + 1, none⟩ = some (.int .i64 v.i) ∧ w'.cell? ⟨b2, off2 + j * 3 + 2, none⟩ = some (.string ⟨v.s.toArray⟩)) :=
                  fun w' h => ⟨(h.cell l7).trans y0, (h.cell l7).trans y1, (h.cell l5).trans r0, (h.cell lb2).trans e0, (h.cell lb2).trans e1, (h.cell lb2).trans e2⟩
                have HSH := Lib.hid hsh
                clear hsh y0 y1 e0 e1 e2
                go_wp2_with fail
                clear r0
                refine wp_region_held_drew (S := (fun w' => w'.cell? ⟨g7, 0, none⟩ = some (.slice A7 U.length c7) ∧ w'.cell? ⟨g7, 1, none⟩ = some (.slice B7 Tf.length d7) ∧ w'.cell? ⟨g5, 0, none⟩ = some (.slice (some ⟨b2, off2, none⟩) U.length c2) ∧ w'.cell? ⟨b2, off2 + j * 3, none⟩ = some (.int .i64 v.k) ∧ w'.cell? ⟨b2, off2 + j * 3 + 1, none⟩ = some (.int .i64 v.i) ∧ w'.cell? ⟨b2, off2 + j * 3 + 2, none⟩ = some (.string ⟨v.s.toArray⟩))) (by kernel_rfl) ?_ (fun hHeld => ?_)
                · try dsimp only
                  exact HSH.out _ (by ((repeat' (first | with_reducible exact Below.refl _ _ | with_reducible assumption | with_reducible refine Below.drew ?_ | with_reducible refine below_drewN ?_ _ | with_reducible refine Below.setCell ?_ ?_ _ | with_reducible refine Below.alloc ?_ ?_ _ | with_reducible refine Below.trans ?_ (Below.mono (by assumption) ?_))) <;> (first | (simp; done) | (simp; omega) | omega)))
                refine wpAnyH_take (i := 0) (v := ?_) rfl (by kernel_rfl) (by kernel_rfl) (by kernel_rfl) (fun _ _ _ h => h) (Or.inl ⟨by rfl, ?_⟩) (by assumption) ?_
                rotate_left
                · intro wq hSw
                  try dsimp only at hSw
                  go_simp
                  try with_reducible rfl
                try simp only [Act.put, List.getElem_toArray, List.getElem_cons_zero, List.setIfInBounds_toArray, List.set_cons_zero, List.set_cons_succ]
                refine wpAnyH_take (i := 1) (v := ?_) rfl (by kernel_rfl) (by kernel_rfl) (by kernel_rfl) (fun _ _ _ h => h) (Or.inl ⟨by rfl, ?_⟩) (by assumption) ?_
                rotate_left
                · intro wq hSw
                  try dsimp only at hSw
                  go_simp
                  try with_reducible rfl
                try simp only [Act.put, List.getElem_toArray, List.getElem_cons_zero, List.getElem_cons_succ, List.setIfInBounds_toArray, List.set_cons_zero, List.set_cons_succ]
                refine wpAnyH_take (i := 2) (v := ?_) rfl (by kernel_rfl) (by kernel_rfl) (by kernel_rfl) (fun _ _ _ h => h) (Or.inl ⟨by rfl, ?_⟩) (by assumption) ?_
                rotate_left
                · intro wq hSw
                  try dsimp only at hSw
                  go_simp
                  try with_reducible rfl
                try simp only [Act.put, List.getElem_toArray, List.getElem_cons_zero, List.getElem_cons_succ, List.setIfInBounds_toArray, List.set_cons_zero, List.set_cons_succ]
                refine wpAnyH_take (i := 3) (v := ?_) rfl (by kernel_rfl) (by kernel_rfl) (by kernel_rfl) (fun _ _ _ h => h) (Or.inl ⟨by rfl, ?_⟩) (by assumption) ?_
                rotate_left
                · intro wq hSw
                  try dsimp only at hSw
                  go_simp
                  try with_reducible rfl
                try simp only [Act.put, List.getElem_toArray, List.getElem_cons_zero, List.getElem_cons_succ, List.setIfInBounds_toArray, List.set_cons_zero, List.set_cons_succ]
                refine wpAnyH_take (i := 4) (v := ?_) rfl (by kernel_rfl) (by kernel_rfl) (by kernel_rfl) (fun _ _ _ h => h) (Or.inl ⟨by rfl, ?_⟩) (by assumption) ?_
                rotate_left
                · intro wq hSw
                  try dsimp only at hSw
                  go_simp
                  try with_reducible rfl
                try simp only [Act.put, List.getElem_toArray, List.getElem_cons_zero, List.getElem_cons_succ, List.setIfInBounds_toArray, List.set_cons_zero, List.set_cons_succ]
                refine wpAnyH_take (i := 5) (v := ?_) rfl (by kernel_rfl) (by kernel_rfl) (by kernel_rfl) (fun _ _ _ h => h) (Or.inl ⟨by rfl, ?_⟩) (by assumption) ?_
                rotate_left
                · intro wq hSw
                  try dsimp only at hSw
                  go_simp
                  try with_reducible rfl
                try simp only [Act.put, List.getElem_toArray, List.getElem_cons_zero, List.getElem_cons_succ, List.setIfInBounds_toArray, List.set_cons_zero, List.set_cons_succ]
                refine wpAnyH_ready (rs := [6]) (by kernel_rfl) (by simp) ?_
                refine AllReadyH.cons rfl (fun K hK => ?_) AllReadyH.nil
                go_simp
                (refine (done_any A7 B7 c7 d7 U Tf v _ hU' hTm (v7.below (by ((repeat' (first | with_reducible exact Below.refl _ _ | with_reducible assumption | with_reducible refine Below.drew ?_ | with_reducible refine below_drewN ?_ _ | with_reducible refine Below.setCell ?_ ?_ _ | with_reducible refine Below.alloc ?_ ?_ _ | with_reducible refine Below.trans ?_ (Below.mono (by assumption) ?_))) <;> (first | (simp; done) | (simp; omega) | omega)))).vs (s7.below (by ((repeat' (first | with_reducible exact Below.refl _ _ | with_reducible assumption | with_reducible refine Below.drew ?_ | with_reducible refine below_drewN ?_ _ | with_reducible refine Below.setCell ?_ ?_ _ | with_reducible refine Below.alloc ?_ ?_ _ | with_reducible refine Below.trans ?_ (Below.mono (by assumption) ?_))) <;> (first | (simp; done) | (simp; omega) | omega)))).bs).mono ?_) <;> rw [HDN.out] <;> rintro e w8 ⟨rfl, hb8⟩ <;> have hz8 := hb8.size <;> (try simp at hz8)
                go_wp2_with fail
                refine hK.out _ _ ?_ (fun hHeld => ?_)
                · try dsimp only
                  exact HSH.out _ (by ((repeat' (first | with_reducible exact Below.refl _ _ | with_reducible assumption | with_reducible refine Below.drew ?_ | with_reducible refine below_drewN ?_ _ | with_reducible refine Below.setCell ?_ ?_ _ | with_reducible refine Below.alloc ?_ ?_ _ | with_reducible refine Below.trans ?_ (Below.mono (by assumption) ?_))) <;> (first | (simp; done) | (simp; omega) | omega)))
                clear hK K
                try simp only [Act.put, List.getElem_toArray, List.getElem_cons_zero, List.getElem_cons_succ, List.setIfInBounds_toArray, List.set_cons_zero, List.set_cons_succ]
                refine wpAnyH_take (i := 7) (v := ?_) rfl (by kernel_rfl) (by kernel_rfl) (by kernel_rfl) (fun _ _ _ h => h) (Or.inl ⟨by rfl, ?_⟩) (by assumption) ?_
                rotate_left
                · intro wq hSw
                  try dsimp only at hSw
                  go_simp
                  try with_reducible rfl
                try simp only [Act.put, List.getElem_toArray, List.getElem_cons_zero, List.getElem_cons_succ, List.setIfInBounds_toArray, List.set_cons_zero, List.set_cons_succ]
                refine wpAnyH_take (i := 8) (v := ?_) rfl (by kernel_rfl) (by kernel_rfl) (by kernel_rfl) (fun _ _ _ h => h) (Or.inl ⟨by rfl, ?_⟩) (by assumption) ?_
                rotate_left
                · intro wq hSw
                  try dsimp only at hSw
                  go_simp
                  try with_reducible rfl
                try simp only [Act.put, List.getElem_toArray, List.getElem_cons_zero, List.getElem_cons_succ, List.setIfInBounds_toArray, List.set_cons_zero, List.set_cons_succ]
                refine wpAnyH_take (i := 9) (v := ?_) rfl (by kernel_rfl) (by kernel_rfl) (by kernel_rfl) (fun _ _ _ h => h) (Or.inl ⟨by rfl, ?_⟩) (by assumption) ?_
                rotate_left
                · intro wq hSw
                  try dsimp only at hSw
                  go_simp
                  try with_reducible rfl
                try simp only [Act.put, List.getElem_toArray, List.getElem_cons_zero, List.getElem_cons_succ, List.setIfInBounds_toArray, List.set_cons_zero, List.set_cons_succ]
                refine wpAnyH_take (i := 10) (v := ?_) rfl (by kernel_rfl) (by kernel_rfl) (by kernel_rfl) (fun _ _ _ h => h) (Or.inl ⟨by rfl, ?_⟩) (by assumption) ?_
                rotate_left
                · intro wq hSw
                  try dsimp only at hSw
                  go_simp
                  try with_reducible rfl
                try simp only [Act.put, List.getElem_toArray, List.getElem_cons_zero, List.getElem_cons_succ, List.setIfInBounds_toArray, List.set_cons_zero, List.set_cons_succ]
                refine wpAnyH_take (i := 11) (v := ?_) rfl (by kernel_rfl) (by kernel_rfl) (by kernel_rfl) (fun _ _ _ h => h) (Or.inl ⟨by rfl, ?_⟩) (by assumption) ?_
                rotate_left
                · intro wq hSw
                  try dsimp only at hSw
                  go_simp
                  try with_reducible rfl
                try simp only [Act.put, List.getElem_toArray, List.getElem_cons_zero, List.getElem_cons_succ, List.setIfInBounds_toArray, List.set_cons_zero, List.set_cons_succ]
                refine wpAnyH_done (by kernel_rfl) ?_ _
                have hb8' : Below Wr.heap.size Wr w8 := by ((repeat' (first | with_reducible exact Below.refl _ _ | with_reducible assumption | with_reducible refine Below.drew ?_ | with_reducible refine below_drewN ?_ _ | with_reducible refine Below.setCell ?_ ?_ _ | with_reducible refine Below.alloc ?_ ?_ _ | with_reducible refine Below.trans ?_ (Below.mono (by assumption) ?_))) <;> (first | (simp; done) | (simp; omega) | omega))
                clear hb8
                obtain ⟨q0, q1, q2, q3, q4, q5⟩ := HSH.out w8 hb8'
                have hzz := hb8'.size
                go_wp2_with fail
                refine (pending_any A7 B7 c7 d7 U Tf w8 hU' hTm (v7.below hb8').vs (s7.below hb8').bs).mono ?_
                rintro e w9 ⟨A9, c9, rfl, hc9, hm9, hv9, hb9⟩
                have hb9' : Below Wr.heap.size Wr w9 := by ((repeat' (first | with_reducible exact Below.refl _ _ | with_reducible assumption | with_reducible refine Below.drew ?_ | with_reducible refine below_drewN ?_ _ | with_reducible refine Below.setCell ?_ ?_ _ | with_reducible refine Below.alloc ?_ ?_ _ | with_reducible refine Below.trans ?_ (Below.mono (by assumption) ?_))) <;> (first | (simp; done) | (simp; omega) | omega))
                have hPl : (pendF U Tf).length ≤ 1000000 := Nat.le_trans (pendF_length U Tf) hU'
                generalize pendF U Tf = P at *
                have hvP := hv9.vs (Nat.le_refl _)
                clear q0 q1 q2 q3 q4 q5 hv9
                go_wp2_with fail
                go_loopw [18, 20] (fun s i wx => ∃ k : Nat, k ≤ P.length ∧ i = .int .i64 k ∧ s = .bool ((P.take k).any (fun x => veq x v)) ∧ Below w9.heap.size w9 wx) (fun _ i _ => P.length - (intOf i).toNat)
                case atStart => exact ⟨0, by omega, rfl, rfl, Below.refl _ _⟩
                case round =>
                  obtain ⟨k, hk, rfl, rfl, hbx⟩ := hrel
                  obtain ⟨Wx, rfl⟩ : ∃ Wx, Wx = wr := ⟨_, rfl⟩
                  have hbx' : Below Wr.heap.size Wr Wx := hb9'.trans (hbx.mono hb9'.size)
                  by_cases hklt : k < P.length
                  · obtain ⟨b3, off3, p, rfl, hbb3, hp, f0, f1, f2⟩ := (hvP.below hbx).at_ hklt
                    have hsn := any_snoc P k (fun x => veq x v) p hp
                    have HSN := Lib.hid hsn
                    have i5 : (0 : Int) ≤ (k : Int) := by omega
                    have i6 : (k : Int) < (P.length : Int) := by omega
                    obtain ⟨q0, q1, q2, q3, q4, q5⟩ := HSH.out Wx hbx'
                    have lb3 : b3 < Wx.heap.size := by have := hbx.size; omega
                    have hsh2 : ∀ w', Below Wx.heap.size Wx w' → (w'.cell? ⟨g5, 0, none⟩ = some (.slice (some ⟨b2, off2, none⟩) U.length c2) ∧ (w'.cell? ⟨b2, off2 + j * 3, none⟩ = some (.int .i64 v.k) ∧ w'.cell? ⟨b2, off2 + j * 3 + 1, none⟩ = some (.int .i64 v.i) ∧ w'.cell? ⟨b2, off2 + j * 3 + 2, none⟩ = some (.string ⟨v.s.toArray⟩)) ∧ w'.cell? ⟨b3, off3 + k * 3, none⟩ = some (.int .i64 p.k) ∧ w'.cell? ⟨b3, off3 + k * 3 + 1, none⟩ = some (.int .i64 p.i) ∧ w'.cell? ⟨b3, off3 + k * 3 + 2, none⟩ = some (.string ⟨p.s.toArray⟩)) :=
                      fun w' h => ⟨(h.cell (Blk_lt_of_cell q2)).trans q2, ⟨(h.cell (Blk_lt_of_cell q3)).trans q3, (h.cell (Blk_lt_of_cell q3)).trans q4, (h.cell (Blk_lt_of_cell q3)).trans q5⟩, (h.cell lb3).trans f0, (h.cell lb3).trans f1, (h.cell lb3).trans f2⟩
                    have HS2 := Lib.hid hsh2
                    clear hsn hp hsh2 q0 q1 q2 q3 q4 q5 f0 f1 f2
                    cases hany : (P.take k).any (fun x => veq x v)
                    · rw [hany] at HSN
                      have HVP := Lib.hid (show (P.take (k + 1)).any (fun x => veq x v) = veq ⟨p.k, p.i, p.s⟩ ⟨v.k, v.i, v.s⟩ from HSN.out)
                      clear hany HSN
                      go_wp2_with fail
                      refine wp_region_held_drew (S := (fun w' => w'.cell? ⟨g5, 0, none⟩ = some (.slice (some ⟨b2, off2, none⟩) U.length c2) ∧ (w'.cell? ⟨b2, off2 + j * 3, none⟩ = some (.int .i64 v.k) ∧ w'.cell? ⟨b2, off2 + j * 3 + 1, none⟩ = some (.int .i64 v.i) ∧ w'.cell? ⟨b2, off2 + j * 3 + 2, none⟩ = some (.string ⟨v.s.toArray⟩)) ∧ w'.cell? ⟨b3, off3 + k * 3, none⟩ = some (.int .i64 p.k) ∧ w'.cell? ⟨b3, off3 + k * 3 + 1, none⟩ = some (.int .i64 p.i) ∧ w'.cell? ⟨b3, off3 + k * 3 + 2, none⟩ = some (.string ⟨p.s.toArray⟩))) (by kernel_rfl) ?_ (fun hHeld => ?_)
                      · try dsimp only
                        exact HS2.out _ (by ((repeat' (first | with_reducible exact Below.refl _ _ | with_reducible assumption | with_reducible refine Below.drew ?_ | with_reducible refine below_drewN ?_ _ | with_reducible refine Below.setCell ?_ ?_ _ | with_reducible refine Below.alloc ?_ ?_ _ | with_reducible refine Below.trans ?_ (Below.mono (by assumption) ?_))) <;> (first | (simp; done) | (simp; omega) | omega)))
                      refine wpAnyH_take (i := 0) (v := ?_) rfl (by kernel_rfl) (by kernel_rfl) (by kernel_rfl) (fun _ _ _ h => h) (Or.inl ⟨by rfl, ?_⟩) (by assumption) ?_
                      rotate_left
                      · intro wq hSw
                        try dsimp only at hSw
                        go_simp
                        try with_reducible rfl
                      try simp only [Act.put, List.getElem_toArray, List.getElem_cons_zero, List.setIfInBounds_toArray, List.set_cons_zero, List.set_cons_succ]
                      refine wpAnyH_take (i := 1) (v := ?_) rfl (by kernel_rfl) (by kernel_rfl) (by kernel_rfl) (fun _ _ _ h => h) (Or.inl ⟨by rfl, ?_⟩) (by assumption) ?_
                      rotate_left
                      · intro wq hSw
                        try dsimp only at hSw
                        go_simp
                        try with_reducible rfl
                      try simp only [Act.put, List.getElem_toArray, List.getElem_cons_zero, List.getElem_cons_succ, List.setIfInBounds_toArray, List.set_cons_zero, List.set_cons_succ]
                      refine wpAnyH_take (i := 2) (v := ?_) rfl (by kernel_rfl) (by kernel_rfl) (by kernel_rfl) (fun _ _ _ h => h) (Or.inl ⟨by rfl, ?_⟩) (by assumption) ?_
                      rotate_left
                      · intro wq hSw
                        try dsimp only at hSw
                        go_simp
                        try with_reducible rfl
                      try simp only [Act.put, List.getElem_toArray, List.getElem_cons_zero, List.getElem_cons_succ, List.setIfInBounds_toArray, List.set_cons_zero, List.set_cons_succ]
                      refine wpAnyH_take (i := 3) (v := ?_) rfl (by kernel_rfl) (by kernel_rfl) (by kernel_rfl) (fun _ _ _ h => h) (Or.inl ⟨by rfl, ?_⟩) (by assumption) ?_
                      rotate_left
                      · intro wq hSw
                        try dsimp only at hSw
                        go_simp
                        try with_reducible rfl
                      try simp only [Act.put, List.getElem_toArray, List.getElem_cons_zero, List.getElem_cons_succ, List.setIfInBounds_toArray, List.set_cons_zero, List.set_cons_succ]
                      refine wpAnyH_take (i := 4) (v := ?_) rfl (by kernel_rfl) (by kernel_rfl) (by kernel_rfl) (fun _ _ _ h => h) (Or.inl ⟨by rfl, ?_⟩) (by assumption) ?_
                      rotate_left
                      · intro wq hSw
                        try dsimp only at hSw
                        go_simp
                        try with_reducible rfl
                      try simp only [Act.put, List.getElem_toArray, List.getElem_cons_zero, List.getElem_cons_succ, List.setIfInBounds_toArray, List.set_cons_zero, List.set_cons_succ]
                      refine wpAnyH_take (i := 5) (v := ?_) rfl (by kernel_rfl) (by kernel_rfl) (by kernel_rfl) (fun _ _ _ h => h) (Or.inl ⟨by rfl, ?_⟩) (by assumption) ?_
                      rotate_left
                      · intro wq hSw
                        try dsimp only at hSw
                        go_simp
                        try with_reducible rfl
                      try simp only [Act.put, List.getElem_toArray, List.getElem_cons_zero, List.getElem_cons_succ, List.setIfInBounds_toArray, List.set_cons_zero, List.set_cons_succ]
                      refine wpAnyH_take (i := 6) (v := ?_) rfl (by kernel_rfl) (by kernel_rfl) (by kernel_rfl) (fun _ _ _ h => h) (Or.inl ⟨by rfl, ?_⟩) (by assumption) ?_
                      rotate_left
                      · intro wq hSw
                        try dsimp only at hSw
                        go_simp
                        try with_reducible rfl
                      try simp only [Act.put, List.getElem_toArray, List.getElem_cons_zero, List.getElem_cons_succ, List.setIfInBounds_toArray, List.set_cons_zero, List.set_cons_succ]
                      refine wpAnyH_take (i := 7) (v := ?_) rfl (by kernel_rfl) (by kernel_rfl) (by kernel_rfl) (fun _ _ _ h => h) (Or.inl ⟨by rfl, ?_⟩) (by assumption) ?_
                      rotate_left
                      · intro wq hSw
                        try dsimp only at hSw
                        go_simp
                        try with_reducible rfl
                      try simp only [Act.put, List.getElem_toArray, List.getElem_cons_zero, List.getElem_cons_succ, List.setIfInBounds_toArray, List.set_cons_zero, List.set_cons_succ]
                      refine wpAnyH_take (i := 8) (v := ?_) rfl (by kernel_rfl) (by kernel_rfl) (by kernel_rfl) (fun _ _ _ h => h) (Or.inl ⟨by rfl, ?_⟩) (by assumption) ?_
                      rotate_left
                      · intro wq hSw
                        try dsimp only at hSw
                        go_simp
                        try with_reducible rfl
                      try simp only [Act.put, List.getElem_toArray, List.getElem_cons_zero, List.getElem_cons_succ, List.setIfInBounds_toArray, List.set_cons_zero, List.set_cons_succ]
                      refine wpAnyH_take (i := 9) (v := ?_) rfl (by kernel_rfl) (by kernel_rfl) (by kernel_rfl) (fun _ _ _ h => h) (Or.inl ⟨by rfl, ?_⟩) (by assumption) ?_
                      rotate_left
                      · intro wq hSw
                        try dsimp only at hSw
                        go_simp
                        try with_reducible rfl
                      try simp only [Act.put, List.getElem_toArray, List.getElem_cons_zero, List.getElem_cons_succ, List.setIfInBounds_toArray, List.set_cons_zero, List.set_cons_succ]
                      refine wpAnyH_take (i := 10) (v := ?_) rfl (by kernel_rfl) (by kernel_rfl) (by kernel_rfl) (fun _ _ _ h => h) (Or.inl ⟨by rfl, ?_⟩) (by assumption) ?_
                      rotate_left
                      · intro wq hSw
                        try dsimp only at hSw
                        go_simp
                        try with_reducible rfl
                      try simp only [Act.put, List.getElem_toArray, List.getElem_cons_zero, List.getElem_cons_succ, List.setIfInBounds_toArray, List.set_cons_zero, List.set_cons_succ]
                      refine wpAnyH_take (i := 11) (v := ?_) rfl (by kernel_rfl) (by kernel_rfl) (by kernel_rfl) (fun _ _ _ h => h) (Or.inl ⟨by rfl, ?_⟩) (by assumption) ?_
                      rotate_left
                      · intro wq hSw
                        try dsimp only at hSw
                        go_simp
                        try with_reducible rfl
                      try simp only [Act.put, List.getElem_toArray, List.getElem_cons_zero, List.getElem_cons_succ, List.setIfInBounds_toArray, List.set_cons_zero, List.set_cons_succ]
                      refine wpAnyH_take (i := 12) (v := ?_) rfl (by kernel_rfl) (by kernel_rfl) (by kernel_rfl) (fun _ _ _ h => h) (Or.inl ⟨by rfl, ?_⟩) (by assumption) ?_
                      rotate_left
                      · intro wq hSw
                        try dsimp only at hSw
                        go_simp
                        try with_reducible rfl
                      try simp only [Act.put, List.getElem_toArray, List.getElem_cons_zero, List.getElem_cons_succ, List.setIfInBounds_toArray, List.set_cons_zero, List.set_cons_succ]
                      refine wpAnyH_take (i := 13) (v := ?_) rfl (by kernel_rfl) (by kernel_rfl) (by kernel_rfl) (fun _ _ _ h => h) (Or.inl ⟨by rfl, ?_⟩) (by assumption) ?_
                      rotate_left
                      · intro wq hSw
                        try dsimp only at hSw
                        go_simp
                        try with_reducible rfl
                      try simp only [Act.put, List.getElem_toArray, List.getElem_cons_zero, List.getElem_cons_succ, List.setIfInBounds_toArray, List.set_cons_zero, List.set_cons_succ]
                      refine wpAnyH_done (by kernel_rfl) ?_ _
                      go_wp2_with fail
                      go_roundw
                      case rel => exact ⟨k + 1, by omega, by go_num, by rw [HVP.out], by ((repeat' (first | with_reducible exact Below.refl _ _ | with_reducible assumption | with_reducible refine Below.drew ?_ | with_reducible refine below_drewN ?_ _ | with_reducible refine Below.setCell ?_ ?_ _ | with_reducible refine Below.alloc ?_ ?_ _ | with_reducible refine Below.trans ?_ (Below.mono (by assumption) ?_))) <;> (first | (simp; done) | (simp; omega) | omega))⟩
                      case measure => simp [intOf]; omega
                    · rw [hany] at HSN
                      clear hany
                      go_wp2_with fail
                      refine wp_region_held_drew (S := (fun _ => True)) (by kernel_rfl) ?_ (fun hHeld => ?_)
                      · try dsimp only
                        first | done | trivial
                      refine wpAnyH_take (i := 0) (v := ?_) rfl (by kernel_rfl) (by kernel_rfl) (by kernel_rfl) (fun _ _ _ h => h) (Or.inl ⟨by rfl, ?_⟩) (by assumption) ?_
                      rotate_left
                      · intro wq hSw
                        try dsimp only at hSw
                        go_simp
                        try with_reducible rfl
                      try simp only [Act.put, List.getElem_toArray, List.getElem_cons_zero, List.setIfInBounds_toArray, List.set_cons_zero, List.set_cons_succ]
                      refine wpAnyH_take (i := 1) (v := ?_) rfl (by kernel_rfl) (by kernel_rfl) (by kernel_rfl) (fun _ _ _ h => h) (Or.inl ⟨by rfl, ?_⟩) (by assumption) ?_
                      rotate_left
                      · intro wq hSw
                        try dsimp only at hSw
                        go_simp
                        try with_reducible rfl
                      try simp only [Act.put, List.getElem_toArray, List.getElem_cons_zero, List.getElem_cons_succ, List.setIfInBounds_toArray, List.set_cons_zero, List.set_cons_succ]
                      refine wpAnyH_take (i := 2) (v := undef) rfl (by kernel_rfl) (by kernel_rfl) (by kernel_rfl) (fun _ _ _ h => h) (Or.inr ⟨by rfl, rfl⟩) (by assumption) ?_
                      try simp only [Act.put, List.getElem_toArray, List.getElem_cons_zero, List.getElem_cons_succ, List.setIfInBounds_toArray, List.set_cons_zero, List.set_cons_succ]
                      refine wpAnyH_take (i := 3) (v := undef) rfl (by kernel_rfl) (by kernel_rfl) (by kernel_rfl) (fun _ _ _ h => h) (Or.inr ⟨by rfl, rfl⟩) (by assumption) ?_
                      try simp only [Act.put, List.getElem_toArray, List.getElem_cons_zero, List.getElem_cons_succ, List.setIfInBounds_toArray, List.set_cons_zero, List.set_cons_succ]
                      refine wpAnyH_take (i := 4) (v := undef) rfl (by kernel_rfl) (by kernel_rfl) (by kernel_rfl) (fun _ _ _ h => h) (Or.inr ⟨by rfl, rfl⟩) (by assumption) ?_
                      try simp only [Act.put, List.getElem_toArray, List.getElem_cons_zero, List.getElem_cons_succ, List.setIfInBounds_toArray, List.set_cons_zero, List.set_cons_succ]
                      refine wpAnyH_take (i := 5) (v := undef) rfl (by kernel_rfl) (by kernel_rfl) (by kernel_rfl) (fun _ _ _ h => h) (Or.inr ⟨by rfl, rfl⟩) (by assumption) ?_
                      try simp only [Act.put, List.getElem_toArray, List.getElem_cons_zero, List.getElem_cons_succ, List.setIfInBounds_toArray, List.set_cons_zero, List.set_cons_succ]
                      refine wpAnyH_take (i := 6) (v := undef) rfl (by kernel_rfl) (by kernel_rfl) (by kernel_rfl) (fun _ _ _ h => h) (Or.inr ⟨by rfl, rfl⟩) (by assumption) ?_
                      try simp only [Act.put, List.getElem_toArray, List.getElem_cons_zero, List.getElem_cons_succ, List.setIfInBounds_toArray, List.set_cons_zero, List.set_cons_succ]
                      refine wpAnyH_take (i := 7) (v := undef) rfl (by kernel_rfl) (by kernel_rfl) (by kernel_rfl) (fun _ _ _ h => h) (Or.inr ⟨by rfl, rfl⟩) (by assumption) ?_
                      try simp only [Act.put, List.getElem_toArray, List.getElem_cons_zero, List.getElem_cons_succ, List.setIfInBounds_toArray, List.set_cons_zero, List.set_cons_succ]
                      refine wpAnyH_take (i := 8) (v := undef) rfl (by kernel_rfl) (by kernel_rfl) (by kernel_rfl) (fun _ _ _ h => h) (Or.inr ⟨by rfl, rfl⟩) (by assumption) ?_
                      try simp only [Act.put, List.getElem_toArray, List.getElem_cons_zero, List.getElem_cons_succ, List.setIfInBounds_toArray, List.set_cons_zero, List.set_cons_succ]
                      refine wpAnyH_take (i := 9) (v := undef) rfl (by kernel_rfl) (by kernel_rfl) (by kernel_rfl) (fun _ _ _ h => h) (Or.inr ⟨by rfl, rfl⟩) (by assumption) ?_
                      try simp only [Act.put, List.getElem_toArray, List.getElem_cons_zero, List.getElem_cons_succ, List.setIfInBounds_toArray, List.set_cons_zero, List.set_cons_succ]
                      refine wpAnyH_take (i := 10) (v := undef) rfl (by kernel_rfl) (by kernel_rfl) (by kernel_rfl) (fun _ _ _ h => h) (Or.inr ⟨by rfl, rfl⟩) (by assumption) ?_
                      try simp only [Act.put, List.getElem_toArray, List.getElem_cons_zero, List.getElem_cons_succ, List.setIfInBounds_toArray, List.set_cons_zero, List.set_cons_succ]
                      refine wpAnyH_take (i := 11) (v := undef) rfl (by kernel_rfl) (by kernel_rfl) (by kernel_rfl) (fun _ _ _ h => h) (Or.inr ⟨by rfl, rfl⟩) (by assumption) ?_
                      try simp only [Act.put, List.getElem_toArray, List.getElem_cons_zero, List.getElem_cons_succ, List.setIfInBounds_toArray, List.set_cons_zero, List.set_cons_succ]
                      refine wpAnyH_take (i := 12) (v := ?_) rfl (by kernel_rfl) (by kernel_rfl) (by kernel_rfl) (fun _ _ _ h => h) (Or.inl ⟨by rfl, ?_⟩) (by assumption) ?_
                      rotate_left
                      · intro wq hSw
                        try dsimp only at hSw
                        go_simp
                        try with_reducible rfl
                      try simp only [Act.put, List.getElem_toArray, List.getElem_cons_zero, List.getElem_cons_succ, List.setIfInBounds_toArray, List.set_cons_zero, List.set_cons_succ]
                      refine wpAnyH_take (i := 13) (v := ?_) rfl (by kernel_rfl) (by kernel_rfl) (by kernel_rfl) (fun _ _ _ h => h) (Or.inl ⟨by rfl, ?_⟩) (by assumption) ?_
                      rotate_left
                      · intro wq hSw
                        try dsimp only at hSw
                        go_simp
                        try with_reducible rfl
                      try simp only [Act.put, List.getElem_toArray, List.getElem_cons_zero, List.getElem_cons_succ, List.setIfInBounds_toArray, List.set_cons_zero, List.set_cons_succ]
                      refine wpAnyH_done (by kernel_rfl) ?_ _
                      go_wp2_with fail
                      go_roundw
                      case rel => exact ⟨k + 1, by omega, by go_num, by rw [HSN.out]; rfl, by ((repeat' (first | with_reducible exact Below.refl _ _ | with_reducible assumption | with_reducible refine Below.drew ?_ | with_reducible refine below_drewN ?_ _ | with_reducible refine Below.setCell ?_ ?_ _ | with_reducible refine Below.alloc ?_ ?_ _ | with_reducible refine Below.trans ?_ (Below.mono (by assumption) ?_))) <;> (first | (simp; done) | (simp; omega) | omega))⟩
                      case measure => simp [intOf]; omega
                  · obtain rfl : k = P.length := by omega
                    rw [List.take_length]
                    rw [HPM.out]
                    have hy7 := hxk.below hbx'
                    have hy8 := hx8.below hbx'
                    have hbn : Below n W Wx := hbr.trans (hbx'.mono (by omega))
                    have hnn : n + 2 ≤ Wx.heap.size := Nat.le_trans hnr hbx'.size
                    cases hbit : bitB Tf j
                    all_goals
                      clear hbit
                      go_wp2_with fail
                      go_roundw
                      case rel => exact ⟨j + 1, by omega, by go_num, hy7, hy8, hbn, hnn⟩
                      case measure => simp [intOf]; omega
              · clear r1 r2
                obtain ⟨A7, c7, B7, d7, k7, v7, s7⟩ := hx7
                obtain ⟨A8, c8, B8, d8, k8, v8, s8⟩ := hx8
                obtain ⟨⟨y0, y1⟩, _⟩ := k7.two
                obtain ⟨⟨z0, z1⟩, _⟩ := k8.two
                obtain ⟨Wr, rfl⟩ : ∃ Wr, Wr = wr := ⟨_, rfl⟩
                go_wp2_with fail
                refine (same14_any A7 B7 A8 B8 c7 d7 c8 d8 U Tf _ hU' v7.vs s7.bs v8.vs s8.bs).mono ?_
                rintro e w8 ⟨rfl, hb8⟩
                go_wp2_with fail
                refine (awake14_any _).mono ?_
                rintro e w9 ⟨rfl, hb9⟩
                go_wp2_with fail
                go_ret
                have h1 : Below w.heap.size w Wr := hbwW.trans (hbr.mono hszW)
                have h2 := h1.trans (hb8.mono h1.size)
                exact ⟨rfl, h2.trans (hb9.mono h2.size)⟩

open Go.ChangeShapes Go.WideShapes Go.ChangeAt
set_option maxRecDepth 100000 in
theorem trackOrder_lifted (os : Os) (started : os.Started) (H : Type) (enc : TypeId × Value → H) :
    ReturnsInHanded {} Try.checked os 8 .any (Rows.trackOrderSpec.pre6 enc Try.prog Try.f8 Rows.trackOrderRow.domain false) (Rows.trackOrderSpec.post enc Try.prog Try.f8 false true false false) := by
  refine returnsInHanded_of_change (C := Try.checked) own started (by kernel_rfl) Try.func8
    (ChangeSpec.witness6 (enc := enc) (C := Try.checked) false ⟨#[], #[.slice none 0 0, .slice none 0 0], []⟩ 8 (by kernel_rfl) (by kernel_rfl) (by kernel_rfl) (by kernel_rfl)) ?_
  intro W base args ds gs before hval0 hW hcnd _
  have hval : ∀ (j : Nat) t v, Try.f8.params[j]? = some t → args[j]? = some v → Value.okWide Try.prog W .any base t v := hval0
  have hW' := hW
  obtain ⟨p, q, hA0, hV, rfl, hfz, hnd⟩ := hW
  have hA : DataW.TrodAll enc Try.prog W 0 (fun _ => true) true Try.f8.params.toList args.toList ds p := hA0
  rw [Try.params8] at hA hval
  obtain ⟨v0, vs0, d0, ds0, p0, q0, hargs, rfl, rfl, h0, r0⟩ := trodAll_cons hA
  have k0 := h0
  have lt0 : ∀ x ∈ p0, x.block < W.heap.size := by obtain ⟨m, hm⟩ := k0; exact DataW.trod_lt m _ _ _ hm
  obtain ⟨v1, vs1, d1, ds1, p1, q1, rfl, rfl, rfl, h1, r1⟩ := trodAll_cons r0
  have k1 := h1
  have lt1 : ∀ x ∈ p1, x.block < W.heap.size := by obtain ⟨m, hm⟩ := k1; exact DataW.trod_lt m _ _ _ hm
  obtain ⟨rfl, rfl, rfl⟩ := trodAll_nil r1
  obtain rfl : args = #[v0, v1] := by cases args; simp_all
  obtain ⟨rfl, rfl⟩ := trodVars_none hV
  obtain ⟨A, a, c, rfl, hac, hcm, vA, _⟩ := open_vals (hval 0 22 v0 rfl rfl) h0
  obtain ⟨B, b, d, rfl, hbd, hdm, vB, ob⟩ := open_nums (hval 1 44 v1 rfl rfl) h1
  clear hA0 hval0
  refine (trackOrder_walk A B c d a b W (Nat.le_trans hac hcm) (Nat.le_trans hbd hdm) ob vA vB).mono fun e W' ⟨he, bel⟩ => ?_
  subst he
  exact ⟨_, rfl, _, _, _, [], _, [], hW', trodAll_mk1 (shut_bool Try.underlying4 _), (trodAll_cons_mk (Below.trod laidOut (by kernel_rfl) (of_decide_eq_true (by kernel_rfl)) k0 bel lt0) (trodAll_cons_mk (Below.trod laidOut (by kernel_rfl) (of_decide_eq_true (by kernel_rfl)) k1 bel lt1) trodAll_mk0)), rfl, bel.frame _, fun h => by cases h⟩

theorem trackOrder_over : Rows.trackOrderRow.holds Try.pinned (OpenSpec.ofChange Rows.trackOrderSpec) :=
  OpenClaim.holds_of_wide 8 Try.f8 rfl rfl rfl rfl rfl rfl rfl ⟨rfl, rfl, rfl, rfl, rfl⟩ rfl rfl rfl rfl rfl (by kernel_rfl) Try.func8 (by kernel_rfl)
    (of_decide_eq_true (by kernel_rfl)) (by unfold Func.isWrapper; first | (rw [if_pos (by decide +kernel)]; kernel_rfl) | (rw [if_neg (by decide +kernel)]; exact ⟨rfl, rfl⟩))
    (fun os started H enc _ => trackOrder_lifted os started H enc)

theorem trackOrder_holds : Rows.TrackOrderSaid := trackOrder_over
#print axioms trackOrder_holds

end Go.Proofs.Ytkeeekifejholaa
