/- caddislaw14.TrackOnce answers true, whatever units and marks it is handed: each unit is marked at most once; when none is pending each went. No condition beyond the row's own. -/
import Derived.Test.YtkeeekifejholaaMapV
import Derived.Test.YtkeeekifejholaaTrackInv
import Derived.IntWalk
import Derived.Deep.CutBlock
namespace Go.Proofs.Ytkeeekifejholaa
open Go.RowKit

attribute [local go_sem] ByteArray.extract_mk ba_get
attribute [local go_sem ↓] Go.wp_at_zero Go.wp_at_succ run_eql_V run_neq_V run_nil_V

theorem unitsL_small (u : List V) : (unitsL u).length ≤ 201 := by simp only [unitsL, List.length_map, List.length_take]; omega
/-- The state of the law's loops: the track at block n, the map at n + 1. -/
def RO (n : Nat) (W : World) (U : List V) (T : List UInt8) (l : List V) (w : World) : Prop := Inv U T l ∧ TX n n U T w ∧ MV w (n + 1) l ∧ Below n W w ∧ n + 2 ≤ w.heap.size
theorem RO.below {n : Nat} {W w w' : World} {U : List V} {T : List UInt8} {l : List V} (h : RO n W U T l w) (hb : Below w.heap.size w w') : RO n W U T l w' := by
  obtain ⟨h1, h2, h3, h4, h5⟩ := h
  exact ⟨h1, h2.below hb, h3.below hb h3.lt, h4.trans (hb.mono (by omega)), Nat.le_trans h5 hb.size⟩

set_option maxRecDepth 100000 in
set_option maxHeartbeats 4000000 in
theorem trackOnce_walk (A B : Option Addr) (c d : Nat) (l : List V) (ks : List Nat) (w : World) (hl : l.length ≤ maxLen) (hks : ks.length ≤ maxLen) (hkb : ∀ n ∈ ks, n ≤ 65535) (hA : VS w w.heap.size A l) (hB : NS w w.heap.size B ks) :
    Calls Try.prog 9 #[.slice A l.length c, .slice B ks.length d] w (Ret (.bool true) w) := by
  have hlm := hks
  unfold maxLen at hlm
  have HKB := Lib.hid hkb
  clear hkb
  have hmm := @run_makeMap Try.prog
  go_enter Try.func9, Try.ntmps9
  go_wp2_with fail
  refine (units_any A c l w hl hA).mono ?_
  rintro e w1 ⟨A1, c1, rfl, hc1, hm1, hv1, hb1⟩
  have hU := unitsL_small l
  generalize unitsL l = U at *
  have hU' : U.length ≤ 1000000 := by omega
  go_wp2_with fail
  refine (new_any A1 c1 U w1 hU' (hv1.vs (Nat.le_refl _))).mono ?_
  have hbw1s := hb1.size
  cases hr : risesB U
  · have e : newF U = (([], []), 1) := by simp [newF, hr]
    rw [e]
    rintro e w2 ⟨A2, c2, B2, d2, rfl, hv2, hs2, hb2⟩
    clear e hr
    have hz2 := hb2.size
    go_wp2_with fail
    refine (awake14_any _).mono ?_
    rintro e w3 ⟨rfl, hb3⟩
    go_wp2
    go_ret
    exact ⟨rfl, by ((repeat' (first | with_reducible exact Below.refl _ _ | with_reducible assumption | with_reducible refine Below.drew ?_ | with_reducible refine below_drewN ?_ _ | with_reducible refine Below.setCell ?_ ?_ _ | with_reducible refine Below.alloc ?_ ?_ _ | with_reducible refine Below.trans ?_ (Below.mono (by assumption) ?_))) <;> (first | (simp; done) | (simp; omega) | omega))⟩
  · have e : newF U = ((U, List.replicate ((U.length + 7) / 8) 0), 0) := by simp [newF, hr]
    have hin := Inv.new hr
    rw [e]
    generalize List.replicate ((U.length + 7) / 8) (0 : UInt8) = T0 at *
    clear e hr
    rintro e w2 ⟨A2, c2, B2, d2, rfl, hv2, hs2, hb2⟩
    have hTl := chk_len hin.1
    have hT0 : T0.length ≤ 1000000 := by omega
    have HIN := Lib.hid hin
    clear hin hTl
    have hz2 := hb2.size
    have hbw2 : Below w.heap.size w w2 := by ((repeat' (first | with_reducible exact Below.refl _ _ | with_reducible assumption | with_reducible refine Below.drew ?_ | with_reducible refine below_drewN ?_ _ | with_reducible refine Below.setCell ?_ ?_ _ | with_reducible refine Below.alloc ?_ ?_ _ | with_reducible refine Below.trans ?_ (Below.mono (by assumption) ?_))) <;> (first | (simp; done) | (simp; omega) | omega))
    have hnw : NS w2 w2.heap.size B ks := (hB.below hbw2).more hbw2.size
    obtain ⟨W, hW⟩ : ∃ W, (w2.alloc (.cells #[.slice A2 U.length c2, .slice B2 T0.length d2] 47)).alloc (.map #[] 0) = W := ⟨_, rfl⟩
    have hbW : Below w2.heap.size w2 W := by rw [← hW]; ((repeat' (first | with_reducible exact Below.refl _ _ | with_reducible assumption | with_reducible refine Below.drew ?_ | with_reducible refine below_drewN ?_ _ | with_reducible refine Below.setCell ?_ ?_ _ | with_reducible refine Below.alloc ?_ ?_ _ | with_reducible refine Below.trans ?_ (Below.mono (by assumption) ?_))) <;> (first | (simp; done) | (simp; omega) | omega))
    have hkW : Blk W w2.heap.size 47 #[.slice A2 U.length c2, .slice B2 T0.length d2] := by rw [← hW]; ((repeat' (first | with_reducible assumption | with_reducible refine Blk.drew ?_ | with_reducible refine Blk.drewN ?_ _ | with_reducible refine Blk.set3 ?_ _ _ _ | with_reducible refine Blk.far ?_ ?_ _ | ((with_reducible refine Blk.new' _ _ _ _ ?_) <;> (first | (simp; done) | (simp; omega) | omega) <;> done) | with_reducible refine Blk.alloc ?_ _ | with_reducible refine Blk3.drew ?_ | with_reducible refine Blk3.drewN ?_ _ | ((with_reducible refine Blk3.new' _ _ _ _ _ _ ?_) <;> (first | (simp; done) | (simp; omega) | omega) <;> done) | with_reducible refine Blk3.alloc ?_ _ | with_reducible refine Blk3.far ?_ ?_ _ | with_reducible refine Blk3.below ?_ (by assumption) ?_ | with_reducible refine Blk.below ?_ (by assumption) ?_)) <;> (first | (simp; done) | (simp; omega) | omega))
    have hmW : MV W (w2.heap.size + 1) [] := by
      have := MV.new (w2.alloc (.cells #[.slice A2 U.length c2, .slice B2 T0.length d2] 47))
      rw [hW] at this
      simpa using this
    have hsW : w2.heap.size + 2 ≤ W.heap.size := by rw [← hW]; simp
    have hro : RO w2.heap.size w2 U T0 [] W := ⟨HIN.out, TX.of A2 B2 c2 d2 hkW (VX.low (((hv2.vs (Nat.le_refl _)).below hbW)) hbW.size) (BX.low (((hs2.bs (Nat.le_refl _)).below hbW)) hbW.size), hmW, hbW, hsW⟩
    have HW := Lib.hid hW
    clear hW hv1 hv2 hs2 hb2 hb1 hA hB hkW hmW hbW hsW HIN hT0 hbw1s hz2
    obtain ⟨n, hn⟩ : ∃ n, n = w2.heap.size := ⟨_, rfl⟩
    rw [← hn] at hro hnw
    go_upto_block 0 with fail
    rw [HW.out, ← hn]
    have hwn : w.heap.size ≤ n := by rw [hn]; exact hbw2.size
    clear HW hn hmm
    go_cut [8, 9, 10, 11] from 32 to 99 (fun _ _ _ _ wx => ∃ T l, RO n w2 U T l wx)
    case first =>
      go_wp2_with fail
      go_loopw [8] (fun i wr => ∃ (j : Nat) (T : List UInt8) (l : List V), j ≤ ks.length ∧ j ≤ 250 ∧ i = .int .i64 j ∧ RO n w2 U T l wr) (fun i _ => ks.length - (intOf i).toNat)
      case atStart => exact ⟨0, T0, [], by omega, by omega, rfl, hro⟩
      case round =>
        obtain ⟨j, T, L, hj1, hj2, rfl, hR⟩ := hrel
        have hR0 := hR
        obtain ⟨hI, hX, hM, hbr, hnr⟩ := hR
        obtain ⟨A7, c7, B7, d7, k7, v7, s7⟩ := hX
        obtain ⟨⟨y0, y1⟩, f0, f1⟩ := k7.two
        have l7 := k7.lt
        by_cases hlt : j < ks.length ∧ j < 250
        · obtain ⟨hlt, h250⟩ := hlt
          by_cases hpos : 0 < U.length
          · obtain ⟨x, hx⟩ : ∃ x, ks[j]? = some x := ⟨_, List.getElem?_eq_getElem hlt⟩
            have hxb := HKB.out x (List.mem_of_getElem? hx)
            have hkl : x % U.length < U.length := Nat.mod_lt _ hpos
            have r2 := hnw.below hbr
            have hlT := chk_len hI.1
            have hTm : T.length ≤ 1000000 := by omega
            obtain ⟨k, hk⟩ : ∃ k, x % U.length = k := ⟨_, rfl⟩
            have i5 : Int.tmod (x : Int) (U.length : Int) = (k : Int) := by rw [Int.tmod_eq_emod_of_nonneg (by omega), ← hk]; exact (Int.natCast_emod _ _).symm
            have i7 : (x : Int) % (U.length : Int) = (k : Int) := by rw [← hk]; exact (Int.natCast_emod _ _).symm
            have i8 : IntKind.i64.wrap (x : Int) = (x : Int) := IntWalk.i64_in _ (by omega)
            rw [hk] at hkl
            clear hk
            have hk8 : k / 8 < T.length := by omega
            obtain ⟨b, off, rfl, hbb, cj⟩ := r2.at_ hlt
            obtain ⟨b2, off2, v, rfl, hbb2, hv, e0, e1, e2⟩ := v7.at_ hkl
            have hmk := mark_at hI.1 hv
            rw [List.getElem?_eq_getElem hlt] at hx
            have hx' := Option.some.inj hx
            rw [hx'] at cj
            have lb : b < wr.heap.size := by omega
            have i1 : (0 : Int) ≤ (j : Int) := by omega
            have i2 : (j : Int) < (ks.length : Int) := by omega
            have i3 : (0 : Int) ≤ (k : Int) := by omega
            have i4 : (k : Int) < (U.length : Int) := by omega
            have i6 : ¬ (U = []) := by intro e; rw [e] at hpos; exact absurd hpos (by simp)
            have HMK := Lib.hid hmk
            have HI := Lib.hid hI
            have HK8 := Lib.hid hk8
            have HV := Lib.hid hv
            clear hmk hlT hx hx' hv hxb hk8 hI
            obtain ⟨Wr, rfl⟩ : ∃ Wr, Wr = wr := ⟨_, rfl⟩
            have hsh : ∀ w', Below Wr.heap.size Wr w' → (w'.cell? ⟨n, 0, none⟩ = some (.slice (some ⟨b2, off2, none⟩) U.length c7) ∧ w'.cell? ⟨n, 1, none⟩ = some (.slice B7 T.length d7) ∧ w'.cell? ⟨b, off + j, none⟩ = some (.int .u16 (x : Int)) ∧ w'.cell? ⟨b2, off2 + k * 3, none⟩ = some (.int .i64 v.k) ∧ w'.cell? ⟨b2, off2 + k * 3 + 1, none⟩ = some (.int .i64 v.i) ∧ w'.cell? ⟨b2, off2 + k * 3 + 2, none⟩ = some (.string ⟨v.s.toArray⟩)) :=
              fun w' h => ⟨(h.cell l7).trans y0, (h.cell l7).trans y1, (h.cell lb).trans cj, (h.cell hbb2).trans e0, (h.cell hbb2).trans e1, (h.cell hbb2).trans e2⟩
            have HSH := Lib.hid hsh
            clear hsh cj e0 e1 e2
            go_upto_region 8 with fail
            clear y0 y1
            go_cut [9] (fun s9 wx => ∃ g9, s9 = .pointer (some ⟨g9, 0, none⟩) ∧ Wr.heap.size ≤ g9 ∧ Blk wx g9 31 #[.int .i64 (v).k, .int .i64 (v).i, .string ⟨(v).s.toArray⟩] ∧ Below Wr.heap.size Wr wx)
            case first =>
              refine wp_region_held_drew (S := (fun w' => w'.cell? ⟨n, 0, none⟩ = some (.slice (some ⟨b2, off2, none⟩) U.length c7) ∧ w'.cell? ⟨n, 1, none⟩ = some (.slice B7 T.length d7) ∧ w'.cell? ⟨b, off + j, none⟩ = some (.int .u16 (x : Int)) ∧ w'.cell? ⟨b2, off2 + k * 3, none⟩ = some (.int .i64 v.k) ∧ w'.cell? ⟨b2, off2 + k * 3 + 1, none⟩ = some (.int .i64 v.i) ∧ w'.cell? ⟨b2, off2 + k * 3 + 2, none⟩ = some (.string ⟨v.s.toArray⟩))) (by kernel_rfl) ?_ (fun hHeld => ?_)
              · try dsimp only
                exact HSH.out _ (by ((repeat' (first | with_reducible exact Below.refl _ _ | with_reducible assumption | with_reducible refine Below.drew ?_ | with_reducible refine below_drewN ?_ _ | with_reducible refine Below.setCell ?_ ?_ _ | with_reducible refine Below.alloc ?_ ?_ _ | with_reducible refine Below.trans ?_ (Below.mono (by assumption) ?_))) <;> (first | (simp; done) | (simp; omega) | omega)))
              refine wpAnyH_take (i := 0) (v := ?_) rfl (by kernel_rfl) (by kernel_rfl) (by kernel_rfl) (fun _ _ _ h => h) (Or.inl ⟨by rfl, ?_⟩) (by assumption) ?_
              rotate_left
              · intro wq hSw
                try dsimp only at hSw
                go_simp
                try with_reducible rfl
              try simp only [Act.put, List.getElem_toArray, List.getElem_cons_zero, List.setIfInBounds_toArray, List.set_cons_zero, List.set_cons_succ]
              refine wpAnyH_take (i := 1) (v := ?_) rfl (by kernel_rfl) (by kernel_rfl) (by kernel_rfl) (fun _ _ _ h => h) (Or.inl ⟨by rfl, ?_⟩) (by assumption) ?_
              rotate_left
              · intro wq hSw
                try dsimp only at hSw
                go_simp
                try with_reducible rfl
              try simp only [Act.put, List.getElem_toArray, List.getElem_cons_zero, List.getElem_cons_succ, List.setIfInBounds_toArray, List.set_cons_zero, List.set_cons_succ]
              refine wpAnyH_take (i := 2) (v := ?_) rfl (by kernel_rfl) (by kernel_rfl) (by kernel_rfl) (fun _ _ _ h => h) (Or.inl ⟨by rfl, ?_⟩) (by assumption) ?_
              rotate_left
              · intro wq hSw
                try dsimp only at hSw
                go_simp
                try with_reducible rfl
              try simp only [Act.put, List.getElem_toArray, List.getElem_cons_zero, List.getElem_cons_succ, List.setIfInBounds_toArray, List.set_cons_zero, List.set_cons_succ]
              refine wpAnyH_take (i := 3) (v := ?_) rfl (by kernel_rfl) (by kernel_rfl) (by kernel_rfl) (fun _ _ _ h => h) (Or.inl ⟨by rfl, ?_⟩) (by assumption) ?_
              rotate_left
              · intro wq hSw
                try dsimp only at hSw
                go_simp
                try with_reducible rfl
              try simp only [Act.put, List.getElem_toArray, List.getElem_cons_zero, List.getElem_cons_succ, List.setIfInBounds_toArray, List.set_cons_zero, List.set_cons_succ]
              refine wpAnyH_take (i := 4) (v := ?_) rfl (by kernel_rfl) (by kernel_rfl) (by kernel_rfl) (fun _ _ _ h => h) (Or.inl ⟨by rfl, ?_⟩) (by assumption) ?_
              rotate_left
              · intro wq hSw
                try dsimp only at hSw
                go_simp
                try with_reducible rfl
              try simp only [Act.put, List.getElem_toArray, List.getElem_cons_zero, List.getElem_cons_succ, List.setIfInBounds_toArray, List.set_cons_zero, List.set_cons_succ]
              refine wpAnyH_take (i := 5) (v := ?_) rfl (by kernel_rfl) (by kernel_rfl) (by kernel_rfl) (fun _ _ _ h => h) (Or.inl ⟨by rfl, ?_⟩) (by assumption) ?_
              rotate_left
              · intro wq hSw
                try dsimp only at hSw
                go_simp
                try with_reducible rfl
              try simp only [Act.put, List.getElem_toArray, List.getElem_cons_zero, List.getElem_cons_succ, List.setIfInBounds_toArray, List.set_cons_zero, List.set_cons_succ]
              refine wpAnyH_take (i := 6) (v := ?_) rfl (by kernel_rfl) (by kernel_rfl) (by kernel_rfl) (fun _ _ _ h => h) (Or.inl ⟨by rfl, ?_⟩) (by assumption) ?_
              rotate_left
              · intro wq hSw
                try dsimp only at hSw
                go_simp
                try with_reducible rfl
              try simp only [Act.put, List.getElem_toArray, List.getElem_cons_zero, List.getElem_cons_succ, List.setIfInBounds_toArray, List.set_cons_zero, List.set_cons_succ]
              refine wpAnyH_take (i := 7) (v := ?_) rfl (by kernel_rfl) (by kernel_rfl) (by kernel_rfl) (fun _ _ _ h => h) (Or.inl ⟨by rfl, ?_⟩) (by assumption) ?_
              rotate_left
              · intro wq hSw
                try dsimp only at hSw
                go_simp
                try with_reducible rfl
              try simp only [Act.put, List.getElem_toArray, List.getElem_cons_zero, List.getElem_cons_succ, List.setIfInBounds_toArray, List.set_cons_zero, List.set_cons_succ]
              refine wpAnyH_take (i := 8) (v := ?_) rfl (by kernel_rfl) (by kernel_rfl) (by kernel_rfl) (fun _ _ _ h => h) (Or.inl ⟨by rfl, ?_⟩) (by assumption) ?_
              rotate_left
              · intro wq hSw
                try dsimp only at hSw
                go_simp
                try with_reducible rfl
              try simp only [Act.put, List.getElem_toArray, List.getElem_cons_zero, List.getElem_cons_succ, List.setIfInBounds_toArray, List.set_cons_zero, List.set_cons_succ]
              refine wpAnyH_take (i := 9) (v := ?_) rfl (by kernel_rfl) (by kernel_rfl) (by kernel_rfl) (fun _ _ _ h => h) (Or.inl ⟨by rfl, ?_⟩) (by assumption) ?_
              rotate_left
              · intro wq hSw
                try dsimp only at hSw
                go_simp
                try with_reducible rfl
              try simp only [Act.put, List.getElem_toArray, List.getElem_cons_zero, List.getElem_cons_succ, List.setIfInBounds_toArray, List.set_cons_zero, List.set_cons_succ]
              refine wpAnyH_take (i := 10) (v := ?_) rfl (by kernel_rfl) (by kernel_rfl) (by kernel_rfl) (fun _ _ _ h => h) (Or.inl ⟨by rfl, ?_⟩) (by assumption) ?_
              rotate_left
              · intro wq hSw
                try dsimp only at hSw
                go_simp
                try with_reducible rfl
              try simp only [Act.put, List.getElem_toArray, List.getElem_cons_zero, List.getElem_cons_succ, List.setIfInBounds_toArray, List.set_cons_zero, List.set_cons_succ]
              refine wpAnyH_take (i := 11) (v := ?_) rfl (by kernel_rfl) (by kernel_rfl) (by kernel_rfl) (fun _ _ _ h => h) (Or.inl ⟨by rfl, ?_⟩) (by assumption) ?_
              rotate_left
              · intro wq hSw
                try dsimp only at hSw
                go_simp
                try with_reducible rfl
              try simp only [Act.put, List.getElem_toArray, List.getElem_cons_zero, List.getElem_cons_succ, List.setIfInBounds_toArray, List.set_cons_zero, List.set_cons_succ]
              refine wpAnyH_take (i := 12) (v := ?_) rfl (by kernel_rfl) (by kernel_rfl) (by kernel_rfl) (fun _ _ _ h => h) (Or.inl ⟨by rfl, ?_⟩) (by assumption) ?_
              rotate_left
              · intro wq hSw
                try dsimp only at hSw
                go_simp
                try with_reducible rfl
              try simp only [Act.put, List.getElem_toArray, List.getElem_cons_zero, List.getElem_cons_succ, List.setIfInBounds_toArray, List.set_cons_zero, List.set_cons_succ]
              refine wpAnyH_ready (rs := [13]) (by kernel_rfl) (by simp) ?_
              refine AllReadyH.cons rfl (fun K hK => ?_) AllReadyH.nil
              go_simp
              skip
              go_wp2_with fail
              refine hK.out _ _ ?_ (fun hHeld => ?_)
              · try dsimp only
                exact HSH.out _ (by ((repeat' (first | with_reducible exact Below.refl _ _ | with_reducible assumption | with_reducible refine Below.drew ?_ | with_reducible refine below_drewN ?_ _ | with_reducible refine Below.setCell ?_ ?_ _ | with_reducible refine Below.alloc ?_ ?_ _ | with_reducible refine Below.trans ?_ (Below.mono (by assumption) ?_))) <;> (first | (simp; done) | (simp; omega) | omega)))
              clear hK K
              try simp only [Act.put, List.getElem_toArray, List.getElem_cons_zero, List.getElem_cons_succ, List.setIfInBounds_toArray, List.set_cons_zero, List.set_cons_succ]
              refine wpAnyH_ready (rs := [14]) (by kernel_rfl) (by simp) ?_
              refine AllReadyH.cons rfl (fun K hK => ?_) AllReadyH.nil
              go_simp
              skip
              go_wp2_with fail
              refine hK.out _ _ ?_ (fun hHeld => ?_)
              · try dsimp only
                exact HSH.out _ (by ((repeat' (first | with_reducible exact Below.refl _ _ | with_reducible assumption | with_reducible refine Below.drew ?_ | with_reducible refine below_drewN ?_ _ | with_reducible refine Below.setCell ?_ ?_ _ | with_reducible refine Below.alloc ?_ ?_ _ | with_reducible refine Below.trans ?_ (Below.mono (by assumption) ?_))) <;> (first | (simp; done) | (simp; omega) | omega)))
              clear hK K
              try simp only [Act.put, List.getElem_toArray, List.getElem_cons_zero, List.getElem_cons_succ, List.setIfInBounds_toArray, List.set_cons_zero, List.set_cons_succ]
              refine wpAnyH_done (by kernel_rfl) ?_ _
              go_wp2_with fail
              go_meet
              exact ⟨_, rfl, Nat.le_refl _, by ((repeat' (first | with_reducible assumption | with_reducible refine Blk.drew ?_ | with_reducible refine Blk.drewN ?_ _ | with_reducible refine Blk.set3 ?_ _ _ _ | with_reducible refine Blk.far ?_ ?_ _ | ((with_reducible refine Blk.new' _ _ _ _ ?_) <;> (first | (simp; done) | (simp; omega) | omega) <;> done) | with_reducible refine Blk.alloc ?_ _ | with_reducible refine Blk3.drew ?_ | with_reducible refine Blk3.drewN ?_ _ | ((with_reducible refine Blk3.new' _ _ _ _ _ _ ?_) <;> (first | (simp; done) | (simp; omega) | omega) <;> done) | with_reducible refine Blk3.alloc ?_ _ | with_reducible refine Blk3.far ?_ ?_ _ | with_reducible refine Blk3.below ?_ (by assumption) ?_ | with_reducible refine Blk.below ?_ (by assumption) ?_)) <;> (first | (simp; done) | (simp; omega) | omega)), by ((repeat' (first | with_reducible exact Below.refl _ _ | with_reducible assumption | with_reducible refine Below.drew ?_ | with_reducible refine below_drewN ?_ _ | with_reducible refine Below.setCell ?_ ?_ _ | with_reducible refine Below.alloc ?_ ?_ _ | with_reducible refine Below.trans ?_ (Below.mono (by assumption) ?_))) <;> (first | (simp; done) | (simp; omega) | omega))⟩
            case rest =>
              obtain ⟨g9, rfl, hg9, hk9, hb9⟩ := hcut
              obtain ⟨y0, y1, _⟩ := HSH.out wc hb9
              obtain ⟨⟨x0, x1, x2⟩, _⟩ := hk9.three
              have kn9 := k7.below hb9 l7
              have hM9 := hM.below hb9 hM.lt
              have ln9 := kn9.lt
              have lg9 := hk9.lt
              clear HSH
              obtain ⟨M, hMe⟩ : ∃ M, markF U T v = M := ⟨_, rfl⟩
              rw [hMe] at HMK
              have HMA := Lib.hid hMe
              clear hMe
              go_wp2_with fail
              refine (mark_any (some ⟨b2, off2, none⟩) B7 c7 d7 U T v wc hU' hTm (v7.below hb9).vs (s7.below hb9).bs).mono ?_
              rw [HMA.out]
              rintro e w8 ⟨A8, c8, B8, d8, rfl, hv8, hs8, hb8⟩
              obtain ⟨W9, hW9⟩ : ∃ W9, w8.alloc (.cells #[.slice A8 M.1.1.length c8, .slice B8 M.1.2.length d8] 47) = W9 := ⟨_, rfl⟩
              have hb89 : Below w8.heap.size w8 W9 := by rw [← hW9]; ((repeat' (first | with_reducible exact Below.refl _ _ | with_reducible assumption | with_reducible refine Below.drew ?_ | with_reducible refine below_drewN ?_ _ | with_reducible refine Below.setCell ?_ ?_ _ | with_reducible refine Below.alloc ?_ ?_ _ | with_reducible refine Below.trans ?_ (Below.mono (by assumption) ?_))) <;> (first | (simp; done) | (simp; omega) | omega))
              have hkt : Blk W9 w8.heap.size 47 #[.slice A8 M.1.1.length c8, .slice B8 M.1.2.length d8] := by rw [← hW9]; exact Blk.new _ _ _
              have hz8 := hb8.size
              have hbc9 : Below wc.heap.size wc W9 := hb8.trans (hb89.mono hz8)
              have kn := kn9.below hbc9 ln9
              have kg := hk9.below hbc9 lg9
              have hMW := hM9.below hbc9 hM9.lt
              have hvx : VX W9 n A8 M.1.1 := VX.high (hv8.below hb89 (Nat.le_refl _)) (by omega) hb89.size
              have hbx : BX W9 n B8 M.1.2 := BX.high (hs8.below hb89 (Nat.le_refl _)) (by omega) hb89.size
              have hz9 := hb9.size
              have hz8n : n + 2 ≤ w8.heap.size := by omega
              have hRW : RO n w2 U T L W9 := hR0.below (hb9.trans (hbc9.mono hb9.size))
              have HW9 := Lib.hid hW9
              clear hW9 x0 x1 x2 y0 y1
              go_upto_if 68 with fail
              rw [HW9.out]
              clear HW9 hv8 hs8 hb8 hb89 hz8 hbc9 HMA
              go_cut [] from 67 to 83 (fun wx => ∃ T' L', RO n w2 U T' L' wx ∧ Blk wx g9 31 #[.int .i64 (v).k, .int .i64 (v).i, .string ⟨(v).s.toArray⟩] ∧ Hid (L'.any (fun x => veq v x) = true))
              case first =>
                obtain ⟨⟨p0, p1⟩, pf0, pf1⟩ := kn.two
                obtain ⟨⟨q0, q1, q2⟩, _⟩ := kg.three
                obtain ⟨⟨t0, t1⟩, _⟩ := hkt.two
                cases hbit : bitB T k
                · have hmk : M = ((U, setBit T k), 0) := by rw [HMK.out, hbit]; rfl
                  subst hmk
                  dsimp only at hkt hvx hbx t0 t1 ⊢
                  have hany : L.any (fun x => veq v x) = false := by rw [HI.out.2.1 k v HV.out, hbit]
                  have hstep := HI.out.step HV.out hbit
                  have HST := Lib.hid hstep
                  have HAN := Lib.hid hany
                  clear hany hstep hbit HMK
                  obtain ⟨w1', w2', hE, hS, hL1, hg1, hg2, hM2⟩ := hMW.drew.enter v HAN.out
                  have hL0 := hMW.drew.look v
                  rw [HAN.out] at hL0
                  simp only [Bool.false_eq_true, if_false] at hL0
                  have kn2 := kn.drew.grown hg2 (fun e => by have := Option.some.inj e; omega)
                  have kg2 := kg.drew.grown hg2 (fun e => by have := Option.some.inj e; omega)
                  have kt2 := hkt.drew.grown hg2 (fun e => by have := Option.some.inj e; omega)
                  have vx2 := VX.grown (w := W9.drew) hvx hg2 ⟨by omega, by omega⟩
                  have bx2 := BX.grown (w := W9.drew) hbx hg2 ⟨by omega, by omega⟩
                  have hbn : Below n w2 w2' := (hRW.2.2.2.1.drew).grown hg2 (by have := hRW.2.2.2.2; exact Nat.le_trans (by omega) this) (fun k hk => by cases hk; omega)
                  have hsz : n + 2 ≤ w2'.heap.size := Nat.le_trans hRW.2.2.2.2 hg2.size
                  go_upto_region 11 with fail
                  go_region
                  clear p0 p1 pf0 pf1 q0 q1 q2 t0 t1 hE hS hL1 hL0
                  obtain ⟨⟨p0, p1⟩, pf0, pf1⟩ := kn2.two
                  obtain ⟨⟨t0, t1⟩, _⟩ := kt2.two
                  go_wp2_with fail
                  go_meet
                  refine ⟨setBit T k, L ++ [v], ⟨HST.out, TX.put kn2 vx2 bx2 ⟨by omega, by omega⟩, (hM2.far (by simp) _).far (by simp) _, by ((repeat' (first | with_reducible exact Below.refl _ _ | with_reducible assumption | with_reducible refine Below.drew ?_ | with_reducible refine below_drewN ?_ _ | with_reducible refine Below.setCell ?_ ?_ _ | with_reducible refine Below.alloc ?_ ?_ _ | with_reducible refine Below.trans ?_ (Below.mono (by assumption) ?_))) <;> (first | (simp; done) | (simp; omega) | omega)), by simpa using hsz⟩, (kg2.far (by show g9 ≠ n; omega) _).far (by show g9 ≠ n; omega) _, ?_⟩
                  show (L ++ [v]).any _ = true
                  simp [veq]
                · have hmk : M = (([], []), 7) := by rw [HMK.out, hbit]; rfl
                  subst hmk
                  dsimp only at hkt hvx hbx t0 t1 ⊢
                  have hany : L.any (fun x => veq v x) = true := by rw [HI.out.2.1 k v HV.out, hbit]
                  have HAN := Lib.hid hany
                  clear hany hbit HMK
                  have hL0 := hMW.look v
                  rw [HAN.out] at hL0
                  simp only [if_true] at hL0
                  go_wp2_with fail
                  go_meet
                  exact ⟨T, L, hRW, kg, HAN⟩
              case rest =>
                obtain ⟨T', L', hR', kg', HAN⟩ := hcut
                have hRk := hR'
                obtain ⟨hI', hX', hM', hbr', hnr'⟩ := hR'
                obtain ⟨A9, c9, B9, d9, k9, v9, s9⟩ := hX'
                have hlT' := chk_len hI'.1
                have hTm' : T'.length ≤ 1000000 := by omega
                have hpl := hI'.2.2
                have i9 : IntKind.i64.wrap (((pendF U T').length : Int) + (L'.length : Int)) = (U.length : Int) := by rw [IntWalk.i64_in _ (by omega)]; omega
                have l9 := k9.lt
                have lg := kg'.lt
                obtain ⟨W5, rfl⟩ : ∃ W5, W5 = wc := ⟨_, rfl⟩
                have hsh : ∀ w', Below W5.heap.size W5 w' → ((w'.cell? ⟨n, 0, none⟩ = some (.slice A9 U.length c9) ∧ w'.cell? ⟨n, 1, none⟩ = some (.slice B9 T'.length d9)) ∧ (w'.cell? ⟨g9, 0, none⟩ = some (.int .i64 (v).k) ∧ w'.cell? ⟨g9, 1, none⟩ = some (.int .i64 (v).i) ∧ w'.cell? ⟨g9, 2, none⟩ = some (.string ⟨(v).s.toArray⟩)) ∧ (Instr.lookup 57 (.map (some (n + 1))) (.agg #[.int .i64 (v).k, .int .i64 (v).i, .string ⟨(v).s.toArray⟩]) false).run Try.prog w' = .ok (.int .i64 1) w' ∧ (∀ ty, (Builtin.len_ #[57] ty #[.map (some (n + 1))]).run Try.prog w' = .ok (.int .i64 (L'.length : Int)) w')) :=
                  fun w' h => ⟨(k9.below h l9).two.1, (kg'.below h lg).three.1, by have := (hM'.below h hM'.lt).look v; rw [HAN.out] at this; simpa using this, fun ty => (hM'.below h hM'.lt).len ty⟩
                have HS5 := Lib.hid hsh
                clear hsh hpl hlT' hI' hM' hbr' hRW hR0 kg hMW kn hkt hvx hbx hk9 hb9 hM9 kn9 HMK HI HV HK8 i5 i7 i8
                go_wp2_with fail
                refine wp_region_held_drew (S := (fun w' => (w'.cell? ⟨n, 0, none⟩ = some (.slice A9 U.length c9) ∧ w'.cell? ⟨n, 1, none⟩ = some (.slice B9 T'.length d9)) ∧ (w'.cell? ⟨g9, 0, none⟩ = some (.int .i64 (v).k) ∧ w'.cell? ⟨g9, 1, none⟩ = some (.int .i64 (v).i) ∧ w'.cell? ⟨g9, 2, none⟩ = some (.string ⟨(v).s.toArray⟩)) ∧ (Instr.lookup 57 (.map (some (n + 1))) (.agg #[.int .i64 (v).k, .int .i64 (v).i, .string ⟨(v).s.toArray⟩]) false).run Try.prog w' = .ok (.int .i64 1) w' ∧ (∀ ty, (Builtin.len_ #[57] ty #[.map (some (n + 1))]).run Try.prog w' = .ok (.int .i64 (L'.length : Int)) w'))) (by kernel_rfl) ?_ (fun hHeld => ?_)
                · try dsimp only
                  exact HS5.out _ (by ((repeat' (first | with_reducible exact Below.refl _ _ | with_reducible assumption | with_reducible refine Below.drew ?_ | with_reducible refine below_drewN ?_ _ | with_reducible refine Below.setCell ?_ ?_ _ | with_reducible refine Below.alloc ?_ ?_ _ | with_reducible refine Below.trans ?_ (Below.mono (by assumption) ?_))) <;> (first | (simp; done) | (simp; omega) | omega)))
                refine wpAnyH_take (i := 0) (v := ?_) rfl (by kernel_rfl) (by kernel_rfl) (by kernel_rfl) (fun _ _ _ h => h) (Or.inl ⟨by rfl, ?_⟩) (by assumption) ?_
                rotate_left
                · intro wq hSw
                  try dsimp only at hSw
                  go_simp
                  try with_reducible rfl
                try simp only [Act.put, List.getElem_toArray, List.getElem_cons_zero, List.setIfInBounds_toArray, List.set_cons_zero, List.set_cons_succ]
                refine wpAnyH_take (i := 1) (v := ?_) rfl (by kernel_rfl) (by kernel_rfl) (by kernel_rfl) (fun _ _ _ h => h) (Or.inl ⟨by rfl, ?_⟩) (by assumption) ?_
                rotate_left
                · intro wq hSw
                  try dsimp only at hSw
                  go_simp
                  try with_reducible rfl
                try simp only [Act.put, List.getElem_toArray, List.getElem_cons_zero, List.getElem_cons_succ, List.setIfInBounds_toArray, List.set_cons_zero, List.set_cons_succ]
                refine wpAnyH_take (i := 2) (v := ?_) rfl (by kernel_rfl) (by kernel_rfl) (by kernel_rfl) (fun _ _ _ h => h) (Or.inl ⟨by rfl, ?_⟩) (by assumption) ?_
                rotate_left
                · intro wq hSw
                  try dsimp only at hSw
                  go_simp
                  try with_reducible rfl
                try simp only [Act.put, List.getElem_toArray, List.getElem_cons_zero, List.getElem_cons_succ, List.setIfInBounds_toArray, List.set_cons_zero, List.set_cons_succ]
                refine wpAnyH_take (i := 3) (v := ?_) rfl (by kernel_rfl) (by kernel_rfl) (by kernel_rfl) (fun _ _ _ h => h) (Or.inl ⟨by rfl, ?_⟩) (by assumption) ?_
                rotate_left
                · intro wq hSw
                  try dsimp only at hSw
                  go_simp
                  try with_reducible rfl
                try simp only [Act.put, List.getElem_toArray, List.getElem_cons_zero, List.getElem_cons_succ, List.setIfInBounds_toArray, List.set_cons_zero, List.set_cons_succ]
                refine wpAnyH_take (i := 4) (v := ?_) rfl (by kernel_rfl) (by kernel_rfl) (by kernel_rfl) (fun _ _ _ h => h) (Or.inl ⟨by rfl, ?_⟩) (by assumption) ?_
                rotate_left
                · intro wq hSw
                  try dsimp only at hSw
                  go_simp
                  try with_reducible rfl
                try simp only [Act.put, List.getElem_toArray, List.getElem_cons_zero, List.getElem_cons_succ, List.setIfInBounds_toArray, List.set_cons_zero, List.set_cons_succ]
                refine wpAnyH_take (i := 5) (v := ?_) rfl (by kernel_rfl) (by kernel_rfl) (by kernel_rfl) (fun _ _ _ h => h) (Or.inl ⟨by rfl, ?_⟩) (by assumption) ?_
                rotate_left
                · intro wq hSw
                  try dsimp only at hSw
                  go_simp
                  try with_reducible rfl
                try simp only [Act.put, List.getElem_toArray, List.getElem_cons_zero, List.getElem_cons_succ, List.setIfInBounds_toArray, List.set_cons_zero, List.set_cons_succ]
                refine wpAnyH_take (i := 8) (v := ?_) rfl (by kernel_rfl) (by kernel_rfl) (by kernel_rfl) (fun _ _ _ h => h) (Or.inl ⟨by rfl, ?_⟩) (by assumption) ?_
                rotate_left
                · intro wq hSw
                  try dsimp only at hSw
                  go_simp
                  try with_reducible rfl
                try simp only [Act.put, List.getElem_toArray, List.getElem_cons_zero, List.getElem_cons_succ, List.setIfInBounds_toArray, List.set_cons_zero, List.set_cons_succ]
                refine wpAnyH_take (i := 11) (v := ?_) rfl (by kernel_rfl) (by kernel_rfl) (by kernel_rfl) (fun _ _ _ h => h) (Or.inl ⟨by rfl, ?_⟩) (by assumption) ?_
                rotate_left
                · intro wq hSw
                  try dsimp only at hSw
                  go_simp
                  try with_reducible rfl
                try simp only [Act.put, List.getElem_toArray, List.getElem_cons_zero, List.getElem_cons_succ, List.setIfInBounds_toArray, List.set_cons_zero, List.set_cons_succ]
                refine wpAnyH_take (i := 12) (v := ?_) rfl (by kernel_rfl) (by kernel_rfl) (by kernel_rfl) (fun _ _ _ h => h) (Or.inl ⟨by rfl, ?_⟩) (by assumption) ?_
                rotate_left
                · intro wq hSw
                  try dsimp only at hSw
                  go_simp
                  try with_reducible rfl
                try simp only [Act.put, List.getElem_toArray, List.getElem_cons_zero, List.getElem_cons_succ, List.setIfInBounds_toArray, List.set_cons_zero, List.set_cons_succ]
                refine wpAnyH_take (i := 13) (v := ?_) rfl (by kernel_rfl) (by kernel_rfl) (by kernel_rfl) (fun _ _ _ h => h) (Or.inl ⟨by rfl, ?_⟩) (by assumption) ?_
                rotate_left
                · intro wq hSw
                  try dsimp only at hSw
                  go_simp
                  try with_reducible rfl
                try simp only [Act.put, List.getElem_toArray, List.getElem_cons_zero, List.getElem_cons_succ, List.setIfInBounds_toArray, List.set_cons_zero, List.set_cons_succ]
                refine wpAnyH_ready (rs := [6]) (by kernel_rfl) (by simp) ?_
                refine AllReadyH.cons rfl (fun K hK => ?_) AllReadyH.nil
                go_simp
                (refine (pending_any A9 B9 c9 d9 U T' _ hU' hTm' (v9.below (by ((repeat' (first | with_reducible exact Below.refl _ _ | with_reducible assumption | with_reducible refine Below.drew ?_ | with_reducible refine below_drewN ?_ _ | with_reducible refine Below.setCell ?_ ?_ _ | with_reducible refine Below.alloc ?_ ?_ _ | with_reducible refine Below.trans ?_ (Below.mono (by assumption) ?_))) <;> (first | (simp; done) | (simp; omega) | omega)))).vs (s9.below (by ((repeat' (first | with_reducible exact Below.refl _ _ | with_reducible assumption | with_reducible refine Below.drew ?_ | with_reducible refine below_drewN ?_ _ | with_reducible refine Below.setCell ?_ ?_ _ | with_reducible refine Below.alloc ?_ ?_ _ | with_reducible refine Below.trans ?_ (Below.mono (by assumption) ?_))) <;> (first | (simp; done) | (simp; omega) | omega)))).bs).mono ?_) <;> rintro e w10 ⟨A10, c10, rfl, hc10, hm10, hv10, hb10⟩ <;> have hz10 := hb10.size <;> (try simp at hz10)
                go_wp2_with fail
                refine hK.out _ _ ?_ (fun hHeld => ?_)
                · try dsimp only
                  exact HS5.out _ (by ((repeat' (first | with_reducible exact Below.refl _ _ | with_reducible assumption | with_reducible refine Below.drew ?_ | with_reducible refine below_drewN ?_ _ | with_reducible refine Below.setCell ?_ ?_ _ | with_reducible refine Below.alloc ?_ ?_ _ | with_reducible refine Below.trans ?_ (Below.mono (by assumption) ?_))) <;> (first | (simp; done) | (simp; omega) | omega)))
                clear hK K
                try simp only [Act.put, List.getElem_toArray, List.getElem_cons_zero, List.getElem_cons_succ, List.setIfInBounds_toArray, List.set_cons_zero, List.set_cons_succ]
                refine wpAnyH_take (i := 7) (v := ?_) rfl (by kernel_rfl) (by kernel_rfl) (by kernel_rfl) (fun _ _ _ h => h) (Or.inl ⟨by rfl, ?_⟩) (by assumption) ?_
                rotate_left
                · intro wq hSw
                  try dsimp only at hSw
                  go_simp
                  try with_reducible rfl
                try simp only [Act.put, List.getElem_toArray, List.getElem_cons_zero, List.getElem_cons_succ, List.setIfInBounds_toArray, List.set_cons_zero, List.set_cons_succ]
                refine wpAnyH_take (i := 9) (v := ?_) rfl (by kernel_rfl) (by kernel_rfl) (by kernel_rfl) (fun _ _ _ h => h) (Or.inl ⟨by rfl, ?_⟩) (by assumption) ?_
                rotate_left
                · intro wq hSw
                  try dsimp only at hSw
                  go_simp
                  try with_reducible rfl
                try simp only [Act.put, List.getElem_toArray, List.getElem_cons_zero, List.getElem_cons_succ, List.setIfInBounds_toArray, List.set_cons_zero, List.set_cons_succ]
                refine wpAnyH_take (i := 10) (v := ?_) rfl (by kernel_rfl) (by kernel_rfl) (by kernel_rfl) (fun _ _ _ h => h) (Or.inl ⟨by rfl, ?_⟩) (by assumption) ?_
                rotate_left
                · intro wq hSw
                  try dsimp only at hSw
                  go_simp
                  try with_reducible rfl
                try simp only [Act.put, List.getElem_toArray, List.getElem_cons_zero, List.getElem_cons_succ, List.setIfInBounds_toArray, List.set_cons_zero, List.set_cons_succ]
                refine wpAnyH_take (i := 14) (v := ?_) rfl (by kernel_rfl) (by kernel_rfl) (by kernel_rfl) (fun _ _ _ h => h) (Or.inl ⟨by rfl, ?_⟩) (by assumption) ?_
                rotate_left
                · intro wq hSw
                  try dsimp only at hSw
                  go_simp
                  try with_reducible rfl
                try simp only [Act.put, List.getElem_toArray, List.getElem_cons_zero, List.getElem_cons_succ, List.setIfInBounds_toArray, List.set_cons_zero, List.set_cons_succ]
                refine wpAnyH_take (i := 15) (v := ?_) rfl (by kernel_rfl) (by kernel_rfl) (by kernel_rfl) (fun _ _ _ h => h) (Or.inl ⟨by rfl, ?_⟩) (by assumption) ?_
                rotate_left
                · intro wq hSw
                  try dsimp only at hSw
                  go_simp
                  try with_reducible rfl
                try simp only [Act.put, List.getElem_toArray, List.getElem_cons_zero, List.getElem_cons_succ, List.setIfInBounds_toArray, List.set_cons_zero, List.set_cons_succ]
                refine wpAnyH_done (by kernel_rfl) ?_ _
                have hbz : Below W5.heap.size W5 w10 := by ((repeat' (first | with_reducible exact Below.refl _ _ | with_reducible assumption | with_reducible refine Below.drew ?_ | with_reducible refine below_drewN ?_ _ | with_reducible refine Below.setCell ?_ ?_ _ | with_reducible refine Below.alloc ?_ ?_ _ | with_reducible refine Below.trans ?_ (Below.mono (by assumption) ?_))) <;> (first | (simp; done) | (simp; omega) | omega))
                go_wp2_with fail
                go_roundw
                case rel => exact ⟨j + 1, T', L', by omega, by omega, by go_num, hRk.below hbz⟩
                case measure => simp [intOf]; omega
          · have h0 : ¬ ((0 : Int) < (U.length : Int)) := by omega
            go_wp2_with fail
            go_meet
            exact ⟨T, L, hR0⟩
        · have hwi : ¬ ((j : Int) < (ks.length : Int)) ∨ (j < ks.length ∧ ¬ (j : Int) < 250) := by omega
          rcases hwi with h | ⟨h, h'⟩
          all_goals
            go_wp2_with fail
            go_meet
            exact ⟨T, L, hR0⟩
    case rest =>
      obtain ⟨T1, L1, hR1⟩ := hcut
      clear hro
      obtain ⟨N, hN⟩ : ∃ N, (pendF U T1).length ≤ N := ⟨_, Nat.le_refl _⟩
      go_wp2_with fail
      go_loopg [] N (fun gk wr => ∃ (T : List UInt8) (L : List V), RO n w2 U T L wr ∧ (pendF U T).length ≤ gk)
      case atStart => exact ⟨T1, L1, hR1, hN⟩
      case round =>
        obtain ⟨T, L, hR, hgk⟩ := hrel
        have hR0 := hR
        obtain ⟨hI, hX, hM, hbr, hnr⟩ := hR
        obtain ⟨A7, c7, B7, d7, k7, v7, s7⟩ := hX
        obtain ⟨⟨y0, y1⟩, f0, f1⟩ := k7.two
        have l7 := k7.lt
        have hlT := chk_len hI.1
        have hTm : T.length ≤ 1000000 := by omega
        have hsum := hI.2.2
        obtain ⟨Wr, rfl⟩ : ∃ Wr, Wr = wr := ⟨_, rfl⟩
        have hnext := next_at hI.1
        have HI := Lib.hid hI
        clear hI hlT
        go_wp2_with fail
        refine (next_any A7 B7 c7 d7 U T Wr hU' hTm v7.vs s7.bs).mono ?_
        rcases hnext with ⟨hp0, hnx⟩ | ⟨k, v, hv, hbit, hnx⟩
        · rw [hnx]
          rintro e w3 ⟨rfl, hb3⟩
          have hz3 := hb3.size
          obtain ⟨W4, hW4⟩ : ∃ W4, w3.alloc (.cells #[.int .i64 (V.zero).k, .int .i64 (V.zero).i, .string ⟨(V.zero).s.toArray⟩] 31) = W4 := ⟨_, rfl⟩
          have hb4 : Below Wr.heap.size Wr W4 := by rw [← hW4]; ((repeat' (first | with_reducible exact Below.refl _ _ | with_reducible assumption | with_reducible refine Below.drew ?_ | with_reducible refine below_drewN ?_ _ | with_reducible refine Below.setCell ?_ ?_ _ | with_reducible refine Below.alloc ?_ ?_ _ | with_reducible refine Below.trans ?_ (Below.mono (by assumption) ?_))) <;> (first | (simp; done) | (simp; omega) | omega))
          have hLen : L.length = U.length := by omega
          have hM4 := hM.below hb4 hM.lt
          have hlen := hM4.len
          rw [hLen] at hlen
          have kn := k7.below hb4 l7
          have HP := Lib.hid hp0
          have HW4 := Lib.hid hW4
          clear hW4 hp0 hnx hsum hLen y0 y1 f0 f1
          obtain ⟨⟨y0, y1⟩, _⟩ := kn.two
          go_upto_region 18 with fail
          rw [show w3.alloc (.cells #[.int .i64 (V.zero).k, .int .i64 (V.zero).i, .string ⟨(V.zero).s.toArray⟩] 31) = W4 from HW4.out]
          clear HW4
          go_wp2_with fail
          refine (pending_any A7 B7 c7 d7 U T W4 hU' hTm (v7.below hb4).vs (s7.below hb4).bs).mono ?_
          rintro e w5 ⟨A5, c5, rfl, hc5, hm5, hv5, hb5⟩
          rw [HP.out]
          go_wp2_with fail
          refine (awake14_any _).mono ?_
          rintro e w6 ⟨rfl, hb6⟩
          go_wp2_with fail
          go_ret
          have b1 : Below w.heap.size w Wr := hbw2.trans (hbr.mono hwn |>.mono (Nat.le_refl _))
          have b2 := b1.trans (hb4.mono b1.size)
          have b3 := b2.trans (hb5.mono b2.size)
          exact ⟨rfl, b3.trans (hb6.mono b3.size)⟩
        · have hmk : markF U T v = ((U, setBit T k), 0) := by rw [mark_at HI.out.1 hv, hbit]; rfl
          have hany : L.any (fun x => veq v x) = false := by rw [HI.out.2.1 k v hv, hbit]
          have hstep := HI.out.step hv hbit
          have hst2 := hstep.2.2
          have hgk' : (pendF U (setBit T k)).length + 1 ≤ gk := by
            simp only [List.length_append, List.length_cons, List.length_nil] at hst2
            omega
          obtain ⟨g', rfl⟩ : ∃ g', gk = g' + 1 := ⟨gk - 1, by omega⟩
          have hgg : (pendF U (setBit T k)).length ≤ g' := by omega
          have HNX := Lib.hid hnx
          have HMA := Lib.hid hmk
          have HST := Lib.hid hstep
          have HAN := Lib.hid hany
          clear hnx hmk hany hstep hst2 hgk' hsum hv hbit
          rw [HNX.out]
          rintro e w3 ⟨rfl, hb3⟩
          have hz3 := hb3.size
          obtain ⟨W4, hW4⟩ : ∃ W4, w3.alloc (.cells #[.int .i64 (v).k, .int .i64 (v).i, .string ⟨(v).s.toArray⟩] 31) = W4 := ⟨_, rfl⟩
          have hb34 : Below w3.heap.size w3 W4 := by rw [← hW4]; ((repeat' (first | with_reducible exact Below.refl _ _ | with_reducible assumption | with_reducible refine Below.drew ?_ | with_reducible refine below_drewN ?_ _ | with_reducible refine Below.setCell ?_ ?_ _ | with_reducible refine Below.alloc ?_ ?_ _ | with_reducible refine Below.trans ?_ (Below.mono (by assumption) ?_))) <;> (first | (simp; done) | (simp; omega) | omega))
          have hb4 : Below Wr.heap.size Wr W4 := by ((repeat' (first | with_reducible exact Below.refl _ _ | with_reducible assumption | with_reducible refine Below.drew ?_ | with_reducible refine below_drewN ?_ _ | with_reducible refine Below.setCell ?_ ?_ _ | with_reducible refine Below.alloc ?_ ?_ _ | with_reducible refine Below.trans ?_ (Below.mono (by assumption) ?_))) <;> (first | (simp; done) | (simp; omega) | omega))
          have kv : Blk W4 w3.heap.size 31 #[.int .i64 (v).k, .int .i64 (v).i, .string ⟨(v).s.toArray⟩] := by rw [← hW4]; exact Blk.new _ _ _
          have kn := k7.below hb4 l7
          have hM4 := hM.below hb4 hM.lt
          have HW4 := Lib.hid hW4
          clear hW4 y0 y1 f0 f1
          obtain ⟨⟨y0, y1⟩, _⟩ := kn.two
          obtain ⟨⟨x0, x1, x2⟩, _⟩ := kv.three
          have ln := kn.lt
          have lv := kv.lt
          go_upto_region 18 with fail
          rw [show w3.alloc (.cells #[.int .i64 (v).k, .int .i64 (v).i, .string ⟨(v).s.toArray⟩] 31) = W4 from HW4.out]
          clear HW4
          go_wp2_with fail
          refine (mark_any A7 B7 c7 d7 U T v W4 hU' hTm (v7.below hb4).vs (s7.below hb4).bs).mono ?_
          rw [HMA.out]
          rintro e w8 ⟨A8, c8, B8, d8, rfl, hv8, hs8, hb8⟩
          obtain ⟨W9, hW9⟩ : ∃ W9, w8.alloc (.cells #[.slice A8 U.length c8, .slice B8 (setBit T k).length d8] 47) = W9 := ⟨_, rfl⟩
          have hb89 : Below w8.heap.size w8 W9 := by rw [← hW9]; ((repeat' (first | with_reducible exact Below.refl _ _ | with_reducible assumption | with_reducible refine Below.drew ?_ | with_reducible refine below_drewN ?_ _ | with_reducible refine Below.setCell ?_ ?_ _ | with_reducible refine Below.alloc ?_ ?_ _ | with_reducible refine Below.trans ?_ (Below.mono (by assumption) ?_))) <;> (first | (simp; done) | (simp; omega) | omega))
          have hkt : Blk W9 w8.heap.size 47 #[.slice A8 U.length c8, .slice B8 (setBit T k).length d8] := by rw [← hW9]; exact Blk.new _ _ _
          have hz8 := hb8.size
          have hz4 := hb4.size
          have hbc9 : Below W4.heap.size W4 W9 := hb8.trans (hb89.mono hz8)
          have kn' := kn.below hbc9 ln
          have kg := kv.below hbc9 lv
          have hMW := hM4.below hbc9 hM4.lt
          have hvx : VX W9 n A8 U := VX.high (hv8.below hb89 (Nat.le_refl _)) (by omega) hb89.size
          have hbx : BX W9 n B8 (setBit T k) := BX.high (hs8.below hb89 (Nat.le_refl _)) (by omega) hb89.size
          have hRW : RO n w2 U T L W9 := hR0.below (hb4.trans (hbc9.mono hb4.size))
          have HW9 := Lib.hid hW9
          clear hW9 x0 x1 x2 y0 y1
          obtain ⟨⟨p0, p1⟩, pf0, pf1⟩ := kn'.two
          obtain ⟨⟨q0, q1, q2⟩, _⟩ := kg.three
          obtain ⟨⟨t0, t1⟩, _⟩ := hkt.two
          obtain ⟨w1', w2', hE, hS, hL1, hg1, hg2, hM2⟩ := hMW.drew.enter v HAN.out
          have hL0 := hMW.drew.look v
          have hL00 := hMW.look v
          rw [HAN.out] at hL0 hL00
          simp only [Bool.false_eq_true, if_false] at hL0 hL00
          have kn2 := kn'.drew.grown hg2 (fun e => by have := Option.some.inj e; omega)
          have kt2 := hkt.drew.grown hg2 (fun e => by have := Option.some.inj e; omega)
          have vx2 := VX.grown (w := W9.drew) hvx hg2 ⟨by omega, by omega⟩
          have bx2 := BX.grown (w := W9.drew) hbx hg2 ⟨by omega, by omega⟩
          have hbn : Below n w2 w2' := (hRW.2.2.2.1.drew).grown hg2 (by have := hRW.2.2.2.2; exact Nat.le_trans (by omega) this) (fun k hk => by cases hk; omega)
          have hsz : n + 2 ≤ w2'.heap.size := Nat.le_trans hRW.2.2.2.2 hg2.size
          go_upto_region 20 with fail
          rw [HW9.out]
          go_upto_region 22 with fail
          go_region
          clear p0 p1 pf0 pf1 q0 q1 q2 t0 t1 hE hS hL1 hL0 hL00
          obtain ⟨⟨p0, p1⟩, pf0, pf1⟩ := kn2.two
          obtain ⟨⟨t0, t1⟩, _⟩ := kt2.two
          go_wp2_with fail
          go_roundg g'
          case measure => omega
          case rel => exact ⟨setBit T k, L ++ [v], ⟨HST.out, TX.put kn2 vx2 bx2 ⟨by omega, by omega⟩, (hM2.far (by simp) _).far (by simp) _, by ((repeat' (first | with_reducible exact Below.refl _ _ | with_reducible assumption | with_reducible refine Below.drew ?_ | with_reducible refine below_drewN ?_ _ | with_reducible refine Below.setCell ?_ ?_ _ | with_reducible refine Below.alloc ?_ ?_ _ | with_reducible refine Below.trans ?_ (Below.mono (by assumption) ?_))) <;> (first | (simp; done) | (simp; omega) | omega)), by simpa using hsz⟩, hgg⟩

open Go.ChangeShapes Go.WideShapes Go.ChangeAt
set_option maxRecDepth 100000 in
theorem trackOnce_lifted (os : Os) (started : os.Started) (H : Type) (enc : TypeId × Value → H) :
    ReturnsInHanded {} Try.checked os 9 .any (Rows.trackOnceSpec.pre6 enc Try.prog Try.f9 Rows.trackOnceRow.domain false) (Rows.trackOnceSpec.post enc Try.prog Try.f9 false true false false) := by
  refine returnsInHanded_of_change (C := Try.checked) own started (by kernel_rfl) Try.func9
    (ChangeSpec.witness6 (enc := enc) (C := Try.checked) false ⟨#[], #[.slice none 0 0, .slice none 0 0], []⟩ 8 (by kernel_rfl) (by kernel_rfl) (by kernel_rfl) (by kernel_rfl)) ?_
  intro W base args ds gs before hval0 hW hcnd _
  have hval : ∀ (j : Nat) t v, Try.f9.params[j]? = some t → args[j]? = some v → Value.okWide Try.prog W .any base t v := hval0
  have hW' := hW
  obtain ⟨p, q, hA0, hV, rfl, hfz, hnd⟩ := hW
  have hA : DataW.TrodAll enc Try.prog W 0 (fun _ => true) true Try.f9.params.toList args.toList ds p := hA0
  rw [Try.params9] at hA hval
  obtain ⟨v0, vs0, d0, ds0, p0, q0, hargs, rfl, rfl, h0, r0⟩ := trodAll_cons hA
  have k0 := h0
  have lt0 : ∀ x ∈ p0, x.block < W.heap.size := by obtain ⟨m, hm⟩ := k0; exact DataW.trod_lt m _ _ _ hm
  obtain ⟨v1, vs1, d1, ds1, p1, q1, rfl, rfl, rfl, h1, r1⟩ := trodAll_cons r0
  have k1 := h1
  have lt1 : ∀ x ∈ p1, x.block < W.heap.size := by obtain ⟨m, hm⟩ := k1; exact DataW.trod_lt m _ _ _ hm
  obtain ⟨rfl, rfl, rfl⟩ := trodAll_nil r1
  obtain rfl : args = #[v0, v1] := by cases args; simp_all
  obtain ⟨rfl, rfl⟩ := trodVars_none hV
  obtain ⟨A, a, c, rfl, hac, hcm, vA, _⟩ := open_vals (hval 0 22 v0 rfl rfl) h0
  obtain ⟨B, b, d, rfl, hbd, hdm, vB, ob⟩ := open_nums (hval 1 44 v1 rfl rfl) h1
  clear hA0 hval0
  refine (trackOnce_walk A B c d a b W (Nat.le_trans hac hcm) (Nat.le_trans hbd hdm) ob vA vB).mono fun e W' ⟨he, bel⟩ => ?_
  subst he
  exact ⟨_, rfl, _, _, _, [], _, [], hW', trodAll_mk1 (shut_bool Try.underlying4 _), (trodAll_cons_mk (Below.trod laidOut (by kernel_rfl) (of_decide_eq_true (by kernel_rfl)) k0 bel lt0) (trodAll_cons_mk (Below.trod laidOut (by kernel_rfl) (of_decide_eq_true (by kernel_rfl)) k1 bel lt1) trodAll_mk0)), rfl, bel.frame _, fun h => by cases h⟩

theorem trackOnce_over : Rows.trackOnceRow.holds Try.pinned (OpenSpec.ofChange Rows.trackOnceSpec) :=
  OpenClaim.holds_of_wide 9 Try.f9 rfl rfl rfl rfl rfl rfl rfl ⟨rfl, rfl, rfl, rfl, rfl⟩ rfl rfl rfl rfl rfl (by kernel_rfl) Try.func9 (by kernel_rfl)
    (of_decide_eq_true (by kernel_rfl)) (by unfold Func.isWrapper; first | (rw [if_pos (by decide +kernel)]; kernel_rfl) | (rw [if_neg (by decide +kernel)]; exact ⟨rfl, rfl⟩))
    (fun os started H enc _ => trackOnce_lifted os started H enc)

theorem trackOnce_holds : Rows.TrackOnceSaid := trackOnce_over
#print axioms trackOnce_holds

end Go.Proofs.Ytkeeekifejholaa
