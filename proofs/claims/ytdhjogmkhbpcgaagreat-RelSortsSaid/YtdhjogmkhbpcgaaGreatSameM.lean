/- The document's Same of two rows. Condition: texts that memory reaches. The document's SameRows as a plain function. Condition: rows that read as lists. -/
import Derived.Test.YtdhjogmkhbpcgaaGreatTake
import Derived.Test.YtdhjogmkhbpcgaaGreatFew2M
import Derived.Test.YtdhjogmkhbpcgaaGreatExpr5M
import Derived.Deep.RegionHeld3
namespace Go.Proofs.YtdhjogmkhbpcgaaGreat
open Go.RowKit

attribute [local go_sem] ByteArray.extract_mk ba_get ba_append
attribute [local go_sem ↓] Go.wp_at_zero Go.wp_at_succ run_eql_V run_neq_V

def rowSame : List V → List V → Bool
  | [], [] => true
  | [], _ :: _ => false
  | _ :: _, [] => false
  | a :: r, b :: t => veq a b && rowSame r t

theorem rowSame_len : ∀ (a b : List V), rowSame a b = true → a.length = b.length
  | [], [], _ => rfl
  | [], _ :: _, h => by simp [rowSame] at h
  | _ :: _, [], h => by simp [rowSame] at h
  | a :: r, b :: t, h => by
    simp only [rowSame, Bool.and_eq_true] at h
    simp [rowSame_len r t h.2]

theorem drop_at (l : List V) (j : Nat) (v : V) (h : l[j]? = some v) : l.drop j = v :: l.drop (j + 1) := by
  obtain ⟨hj, rfl⟩ := List.getElem?_eq_some_iff.1 h
  exact List.drop_eq_getElem_cons hj

set_option maxHeartbeats 400000 in
theorem same_any (A B : Option Addr) (c d : Nat) (a b : List V) (w : World) (ha : a.length ≤ maxLen) (_hb : b.length ≤ maxLen) (hA : VS w w.heap.size A a) (hB : VS w w.heap.size B b) :
    Calls Tryz.prog 32 #[.slice A a.length c, .slice B b.length d] w (Ret (.bool (rowSame a b)) w) := by
  unfold maxLen at ha
  obtain ⟨R, hR⟩ : ∃ R, rowSame a b = R := ⟨_, rfl⟩
  rw [hR]
  by_cases hlen : a.length = b.length
  · have HR := Lib.hid hR
    have HL := Lib.hid hlen
    have hne : ((a.length : Int) != (b.length : Int)) = false := by simp [hlen]
    have hle1 : a.length ≤ b.length := by omega
    have hle2 : b.length ≤ a.length := by omega
    clear hR hlen
    go_enter Tryz.func32, Tryz.ntmps32
    go_wp2
    go_loopg [5] a.length (fun g i wr => ∃ j : Nat, j + g = a.length ∧ i = .int .i64 j ∧ Hid (rowSame (a.drop j) (b.drop j) = R) ∧ Below w.heap.size w wr)
    case atStart => exact ⟨0, by omega, rfl, HR, Below.refl _ _⟩
    case round =>
      obtain ⟨j, hj, rfl, hrest, hbw⟩ := hrel
      have HJ := Lib.hid hj
      by_cases hlt : j < a.length
      · obtain ⟨b1, o1, v, rfl, hbB1, hv, c0, c1, c2⟩ := (hA.below hbw).at_ hlt
        obtain ⟨b2, o2, v', rfl, hbB2, hv', d0, d1, d2⟩ := (hB.below hbw).at_ (j := j) (by omega)
        have hrest' := hrest.out
        rw [drop_at a j v hv, drop_at b j v' hv'] at hrest'
        simp only [rowSame] at hrest'
        have i1 : (0 : Int) ≤ (j : Int) := by omega
        have i2 : (j : Int) < (a.length : Int) := by omega
        have i3 : (j : Int) < (b.length : Int) := by omega
        obtain ⟨g', rfl⟩ : ∃ g', gk = g' + 1 := ⟨gk - 1, by omega⟩
        clear hj hv hv' hrest
        cases hq : veq v v'
        · have HF : Hid (R = false) := by show R = false; rw [← hrest', hq]; rfl
          clear hrest'
          go_wp2_with fail
          go_quiet (fail)
          go_wp2
          go_ret
          exact ⟨by rw [HF.out]; rfl, below_drewN hbw _⟩
        · have HF : Hid (rowSame (a.drop (j + 1)) (b.drop (j + 1)) = R) := by show _ = R; rw [← hrest', hq]; rfl
          clear hrest'
          go_wp2_with fail
          go_quiet (fail)
          go_wp2
          go_roundg g'
          case measure => omega
          case rel => exact ⟨j + 1, by have := HJ.out; omega, by go_num, HF, below_drewN hbw _⟩
      · have HF : Hid (R = true) := by
          show R = true
          rw [← hrest.out, List.drop_of_length_le (by omega), List.drop_of_length_le (by omega)]
          rfl
        clear hj hrest
        go_wp2
        go_ret
        exact ⟨by rw [HF.out]; rfl, hbw⟩
  · have HF : Hid (R = false) := by
      show R = false
      cases hr : R
      · rfl
      · exact absurd (rowSame_len a b (hR.trans hr)) hlen
    have hne : ((a.length : Int) != (b.length : Int)) = true := by simp; omega
    clear hR
    go_enter Tryz.func32, Tryz.ntmps32
    go_wp2
    go_ret
    exact ⟨by rw [HF.out]; rfl, Below.refl _ _⟩

end Go.Proofs.YtdhjogmkhbpcgaaGreat

namespace Go.Proofs.YtdhjogmkhbpcgaaGreat
open Go.RowKit

attribute [local go_sem] ByteArray.extract_mk ba_get ba_append
attribute [local go_sem ↓] Go.wp_at_zero Go.wp_at_succ run_eql_V run_neq_V

def rowsSame : List (List V) → List (List V) → Bool
  | [], [] => true
  | [], _ :: _ => false
  | _ :: _, [] => false
  | a :: r, b :: t => rowSame a b && rowsSame r t
theorem rowsSame_len : ∀ (a b : List (List V)), rowsSame a b = true → a.length = b.length
  | [], [], _ => rfl
  | [], _ :: _, h => by simp [rowsSame] at h
  | _ :: _, [], h => by simp [rowsSame] at h
  | a :: r, b :: t, h => by
    simp only [rowsSame, Bool.and_eq_true] at h
    simp [rowsSame_len r t h.2]
theorem rowSame_self : ∀ l : List V, rowSame l l = true
  | [] => rfl
  | v :: r => by simp [rowSame, rowSame_self r, veq]
theorem rowsSame_self : ∀ l : List (List V), rowsSame l l = true
  | [] => rfl
  | v :: r => by simp [rowsSame, rowsSame_self r, rowSame_self v]
theorem dropR (l : List (List V)) (j : Nat) (v : List V) (h : l[j]? = some v) : l.drop j = v :: l.drop (j + 1) := by
  obtain ⟨hj, rfl⟩ := List.getElem?_eq_some_iff.1 h
  exact List.drop_eq_getElem_cons hj

set_option maxHeartbeats 1000000 in
theorem sameRows_any (A B : Option Addr) (c d : Nat) (a b : List (List V)) (w : World) (ha : a.length ≤ 1000000) (_hb : b.length ≤ 1000000) (hA : RQ a A (Old w.heap.size) w) (hB : RQ b B (Old w.heap.size) w)
    (hla : ∀ r ∈ a, r.length ≤ maxLen) (hlb : ∀ r ∈ b, r.length ≤ maxLen) :
    Calls Tryz.prog 13 #[.slice A a.length c, .slice B b.length d] w (Ret (.bool (rowsSame a b)) w) := by
  obtain ⟨R, hR⟩ : ∃ R, rowsSame a b = R := ⟨_, rfl⟩
  rw [hR]
  by_cases hlen : a.length = b.length
  · have HR := Lib.hid hR
    have HL := Lib.hid hlen
    have HLA := Lib.hid hla
    have HLB := Lib.hid hlb
    have HA := Lib.hid hA
    have HB := Lib.hid hB
    have hne : ((a.length : Int) != (b.length : Int)) = false := by simp [hlen]
    have hle1 : a.length ≤ b.length := by omega
    have hle2 : b.length ≤ a.length := by omega
    clear hR hlen hla hlb hA hB
    go_enter Tryz.func13, Tryz.ntmps13
    go_wp2
    go_loopw [5] (fun i wr => ∃ j : Nat, j ≤ a.length ∧ i = .int .i64 j ∧ Hid (rowsSame (a.drop j) (b.drop j) = R) ∧ Below w.heap.size w wr) (fun i _ => a.length - (intOf i).toNat)
    case atStart => exact ⟨0, by omega, rfl, HR, Below.refl _ _⟩
    case round =>
      obtain ⟨j, hj, rfl, hrest, hbw⟩ := hrel
      have hzw := hbw.size
      obtain ⟨W, rfl⟩ : ∃ W, W = wr := ⟨_, rfl⟩
      by_cases hlt : j < a.length
      · obtain ⟨b1, o1, r1, A1, c1, rfl, hb1, hv, d1, h1⟩ := (HA.out.keep (old_keep hbw hzw)).at_ hlt
        obtain ⟨b2, o2, r2, A2, c2, rfl, hb2, hv', d2, h2⟩ := (HB.out.keep (old_keep hbw hzw)).at_ (j := j) (by omega)
        have hl1 := HLA.out r1 (List.mem_of_getElem? hv)
        have hl2 := HLB.out r2 (List.mem_of_getElem? hv')
        have hrest' := hrest.out
        rw [dropR a j r1 hv, dropR b j r2 hv'] at hrest'
        simp only [rowsSame] at hrest'
        have i1 : (0 : Int) ≤ (j : Int) := by omega
        have i2 : (j : Int) < (a.length : Int) := by omega
        have i3 : (j : Int) < (b.length : Int) := by omega
        have HS : Hid (∀ w' : World, Below W.heap.size W w' → (w'.cell? ⟨b1, o1 + j, none⟩ = some (.slice A1 r1.length c1) ∧ w'.cell? ⟨b2, o2 + j, none⟩ = some (.slice A2 r2.length c2))) := fun w' h => ⟨(h.cell (p := ⟨b1, o1 + j, none⟩) hb1).trans d1, (h.cell (p := ⟨b2, o2 + j, none⟩) hb2).trans d2⟩
        have HQ : Hid (∀ Z : World, Below W.heap.size W Z → Calls Tryz.prog 32 #[.slice A1 r1.length c1, .slice A2 r2.length c2] Z (Ret (.bool (rowSame r1 r2)) Z)) := fun Z h =>
          same_any A1 A2 c1 c2 r1 r2 Z hl1 hl2 ((h1.keep (old_keep h h.size)).s (fun b h => h)) ((h2.keep (old_keep h h.size)).s (fun b h => h))
        have HV := Lib.hid hrest'
        clear hrest hrest' hv hv' d1 d2 h1 h2 hl1 hl2
        cases hq : rowSame r1 r2
        · have HF : Hid (R = false) := by show R = false; rw [← HV.out, hq]; rfl
          rw [hq] at HQ
          clear hq
          go_wp2_with fail
          refine wp_region_held_drew (S := (fun w' => (w'.cell? ⟨b1, o1 + j, none⟩ = some (.slice A1 r1.length c1) ∧ w'.cell? ⟨b2, o2 + j, none⟩ = some (.slice A2 r2.length c2)))) (by kernel_rfl) ?_ (fun hHeld => ?_)
          · try dsimp only
            exact HS.out _ (by exact bl)
          refine wpAnyT_start [0, 1, 2, 3, 4, 5, 6, 7] ?_
          iterate 8
            refine wpAnyT_cons (v := ?_) rfl (by kernel_rfl) (by kernel_rfl) (by kernel_rfl) (fun _ _ _ h => h) (Or.inl ⟨by rfl, ?_⟩) (by assumption) ?_
            rotate_left
            · intro wq hSw
              try dsimp only at hSw
              go_simp
              try with_reducible rfl
            try simp only [Act.put, List.getElem_toArray, List.getElem_cons_zero, List.getElem_cons_succ, List.setIfInBounds_toArray, List.set_cons_zero, List.set_cons_succ]
          refine wpAnyT_nil ?_
          refine wpAnyH_ready (rs := [8]) (by kernel_rfl) (by simp) ?_
          refine AllReadyH.cons rfl (fun K hK => ?_) AllReadyH.nil
          go_simp
          refine (HQ.out _ (by exact bl)).mono ?_ <;> rintro e w8 ⟨rfl, hb8⟩ <;> have hz8 := hb8.size <;> (try simp at hz8)
          go_wp2_with fail
          refine hK.out _ _ ?_ (fun hHeld => ?_)
          · try dsimp only
            exact HS.out _ (by exact bl)
          clear hK K
          try simp only [Act.put, List.getElem_toArray, List.getElem_cons_zero, List.getElem_cons_succ, List.setIfInBounds_toArray, List.set_cons_zero, List.set_cons_succ]
          refine wpAnyH_take (i := 9) (v := ?_) rfl (by kernel_rfl) (by kernel_rfl) (by kernel_rfl) (fun _ _ _ h => h) (Or.inl ⟨by rfl, ?_⟩) (by assumption) ?_
          rotate_left
          · intro wq hSw
            try dsimp only at hSw
            go_simp
            try with_reducible rfl
          try simp only [Act.put, List.getElem_toArray, List.getElem_cons_zero, List.getElem_cons_succ, List.setIfInBounds_toArray, List.set_cons_zero, List.set_cons_succ]
          refine wpAnyH_done (by kernel_rfl) ?_ _
          go_wp2_with fail
          go_ret
          refine ⟨by rw [HF.out]; rfl, ?_⟩
          exact bl
        · have HF : Hid (rowsSame (a.drop (j + 1)) (b.drop (j + 1)) = R) := by show _ = R; rw [← HV.out, hq]; rfl
          rw [hq] at HQ
          clear hq
          go_wp2_with fail
          refine wp_region_held_drew (S := (fun w' => (w'.cell? ⟨b1, o1 + j, none⟩ = some (.slice A1 r1.length c1) ∧ w'.cell? ⟨b2, o2 + j, none⟩ = some (.slice A2 r2.length c2)))) (by kernel_rfl) ?_ (fun hHeld => ?_)
          · try dsimp only
            exact HS.out _ (by exact bl)
          refine wpAnyT_start [0, 1, 2, 3, 4, 5, 6, 7] ?_
          iterate 8
            refine wpAnyT_cons (v := ?_) rfl (by kernel_rfl) (by kernel_rfl) (by kernel_rfl) (fun _ _ _ h => h) (Or.inl ⟨by rfl, ?_⟩) (by assumption) ?_
            rotate_left
            · intro wq hSw
              try dsimp only at hSw
              go_simp
              try with_reducible rfl
            try simp only [Act.put, List.getElem_toArray, List.getElem_cons_zero, List.getElem_cons_succ, List.setIfInBounds_toArray, List.set_cons_zero, List.set_cons_succ]
          refine wpAnyT_nil ?_
          refine wpAnyH_ready (rs := [8]) (by kernel_rfl) (by simp) ?_
          refine AllReadyH.cons rfl (fun K hK => ?_) AllReadyH.nil
          go_simp
          refine (HQ.out _ (by exact bl)).mono ?_ <;> rintro e w8 ⟨rfl, hb8⟩ <;> have hz8 := hb8.size <;> (try simp at hz8)
          go_wp2_with fail
          refine hK.out _ _ ?_ (fun hHeld => ?_)
          · try dsimp only
            exact HS.out _ (by exact bl)
          clear hK K
          try simp only [Act.put, List.getElem_toArray, List.getElem_cons_zero, List.getElem_cons_succ, List.setIfInBounds_toArray, List.set_cons_zero, List.set_cons_succ]
          refine wpAnyH_take (i := 9) (v := ?_) rfl (by kernel_rfl) (by kernel_rfl) (by kernel_rfl) (fun _ _ _ h => h) (Or.inl ⟨by rfl, ?_⟩) (by assumption) ?_
          rotate_left
          · intro wq hSw
            try dsimp only at hSw
            go_simp
            try with_reducible rfl
          try simp only [Act.put, List.getElem_toArray, List.getElem_cons_zero, List.getElem_cons_succ, List.setIfInBounds_toArray, List.set_cons_zero, List.set_cons_succ]
          refine wpAnyH_done (by kernel_rfl) ?_ _
          go_wp2_with fail
          go_roundw
          case rel => exact ⟨j + 1, by omega, by go_num, HF, by exact bl⟩
          case measure => simp [intOf]; omega
      · have HF : Hid (R = true) := by
          show R = true
          rw [← hrest.out, List.drop_of_length_le (by omega), List.drop_of_length_le (by omega)]
          rfl
        have b0 : ¬ ((j : Int) < (a.length : Int)) := by omega
        clear hrest
        go_wp2_with fail
        go_ret
        exact ⟨by rw [HF.out]; rfl, hbw⟩
  · have HF : Hid (R = false) := by
      show R = false
      cases hr : R
      · rfl
      · exact absurd (rowsSame_len a b (hR.trans hr)) hlen
    have hne : ((a.length : Int) != (b.length : Int)) = true := by simp; omega
    clear hR
    go_enter Tryz.func13, Tryz.ntmps13
    go_wp2
    go_ret
    exact ⟨by rw [HF.out]; rfl, Below.refl _ _⟩

end Go.Proofs.YtdhjogmkhbpcgaaGreat
