/- caddislaw09.Few: grants, no more than are looked at. Condition: a slice that reads as grants.. -/
import Derived.Test.YtchilcchogcibaaGreatDoorSBytes
import Derived.Test.YtchilcchogcibaaGreatDoorSGr1
import Derived.Test.YtchilcchogcibaaGreatDoorSGrR4
namespace Go.Proofs.YtchilcchogcibaaGreatDoor
open Go.RowKit
attribute [local go_sem] ByteArray.extract_mk ba_get ba_append
attribute [local go_sem ↓] Go.wp_at_zero Go.wp_at_succ
def fewGr (g : Gr) : Gr := ⟨g.r.take 20, g.t.take 20, g.w⟩
def fewG (l : List Gr) : List Gr := (l.take 61).map fewGr
theorem fewG_snoc (l : List Gr) (j : Nat) (v : Gr) (h : l[j]? = some v) : (l.take (j + 1)).map fewGr = (l.take j).map fewGr ++ [fewGr v] := by
 rw [List.take_add_one, h]; simp
theorem fewG_len (l : List Gr) : (fewG l).length ≤ 61 := by unfold fewG; simp; omega
theorem fewG_short (l : List Gr) : ∀ g ∈ fewG l, g.r.length ≤ 20 ∧ g.t.length ≤ 20 := by
 intro g hg
 unfold fewG at hg
 obtain ⟨x, _, rfl⟩ := List.mem_map.1 hg
 exact ⟨List.length_take_le _ _, List.length_take_le _ _⟩
set_option maxRecDepth 100000 in
set_option maxHeartbeats 2000000 in
theorem few9_any (A : Option Addr) (c : Nat) (l : List Gr) (w : World) (hl : l.length ≤ maxLen) (h : GQ l A (Old w.heap.size) w) :
  Calls Tryz.prog 12 #[.slice A l.length c] w (RetGs (fewG l) w) := by
 unfold maxLen at hl
 obtain ⟨i0, hi0, zi0, zi1, zi2⟩ := info_parts infoGr
 go_enter Tryz.func12, Tryz.ntmps12
 go_wp2
 go_loopw [3, 4] (fun v i wr => ∃ j : Nat, j ≤ l.length ∧ j ≤ 61 ∧ i = .int .i64 j ∧ wr.ownsRow w.heap.size 54 3 v j (gcs ((l.take j).map fewGr)) ∧ Below w.heap.size w wr) (fun _ i _ => l.length - (intOf i).toNat)
 case atStart => exact ⟨0, by omega, by omega, rfl, World.ownsRow_nil _ _ _ _, Below.refl _ _⟩
 case round =>
  obtain ⟨j, hj1, hj2, rfl, hown, hbw⟩ := hrel
  have hzw := hbw.size
  by_cases hlt : j < l.length
  ·by_cases h14 : j < 61
   ·obtain ⟨b, off, x, hA, hbB, hx, c0, c1, c2⟩ := h.at_ hlt
    subst hA
    have hbB2 : b < w.heap.size := hbB
    obtain ⟨W, rfl⟩ : ∃ W, W = wr := ⟨_, rfl⟩
    have HX := Lib.hid hx
    have HOW := Lib.hid hown
    have HLT := Lib.hid hown.lt
    have i1 : (0 : Int) ≤ (j : Int) := by omega
    have i2 : (j : Int) < (l.length : Int) := by omega
    obtain ⟨xr, xt, xw⟩ := x
    dsimp only at c0 c1 c2
    obtain ⟨VR, hR⟩ : ∃ V, xr.take 20 = V := ⟨_, rfl⟩
    obtain ⟨VT, hT⟩ : ∃ V, xt.take 20 = V := ⟨_, rfl⟩
    have HT1 : Hid (∀ Z : World, Calls Tryz.prog 13 #[.string ⟨xr.toArray⟩] Z (Ret (.string ⟨VR.toArray⟩) Z)) := fun Z => by rw [← hR]; exact text9_any xr Z
    have HT2 : Hid (∀ Z : World, Calls Tryz.prog 13 #[.string ⟨xt.toArray⟩] Z (Ret (.string ⟨VT.toArray⟩) Z)) := fun Z => by rw [← hT]; exact text9_any xt Z
    have HG : Hid (fewGr ⟨xr, xt, xw⟩ = ⟨VR, VT, xw⟩) := by show _ = _; rw [← hR, ← hT]; rfl
    have HS : Hid (∀ Z : World, Below w.heap.size w Z → Z.cell? ⟨b, off + j * 3, none⟩ = some (.string ⟨xr.toArray⟩) ∧ Z.cell? ⟨b, off + j * 3 + 1, none⟩ = some (.string ⟨xt.toArray⟩) ∧ Z.cell? ⟨b, off + j * 3 + 2, none⟩ = some (.bool xw)) := fun Z hz =>
     ⟨(hz.cell (p := ⟨b, off + j * 3, none⟩) hbB2).trans c0, (hz.cell (p := ⟨b, off + j * 3 + 1, none⟩) hbB2).trans c1, (hz.cell (p := ⟨b, off + j * 3 + 2, none⟩) hbB2).trans c2⟩
    clear hx hown hR hT c0 c1 c2
    go_upto_region 5 with fail
    refine wp_region_held_drew (S := (fun Z => Z.cell? ⟨b, off + j * 3, none⟩ = some (.string ⟨xr.toArray⟩) ∧ Z.cell? ⟨b, off + j * 3 + 1, none⟩ = some (.string ⟨xt.toArray⟩) ∧ Z.cell? ⟨b, off + j * 3 + 2, none⟩ = some (.bool xw))) (by kernel_rfl) ?_ (fun hHeld => ?_)
    ·try dsimp only
     first | exact HS.out _ (by assumption) | exact HS.out _ (by ((with_reducible repeat' (first | exact bwR | assumption | refine bwD ?_ | refine bwN ?_ | refine bwS ?_ ?_ | refine bwA ?_ ?_ | refine bwT ?_ (by assumption) ?_)) <;> first | (simp; done) | (simp; omega) | omega))
    refine tS [0, 1, 2, 3, 4, 5, 7, 8, 9, 10, 11, 13, 14, 15, 16, 17] ?_
    iterate 16 (refine tC ?_; refine ap ?_)
    refine tN ?_
    refine rdy 6 fun K hK => ?_
    go_simp
    (refine (HT1.out _).mono ?_) <;> rintro en w6 ⟨rfl, hb6⟩ <;> have hz6 := hb6.size <;> (try simp at hz6)
    go_wp2_with fail
    refine hK.out _ _ ?_ (fun hHeld => ?_)
    ·try dsimp only
     first | exact HS.out _ (by assumption) | exact HS.out _ (by ((with_reducible repeat' (first | exact bwR | assumption | refine bwD ?_ | refine bwN ?_ | refine bwS ?_ ?_ | refine bwA ?_ ?_ | refine bwT ?_ (by assumption) ?_)) <;> first | (simp; done) | (simp; omega) | omega))
    clear hK K
    refine ap ?_
    refine rdy 12 fun K hK => ?_
    go_simp
    (refine (HT2.out _).mono ?_) <;> rintro en w12 ⟨rfl, hb12⟩ <;> have hz12 := hb12.size <;> (try simp at hz12)
    go_wp2_with fail
    refine hK.out _ _ ?_ (fun hHeld => ?_)
    ·try dsimp only
     first | exact HS.out _ (by assumption) | exact HS.out _ (by ((with_reducible repeat' (first | exact bwR | assumption | refine bwD ?_ | refine bwN ?_ | refine bwS ?_ ?_ | refine bwA ?_ ?_ | refine bwT ?_ (by assumption) ?_)) <;> first | (simp; done) | (simp; omega) | omega))
    clear hK K
    refine ap ?_
    refine tS [18] (tC ?_)
    refine ap (tN ?_)
    refine rdy 19 fun K hK => ?_
    go_simp
    skip
    go_wp2_with fail
    refine hK.out _ _ ?_ (fun hHeld => ?_)
    ·try dsimp only
     first | exact HS.out _ (by assumption) | exact HS.out _ (by ((with_reducible repeat' (first | exact bwR | assumption | refine bwD ?_ | refine bwN ?_ | refine bwS ?_ ?_ | refine bwA ?_ ?_ | refine bwT ?_ (by assumption) ?_)) <;> first | (simp; done) | (simp; omega) | omega))
    clear hK K
    refine ap ?_
    refine rdy 20 fun K hK => ?_
    have hb12' : Below W.heap.size W w12 := (by ((with_reducible repeat' (first | exact bwR | assumption | refine bwD ?_ | refine bwN ?_ | refine bwS ?_ ?_ | refine bwA ?_ ?_ | refine bwT ?_ (by assumption) ?_)) <;> first | (simp; done) | (simp; omega) | omega)); refine step_append_lies _ rfl (.tmp 15) (.tmp 34) 22 rfl w.heap.size 54 i0 _ 3 40 Tryz.underlying22 hi0 zi0 zi1 zi2 rfl (by decide) u3 j (gcs ((l.take j).map fewGr)) (by simp [Act.eval]) ((own_below HOW.out hb12').alloc _) ⟨w12.heap.size, 0, none⟩ 1 1 [.string ⟨VR.toArray⟩, .string ⟨VT.toArray⟩, .bool xw] (by simp [Act.eval]) rfl (World.news_of_block (cs := #[.string ⟨VR.toArray⟩, .string ⟨VT.toArray⟩, .bool xw]) (t := 54) (fr := (0, 0)) (heap_alloc_new w12 _)) (by simp [Value.oneCell']) (by omega) (by unfold maxLen; omega) (by omega) (by simp; omega) _ rfl ?_; intro g5 cap w20 hown20 hg20 hor20 hl20; have hb20w : Below w.heap.size w w20 := Below.grown ((hbw.trans (hb12'.mono hzw)).alloc (by omega) _) hg20 (by simp; omega) (fun k hk => (HLT.out k hk).1)
    refine hK.out _ _ ?_ (fun hHeld => ?_)
    ·try dsimp only
     first | exact HS.out _ (by assumption) | exact HS.out _ (by ((with_reducible repeat' (first | exact bwR | assumption | refine bwD ?_ | refine bwN ?_ | refine bwS ?_ ?_ | refine bwA ?_ ?_ | refine bwT ?_ (by assumption) ?_)) <;> first | (simp; done) | (simp; omega) | omega))
    clear hK K
    refine ap ?_
    refine tS [21] (tC ?_)
    refine ap (tN ?_)
    refine wpAnyH_done (by kernel_rfl) ?_ _
    go_wp2_with fail
    go_roundw
    case rel => exact ⟨j + 1, by omega, by omega, by go_num, by rw [fewG_snoc l j _ HX.out, gcs_app, HG.out]; exact hown20, hb20w⟩
    case measure => simp [intOf]; omega
   ·have e : fewG l = (l.take j).map fewGr := by unfold fewG; rw [show j = 61 by omega]
    have hn : (fewG l).length = j := by rw [e]; simp; omega
    go_wp2
    go_ret
    exact ⟨_, rfl, by rw [hn, e]; exact hown, hbw⟩
  ·have e : fewG l = (l.take j).map fewGr := by unfold fewG; rw [List.take_of_length_le (i := 61) (by omega), List.take_of_length_le (by omega)]
   have hn : (fewG l).length = j := by rw [e]; simp; omega
   have HE := Lib.hid (And.intro e hn)
   clear e hn
   go_wp2
   go_ret
   exact ⟨_, rfl, by rw [HE.out.2, HE.out.1]; exact hown, hbw⟩
end Go.Proofs.YtchilcchogcibaaGreatDoor
