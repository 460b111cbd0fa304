/- The document's text of a CREATE: it answers, and the text is no longer than may be cut. Condition: a statement whose texts are no longer than a thousand, of no more than twenty columns, uniques and references.. -/
import Derived.Test.YtchilcchogcibaaGreatDoorDGr9
import Derived.Test.YtchilcchogcibaaGreatDoorDRd4
set_option maxRecDepth 100000
set_option maxHeartbeats 8000000
namespace Go.Proofs.YtchilcchogcibaaGreatDoor
open Go.RowKit
attribute [local go_sem] ByteArray.extract_mk ba_get ba_append
attribute [local go_sem ↓] Go.wp_at_zero Go.wp_at_succ
def RetCr (w : World) (en : Ending) (w' : World) : Prop := ∃ (T : List UInt8) (K : Bool), en = .returned (.tuple #[.string ⟨T.toArray⟩, .bool K]) ∧ T.length ≤ 300000 ∧ Below w.heap.size w w'
theorem condT_le {e : Ex} {a : List UInt8} (ha : a.length ≤ 1000) (hf : fitE 13 e) : (condT e a).length ≤ 8000 := by
 unfold condT
 by_cases hm : mayX e = true
 ·have := textX_len hm hf
  rw [if_pos hm]
  split <;> simp <;> omega
 ·rw [if_neg hm]; simp
theorem rcreate_any (s : St) (p : StP) (w : World) (hok : s.Ok) (hlc : s.chk.l.length ≤ maxLen) (hQ : StQ 1000 s p (Old w.heap.size) w) (h20 : s.cols.length ≤ 20 ∧ s.uniq.length ≤ 20 ∧ s.refs.length ≤ 20) :
  Calls Tryz.prog 109 #[.agg (s.cells p).toArray] w (RetCr w) := by
 obtain ⟨kc, ks, kw, hM⟩ := hQ.h
 obtain ⟨h20c, h20u, h20r⟩ := h20
 refine stBox_in s p w fun w0 HW ks0 hb0 hz0 HST HB => ?_
 have HM : Hid (∀ Z : World, Below w0.heap.size w0 Z → StH s p kc ks kw (Old w.heap.size) Z) := fun Z hz => hM.keep fun b hb => ⟨hb, fun o => (hb0.trans (hz.mono hz0)).cell (p := ⟨b, o, none⟩) hb⟩
 have HN : Hid (∀ (t : List UInt8) (Z : World), t.length ≤ 1000 → Calls Tryz.prog 47 #[.string ⟨t.toArray⟩] Z (Ret (.bool (nameG t)) Z)) := fun t Z h => rnameG_any t Z (by omega)
 obtain ⟨TC, hTC⟩ : ∃ B, condT s.chk [32, 44] = B := ⟨_, rfl⟩
 obtain ⟨PC, hPC⟩ : ∃ B, perhapsE s.chk = B := ⟨_, rfl⟩
 have hlTC : TC.length ≤ 8000 := by rw [← hTC]; exact condT_le (by decide) hok.num.1
 have HC : Hid (∀ Y : World, Below w0.heap.size w0 Y → Calls Tryz.prog 108 #[.agg #[.string ⟨s.chk.op.toArray⟩, .int .i64 s.chk.v.k, .int .i64 s.chk.v.i, .string ⟨s.chk.v.s.toArray⟩, .string ⟨s.chk.s.toArray⟩, .slice p.chk.a s.chk.l.length p.chk.c], .string ⟨#[32, 44]⟩] Y (Ret (.tuple #[.string ⟨TC.toArray⟩, .bool PC]) Y)) := fun Y hY => by
  rw [← hTC, ← hPC]
  exact rcond_any s.chk [32, 44] p.chk.a p.chk.c kc Y hok.chk hok.num.1 (exq_s (HM.out Y hY).2.2.2.2.1 (Nat.le_trans hz0 hY.size)) hlc (by decide)
 have HOK := Lib.hid hok
 have htb := hok.tb
 have hkey := hok.key
 have hc0 : Below w0.heap.size w0 w0 := Below.refl _ _
 obtain ⟨NK, hNK⟩ : ∃ N, nameG s.key = N := ⟨_, rfl⟩
 have HNK : Hid (∀ Z : World, Calls Tryz.prog 47 #[.string ⟨s.key.toArray⟩] Z (Ret (.bool NK) Z)) := fun Z => by rw [← hNK]; exact HN.out s.key Z hkey
 clear hM hQ hok hlc hTC hPC hb0 ks0 hNK
 go_in
 go_upto_region 1 with fail
 rw [show w.alloc _ = w0 from HW.out]
 clear HW
 obtain ⟨-, -, -, -, s4, s5, s6, s7, -, -, -, -, -, -, -, -, -, -, -, -, -, -, -⟩ := HST.out w0 hc0
 go_cut [4] (fun s4 wx => ∃ K, s4 = .bool K ∧ Below w0.heap.size w0 wx)
 case first =>
  go_wp2_with fail
  refine (HNK.out w0).mono ?_
  rintro en w1 ⟨rfl, hb1⟩
  clear s4 s5 s6 s7
  obtain ⟨-, -, -, -, s4, -, s6, s7, -, -, -, -, -, -, -, -, -, -, -, -, -, -, -⟩ := HST.out w1 hb1
  cases NK
  ·go_wp2_with fail
   go_meet
   exact ⟨_, rfl, hb1⟩
  ·by_cases p1 : (1 : Int) ≤ s.cols.length
   rotate_left
   ·go_wp2_with fail
    go_meet
    exact ⟨_, rfl, hb1⟩
   by_cases p2 : (s.cols.length : Int) ≤ 8
   rotate_left
   ·go_wp2_with fail
    go_meet
    exact ⟨_, rfl, hb1⟩
   by_cases p3 : (s.uniq.length : Int) ≤ 8
   rotate_left
   ·go_wp2_with fail
    go_meet
    exact ⟨_, rfl, hb1⟩
   by_cases p4 : (s.refs.length : Int) ≤ 8
   rotate_left
   ·go_wp2_with fail
    go_meet
    exact ⟨_, rfl, hb1⟩
   go_wp2_with fail
   go_meet
   exact ⟨_, rfl, hb1⟩
 obtain ⟨K1, rfl, hb1⟩ := hcut
 clear s4 s5 s6 s7 HNK
 have hz1 := hb1.size
 obtain ⟨-, s1, -, -, -, -, -, -, -, -, -, -, -, -, -, -, -, -, -, -, -, -, -⟩ := HST.out wc hb1
 go_wp2_with fail
 clear s1
 go_loopw [5, 6] (fun t i wr => ∃ (T : List UInt8) (j : Nat), t = .string ⟨T.toArray⟩ ∧ i = .int .i64 j ∧ j ≤ s.cols.length ∧ T.length ≤ 1100 + j * 1100 ∧ Below w0.heap.size w0 wr) (fun _ i _ => s.cols.length - (intOf i).toNat)
 case atStart => exact ⟨_, 0, rfl, rfl, Nat.zero_le _, by simp; omega, hb1⟩
 case round =>
  obtain ⟨T, j, rfl, rfl, hj, hT, hbw⟩ := hrel
  obtain ⟨W, rfl⟩ : ∃ W, W = wr := ⟨_, rfl⟩
  have hzw := hbw.size
  obtain ⟨-, -, -, -, s4, -, -, -, -, -, -, -, -, -, -, -, -, -, -, -, -, -, -⟩ := HST.out W hbw
  by_cases hlt : j < s.cols.length
  ·obtain ⟨b, off, x, hA, hbB, hv, c0, c1, c2⟩ := (HM.out W hbw).2.1.at_ hlt
   rw [hA] at s4
   have hxn := HOK.out.cols x (List.mem_of_getElem? hv)
   obtain ⟨n, t, nb⟩ := x
   dsimp only at c0 c1 c2 hxn
   have HNX : Hid (∀ Z : World, Calls Tryz.prog 47 #[.string ⟨n.toArray⟩] Z (Ret (.bool (nameG n)) Z)) := fun Z => HN.out n Z hxn
   obtain ⟨W1, hW1⟩ : ∃ W1, W.alloc (.cells #[.string ⟨n.toArray⟩, .int .i64 t, .bool nb] 96) = W1 := ⟨_, rfl⟩
   have k1 : Blk W1 W.heap.size 96 #[.string ⟨n.toArray⟩, .int .i64 t, .bool nb] := by rw [← hW1]; exact Blk.new _ _ _
   have hbW1 : Below W.heap.size W W1 := by rw [← hW1]; exact bl
   have hbw1 : Below w0.heap.size w0 W1 := hbw.trans (hbW1.mono hzw)
   have HW1 := Lib.hid hW1
   have HK1 := Lib.hid k1
   have hlt1 : W.heap.size < W1.heap.size := k1.lt
   have hz1w := hbw1.size
   have i1 : (0 : Int) ≤ (j : Int) := by omega
   have i2 : (j : Int) < (s.cols.length : Int) := by omega
   obtain ⟨N, hN⟩ : ∃ N, nameG n = N := ⟨_, rfl⟩
   rw [hN] at HNX
   clear hv hA hbB hW1 k1 hN
   go_upto_region 7 with fail
   rw [show W.alloc _ = W1 from HW1.out]
   clear HW1 c0 c1 c2 s4
   obtain ⟨⟨k0, -, -⟩, _⟩ := HK1.out.three
   go_wp2_with fail
   refine (HNX.out W1).mono ?_
   rintro en W2 ⟨rfl, hb2⟩
   have hbw2 : Below w0.heap.size w0 W2 := hbw1.trans (hb2.mono hz1w)
   have hz2w := hbw2.size
   clear k0
   obtain ⟨⟨k0, k1, k2⟩, _⟩ := (HK1.out.below hb2 hlt1).three
   cases N with
   | false =>
    go_wp2_with fail
    refine bodyPost_ret (v := .tuple #[.string ⟨([]).toArray⟩, .bool false]) (by simp [results, Tryz.results109, go_sem, *]) rfl ?_
    exact ⟨_, _, rfl, by simp, HB.out.trans ((hbw2).mono hz0)⟩
   | true =>
    by_cases t1 : t < 1
    ·go_wp2_with fail
     refine bodyPost_ret (v := .tuple #[.string ⟨([]).toArray⟩, .bool false]) (by simp [results, Tryz.results109, go_sem, *]) rfl ?_
     exact ⟨_, _, rfl, by simp, HB.out.trans ((hbw2).mono hz0)⟩
    by_cases t3 : t > 3
    ·go_wp2_with fail
     refine bodyPost_ret (v := .tuple #[.string ⟨([]).toArray⟩, .bool false]) (by simp [results, Tryz.results109, go_sem, *]) rfl ?_
     exact ⟨_, _, rfl, by simp, HB.out.trans ((hbw2).mono hz0)⟩
    have HK2 : Hid (Blk W2 W.heap.size 96 #[.string ⟨n.toArray⟩, .int .i64 t, .bool nb]) := HK1.out.below hb2 hlt1
    have hlt2 := HK2.out.lt
    obtain ⟨TY, hTY, htl⟩ : ∃ TY : List UInt8, (t = 1 ∧ TY = [73, 78, 84] ∨ t = 2 ∧ TY = [84, 69, 88, 84] ∨ t = 3 ∧ TY = [66, 79, 79, 76]) ∧ TY.length ≤ 4 := by
     rcases (by omega : t = 1 ∨ t = 2 ∨ t = 3) with h | h | h
     ·exact ⟨_, .inl ⟨h, rfl⟩, by decide⟩
     ·exact ⟨_, .inr (.inl ⟨h, rfl⟩), by decide⟩
     ·exact ⟨_, .inr (.inr ⟨h, rfl⟩), by decide⟩
    go_upto_region 9 with fail
    clear k0 k1 k2
    go_cut [5] (fun s5 wx => s5 = .string ⟨(T ++ (n ++ [32] ++ TY)).toArray⟩ ∧ Below W2.heap.size W2 wx)
    case first =>
     have HSH : Hid (∀ Z : World, Below W2.heap.size W2 Z → Z.cell? ⟨W.heap.size, 0, none⟩ = some (.string ⟨n.toArray⟩) ∧ Z.cell? ⟨W.heap.size, 1, none⟩ = some (.int .i64 t)) := fun Z hz => by
      have k := HK2.out.below hz hlt2
      exact ⟨k.cell 0, k.cell 1⟩
     rcases hTY with ⟨rfl, rfl⟩ | ⟨rfl, rfl⟩ | ⟨rfl, rfl⟩
     ·skip
      refine rgn HSH fun hHeld => ?_
      refine tS [0, 1, 2, 3, 5, 6] ?_
      iterate 6 (refine tC ?_; refine ap ?_)
      refine tN ?_
      refine rdy 4 fun K hK => ?_
      go_simp
      skip
      go_wp2_with fail
      refine hK.out _ _ (HSH.out _ (by exact bl)) fun hHeld => ?_
      clear hK K
      refine ap ?_
      refine tS [7] (tC ?_)
      refine ap (tN ?_)
      refine rdy 8 fun K hK => ?_
      go_simp
      skip
      go_wp2_with fail
      refine hK.out _ _ (HSH.out _ (by exact bl)) fun hHeld => ?_
      clear hK K
      refine ap ?_
      refine tS [9, 10, 11] ?_
      iterate 3 (refine tC ?_; refine ap ?_)
      refine tN ?_
      refine wpAnyH_done (by kernel_rfl) ?_ _
      go_wp2_with fail
      go_meet
      exact ⟨by simp, by exact bl⟩
     ·skip
      refine rgn HSH fun hHeld => ?_
      refine tS [0, 1, 2, 3, 5, 6] ?_
      iterate 6 (refine tC ?_; refine ap ?_)
      refine tN ?_
      refine rdy 4 fun K hK => ?_
      go_simp
      skip
      go_wp2_with fail
      refine hK.out _ _ (HSH.out _ (by exact bl)) fun hHeld => ?_
      clear hK K
      refine ap ?_
      refine tS [7] (tC ?_)
      refine ap (tN ?_)
      refine rdy 8 fun K hK => ?_
      go_simp
      skip
      go_wp2_with fail
      refine hK.out _ _ (HSH.out _ (by exact bl)) fun hHeld => ?_
      clear hK K
      refine ap ?_
      refine tS [9, 10, 11] ?_
      iterate 3 (refine tC ?_; refine ap ?_)
      refine tN ?_
      refine wpAnyH_done (by kernel_rfl) ?_ _
      go_wp2_with fail
      go_meet
      exact ⟨by simp, by exact bl⟩
     ·skip
      refine rgn HSH fun hHeld => ?_
      refine tS [0, 1, 2, 3, 5, 6] ?_
      iterate 6 (refine tC ?_; refine ap ?_)
      refine tN ?_
      refine rdy 4 fun K hK => ?_
      go_simp
      skip
      go_wp2_with fail
      refine hK.out _ _ (HSH.out _ (by exact bl)) fun hHeld => ?_
      clear hK K
      refine ap ?_
      refine tS [7] (tC ?_)
      refine ap (tN ?_)
      refine rdy 8 fun K hK => ?_
      go_simp
      skip
      go_wp2_with fail
      refine hK.out _ _ (HSH.out _ (by exact bl)) fun hHeld => ?_
      clear hK K
      refine ap ?_
      refine tS [9, 10, 11] ?_
      iterate 3 (refine tC ?_; refine ap ?_)
      refine tN ?_
      refine wpAnyH_done (by kernel_rfl) ?_ _
      go_wp2_with fail
      go_meet
      exact ⟨by simp, by exact bl⟩
    obtain ⟨rfl, hb3⟩ := hcut
    have hb3w : Below w0.heap.size w0 wc := hbw2.trans (hb3.mono hz2w)
    have k2 : wc.cell? ⟨W.heap.size, 2, none⟩ = some (.bool nb) := (HK2.out.below hb3 hlt2).cell 2
    have g30 : 0 ≤ TY.length := Nat.zero_le _
    clear HK1 HK2
    cases nb
    all_goals
     go_wp2_with fail
     go_roundw
     case rel => exact ⟨_, j + 1, rfl, by go_num, by omega, by simp; omega, hb3w⟩
     case measure => simp [intOf]; omega
  ·have i2 : ¬ (j : Int) < (s.cols.length : Int) := by omega
   have hTT : T.length ≤ 23100 := by omega
   have HBW := Lib.hid hbw
   clear hlt hT hj
   obtain ⟨-, -, -, -, -, q5, -, -, -, -, -, -, -, -, -, -, -, -, -, -, -, -, -⟩ := HST.out W hbw
   go_wp2_with fail
   clear q5 s4 i2
   go_loopw [4, 5, 8] (fun k t i wr => ∃ (K : Bool) (T : List UInt8) (j : Nat), k = .bool K ∧ t = .string ⟨T.toArray⟩ ∧ i = .int .i64 j ∧ j ≤ s.uniq.length ∧ T.length ≤ 24200 + j * 2100 ∧ Below w0.heap.size w0 wr) (fun _ _ i _ => s.uniq.length - (intOf i).toNat)
   case atStart => exact ⟨_, _, 0, rfl, rfl, rfl, Nat.zero_le _, by first | omega | (simp; omega), HBW.out⟩
   case round =>
    obtain ⟨K, T, j, rfl, rfl, rfl, hj, hT, hbw⟩ := hrel
    obtain ⟨V8, rfl⟩ : ∃ W, W = wr := ⟨_, rfl⟩
    have hzw := hbw.size
    obtain ⟨-, -, -, -, -, -, s6, -, -, -, -, -, -, -, -, -, -, -, -, -, -, -, -⟩ := HST.out V8 hbw
    by_cases hlt : j < s.uniq.length
    ·obtain ⟨b, off, x, hA, hbB, hv, c0⟩ := (HM.out V8 hbw).2.2.1.at_ hlt
     rw [hA] at s6
     have hxn := HOK.out.uniq x (List.mem_of_getElem? hv)
     have lb : b < V8.heap.size := by have : b < w.heap.size := hbB; omega
     have i1 : (0 : Int) ≤ (j : Int) := by omega
     have i2 : (j : Int) < (s.uniq.length : Int) := by omega
     obtain ⟨N0, hN0⟩ : ∃ N, nameG x = N := ⟨_, rfl⟩
     have HN0 : Hid (∀ Z : World, Calls Tryz.prog 47 #[.string ⟨x.toArray⟩] Z (Ret (.bool N0) Z)) := fun Z => by rw [← hN0]; exact HN.out x Z (by omega)
     have HSH : Hid (∀ Z : World, Below V8.heap.size V8 Z → Z.cell? ⟨w.heap.size, 6, none⟩ = some (.slice (some ⟨b, off, none⟩) s.uniq.length p.uniq.c) ∧ Z.cell? ⟨b, off + j, none⟩ = some (.string ⟨x.toArray⟩)) := fun Z hz => by
      have hc : ∀ o, Z.cell? ⟨b, o, none⟩ = V8.cell? ⟨b, o, none⟩ := fun o => hz.cell (p := ⟨b, o, none⟩) lb
      obtain ⟨-, -, -, -, -, -, z6, -, -, -, -, -, -, -, -, -, -, -, -, -, -, -, -⟩ := HST.out Z (hbw.trans (hz.mono hzw))
      rw [hA] at z6
      exact ⟨z6, (hc _).trans c0⟩
     clear hA hv hbB c0 s6 hN0
     obtain ⟨s6, c0⟩ := HSH.out V8 (Below.refl _ _)
     go_upto_region 17 with fail
     go_cut [4] (fun s4 wx => ∃ K, s4 = .bool K ∧ Below V8.heap.size V8 wx)
     case first =>
      cases K
      ·go_wp2_with fail
       go_meet
       exact ⟨_, rfl, Below.refl _ _⟩
      go_wp2_with fail
      refine (HN0.out _).mono ?_
      rintro en w5 ⟨rfl, hc5⟩
      go_wp2_with fail
      go_meet
      exact ⟨_, rfl, hc5⟩
     obtain ⟨K2, rfl, hbc⟩ := hcut
     clear s6 c0
     obtain ⟨s6, c0⟩ := HSH.out wc hbc
     have hbwc : Below w0.heap.size w0 wc := hbw.trans (hbc.mono hzw)
     go_wp2_with fail
     go_roundw
     case rel => exact ⟨_, _, j + 1, rfl, rfl, by go_num, by omega, by simp; omega, hbwc⟩
     case measure => simp [intOf]; omega
    ·have i2 : ¬ (j : Int) < (s.uniq.length : Int) := by omega
     have hTT : T.length ≤ 66200 := by omega
     have HBW := Lib.hid hbw
     clear hlt hT hj
     go_wp2_with fail
     clear s6 i2
     go_loopw [4, 5, 9] (fun k t i wr => ∃ (K : Bool) (T : List UInt8) (j : Nat), k = .bool K ∧ t = .string ⟨T.toArray⟩ ∧ i = .int .i64 j ∧ j ≤ s.refs.length ∧ T.length ≤ 66200 + j * 2100 ∧ Below w0.heap.size w0 wr) (fun _ _ i _ => s.refs.length - (intOf i).toNat)
     case atStart => exact ⟨_, _, 0, rfl, rfl, rfl, Nat.zero_le _, by first | omega | (simp; omega), HBW.out⟩
     case round =>
      obtain ⟨K, T, j, rfl, rfl, rfl, hj, hT, hbw⟩ := hrel
      obtain ⟨V9, rfl⟩ : ∃ W, W = wr := ⟨_, rfl⟩
      have hzw := hbw.size
      obtain ⟨-, -, -, -, -, -, -, s7, -, -, -, -, -, -, -, -, -, -, -, -, -, -, -⟩ := HST.out V9 hbw
      by_cases hlt : j < s.refs.length
      ·obtain ⟨b, off, x, hA, hbB, hv, c0, c1⟩ := (HM.out V9 hbw).2.2.2.1.at_ hlt
       rw [hA] at s7
       have hxn := HOK.out.refs x (List.mem_of_getElem? hv)
       have lb : b < V9.heap.size := by have : b < w.heap.size := hbB; omega
       have i1 : (0 : Int) ≤ (j : Int) := by omega
       have i2 : (j : Int) < (s.refs.length : Int) := by omega
       obtain ⟨N0, hN0⟩ : ∃ N, nameG x.c = N := ⟨_, rfl⟩
       have HN0 : Hid (∀ Z : World, Calls Tryz.prog 47 #[.string ⟨x.c.toArray⟩] Z (Ret (.bool N0) Z)) := fun Z => by rw [← hN0]; exact HN.out x.c Z (by omega)
       obtain ⟨N1, hN1⟩ : ∃ N, nameG x.t = N := ⟨_, rfl⟩
       have HN1 : Hid (∀ Z : World, Calls Tryz.prog 47 #[.string ⟨x.t.toArray⟩] Z (Ret (.bool N1) Z)) := fun Z => by rw [← hN1]; exact HN.out x.t Z (by omega)
       have HSH : Hid (∀ Z : World, Below V9.heap.size V9 Z → Z.cell? ⟨w.heap.size, 7, none⟩ = some (.slice (some ⟨b, off, none⟩) s.refs.length p.refs.c) ∧ Z.cell? ⟨b, off + j * 2, none⟩ = some (.string ⟨x.c.toArray⟩) ∧ Z.cell? ⟨b, off + j * 2 + 1, none⟩ = some (.string ⟨x.t.toArray⟩)) := fun Z hz => by
        have hc : ∀ o, Z.cell? ⟨b, o, none⟩ = V9.cell? ⟨b, o, none⟩ := fun o => hz.cell (p := ⟨b, o, none⟩) lb
        obtain ⟨-, -, -, -, -, -, -, z7, -, -, -, -, -, -, -, -, -, -, -, -, -, -, -⟩ := HST.out Z (hbw.trans (hz.mono hzw))
        rw [hA] at z7
        exact ⟨z7, (hc _).trans c0, (hc _).trans c1⟩
       clear hA hv hbB c0 c1 s7 hN0 hN1
       obtain ⟨s7, c0, c1⟩ := HSH.out V9 (Below.refl _ _)
       go_upto_region 22 with fail
       go_cut [4] (fun s4 wx => ∃ K, s4 = .bool K ∧ Below V9.heap.size V9 wx)
       case first =>
        cases K
        ·go_wp2_with fail
         go_meet
         exact ⟨_, rfl, Below.refl _ _⟩
        go_wp2_with fail
        refine (HN0.out _).mono ?_
        rintro en w5 ⟨rfl, hc5⟩
        clear s7 c0 c1
        obtain ⟨s7, c0, c1⟩ := HSH.out w5 hc5
        cases N0
        ·go_wp2_with fail
         go_meet
         exact ⟨_, rfl, hc5⟩
        go_wp2_with fail
        refine (HN1.out _).mono ?_
        rintro en w6 ⟨rfl, hc6⟩
        have hd6 : Below V9.heap.size V9 w6 := hc5.trans (hc6.mono hc5.size)
        go_wp2_with fail
        go_meet
        exact ⟨_, rfl, hd6⟩
       obtain ⟨K2, rfl, hbc⟩ := hcut
       clear s7 c0 c1
       have HSC : Hid (∀ Z : World, Below wc.heap.size wc Z → Z.cell? ⟨w.heap.size, 7, none⟩ = some (.slice (some ⟨b, off, none⟩) s.refs.length p.refs.c) ∧ Z.cell? ⟨b, off + j * 2, none⟩ = some (.string ⟨x.c.toArray⟩) ∧ Z.cell? ⟨b, off + j * 2 + 1, none⟩ = some (.string ⟨x.t.toArray⟩)) := fun Z hz => HSH.out Z (hbc.trans (hz.mono hbc.size))
       have hbwc0 : Below w0.heap.size w0 wc := hbw.trans (hbc.mono hzw)
       go_wp2_with fail
       refine rgn HSC fun hHeld => ?_
       refine tS [0, 1, 2, 3, 4, 5, 6, 7, 8, 9, 10, 11, 12, 13, 14, 15, 16, 17] ?_
       iterate 18 (refine tC ?_; refine ap ?_)
       refine tN ?_
       refine wpAnyH_done (by kernel_rfl) ?_ _
       have hbwc : Below w0.heap.size w0 wc.drew := hbwc0.drew
       go_wp2_with fail
       go_roundw
       case rel => exact ⟨_, _, j + 1, rfl, rfl, by go_num, by omega, by simp; omega, hbwc⟩
       case measure => simp [intOf]; omega
      ·have i2 : ¬ (j : Int) < (s.refs.length : Int) := by omega
       have hTT : T.length ≤ 108200 := by omega
       have HBW := Lib.hid hbw
       clear hlt hT hj
       have HTT := Lib.hid hTT
       obtain ⟨-, -, -, -, -, -, -, -, q8, q9, q10, q11, q12, q13, -, -, -, -, -, -, -, -, -⟩ := HST.out V9 hbw
       go_wp2_with fail
       refine (HC.out V9 hbw).mono ?_
       rintro en wz ⟨rfl, hbz⟩
       have hbb : Below w0.heap.size w0 wz := hbw.trans (hbz.mono hzw)
       cases K
       ·go_wp2_with fail
        refine bodyPost_ret (v := .tuple #[.string ⟨(T ++ TC ++ [32, 41]).toArray⟩, .bool false]) (by simp [results, Tryz.results109, go_sem, *]) rfl ?_
        exact ⟨_, _, rfl, by have := HTT.out; simp; omega, HB.out.trans (hbb.mono hz0)⟩
       ·go_wp2_with fail
        refine bodyPost_ret (v := .tuple #[.string ⟨(T ++ TC ++ [32, 41]).toArray⟩, .bool PC]) (by simp [results, Tryz.results109, go_sem, *]) rfl ?_
        exact ⟨_, _, rfl, by have := HTT.out; simp; omega, HB.out.trans (hbb.mono hz0)⟩
end Go.Proofs.YtchilcchogcibaaGreatDoor
