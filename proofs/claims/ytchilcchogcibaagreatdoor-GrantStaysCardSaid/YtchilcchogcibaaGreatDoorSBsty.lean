/- The document's Without of grants as a plain function. Condition: a slice that reads as grants.. | grant.Both as a plain function. Condition: a slice that reads as no more than 400 grants, and one of texts.. | The document's Name, ahead and has as plain functions. Condition: a slice that reads as grants.. | The document's With and Both of grants as plain functions. Condition: slices that read as no more than 400 grants, and as texts.. | Grants, in plain words: what is granted and revoked, and in whatever order; what a table has that stands for others. Nothing of the program stands here.. | Grants, in plain words: what the laws of layer 9 say of lists of grants. Nothing of the program stands here.. | How arguments of the laws are opened: a value.. -/
import Derived.Deep.AppendLies
import Derived.Deep.CutBlock
import Derived.Deep.DeepCutAuto
import Derived.Test.YtchilcchogcibaaGreatDoorSGrR4
import Derived.Test.YtchilcchogcibaaGreatDoorSGr8
import Derived.Test.YtchilcchogcibaaGreatDoorSMany
import Derived.Test.YtchilcchogcibaaGreatDoorSBytes
import Derived.Test.YtchilcchogcibaaGreatDoorSEnvL
import Derived.Test.YtchilcchogcibaaGreatDoorSRd2
import Derived.Test.YtchilcchogcibaaGreatDoorSGr9
import Derived.Test.YtchilcchogcibaaGreatDoorSGrLaw3
import Derived.Test.YtchilcchogcibaaGreatDoorRows
import Derived.Lib.SmallJoins
import Derived.OpenShut
import Derived.ShutString
import Derived.ChangeOld
import Derived.Test.YtchilcchogcibaaGreatDoorSOpenEx
namespace Go.Proofs.YtchilcchogcibaaGreatDoor
open Go.RowKit
attribute [local go_sem] ByteArray.extract_mk ba_get ba_append
attribute [local go_sem ↓] Go.wp_at_zero Go.wp_at_succ run_eql_G
def withoutG (l : List Gr) (t : List UInt8) : List Gr := l.filter fun x => !(x.t == t)
end Go.Proofs.YtchilcchogcibaaGreatDoor
namespace Go.Proofs.YtchilcchogcibaaGreatDoor
open Go.RowKit
attribute [local go_sem] ByteArray.extract_mk ba_get ba_append
attribute [local go_sem ↓] Go.wp_at_zero Go.wp_at_succ
/-- Does some table lack the grant? -/
def lackG (l : List Gr) (g : Gr) (t : List UInt8) : Bool := !decide ((⟨g.r, t, g.w⟩ : Gr) ∈ l)
def bothStep (l : List Gr) (u : List UInt8) (ts : List (List UInt8)) (acc : List Gr) (g : Gr) : List Gr := if ts.any (lackG l g) then acc else addG acc ⟨g.r, u, g.w⟩
def bothG (l : List Gr) (u : List UInt8) (ts : List (List UInt8)) : List Gr := if ts = [] then withoutG l u else l.foldl (bothStep l u ts) (withoutG l u)
end Go.Proofs.YtchilcchogcibaaGreatDoor
namespace Go.Proofs.YtchilcchogcibaaGreatDoor
open Go.RowKit
attribute [local go_sem] ByteArray.extract_mk ba_get ba_append
attribute [local go_sem ↓] Go.wp_at_zero Go.wp_at_succ run_eql_G
set_option maxRecDepth 100000 in
set_option maxHeartbeats 4000000 in
theorem ahead_any (a b : Gr) (w : World) : Calls Tryz.prog 48 #[.agg #[.string ⟨a.r.toArray⟩, .string ⟨a.t.toArray⟩, .bool a.w], .agg #[.string ⟨b.r.toArray⟩, .string ⟨b.t.toArray⟩, .bool b.w]] w (Ret (.bool (glt a b)) w) := by
 obtain ⟨r, t, u⟩ := a
 obtain ⟨r', t', u'⟩ := b
 obtain ⟨R, hR⟩ : ∃ R, glt ⟨r, t, u⟩ ⟨r', t', u'⟩ = R := ⟨_, rfl⟩
 rw [hR]
 have HR : Hid ((if r = r' then (if t = t' then !u && u' else Op.bytesLess t t') else Op.bytesLess r r') = R) := hR
 clear hR
 dsimp only
 by_cases h1 : r = r'
 ·subst h1
  by_cases h2 : t = t'
  ·subst h2
   have HF : Hid ((!u && u') = R) := by have := HR.out; rw [if_pos rfl, if_pos rfl] at this; exact this
   clear HR
   cases u <;> cases u'
   all_goals
    go_enter Tryz.func48, Tryz.ntmps48
    go_wp2_with fail
    go_ret
    exact ⟨by rw [← HF.out]; rfl, by exact bl⟩
  ·have HF : Hid (Op.bytesLess t t' = R) := by have := HR.out; rw [if_pos rfl, if_neg h2] at this; exact this
   have e2 : (t == t') = false := by simpa using h2
   clear HR
   go_enter Tryz.func48, Tryz.ntmps48
   go_wp2_with fail
   go_ret
   exact ⟨by rw [← HF.out]; rfl, by exact bl⟩
 ·have HF : Hid (Op.bytesLess r r' = R) := by have := HR.out; rw [if_neg h1] at this; exact this
  have e1 : (r == r') = false := by simpa using h1
  clear HR
  go_enter Tryz.func48, Tryz.ntmps48
  go_wp2_with fail
  go_ret
  exact ⟨by rw [← HF.out]; rfl, by exact bl⟩
end Go.Proofs.YtchilcchogcibaaGreatDoor
namespace Go.Proofs.YtchilcchogcibaaGreatDoor
open Go.RowKit
attribute [local go_sem] ByteArray.extract_mk ba_get ba_append
attribute [local go_sem ↓] Go.wp_at_zero Go.wp_at_succ run_eql_G
set_option maxRecDepth 100000 in
set_option maxHeartbeats 8000000 in
theorem rwith_any (A : Option Addr) (c : Nat) (l : List Gr) (g : Gr) (w : World) (hl : l.length ≤ 1000) (h : GQ l A (Old w.heap.size) w) :
  Calls Tryz.prog 44 #[.slice A l.length c, .agg #[.string ⟨g.r.toArray⟩, .string ⟨g.t.toArray⟩, .bool g.w]] w (RetGs (withG l g) w) := by
 obtain ⟨i0, hi0, zi0, zi1, zi2⟩ := info_parts infoGr
 obtain ⟨w0, hw0⟩ : ∃ w0, w.alloc (.cells #[.string ⟨g.r.toArray⟩, .string ⟨g.t.toArray⟩, .bool g.w] 54) = w0 := ⟨_, rfl⟩
 have kg : Blk w0 w.heap.size 54 #[.string ⟨g.r.toArray⟩, .string ⟨g.t.toArray⟩, .bool g.w] := by rw [← hw0]; exact Blk.new _ _ _
 have hb0 : Below w.heap.size w w0 := by rw [← hw0]; exact bl
 have hz0 := hb0.size
 obtain ⟨N, hN⟩ : ∃ N, l.length = N := ⟨_, rfl⟩
 have HL := Lib.hid hN
 obtain ⟨R, hR⟩ : ∃ R, withG l g = R := ⟨_, rfl⟩
 rw [hR]
 have HR : Hid (l.filter (fun x => glt x g) ++ g :: l.filter (fun x => glt g x) = R) := hR
 have HQ : Hid (∀ Z : World, Below w0.heap.size w0 Z → GQ l A (Old w.heap.size) Z) := fun Z hz => h.keep fun b hb => ⟨hb, fun o => (hb0.trans (hz.mono hz0)).cell (p := ⟨b, o, none⟩) hb⟩
 have HK := Lib.hid kg
 have HW := Lib.hid hw0
 have HB0 := Lib.hid hb0
 rw [hN] at hl ⊢
 have HL1 : Hid (0 = ([] : List Gr).length) := rfl
 have HO1 : Hid (w0.ownsRow w0.heap.size 54 3 (.slice none 0 0) 0 (gcs [])) := World.ownsRow_nil _ _ _ _
 have HB1 : Hid (Below w0.heap.size w0 w0) := Below.refl _ _
 clear hN hR h hw0 kg hb0
 go_enter Tryz.func44, Tryz.ntmps44
 go_upto_region 1 with fail
 rw [HW.out]
 clear HW
 go_wp2_with fail
 go_loopw [5, 6] (fun s5' i wr => ∃ (s5 : Value) (j M : Nat) (L : List Gr), s5 = s5' ∧ j ≤ N ∧ M ≤ 0 + j ∧ i = .int .i64 j ∧ Hid (M = L.length) ∧ Hid ([] ++ (l.take j).filter (fun x => glt x g) = L) ∧ wr.ownsRow w0.heap.size 54 3 s5 M (gcs L) ∧ Below w0.heap.size w0 wr) (fun _ i _ => N - (intOf i).toNat)
 case atStart => exact ⟨_, 0, _, _, rfl, by omega, by omega, rfl, HL1.out, by show _ = _; simp, HO1.out, HB1.out⟩
 case round =>
  obtain ⟨s5, j, M, L, rfl, hj, hM, rfl, HM, HJ, hown, hbw⟩ := hrel
  obtain ⟨W, rfl⟩ : ∃ W, W = wr := ⟨_, rfl⟩
  have hzw := hbw.size
  by_cases hlt : j < N
  ·obtain ⟨b, off, x, rfl, hbB, hv, c0, c1, c2⟩ := (HQ.out _ hbw).at_ (j := j) (by rw [HL.out]; exact hlt)
   have lb : b < W.heap.size := by have : b < w.heap.size := hbB; omega
   have hk := HK.out.below hbw HK.out.lt
   have lk := hk.lt
   have HSH : Hid (∀ Z : World, Below W.heap.size W Z → (Z.cell? ⟨b, off + j * 3, none⟩ = some (.string ⟨x.r.toArray⟩) ∧ Z.cell? ⟨b, off + j * 3 + 1, none⟩ = some (.string ⟨x.t.toArray⟩) ∧ Z.cell? ⟨b, off + j * 3 + 2, none⟩ = some (.bool x.w)) ∧ Z.cell? ⟨w.heap.size, 0, none⟩ = some (.string ⟨g.r.toArray⟩) ∧ Z.cell? ⟨w.heap.size, 1, none⟩ = some (.string ⟨g.t.toArray⟩) ∧ Z.cell? ⟨w.heap.size, 2, none⟩ = some (.bool g.w)) := fun Z hz => by
    have hc : ∀ o, Z.cell? ⟨b, o, none⟩ = W.cell? ⟨b, o, none⟩ := fun o => hz.cell (p := ⟨b, o, none⟩) lb
    have kz := hk.below hz lk
    exact ⟨⟨(hc _).trans c0, (hc _).trans c1, (hc _).trans c2⟩, kz.cell 0, kz.cell 1, kz.cell 2⟩
   have HT : Hid ([] ++ (l.take (j + 1)).filter (fun x => glt x g) = if glt x g then L ++ [x] else L) := by
    show _ = _
    rw [List.take_add_one, hv, List.filter_append, ← List.append_assoc, HJ.out]
    by_cases hq : glt x g = true <;> simp [hq]
   have HAH := Lib.hid (ahead_any x g)
   obtain ⟨B, hB⟩ : ∃ B, glt x g = B := ⟨_, rfl⟩
   rw [hB] at HT HAH
   have HOW := Lib.hid hown
   have g10 : (0 : Int) ≤ (j : Int) := by omega
   have g11 : (j : Int) < (N : Int) := by omega
   clear hv c0 c1 c2 hk hown HJ hB
   go_wp2_with fail
   refine rgn HSH fun hHeld => ?_
   refine tS [0, 1, 2, 3, 4] ?_
   iterate 5 (refine tC ?_; refine ap ?_)
   refine tN ?_
   refine rdy 5 fun K hK => ?_
   go_simp
   (refine (HAH.out _).mono ?_) <;> rintro en w5 ⟨rfl, hb5⟩ <;> have hz5 := hb5.size <;> (try simp at hz5)
   go_wp2_with fail
   refine hK.out _ _ (HSH.out _ (by exact bl)) fun hHeld => ?_
   clear hK K
   refine ap ?_
   refine wpAnyH_done (by kernel_rfl) ?_ _
   have hbW5 : Below W.heap.size W w5 := by exact bl
   have hbw5 : Below w0.heap.size w0 w5 := hbw.trans (hbW5.mono hzw)
   have HO5 := Lib.hid (own_below HOW.out hbW5)
   have hz5' : w0.heap.size ≤ w5.heap.size := hbw5.size
   clear hb5 hz5
   cases B with
   | false =>
    have HT2 : Hid ([] ++ (l.take (j + 1)).filter (fun x => glt x g) = L) := HT.out
    go_wp2_with fail
    go_roundw
    case rel => exact ⟨_, j + 1, M, L, rfl, by omega, by omega, by go_num, HM, HT2, HO5.out, hbw5⟩
    case measure => simp [intOf]; omega
   | true =>
    have HT2 : Hid ([] ++ (l.take (j + 1)).filter (fun x => glt x g) = L ++ [x]) := HT.out
    obtain ⟨⟨c0, c1, c2⟩, _⟩ := HSH.out w5 hbW5
    clear HSH hbW5
    have HOLx := Lib.hid HO5.out.lt
    have HOWx := Lib.hid ((HO5.out).alloc (.cells #[.string ⟨x.r.toArray⟩, .string ⟨x.t.toArray⟩, .bool x.w] 54))
    go_wp2_with (at_builtin; refine wpList_append_own _ rfl _ _ 22 rfl w0.heap.size 54 i0 _ 3 40 Tryz.underlying22 hi0 zi0 zi1 zi2 rfl (by decide) _ _ _ rfl HOWx.out ⟨(w5).heap.size, 0, none⟩ 1 1 [.string ⟨x.r.toArray⟩, .string ⟨x.t.toArray⟩, .bool x.w] rfl rfl ?c1i ?c2i ?c3i ?c4i ?c5i ?_)
    try case c1i => exact World.news_of_block (cs := #[.string ⟨x.r.toArray⟩, .string ⟨x.t.toArray⟩, .bool x.w]) (t := 54) (fr := (0, 0)) (heap_alloc_new _ _)
    try case c2i => first | exact ⟨rfl, rfl, rfl⟩ | (intro u hu; simp at hu; rcases hu with rfl | rfl | rfl <;> rfl)
    try case c3i => unfold maxLen; omega
    try case c4i => omega
    try case c5i => first | omega | (simp; omega)
    intro v' w2 hown2 hg2 _
    have hb2 : Below w0.heap.size w0 w2 := ((hbw5).alloc hz5' _).grown hg2 (by have := hz5'; simp; omega) (fun k hk => (HOLx.out k hk).1)
    have HO2 : Hid (w2.ownsRow w0.heap.size 54 3 v' (M + 1) (gcs (L ++ [x]))) := by show World.ownsRow _ _ _ _ _ _ _; rw [gcs_snoc]; exact hown2
    clear hown2 hg2
    go_wp2_with fail
    go_roundw
    case rel => exact ⟨_, j + 1, M + 1, L ++ [x], rfl, by omega, by omega, by go_num, by show _ = _; rw [List.length_append, ← HM.out]; rfl, HT2, HO2.out, hb2⟩
    case measure => simp [intOf]; omega
  ·obtain rfl : N = j := by omega
   have HF : Hid ([] ++ l.filter (fun x => glt x g) = L) := by
    show _ = _
    have := HJ.out
    rw [← HL.out, List.take_length] at this
    exact this
   have HO := Lib.hid hown
   have g11 : ¬ (N : Int) < (N : Int) := by omega
   have hzw' : w0.heap.size ≤ W.heap.size := hbw.size
   clear HJ hlt hown
   have HK2 := Lib.hid (HK.out.below hbw HK.out.lt)
   obtain ⟨⟨k0, k1, k2⟩, _⟩ := HK2.out.three
   have HOLg := Lib.hid HO.out.lt
   have HOWg := Lib.hid ((HO.out).alloc (.cells #[.string ⟨g.r.toArray⟩, .string ⟨g.t.toArray⟩, .bool g.w] 54))
   go_wp2_with (at_builtin; refine wpList_append_own _ rfl _ _ 22 rfl w0.heap.size 54 i0 _ 3 40 Tryz.underlying22 hi0 zi0 zi1 zi2 rfl (by decide) _ _ _ rfl HOWg.out ⟨(W).heap.size, 0, none⟩ 1 1 [.string ⟨g.r.toArray⟩, .string ⟨g.t.toArray⟩, .bool g.w] rfl rfl ?c1k ?c2k ?c3k ?c4k ?c5k ?_)
   try case c1k => exact World.news_of_block (cs := #[.string ⟨g.r.toArray⟩, .string ⟨g.t.toArray⟩, .bool g.w]) (t := 54) (fr := (0, 0)) (heap_alloc_new _ _)
   try case c2k => first | exact ⟨rfl, rfl, rfl⟩ | (intro u hu; simp at hu; rcases hu with rfl | rfl | rfl <;> rfl)
   try case c3k => unfold maxLen; omega
   try case c4k => omega
   try case c5k => first | omega | (simp; omega)
   intro v' w2 hown2 hg2 _
   have hb2 : Below w0.heap.size w0 w2 := ((hbw).alloc hzw' _).grown hg2 (by have := hzw'; simp; omega) (fun k hk => (HOLg.out k hk).1)
   have HO2 : Hid (w2.ownsRow w0.heap.size 54 3 v' (M + 1) (gcs (L ++ [g]))) := by show World.ownsRow _ _ _ _ _ _ _; rw [gcs_snoc]; exact hown2
   clear hown2 hg2
   have HL1 : Hid (M + 1 = (L ++ [g]).length) := by show _ = _; rw [List.length_append, ← HM.out]; rfl
   have HO1 := HO2
   have HB1 := Lib.hid hb2
   obtain ⟨M1, hM1⟩ : ∃ M1, M + 1 = M1 := ⟨_, rfl⟩
   have hM1x : M1 ≤ N + 1 := by omega
   rw [hM1] at HL1 HO1
   obtain ⟨L1, hL1⟩ : ∃ L1, L ++ [g] = L1 := ⟨_, rfl⟩
   have HE1 : Hid (l.filter (fun x => glt x g) ++ [g] = L1) := by show _ = _; rw [← hL1, ← HF.out]; simp
   rw [hL1] at HL1 HO1
   clear HO2 hM1 hL1 hb2 HM HF k0 k1 k2 HK2 hM
   rename_i v'
   go_wp2_with fail
   go_loopw [5, 7] (fun s5' i wr => ∃ (s5 : Value) (j M : Nat) (L : List Gr), s5 = s5' ∧ j ≤ N ∧ M ≤ M1 + j ∧ i = .int .i64 j ∧ Hid (M = L.length) ∧ Hid (L1 ++ (l.take j).filter (fun x => glt g x) = L) ∧ wr.ownsRow w0.heap.size 54 3 s5 M (gcs L) ∧ Below w0.heap.size w0 wr) (fun _ i _ => N - (intOf i).toNat)
   case atStart => exact ⟨_, 0, _, _, rfl, by omega, by omega, rfl, HL1.out, by show _ = _; simp, HO1.out, HB1.out⟩
   case round =>
    obtain ⟨s5, j, M, L, rfl, hj, hM, rfl, HM, HJ, hown, hbw⟩ := hrel
    obtain ⟨W, rfl⟩ : ∃ W, W = wr := ⟨_, rfl⟩
    have hzw := hbw.size
    by_cases hlt : j < N
    ·obtain ⟨b, off, x, rfl, hbB, hv, c0, c1, c2⟩ := (HQ.out _ hbw).at_ (j := j) (by rw [HL.out]; exact hlt)
     have lb : b < W.heap.size := by have : b < w.heap.size := hbB; omega
     have hk := HK.out.below hbw HK.out.lt
     have lk := hk.lt
     have HSH : Hid (∀ Z : World, Below W.heap.size W Z → (Z.cell? ⟨b, off + j * 3, none⟩ = some (.string ⟨x.r.toArray⟩) ∧ Z.cell? ⟨b, off + j * 3 + 1, none⟩ = some (.string ⟨x.t.toArray⟩) ∧ Z.cell? ⟨b, off + j * 3 + 2, none⟩ = some (.bool x.w)) ∧ Z.cell? ⟨w.heap.size, 0, none⟩ = some (.string ⟨g.r.toArray⟩) ∧ Z.cell? ⟨w.heap.size, 1, none⟩ = some (.string ⟨g.t.toArray⟩) ∧ Z.cell? ⟨w.heap.size, 2, none⟩ = some (.bool g.w)) := fun Z hz => by
      have hc : ∀ o, Z.cell? ⟨b, o, none⟩ = W.cell? ⟨b, o, none⟩ := fun o => hz.cell (p := ⟨b, o, none⟩) lb
      have kz := hk.below hz lk
      exact ⟨⟨(hc _).trans c0, (hc _).trans c1, (hc _).trans c2⟩, kz.cell 0, kz.cell 1, kz.cell 2⟩
     have HT : Hid (L1 ++ (l.take (j + 1)).filter (fun x => glt g x) = if glt g x then L ++ [x] else L) := by
      show _ = _
      rw [List.take_add_one, hv, List.filter_append, ← List.append_assoc, HJ.out]
      by_cases hq : glt g x = true <;> simp [hq]
     have HAH := Lib.hid (ahead_any g x)
     obtain ⟨B, hB⟩ : ∃ B, glt g x = B := ⟨_, rfl⟩
     rw [hB] at HT HAH
     have HOW := Lib.hid hown
     have g10 : (0 : Int) ≤ (j : Int) := by omega
     have g11 : (j : Int) < (N : Int) := by omega
     clear hv c0 c1 c2 hk hown HJ hB
     go_wp2_with fail
     refine rgn HSH fun hHeld => ?_
     refine tS [0, 1, 2, 3, 4] ?_
     iterate 5 (refine tC ?_; refine ap ?_)
     refine tN ?_
     refine rdy 5 fun K hK => ?_
     go_simp
     (refine (HAH.out _).mono ?_) <;> rintro en w5 ⟨rfl, hb5⟩ <;> have hz5 := hb5.size <;> (try simp at hz5)
     go_wp2_with fail
     refine hK.out _ _ (HSH.out _ (by exact bl)) fun hHeld => ?_
     clear hK K
     refine ap ?_
     refine wpAnyH_done (by kernel_rfl) ?_ _
     have hbW5 : Below W.heap.size W w5 := by exact bl
     have hbw5 : Below w0.heap.size w0 w5 := hbw.trans (hbW5.mono hzw)
     have HO5 := Lib.hid (own_below HOW.out hbW5)
     have hz5' : w0.heap.size ≤ w5.heap.size := hbw5.size
     clear hb5 hz5
     cases B with
     | false =>
      have HT2 : Hid (L1 ++ (l.take (j + 1)).filter (fun x => glt g x) = L) := HT.out
      go_wp2_with fail
      go_roundw
      case rel => exact ⟨_, j + 1, M, L, rfl, by omega, by omega, by go_num, HM, HT2, HO5.out, hbw5⟩
      case measure => simp [intOf]; omega
     | true =>
      have HT2 : Hid (L1 ++ (l.take (j + 1)).filter (fun x => glt g x) = L ++ [x]) := HT.out
      obtain ⟨⟨c0, c1, c2⟩, _⟩ := HSH.out w5 hbW5
      clear HSH hbW5
      have HOLx := Lib.hid HO5.out.lt
      have HOWx := Lib.hid ((HO5.out).alloc (.cells #[.string ⟨x.r.toArray⟩, .string ⟨x.t.toArray⟩, .bool x.w] 54))
      go_wp2_with (at_builtin; refine wpList_append_own _ rfl _ _ 22 rfl w0.heap.size 54 i0 _ 3 40 Tryz.underlying22 hi0 zi0 zi1 zi2 rfl (by decide) _ _ _ rfl HOWx.out ⟨(w5).heap.size, 0, none⟩ 1 1 [.string ⟨x.r.toArray⟩, .string ⟨x.t.toArray⟩, .bool x.w] rfl rfl ?c1j ?c2j ?c3j ?c4j ?c5j ?_)
      try case c1j => exact World.news_of_block (cs := #[.string ⟨x.r.toArray⟩, .string ⟨x.t.toArray⟩, .bool x.w]) (t := 54) (fr := (0, 0)) (heap_alloc_new _ _)
      try case c2j => first | exact ⟨rfl, rfl, rfl⟩ | (intro u hu; simp at hu; rcases hu with rfl | rfl | rfl <;> rfl)
      try case c3j => unfold maxLen; omega
      try case c4j => omega
      try case c5j => first | omega | (simp; omega)
      intro v' w2 hown2 hg2 _
      have hb2 : Below w0.heap.size w0 w2 := ((hbw5).alloc hz5' _).grown hg2 (by have := hz5'; simp; omega) (fun k hk => (HOLx.out k hk).1)
      have HO2 : Hid (w2.ownsRow w0.heap.size 54 3 v' (M + 1) (gcs (L ++ [x]))) := by show World.ownsRow _ _ _ _ _ _ _; rw [gcs_snoc]; exact hown2
      clear hown2 hg2
      go_wp2_with fail
      go_roundw
      case rel => exact ⟨_, j + 1, M + 1, L ++ [x], rfl, by omega, by omega, by go_num, by show _ = _; rw [List.length_append, ← HM.out]; rfl, HT2, HO2.out, hb2⟩
      case measure => simp [intOf]; omega
    ·obtain rfl : N = j := by omega
     have HF : Hid (L1 ++ l.filter (fun x => glt g x) = L) := by
      show _ = _
      have := HJ.out
      rw [← HL.out, List.take_length] at this
      exact this
     have HO := Lib.hid hown
     have g11 : ¬ (N : Int) < (N : Int) := by omega
     have hzw' : w0.heap.size ≤ W.heap.size := hbw.size
     clear HJ hlt hown
     have HE : Hid (R = L) := by show _ = _; rw [← HR.out, ← HF.out, ← HE1.out]; simp
     have HB2 := Lib.hid (HB0.out.trans (hbw.mono HB0.out.size))
     have HO2 := Lib.hid (own_less HO.out HB0.out.size)
     go_wp2_with fail
     go_ret
     rw [HE.out]
     exact ⟨_, rfl, by have := HO2.out; rw [HM.out] at this; exact this, HB2.out⟩
end Go.Proofs.YtchilcchogcibaaGreatDoor
namespace Go.Proofs.YtchilcchogcibaaGreatDoor
open Go.RowKit
theorem chk_nil : chkG [] = 0 := rfl
/-- What the document's Do answers. -/
def rdoG (l : List Gr) (s : St) : List Gr × Int :=
 if chkG l ≠ 0 ∨ mayS s = false ∨ s.role = adminT ∨ (s.op ≠ oRead ∧ s.op ≠ oWrite ∧ s.op ≠ oUnread ∧ s.op ≠ oUnwrite) then ([], 1)
 else if s.op = oUnread ∨ s.op = oUnwrite then (delG l (stG s), 0)
 else if decide (60 ≤ l.length) && !decide (stG s ∈ l) then ([], 13)
 else (withG l (stG s), 0)
theorem do_D (l : List Gr) (s : St) : doG l s = rdoG l s := by
 unfold doG rdoG
 by_cases h1 : chkG l = 0
 ·rw [if_pos h1]
  by_cases h2 : mayS s = true
  ·rw [if_pos h2]
   by_cases h3 : s.role = adminT
   ·rw [if_pos h3, if_pos (.inr (.inr (.inl h3)))]
   rw [if_neg h3]
   by_cases h4 : s.op = oRead ∨ s.op = oWrite
   ·have hn : ¬ (s.op = oUnread ∨ s.op = oUnwrite) := by rcases h4 with e | e <;> rw [e] <;> decide
    rw [if_pos h4, if_neg (c := _ ∨ _), if_neg hn, add_eq ((chk_iff l).1 h1).2.2]
    rintro (h | h | h | ⟨a, b, _⟩)
    ·exact h h1
    ·rw [h2] at h; cases h
    ·exact h3 h
    ·rcases h4 with e | e
     ·exact a e
     ·exact b e
   ·rw [if_neg h4]
    by_cases h5 : s.op = oUnread ∨ s.op = oUnwrite
    ·rw [if_pos h5, if_neg, if_pos h5]
     rintro (h | h | h | ⟨_, _, a, b⟩)
     ·exact h h1
     ·rw [h2] at h; cases h
     ·exact h3 h
     ·rcases h5 with e | e
      ·exact a e
      ·exact b e
    ·rw [if_neg h5, if_pos]
     exact .inr (.inr (.inr ⟨fun e => h4 (.inl e), fun e => h4 (.inr e), fun e => h5 (.inl e), fun e => h5 (.inr e)⟩))
  ·rw [if_neg h2, if_pos (.inr (.inl (by simpa using h2)))]
 ·rw [if_neg h1, if_pos (.inl h1)]
theorem mem_foldl (l : List Gr) (u : List UInt8) (ts : List (List UInt8)) : ∀ (r acc : List Gr) (y : Gr), y ∈ r.foldl (bothStep l u ts) acc ↔ y ∈ acc ∨ ∃ g ∈ r, ts.any (lackG l g) = false ∧ y = ⟨g.r, u, g.w⟩
 | [], acc, y => by simp
 | x :: r, acc, y => by
  rw [List.foldl_cons, mem_foldl l u ts r]
  have e : y ∈ bothStep l u ts acc x ↔ y ∈ acc ∨ (ts.any (lackG l x) = false ∧ y = ⟨x.r, u, x.w⟩) := by
   unfold bothStep
   cases ts.any (lackG l x)
   ·rw [if_neg (by decide)]
    rw [mem_addG]
    simp
   ·rw [if_pos rfl]
    simp
  rw [e]
  constructor
  ·rintro ((h | h) | ⟨g, hg, h⟩)
   ·exact .inl h
   ·exact .inr ⟨x, by simp, h⟩
   ·exact .inr ⟨g, by simp [hg], h⟩
  ·rintro (h | ⟨g, hg, h⟩)
   ·exact .inl (.inl h)
   ·rcases List.mem_cons.1 hg with rfl | hg
    ·exact .inl (.inr h)
    ·exact .inr ⟨g, hg, h⟩
theorem mem_two (l : List Gr) (u a b role : List UInt8) (w : Bool) : (⟨role, u, w⟩ : Gr) ∈ bothG l u [a, b] ↔ (⟨role, a, w⟩ : Gr) ∈ l ∧ (⟨role, b, w⟩ : Gr) ∈ l := by
 unfold bothG
 rw [if_neg (by simp), mem_foldl]
 constructor
 ·rintro (h | ⟨g, hg, h1, h2⟩)
  ·unfold withoutG at h
   have := (List.mem_filter.1 h).2
   simp at this
  ·injection h2 with e1 _ e3
   subst e1 e3
   simp only [List.any_cons, List.any_nil, Bool.or_false, Bool.or_eq_false_iff, lackG, Bool.not_eq_false', decide_eq_true_eq] at h1
   exact h1
 ·rintro ⟨h1, h2⟩
  refine .inr ⟨⟨role, a, w⟩, h1, ?_, rfl⟩
  simp [lackG, h1, h2]
theorem mem_other (l : List Gr) (u a b role t : List UInt8) (w : Bool) (ht : ¬ t = u) : (⟨role, t, w⟩ : Gr) ∈ bothG l u [a, b] ↔ (⟨role, t, w⟩ : Gr) ∈ l := by
 unfold bothG
 rw [if_neg (by simp), mem_foldl]
 constructor
 ·rintro (h | ⟨g, _, _, h2⟩)
  ·exact (List.mem_filter.1 h).1
  ·injection h2 with _ e2 _
   exact absurd e2 ht
 ·intro h
  refine .inl (List.mem_filter.2 ⟨h, ?_⟩)
  simpa using ht
/-- What a role may with a table that stands for two. -/
theorem both_law (l : List Gr) (u a b role : List UInt8) (hl : chkG l = 0) (hx : chkG (bothG l u [a, b]) = 0) (hr : ¬ role = adminT) (ha : ¬ a = u) :
  (mayG (bothG l u [a, b]) role oSelect u = (mayG l role oSelect a && mayG l role oSelect b)) ∧ (mayG (bothG l u [a, b]) role oDelete u = (mayG l role oDelete a && mayG l role oDelete b)) ∧
  mayG (bothG l u [a, b]) role oSelect a = mayG l role oSelect a ∧ mayG (bothG l u [a, b]) role oDelete a = mayG l role oDelete a := by
 unfold mayG
 have hs : ¬ oDelete = oSelect := by decide
 rw [hl, hx]
 simp only [if_neg hr, if_neg hs, mem_two, mem_other _ _ _ _ _ _ _ ha]
 refine ⟨?_, ?_, trivial, trivial⟩
 ·simp
 ·by_cases h1 : (⟨role, a, false⟩ : Gr) ∈ l <;> by_cases h2 : (⟨role, b, false⟩ : Gr) ∈ l <;> by_cases h3 : (⟨role, a, true⟩ : Gr) ∈ l <;> by_cases h4 : (⟨role, b, true⟩ : Gr) ∈ l <;> simp [h1, h2, h3, h4]
end Go.Proofs.YtchilcchogcibaaGreatDoor
namespace Go.Proofs.YtchilcchogcibaaGreatDoor
open Go.RowKit
theorem mayG_admin (l : List Gr) (op tb : List UInt8) (h : chkG l = 0) : mayG l adminT op tb = true := by unfold mayG; rw [if_pos h, if_pos rfl]
theorem mayG_bad (l : List Gr) (role op tb : List UInt8) (h : ¬ chkG l = 0) : mayG l role op tb = false := by unfold mayG; rw [if_neg h]
theorem mayG_none (op tb : List UInt8) : mayG [] [114] op tb = false := by
 unfold mayG
 rw [if_pos chk_nil, if_neg (by decide)]
 by_cases h1 : op = oSelect
 ·rw [if_pos h1]; simp
 ·rw [if_neg h1]
  by_cases h2 : op = oInsert ∨ op = oUpdate ∨ op = oDelete
  ·rw [if_pos h2]; simp
  ·rw [if_neg h2]
theorem without_split {l : List Gr} {i : Nat} {x : Gr} (h : l[i]? = some x) (t : List UInt8) : withoutG l t = withoutG (l.take i) t ++ withoutG (x :: l.drop (i + 1)) t := by
 unfold withoutG
 rw [← List.filter_append]
 congr 1
 have hi := (List.getElem?_eq_some_iff.1 h)
 obtain ⟨hi, rfl⟩ := hi
 rw [← List.drop_eq_getElem_cons hi, List.take_append_drop]
theorem without_more {l : List Gr} {i : Nat} {x : Gr} (h : l[i]? = some x) (t : List UInt8) : withoutG (l.take (i + 1)) t = withoutG (l.take i) t ++ withoutG [x] t := by
 unfold withoutG
 rw [List.take_add_one, h, List.filter_append]
 rfl
theorem without_one {x : Gr} {t : List UInt8} (h : ¬ x.t = t) (r : List Gr) : withoutG (x :: r) t = x :: withoutG r t := by
 unfold withoutG
 rw [List.filter_cons_of_pos (by simpa using h)]
theorem without_at {l : List Gr} {i : Nat} {x : Gr} {t : List UInt8} (h : l[i]? = some x) (ht : ¬ x.t = t) : (withoutG l t)[(withoutG (l.take i) t).length]? = some x ∧ (withoutG (l.take (i + 1)) t).length = (withoutG (l.take i) t).length + 1 := by
 rw [without_more h, without_split h, without_one ht, without_one ht]
 refine ⟨?_, ?_⟩
 ·rw [List.getElem?_append_right (Nat.le_refl _)]; simp
 ·simp [withoutG]
theorem without_skip {l : List Gr} {i : Nat} {x : Gr} {t : List UInt8} (h : l[i]? = some x) (ht : x.t = t) : (withoutG (l.take (i + 1)) t).length = (withoutG (l.take i) t).length := by
 rw [without_more h]
 simp [withoutG, ht]
theorem doG_op (l : List Gr) (s : St) (h : (doG l s).2 = 0) : s.op = oRead ∨ s.op = oWrite ∨ s.op = oUnread ∨ s.op = oUnwrite := by
 rcases h0 : doG l s with ⟨r, n⟩
 have hc := doG_cases l s
 rw [h0] at hc h
 cases hc with
 | no n h' =>
  dsimp only at h
  rcases h' with e | e <;> rw [e] at h <;> cases h
 | add _ _ _ ho _ => exact ho.elim .inl fun h => .inr (.inl h)
 | del _ _ _ ho => exact .inr (.inr ho)
theorem has_nil (role tb : List UInt8) (w : Bool) : hasG [] role tb w = false := by simp [hasG]
theorem has_other (l : List Gr) (s : St) (h : (doG l s).2 = 0) (role tb : List UInt8) (w : Bool) (hn : ¬ (s.role = role ∧ s.tb = tb)) : hasG (doG l s).1 role tb w = hasG l role tb w := by
 unfold hasG
 rw [stays_law l s h, if_neg (fun e => hn ⟨e.1, e.2.1⟩)]
theorem has_unread (l : List Gr) (s : St) (h : (doG l s).2 = 0) (role tb : List UInt8) (hr : s.role = role) (ht : s.tb = tb) (ho : s.op = oUnread) : hasG (doG l s).1 role tb false = false ∧ hasG (doG l s).1 role tb true = hasG l role tb true := by
 rw [has_this l s h _ _ _ hr ht, has_this l s h _ _ _ hr ht, ho]; exact ⟨rfl, rfl⟩
theorem has_write (l : List Gr) (s : St) (h : (doG l s).2 = 0) (role tb : List UInt8) (hr : s.role = role) (ht : s.tb = tb) (ho : s.op = oWrite) : hasG (doG l s).1 role tb true = true ∧ hasG (doG l s).1 role tb false = hasG l role tb false := by
 rw [has_this l s h _ _ _ hr ht, has_this l s h _ _ _ hr ht, ho]; exact ⟨rfl, rfl⟩
theorem has_unwrite (l : List Gr) (s : St) (h : (doG l s).2 = 0) (role tb : List UInt8) (hr : s.role = role) (ht : s.tb = tb) (ho : s.op = oUnwrite) : hasG (doG l s).1 role tb true = false ∧ hasG (doG l s).1 role tb false = hasG l role tb false := by
 rw [has_this l s h _ _ _ hr ht, has_this l s h _ _ _ hr ht, ho]; exact ⟨rfl, rfl⟩
theorem may_delete (l : List Gr) (role tb : List UInt8) (h : chkG l = 0) (hr : ¬ role = adminT) : mayG l role oDelete tb = (hasG l role tb false && hasG l role tb true) := by
 unfold mayG hasG; rw [if_pos h, if_neg hr, if_neg (by decide), if_pos (by decide)]
theorem may_drop (l : List Gr) (role tb : List UInt8) (h : chkG l = 0) (hr : ¬ role = adminT) : mayG l role oDrop tb = false := by
 unfold mayG; rw [if_pos h, if_neg hr, if_neg (by decide), if_neg (by decide)]
end Go.Proofs.YtchilcchogcibaaGreatDoor
namespace Go.Proofs.YtchilcchogcibaaGreatDoor
open Go.ChangeShapes Go.WideShapes Go.ChangeAt Go.RowKit Go.Deep Go.Joins
theorem laidOut : laidOutB Tryz.prog = true := by kernel_rfl
end Go.Proofs.YtchilcchogcibaaGreatDoor
