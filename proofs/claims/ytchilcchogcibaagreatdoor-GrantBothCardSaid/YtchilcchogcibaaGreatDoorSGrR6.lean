/- The document's With and Both of grants as plain functions. Condition: slices that read as no more than 400 grants, and as texts.. -/
import Derived.Test.YtchilcchogcibaaGreatDoorSGr8
import Derived.Test.YtchilcchogcibaaGreatDoorSGrR1
import Derived.Test.YtchilcchogcibaaGreatDoorSLex1
import Derived.Test.YtchilcchogcibaaGreatDoorSStC
namespace Go.Proofs.YtchilcchogcibaaGreatDoor
open Go.RowKit
attribute [local go_sem] ByteArray.extract_mk ba_get ba_append
attribute [local go_sem ↓] Go.wp_at_zero Go.wp_at_succ run_eql_G
set_option maxRecDepth 100000 in
set_option maxHeartbeats 8000000 in
theorem rwith_any (A : Option Addr) (c : Nat) (l : List Gr) (g : Gr) (w : World) (hl : l.length ≤ 1000) (h : GQ l A (Old w.heap.size) w) :
  Calls Tryz.prog 44 #[.slice A l.length c, .agg #[.string ⟨g.r.toArray⟩, .string ⟨g.t.toArray⟩, .bool g.w]] w (RetGs (withG l g) w) := by
 obtain ⟨i0, hi0, zi0, zi1, zi2⟩ := info_parts infoGr
 obtain ⟨w0, hw0⟩ : ∃ w0, w.alloc (.cells #[.string ⟨g.r.toArray⟩, .string ⟨g.t.toArray⟩, .bool g.w] 54) = w0 := ⟨_, rfl⟩
 have kg : Blk w0 w.heap.size 54 #[.string ⟨g.r.toArray⟩, .string ⟨g.t.toArray⟩, .bool g.w] := by rw [← hw0]; exact Blk.new _ _ _
 have hb0 : Below w.heap.size w w0 := by rw [← hw0]; exact bl
 have hz0 := hb0.size
 obtain ⟨N, hN⟩ : ∃ N, l.length = N := ⟨_, rfl⟩
 have HL := Lib.hid hN
 obtain ⟨R, hR⟩ : ∃ R, withG l g = R := ⟨_, rfl⟩
 rw [hR]
 have HR : Hid (l.filter (fun x => glt x g) ++ g :: l.filter (fun x => glt g x) = R) := hR
 have HQ : Hid (∀ Z : World, Below w0.heap.size w0 Z → GQ l A (Old w.heap.size) Z) := fun Z hz => h.keep fun b hb => ⟨hb, fun o => (hb0.trans (hz.mono hz0)).cell (p := ⟨b, o, none⟩) hb⟩
 have HK := Lib.hid kg
 have HW := Lib.hid hw0
 have HB0 := Lib.hid hb0
 rw [hN] at hl ⊢
 have HL1 : Hid (0 = ([] : List Gr).length) := rfl
 have HO1 : Hid (w0.ownsRow w0.heap.size 54 3 (.slice none 0 0) 0 (gcs [])) := World.ownsRow_nil _ _ _ _
 have HB1 : Hid (Below w0.heap.size w0 w0) := Below.refl _ _
 clear hN hR h hw0 kg hb0
 go_enter Tryz.func44, Tryz.ntmps44
 go_upto_region 1 with fail
 rw [HW.out]
 clear HW
 go_wp2_with fail
 go_loopw [5, 6] (fun s5' i wr => ∃ (s5 : Value) (j M : Nat) (L : List Gr), s5 = s5' ∧ j ≤ N ∧ M ≤ 0 + j ∧ i = .int .i64 j ∧ Hid (M = L.length) ∧ Hid ([] ++ (l.take j).filter (fun x => glt x g) = L) ∧ wr.ownsRow w0.heap.size 54 3 s5 M (gcs L) ∧ Below w0.heap.size w0 wr) (fun _ i _ => N - (intOf i).toNat)
 case atStart => exact ⟨_, 0, _, _, rfl, by omega, by omega, rfl, HL1.out, by show _ = _; simp, HO1.out, HB1.out⟩
 case round =>
  obtain ⟨s5, j, M, L, rfl, hj, hM, rfl, HM, HJ, hown, hbw⟩ := hrel
  obtain ⟨W, rfl⟩ : ∃ W, W = wr := ⟨_, rfl⟩
  have hzw := hbw.size
  by_cases hlt : j < N
  ·obtain ⟨b, off, x, rfl, hbB, hv, c0, c1, c2⟩ := (HQ.out _ hbw).at_ (j := j) (by rw [HL.out]; exact hlt)
   have lb : b < W.heap.size := by have : b < w.heap.size := hbB; omega
   have hk := HK.out.below hbw HK.out.lt
   have lk := hk.lt
   have HSH : Hid (∀ Z : World, Below W.heap.size W Z → (Z.cell? ⟨b, off + j * 3, none⟩ = some (.string ⟨x.r.toArray⟩) ∧ Z.cell? ⟨b, off + j * 3 + 1, none⟩ = some (.string ⟨x.t.toArray⟩) ∧ Z.cell? ⟨b, off + j * 3 + 2, none⟩ = some (.bool x.w)) ∧ Z.cell? ⟨w.heap.size, 0, none⟩ = some (.string ⟨g.r.toArray⟩) ∧ Z.cell? ⟨w.heap.size, 1, none⟩ = some (.string ⟨g.t.toArray⟩) ∧ Z.cell? ⟨w.heap.size, 2, none⟩ = some (.bool g.w)) := fun Z hz => by
    have hc : ∀ o, Z.cell? ⟨b, o, none⟩ = W.cell? ⟨b, o, none⟩ := fun o => hz.cell (p := ⟨b, o, none⟩) lb
    have kz := hk.below hz lk
    exact ⟨⟨(hc _).trans c0, (hc _).trans c1, (hc _).trans c2⟩, kz.cell 0, kz.cell 1, kz.cell 2⟩
   have HT : Hid ([] ++ (l.take (j + 1)).filter (fun x => glt x g) = if glt x g then L ++ [x] else L) := by
    show _ = _
    rw [List.take_add_one, hv, List.filter_append, ← List.append_assoc, HJ.out]
    by_cases hq : glt x g = true <;> simp [hq]
   have HAH := Lib.hid (ahead_any x g)
   obtain ⟨B, hB⟩ : ∃ B, glt x g = B := ⟨_, rfl⟩
   rw [hB] at HT HAH
   have HOW := Lib.hid hown
   have g10 : (0 : Int) ≤ (j : Int) := by omega
   have g11 : (j : Int) < (N : Int) := by omega
   clear hv c0 c1 c2 hk hown HJ hB
   go_wp2_with fail
   refine wp_region_held_drew (S := (fun Z => (Z.cell? ⟨b, off + j * 3, none⟩ = some (.string ⟨x.r.toArray⟩) ∧ Z.cell? ⟨b, off + j * 3 + 1, none⟩ = some (.string ⟨x.t.toArray⟩) ∧ Z.cell? ⟨b, off + j * 3 + 2, none⟩ = some (.bool x.w)) ∧ Z.cell? ⟨w.heap.size, 0, none⟩ = some (.string ⟨g.r.toArray⟩) ∧ Z.cell? ⟨w.heap.size, 1, none⟩ = some (.string ⟨g.t.toArray⟩) ∧ Z.cell? ⟨w.heap.size, 2, none⟩ = some (.bool g.w))) (by kernel_rfl) ?_ (fun hHeld => ?_)
   ·try dsimp only
    exact HSH.out _ (by exact bl)
   refine tS [0, 1, 2, 3, 4] ?_
   iterate 5 (refine tC ?_; refine ap ?_)
   refine tN ?_
   refine rdy 5 fun K hK => ?_
   go_simp
   (refine (HAH.out _).mono ?_) <;> rintro en w5 ⟨rfl, hb5⟩ <;> have hz5 := hb5.size <;> (try simp at hz5)
   go_wp2_with fail
   refine hK.out _ _ ?_ (fun hHeld => ?_)
   ·try dsimp only
    exact HSH.out _ (by exact bl)
   clear hK K
   refine ap ?_
   refine wpAnyH_done (by kernel_rfl) ?_ _
   have hbW5 : Below W.heap.size W w5 := by exact bl
   have hbw5 : Below w0.heap.size w0 w5 := hbw.trans (hbW5.mono hzw)
   have HO5 := Lib.hid (own_below HOW.out hbW5)
   have hz5' : w0.heap.size ≤ w5.heap.size := hbw5.size
   clear hb5 hz5
   cases B with
   | false =>
    have HT2 : Hid ([] ++ (l.take (j + 1)).filter (fun x => glt x g) = L) := HT.out
    go_wp2_with fail
    go_roundw
    case rel => exact ⟨_, j + 1, M, L, rfl, by omega, by omega, by go_num, HM, HT2, HO5.out, hbw5⟩
    case measure => simp [intOf]; omega
   | true =>
    have HT2 : Hid ([] ++ (l.take (j + 1)).filter (fun x => glt x g) = L ++ [x]) := HT.out
    obtain ⟨⟨c0, c1, c2⟩, _⟩ := HSH.out w5 hbW5
    clear HSH hbW5
    have HOLx := Lib.hid HO5.out.lt
    have HOWx := Lib.hid ((HO5.out).alloc (.cells #[.string ⟨x.r.toArray⟩, .string ⟨x.t.toArray⟩, .bool x.w] 54))
    go_wp2_with (at_builtin; refine wpList_append_own _ rfl _ _ 22 rfl w0.heap.size 54 i0 _ 3 40 Tryz.underlying22 hi0 zi0 zi1 zi2 rfl (by decide) _ _ _ rfl HOWx.out ⟨(w5).heap.size, 0, none⟩ 1 1 [.string ⟨x.r.toArray⟩, .string ⟨x.t.toArray⟩, .bool x.w] rfl rfl ?c1i ?c2i ?c3i ?c4i ?c5i ?_)
    try case c1i => exact World.news_of_block (cs := #[.string ⟨x.r.toArray⟩, .string ⟨x.t.toArray⟩, .bool x.w]) (t := 54) (fr := (0, 0)) (heap_alloc_new _ _)
    try case c2i => first | exact ⟨rfl, rfl, rfl⟩ | (intro u hu; simp at hu; rcases hu with rfl | rfl | rfl <;> rfl)
    try case c3i => unfold maxLen; omega
    try case c4i => omega
    try case c5i => first | omega | (simp; omega)
    intro v' w2 hown2 hg2 _
    have hb2 : Below w0.heap.size w0 w2 := ((hbw5).alloc hz5' _).grown hg2 (by have := hz5'; simp; omega) (fun k hk => (HOLx.out k hk).1)
    have HO2 : Hid (w2.ownsRow w0.heap.size 54 3 v' (M + 1) (gcs (L ++ [x]))) := by show World.ownsRow _ _ _ _ _ _ _; rw [gcs_snoc]; exact hown2
    clear hown2 hg2
    go_wp2_with fail
    go_roundw
    case rel => exact ⟨_, j + 1, M + 1, L ++ [x], rfl, by omega, by omega, by go_num, by show _ = _; rw [List.length_append, ← HM.out]; rfl, HT2, HO2.out, hb2⟩
    case measure => simp [intOf]; omega
  ·obtain rfl : N = j := by omega
   have HF : Hid ([] ++ l.filter (fun x => glt x g) = L) := by
    show _ = _
    have := HJ.out
    rw [← HL.out, List.take_length] at this
    exact this
   have HO := Lib.hid hown
   have g11 : ¬ (N : Int) < (N : Int) := by omega
   have hzw' : w0.heap.size ≤ W.heap.size := hbw.size
   clear HJ hlt hown
   have HK2 := Lib.hid (HK.out.below hbw HK.out.lt)
   obtain ⟨⟨k0, k1, k2⟩, _⟩ := HK2.out.three
   have HOLg := Lib.hid HO.out.lt
   have HOWg := Lib.hid ((HO.out).alloc (.cells #[.string ⟨g.r.toArray⟩, .string ⟨g.t.toArray⟩, .bool g.w] 54))
   go_wp2_with (at_builtin; refine wpList_append_own _ rfl _ _ 22 rfl w0.heap.size 54 i0 _ 3 40 Tryz.underlying22 hi0 zi0 zi1 zi2 rfl (by decide) _ _ _ rfl HOWg.out ⟨(W).heap.size, 0, none⟩ 1 1 [.string ⟨g.r.toArray⟩, .string ⟨g.t.toArray⟩, .bool g.w] rfl rfl ?c1k ?c2k ?c3k ?c4k ?c5k ?_)
   try case c1k => exact World.news_of_block (cs := #[.string ⟨g.r.toArray⟩, .string ⟨g.t.toArray⟩, .bool g.w]) (t := 54) (fr := (0, 0)) (heap_alloc_new _ _)
   try case c2k => first | exact ⟨rfl, rfl, rfl⟩ | (intro u hu; simp at hu; rcases hu with rfl | rfl | rfl <;> rfl)
   try case c3k => unfold maxLen; omega
   try case c4k => omega
   try case c5k => first | omega | (simp; omega)
   intro v' w2 hown2 hg2 _
   have hb2 : Below w0.heap.size w0 w2 := ((hbw).alloc hzw' _).grown hg2 (by have := hzw'; simp; omega) (fun k hk => (HOLg.out k hk).1)
   have HO2 : Hid (w2.ownsRow w0.heap.size 54 3 v' (M + 1) (gcs (L ++ [g]))) := by show World.ownsRow _ _ _ _ _ _ _; rw [gcs_snoc]; exact hown2
   clear hown2 hg2
   have HL1 : Hid (M + 1 = (L ++ [g]).length) := by show _ = _; rw [List.length_append, ← HM.out]; rfl
   have HO1 := HO2
   have HB1 := Lib.hid hb2
   obtain ⟨M1, hM1⟩ : ∃ M1, M + 1 = M1 := ⟨_, rfl⟩
   have hM1x : M1 ≤ N + 1 := by omega
   rw [hM1] at HL1 HO1
   obtain ⟨L1, hL1⟩ : ∃ L1, L ++ [g] = L1 := ⟨_, rfl⟩
   have HE1 : Hid (l.filter (fun x => glt x g) ++ [g] = L1) := by show _ = _; rw [← hL1, ← HF.out]; simp
   rw [hL1] at HL1 HO1
   clear HO2 hM1 hL1 hb2 HM HF k0 k1 k2 HK2 hM
   rename_i v'
   go_wp2_with fail
   go_loopw [5, 7] (fun s5' i wr => ∃ (s5 : Value) (j M : Nat) (L : List Gr), s5 = s5' ∧ j ≤ N ∧ M ≤ M1 + j ∧ i = .int .i64 j ∧ Hid (M = L.length) ∧ Hid (L1 ++ (l.take j).filter (fun x => glt g x) = L) ∧ wr.ownsRow w0.heap.size 54 3 s5 M (gcs L) ∧ Below w0.heap.size w0 wr) (fun _ i _ => N - (intOf i).toNat)
   case atStart => exact ⟨_, 0, _, _, rfl, by omega, by omega, rfl, HL1.out, by show _ = _; simp, HO1.out, HB1.out⟩
   case round =>
    obtain ⟨s5, j, M, L, rfl, hj, hM, rfl, HM, HJ, hown, hbw⟩ := hrel
    obtain ⟨W, rfl⟩ : ∃ W, W = wr := ⟨_, rfl⟩
    have hzw := hbw.size
    by_cases hlt : j < N
    ·obtain ⟨b, off, x, rfl, hbB, hv, c0, c1, c2⟩ := (HQ.out _ hbw).at_ (j := j) (by rw [HL.out]; exact hlt)
     have lb : b < W.heap.size := by have : b < w.heap.size := hbB; omega
     have hk := HK.out.below hbw HK.out.lt
     have lk := hk.lt
     have HSH : Hid (∀ Z : World, Below W.heap.size W Z → (Z.cell? ⟨b, off + j * 3, none⟩ = some (.string ⟨x.r.toArray⟩) ∧ Z.cell? ⟨b, off + j * 3 + 1, none⟩ = some (.string ⟨x.t.toArray⟩) ∧ Z.cell? ⟨b, off + j * 3 + 2, none⟩ = some (.bool x.w)) ∧ Z.cell? ⟨w.heap.size, 0, none⟩ = some (.string ⟨g.r.toArray⟩) ∧ Z.cell? ⟨w.heap.size, 1, none⟩ = some (.string ⟨g.t.toArray⟩) ∧ Z.cell? ⟨w.heap.size, 2, none⟩ = some (.bool g.w)) := fun Z hz => by
      have hc : ∀ o, Z.cell? ⟨b, o, none⟩ = W.cell? ⟨b, o, none⟩ := fun o => hz.cell (p := ⟨b, o, none⟩) lb
      have kz := hk.below hz lk
      exact ⟨⟨(hc _).trans c0, (hc _).trans c1, (hc _).trans c2⟩, kz.cell 0, kz.cell 1, kz.cell 2⟩
     have HT : Hid (L1 ++ (l.take (j + 1)).filter (fun x => glt g x) = if glt g x then L ++ [x] else L) := by
      show _ = _
      rw [List.take_add_one, hv, List.filter_append, ← List.append_assoc, HJ.out]
      by_cases hq : glt g x = true <;> simp [hq]
     have HAH := Lib.hid (ahead_any g x)
     obtain ⟨B, hB⟩ : ∃ B, glt g x = B := ⟨_, rfl⟩
     rw [hB] at HT HAH
     have HOW := Lib.hid hown
     have g10 : (0 : Int) ≤ (j : Int) := by omega
     have g11 : (j : Int) < (N : Int) := by omega
     clear hv c0 c1 c2 hk hown HJ hB
     go_wp2_with fail
     refine wp_region_held_drew (S := (fun Z => (Z.cell? ⟨b, off + j * 3, none⟩ = some (.string ⟨x.r.toArray⟩) ∧ Z.cell? ⟨b, off + j * 3 + 1, none⟩ = some (.string ⟨x.t.toArray⟩) ∧ Z.cell? ⟨b, off + j * 3 + 2, none⟩ = some (.bool x.w)) ∧ Z.cell? ⟨w.heap.size, 0, none⟩ = some (.string ⟨g.r.toArray⟩) ∧ Z.cell? ⟨w.heap.size, 1, none⟩ = some (.string ⟨g.t.toArray⟩) ∧ Z.cell? ⟨w.heap.size, 2, none⟩ = some (.bool g.w))) (by kernel_rfl) ?_ (fun hHeld => ?_)
     ·try dsimp only
      exact HSH.out _ (by exact bl)
     refine tS [0, 1, 2, 3, 4] ?_
     iterate 5 (refine tC ?_; refine ap ?_)
     refine tN ?_
     refine rdy 5 fun K hK => ?_
     go_simp
     (refine (HAH.out _).mono ?_) <;> rintro en w5 ⟨rfl, hb5⟩ <;> have hz5 := hb5.size <;> (try simp at hz5)
     go_wp2_with fail
     refine hK.out _ _ ?_ (fun hHeld => ?_)
     ·try dsimp only
      exact HSH.out _ (by exact bl)
     clear hK K
     refine ap ?_
     refine wpAnyH_done (by kernel_rfl) ?_ _
     have hbW5 : Below W.heap.size W w5 := by exact bl
     have hbw5 : Below w0.heap.size w0 w5 := hbw.trans (hbW5.mono hzw)
     have HO5 := Lib.hid (own_below HOW.out hbW5)
     have hz5' : w0.heap.size ≤ w5.heap.size := hbw5.size
     clear hb5 hz5
     cases B with
     | false =>
      have HT2 : Hid (L1 ++ (l.take (j + 1)).filter (fun x => glt g x) = L) := HT.out
      go_wp2_with fail
      go_roundw
      case rel => exact ⟨_, j + 1, M, L, rfl, by omega, by omega, by go_num, HM, HT2, HO5.out, hbw5⟩
      case measure => simp [intOf]; omega
     | true =>
      have HT2 : Hid (L1 ++ (l.take (j + 1)).filter (fun x => glt g x) = L ++ [x]) := HT.out
      obtain ⟨⟨c0, c1, c2⟩, _⟩ := HSH.out w5 hbW5
      clear HSH hbW5
      have HOLx := Lib.hid HO5.out.lt
      have HOWx := Lib.hid ((HO5.out).alloc (.cells #[.string ⟨x.r.toArray⟩, .string ⟨x.t.toArray⟩, .bool x.w] 54))
      go_wp2_with (at_builtin; refine wpList_append_own _ rfl _ _ 22 rfl w0.heap.size 54 i0 _ 3 40 Tryz.underlying22 hi0 zi0 zi1 zi2 rfl (by decide) _ _ _ rfl HOWx.out ⟨(w5).heap.size, 0, none⟩ 1 1 [.string ⟨x.r.toArray⟩, .string ⟨x.t.toArray⟩, .bool x.w] rfl rfl ?c1j ?c2j ?c3j ?c4j ?c5j ?_)
      try case c1j => exact World.news_of_block (cs := #[.string ⟨x.r.toArray⟩, .string ⟨x.t.toArray⟩, .bool x.w]) (t := 54) (fr := (0, 0)) (heap_alloc_new _ _)
      try case c2j => first | exact ⟨rfl, rfl, rfl⟩ | (intro u hu; simp at hu; rcases hu with rfl | rfl | rfl <;> rfl)
      try case c3j => unfold maxLen; omega
      try case c4j => omega
      try case c5j => first | omega | (simp; omega)
      intro v' w2 hown2 hg2 _
      have hb2 : Below w0.heap.size w0 w2 := ((hbw5).alloc hz5' _).grown hg2 (by have := hz5'; simp; omega) (fun k hk => (HOLx.out k hk).1)
      have HO2 : Hid (w2.ownsRow w0.heap.size 54 3 v' (M + 1) (gcs (L ++ [x]))) := by show World.ownsRow _ _ _ _ _ _ _; rw [gcs_snoc]; exact hown2
      clear hown2 hg2
      go_wp2_with fail
      go_roundw
      case rel => exact ⟨_, j + 1, M + 1, L ++ [x], rfl, by omega, by omega, by go_num, by show _ = _; rw [List.length_append, ← HM.out]; rfl, HT2, HO2.out, hb2⟩
      case measure => simp [intOf]; omega
    ·obtain rfl : N = j := by omega
     have HF : Hid (L1 ++ l.filter (fun x => glt g x) = L) := by
      show _ = _
      have := HJ.out
      rw [← HL.out, List.take_length] at this
      exact this
     have HO := Lib.hid hown
     have g11 : ¬ (N : Int) < (N : Int) := by omega
     have hzw' : w0.heap.size ≤ W.heap.size := hbw.size
     clear HJ hlt hown
     have HE : Hid (R = L) := by show _ = _; rw [← HR.out, ← HF.out, ← HE1.out]; simp
     have HB2 := Lib.hid (HB0.out.trans (hbw.mono HB0.out.size))
     have HO2 := Lib.hid (own_less HO.out HB0.out.size)
     go_wp2_with fail
     go_ret
     rw [HE.out]
     exact ⟨_, rfl, by have := HO2.out; rw [HM.out] at this; exact this, HB2.out⟩
def haveG (l : List Gr) (g : Gr) (t : List UInt8) : Bool := decide ((⟨g.r, t, g.w⟩ : Gr) ∈ l)
def rbothStep (l : List Gr) (u : List UInt8) (ts : List (List UInt8)) (acc : List Gr) (g : Gr) : List Gr := if decide (0 < ts.length) && ts.all (haveG l g) then withG acc ⟨g.r, u, g.w⟩ else acc
def rbothG (l : List Gr) (u : List UInt8) (ts : List (List UInt8)) : List Gr := l.foldl (rbothStep l u ts) (withoutG l u)
theorem withG_len (l : List Gr) (g : Gr) : (withG l g).length ≤ l.length + 1 := by
 induction l with
 | nil => simp [withG]
 | cons x r ih =>
  unfold withG at ih ⊢
  rw [List.length_append, List.length_cons] at ih ⊢
  rw [List.filter_cons, List.filter_cons]
  cases h1 : glt x g
  ·cases h2 : glt g x
   ·simp; omega
   ·simp; omega
  ·rw [glt_asymm h1]
   simp; omega
set_option maxRecDepth 100000 in
set_option maxHeartbeats 8000000 in
theorem rboth_any (A : Option Addr) (c : Nat) (l : List Gr) (u : List UInt8) (At : Option Addr) (ct : Nat) (ts : List (List UInt8)) (w : World) (hl : l.length ≤ 400) (ht : ts.length ≤ 1000) (h : GQ l A (Old w.heap.size) w) (hT : SQ ts At (Old w.heap.size) w) :
  Calls Tryz.prog 26 #[.slice A l.length c, .string ⟨u.toArray⟩, .slice At ts.length ct] w (RetGs (rbothG l u ts) w) := by
 have HQ : Hid (∀ Z : World, Below w.heap.size w Z → GQ l A (Old w.heap.size) Z) := fun Z hz => h.keep fun b hb => ⟨hb, fun o => hz.cell (p := ⟨b, o, none⟩) hb⟩
 have HT : Hid (∀ Z : World, Below w.heap.size w Z → SQ ts At (Old w.heap.size) Z) := fun Z hz => hT.keep fun b hb => ⟨hb, fun o => hz.cell (p := ⟨b, o, none⟩) hb⟩
 have HWO := Lib.hid (rwithout_any A c l u w (by omega) h)
 have HHAS : Hid (∀ (g : Gr) (Z : World), Below w.heap.size w Z → Calls Tryz.prog 43 #[.slice A l.length c, .agg #[.string ⟨g.r.toArray⟩, .string ⟨g.t.toArray⟩, .bool g.w]] Z (Ret (.bool (decide (g ∈ l))) Z)) := fun g Z hz =>
  has_any A c l g Z (by omega) (h.keep (old_keep hz hz.size))
 have HWI : Hid (∀ (M : Nat) (acc : List Gr) (A' : Option Addr) (c' : Nat) (g : Gr) (Z : World), acc.length = M → M ≤ 900 → Z.ownsRow w.heap.size 54 3 (.slice A' M c') M (gcs acc) → Calls Tryz.prog 44 #[.slice A' M c', .agg #[.string ⟨g.r.toArray⟩, .string ⟨g.t.toArray⟩, .bool g.w]] Z (RetGs (withG acc g) Z)) := fun M acc A' c' g Z hM hn ho => by
  subst hM
  obtain ⟨A2, c2, e, _, _, hg⟩ := GQ.own ho
  injection e with e1 e2 e3
  subst e1
  exact rwith_any A' c' acc g Z (by omega) (hg.keep fun b hb => ⟨hb.2, fun o => rfl⟩)
 obtain ⟨R, hR⟩ : ∃ R, rbothG l u ts = R := ⟨_, rfl⟩
 have HR : Hid (l.foldl (rbothStep l u ts) (withoutG l u) = R) := hR
 obtain ⟨N, hN⟩ : ∃ N, l.length = N := ⟨_, rfl⟩
 have HL := Lib.hid hN
 obtain ⟨T, hTn⟩ : ∃ T, ts.length = T := ⟨_, rfl⟩
 have HTN := Lib.hid hTn
 have HWL : Hid ((withoutG l u).length ≤ N) := by show _ ≤ _; rw [← hN]; exact List.length_filter_le _ _
 rw [hR]
 rw [hN] at hl HWO HHAS ⊢
 rw [hTn] at ht ⊢
 clear hR hN hTn h hT
 go_enter Tryz.func26, Tryz.ntmps26
 go_wp2_with fail
 refine HWO.out.mono ?_
 rintro en w1 ⟨sv, rfl, hown, hb1⟩
 obtain ⟨A1, c1, rfl, _⟩ := GQ.own hown
 have HO := Lib.hid hown
 obtain ⟨M, hM⟩ : ∃ M, (withoutG l u).length = M := ⟨_, rfl⟩
 have HM := Lib.hid hM
 rw [hM] at HO ⊢
 have hMN : M ≤ N := by rw [← hM]; exact HWL.out
 clear hown hM
 go_wp2_with fail
 go_loopw [7, 8] (fun s7' i wr => ∃ (j M : Nat) (A' : Option Addr) (c' : Nat) (acc : List Gr), s7' = .slice A' M c' ∧ i = .int .i64 j ∧ j ≤ N ∧ M ≤ N + j ∧ Hid (acc.length = M) ∧ Hid (acc = (l.take j).foldl (rbothStep l u ts) (withoutG l u)) ∧ Hid (wr.ownsRow w.heap.size 54 3 (.slice A' M c') M (gcs acc)) ∧ Below w.heap.size w wr) (fun _ i _ => N - (intOf i).toNat)
 case atStart => exact ⟨0, M, A1, c1, withoutG l u, rfl, rfl, by omega, by omega, HM, rfl, HO, hb1⟩
 case round =>
  obtain ⟨j, M, A', c', acc, rfl, rfl, hj, hM, HMA, HACC, HOW, hbw⟩ := hrel
  obtain ⟨W, rfl⟩ : ∃ W, W = wr := ⟨_, rfl⟩
  have hzw := hbw.size
  by_cases hlt : j < N
  ·obtain ⟨b, off, x, rfl, hbB, hv, d0, d1, d2⟩ := (HQ.out W hbw).at_ (j := j) (by rw [HL.out]; exact hlt)
   have lb : b < w.heap.size := hbB
   have HD : Hid (∀ Z : World, Below w.heap.size w Z → (∀ o, Z.cell? ⟨b, o, none⟩ = w.cell? ⟨b, o, none⟩) ∧ Z.cell? ⟨b, off + j * 3, none⟩ = some (.string ⟨x.r.toArray⟩) ∧ Z.cell? ⟨b, off + j * 3 + 2, none⟩ = some (.bool x.w)) := fun Z hz => by
    have hc : ∀ o, Z.cell? ⟨b, o, none⟩ = w.cell? ⟨b, o, none⟩ := fun o => hz.cell (p := ⟨b, o, none⟩) lb
    have hc2 : ∀ o, W.cell? ⟨b, o, none⟩ = w.cell? ⟨b, o, none⟩ := fun o => hbw.cell (p := ⟨b, o, none⟩) lb
    exact ⟨hc, (hc _).trans ((hc2 _).symm.trans d0), (hc _).trans ((hc2 _).symm.trans d2)⟩
   have HST : Hid ((l.take (j + 1)).foldl (rbothStep l u ts) (withoutG l u) = rbothStep l u ts acc x) := by
    show _ = _
    rw [List.take_add_one, hv, List.foldl_append, ← HACC.out]
    rfl
   have g10 : (0 : Int) ≤ (j : Int) := by omega
   have g11 : (j : Int) < (N : Int) := by omega
   clear hv d0 d1 d2
   go_wp2_with fail
   go_loopw [9, 10] (fun al' k wr => ∃ (al : Bool) (q : Nat), al' = .bool al ∧ k = .int .i64 q ∧ q ≤ T ∧ Hid (al = (decide (0 < T) && (ts.take q).all (haveG l x))) ∧ Below W.heap.size W wr) (fun _ k _ => T - (intOf k).toNat)
   case atStart => exact ⟨_, 0, rfl, rfl, by omega, by show _ = _; simp, Below.refl _ _⟩
   case round =>
    obtain ⟨al, q, rfl, rfl, hq, HAL, hbq⟩ := hrel
    obtain ⟨Y, rfl⟩ : ∃ W, W = wr := ⟨_, rfl⟩
    have hzq := hbq.size
    have hbwY : Below w.heap.size w Y := hbw.trans (hbq.mono hzw)
    by_cases hqt : q < T
    ·obtain ⟨b2, off2, t, rfl, hbB2, hv2, e0⟩ := (HT.out Y hbwY).at_ (j := q) (by rw [HTN.out]; exact hqt)
     have lb2 : b2 < w.heap.size := hbB2
     have hnext : (decide (0 < T) && (ts.take (q + 1)).all (haveG l x)) = (al && haveG l x t) := by
      rw [List.take_add_one, hv2, List.all_append, HAL.out, ← Bool.and_assoc]
      simp
     have HNX := Lib.hid hnext
     have HSH : Hid (∀ Z : World, Below Y.heap.size Y Z → (Z.cell? ⟨b, off + j * 3, none⟩ = some (.string ⟨x.r.toArray⟩) ∧ Z.cell? ⟨b, off + j * 3 + 2, none⟩ = some (.bool x.w)) ∧ Z.cell? ⟨b2, off2 + q, none⟩ = some (.string ⟨t.toArray⟩)) := fun Z hz => by
      obtain ⟨_, h1, h2⟩ := HD.out Z (hbwY.trans (hz.mono (Nat.le_trans hzw hzq)))
      exact ⟨⟨h1, h2⟩, (hz.cell (p := ⟨b2, off2 + q, none⟩) (by show b2 < _; omega)).trans e0⟩
     have g20 : (0 : Int) ≤ (q : Int) := by omega
     have g21 : (q : Int) < (T : Int) := by omega
     clear hv2 hnext e0
     cases al with
     | false =>
      have HA2 : Hid (false = (decide (0 < T) && (ts.take (q + 1)).all (haveG l x))) := by show _ = _; rw [HNX.out]; rfl
      go_wp2_with fail
      refine wp_region_held_drew (S := (fun Z => (Z.cell? ⟨b, off + j * 3, none⟩ = some (.string ⟨x.r.toArray⟩) ∧ Z.cell? ⟨b, off + j * 3 + 2, none⟩ = some (.bool x.w)) ∧ Z.cell? ⟨b2, off2 + q, none⟩ = some (.string ⟨t.toArray⟩))) (by kernel_rfl) ?_ (fun hHeld => ?_)
      ·try dsimp only
       exact HSH.out _ (by exact bl)
      refine tS [0, 1] ?_
      iterate 2 (refine tC ?_; refine ap ?_)
      refine tN ?_
      refine tS [2, 3, 4, 5, 6, 7, 8, 9, 10, 11, 12, 13, 14, 15, 16, 17, 18] ?_
      iterate 17 (refine tX ?_; refine ap ?_)
      refine tN ?_
      refine tS [19, 20] ?_
      iterate 2 (refine tC ?_; refine ap ?_)
      refine tN ?_
      refine wpAnyH_done (by kernel_rfl) ?_ _
      have hbD : Below W.heap.size W Y.drew := hbq.drew
      go_wp2_with fail
      go_roundw
      case rel => exact ⟨false, q + 1, rfl, by go_num, by omega, HA2, by first | exact hbD | exact hbq⟩
      case measure => simp [intOf]; omega
     | true =>
      have HA2 : Hid (haveG l x t = (decide (0 < T) && (ts.take (q + 1)).all (haveG l x))) := by show _ = _; rw [HNX.out]; rfl
      have HHS : Hid (∀ Z : World, Below Y.heap.size Y Z → Calls Tryz.prog 43 #[.slice (some ⟨b, off, none⟩) N c, .agg #[.string ⟨x.r.toArray⟩, .string ⟨t.toArray⟩, .bool x.w]] Z (Ret (.bool (haveG l x t)) Z)) := fun Z hz => HHAS.out ⟨x.r, t, x.w⟩ Z (hbwY.trans (hz.mono (Nat.le_trans hzw hzq)))
      obtain ⟨B, hB⟩ : ∃ B, haveG l x t = B := ⟨_, rfl⟩
      rw [hB] at HA2 HHS
      clear hB
      go_wp2_with fail
      refine wp_region_held_drew (S := (fun Z => (Z.cell? ⟨b, off + j * 3, none⟩ = some (.string ⟨x.r.toArray⟩) ∧ Z.cell? ⟨b, off + j * 3 + 2, none⟩ = some (.bool x.w)) ∧ Z.cell? ⟨b2, off2 + q, none⟩ = some (.string ⟨t.toArray⟩))) (by kernel_rfl) ?_ (fun hHeld => ?_)
      ·try dsimp only
       exact HSH.out _ (by exact bl)
      refine tS [0, 1, 2, 3, 4, 5, 6, 7, 8, 9, 10, 11, 12, 13, 14, 15, 16, 17] ?_
      iterate 18 (refine tC ?_; refine ap ?_)
      refine tN ?_
      refine rdy 18 fun K hK => ?_
      go_simp
      (refine (HHS.out _ (by exact bl)).mono ?_) <;> rintro en w18 ⟨rfl, hb18⟩ <;> have hz18 := hb18.size <;> (try simp at hz18)
      go_wp2_with fail
      refine hK.out _ _ ?_ (fun hHeld => ?_)
      ·try dsimp only
       exact HSH.out _ (by exact bl)
      clear hK K
      refine ap ?_
      refine tS [19, 20] ?_
      iterate 2 (refine tC ?_; refine ap ?_)
      refine tN ?_
      refine wpAnyH_done (by kernel_rfl) ?_ _
      have hbY18 : Below Y.heap.size Y w18 := by exact bl
      have hbW18 : Below W.heap.size W w18 := hbq.trans (hbY18.mono hzq)
      clear hb18 hz18
      go_wp2_with fail
      go_roundw
      case rel => exact ⟨B, q + 1, rfl, by go_num, by omega, HA2, hbW18⟩
      case measure => simp [intOf]; omega
    ·obtain rfl : T = q := by omega
     have HAL2 : Hid (al = (decide (0 < ts.length) && ts.all (haveG l x))) := by
      show _ = _
      have := HAL.out
      rw [← HTN.out, List.take_length] at this
      exact this
     have g21 : ¬ (T : Int) < (T : Int) := by omega
     have HOY := Lib.hid (own_below HOW.out hbq)
     clear hqt HAL
     cases al with
     | false =>
      have HS2 : Hid (acc = (l.take (j + 1)).foldl (rbothStep l u ts) (withoutG l u)) := by show _ = _; rw [HST.out]; unfold rbothStep; rw [← HAL2.out]; rfl
      go_wp2_with fail
      go_roundw
      case rel => exact ⟨j + 1, M, A', c', acc, rfl, by go_num, by omega, by omega, HMA, HS2, HOY, hbwY⟩
      case measure => simp [intOf]; omega
     | true =>
      have HS2 : Hid (withG acc ⟨x.r, u, x.w⟩ = (l.take (j + 1)).foldl (rbothStep l u ts) (withoutG l u)) := by show _ = _; rw [HST.out]; unfold rbothStep; rw [← HAL2.out]; rfl
      have HWC : Hid (∀ Z : World, Below Y.heap.size Y Z → Calls Tryz.prog 44 #[.slice A' M c', .agg #[.string ⟨x.r.toArray⟩, .string ⟨u.toArray⟩, .bool x.w]] Z (RetGs (withG acc ⟨x.r, u, x.w⟩) Z)) := fun Z hz => HWI.out M acc A' c' ⟨x.r, u, x.w⟩ Z HMA.out (by omega) (own_below HOY.out hz)
      have HSH : Hid (∀ Z : World, Below Y.heap.size Y Z → Z.cell? ⟨b, off + j * 3, none⟩ = some (.string ⟨x.r.toArray⟩) ∧ Z.cell? ⟨b, off + j * 3 + 2, none⟩ = some (.bool x.w)) := fun Z hz => (HD.out Z (hbwY.trans (hz.mono (Nat.le_trans hzw hzq)))).2
      go_wp2_with fail
      refine wp_region_held_drew (S := (fun Z => Z.cell? ⟨b, off + j * 3, none⟩ = some (.string ⟨x.r.toArray⟩) ∧ Z.cell? ⟨b, off + j * 3 + 2, none⟩ = some (.bool x.w))) (by kernel_rfl) ?_ (fun hHeld => ?_)
      ·try dsimp only
       exact HSH.out _ (by exact bl)
      refine tS [0, 1, 2, 3, 4, 5, 6, 7, 8, 9, 10, 11, 12] ?_
      iterate 13 (refine tC ?_; refine ap ?_)
      refine tN ?_
      refine rdy 13 fun K hK => ?_
      go_simp
      (refine (HWC.out _ (by exact bl)).mono ?_) <;> rintro en w13 ⟨sv, rfl, hown13, hb13⟩ <;> have hz13 := hb13.size <;> (try simp at hz13)
      go_wp2_with fail
      refine hK.out _ _ ?_ (fun hHeld => ?_)
      ·try dsimp only
       exact HSH.out _ (by exact bl)
      clear hK K
      refine ap ?_
      refine tS [14] (tC ?_)
      refine ap (tN ?_)
      refine wpAnyH_done (by kernel_rfl) ?_ _
      have hbY13 : Below Y.heap.size Y w13 := by exact bl
      have hbw13 : Below w.heap.size w w13 := hbwY.trans (hbY13.mono (Nat.le_trans hzw hzq))
      obtain ⟨A3, c3, rfl, _⟩ := GQ.own hown13
      obtain ⟨M3, hM3⟩ : ∃ M, (withG acc ⟨x.r, u, x.w⟩).length = M := ⟨_, rfl⟩
      have hM3' : M3 ≤ M + 1 := by rw [← hM3]; have := withG_len acc ⟨x.r, u, x.w⟩; rw [HMA.out] at this; exact this
      rw [hM3] at hown13 ⊢
      have HO3 := Lib.hid (own_less hown13 (show w.heap.size ≤ _ by simp; omega))
      have HM3 := Lib.hid hM3
      clear hown13 hM3 hb13 hz13
      go_wp2_with fail
      go_roundw
      case rel => exact ⟨j + 1, M3, A3, c3, _, rfl, by go_num, by omega, by omega, HM3, HS2, HO3, hbw13⟩
      case measure => simp [intOf]; omega
  ·obtain rfl : N = j := by omega
   have HE : Hid (R = acc) := by
    show _ = _
    rw [HACC.out, ← HL.out, List.take_length, HR.out]
   have g11 : ¬ (N : Int) < (N : Int) := by omega
   clear hlt
   go_wp2_with fail
   go_ret
   rw [HE.out]
   exact ⟨_, rfl, by rw [HMA.out]; exact HOW.out, hbw⟩
end Go.Proofs.YtchilcchogcibaaGreatDoor
