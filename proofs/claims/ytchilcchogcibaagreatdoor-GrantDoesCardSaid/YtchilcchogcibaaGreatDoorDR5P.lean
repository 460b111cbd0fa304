/- The document's Parse at three texts: a GRANT, a SELECT, a DELETE. No condition.. -/
import Derived.Test.YtchilcchogcibaaGreatDoorDR5T
set_option maxRecDepth 100000
set_option maxHeartbeats 8000000
namespace Go.Proofs.YtchilcchogcibaaGreatDoor
open Go.RowKit
attribute [local go_sem] ByteArray.extract_mk ba_get ba_append
attribute [local go_sem ↓] Go.wp_at_zero Go.wp_at_succ
theorem own_set {w : World} {g : Nat} {t : TypeId} {s s' : St} {p p' : StP} (h : Blk w g t (s.cells p).toArray) (i : Nat) (v : Value) (he : ((s.cells p).toArray.setIfInBounds i v) = (s'.cells p').toArray) : Blk (w.setCell ⟨g, i, none⟩ v) g t (s'.cells p').toArray := by
 have := h.set_ i v
 rw [← he]
 exact this
def RetPs (s : St) (p : StP) (w : World) (en : Ending) (w' : World) : Prop := en = .returned (.tuple #[.agg (s.cells p).toArray, .bool true]) ∧ Below w.heap.size w w'
theorem But2.inside {g b : Nat} {w0 w w' : World} (h0 : Below w0.heap.size w0 w) (h1 : w0.heap.size ≤ g) (h2 : w0.heap.size ≤ b) (h : But2 g b w w') : Below w0.heap.size w0 w' := by
 obtain ⟨a1, a2, a3, a4, a5⟩ := h
 exact ⟨a1.trans h0.os, a2.trans h0.tape, a3.trans h0.output, Nat.le_trans h0.size a4, fun k hk => (a5 k (Nat.lt_of_lt_of_le hk h0.size) (by omega) (by omega)).trans (h0.block k hk)⟩
theorem But2.blk {g b k : Nat} {w w' : World} (h : But2 g b w w') {t : TypeId} {cs : Array Value} (hb : Blk w k t cs) (h1 : k ≠ g) (h2 : k ≠ b) : Blk w' k t cs := (h.2.2.2.2 k hb.lt h1 h2).trans hb
theorem closed_ok (op tb role : List UInt8) (h1 : op.length ≤ 1000) (h2 : tb.length ≤ 1000) (h3 : role.length ≤ 1000) : (⟨op, tb, [], [], [], [], [], [], ex0, [], [], ex0, role⟩ : St).Ok where
 op := h1
 tb := h2
 ot := Nat.zero_le _
 key := Nat.zero_le _
 role := h3
 nN := Nat.zero_le _
 nC := Nat.zero_le _
 nU := Nat.zero_le _
 nR := Nat.zero_le _
 nW := Nat.zero_le _
 nS := Nat.zero_le _
 names := fun x hx => by cases hx
 cols := fun x hx => by cases hx
 uniq := fun x hx => by cases hx
 refs := fun x hx => by cases hx
 chk := exZero_fit
 whr := exZero_fit
 row := fun x hx => by cases hx
 sets := fun x hx => by cases hx
 num := by
  have e : fitE 13 ex0 := by
   refine ⟨?_, ?_⟩
   ·unfold fitI; exact ⟨by decide, by decide⟩
   ·intro x hx; cases hx
  exact ⟨e, e, (fun x hx => by cases hx), (fun x hx => by cases hx)⟩
theorem closed_mem (op tb role : List UInt8) (Q : Nat → Prop) (w : World) : StQ 1000 ⟨op, tb, [], [], [], [], [], [], ex0, [], [], ex0, role⟩ stPZ Q w :=
 ⟨SQ.nil, fun h => absurd h (by simp), SQ.nil, XQ.nil, ⟨0, rfl⟩, fun h => absurd h (by simp), ⟨0, ZQ.nil⟩, 0, rfl⟩
theorem ex0_short : (ex0 : Ex).l.length ≤ maxLen := Nat.zero_le _
def tk1 : List Tok := [⟨1, [71, 82, 65, 78, 84]⟩, ⟨1, [82, 69, 65, 68]⟩, ⟨1, [79, 78]⟩, ⟨1, [116]⟩, ⟨1, [84, 79]⟩, ⟨1, [114]⟩]
def st1 : St := ⟨oRead, [116], [], [], [], [], [], [], ex0, [], [], ex0, [114]⟩
theorem cut1 : cutT [71, 82, 65, 78, 84, 32, 82, 69, 65, 68, 32, 79, 78, 32, 116, 32, 84, 79, 32, 114] = some tk1 := by rfl
theorem stmay1 : mayS st1 = true := by decide +kernel
theorem rparse_grant (w : World) : Calls Tryz.prog 72 #[.string ⟨([71, 82, 65, 78, 84, 32, 82, 69, 65, 68, 32, 79, 78, 32, 116, 32, 84, 79, 32, 114] : List UInt8).toArray⟩] w (RetPs st1 stPZ w) := by
 obtain ⟨L, hL⟩ : ∃ L, tk1 = L := ⟨_, rfl⟩
 have F0 : Hid (L.length ≤ 1000000) := by show L.length ≤ 1000000; rw [← hL]; decide
 have F1 : Hid (0 ≤ L.length) := by show 0 ≤ L.length; rw [← hL]; decide
 have F2 : Hid (seeT L 0 [67, 82, 69, 65, 84, 69] = false) := by show seeT L 0 [67, 82, 69, 65, 84, 69] = false; rw [← hL]; decide
 have F3 : Hid (seeT L 0 [68, 82, 79, 80] = false) := by show seeT L 0 [68, 82, 79, 80] = false; rw [← hL]; decide
 have F4 : Hid (seeT L 0 [73, 78, 83, 69, 82, 84] = false) := by show seeT L 0 [73, 78, 83, 69, 82, 84] = false; rw [← hL]; decide
 have F5 : Hid (seeT L 0 [85, 80, 68, 65, 84, 69] = false) := by show seeT L 0 [85, 80, 68, 65, 84, 69] = false; rw [← hL]; decide
 have F6 : Hid (seeT L 0 [68, 69, 76, 69, 84, 69] = false) := by show seeT L 0 [68, 69, 76, 69, 84, 69] = false; rw [← hL]; decide
 have F7 : Hid (seeT L 0 [83, 69, 76, 69, 67, 84] = false) := by show seeT L 0 [83, 69, 76, 69, 67, 84] = false; rw [← hL]; decide
 have F8 : Hid (seeT L 0 [71, 82, 65, 78, 84] = true) := by show seeT L 0 [71, 82, 65, 78, 84] = true; rw [← hL]; decide
 have F9 : Hid (1 ≤ L.length) := by show 1 ≤ L.length; rw [← hL]; decide
 have F10 : Hid (seeT L 1 [82, 69, 65, 68] = true) := by show seeT L 1 [82, 69, 65, 68] = true; rw [← hL]; decide
 have F11 : Hid (L.length ≤ 1000) := by show L.length ≤ 1000; rw [← hL]; decide
 have F12 : Hid (6 ≤ L.length) := by show 6 ≤ L.length; rw [← hL]; decide
 have F13 : Hid (seeT L 2 [79, 78] = true) := by show seeT L 2 [79, 78] = true; rw [← hL]; decide
 have F14 : Hid (rnameT L 3 = some [116]) := by show rnameT L 3 = some [116]; rw [← hL]; decide
 have F15 : Hid (seeT L 4 [84, 79] = true) := by show seeT L 4 [84, 79] = true; rw [← hL]; decide
 have F16 : Hid (rnameT L 5 = some [114]) := by show rnameT L 5 = some [114]; rw [← hL]; decide
 have F17 : Hid (L.length = 6) := by show L.length = 6; rw [← hL]; decide
 obtain ⟨X, hX⟩ : ∃ X : List UInt8, [71, 82, 65, 78, 84, 32, 82, 69, 65, 68, 32, 79, 78, 32, 116, 32, 84, 79, 32, 114] = X := ⟨_, rfl⟩
 have HCT : Hid (∀ Z : World, Calls Tryz.prog 65 #[.string ⟨X.toArray⟩] Z (RetTkB (some L) Z)) := fun Z => by
  have := rcut_any X Z (by rw [← hX]; decide)
  rw [← hX, cut1, hX, hL] at this
  exact this
 have HTX : Hid (∀ Z : World, Calls Tryz.prog 42 #[.agg (st1.cells stPZ).toArray] Z (Ret (.tuple #[.string ⟨(textR st1).toArray⟩, .bool true]) Z)) := fun Z => by
  have hok := closed_ok oRead [116] [114] (by decide) (by decide) (by decide)
  have := rtext5_any st1 stPZ Z hok ex0_short ex0_short (fun x hx => by cases hx) ⟨by decide, by decide, by decide, by decide, by decide⟩ (closed_mem _ _ _ _ _) (by unfold strongO rightO; decide)
  rw [stmay1] at this
  exact this
 obtain ⟨TX, hTX⟩ : ∃ T, textR st1 = T := ⟨_, rfl⟩
 rw [hTX] at HTX
 rw [hX]
 clear hX hTX hL
 obtain ⟨w1, hw1⟩ : ∃ w1, w.alloc (.cells #[.string ⟨#[]⟩, .string ⟨#[]⟩, .string ⟨#[]⟩, .slice none 0 0, .slice none 0 0, .string ⟨#[]⟩, .slice none 0 0, .slice none 0 0, .string ⟨#[]⟩, .int .i64 0, .int .i64 0, .string ⟨#[]⟩, .string ⟨#[]⟩, .slice none 0 0, .slice none 0 0, .slice none 0 0, .string ⟨#[]⟩, .int .i64 0, .int .i64 0, .string ⟨#[]⟩, .string ⟨#[]⟩, .slice none 0 0, .string ⟨#[]⟩] 34) = w1 := ⟨_, rfl⟩
 have kr1 : Blk w1 w.heap.size 34 ((stZ [] []).cells stPZ).toArray := by rw [← hw1]; exact Blk.new _ _ _
 have hb1 : Below w.heap.size w w1 := by rw [← hw1]; exact bl
 have hz1 := hb1.size
 have hl1 := kr1.lt
 have HW1 := Lib.hid hw1
 clear hw1
 go_in
 go_upto_region 1 with fail
 rw [show World.alloc w _ = w1 from HW1.out]
 clear HW1
 go_wp2_with fail
 refine (HCT.out w1).mono ?_
 rintro en w2 ⟨A, c, l, bb, rfl, -, -, htk, hb2, hbb, hl⟩
 obtain rfl : L = l := (hl _ rfl).symm
 obtain rfl : bb = true := hbb
 clear hl
 have hz2 := hb2.size
 have kr2 := kr1.below hb2 hl1
 have hn2 : Below w.heap.size w w2 := hb1.trans (hb2.mono hz1)
 obtain ⟨w3, hw3⟩ : ∃ w3, w2.alloc (.cells #[.slice A L.length c, .int .i64 0, .bool true] 141) = w3 := ⟨_, rfl⟩
 obtain ⟨w4, hw4⟩ : ∃ w4, w3.alloc (.cells ((stZ [] []).cells stPZ).toArray 34) = w4 := ⟨_, rfl⟩
 have kg3 : Blk w3 w2.heap.size 141 #[.slice A L.length c, .int .i64 0, .bool true] := by rw [← hw3]; exact Blk.new _ _ _
 have kg4 : RdC w4 w2.heap.size A L c 0 true := by rw [← hw4]; exact kg3.alloc _
 have hb24 : Below w2.heap.size w2 w4 := by rw [← hw4, ← hw3]; exact bl
 have ks4 : Blk w4 w3.heap.size 34 ((stZ [] []).cells stPZ).toArray := by rw [← hw4]; exact Blk.new _ _ _
 have hgs : w2.heap.size < w3.heap.size := kg3.lt
 have hP4 : RdS w2.heap.size A c L 0 true w4 := ⟨kg4, (htk.vs (Nat.le_refl _)).below hb24⟩
 have kr4 := kr2.below hb24 (by omega)
 have hn4 : Below w.heap.size w w4 := hn2.trans (hb24.mono (by omega))
 have hz4 := hb24.size
 have HW3 := Lib.hid hw3
 have HW4 := Lib.hid hw4
 clear hw3 hw4 htk kg3 kg4 kr1 kr2 hb24 hb2
 go_upto_region 5 with fail
 rw [show World.alloc w2 _ = w3 from HW3.out]
 go_upto_region 6 with (refine wpList_store_row rfl 34 _ _ rfl w3.heap.size ((stZ [] []).cells stPZ).toArray rfl rfl 34 _ (heap_alloc_last _ _) size_st rfl (one_st _ _) ?_)
 rw [show World.setRow _ _ _ = w4 from (World.setRow_alloc_new _ _ _ _).trans HW4.out]
 obtain ⟨g, hg⟩ : ∃ g, w2.heap.size = g := ⟨_, rfl⟩
 obtain ⟨sb, hsb⟩ : ∃ g, w3.heap.size = g := ⟨_, rfl⟩
 rw [hg] at hP4 hgs
 rw [hsb] at ks4 hgs
 try rw [hg]
 try rw [hsb]
 have hgw : w.heap.size < g := by have := hz1; omega
 have hgw2 : w.heap.size ≤ g := by omega
 have hsw : w.heap.size < sb := by omega
 clear HW3 HW4 hg hsb hz1 hl1 hz2 hz4 hb1 hn2
 have hC := rpass_any L A c 0 g true [67, 82, 69, 65, 84, 69] w4 F0.out F1.out hP4
 rw [F2.out] at hC
 go_wp2_with fail
 refine hC.mono ?_
 rintro en w5 ⟨rfl, hQ, hB⟩
 have hP5 : RdS g A c L 0 true w5 := hQ
 have ks5 := hB.blk ks4 (by omega)
 have kr5 := hB.blk kr4 (by omega)
 have hn5 := hB.inside hn4 hgw2
 have hz5 := hB.size
 clear hC hQ hB hP4 ks4 kr4 hn4
 have hC := rpass_any L A c 0 g true [68, 82, 79, 80] w5 F0.out F1.out hP5
 rw [F3.out] at hC
 as_aux_lemma =>
  go_wp2_with fail
  refine hC.mono ?_
  rintro en w6 ⟨rfl, hQ, hB⟩
  have hP6 : RdS g A c L 0 true w6 := hQ
  have ks6 := hB.blk ks5 (by omega)
  have kr6 := hB.blk kr5 (by omega)
  have hn6 := hB.inside hn5 hgw2
  have hz6 := hB.size
  clear hC hQ hB hP5 ks5 kr5 hn5
  have hC := rpass_any L A c 0 g true [73, 78, 83, 69, 82, 84] w6 F0.out F1.out hP6
  rw [F4.out] at hC
  go_wp2_with fail
  refine hC.mono ?_
  rintro en w7 ⟨rfl, hQ, hB⟩
  have hP7 : RdS g A c L 0 true w7 := hQ
  have ks7 := hB.blk ks6 (by omega)
  have kr7 := hB.blk kr6 (by omega)
  have hn7 := hB.inside hn6 hgw2
  have hz7 := hB.size
  clear hC hQ hB hP6 ks6 kr6 hn6
  have hC := rpass_any L A c 0 g true [85, 80, 68, 65, 84, 69] w7 F0.out F1.out hP7
  rw [F5.out] at hC
  go_wp2_with fail
  refine hC.mono ?_
  rintro en w8 ⟨rfl, hQ, hB⟩
  have hP8 : RdS g A c L 0 true w8 := hQ
  have ks8 := hB.blk ks7 (by omega)
  have kr8 := hB.blk kr7 (by omega)
  have hn8 := hB.inside hn7 hgw2
  have hz8 := hB.size
  clear hC hQ hB hP7 ks7 kr7 hn7
  have hC := rpass_any L A c 0 g true [68, 69, 76, 69, 84, 69] w8 F0.out F1.out hP8
  rw [F6.out] at hC
  as_aux_lemma =>
   go_wp2_with fail
   refine hC.mono ?_
   rintro en w9 ⟨rfl, hQ, hB⟩
   have hP9 : RdS g A c L 0 true w9 := hQ
   have ks9 := hB.blk ks8 (by omega)
   have kr9 := hB.blk kr8 (by omega)
   have hn9 := hB.inside hn8 hgw2
   have hz9 := hB.size
   clear hC hQ hB hP8 ks8 kr8 hn8
   have hC := rpass_any L A c 0 g true [83, 69, 76, 69, 67, 84] w9 F0.out F1.out hP9
   rw [F7.out] at hC
   go_wp2_with fail
   refine hC.mono ?_
   rintro en w10 ⟨rfl, hQ, hB⟩
   have hP10 : RdS g A c L 0 true w10 := hQ
   have ks10 := hB.blk ks9 (by omega)
   have kr10 := hB.blk kr9 (by omega)
   have hn10 := hB.inside hn9 hgw2
   have hz10 := hB.size
   clear hC hQ hB hP9 ks9 kr9 hn9
   have hC := rpass_any L A c 0 g true [71, 82, 65, 78, 84] w10 F0.out F1.out hP10
   rw [F8.out] at hC
   go_wp2_with fail
   refine hC.mono ?_
   rintro en w11 ⟨rfl, hQ, hB⟩
   have hP11 : RdS g A c L 1 true w11 := hQ
   have ks11 := hB.blk ks10 (by omega)
   have kr11 := hB.blk kr10 (by omega)
   have hn11 := hB.inside hn10 hgw2
   have hz11 := hB.size
   clear hC hQ hB hP10 ks10 kr10 hn10
   have r0 : w11.cell? ⟨sb, 0, none⟩ = some (.string ⟨#[]⟩) := ks11.cell 0
   have z0 := ks11.frozen 0
   go_upto_region 42 with fail
   obtain ⟨w12, hwn⟩ : ∃ z, w11.setCell ⟨sb, 0, none⟩ (.string ⟨#[119, 114, 105, 116, 101]⟩) = z := ⟨_, rfl⟩
   rw [show w11.setCell ⟨sb, 0, none⟩ _ = w12 from hwn]
   have ks12 : Blk w12 sb 34 ((stZ oWrite []).cells stPZ).toArray := by rw [← hwn]; exact own_set ks11 0 _ rfl
   have hd : Below sb w11 w12 := by rw [← hwn]; exact bwS bwR (Nat.le_refl _)
   have hP12 : RdS g A c L 1 true w12 := ⟨Blk.below hP11.1 hd hgs, hP11.2.below (hd.mono (Nat.le_of_lt hgs))⟩
   have kr12 := kr11.below hd (by omega)
   have hn12 : Below w.heap.size w w12 := hn11.trans (hd.mono (Nat.le_of_lt hsw))
   have hz12 := hd.size
   clear hwn hd r0 z0 hP11 ks11 kr11 hn11
   have hC := rsee_any L A c 1 g true [82, 69, 65, 68] w12 F9.out hP12.1 (hP12.2.more (Nat.le_of_lt (Blk.lt hP12.1)))
   rw [F10.out] at hC
   as_aux_lemma =>
    go_wp2_with fail
    refine hC.mono ?_
    rintro en w13 ⟨rfl, hB⟩
    have hP13 := hP12.but hB
    have ks13 := ks12.below hB ks12.lt
    have kr13 := kr12.below hB kr12.lt
    have hn13 : Below w.heap.size w w13 := hn12.trans (hB.mono hn12.size)
    have hz13 := hB.size
    clear hC hB hP12 ks12 kr12 hn12
    have r0 : w13.cell? ⟨sb, 0, none⟩ = some (.string ⟨#[119, 114, 105, 116, 101]⟩) := ks13.cell 0
    have z0 := ks13.frozen 0
    go_upto_region 44 with fail
    obtain ⟨w14, hwn⟩ : ∃ z, w13.setCell ⟨sb, 0, none⟩ (.string ⟨#[114, 101, 97, 100]⟩) = z := ⟨_, rfl⟩
    rw [show w13.setCell ⟨sb, 0, none⟩ _ = w14 from hwn]
    have ks14 : Blk w14 sb 34 ((stZ oRead []).cells stPZ).toArray := by rw [← hwn]; exact own_set ks13 0 _ rfl
    have hd : Below sb w13 w14 := by rw [← hwn]; exact bwS bwR (Nat.le_refl _)
    have hP14 : RdS g A c L 1 true w14 := ⟨Blk.below hP13.1 hd hgs, hP13.2.below (hd.mono (Nat.le_of_lt hgs))⟩
    have kr14 := kr13.below hd (by omega)
    have hn14 : Below w.heap.size w w14 := hn13.trans (hd.mono (Nat.le_of_lt hsw))
    have hz14 := hd.size
    clear hwn hd r0 z0 hP13 ks13 kr13 hn13
    have hC := rdright_any L A c 1 g sb true (stZ oRead []) stPZ [84, 79] [116] [114] w14 F11.out F12.out hP14 hgs ks14 F10.out F13.out F14.out F15.out F16.out
    go_wp2_with fail
    refine hC.mono ?_
    rintro en w15 ⟨rfl, hP15, ks15, hB⟩
    have kr15 := hB.blk kr14 (by omega) (by omega)
    have hn15 := hB.inside hn14 hgw2 (by omega)
    clear hC hB hP14 ks14 kr14 hn14
    obtain ⟨⟨x0, x1, x2⟩, -⟩ := Blk.three hP15.1
    have hlen2 : (L.length : Int) = 6 := by have := F17.out; omega
    have hlen : ((6 : Int) != (L.length : Int)) = false := by rw [hlen2]; rfl
    have HKS15 : Hid (Blk w15 sb 34 (st1.cells stPZ).toArray) := ks15
    clear ks15
    go_wp2_with (refine wpList_load_row rfl 34 _ rfl sb rfl 34 (st1.cells stPZ).toArray (0, 0) _ HKS15.out Tryz.underlying34 rfl size_st ?_)
    refine (HTX.out w15).mono ?_
    rintro en w16 ⟨rfl, hB⟩
    have ksE : Hid (Blk w16 sb 34 (st1.cells stPZ).toArray) := HKS15.out.below hB HKS15.out.lt
    have krE : Hid (Blk w16 w.heap.size 34 ((stZ [] []).cells stPZ).toArray) := kr15.below hB kr15.lt
    have hnE : Below w.heap.size w w16 := hn15.trans (hB.mono (by have := hn15.size; omega))
    have hres : (loadVar 34 ⟨w.heap.size, 0, none⟩).run Tryz.prog (w16.setRow w.heap.size (st1.cells stPZ).toArray) = .ok (.agg (st1.cells stPZ).toArray) (w16.setRow w.heap.size (st1.cells stPZ).toArray) := run_loadVar_row _ _ 34 34 _ (0, 0) _ (krE.out.row _) Tryz.underlying34 rfl size_st
    have hbw := bwRow hnE (g := w.heap.size) (Nat.le_refl _) (st1.cells stPZ).toArray
    go_wp2_with (first | refine wpList_load_row rfl 34 _ rfl sb rfl 34 (st1.cells stPZ).toArray (0, 0) _ ksE.out Tryz.underlying34 rfl size_st ?_ | refine wpList_store_row rfl 34 _ _ rfl w.heap.size (st1.cells stPZ).toArray rfl rfl 34 _ krE.out size_st rfl (one_st _ _) ?_)
    refine bodyPost_ret (v := .tuple #[.agg (st1.cells stPZ).toArray, .bool true]) (by simp [results, Tryz.results72, asAddr, hres]; done) rfl ?_
    exact ⟨rfl, hbw⟩
def tk2 : List Tok := [⟨1, [83, 69, 76, 69, 67, 84]⟩, ⟨4, [42]⟩, ⟨1, [70, 82, 79, 77]⟩, ⟨1, [116]⟩]
def st2 : St := ⟨oSelect, [116], [], [], [], [], [], [], ex0, [], [], ex0, []⟩
theorem cut2 : cutT [83, 69, 76, 69, 67, 84, 32, 42, 32, 70, 82, 79, 77, 32, 116] = some tk2 := by rfl
theorem stmay2 : mayS st2 = true := by decide +kernel
theorem rparse_select (w : World) : Calls Tryz.prog 72 #[.string ⟨([83, 69, 76, 69, 67, 84, 32, 42, 32, 70, 82, 79, 77, 32, 116] : List UInt8).toArray⟩] w (RetPs st2 stPZ w) := by
 obtain ⟨L, hL⟩ : ∃ L, tk2 = L := ⟨_, rfl⟩
 have F0 : Hid (L.length ≤ 1000000) := by show L.length ≤ 1000000; rw [← hL]; decide
 have F1 : Hid (0 ≤ L.length) := by show 0 ≤ L.length; rw [← hL]; decide
 have F2 : Hid (seeT L 0 [67, 82, 69, 65, 84, 69] = false) := by show seeT L 0 [67, 82, 69, 65, 84, 69] = false; rw [← hL]; decide
 have F3 : Hid (seeT L 0 [68, 82, 79, 80] = false) := by show seeT L 0 [68, 82, 79, 80] = false; rw [← hL]; decide
 have F4 : Hid (seeT L 0 [73, 78, 83, 69, 82, 84] = false) := by show seeT L 0 [73, 78, 83, 69, 82, 84] = false; rw [← hL]; decide
 have F5 : Hid (seeT L 0 [85, 80, 68, 65, 84, 69] = false) := by show seeT L 0 [85, 80, 68, 65, 84, 69] = false; rw [← hL]; decide
 have F6 : Hid (seeT L 0 [68, 69, 76, 69, 84, 69] = false) := by show seeT L 0 [68, 69, 76, 69, 84, 69] = false; rw [← hL]; decide
 have F7 : Hid (seeT L 0 [83, 69, 76, 69, 67, 84] = true) := by show seeT L 0 [83, 69, 76, 69, 67, 84] = true; rw [← hL]; decide
 have F8 : Hid (1 ≤ L.length) := by show 1 ≤ L.length; rw [← hL]; decide
 have F9 : Hid (seeT L 1 [42] = true) := by show seeT L 1 [42] = true; rw [← hL]; decide
 have F10 : Hid (2 ≤ L.length) := by show 2 ≤ L.length; rw [← hL]; decide
 have F11 : Hid (seeT L 2 [70, 82, 79, 77] = true) := by show seeT L 2 [70, 82, 79, 77] = true; rw [← hL]; decide
 have F12 : Hid (rnameT L 3 = some [116]) := by show rnameT L 3 = some [116]; rw [← hL]; decide
 have F13 : Hid (4 ≤ L.length) := by show 4 ≤ L.length; rw [← hL]; decide
 have F14 : Hid (seeT L 4 [87, 72, 69, 82, 69] = false) := by show seeT L 4 [87, 72, 69, 82, 69] = false; rw [← hL]; decide
 have F15 : Hid (L.length = 4) := by show L.length = 4; rw [← hL]; decide
 obtain ⟨X, hX⟩ : ∃ X : List UInt8, [83, 69, 76, 69, 67, 84, 32, 42, 32, 70, 82, 79, 77, 32, 116] = X := ⟨_, rfl⟩
 have HCT : Hid (∀ Z : World, Calls Tryz.prog 65 #[.string ⟨X.toArray⟩] Z (RetTkB (some L) Z)) := fun Z => by
  have := rcut_any X Z (by rw [← hX]; decide)
  rw [← hX, cut2, hX, hL] at this
  exact this
 have HTX : Hid (∀ Z : World, Calls Tryz.prog 42 #[.agg (st2.cells stPZ).toArray] Z (Ret (.tuple #[.string ⟨(textR st2).toArray⟩, .bool true]) Z)) := fun Z => by
  have hok := closed_ok oSelect [116] [] (by decide) (by decide) (by decide)
  have := rtext5_any st2 stPZ Z hok ex0_short ex0_short (fun x hx => by cases hx) ⟨by decide, by decide, by decide, by decide, by decide⟩ (closed_mem _ _ _ _ _) (by unfold strongO rightO; decide)
  rw [stmay2] at this
  exact this
 obtain ⟨TX, hTX⟩ : ∃ T, textR st2 = T := ⟨_, rfl⟩
 rw [hTX] at HTX
 rw [hX]
 clear hX hTX hL
 obtain ⟨w1, hw1⟩ : ∃ w1, w.alloc (.cells #[.string ⟨#[]⟩, .string ⟨#[]⟩, .string ⟨#[]⟩, .slice none 0 0, .slice none 0 0, .string ⟨#[]⟩, .slice none 0 0, .slice none 0 0, .string ⟨#[]⟩, .int .i64 0, .int .i64 0, .string ⟨#[]⟩, .string ⟨#[]⟩, .slice none 0 0, .slice none 0 0, .slice none 0 0, .string ⟨#[]⟩, .int .i64 0, .int .i64 0, .string ⟨#[]⟩, .string ⟨#[]⟩, .slice none 0 0, .string ⟨#[]⟩] 34) = w1 := ⟨_, rfl⟩
 have kr1 : Blk w1 w.heap.size 34 ((stZ [] []).cells stPZ).toArray := by rw [← hw1]; exact Blk.new _ _ _
 have hb1 : Below w.heap.size w w1 := by rw [← hw1]; exact bl
 have hz1 := hb1.size
 have hl1 := kr1.lt
 have HW1 := Lib.hid hw1
 clear hw1
 go_in
 go_upto_region 1 with fail
 rw [show World.alloc w _ = w1 from HW1.out]
 clear HW1
 go_wp2_with fail
 refine (HCT.out w1).mono ?_
 rintro en w2 ⟨A, c, l, bb, rfl, -, -, htk, hb2, hbb, hl⟩
 obtain rfl : L = l := (hl _ rfl).symm
 obtain rfl : bb = true := hbb
 clear hl
 have hz2 := hb2.size
 have kr2 := kr1.below hb2 hl1
 have hn2 : Below w.heap.size w w2 := hb1.trans (hb2.mono hz1)
 obtain ⟨w3, hw3⟩ : ∃ w3, w2.alloc (.cells #[.slice A L.length c, .int .i64 0, .bool true] 141) = w3 := ⟨_, rfl⟩
 obtain ⟨w4, hw4⟩ : ∃ w4, w3.alloc (.cells ((stZ [] []).cells stPZ).toArray 34) = w4 := ⟨_, rfl⟩
 have kg3 : Blk w3 w2.heap.size 141 #[.slice A L.length c, .int .i64 0, .bool true] := by rw [← hw3]; exact Blk.new _ _ _
 have kg4 : RdC w4 w2.heap.size A L c 0 true := by rw [← hw4]; exact kg3.alloc _
 have hb24 : Below w2.heap.size w2 w4 := by rw [← hw4, ← hw3]; exact bl
 have ks4 : Blk w4 w3.heap.size 34 ((stZ [] []).cells stPZ).toArray := by rw [← hw4]; exact Blk.new _ _ _
 have hgs : w2.heap.size < w3.heap.size := kg3.lt
 have hP4 : RdS w2.heap.size A c L 0 true w4 := ⟨kg4, (htk.vs (Nat.le_refl _)).below hb24⟩
 have kr4 := kr2.below hb24 (by omega)
 have hn4 : Below w.heap.size w w4 := hn2.trans (hb24.mono (by omega))
 have hz4 := hb24.size
 have HW3 := Lib.hid hw3
 have HW4 := Lib.hid hw4
 clear hw3 hw4 htk kg3 kg4 kr1 kr2 hb24 hb2
 go_upto_region 5 with fail
 rw [show World.alloc w2 _ = w3 from HW3.out]
 go_upto_region 6 with (refine wpList_store_row rfl 34 _ _ rfl w3.heap.size ((stZ [] []).cells stPZ).toArray rfl rfl 34 _ (heap_alloc_last _ _) size_st rfl (one_st _ _) ?_)
 rw [show World.setRow _ _ _ = w4 from (World.setRow_alloc_new _ _ _ _).trans HW4.out]
 obtain ⟨g, hg⟩ : ∃ g, w2.heap.size = g := ⟨_, rfl⟩
 obtain ⟨sb, hsb⟩ : ∃ g, w3.heap.size = g := ⟨_, rfl⟩
 rw [hg] at hP4 hgs
 rw [hsb] at ks4 hgs
 try rw [hg]
 try rw [hsb]
 have hgw : w.heap.size < g := by have := hz1; omega
 have hgw2 : w.heap.size ≤ g := by omega
 have hsw : w.heap.size < sb := by omega
 clear HW3 HW4 hg hsb hz1 hl1 hz2 hz4 hb1 hn2
 have hC := rpass_any L A c 0 g true [67, 82, 69, 65, 84, 69] w4 F0.out F1.out hP4
 rw [F2.out] at hC
 go_wp2_with fail
 refine hC.mono ?_
 rintro en w5 ⟨rfl, hQ, hB⟩
 have hP5 : RdS g A c L 0 true w5 := hQ
 have ks5 := hB.blk ks4 (by omega)
 have kr5 := hB.blk kr4 (by omega)
 have hn5 := hB.inside hn4 hgw2
 have hz5 := hB.size
 clear hC hQ hB hP4 ks4 kr4 hn4
 have hC := rpass_any L A c 0 g true [68, 82, 79, 80] w5 F0.out F1.out hP5
 rw [F3.out] at hC
 as_aux_lemma =>
  go_wp2_with fail
  refine hC.mono ?_
  rintro en w6 ⟨rfl, hQ, hB⟩
  have hP6 : RdS g A c L 0 true w6 := hQ
  have ks6 := hB.blk ks5 (by omega)
  have kr6 := hB.blk kr5 (by omega)
  have hn6 := hB.inside hn5 hgw2
  have hz6 := hB.size
  clear hC hQ hB hP5 ks5 kr5 hn5
  have hC := rpass_any L A c 0 g true [73, 78, 83, 69, 82, 84] w6 F0.out F1.out hP6
  rw [F4.out] at hC
  go_wp2_with fail
  refine hC.mono ?_
  rintro en w7 ⟨rfl, hQ, hB⟩
  have hP7 : RdS g A c L 0 true w7 := hQ
  have ks7 := hB.blk ks6 (by omega)
  have kr7 := hB.blk kr6 (by omega)
  have hn7 := hB.inside hn6 hgw2
  have hz7 := hB.size
  clear hC hQ hB hP6 ks6 kr6 hn6
  have hC := rpass_any L A c 0 g true [85, 80, 68, 65, 84, 69] w7 F0.out F1.out hP7
  rw [F5.out] at hC
  go_wp2_with fail
  refine hC.mono ?_
  rintro en w8 ⟨rfl, hQ, hB⟩
  have hP8 : RdS g A c L 0 true w8 := hQ
  have ks8 := hB.blk ks7 (by omega)
  have kr8 := hB.blk kr7 (by omega)
  have hn8 := hB.inside hn7 hgw2
  have hz8 := hB.size
  clear hC hQ hB hP7 ks7 kr7 hn7
  have hC := rpass_any L A c 0 g true [68, 69, 76, 69, 84, 69] w8 F0.out F1.out hP8
  rw [F6.out] at hC
  as_aux_lemma =>
   go_wp2_with fail
   refine hC.mono ?_
   rintro en w9 ⟨rfl, hQ, hB⟩
   have hP9 : RdS g A c L 0 true w9 := hQ
   have ks9 := hB.blk ks8 (by omega)
   have kr9 := hB.blk kr8 (by omega)
   have hn9 := hB.inside hn8 hgw2
   have hz9 := hB.size
   clear hC hQ hB hP8 ks8 kr8 hn8
   have hC := rpass_any L A c 0 g true [83, 69, 76, 69, 67, 84] w9 F0.out F1.out hP9
   rw [F7.out] at hC
   go_wp2_with fail
   refine hC.mono ?_
   rintro en w10 ⟨rfl, hQ, hB⟩
   have hP10 : RdS g A c L 1 true w10 := hQ
   have ks10 := hB.blk ks9 (by omega)
   have kr10 := hB.blk kr9 (by omega)
   have hn10 := hB.inside hn9 hgw2
   have hz10 := hB.size
   clear hC hQ hB hP9 ks9 kr9 hn9
   have hC := rmust_any L A c 1 g true [42] w10 F0.out F8.out hP10
   rw [F9.out] at hC
   go_wp2_with fail
   refine hC.mono ?_
   rintro en w11 ⟨rfl, hQ, hB⟩
   have hP11 : RdS g A c L 2 true w11 := hQ
   have ks11 := hB.blk ks10 (by omega)
   have kr11 := hB.blk kr10 (by omega)
   have hn11 := hB.inside hn10 hgw2
   have hz11 := hB.size
   clear hC hQ hB hP10 ks10 kr10 hn10
   have hC := rmust_any L A c 2 g true [70, 82, 79, 77] w11 F0.out F10.out hP11
   rw [F11.out] at hC
   as_aux_lemma =>
    go_wp2_with fail
    refine hC.mono ?_
    rintro en w12 ⟨rfl, hQ, hB⟩
    have hP12 : RdS g A c L 3 true w12 := hQ
    have ks12 := hB.blk ks11 (by omega)
    have kr12 := hB.blk kr11 (by omega)
    have hn12 := hB.inside hn11 hgw2
    have hz12 := hB.size
    clear hC hQ hB hP11 ks11 kr11 hn11
    have hC := rdname_any L A c 3 g true w12 (by decide) hP12
    rw [F12.out] at hC
    go_wp2_with fail
    refine hC.mono ?_
    rintro en w13 ⟨rfl, hQ, hB⟩
    have hP13 : RdS g A c L 4 true w13 := hQ
    have ks13 := hB.blk ks12 (by omega)
    have kr13 := hB.blk kr12 (by omega)
    have hn13 := hB.inside hn12 hgw2
    have hz13 := hB.size
    clear hC hQ hB hP12 ks12 kr12 hn12
    obtain ⟨w14, hwn⟩ : ∃ z, w13.setRow sb (st2.cells stPZ).toArray = z := ⟨_, rfl⟩
    have HKS := Lib.hid ks13
    go_upto_region 39 with (refine wpList_store_row rfl 34 _ _ rfl sb (st2.cells stPZ).toArray rfl rfl 34 _ HKS.out size_st rfl (one_st _ _) ?_)
    rw [hwn]
    have ks14 : Blk w14 sb 34 (st2.cells stPZ).toArray := by rw [← hwn]; exact HKS.out.row _
    have hd : Below sb w13 w14 := by rw [← hwn]; exact bwRow (Below.refl _ _) (Nat.le_refl _) _
    have hP14 : RdS g A c L 4 true w14 := ⟨Blk.below hP13.1 hd hgs, hP13.2.below (hd.mono (Nat.le_of_lt hgs))⟩
    have kr14 := kr13.below hd (by omega)
    have hn14 : Below w.heap.size w w14 := hn13.trans (hd.mono (Nat.le_of_lt hsw))
    have hz14 := hd.size
    clear hwn hd HKS hP13 ks13 kr13 hn13
    have hC := rdcond_none L A c 4 g true [87, 72, 69, 82, 69] w14 F0.out F13.out hP14 F14.out
    go_wp2_with fail
    refine hC.mono ?_
    rintro en w15 ⟨rfl, hQ, hB⟩
    have hP15 : RdS g A c L 4 true w15 := hQ
    have ks15 := hB.blk ks14 (by omega)
    have kr15 := hB.blk kr14 (by omega)
    have hn15 := hB.inside hn14 hgw2
    have hz15 := hB.size
    clear hC hQ hB hP14 ks14 kr14 hn14
    have r16 : w15.cell? ⟨sb, 16, none⟩ = some (.string ⟨#[]⟩) := ks15.cell 16
    have z16 := ks15.frozen 16
    have r17 : w15.cell? ⟨sb, 17, none⟩ = some (.int .i64 0) := ks15.cell 17
    have z17 := ks15.frozen 17
    have r18 : w15.cell? ⟨sb, 18, none⟩ = some (.int .i64 0) := ks15.cell 18
    have z18 := ks15.frozen 18
    have r19 : w15.cell? ⟨sb, 19, none⟩ = some (.string ⟨#[]⟩) := ks15.cell 19
    have z19 := ks15.frozen 19
    have r20 : w15.cell? ⟨sb, 20, none⟩ = some (.string ⟨#[]⟩) := ks15.cell 20
    have z20 := ks15.frozen 20
    have r21 : w15.cell? ⟨sb, 21, none⟩ = some (.slice none 0 0) := ks15.cell 21
    have z21 := ks15.frozen 21
    go_upto_region 52 with fail
    obtain ⟨w16, hwn⟩ : ∃ z, ((((((w15.setCell ⟨sb, 16, none⟩ (.string ⟨#[]⟩)).setCell ⟨sb, 17, none⟩ (.int .i64 0)).setCell ⟨sb, 18, none⟩ (.int .i64 0)).setCell ⟨sb, 19, none⟩ (.string ⟨#[]⟩)).setCell ⟨sb, 20, none⟩ (.string ⟨#[]⟩)).setCell ⟨sb, 21, none⟩ (.slice none 0 0)) = z := ⟨_, rfl⟩
    rw [hwn]
    have ks16 : Blk w16 sb 34 (st2.cells stPZ).toArray := by rw [← hwn]; exact blk_eq (own_set6 ks15 16 ex0 none 0 rfl) (by first | (simp only [St.cells, st2, stPZ, slZ, List.setIfInBounds_toArray, List.set_cons_zero, List.set_cons_succ]; done) | rfl)
    have hd : Below sb w15 w16 := by rw [← hwn]; exact bwS (bwS (bwS (bwS (bwS (bwS (bwR) (Nat.le_refl _)) (Nat.le_refl _)) (Nat.le_refl _)) (Nat.le_refl _)) (Nat.le_refl _)) (Nat.le_refl _)
    have hP16 : RdS g A c L 4 true w16 := ⟨Blk.below hP15.1 hd hgs, hP15.2.below (hd.mono (Nat.le_of_lt hgs))⟩
    have kr16 := kr15.below hd (by omega)
    have hn16 : Below w.heap.size w w16 := hn15.trans (hd.mono (Nat.le_of_lt hsw))
    have hz16 := hd.size
    clear hwn hd r16 z16 r17 z17 r18 z18 r19 z19 r20 z20 r21 z21 hP15 ks15 kr15 hn15
    obtain ⟨⟨x0, x1, x2⟩, -⟩ := Blk.three hP16.1
    have hlen2 : (L.length : Int) = 4 := by have := F15.out; omega
    have hlen : ((4 : Int) != (L.length : Int)) = false := by rw [hlen2]; rfl
    have HKS16 : Hid (Blk w16 sb 34 (st2.cells stPZ).toArray) := ks16
    clear ks16
    go_wp2_with (refine wpList_load_row rfl 34 _ rfl sb rfl 34 (st2.cells stPZ).toArray (0, 0) _ HKS16.out Tryz.underlying34 rfl size_st ?_)
    refine (HTX.out w16).mono ?_
    rintro en w17 ⟨rfl, hB⟩
    have ksE : Hid (Blk w17 sb 34 (st2.cells stPZ).toArray) := HKS16.out.below hB HKS16.out.lt
    have krE : Hid (Blk w17 w.heap.size 34 ((stZ [] []).cells stPZ).toArray) := kr16.below hB kr16.lt
    have hnE : Below w.heap.size w w17 := hn16.trans (hB.mono (by have := hn16.size; omega))
    have hres : (loadVar 34 ⟨w.heap.size, 0, none⟩).run Tryz.prog (w17.setRow w.heap.size (st2.cells stPZ).toArray) = .ok (.agg (st2.cells stPZ).toArray) (w17.setRow w.heap.size (st2.cells stPZ).toArray) := run_loadVar_row _ _ 34 34 _ (0, 0) _ (krE.out.row _) Tryz.underlying34 rfl size_st
    have hbw := bwRow hnE (g := w.heap.size) (Nat.le_refl _) (st2.cells stPZ).toArray
    go_wp2_with (first | refine wpList_load_row rfl 34 _ rfl sb rfl 34 (st2.cells stPZ).toArray (0, 0) _ ksE.out Tryz.underlying34 rfl size_st ?_ | refine wpList_store_row rfl 34 _ _ rfl w.heap.size (st2.cells stPZ).toArray rfl rfl 34 _ krE.out size_st rfl (one_st _ _) ?_)
    refine bodyPost_ret (v := .tuple #[.agg (st2.cells stPZ).toArray, .bool true]) (by simp [results, Tryz.results72, asAddr, hres]; done) rfl ?_
    exact ⟨rfl, hbw⟩
def tk3 : List Tok := [⟨1, [68, 69, 76, 69, 84, 69]⟩, ⟨1, [70, 82, 79, 77]⟩, ⟨1, [116]⟩]
def st3 : St := ⟨oDelete, [116], [], [], [], [], [], [], ex0, [], [], ex0, []⟩
theorem cut3 : cutT [68, 69, 76, 69, 84, 69, 32, 70, 82, 79, 77, 32, 116] = some tk3 := by rfl
theorem stmay3 : mayS st3 = true := by decide +kernel
theorem rparse_delete (w : World) : Calls Tryz.prog 72 #[.string ⟨([68, 69, 76, 69, 84, 69, 32, 70, 82, 79, 77, 32, 116] : List UInt8).toArray⟩] w (RetPs st3 stPZ w) := by
 obtain ⟨L, hL⟩ : ∃ L, tk3 = L := ⟨_, rfl⟩
 have F0 : Hid (L.length ≤ 1000000) := by show L.length ≤ 1000000; rw [← hL]; decide
 have F1 : Hid (0 ≤ L.length) := by show 0 ≤ L.length; rw [← hL]; decide
 have F2 : Hid (seeT L 0 [67, 82, 69, 65, 84, 69] = false) := by show seeT L 0 [67, 82, 69, 65, 84, 69] = false; rw [← hL]; decide
 have F3 : Hid (seeT L 0 [68, 82, 79, 80] = false) := by show seeT L 0 [68, 82, 79, 80] = false; rw [← hL]; decide
 have F4 : Hid (seeT L 0 [73, 78, 83, 69, 82, 84] = false) := by show seeT L 0 [73, 78, 83, 69, 82, 84] = false; rw [← hL]; decide
 have F5 : Hid (seeT L 0 [85, 80, 68, 65, 84, 69] = false) := by show seeT L 0 [85, 80, 68, 65, 84, 69] = false; rw [← hL]; decide
 have F6 : Hid (seeT L 0 [68, 69, 76, 69, 84, 69] = true) := by show seeT L 0 [68, 69, 76, 69, 84, 69] = true; rw [← hL]; decide
 have F7 : Hid (1 ≤ L.length) := by show 1 ≤ L.length; rw [← hL]; decide
 have F8 : Hid (seeT L 1 [70, 82, 79, 77] = true) := by show seeT L 1 [70, 82, 79, 77] = true; rw [← hL]; decide
 have F9 : Hid (rnameT L 2 = some [116]) := by show rnameT L 2 = some [116]; rw [← hL]; decide
 have F10 : Hid (3 ≤ L.length) := by show 3 ≤ L.length; rw [← hL]; decide
 have F11 : Hid (seeT L 3 [87, 72, 69, 82, 69] = false) := by show seeT L 3 [87, 72, 69, 82, 69] = false; rw [← hL]; decide
 have F12 : Hid (L.length = 3) := by show L.length = 3; rw [← hL]; decide
 obtain ⟨X, hX⟩ : ∃ X : List UInt8, [68, 69, 76, 69, 84, 69, 32, 70, 82, 79, 77, 32, 116] = X := ⟨_, rfl⟩
 have HCT : Hid (∀ Z : World, Calls Tryz.prog 65 #[.string ⟨X.toArray⟩] Z (RetTkB (some L) Z)) := fun Z => by
  have := rcut_any X Z (by rw [← hX]; decide)
  rw [← hX, cut3, hX, hL] at this
  exact this
 have HTX : Hid (∀ Z : World, Calls Tryz.prog 42 #[.agg (st3.cells stPZ).toArray] Z (Ret (.tuple #[.string ⟨(textR st3).toArray⟩, .bool true]) Z)) := fun Z => by
  have hok := closed_ok oDelete [116] [] (by decide) (by decide) (by decide)
  have := rtext5_any st3 stPZ Z hok ex0_short ex0_short (fun x hx => by cases hx) ⟨by decide, by decide, by decide, by decide, by decide⟩ (closed_mem _ _ _ _ _) (by unfold strongO rightO; decide)
  rw [stmay3] at this
  exact this
 obtain ⟨TX, hTX⟩ : ∃ T, textR st3 = T := ⟨_, rfl⟩
 rw [hTX] at HTX
 rw [hX]
 clear hX hTX hL
 obtain ⟨w1, hw1⟩ : ∃ w1, w.alloc (.cells #[.string ⟨#[]⟩, .string ⟨#[]⟩, .string ⟨#[]⟩, .slice none 0 0, .slice none 0 0, .string ⟨#[]⟩, .slice none 0 0, .slice none 0 0, .string ⟨#[]⟩, .int .i64 0, .int .i64 0, .string ⟨#[]⟩, .string ⟨#[]⟩, .slice none 0 0, .slice none 0 0, .slice none 0 0, .string ⟨#[]⟩, .int .i64 0, .int .i64 0, .string ⟨#[]⟩, .string ⟨#[]⟩, .slice none 0 0, .string ⟨#[]⟩] 34) = w1 := ⟨_, rfl⟩
 have kr1 : Blk w1 w.heap.size 34 ((stZ [] []).cells stPZ).toArray := by rw [← hw1]; exact Blk.new _ _ _
 have hb1 : Below w.heap.size w w1 := by rw [← hw1]; exact bl
 have hz1 := hb1.size
 have hl1 := kr1.lt
 have HW1 := Lib.hid hw1
 clear hw1
 go_in
 go_upto_region 1 with fail
 rw [show World.alloc w _ = w1 from HW1.out]
 clear HW1
 go_wp2_with fail
 refine (HCT.out w1).mono ?_
 rintro en w2 ⟨A, c, l, bb, rfl, -, -, htk, hb2, hbb, hl⟩
 obtain rfl : L = l := (hl _ rfl).symm
 obtain rfl : bb = true := hbb
 clear hl
 have hz2 := hb2.size
 have kr2 := kr1.below hb2 hl1
 have hn2 : Below w.heap.size w w2 := hb1.trans (hb2.mono hz1)
 obtain ⟨w3, hw3⟩ : ∃ w3, w2.alloc (.cells #[.slice A L.length c, .int .i64 0, .bool true] 141) = w3 := ⟨_, rfl⟩
 obtain ⟨w4, hw4⟩ : ∃ w4, w3.alloc (.cells ((stZ [] []).cells stPZ).toArray 34) = w4 := ⟨_, rfl⟩
 have kg3 : Blk w3 w2.heap.size 141 #[.slice A L.length c, .int .i64 0, .bool true] := by rw [← hw3]; exact Blk.new _ _ _
 have kg4 : RdC w4 w2.heap.size A L c 0 true := by rw [← hw4]; exact kg3.alloc _
 have hb24 : Below w2.heap.size w2 w4 := by rw [← hw4, ← hw3]; exact bl
 have ks4 : Blk w4 w3.heap.size 34 ((stZ [] []).cells stPZ).toArray := by rw [← hw4]; exact Blk.new _ _ _
 have hgs : w2.heap.size < w3.heap.size := kg3.lt
 have hP4 : RdS w2.heap.size A c L 0 true w4 := ⟨kg4, (htk.vs (Nat.le_refl _)).below hb24⟩
 have kr4 := kr2.below hb24 (by omega)
 have hn4 : Below w.heap.size w w4 := hn2.trans (hb24.mono (by omega))
 have hz4 := hb24.size
 have HW3 := Lib.hid hw3
 have HW4 := Lib.hid hw4
 clear hw3 hw4 htk kg3 kg4 kr1 kr2 hb24 hb2
 go_upto_region 5 with fail
 rw [show World.alloc w2 _ = w3 from HW3.out]
 go_upto_region 6 with (refine wpList_store_row rfl 34 _ _ rfl w3.heap.size ((stZ [] []).cells stPZ).toArray rfl rfl 34 _ (heap_alloc_last _ _) size_st rfl (one_st _ _) ?_)
 rw [show World.setRow _ _ _ = w4 from (World.setRow_alloc_new _ _ _ _).trans HW4.out]
 obtain ⟨g, hg⟩ : ∃ g, w2.heap.size = g := ⟨_, rfl⟩
 obtain ⟨sb, hsb⟩ : ∃ g, w3.heap.size = g := ⟨_, rfl⟩
 rw [hg] at hP4 hgs
 rw [hsb] at ks4 hgs
 try rw [hg]
 try rw [hsb]
 have hgw : w.heap.size < g := by have := hz1; omega
 have hgw2 : w.heap.size ≤ g := by omega
 have hsw : w.heap.size < sb := by omega
 clear HW3 HW4 hg hsb hz1 hl1 hz2 hz4 hb1 hn2
 have hC := rpass_any L A c 0 g true [67, 82, 69, 65, 84, 69] w4 F0.out F1.out hP4
 rw [F2.out] at hC
 go_wp2_with fail
 refine hC.mono ?_
 rintro en w5 ⟨rfl, hQ, hB⟩
 have hP5 : RdS g A c L 0 true w5 := hQ
 have ks5 := hB.blk ks4 (by omega)
 have kr5 := hB.blk kr4 (by omega)
 have hn5 := hB.inside hn4 hgw2
 have hz5 := hB.size
 clear hC hQ hB hP4 ks4 kr4 hn4
 have hC := rpass_any L A c 0 g true [68, 82, 79, 80] w5 F0.out F1.out hP5
 rw [F3.out] at hC
 as_aux_lemma =>
  go_wp2_with fail
  refine hC.mono ?_
  rintro en w6 ⟨rfl, hQ, hB⟩
  have hP6 : RdS g A c L 0 true w6 := hQ
  have ks6 := hB.blk ks5 (by omega)
  have kr6 := hB.blk kr5 (by omega)
  have hn6 := hB.inside hn5 hgw2
  have hz6 := hB.size
  clear hC hQ hB hP5 ks5 kr5 hn5
  have hC := rpass_any L A c 0 g true [73, 78, 83, 69, 82, 84] w6 F0.out F1.out hP6
  rw [F4.out] at hC
  go_wp2_with fail
  refine hC.mono ?_
  rintro en w7 ⟨rfl, hQ, hB⟩
  have hP7 : RdS g A c L 0 true w7 := hQ
  have ks7 := hB.blk ks6 (by omega)
  have kr7 := hB.blk kr6 (by omega)
  have hn7 := hB.inside hn6 hgw2
  have hz7 := hB.size
  clear hC hQ hB hP6 ks6 kr6 hn6
  have hC := rpass_any L A c 0 g true [85, 80, 68, 65, 84, 69] w7 F0.out F1.out hP7
  rw [F5.out] at hC
  go_wp2_with fail
  refine hC.mono ?_
  rintro en w8 ⟨rfl, hQ, hB⟩
  have hP8 : RdS g A c L 0 true w8 := hQ
  have ks8 := hB.blk ks7 (by omega)
  have kr8 := hB.blk kr7 (by omega)
  have hn8 := hB.inside hn7 hgw2
  have hz8 := hB.size
  clear hC hQ hB hP7 ks7 kr7 hn7
  have hC := rpass_any L A c 0 g true [68, 69, 76, 69, 84, 69] w8 F0.out F1.out hP8
  rw [F6.out] at hC
  as_aux_lemma =>
   go_wp2_with fail
   refine hC.mono ?_
   rintro en w9 ⟨rfl, hQ, hB⟩
   have hP9 : RdS g A c L 1 true w9 := hQ
   have ks9 := hB.blk ks8 (by omega)
   have kr9 := hB.blk kr8 (by omega)
   have hn9 := hB.inside hn8 hgw2
   have hz9 := hB.size
   clear hC hQ hB hP8 ks8 kr8 hn8
   have hC := rmust_any L A c 1 g true [70, 82, 79, 77] w9 F0.out F7.out hP9
   rw [F8.out] at hC
   go_wp2_with fail
   refine hC.mono ?_
   rintro en w10 ⟨rfl, hQ, hB⟩
   have hP10 : RdS g A c L 2 true w10 := hQ
   have ks10 := hB.blk ks9 (by omega)
   have kr10 := hB.blk kr9 (by omega)
   have hn10 := hB.inside hn9 hgw2
   have hz10 := hB.size
   clear hC hQ hB hP9 ks9 kr9 hn9
   have hC := rdname_any L A c 2 g true w10 (by decide) hP10
   rw [F9.out] at hC
   go_wp2_with fail
   refine hC.mono ?_
   rintro en w11 ⟨rfl, hQ, hB⟩
   have hP11 : RdS g A c L 3 true w11 := hQ
   have ks11 := hB.blk ks10 (by omega)
   have kr11 := hB.blk kr10 (by omega)
   have hn11 := hB.inside hn10 hgw2
   have hz11 := hB.size
   clear hC hQ hB hP10 ks10 kr10 hn10
   obtain ⟨w12, hwn⟩ : ∃ z, w11.setRow sb (st3.cells stPZ).toArray = z := ⟨_, rfl⟩
   have HKS := Lib.hid ks11
   go_upto_region 34 with (refine wpList_store_row rfl 34 _ _ rfl sb (st3.cells stPZ).toArray rfl rfl 34 _ HKS.out size_st rfl (one_st _ _) ?_)
   rw [hwn]
   have ks12 : Blk w12 sb 34 (st3.cells stPZ).toArray := by rw [← hwn]; exact HKS.out.row _
   have hd : Below sb w11 w12 := by rw [← hwn]; exact bwRow (Below.refl _ _) (Nat.le_refl _) _
   have hP12 : RdS g A c L 3 true w12 := ⟨Blk.below hP11.1 hd hgs, hP11.2.below (hd.mono (Nat.le_of_lt hgs))⟩
   have kr12 := kr11.below hd (by omega)
   have hn12 : Below w.heap.size w w12 := hn11.trans (hd.mono (Nat.le_of_lt hsw))
   have hz12 := hd.size
   clear hwn hd HKS hP11 ks11 kr11 hn11
   have hC := rdcond_none L A c 3 g true [87, 72, 69, 82, 69] w12 F0.out F10.out hP12 F11.out
   as_aux_lemma =>
    go_wp2_with fail
    refine hC.mono ?_
    rintro en w13 ⟨rfl, hQ, hB⟩
    have hP13 : RdS g A c L 3 true w13 := hQ
    have ks13 := hB.blk ks12 (by omega)
    have kr13 := hB.blk kr12 (by omega)
    have hn13 := hB.inside hn12 hgw2
    have hz13 := hB.size
    clear hC hQ hB hP12 ks12 kr12 hn12
    have r16 : w13.cell? ⟨sb, 16, none⟩ = some (.string ⟨#[]⟩) := ks13.cell 16
    have z16 := ks13.frozen 16
    have r17 : w13.cell? ⟨sb, 17, none⟩ = some (.int .i64 0) := ks13.cell 17
    have z17 := ks13.frozen 17
    have r18 : w13.cell? ⟨sb, 18, none⟩ = some (.int .i64 0) := ks13.cell 18
    have z18 := ks13.frozen 18
    have r19 : w13.cell? ⟨sb, 19, none⟩ = some (.string ⟨#[]⟩) := ks13.cell 19
    have z19 := ks13.frozen 19
    have r20 : w13.cell? ⟨sb, 20, none⟩ = some (.string ⟨#[]⟩) := ks13.cell 20
    have z20 := ks13.frozen 20
    have r21 : w13.cell? ⟨sb, 21, none⟩ = some (.slice none 0 0) := ks13.cell 21
    have z21 := ks13.frozen 21
    go_upto_region 52 with fail
    obtain ⟨w14, hwn⟩ : ∃ z, ((((((w13.setCell ⟨sb, 16, none⟩ (.string ⟨#[]⟩)).setCell ⟨sb, 17, none⟩ (.int .i64 0)).setCell ⟨sb, 18, none⟩ (.int .i64 0)).setCell ⟨sb, 19, none⟩ (.string ⟨#[]⟩)).setCell ⟨sb, 20, none⟩ (.string ⟨#[]⟩)).setCell ⟨sb, 21, none⟩ (.slice none 0 0)) = z := ⟨_, rfl⟩
    rw [hwn]
    have ks14 : Blk w14 sb 34 (st3.cells stPZ).toArray := by rw [← hwn]; exact blk_eq (own_set6 ks13 16 ex0 none 0 rfl) (by first | (simp only [St.cells, st3, stPZ, slZ, List.setIfInBounds_toArray, List.set_cons_zero, List.set_cons_succ]; done) | rfl)
    have hd : Below sb w13 w14 := by rw [← hwn]; exact bwS (bwS (bwS (bwS (bwS (bwS (bwR) (Nat.le_refl _)) (Nat.le_refl _)) (Nat.le_refl _)) (Nat.le_refl _)) (Nat.le_refl _)) (Nat.le_refl _)
    have hP14 : RdS g A c L 3 true w14 := ⟨Blk.below hP13.1 hd hgs, hP13.2.below (hd.mono (Nat.le_of_lt hgs))⟩
    have kr14 := kr13.below hd (by omega)
    have hn14 : Below w.heap.size w w14 := hn13.trans (hd.mono (Nat.le_of_lt hsw))
    have hz14 := hd.size
    clear hwn hd r16 z16 r17 z17 r18 z18 r19 z19 r20 z20 r21 z21 hP13 ks13 kr13 hn13
    obtain ⟨⟨x0, x1, x2⟩, -⟩ := Blk.three hP14.1
    have hlen2 : (L.length : Int) = 3 := by have := F12.out; omega
    have hlen : ((3 : Int) != (L.length : Int)) = false := by rw [hlen2]; rfl
    have HKS14 : Hid (Blk w14 sb 34 (st3.cells stPZ).toArray) := ks14
    clear ks14
    go_wp2_with (refine wpList_load_row rfl 34 _ rfl sb rfl 34 (st3.cells stPZ).toArray (0, 0) _ HKS14.out Tryz.underlying34 rfl size_st ?_)
    refine (HTX.out w14).mono ?_
    rintro en w15 ⟨rfl, hB⟩
    have ksE : Hid (Blk w15 sb 34 (st3.cells stPZ).toArray) := HKS14.out.below hB HKS14.out.lt
    have krE : Hid (Blk w15 w.heap.size 34 ((stZ [] []).cells stPZ).toArray) := kr14.below hB kr14.lt
    have hnE : Below w.heap.size w w15 := hn14.trans (hB.mono (by have := hn14.size; omega))
    have hres : (loadVar 34 ⟨w.heap.size, 0, none⟩).run Tryz.prog (w15.setRow w.heap.size (st3.cells stPZ).toArray) = .ok (.agg (st3.cells stPZ).toArray) (w15.setRow w.heap.size (st3.cells stPZ).toArray) := run_loadVar_row _ _ 34 34 _ (0, 0) _ (krE.out.row _) Tryz.underlying34 rfl size_st
    have hbw := bwRow hnE (g := w.heap.size) (Nat.le_refl _) (st3.cells stPZ).toArray
    go_wp2_with (first | refine wpList_load_row rfl 34 _ rfl sb rfl 34 (st3.cells stPZ).toArray (0, 0) _ ksE.out Tryz.underlying34 rfl size_st ?_ | refine wpList_store_row rfl 34 _ _ rfl w.heap.size (st3.cells stPZ).toArray rfl rfl 34 _ krE.out size_st rfl (one_st _ _) ?_)
    refine bodyPost_ret (v := .tuple #[.agg (st3.cells stPZ).toArray, .bool true]) (by simp [results, Tryz.results72, asAddr, hres]; done) rfl ?_
    exact ⟨rfl, hbw⟩
end Go.Proofs.YtchilcchogcibaaGreatDoor
