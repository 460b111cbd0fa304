/- The document's Parse at a fourth text; caddislaw08.Of; caddislaw08.Of; Grants, in plain words; caddislaw09.awake answers true. -/
import Derived.Test.YtchilcchogcibaaGreatDoorDRd5
set_option maxRecDepth 100000
set_option maxHeartbeats 8000000
namespace Go.Proofs.YtchilcchogcibaaGreatDoor
open Go.RowKit
attribute [local go_sem] ByteArray.extract_mk ba_get ba_append
attribute [local go_sem ↓] Go.wp_at_zero Go.wp_at_succ
def RetPm (s : St) (w : World) (en : Ending) (w' : World) : Prop := ∃ p, en = .returned (.tuple #[.agg (s.cells p).toArray, .bool true]) ∧ Below w.heap.size w w'
theorem mig_fits : (migS [117] [116] [107]).Ok where
 op := by decide
 tb := by decide
 ot := by decide
 key := Nat.zero_le _
 role := Nat.zero_le _
 nN := by decide
 nC := Nat.zero_le _
 nU := Nat.zero_le _
 nR := Nat.zero_le _
 nW := Nat.zero_le _
 nS := Nat.zero_le _
 names := fun x hx => by
  have hx : x ∈ [([107] : List UInt8)] := hx
  simp only [List.mem_singleton] at hx
  subst hx; decide
 cols := fun x hx => by cases hx
 uniq := fun x hx => by cases hx
 refs := fun x hx => by cases hx
 chk := exZero_fit
 whr := exZero_fit
 row := fun x hx => by cases hx
 sets := fun x hx => by cases hx
 num := by
  have e : fitE 13 ex0 := by
   refine ⟨?_, ?_⟩
   ·unfold fitI; exact ⟨by decide, by decide⟩
   ·intro x hx; cases hx
  exact ⟨e, e, (fun x hx => by cases hx), (fun x hx => by cases hx)⟩
theorem mig_mem {t o k : List UInt8} {N cp : Nat} {Y : World} (hc : Y.cell? ⟨N, 0, none⟩ = some (.string ⟨k.toArray⟩)) (hN : N < Y.heap.size) : StQ 1000 (migS t o k) (migP N cp) (Old Y.heap.size) Y :=
 ⟨fun _ => ⟨N, 0, rfl, hN, fun i x hx => by
  cases i with
  | zero => simp [migS] at hx; subst hx; exact hc
  | succ i => simp [migS] at hx⟩, fun h => absurd h (by simp [migS]), SQ.nil, XQ.nil, ⟨0, rfl⟩, fun h => absurd h (by simp [migS]), ⟨0, ZQ.nil⟩, 0, rfl⟩
def tk4 : List Tok := [⟨1, [77, 73, 71, 82, 65, 84, 69]⟩, ⟨1, [67, 79, 80, 89]⟩, ⟨1, [117]⟩, ⟨1, [70, 82, 79, 77]⟩, ⟨1, [116]⟩, ⟨4, [40]⟩, ⟨1, [107]⟩, ⟨4, [41]⟩]
def st4 : St := migS [117] [116] [107]
theorem cut4 : cutT [77, 73, 71, 82, 65, 84, 69, 32, 67, 79, 80, 89, 32, 117, 32, 70, 82, 79, 77, 32, 116, 32, 40, 107, 41] = some tk4 := by rfl
theorem stmay4 : mayS st4 = true := by decide +kernel
theorem rparse_copy (w : World) : Calls Tryz.prog 72 #[.string ⟨([77, 73, 71, 82, 65, 84, 69, 32, 67, 79, 80, 89, 32, 117, 32, 70, 82, 79, 77, 32, 116, 32, 40, 107, 41] : List UInt8).toArray⟩] w (RetPm st4 w) := by
 obtain ⟨L, hL⟩ : ∃ L, tk4 = L := ⟨_, rfl⟩
 have F0 : Hid (L.length ≤ 1000000) := by show L.length ≤ 1000000; rw [← hL]; decide
 have F1 : Hid (0 ≤ L.length) := by show 0 ≤ L.length; rw [← hL]; decide
 have F2 : Hid (seeT L 0 [67, 82, 69, 65, 84, 69] = false) := by show seeT L 0 [67, 82, 69, 65, 84, 69] = false; rw [← hL]; decide
 have F3 : Hid (seeT L 0 [68, 82, 79, 80] = false) := by show seeT L 0 [68, 82, 79, 80] = false; rw [← hL]; decide
 have F4 : Hid (seeT L 0 [73, 78, 83, 69, 82, 84] = false) := by show seeT L 0 [73, 78, 83, 69, 82, 84] = false; rw [← hL]; decide
 have F5 : Hid (seeT L 0 [85, 80, 68, 65, 84, 69] = false) := by show seeT L 0 [85, 80, 68, 65, 84, 69] = false; rw [← hL]; decide
 have F6 : Hid (seeT L 0 [68, 69, 76, 69, 84, 69] = false) := by show seeT L 0 [68, 69, 76, 69, 84, 69] = false; rw [← hL]; decide
 have F7 : Hid (seeT L 0 [83, 69, 76, 69, 67, 84] = false) := by show seeT L 0 [83, 69, 76, 69, 67, 84] = false; rw [← hL]; decide
 have F8 : Hid (seeT L 0 [71, 82, 65, 78, 84] = false) := by show seeT L 0 [71, 82, 65, 78, 84] = false; rw [← hL]; decide
 have F9 : Hid (seeT L 0 [82, 69, 86, 79, 75, 69] = false) := by show seeT L 0 [82, 69, 86, 79, 75, 69] = false; rw [← hL]; decide
 have F10 : Hid (seeT L 0 [77, 73, 71, 82, 65, 84, 69] = true) := by show seeT L 0 [77, 73, 71, 82, 65, 84, 69] = true; rw [← hL]; decide
 have F11 : Hid (L.length ≤ 1000) := by show L.length ≤ 1000; rw [← hL]; decide
 have F12 : Hid (8 ≤ L.length) := by show 8 ≤ L.length; rw [← hL]; decide
 have F13 : Hid (seeT L 1 [67, 79, 80, 89] = true) := by show seeT L 1 [67, 79, 80, 89] = true; rw [← hL]; decide
 have F14 : Hid (rnameT L 2 = some [117]) := by show rnameT L 2 = some [117]; rw [← hL]; decide
 have F15 : Hid (seeT L 3 [70, 82, 79, 77] = true) := by show seeT L 3 [70, 82, 79, 77] = true; rw [← hL]; decide
 have F16 : Hid (rnameT L 4 = some [116]) := by show rnameT L 4 = some [116]; rw [← hL]; decide
 have F17 : Hid (seeT L 5 [40] = true) := by show seeT L 5 [40] = true; rw [← hL]; decide
 have F18 : Hid (rnameT L 6 = some [107]) := by show rnameT L 6 = some [107]; rw [← hL]; decide
 have F19 : Hid (seeT L 7 [44] = false) := by show seeT L 7 [44] = false; rw [← hL]; decide
 have F20 : Hid (seeT L 7 [41] = true) := by show seeT L 7 [41] = true; rw [← hL]; decide
 have F21 : Hid (seeT L 8 [67, 72, 69, 67, 75] = false) := by show seeT L 8 [67, 72, 69, 67, 75] = false; rw [← hL]; decide
 have F22 : Hid (L.length = 8) := by show L.length = 8; rw [← hL]; decide
 obtain ⟨X, hX⟩ : ∃ X : List UInt8, [77, 73, 71, 82, 65, 84, 69, 32, 67, 79, 80, 89, 32, 117, 32, 70, 82, 79, 77, 32, 116, 32, 40, 107, 41] = X := ⟨_, rfl⟩
 have HCT : Hid (∀ Z : World, Calls Tryz.prog 65 #[.string ⟨X.toArray⟩] Z (RetTkB (some L) Z)) := fun Z => by
  have := rcut_any X Z (by rw [← hX]; decide)
  rw [← hX, cut4, hX, hL] at this
  exact this
 rw [hX]
 clear hX hL
 obtain ⟨w1, hw1⟩ : ∃ w1, w.alloc (.cells #[.string ⟨#[]⟩, .string ⟨#[]⟩, .string ⟨#[]⟩, .slice none 0 0, .slice none 0 0, .string ⟨#[]⟩, .slice none 0 0, .slice none 0 0, .string ⟨#[]⟩, .int .i64 0, .int .i64 0, .string ⟨#[]⟩, .string ⟨#[]⟩, .slice none 0 0, .slice none 0 0, .slice none 0 0, .string ⟨#[]⟩, .int .i64 0, .int .i64 0, .string ⟨#[]⟩, .string ⟨#[]⟩, .slice none 0 0, .string ⟨#[]⟩] 34) = w1 := ⟨_, rfl⟩
 have kr1 : Blk w1 w.heap.size 34 ((stZ [] []).cells stPZ).toArray := by rw [← hw1]; exact Blk.new _ _ _
 have hb1 : Below w.heap.size w w1 := by rw [← hw1]; exact bl
 have hz1 := hb1.size
 have hl1 := kr1.lt
 have HW1 := Lib.hid hw1
 clear hw1
 go_in
 go_upto_region 1 with fail
 rw [show World.alloc w _ = w1 from HW1.out]
 clear HW1
 go_wp2_with fail
 refine (HCT.out w1).mono ?_
 rintro en w2 ⟨A, c, l, bb, rfl, -, -, htk, hb2, hbb, hl⟩
 obtain rfl : L = l := (hl _ rfl).symm
 obtain rfl : bb = true := hbb
 clear hl
 have hz2 := hb2.size
 have kr2 := kr1.below hb2 hl1
 have hn2 : Below w.heap.size w w2 := hb1.trans (hb2.mono hz1)
 obtain ⟨w3, hw3⟩ : ∃ w3, w2.alloc (.cells #[.slice A L.length c, .int .i64 0, .bool true] 141) = w3 := ⟨_, rfl⟩
 obtain ⟨w4, hw4⟩ : ∃ w4, w3.alloc (.cells ((stZ [] []).cells stPZ).toArray 34) = w4 := ⟨_, rfl⟩
 have kg3 : Blk w3 w2.heap.size 141 #[.slice A L.length c, .int .i64 0, .bool true] := by rw [← hw3]; exact Blk.new _ _ _
 have kg4 : RdC w4 w2.heap.size A L c 0 true := by rw [← hw4]; exact kg3.alloc _
 have hb24 : Below w2.heap.size w2 w4 := by rw [← hw4, ← hw3]; exact bl
 have ks4 : Blk w4 w3.heap.size 34 ((stZ [] []).cells stPZ).toArray := by rw [← hw4]; exact Blk.new _ _ _
 have hgs : w2.heap.size < w3.heap.size := kg3.lt
 have hP4 : RdS w2.heap.size A c L 0 true w4 := ⟨kg4, (htk.vs (Nat.le_refl _)).below hb24⟩
 have kr4 := kr2.below hb24 (by omega)
 have hn4 : Below w.heap.size w w4 := hn2.trans (hb24.mono (by omega))
 have hz4 := hb24.size
 have HW3 := Lib.hid hw3
 have HW4 := Lib.hid hw4
 clear hw3 hw4 htk kg3 kg4 kr1 kr2 hb24 hb2
 go_upto_region 5 with fail
 rw [show World.alloc w2 _ = w3 from HW3.out]
 go_upto_region 6 with (refine wpList_store_row rfl 34 _ _ rfl w3.heap.size ((stZ [] []).cells stPZ).toArray rfl rfl 34 _ (heap_alloc_last _ _) size_st rfl (one_st _ _) ?_)
 rw [show World.setRow _ _ _ = w4 from (World.setRow_alloc_new _ _ _ _).trans HW4.out]
 obtain ⟨g, hg⟩ : ∃ g, w2.heap.size = g := ⟨_, rfl⟩
 obtain ⟨sb, hsb⟩ : ∃ g, w3.heap.size = g := ⟨_, rfl⟩
 rw [hg] at hP4 hgs
 rw [hsb] at ks4 hgs
 try rw [hg]
 try rw [hsb]
 have hgw : w.heap.size < g := by have := hz1; omega
 have hgw2 : w.heap.size ≤ g := by omega
 have hsw : w.heap.size < sb := by omega
 clear HW3 HW4 hg hsb hz1 hl1 hz2 hz4 hb1 hn2
 have hC := rpass_any L A c 0 g true [67, 82, 69, 65, 84, 69] w4 F0.out F1.out hP4
 rw [F2.out] at hC
 go_wp2_with fail
 refine hC.mono ?_
 rintro en w5 ⟨rfl, hQ, hB⟩
 have hP5 : RdS g A c L 0 true w5 := hQ
 have ks5 := hB.blk ks4 (by omega)
 have kr5 := hB.blk kr4 (by omega)
 have hn5 := hB.inside hn4 hgw2
 have hz5 := hB.size
 clear hC hQ hB hP4 ks4 kr4 hn4
 have hC := rpass_any L A c 0 g true [68, 82, 79, 80] w5 F0.out F1.out hP5
 rw [F3.out] at hC
 go_wp2_with fail
 refine hC.mono ?_
 rintro en w6 ⟨rfl, hQ, hB⟩
 have hP6 : RdS g A c L 0 true w6 := hQ
 have ks6 := hB.blk ks5 (by omega)
 have kr6 := hB.blk kr5 (by omega)
 have hn6 := hB.inside hn5 hgw2
 have hz6 := hB.size
 clear hC hQ hB hP5 ks5 kr5 hn5
 have hC := rpass_any L A c 0 g true [73, 78, 83, 69, 82, 84] w6 F0.out F1.out hP6
 rw [F4.out] at hC
 go_wp2_with fail
 refine hC.mono ?_
 rintro en w7 ⟨rfl, hQ, hB⟩
 have hP7 : RdS g A c L 0 true w7 := hQ
 have ks7 := hB.blk ks6 (by omega)
 have kr7 := hB.blk kr6 (by omega)
 have hn7 := hB.inside hn6 hgw2
 have hz7 := hB.size
 clear hC hQ hB hP6 ks6 kr6 hn6
 have hC := rpass_any L A c 0 g true [85, 80, 68, 65, 84, 69] w7 F0.out F1.out hP7
 rw [F5.out] at hC
 go_wp2_with fail
 refine hC.mono ?_
 rintro en w8 ⟨rfl, hQ, hB⟩
 have hP8 : RdS g A c L 0 true w8 := hQ
 have ks8 := hB.blk ks7 (by omega)
 have kr8 := hB.blk kr7 (by omega)
 have hn8 := hB.inside hn7 hgw2
 have hz8 := hB.size
 clear hC hQ hB hP7 ks7 kr7 hn7
 have hC := rpass_any L A c 0 g true [68, 69, 76, 69, 84, 69] w8 F0.out F1.out hP8
 rw [F6.out] at hC
 go_wp2_with fail
 refine hC.mono ?_
 rintro en w9 ⟨rfl, hQ, hB⟩
 have hP9 : RdS g A c L 0 true w9 := hQ
 have ks9 := hB.blk ks8 (by omega)
 have kr9 := hB.blk kr8 (by omega)
 have hn9 := hB.inside hn8 hgw2
 have hz9 := hB.size
 clear hC hQ hB hP8 ks8 kr8 hn8
 have hC := rpass_any L A c 0 g true [83, 69, 76, 69, 67, 84] w9 F0.out F1.out hP9
 rw [F7.out] at hC
 go_wp2_with fail
 refine hC.mono ?_
 rintro en w10 ⟨rfl, hQ, hB⟩
 have hP10 : RdS g A c L 0 true w10 := hQ
 have ks10 := hB.blk ks9 (by omega)
 have kr10 := hB.blk kr9 (by omega)
 have hn10 := hB.inside hn9 hgw2
 have hz10 := hB.size
 clear hC hQ hB hP9 ks9 kr9 hn9
 have hC := rpass_any L A c 0 g true [71, 82, 65, 78, 84] w10 F0.out F1.out hP10
 rw [F8.out] at hC
 go_wp2_with fail
 refine hC.mono ?_
 rintro en w11 ⟨rfl, hQ, hB⟩
 have hP11 : RdS g A c L 0 true w11 := hQ
 have ks11 := hB.blk ks10 (by omega)
 have kr11 := hB.blk kr10 (by omega)
 have hn11 := hB.inside hn10 hgw2
 have hz11 := hB.size
 clear hC hQ hB hP10 ks10 kr10 hn10
 have hC := rpass_any L A c 0 g true [82, 69, 86, 79, 75, 69] w11 F0.out F1.out hP11
 rw [F9.out] at hC
 go_wp2_with fail
 refine hC.mono ?_
 rintro en w12 ⟨rfl, hQ, hB⟩
 have hP12 : RdS g A c L 0 true w12 := hQ
 have ks12 := hB.blk ks11 (by omega)
 have kr12 := hB.blk kr11 (by omega)
 have hn12 := hB.inside hn11 hgw2
 have hz12 := hB.size
 clear hC hQ hB hP11 ks11 kr11 hn11
 have hC := rpass_any L A c 0 g true [77, 73, 71, 82, 65, 84, 69] w12 F0.out F1.out hP12
 rw [F10.out] at hC
 go_wp2_with fail
 refine hC.mono ?_
 rintro en w13 ⟨rfl, hQ, hB⟩
 have hP13 : RdS g A c L 1 true w13 := hQ
 have ks13 := hB.blk ks12 (by omega)
 have kr13 := hB.blk kr12 (by omega)
 have hn13 := hB.inside hn12 hgw2
 have hz13 := hB.size
 clear hC hQ hB hP12 ks12 kr12 hn12
 have hC := rdmigrate_any L A c 1 g sb [117] [116] [107] w13 F11.out F12.out hP13 hgs ks13 F13.out F14.out F15.out F16.out F17.out F18.out F19.out F20.out F21.out
 go_wp2_with fail
 refine hC.mono ?_
 rintro en w14 ⟨N, cp, rfl, hP14, ks14, hN1, hN2, hcN, hB⟩
 have kr14 := hB.blk kr13 (by omega) (by omega)
 have hn14 := hB.inside hn13 hgw2 (by omega)
 clear hC hB hP13 ks13 kr13 hn13
 have hok := mig_fits
 have hsq : ∀ Y : World, Below w14.heap.size w14 Y → StQ 1000 st4 (migP N cp) (Old Y.heap.size) Y := fun Y hY => mig_mem ((hY.cell (p := ⟨N, 0, none⟩) hN2).trans hcN) (Nat.lt_of_lt_of_le hN2 hY.size)
 have HTX : Hid (∀ Z : World, Below w14.heap.size w14 Z → Calls Tryz.prog 42 #[.agg (st4.cells (migP N cp)).toArray] Z (Ret (.tuple #[.string ⟨(textR st4).toArray⟩, .bool true]) Z)) := fun Z hZ => by
  have := rtext5_any st4 (migP N cp) Z hok ex0_short ex0_short (fun x hx => by cases hx) ⟨by decide, by decide, by decide, by decide, by decide⟩ (hsq Z hZ) (by unfold strongO rightO; decide)
  rw [stmay4] at this
  exact this
 obtain ⟨TX, hTX⟩ : ∃ T, textR st4 = T := ⟨_, rfl⟩
 rw [hTX] at HTX
 clear hTX hsq hok
 obtain ⟨⟨x0, x1, x2⟩, -⟩ := Blk.three hP14.1
 have hlen2 : (L.length : Int) = 8 := by have := F22.out; omega
 have hlen : ((8 : Int) != (L.length : Int)) = false := by rw [hlen2]; rfl
 have HKS14 : Hid (Blk w14 sb 34 (st4.cells (migP N cp)).toArray) := ks14
 clear ks14
 go_wp2_with (refine wpList_load_row rfl 34 _ rfl sb rfl 34 (st4.cells (migP N cp)).toArray (0, 0) _ HKS14.out Tryz.underlying34 rfl size_st ?_)
 refine (HTX.out w14 (Below.refl _ _)).mono ?_
 rintro en w15 ⟨rfl, hB⟩
 have ksE : Hid (Blk w15 sb 34 (st4.cells (migP N cp)).toArray) := HKS14.out.below hB HKS14.out.lt
 have krE : Hid (Blk w15 w.heap.size 34 ((stZ [] []).cells stPZ).toArray) := kr14.below hB kr14.lt
 have hnE : Below w.heap.size w w15 := hn14.trans (hB.mono (by have := hn14.size; omega))
 have hres : (loadVar 34 ⟨w.heap.size, 0, none⟩).run Tryz.prog (w15.setRow w.heap.size (st4.cells (migP N cp)).toArray) = .ok (.agg (st4.cells (migP N cp)).toArray) (w15.setRow w.heap.size (st4.cells (migP N cp)).toArray) := run_loadVar_row _ _ 34 34 _ (0, 0) _ (krE.out.row _) Tryz.underlying34 rfl size_st
 have hbw := bwRow hnE (g := w.heap.size) (Nat.le_refl _) (st4.cells (migP N cp)).toArray
 go_wp2_with (first | refine wpList_load_row rfl 34 _ rfl sb rfl 34 (st4.cells (migP N cp)).toArray (0, 0) _ ksE.out Tryz.underlying34 rfl size_st ?_ | refine wpList_store_row rfl 34 _ _ rfl w.heap.size (st4.cells (migP N cp)).toArray rfl rfl 34 _ krE.out size_st rfl (one_st _ _) ?_)
 refine bodyPost_ret (v := .tuple #[.agg (st4.cells (migP N cp)).toArray, .bool true]) (by simp [results, Tryz.results72, asAddr, hres]; done) rfl ?_
 exact ⟨_, rfl, hbw⟩
def RetOf (s : St) (p : StP) (w : World) (en : Ending) (w' : World) : Prop := en = .returned (.agg (s.cells p).toArray) ∧ Below w.heap.size w w'
theorem of_any (X : List UInt8) (s : St) (p : StP) (w : World) (h : ∀ Z : World, Calls Tryz.prog 72 #[.string ⟨X.toArray⟩] Z (RetPs s p Z)) :
  Calls Tryz.prog 49 #[.string ⟨X.toArray⟩] w (RetOf s p w) := by
 obtain ⟨w1, hw1⟩ : ∃ w1, w.alloc (.cells #[.string ⟨#[]⟩, .string ⟨#[]⟩, .string ⟨#[]⟩, .slice none 0 0, .slice none 0 0, .string ⟨#[]⟩, .slice none 0 0, .slice none 0 0, .string ⟨#[]⟩, .int .i64 0, .int .i64 0, .string ⟨#[]⟩, .string ⟨#[]⟩, .slice none 0 0, .slice none 0 0, .slice none 0 0, .string ⟨#[]⟩, .int .i64 0, .int .i64 0, .string ⟨#[]⟩, .string ⟨#[]⟩, .slice none 0 0, .string ⟨#[]⟩] 34) = w1 := ⟨_, rfl⟩
 have kr1 : Blk w1 w.heap.size 34 ((stZ [] []).cells stPZ).toArray := by rw [← hw1]; exact Blk.new _ _ _
 have hb1 : Below w.heap.size w w1 := by rw [← hw1]; exact bl
 have hz1 := hb1.size
 have hl1 := kr1.lt
 have HW1 := Lib.hid hw1
 have HPR := Lib.hid h
 clear hw1 h
 go_in
 go_upto_region 1 with fail
 rw [show World.alloc w _ = w1 from HW1.out]
 clear HW1
 go_wp2_with fail
 refine (HPR.out w1).mono ?_
 rintro en w2 ⟨rfl, hb2⟩
 have hz2 := hb2.size
 have kr2 := kr1.below hb2 hl1
 obtain ⟨w3, hw3⟩ : ∃ w3, w2.alloc (.cells (s.cells p).toArray 34) = w3 := ⟨_, rfl⟩
 have ks3 : Blk w3 w2.heap.size 34 (s.cells p).toArray := by rw [← hw3]; exact Blk.new _ _ _
 have hb3 : Below w2.heap.size w2 w3 := by rw [← hw3]; exact bl
 have kr3 := kr2.below hb3 (by omega)
 have hn3 : Below w.heap.size w w3 := hb1.trans ((hb2.trans (hb3.mono hz2)).mono hz1)
 have HW3 := Lib.hid hw3
 have HKS := Lib.hid ks3
 have HKR := Lib.hid kr3
 clear hw3 kr1 kr2 ks3 kr3
 go_upto_region 2 with (refine wpList_store_row rfl 34 _ _ rfl w2.heap.size (s.cells p).toArray rfl rfl 34 _ (heap_alloc_last _ _) size_st rfl (one_st _ _) ?_)
 rw [show World.setRow _ _ _ = w3 from (World.setRow_alloc_new _ _ _ _).trans HW3.out]
 have hres : (loadVar 34 ⟨w.heap.size, 0, none⟩).run Tryz.prog (w3.setRow w.heap.size (s.cells p).toArray) = .ok (.agg (s.cells p).toArray) (w3.setRow w.heap.size (s.cells p).toArray) := run_loadVar_row _ _ 34 34 _ (0, 0) _ (HKR.out.row _) Tryz.underlying34 rfl size_st
 have hbw := bwRow hn3 (g := w.heap.size) (Nat.le_refl _) (s.cells p).toArray
 go_wp2_with (first | refine wpList_load_row rfl 34 _ rfl w2.heap.size rfl 34 (s.cells p).toArray (0, 0) _ HKS.out Tryz.underlying34 rfl size_st ?_ | refine wpList_store_row rfl 34 _ _ rfl w.heap.size (s.cells p).toArray rfl rfl 34 _ HKR.out size_st rfl (one_st _ _) ?_)
 refine bodyPost_ret (v := .agg (s.cells p).toArray) (by simp [results, Tryz.results49, asAddr, Act.put, hres]; done) rfl ?_
 exact ⟨rfl, hbw⟩
def RetOm (s : St) (w : World) (en : Ending) (w' : World) : Prop := ∃ p, en = .returned (.agg (s.cells p).toArray) ∧ Below w.heap.size w w'
theorem ofm_any (X : List UInt8) (s : St) (w : World) (h : ∀ Z : World, Calls Tryz.prog 72 #[.string ⟨X.toArray⟩] Z (RetPm s Z)) :
  Calls Tryz.prog 49 #[.string ⟨X.toArray⟩] w (RetOm s w) := by
 obtain ⟨w1, hw1⟩ : ∃ w1, w.alloc (.cells #[.string ⟨#[]⟩, .string ⟨#[]⟩, .string ⟨#[]⟩, .slice none 0 0, .slice none 0 0, .string ⟨#[]⟩, .slice none 0 0, .slice none 0 0, .string ⟨#[]⟩, .int .i64 0, .int .i64 0, .string ⟨#[]⟩, .string ⟨#[]⟩, .slice none 0 0, .slice none 0 0, .slice none 0 0, .string ⟨#[]⟩, .int .i64 0, .int .i64 0, .string ⟨#[]⟩, .string ⟨#[]⟩, .slice none 0 0, .string ⟨#[]⟩] 34) = w1 := ⟨_, rfl⟩
 have kr1 : Blk w1 w.heap.size 34 ((stZ [] []).cells stPZ).toArray := by rw [← hw1]; exact Blk.new _ _ _
 have hb1 : Below w.heap.size w w1 := by rw [← hw1]; exact bl
 have hz1 := hb1.size
 have hl1 := kr1.lt
 have HW1 := Lib.hid hw1
 have HPR := Lib.hid h
 clear hw1 h
 go_in
 go_upto_region 1 with fail
 rw [show World.alloc w _ = w1 from HW1.out]
 clear HW1
 go_wp2_with fail
 refine (HPR.out w1).mono ?_
 rintro en w2 ⟨p, rfl, hb2⟩
 have hz2 := hb2.size
 have kr2 := kr1.below hb2 hl1
 obtain ⟨w3, hw3⟩ : ∃ w3, w2.alloc (.cells (s.cells p).toArray 34) = w3 := ⟨_, rfl⟩
 have ks3 : Blk w3 w2.heap.size 34 (s.cells p).toArray := by rw [← hw3]; exact Blk.new _ _ _
 have hb3 : Below w2.heap.size w2 w3 := by rw [← hw3]; exact bl
 have kr3 := kr2.below hb3 (by omega)
 have hn3 : Below w.heap.size w w3 := hb1.trans ((hb2.trans (hb3.mono hz2)).mono hz1)
 have HW3 := Lib.hid hw3
 have HKS := Lib.hid ks3
 have HKR := Lib.hid kr3
 clear hw3 kr1 kr2 ks3 kr3
 go_upto_region 2 with (refine wpList_store_row rfl 34 _ _ rfl w2.heap.size (s.cells p).toArray rfl rfl 34 _ (heap_alloc_last _ _) size_st rfl (one_st _ _) ?_)
 rw [show World.setRow _ _ _ = w3 from (World.setRow_alloc_new _ _ _ _).trans HW3.out]
 have hres : (loadVar 34 ⟨w.heap.size, 0, none⟩).run Tryz.prog (w3.setRow w.heap.size (s.cells p).toArray) = .ok (.agg (s.cells p).toArray) (w3.setRow w.heap.size (s.cells p).toArray) := run_loadVar_row _ _ 34 34 _ (0, 0) _ (HKR.out.row _) Tryz.underlying34 rfl size_st
 have hbw := bwRow hn3 (g := w.heap.size) (Nat.le_refl _) (s.cells p).toArray
 go_wp2_with (first | refine wpList_load_row rfl 34 _ rfl w2.heap.size rfl 34 (s.cells p).toArray (0, 0) _ HKS.out Tryz.underlying34 rfl size_st ?_ | refine wpList_store_row rfl 34 _ _ rfl w.heap.size (s.cells p).toArray rfl rfl 34 _ HKR.out size_st rfl (one_st _ _) ?_)
 refine bodyPost_ret (v := .agg (s.cells p).toArray) (by simp [results, Tryz.results49, asAddr, Act.put, hres]; done) rfl ?_
 exact ⟨p, rfl, hbw⟩
end Go.Proofs.YtchilcchogcibaaGreatDoor
namespace Go.Proofs.YtchilcchogcibaaGreatDoor
open Go.RowKit
theorem chk_iff (l : List Gr) : chkG l = 0 ↔ (∀ x ∈ l, badG x = false) ∧ l.length ≤ 60 ∧ Ris l := by
 unfold chkG
 constructor
 ·intro h
  by_cases h1 : l.any badG = true
  ·rw [if_pos h1] at h; cases h
  rw [if_neg h1] at h
  by_cases h2 : 60 < l.length
  ·rw [if_pos h2] at h; cases h
  rw [if_neg h2] at h
  by_cases h3 : risB l = true
  ·refine ⟨fun x hx => ?_, by omega, ris_of h3⟩
   cases hb : badG x
   ·rfl
   ·exact absurd (List.any_eq_true.2 ⟨x, hx, hb⟩) h1
  ·rw [if_neg h3] at h; cases h
 ·rintro ⟨h1, h2, h3⟩
  rw [if_neg, if_neg (by omega), if_pos (of_ris h3)]
  intro h
  obtain ⟨x, hx, hb⟩ := List.any_eq_true.1 h
  rw [h1 x hx] at hb; cases hb
inductive DoG (l : List Gr) (s : St) : List Gr × Int → Prop
 | no (n : Int) (h : n = 1 ∨ n = 13) : DoG l s ([], n)
 | add (hc : chkG l = 0) (hm : mayS s = true) (hr : ¬ s.role = adminT) (ho : s.op = oRead ∨ s.op = oWrite) (hl : l.length < 60 ∨ stG s ∈ l) : DoG l s (addG l (stG s), 0)
 | del (hc : chkG l = 0) (hm : mayS s = true) (hr : ¬ s.role = adminT) (ho : s.op = oUnread ∨ s.op = oUnwrite) : DoG l s (delG l (stG s), 0)
theorem doG_cases (l : List Gr) (s : St) : DoG l s (doG l s) := by
 unfold doG
 by_cases h1 : chkG l = 0
 ·rw [if_pos h1]
  by_cases h2 : mayS s = true
  ·rw [if_pos h2]
   by_cases h3 : s.role = adminT
   ·rw [if_pos h3]; exact .no 1 (.inl rfl)
   rw [if_neg h3]
   by_cases h4 : s.op = oRead ∨ s.op = oWrite
   ·rw [if_pos h4]
    by_cases h5 : (decide (60 ≤ l.length) && !decide (stG s ∈ l)) = true
    ·rw [if_pos h5]; exact .no 13 (.inr rfl)
    ·rw [if_neg h5]
     refine .add h1 h2 h3 h4 ?_
     simp only [Bool.and_eq_true, Bool.not_eq_true', decide_eq_true_eq, decide_eq_false_iff_not, not_and, Decidable.not_not] at h5
     by_cases h6 : l.length < 60
     ·exact .inl h6
     ·exact .inr (h5 (by omega))
   ·rw [if_neg h4]
    by_cases h5 : s.op = oUnread ∨ s.op = oUnwrite
    ·rw [if_pos h5]; exact .del h1 h2 h3 h5
    ·rw [if_neg h5]; exact .no 1 (.inl rfl)
  ·rw [if_neg h2]; exact .no 1 (.inl rfl)
 ·rw [if_neg h1]; exact .no 1 (.inl rfl)
theorem doG_len (l : List Gr) (s : St) : (doG l s).1.length ≤ l.length + 1 := by
 rcases h0 : doG l s with ⟨r, n⟩
 have hc := doG_cases l s
 rw [h0] at hc
 cases hc with
 | no _ _ => simp
 | add => exact addG_len l _
 | del => exact Nat.le_trans (List.length_filter_le _ _) (by omega)
def rdoG (l : List Gr) (s : St) : List Gr × Int :=
 if chkG l ≠ 0 ∨ mayS s = false ∨ s.role = adminT ∨ (s.op ≠ oRead ∧ s.op ≠ oWrite ∧ s.op ≠ oUnread ∧ s.op ≠ oUnwrite) then ([], 1)
 else if s.op = oUnread ∨ s.op = oUnwrite then (delG l (stG s), 0)
 else if decide (60 ≤ l.length) && !decide (stG s ∈ l) then ([], 13)
 else (withG l (stG s), 0)
theorem do_D (l : List Gr) (s : St) : doG l s = rdoG l s := by
 unfold doG rdoG
 by_cases h1 : chkG l = 0
 ·rw [if_pos h1]
  by_cases h2 : mayS s = true
  ·rw [if_pos h2]
   by_cases h3 : s.role = adminT
   ·rw [if_pos h3, if_pos (.inr (.inr (.inl h3)))]
   rw [if_neg h3]
   by_cases h4 : s.op = oRead ∨ s.op = oWrite
   ·have hn : ¬ (s.op = oUnread ∨ s.op = oUnwrite) := by rcases h4 with e | e <;> rw [e] <;> decide
    rw [if_pos h4, if_neg (c := _ ∨ _), if_neg hn, add_eq ((chk_iff l).1 h1).2.2]
    rintro (h | h | h | ⟨a, b, _⟩)
    ·exact h h1
    ·rw [h2] at h; cases h
    ·exact h3 h
    ·rcases h4 with e | e
     ·exact a e
     ·exact b e
   ·rw [if_neg h4]
    by_cases h5 : s.op = oUnread ∨ s.op = oUnwrite
    ·rw [if_pos h5, if_neg, if_pos h5]
     rintro (h | h | h | ⟨_, _, a, b⟩)
     ·exact h h1
     ·rw [h2] at h; cases h
     ·exact h3 h
     ·rcases h5 with e | e
      ·exact a e
      ·exact b e
    ·rw [if_neg h5, if_pos]
     exact .inr (.inr (.inr ⟨fun e => h4 (.inl e), fun e => h4 (.inr e), fun e => h5 (.inl e), fun e => h5 (.inr e)⟩))
  ·rw [if_neg h2, if_pos (.inr (.inl (by simpa using h2)))]
 ·rw [if_neg h1, if_pos (.inl h1)]
end Go.Proofs.YtchilcchogcibaaGreatDoor
namespace Go.Proofs.YtchilcchogcibaaGreatDoor
open Go.RowKit
attribute [local go_sem] ByteArray.extract_mk ba_get ba_append
attribute [local go_sem ↓] Go.wp_at_zero Go.wp_at_succ
def gr9 : Gr := ⟨[114], [116], false⟩
theorem do9 : doG [] st1 = ([gr9], 0) := by
 unfold doG
 rw [if_pos (show chkG [] = 0 from rfl), if_pos stmay1]
 rfl
theorem may9a : mayG [gr9] [114] st2.op st2.tb = true := by decide +kernel
theorem may9b : mayG [gr9] [114] st3.op st3.tb = false := by decide +kernel
theorem may9c : mayG [gr9] [97, 100, 109, 105, 110] st4.op st4.tb = true := by decide +kernel
theorem awake9_any (w : World) (hV : Env0 w) : Calls Tryz.prog 22 #[] w (Ret (.bool true) w) := by
 have HO1 : Hid (∀ Z : World, Calls Tryz.prog 49 #[.string ⟨#[71, 82, 65, 78, 84, 32, 82, 69, 65, 68, 32, 79, 78, 32, 116, 32, 84, 79, 32, 114]⟩] Z (RetOf st1 stPZ Z)) := fun Z => of_any _ st1 stPZ Z rparse_grant
 have HO2 : Hid (∀ Z : World, Calls Tryz.prog 49 #[.string ⟨([83, 69, 76, 69, 67, 84, 32, 42, 32, 70, 82, 79, 77, 32, 116]).toArray⟩] Z (RetOf st2 stPZ Z)) := fun Z => of_any _ st2 stPZ Z rparse_select
 have HO3 : Hid (∀ Z : World, Calls Tryz.prog 49 #[.string ⟨([68, 69, 76, 69, 84, 69, 32, 70, 82, 79, 77, 32, 116]).toArray⟩] Z (RetOf st3 stPZ Z)) := fun Z => of_any _ st3 stPZ Z rparse_delete
 have HO4 : Hid (∀ Z : World, Calls Tryz.prog 49 #[.string ⟨([77, 73, 71, 82, 65, 84, 69, 32, 67, 79, 80, 89, 32, 117, 32, 70, 82, 79, 77, 32, 116, 32, 40, 107, 41]).toArray⟩] Z (RetOm st4 Z)) := fun Z => ofm_any _ st4 Z rparse_copy
 have HD : Hid (∀ Z : World, Below w.heap.size w Z → w.heap.size ≤ Z.heap.size → Calls Tryz.prog 15 #[.slice none 0 0, .agg (st1.cells stPZ).toArray] Z (RetGE ([gr9], 0) Z)) := fun Z hz hs => by
  have := do_any none 0 [] st1 stPZ Z (by decide) (fun g hg => by cases hg) GQ.nil (closed_ok _ _ _ (by decide) (by decide) (by decide)) (closed_mem _ _ _ _ _) (hV.below hz)
  rw [do9] at this
  exact this
 clear hV
 go_in
 go_wp2_with fail
 refine (HO1.out _).mono ?_
 rintro en w1 ⟨rfl, hb1⟩
 have hz1 := hb1.size
 have HD1 := Lib.hid (HD.out w1 hb1 hz1)
 go_wp2_with fail
 refine HD1.out.mono ?_
 rintro en w2 ⟨sv, rfl, hown, hb2⟩
 obtain ⟨A, c, rfl, hc1, hc2, hQ⟩ := GQ.own hown
 have hz2 := hb2.size
 have hn2 : Below w.heap.size w w2 := hb1.trans (hb2.mono hz1)
 have HM : Hid (∀ (role : List UInt8) (s : St) (p : StP) (Z : World), Below w2.heap.size w2 Z → Calls Tryz.prog 18 #[.slice A 1 c, .string ⟨role.toArray⟩, .agg (s.cells p).toArray] Z (Ret (.bool (mayG [gr9] role s.op s.tb)) Z)) := fun role s p Z hz =>
  mayG_any A c [gr9] role s p Z (by decide) (fun g hg => by simp only [List.mem_singleton] at hg; subst hg; exact ⟨by decide, by decide⟩) (hQ.keep fun b hb => ⟨Nat.lt_of_lt_of_le hb.2 hz.size, fun o => hz.cell (p := ⟨b, o, none⟩) hb.2⟩)
 have e1 : ([gr9], (0 : Int)).1.length = 1 := rfl
 have e2 : ([gr9], (0 : Int)).2 = 0 := rfl
 rw [e1, e2]
 clear e1 e2 hown hc1 hc2 hQ HD HD1
 go_wp2_with fail
 refine (HO2.out _).mono ?_
 rintro en w3 ⟨rfl, hb3⟩
 have hz3 := hb3.size
 have HX := Lib.hid (HM.out [114] st2 stPZ w3 hb3)
 rw [may9a] at HX
 go_wp2_with fail
 refine HX.out.mono ?_
 rintro en w4 ⟨rfl, hb4⟩
 have hz4 := hb4.size
 have hc4 : Below w2.heap.size w2 w4 := hb3.trans (hb4.mono hz3)
 clear HX
 go_wp2_with fail
 refine (HO3.out _).mono ?_
 rintro en w5 ⟨rfl, hb5⟩
 have hz5 := hb5.size
 have hc5 : Below w2.heap.size w2 w5 := hc4.trans (hb5.mono (by omega))
 have HX := Lib.hid (HM.out [114] st3 stPZ w5 hc5)
 rw [may9b] at HX
 go_wp2_with fail
 refine HX.out.mono ?_
 rintro en w6 ⟨rfl, hb6⟩
 have hz6 := hb6.size
 have hc6 : Below w2.heap.size w2 w6 := hc5.trans (hb6.mono (by omega))
 clear HX
 go_wp2_with fail
 refine (HO4.out _).mono ?_
 rintro en w7 ⟨p4, rfl, hb7⟩
 have hz7 := hb7.size
 have hc7 : Below w2.heap.size w2 w7 := hc6.trans (hb7.mono (by omega))
 have HX := Lib.hid (HM.out [97, 100, 109, 105, 110] st4 p4 w7 hc7)
 rw [may9c] at HX
 go_wp2_with fail
 refine HX.out.mono ?_
 rintro en w8 ⟨rfl, hb8⟩
 have hc8 : Below w2.heap.size w2 w8 := hc7.trans (hb8.mono (by omega))
 clear HX
 go_wp2_with fail
 go_ret
 exact ⟨rfl, hn2.trans (hc8.mono (by omega))⟩
end Go.Proofs.YtchilcchogcibaaGreatDoor
