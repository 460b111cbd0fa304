/- caddislaw05.StmtRights answers true: a GRANT and its REVOKE differ in their Op alone, and so do READ and WRITE. Condition: what the library's variables hold; that the chapter's examples hold.. -/
import Derived.Test.YtchilcchogcibaaGreatDoorER5Same
import Derived.Test.YtchilcchogcibaaGreatDoorERightP
set_option maxRecDepth 100000
set_option maxHeartbeats 8000000
namespace Go.Proofs.YtchilcchogcibaaGreatDoor
open Go.RowKit
attribute [local go_sem] ByteArray.extract_mk ba_get ba_append
attribute [local go_sem ↓] Go.wp_at_zero Go.wp_at_succ
theorem callStr {f : Nat} {a b : List UInt8} {w : World} {Q : Ending → World → Prop} (h : Calls Tryz.prog f #[.string ⟨a.toArray⟩] w Q) (e : a = b) : Calls Tryz.prog f #[.string ⟨b.toArray⟩] w Q := e ▸ h
theorem stmtRights_walk (t0 r0 : List UInt8) (w : World) (hV : Env0 w) (hAW : ∀ Z : World, Below w.heap.size w Z → Calls Tryz.prog 29 #[] Z (Ret (.bool true) Z)) :
  Calls Tryz.prog 11 #[.string ⟨t0.toArray⟩, .string ⟨r0.toArray⟩] w (Ret (.bool true) w) := by
 have HTX : Hid (∀ (s : List UInt8) (Z : World), Calls Tryz.prog 31 #[.string ⟨s.toArray⟩] Z (Ret (.string ⟨(s.take 20).toArray⟩) Z)) := fun s Z => text5_any s Z
 have ht : (t0.take 20).length ≤ 20 := List.length_take_le _ _
 have hr : (r0.take 20).length ≤ 20 := List.length_take_le _ _
 have HX1 := Lib.hid (fun Z => HTX.out t0 Z)
 have HX2 := Lib.hid (fun Z => HTX.out r0 Z)
 obtain ⟨t, hT⟩ : ∃ t, t0.take 20 = t := ⟨_, rfl⟩
 obtain ⟨r, hR⟩ : ∃ r, r0.take 20 = r := ⟨_, rfl⟩
 rw [hT] at HX1 ht
 rw [hR] at HX2 hr
 have hF := four_any t r
 have HP1 : Hid (∀ Z : World, Below w.heap.size w Z → Calls Tryz.prog 30 #[.string ⟨(txG [71, 82, 65, 78, 84, 32, 82, 69, 65, 68, 32, 79, 78] [84, 79] t r).toArray⟩] Z (RetPp (parsedR (txG [71, 82, 65, 78, 84, 32, 82, 69, 65, 68, 32, 79, 78] [84, 79] t r) [] [84, 79]) Z)) := fun Z hz => rgrant_any _ _ _ _ Z (by rfl) (by simp; omega) (hV.below hz)
 have HP2 : Hid (∀ Z : World, Below w.heap.size w Z → Calls Tryz.prog 30 #[.string ⟨(txG [82, 69, 86, 79, 75, 69, 32, 82, 69, 65, 68, 32, 79, 78] [70, 82, 79, 77] t r).toArray⟩] Z (RetPp (parsedR (txG [82, 69, 86, 79, 75, 69, 32, 82, 69, 65, 68, 32, 79, 78] [70, 82, 79, 77] t r) [117, 110] [70, 82, 79, 77]) Z)) := fun Z hz => rrevoke_any _ _ _ _ Z (by rfl) (by simp; omega) (hV.below hz)
 have HP3 : Hid (∀ Z : World, Below w.heap.size w Z → Calls Tryz.prog 30 #[.string ⟨(txG [71, 82, 65, 78, 84, 32, 87, 82, 73, 84, 69, 32, 79, 78] [84, 79] t r).toArray⟩] Z (RetPp (parsedR (txG [71, 82, 65, 78, 84, 32, 87, 82, 73, 84, 69, 32, 79, 78] [84, 79] t r) [] [84, 79]) Z)) := fun Z hz => rgrant_any _ _ _ _ Z (by rfl) (by simp; omega) (hV.below hz)
 have HP4 : Hid (∀ Z : World, Below w.heap.size w Z → Calls Tryz.prog 30 #[.string ⟨(txG [82, 69, 86, 79, 75, 69, 32, 87, 82, 73, 84, 69, 32, 79, 78] [70, 82, 79, 77] t r).toArray⟩] Z (RetPp (parsedR (txG [82, 69, 86, 79, 75, 69, 32, 87, 82, 73, 84, 69, 32, 79, 78] [70, 82, 79, 77] t r) [117, 110] [70, 82, 79, 77]) Z)) := fun Z hz => rrevoke_any _ _ _ _ Z (by rfl) (by simp; omega) (hV.below hz)
 have HAW := Lib.hid hAW
 clear hT hR hV hAW HTX
 go_in
 go_wp2_with fail
 refine (HX1.out _).mono ?_
 rintro en w1 ⟨rfl, hb1⟩
 go_wp2_with fail
 refine (HX2.out _).mono ?_
 rintro en w2 ⟨rfl, hb2⟩
 have hn1 : Below w.heap.size w w2 := hb1.trans (hb2.mono hb1.size)
 clear HX1 HX2 hb1 hb2
 cases hF with
 | no hO1 hO2 hO3 hO4 =>
  go_wp2_with fail
  refine Calls.mono (callStr (HP1.out w2 hn1) (by simp [txG])) ?_
  rw [hO1]
  rintro en v1 ⟨rfl, hb1⟩
  obtain ⟨u1, hu1⟩ : ∃ u, v1.alloc (.cells ((stZ [] []).cells stPZ).toArray 34) = u := ⟨_, rfl⟩
  have k1 : Blk u1 v1.heap.size 34 ((stZ [] []).cells stPZ).toArray := by rw [← hu1]; exact Blk.new _ _ _
  have hd1 : Below v1.heap.size v1 u1 := by rw [← hu1]; exact bl
  have hz1 := hb1.size
  have hm1 : Below w.heap.size w u1 := (hn1.trans (hb1.mono hn1.size)).trans (hd1.mono (Nat.le_trans hn1.size hz1))
  have HU1 := Lib.hid hu1
  have HK1 := Lib.hid k1
  have hl1 : v1.heap.size < u1.heap.size := k1.lt
  clear hu1 k1
  go_upto_region 3 with (refine wpList_store_row rfl 34 _ _ rfl v1.heap.size ((stZ [] []).cells stPZ).toArray rfl rfl 34 _ (heap_alloc_last _ _) size_st rfl (one_st _ _) ?_)
  rw [show World.setRow _ _ _ = u1 from (World.setRow_alloc_new _ _ _ _).trans HU1.out]
  clear HU1
  have hn2 := hm1
  go_wp2_with fail
  refine Calls.mono (callStr (HP2.out u1 hn2) (by simp [txG])) ?_
  rw [hO2]
  rintro en v2 ⟨rfl, hb2⟩
  obtain ⟨u2, hu2⟩ : ∃ u, v2.alloc (.cells ((stZ [] []).cells stPZ).toArray 34) = u := ⟨_, rfl⟩
  have k2 : Blk u2 v2.heap.size 34 ((stZ [] []).cells stPZ).toArray := by rw [← hu2]; exact Blk.new _ _ _
  have hd2 : Below v2.heap.size v2 u2 := by rw [← hu2]; exact bl
  have hz2 := hb2.size
  have hm2 : Below w.heap.size w u2 := (hn2.trans (hb2.mono hn2.size)).trans (hd2.mono (Nat.le_trans hn2.size hz2))
  have HU2 := Lib.hid hu2
  have HK2 := Lib.hid k2
  have hl2 : v2.heap.size < u2.heap.size := k2.lt
  clear hu2 k2
  go_upto_region 4 with (refine wpList_store_row rfl 34 _ _ rfl v2.heap.size ((stZ [] []).cells stPZ).toArray rfl rfl 34 _ (heap_alloc_last _ _) size_st rfl (one_st _ _) ?_)
  rw [show World.setRow _ _ _ = u2 from (World.setRow_alloc_new _ _ _ _).trans HU2.out]
  clear HU2
  have hn3 := hm2
  go_wp2_with fail
  refine Calls.mono (callStr (HP3.out u2 hn3) (by simp [txG])) ?_
  rw [hO3]
  rintro en v3 ⟨rfl, hb3⟩
  obtain ⟨u3, hu3⟩ : ∃ u, v3.alloc (.cells ((stZ [] []).cells stPZ).toArray 34) = u := ⟨_, rfl⟩
  have k3 : Blk u3 v3.heap.size 34 ((stZ [] []).cells stPZ).toArray := by rw [← hu3]; exact Blk.new _ _ _
  have hd3 : Below v3.heap.size v3 u3 := by rw [← hu3]; exact bl
  have hz3 := hb3.size
  have hm3 : Below w.heap.size w u3 := (hn3.trans (hb3.mono hn3.size)).trans (hd3.mono (Nat.le_trans hn3.size hz3))
  have HU3 := Lib.hid hu3
  have HK3 := Lib.hid k3
  have hl3 : v3.heap.size < u3.heap.size := k3.lt
  clear hu3 k3
  go_upto_region 5 with (refine wpList_store_row rfl 34 _ _ rfl v3.heap.size ((stZ [] []).cells stPZ).toArray rfl rfl 34 _ (heap_alloc_last _ _) size_st rfl (one_st _ _) ?_)
  rw [show World.setRow _ _ _ = u3 from (World.setRow_alloc_new _ _ _ _).trans HU3.out]
  clear HU3
  have hn4 := hm3
  go_wp2_with fail
  refine Calls.mono (callStr (HP4.out u3 hn4) (by simp [txG])) ?_
  rw [hO4]
  rintro en v4 ⟨rfl, hb4⟩
  obtain ⟨u4, hu4⟩ : ∃ u, v4.alloc (.cells ((stZ [] []).cells stPZ).toArray 34) = u := ⟨_, rfl⟩
  have k4 : Blk u4 v4.heap.size 34 ((stZ [] []).cells stPZ).toArray := by rw [← hu4]; exact Blk.new _ _ _
  have hd4 : Below v4.heap.size v4 u4 := by rw [← hu4]; exact bl
  have hz4 := hb4.size
  have hm4 : Below w.heap.size w u4 := (hn4.trans (hb4.mono hn4.size)).trans (hd4.mono (Nat.le_trans hn4.size hz4))
  have HU4 := Lib.hid hu4
  have HK4 := Lib.hid k4
  have hl4 : v4.heap.size < u4.heap.size := k4.lt
  clear hu4 k4
  go_upto_region 6 with (refine wpList_store_row rfl 34 _ _ rfl v4.heap.size ((stZ [] []).cells stPZ).toArray rfl rfl 34 _ (heap_alloc_last _ _) size_st rfl (one_st _ _) ?_)
  rw [show World.setRow _ _ _ = u4 from (World.setRow_alloc_new _ _ _ _).trans HU4.out]
  clear HU4
  go_wp2_with fail
  refine (HAW.out u4 hm4).mono ?_
  rintro en wz ⟨rfl, hbz⟩
  go_wp2_with fail
  go_ret
  exact ⟨rfl, hm4.trans (hbz.mono hm4.size)⟩
 | yes a b hO1 hO2 hO3 hO4 ha hb =>
  go_wp2_with fail
  refine Calls.mono (callStr (HP1.out w2 hn1) (by simp [txG])) ?_
  rw [hO1]
  rintro en v1 ⟨rfl, hb1⟩
  obtain ⟨u1, hu1⟩ : ∃ u, v1.alloc (.cells ((grS (oRead, a, b)).cells stPZ).toArray 34) = u := ⟨_, rfl⟩
  have k1 : Blk u1 v1.heap.size 34 ((grS (oRead, a, b)).cells stPZ).toArray := by rw [← hu1]; exact Blk.new _ _ _
  have hd1 : Below v1.heap.size v1 u1 := by rw [← hu1]; exact bl
  have hz1 := hb1.size
  have hm1 : Below w.heap.size w u1 := (hn1.trans (hb1.mono hn1.size)).trans (hd1.mono (Nat.le_trans hn1.size hz1))
  have HU1 := Lib.hid hu1
  have HK1 := Lib.hid k1
  have hl1 : v1.heap.size < u1.heap.size := k1.lt
  clear hu1 k1
  go_upto_region 3 with (refine wpList_store_row rfl 34 _ _ rfl v1.heap.size ((grS (oRead, a, b)).cells stPZ).toArray rfl rfl 34 _ (heap_alloc_last _ _) size_st rfl (one_st _ _) ?_)
  rw [show World.setRow _ _ _ = u1 from (World.setRow_alloc_new _ _ _ _).trans HU1.out]
  clear HU1
  have hn2 := hm1
  go_wp2_with fail
  refine Calls.mono (callStr (HP2.out u1 hn2) (by simp [txG])) ?_
  rw [hO2]
  rintro en v2 ⟨rfl, hb2⟩
  obtain ⟨u2, hu2⟩ : ∃ u, v2.alloc (.cells ((grS (oUnread, a, b)).cells stPZ).toArray 34) = u := ⟨_, rfl⟩
  have k2 : Blk u2 v2.heap.size 34 ((grS (oUnread, a, b)).cells stPZ).toArray := by rw [← hu2]; exact Blk.new _ _ _
  have hd2 : Below v2.heap.size v2 u2 := by rw [← hu2]; exact bl
  have hz2 := hb2.size
  have hm2 : Below w.heap.size w u2 := (hn2.trans (hb2.mono hn2.size)).trans (hd2.mono (Nat.le_trans hn2.size hz2))
  have HU2 := Lib.hid hu2
  have HK2 := Lib.hid k2
  have hl2 : v2.heap.size < u2.heap.size := k2.lt
  clear hu2 k2
  go_upto_region 4 with (refine wpList_store_row rfl 34 _ _ rfl v2.heap.size ((grS (oUnread, a, b)).cells stPZ).toArray rfl rfl 34 _ (heap_alloc_last _ _) size_st rfl (one_st _ _) ?_)
  rw [show World.setRow _ _ _ = u2 from (World.setRow_alloc_new _ _ _ _).trans HU2.out]
  clear HU2
  have hn3 := hm2
  go_wp2_with fail
  refine Calls.mono (callStr (HP3.out u2 hn3) (by simp [txG])) ?_
  rw [hO3]
  rintro en v3 ⟨rfl, hb3⟩
  obtain ⟨u3, hu3⟩ : ∃ u, v3.alloc (.cells ((grS (oWrite, a, b)).cells stPZ).toArray 34) = u := ⟨_, rfl⟩
  have k3 : Blk u3 v3.heap.size 34 ((grS (oWrite, a, b)).cells stPZ).toArray := by rw [← hu3]; exact Blk.new _ _ _
  have hd3 : Below v3.heap.size v3 u3 := by rw [← hu3]; exact bl
  have hz3 := hb3.size
  have hm3 : Below w.heap.size w u3 := (hn3.trans (hb3.mono hn3.size)).trans (hd3.mono (Nat.le_trans hn3.size hz3))
  have HU3 := Lib.hid hu3
  have HK3 := Lib.hid k3
  have hl3 : v3.heap.size < u3.heap.size := k3.lt
  clear hu3 k3
  go_upto_region 5 with (refine wpList_store_row rfl 34 _ _ rfl v3.heap.size ((grS (oWrite, a, b)).cells stPZ).toArray rfl rfl 34 _ (heap_alloc_last _ _) size_st rfl (one_st _ _) ?_)
  rw [show World.setRow _ _ _ = u3 from (World.setRow_alloc_new _ _ _ _).trans HU3.out]
  clear HU3
  have hn4 := hm3
  go_wp2_with fail
  refine Calls.mono (callStr (HP4.out u3 hn4) (by simp [txG])) ?_
  rw [hO4]
  rintro en v4 ⟨rfl, hb4⟩
  obtain ⟨u4, hu4⟩ : ∃ u, v4.alloc (.cells ((grS (oUnwrite, a, b)).cells stPZ).toArray 34) = u := ⟨_, rfl⟩
  have k4 : Blk u4 v4.heap.size 34 ((grS (oUnwrite, a, b)).cells stPZ).toArray := by rw [← hu4]; exact Blk.new _ _ _
  have hd4 : Below v4.heap.size v4 u4 := by rw [← hu4]; exact bl
  have hz4 := hb4.size
  have hm4 : Below w.heap.size w u4 := (hn4.trans (hb4.mono hn4.size)).trans (hd4.mono (Nat.le_trans hn4.size hz4))
  have HU4 := Lib.hid hu4
  have HK4 := Lib.hid k4
  have hl4 : v4.heap.size < u4.heap.size := k4.lt
  clear hu4 k4
  go_upto_region 6 with (refine wpList_store_row rfl 34 _ _ rfl v4.heap.size ((grS (oUnwrite, a, b)).cells stPZ).toArray rfl rfl 34 _ (heap_alloc_last _ _) size_st rfl (one_st _ _) ?_)
  rw [show World.setRow _ _ _ = u4 from (World.setRow_alloc_new _ _ _ _).trans HU4.out]
  clear HU4
  have c12 : Below u1.heap.size u1 u2 := hb2.trans (hd2.mono hz2)
  have c23 : Below u2.heap.size u2 u3 := hb3.trans (hd3.mono hz3)
  have c34 : Below u3.heap.size u3 u4 := hb4.trans (hd4.mono hz4)
  have c24 := c23.trans (c34.mono c23.size)
  have c14 := c12.trans (c24.mono c12.size)
  have k1 := HK1.out.below c14 hl1
  have k2 := HK2.out.below c24 hl2
  have k3 := HK3.out.below c34 hl3
  have k4 := HK4.out
  have y1 : u4.cell? ⟨v1.heap.size, 0, none⟩ = some (.string ⟨#[114, 101, 97, 100]⟩) := k1.cell 0
  have y2 : u4.cell? ⟨v2.heap.size, 0, none⟩ = some (.string ⟨#[117, 110, 114, 101, 97, 100]⟩) := k2.cell 0
  have y3 : u4.cell? ⟨v3.heap.size, 0, none⟩ = some (.string ⟨#[119, 114, 105, 116, 101]⟩) := k3.cell 0
  have y4 : u4.cell? ⟨v4.heap.size, 0, none⟩ = some (.string ⟨#[117, 110, 119, 114, 105, 116, 101]⟩) := k4.cell 0
  have f2 := k2.frozen 0
  have f3 := k3.frozen 0
  have f4 := k4.frozen 0
  have g12 : v1.heap.size < v2.heap.size := Nat.lt_of_lt_of_le hl1 hz2
  have g23 : v2.heap.size < v3.heap.size := Nat.lt_of_lt_of_le hl2 hz3
  have g34 : v3.heap.size < v4.heap.size := Nat.lt_of_lt_of_le hl3 hz4
  have hwv : w.heap.size ≤ v1.heap.size := Nat.le_trans hn1.size hz1
  obtain ⟨u5, hu5⟩ : ∃ u, ((u4.setCell ⟨v2.heap.size, 0, none⟩ (.string ⟨#[114, 101, 97, 100]⟩)).setCell ⟨v3.heap.size, 0, none⟩ (.string ⟨#[114, 101, 97, 100]⟩)).setCell ⟨v4.heap.size, 0, none⟩ (.string ⟨#[114, 101, 97, 100]⟩) = u := ⟨_, rfl⟩
  obtain ⟨x, hx⟩ : ∃ x, grS (oRead, a, b) = x := ⟨_, rfl⟩
  have j1 : Blk u5 v1.heap.size 34 (x.cells stPZ).toArray := by rw [← hu5, ← hx]; exact ((k1.far (by show _ ≠ _; simp only; omega) _).far (by show _ ≠ _; simp only; omega) _).far (by show _ ≠ _; simp only; omega) _
  have j2 : Blk u5 v2.heap.size 34 (x.cells stPZ).toArray := by rw [← hu5, ← hx]; exact ((k2.set_ 0 _).far (by show _ ≠ _; simp only; omega) _).far (by show _ ≠ _; simp only; omega) _
  have j3 : Blk u5 v3.heap.size 34 (x.cells stPZ).toArray := by rw [← hu5, ← hx]; exact ((k3.far (by show _ ≠ _; simp only; omega) _).set_ 0 _).far (by show _ ≠ _; simp only; omega) _
  have j4 : Blk u5 v4.heap.size 34 (x.cells stPZ).toArray := by rw [← hu5, ← hx]; exact ((k4.far (by show _ ≠ _; simp only; omega) _).far (by show _ ≠ _; simp only; omega) _).set_ 0 _
  have hm5 : Below w.heap.size w u5 := by rw [← hu5]; exact bwS (bwS (bwS hm4 (by show _ ≤ _; simp only; omega)) (by show _ ≤ _; simp only; omega)) (by show _ ≤ _; simp only; omega)
  have HKK : Hid (∀ Z : World, Below u5.heap.size u5 Z → Blk Z v1.heap.size 34 (x.cells stPZ).toArray ∧ Blk Z v2.heap.size 34 (x.cells stPZ).toArray ∧ Blk Z v3.heap.size 34 (x.cells stPZ).toArray ∧ Blk Z v4.heap.size 34 (x.cells stPZ).toArray) := fun Z hz => ⟨j1.below hz j1.lt, j2.below hz j2.lt, j3.below hz j3.lt, j4.below hz j4.lt⟩
  have HSM : Hid (∀ Z : World, Calls Tryz.prog 28 #[.agg (x.cells stPZ).toArray, .agg (x.cells stPZ).toArray] Z (Ret (.bool true) Z)) := fun Z => by
   have hl : x.lens := by rw [← hx]; exact ⟨Nat.zero_le _, Nat.zero_le _, Nat.zero_le _, Nat.zero_le _, Nat.zero_le _, Nat.zero_le _, Nat.zero_le _, Nat.zero_le _, fun y hy => by cases hy⟩
   have hM : ∀ Q, StM 0 x stPZ Q Z := fun Q => by rw [← hx]; exact ⟨SQ.nil, fun h => absurd h (by simp [grS]), SQ.nil, XQ.nil, rfl, fun h => absurd h (by simp [grS]), ZQ.nil, rfl⟩
   have := rsameS_any 0 x x stPZ stPZ Z hl hl (hM _) (hM _)
   rw [sameS_self] at this
   exact this
  have HU5 := Lib.hid hu5
  clear hb1 hb2 hb3 hb4 hd1 hd2 hd3 hd4 c12 c23 c34 c24 c14 k1 k2 k3 k4 j1 j2 j3 j4 hu5 hx HK1 HK2 HK3 HK4 HP1 HP2 HP3 HP4
  go_upto_region 13 with fail
  rw [HU5.out]
  clear y1 y2 y3 y4 f2 f3 f4 HU5
  have q5 : Below u5.heap.size u5 u5 := Below.refl _ _
  go_wp2_with (first | refine wpList_load_rowG (by rfl) 34 _ rfl v1.heap.size rfl 34 (x.cells stPZ).toArray (0, 0) _ (HKK.out u5 q5).1 Tryz.underlying34 rfl size_st ?_ | refine wpList_load_rowG (by rfl) 34 _ rfl v2.heap.size rfl 34 (x.cells stPZ).toArray (0, 0) _ (HKK.out u5 q5).2.1 Tryz.underlying34 rfl size_st ?_ | refine wpList_load_rowG (by rfl) 34 _ rfl v3.heap.size rfl 34 (x.cells stPZ).toArray (0, 0) _ (HKK.out u5 q5).2.2.1 Tryz.underlying34 rfl size_st ?_ | refine wpList_load_rowG (by rfl) 34 _ rfl v4.heap.size rfl 34 (x.cells stPZ).toArray (0, 0) _ (HKK.out u5 q5).2.2.2 Tryz.underlying34 rfl size_st ?_)
  refine (HSM.out u5).mono ?_
  rintro en s1 ⟨rfl, hs1⟩
  go_wp2_with (first | refine wpList_load_rowG (by rfl) 34 _ rfl v1.heap.size rfl 34 (x.cells stPZ).toArray (0, 0) _ (HKK.out s1 hs1).1 Tryz.underlying34 rfl size_st ?_ | refine wpList_load_rowG (by rfl) 34 _ rfl v2.heap.size rfl 34 (x.cells stPZ).toArray (0, 0) _ (HKK.out s1 hs1).2.1 Tryz.underlying34 rfl size_st ?_ | refine wpList_load_rowG (by rfl) 34 _ rfl v3.heap.size rfl 34 (x.cells stPZ).toArray (0, 0) _ (HKK.out s1 hs1).2.2.1 Tryz.underlying34 rfl size_st ?_ | refine wpList_load_rowG (by rfl) 34 _ rfl v4.heap.size rfl 34 (x.cells stPZ).toArray (0, 0) _ (HKK.out s1 hs1).2.2.2 Tryz.underlying34 rfl size_st ?_)
  refine (HSM.out s1).mono ?_
  rintro en s2 ⟨rfl, hs2⟩
  have hs2' : Below u5.heap.size u5 s2 := hs1.trans (hs2.mono hs1.size)
  go_wp2_with (first | refine wpList_load_rowG (by rfl) 34 _ rfl v1.heap.size rfl 34 (x.cells stPZ).toArray (0, 0) _ (HKK.out s2 hs2').1 Tryz.underlying34 rfl size_st ?_ | refine wpList_load_rowG (by rfl) 34 _ rfl v2.heap.size rfl 34 (x.cells stPZ).toArray (0, 0) _ (HKK.out s2 hs2').2.1 Tryz.underlying34 rfl size_st ?_ | refine wpList_load_rowG (by rfl) 34 _ rfl v3.heap.size rfl 34 (x.cells stPZ).toArray (0, 0) _ (HKK.out s2 hs2').2.2.1 Tryz.underlying34 rfl size_st ?_ | refine wpList_load_rowG (by rfl) 34 _ rfl v4.heap.size rfl 34 (x.cells stPZ).toArray (0, 0) _ (HKK.out s2 hs2').2.2.2 Tryz.underlying34 rfl size_st ?_)
  refine (HSM.out s2).mono ?_
  rintro en s3 ⟨rfl, hs3⟩
  have hs3' : Below u5.heap.size u5 s3 := hs2'.trans (hs3.mono hs2'.size)
  have hm6 := hm5.trans (hs3'.mono hm5.size)
  go_wp2_with fail
  refine (HAW.out s3 hm6).mono ?_
  rintro en wz ⟨rfl, hbz⟩
  go_wp2_with fail
  go_ret
  exact ⟨rfl, hm6.trans (hbz.mono hm6.size)⟩
end Go.Proofs.YtchilcchogcibaaGreatDoor
