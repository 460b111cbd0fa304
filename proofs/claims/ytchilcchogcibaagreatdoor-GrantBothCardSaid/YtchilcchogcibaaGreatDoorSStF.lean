/- stmt.parts as a plain function: the others. Condition: a statement whose texts and lists are no longer than a thousand.. -/
import Derived.Test.YtchilcchogcibaaGreatDoorSStE
namespace Go.Proofs.YtchilcchogcibaaGreatDoor
open Go.RowKit
attribute [local go_sem] ByteArray.extract_mk ba_get ba_append
attribute [local go_sem ↓] Go.wp_at_zero Go.wp_at_succ
set_option maxRecDepth 100000 in
set_option maxHeartbeats 8000000 in
theorem parts_read (s : St) (p : StP) (w : World) (hok : s.Ok) (hQ : StQ 1000 s p (Old w.heap.size) w) (hop : s.op = oRead) : Calls Tryz.prog 53 #[.agg (s.cells p).toArray] w (Ret (.bool (partsS s)) w) := by
 obtain ⟨kc, ks, kw, hM⟩ := hQ.h
 refine stBox_in s p w fun w0 HW ks0 hb0 hz0 HST HB => ?_
 obtain ⟨w1, hw1⟩ : ∃ w1, w0.alloc (.cells (s.cells p).toArray 34) = w1 := ⟨_, rfl⟩
 obtain ⟨w2, hw2⟩ : ∃ w2, w1.setCell ⟨w0.heap.size, 1, none⟩ (.string ⟨#[]⟩) = w2 := ⟨_, rfl⟩
 have hk1 : Blk w1 w0.heap.size 34 (s.cells p).toArray := by rw [← hw1]; exact Blk.new _ _ _
 have hk2 : Blk w2 w0.heap.size 34 (({ s with tb := [] } : St).cells p).toArray := by rw [← hw2]; exact st_set_tb hk1
 have hb12 : Below w0.heap.size w0 w2 := by rw [← hw2, ← hw1]; exact bl
 have hb2 : Below w.heap.size w w2 := hb0.trans (hb12.mono hz0)
 have hz2 := hb2.size
 have hl1 : w0.heap.size < w2.heap.size := hk2.lt
 have HS2 : Hid (∀ Z : World, Below w2.heap.size w2 Z → StC s p w.heap.size Z) := fun Z hz => HST.out Z (hb12.trans (hz.mono hb12.size))
 have HR2 : Hid (∀ Z : World, Below w2.heap.size w2 Z → Blk Z w0.heap.size 34 (({ s with tb := [] } : St).cells p).toArray) := fun Z hz => hk2.below hz hl1
 have HKB : Hid (∀ Z : World, Below w2.heap.size w2 Z → Blk Z w.heap.size 34 (s.cells p).toArray) := fun Z hz => ks0.below (hb12.trans (hz.mono hb12.size)) ks0.lt
 have HBB : Hid (∀ Z Y : World, Below w2.heap.size w2 Z → Below w0.heap.size Z Y → Below w.heap.size w Y) := fun Z Y hz hy => hb2.trans ((hz.mono hz2).trans (hy.mono hz0))
 have HM : Hid (∀ Y : World, Below w2.heap.size w2 Y → StH s p kc ks kw (Old Y.heap.size) Y) := fun Y hY => hM.keep (old_keep (hb2.trans (hY.mono hz2)) (Nat.le_trans hz2 hY.size))
 have HMQ : Hid (∀ Y : World, Below w2.heap.size w2 Y → StQ 1000 s p (Old Y.heap.size) Y) := fun Y hY => (HM.out Y hY).q
 obtain ⟨N, hN⟩ : ∃ N, nameG s.tb = N := ⟨_, rfl⟩
 have HN : Hid (∀ Y : World, Calls Tryz.prog 74 #[.string ⟨s.tb.toArray⟩] Y (Ret (.bool N) Y)) := name_at hN hok.tb
 obtain ⟨B1, hB1⟩ : ∃ B, nameG s.role = B := ⟨_, rfl⟩
 have H1 : Hid (∀ Y : World, Below w2.heap.size w2 Y → Calls Tryz.prog 74 #[.string ⟨s.role.toArray⟩] Y (Ret (.bool B1) Y)) := fun Y hY => by
  rw [← hB1]
  exact name_at rfl hok.role Y
 obtain ⟨E, hE⟩ : ∃ E, emptyS ({ s with tb := [], role := [] } : St) = E := ⟨_, rfl⟩
 have HE : Hid (∀ Y : World, Calls Tryz.prog 83 #[.agg (({ s with tb := [], role := [] } : St).cells (p : StP)).toArray] Y (Ret (.bool E) Y)) := emptyAt ({ s with tb := [], role := [] } : St) (p : StP) ⟨sl0, hok.ot, hok.key, sl0, hok.nN, hok.nC, hok.nU, hok.nR, hok.nW, hok.nS⟩ hE
 have hR : partsS s = ((N && B1) && E) := by
  unfold partsS
  rw [if_neg (by rw [hop]; first | done | decide)]
  rw [if_neg (by rw [hop]; first | done | decide)]
  rw [if_neg (by rw [hop]; first | done | decide)]
  rw [if_neg (by rw [hop]; first | done | decide)]
  rw [if_neg (by rw [hop]; first | done | decide)]
  rw [if_pos (by rw [hop]; first | done | decide)]
  rw [hE, hN, hB1]
 obtain ⟨R, hR0⟩ : ∃ R, partsS s = R := ⟨_, rfl⟩
 rw [hR0] at hR ⊢
 have HR := Lib.hid hR
 have HKS := Lib.hid ks0
 have HW1 := Lib.hid hw1
 have HW2 := Lib.hid hw2
 have o_create : (s.op == [99, 114, 101, 97, 116, 101]) = false := by rw [hop]; rfl
 have o_drop : (s.op == [100, 114, 111, 112]) = false := by rw [hop]; rfl
 have o_insert : (s.op == [105, 110, 115, 101, 114, 116]) = false := by rw [hop]; rfl
 have o_update : (s.op == [117, 112, 100, 97, 116, 101]) = false := by rw [hop]; rfl
 have o_delete : (s.op == [100, 101, 108, 101, 116, 101]) = false := by rw [hop]; rfl
 have o_select : (s.op == [115, 101, 108, 101, 99, 116]) = false := by rw [hop]; rfl
 have o_read : (s.op == [114, 101, 97, 100]) = true := by rw [hop]; rfl
 clear hR hR0 hE hN hB1 hM hQ hok hop hk1 hk2 hw1 hw2 ks0
 obtain ⟨s0, s1, s2, s3, s4, s5, s6, s7, s8, s9, s10, s11, s12, s13, s14, s15, s16, s17, s18, s19, s20, s21, s22⟩ := HST.out w0 (Below.refl _ _)
 go_enter Tryz.func53, Tryz.ntmps53
 go_upto_region 1 with fail
 rw [show w.alloc _ = w0 from HW.out]
 clear HW
 go_upto_region 2 with (first | refine wpList_load_row rfl 34 _ rfl w.heap.size rfl 34 (s.cells p).toArray (0, 0) _ HKS.out Tryz.underlying34 rfl size_st ?_ | refine wpList_store_row rfl 34 _ _ rfl w0.heap.size (s.cells p).toArray rfl rfl 34 _ (heap_alloc_last _ _) size_st rfl (one_st s p) ?_)
 rw [show World.setRow _ _ _ = w1 from (World.setRow_alloc_new _ _ _ _).trans HW1.out]
 have f1 : w1.cell? ⟨w0.heap.size, 1, none⟩ = some (.string ⟨s.tb.toArray⟩) := by rw [← HW1.out]; exact (Blk.new _ _ _).cell 1
 have g1 : w1.frozen? ⟨w0.heap.size, 1, none⟩ = false := by rw [← HW1.out]; exact (Blk.new _ _ _).frozen 1
 go_upto_region 3 with fail
 rw [show w1.setCell _ _ = w2 from HW2.out]
 clear s0 s1 s2 s3 s4 s5 s6 s7 s8 s9 s10 s11 s12 s13 s14 s15 s16 s17 s18 s19 s20 s21 s22
 clear HW1 HW2 f1 g1
 have hc0 : Below w2.heap.size w2 w2 := Below.refl _ _
 obtain ⟨s0, s1, _⟩ := HS2.out w2 hc0
 go_wp2_with fail
 refine (HN.out _).mono ?_
 rintro en wn ⟨rfl, hbn⟩
 have hcn : Below w2.heap.size w2 wn := hbn
 have hzn := hcn.size
 clear s0 s1
 obtain ⟨s0, _⟩ := HS2.out wn hcn
 go_upto_region 25 with fail
 clear s0
 go_cut [4] (fun g wx => g = .bool (N && B1) ∧ Below w2.heap.size w2 wx)
 case first => as_aux_lemma =>
  cases N with
  | false =>
   go_wp2_with fail
   go_meet
   exact ⟨rfl, hcn⟩
  | true =>
   obtain ⟨s0, s1, s2, s3, s4, s5, s6, s7, s8, s9, s10, s11, s12, s13, s14, s15, s16, s17, s18, s19, s20, s21, s22⟩ := HS2.out wn hcn
   go_wp2_with fail
   refine (H1.out wn hcn).mono ?_
   rintro en wx ⟨rfl, hbx⟩
   have hcx : Below w2.heap.size w2 wx := hcn.trans (hbx.mono hcn.size)
   have hzx := hcx.size
   clear s0 s1 s2 s3 s4 s5 s6 s7 s8 s9 s10 s11 s12 s13 s14 s15 s16 s17 s18 s19 s20 s21 s22
   go_wp2_with fail
   go_meet
   exact ⟨rfl, hcx⟩
 obtain ⟨rfl, hcc⟩ := hcut
 obtain ⟨Y, rfl⟩ : ∃ W, W = wc := ⟨_, rfl⟩
 obtain ⟨G, hG⟩ : ∃ G, (N && B1) = G := ⟨_, rfl⟩
 rw [hG]
 have HG := Lib.hid hG
 have hzc := hcc.size
 obtain ⟨V, hV⟩ : ∃ V, (Y.setCell ⟨w0.heap.size, 22, none⟩ (.string ⟨#[]⟩)) = V := ⟨_, rfl⟩
 have kV : Blk V w0.heap.size 34 (({ s with tb := [], role := [] } : St).cells (p : StP)).toArray := by
  rw [← hV]
  exact (st_set_role (HR2.out Y hcc))
 have hbV : Below w0.heap.size Y V := by rw [← hV]; exact (bwS (Below.refl w0.heap.size Y) (Nat.le_refl _))
 have HV := Lib.hid hV
 have HKV := Lib.hid kV
 have hbf := HBB.out Y V hcc hbV
 clear hV kV hbV hG
 have hkY := HR2.out Y hcc
 obtain ⟨r0, r1, r2, r3, r4, r5, r6, r7, r8, r9, r10, r11, r12, r13, r14, r15, r16, r17, r18, r19, r20, r21, r22⟩ := hkY.st
 obtain ⟨z0, z1, z2, z3, z4, z5, z6, z7, z8, z9, z10, z11, z12, z13, z14, z15, z16, z17, z18, z19, z20, z21, z22⟩ := hkY.stF
 clear hkY r0 z0 r1 z1 r2 z2 r3 z3 r4 z4 r5 z5 r6 z6 r7 z7 r8 z8 r9 z9 r10 z10 r11 z11 r12 z12 r13 z13 r14 z14 r15 z15 r16 z16 r17 z17 r18 z18 r19 z19 r20 z20 r21 z21
 go_upto_region 36 with fail
 rw [show (Y.setCell ⟨w0.heap.size, 22, none⟩ (.string ⟨#[]⟩)) = V from HV.out]
 clear r22 z22
 cases G with
 | false =>
  go_wp2_with fail
  go_ret
  exact ⟨by rw [HR.out, HG.out]; rfl, hbf⟩
 | true =>
  go_wp2_with (refine wpList_load_rowG (by rfl) 34 _ rfl w0.heap.size rfl 34 (({ s with tb := [], role := [] } : St).cells (p : StP)).toArray (0, 0) _ HKV.out Tryz.underlying34 rfl size_st ?_)
  refine (HE.out V).mono ?_
  rintro en we ⟨rfl, hbe⟩
  have hbf2 := hbf.trans (hbe.mono hbf.size)
  go_wp2_with fail
  go_ret
  exact ⟨by rw [HR.out, HG.out]; rfl, hbf2⟩
set_option maxRecDepth 100000 in
set_option maxHeartbeats 8000000 in
theorem parts_write (s : St) (p : StP) (w : World) (hok : s.Ok) (hQ : StQ 1000 s p (Old w.heap.size) w) (hop : s.op = oWrite) : Calls Tryz.prog 53 #[.agg (s.cells p).toArray] w (Ret (.bool (partsS s)) w) := by
 obtain ⟨kc, ks, kw, hM⟩ := hQ.h
 refine stBox_in s p w fun w0 HW ks0 hb0 hz0 HST HB => ?_
 obtain ⟨w1, hw1⟩ : ∃ w1, w0.alloc (.cells (s.cells p).toArray 34) = w1 := ⟨_, rfl⟩
 obtain ⟨w2, hw2⟩ : ∃ w2, w1.setCell ⟨w0.heap.size, 1, none⟩ (.string ⟨#[]⟩) = w2 := ⟨_, rfl⟩
 have hk1 : Blk w1 w0.heap.size 34 (s.cells p).toArray := by rw [← hw1]; exact Blk.new _ _ _
 have hk2 : Blk w2 w0.heap.size 34 (({ s with tb := [] } : St).cells p).toArray := by rw [← hw2]; exact st_set_tb hk1
 have hb12 : Below w0.heap.size w0 w2 := by rw [← hw2, ← hw1]; exact bl
 have hb2 : Below w.heap.size w w2 := hb0.trans (hb12.mono hz0)
 have hz2 := hb2.size
 have hl1 : w0.heap.size < w2.heap.size := hk2.lt
 have HS2 : Hid (∀ Z : World, Below w2.heap.size w2 Z → StC s p w.heap.size Z) := fun Z hz => HST.out Z (hb12.trans (hz.mono hb12.size))
 have HR2 : Hid (∀ Z : World, Below w2.heap.size w2 Z → Blk Z w0.heap.size 34 (({ s with tb := [] } : St).cells p).toArray) := fun Z hz => hk2.below hz hl1
 have HKB : Hid (∀ Z : World, Below w2.heap.size w2 Z → Blk Z w.heap.size 34 (s.cells p).toArray) := fun Z hz => ks0.below (hb12.trans (hz.mono hb12.size)) ks0.lt
 have HBB : Hid (∀ Z Y : World, Below w2.heap.size w2 Z → Below w0.heap.size Z Y → Below w.heap.size w Y) := fun Z Y hz hy => hb2.trans ((hz.mono hz2).trans (hy.mono hz0))
 have HM : Hid (∀ Y : World, Below w2.heap.size w2 Y → StH s p kc ks kw (Old Y.heap.size) Y) := fun Y hY => hM.keep (old_keep (hb2.trans (hY.mono hz2)) (Nat.le_trans hz2 hY.size))
 have HMQ : Hid (∀ Y : World, Below w2.heap.size w2 Y → StQ 1000 s p (Old Y.heap.size) Y) := fun Y hY => (HM.out Y hY).q
 obtain ⟨N, hN⟩ : ∃ N, nameG s.tb = N := ⟨_, rfl⟩
 have HN : Hid (∀ Y : World, Calls Tryz.prog 74 #[.string ⟨s.tb.toArray⟩] Y (Ret (.bool N) Y)) := name_at hN hok.tb
 obtain ⟨B1, hB1⟩ : ∃ B, nameG s.role = B := ⟨_, rfl⟩
 have H1 : Hid (∀ Y : World, Below w2.heap.size w2 Y → Calls Tryz.prog 74 #[.string ⟨s.role.toArray⟩] Y (Ret (.bool B1) Y)) := fun Y hY => by
  rw [← hB1]
  exact name_at rfl hok.role Y
 obtain ⟨E, hE⟩ : ∃ E, emptyS ({ s with tb := [], role := [] } : St) = E := ⟨_, rfl⟩
 have HE : Hid (∀ Y : World, Calls Tryz.prog 83 #[.agg (({ s with tb := [], role := [] } : St).cells (p : StP)).toArray] Y (Ret (.bool E) Y)) := emptyAt ({ s with tb := [], role := [] } : St) (p : StP) ⟨sl0, hok.ot, hok.key, sl0, hok.nN, hok.nC, hok.nU, hok.nR, hok.nW, hok.nS⟩ hE
 have hR : partsS s = ((N && B1) && E) := by
  unfold partsS
  rw [if_neg (by rw [hop]; first | done | decide)]
  rw [if_neg (by rw [hop]; first | done | decide)]
  rw [if_neg (by rw [hop]; first | done | decide)]
  rw [if_neg (by rw [hop]; first | done | decide)]
  rw [if_neg (by rw [hop]; first | done | decide)]
  rw [if_pos (by rw [hop]; first | done | decide)]
  rw [hE, hN, hB1]
 obtain ⟨R, hR0⟩ : ∃ R, partsS s = R := ⟨_, rfl⟩
 rw [hR0] at hR ⊢
 have HR := Lib.hid hR
 have HKS := Lib.hid ks0
 have HW1 := Lib.hid hw1
 have HW2 := Lib.hid hw2
 have o_create : (s.op == [99, 114, 101, 97, 116, 101]) = false := by rw [hop]; rfl
 have o_drop : (s.op == [100, 114, 111, 112]) = false := by rw [hop]; rfl
 have o_insert : (s.op == [105, 110, 115, 101, 114, 116]) = false := by rw [hop]; rfl
 have o_update : (s.op == [117, 112, 100, 97, 116, 101]) = false := by rw [hop]; rfl
 have o_delete : (s.op == [100, 101, 108, 101, 116, 101]) = false := by rw [hop]; rfl
 have o_select : (s.op == [115, 101, 108, 101, 99, 116]) = false := by rw [hop]; rfl
 have o_read : (s.op == [114, 101, 97, 100]) = false := by rw [hop]; rfl
 have o_write : (s.op == [119, 114, 105, 116, 101]) = true := by rw [hop]; rfl
 clear hR hR0 hE hN hB1 hM hQ hok hop hk1 hk2 hw1 hw2 ks0
 obtain ⟨s0, s1, s2, s3, s4, s5, s6, s7, s8, s9, s10, s11, s12, s13, s14, s15, s16, s17, s18, s19, s20, s21, s22⟩ := HST.out w0 (Below.refl _ _)
 go_enter Tryz.func53, Tryz.ntmps53
 go_upto_region 1 with fail
 rw [show w.alloc _ = w0 from HW.out]
 clear HW
 go_upto_region 2 with (first | refine wpList_load_row rfl 34 _ rfl w.heap.size rfl 34 (s.cells p).toArray (0, 0) _ HKS.out Tryz.underlying34 rfl size_st ?_ | refine wpList_store_row rfl 34 _ _ rfl w0.heap.size (s.cells p).toArray rfl rfl 34 _ (heap_alloc_last _ _) size_st rfl (one_st s p) ?_)
 rw [show World.setRow _ _ _ = w1 from (World.setRow_alloc_new _ _ _ _).trans HW1.out]
 have f1 : w1.cell? ⟨w0.heap.size, 1, none⟩ = some (.string ⟨s.tb.toArray⟩) := by rw [← HW1.out]; exact (Blk.new _ _ _).cell 1
 have g1 : w1.frozen? ⟨w0.heap.size, 1, none⟩ = false := by rw [← HW1.out]; exact (Blk.new _ _ _).frozen 1
 go_upto_region 3 with fail
 rw [show w1.setCell _ _ = w2 from HW2.out]
 clear s0 s1 s2 s3 s4 s5 s6 s7 s8 s9 s10 s11 s12 s13 s14 s15 s16 s17 s18 s19 s20 s21 s22
 clear HW1 HW2 f1 g1
 have hc0 : Below w2.heap.size w2 w2 := Below.refl _ _
 obtain ⟨s0, s1, _⟩ := HS2.out w2 hc0
 go_wp2_with fail
 refine (HN.out _).mono ?_
 rintro en wn ⟨rfl, hbn⟩
 have hcn : Below w2.heap.size w2 wn := hbn
 have hzn := hcn.size
 clear s0 s1
 obtain ⟨s0, _⟩ := HS2.out wn hcn
 go_upto_region 25 with fail
 clear s0
 go_cut [4] (fun g wx => g = .bool (N && B1) ∧ Below w2.heap.size w2 wx)
 case first => as_aux_lemma =>
  cases N with
  | false =>
   go_wp2_with fail
   go_meet
   exact ⟨rfl, hcn⟩
  | true =>
   obtain ⟨s0, s1, s2, s3, s4, s5, s6, s7, s8, s9, s10, s11, s12, s13, s14, s15, s16, s17, s18, s19, s20, s21, s22⟩ := HS2.out wn hcn
   go_wp2_with fail
   refine (H1.out wn hcn).mono ?_
   rintro en wx ⟨rfl, hbx⟩
   have hcx : Below w2.heap.size w2 wx := hcn.trans (hbx.mono hcn.size)
   have hzx := hcx.size
   clear s0 s1 s2 s3 s4 s5 s6 s7 s8 s9 s10 s11 s12 s13 s14 s15 s16 s17 s18 s19 s20 s21 s22
   go_wp2_with fail
   go_meet
   exact ⟨rfl, hcx⟩
 obtain ⟨rfl, hcc⟩ := hcut
 obtain ⟨Y, rfl⟩ : ∃ W, W = wc := ⟨_, rfl⟩
 obtain ⟨G, hG⟩ : ∃ G, (N && B1) = G := ⟨_, rfl⟩
 rw [hG]
 have HG := Lib.hid hG
 have hzc := hcc.size
 obtain ⟨V, hV⟩ : ∃ V, (Y.setCell ⟨w0.heap.size, 22, none⟩ (.string ⟨#[]⟩)) = V := ⟨_, rfl⟩
 have kV : Blk V w0.heap.size 34 (({ s with tb := [], role := [] } : St).cells (p : StP)).toArray := by
  rw [← hV]
  exact (st_set_role (HR2.out Y hcc))
 have hbV : Below w0.heap.size Y V := by rw [← hV]; exact (bwS (Below.refl w0.heap.size Y) (Nat.le_refl _))
 have HV := Lib.hid hV
 have HKV := Lib.hid kV
 have hbf := HBB.out Y V hcc hbV
 clear hV kV hbV hG
 have hkY := HR2.out Y hcc
 obtain ⟨r0, r1, r2, r3, r4, r5, r6, r7, r8, r9, r10, r11, r12, r13, r14, r15, r16, r17, r18, r19, r20, r21, r22⟩ := hkY.st
 obtain ⟨z0, z1, z2, z3, z4, z5, z6, z7, z8, z9, z10, z11, z12, z13, z14, z15, z16, z17, z18, z19, z20, z21, z22⟩ := hkY.stF
 clear hkY r0 z0 r1 z1 r2 z2 r3 z3 r4 z4 r5 z5 r6 z6 r7 z7 r8 z8 r9 z9 r10 z10 r11 z11 r12 z12 r13 z13 r14 z14 r15 z15 r16 z16 r17 z17 r18 z18 r19 z19 r20 z20 r21 z21
 go_upto_region 36 with fail
 rw [show (Y.setCell ⟨w0.heap.size, 22, none⟩ (.string ⟨#[]⟩)) = V from HV.out]
 clear r22 z22
 cases G with
 | false =>
  go_wp2_with fail
  go_ret
  exact ⟨by rw [HR.out, HG.out]; rfl, hbf⟩
 | true =>
  go_wp2_with (refine wpList_load_rowG (by rfl) 34 _ rfl w0.heap.size rfl 34 (({ s with tb := [], role := [] } : St).cells (p : StP)).toArray (0, 0) _ HKV.out Tryz.underlying34 rfl size_st ?_)
  refine (HE.out V).mono ?_
  rintro en we ⟨rfl, hbe⟩
  have hbf2 := hbf.trans (hbe.mono hbf.size)
  go_wp2_with fail
  go_ret
  exact ⟨by rw [HR.out, HG.out]; rfl, hbf2⟩
set_option maxRecDepth 100000 in
set_option maxHeartbeats 8000000 in
theorem parts_unread (s : St) (p : StP) (w : World) (hok : s.Ok) (hQ : StQ 1000 s p (Old w.heap.size) w) (hop : s.op = oUnread) : Calls Tryz.prog 53 #[.agg (s.cells p).toArray] w (Ret (.bool (partsS s)) w) := by
 obtain ⟨kc, ks, kw, hM⟩ := hQ.h
 refine stBox_in s p w fun w0 HW ks0 hb0 hz0 HST HB => ?_
 obtain ⟨w1, hw1⟩ : ∃ w1, w0.alloc (.cells (s.cells p).toArray 34) = w1 := ⟨_, rfl⟩
 obtain ⟨w2, hw2⟩ : ∃ w2, w1.setCell ⟨w0.heap.size, 1, none⟩ (.string ⟨#[]⟩) = w2 := ⟨_, rfl⟩
 have hk1 : Blk w1 w0.heap.size 34 (s.cells p).toArray := by rw [← hw1]; exact Blk.new _ _ _
 have hk2 : Blk w2 w0.heap.size 34 (({ s with tb := [] } : St).cells p).toArray := by rw [← hw2]; exact st_set_tb hk1
 have hb12 : Below w0.heap.size w0 w2 := by rw [← hw2, ← hw1]; exact bl
 have hb2 : Below w.heap.size w w2 := hb0.trans (hb12.mono hz0)
 have hz2 := hb2.size
 have hl1 : w0.heap.size < w2.heap.size := hk2.lt
 have HS2 : Hid (∀ Z : World, Below w2.heap.size w2 Z → StC s p w.heap.size Z) := fun Z hz => HST.out Z (hb12.trans (hz.mono hb12.size))
 have HR2 : Hid (∀ Z : World, Below w2.heap.size w2 Z → Blk Z w0.heap.size 34 (({ s with tb := [] } : St).cells p).toArray) := fun Z hz => hk2.below hz hl1
 have HKB : Hid (∀ Z : World, Below w2.heap.size w2 Z → Blk Z w.heap.size 34 (s.cells p).toArray) := fun Z hz => ks0.below (hb12.trans (hz.mono hb12.size)) ks0.lt
 have HBB : Hid (∀ Z Y : World, Below w2.heap.size w2 Z → Below w0.heap.size Z Y → Below w.heap.size w Y) := fun Z Y hz hy => hb2.trans ((hz.mono hz2).trans (hy.mono hz0))
 have HM : Hid (∀ Y : World, Below w2.heap.size w2 Y → StH s p kc ks kw (Old Y.heap.size) Y) := fun Y hY => hM.keep (old_keep (hb2.trans (hY.mono hz2)) (Nat.le_trans hz2 hY.size))
 have HMQ : Hid (∀ Y : World, Below w2.heap.size w2 Y → StQ 1000 s p (Old Y.heap.size) Y) := fun Y hY => (HM.out Y hY).q
 obtain ⟨N, hN⟩ : ∃ N, nameG s.tb = N := ⟨_, rfl⟩
 have HN : Hid (∀ Y : World, Calls Tryz.prog 74 #[.string ⟨s.tb.toArray⟩] Y (Ret (.bool N) Y)) := name_at hN hok.tb
 obtain ⟨B1, hB1⟩ : ∃ B, nameG s.role = B := ⟨_, rfl⟩
 have H1 : Hid (∀ Y : World, Below w2.heap.size w2 Y → Calls Tryz.prog 74 #[.string ⟨s.role.toArray⟩] Y (Ret (.bool B1) Y)) := fun Y hY => by
  rw [← hB1]
  exact name_at rfl hok.role Y
 obtain ⟨E, hE⟩ : ∃ E, emptyS ({ s with tb := [], role := [] } : St) = E := ⟨_, rfl⟩
 have HE : Hid (∀ Y : World, Calls Tryz.prog 83 #[.agg (({ s with tb := [], role := [] } : St).cells (p : StP)).toArray] Y (Ret (.bool E) Y)) := emptyAt ({ s with tb := [], role := [] } : St) (p : StP) ⟨sl0, hok.ot, hok.key, sl0, hok.nN, hok.nC, hok.nU, hok.nR, hok.nW, hok.nS⟩ hE
 have hR : partsS s = ((N && B1) && E) := by
  unfold partsS
  rw [if_neg (by rw [hop]; first | done | decide)]
  rw [if_neg (by rw [hop]; first | done | decide)]
  rw [if_neg (by rw [hop]; first | done | decide)]
  rw [if_neg (by rw [hop]; first | done | decide)]
  rw [if_neg (by rw [hop]; first | done | decide)]
  rw [if_pos (by rw [hop]; first | done | decide)]
  rw [hE, hN, hB1]
 obtain ⟨R, hR0⟩ : ∃ R, partsS s = R := ⟨_, rfl⟩
 rw [hR0] at hR ⊢
 have HR := Lib.hid hR
 have HKS := Lib.hid ks0
 have HW1 := Lib.hid hw1
 have HW2 := Lib.hid hw2
 have o_create : (s.op == [99, 114, 101, 97, 116, 101]) = false := by rw [hop]; rfl
 have o_drop : (s.op == [100, 114, 111, 112]) = false := by rw [hop]; rfl
 have o_insert : (s.op == [105, 110, 115, 101, 114, 116]) = false := by rw [hop]; rfl
 have o_update : (s.op == [117, 112, 100, 97, 116, 101]) = false := by rw [hop]; rfl
 have o_delete : (s.op == [100, 101, 108, 101, 116, 101]) = false := by rw [hop]; rfl
 have o_select : (s.op == [115, 101, 108, 101, 99, 116]) = false := by rw [hop]; rfl
 have o_read : (s.op == [114, 101, 97, 100]) = false := by rw [hop]; rfl
 have o_write : (s.op == [119, 114, 105, 116, 101]) = false := by rw [hop]; rfl
 have o_unread : (s.op == [117, 110, 114, 101, 97, 100]) = true := by rw [hop]; rfl
 clear hR hR0 hE hN hB1 hM hQ hok hop hk1 hk2 hw1 hw2 ks0
 obtain ⟨s0, s1, s2, s3, s4, s5, s6, s7, s8, s9, s10, s11, s12, s13, s14, s15, s16, s17, s18, s19, s20, s21, s22⟩ := HST.out w0 (Below.refl _ _)
 go_enter Tryz.func53, Tryz.ntmps53
 go_upto_region 1 with fail
 rw [show w.alloc _ = w0 from HW.out]
 clear HW
 go_upto_region 2 with (first | refine wpList_load_row rfl 34 _ rfl w.heap.size rfl 34 (s.cells p).toArray (0, 0) _ HKS.out Tryz.underlying34 rfl size_st ?_ | refine wpList_store_row rfl 34 _ _ rfl w0.heap.size (s.cells p).toArray rfl rfl 34 _ (heap_alloc_last _ _) size_st rfl (one_st s p) ?_)
 rw [show World.setRow _ _ _ = w1 from (World.setRow_alloc_new _ _ _ _).trans HW1.out]
 have f1 : w1.cell? ⟨w0.heap.size, 1, none⟩ = some (.string ⟨s.tb.toArray⟩) := by rw [← HW1.out]; exact (Blk.new _ _ _).cell 1
 have g1 : w1.frozen? ⟨w0.heap.size, 1, none⟩ = false := by rw [← HW1.out]; exact (Blk.new _ _ _).frozen 1
 go_upto_region 3 with fail
 rw [show w1.setCell _ _ = w2 from HW2.out]
 clear s0 s1 s2 s3 s4 s5 s6 s7 s8 s9 s10 s11 s12 s13 s14 s15 s16 s17 s18 s19 s20 s21 s22
 clear HW1 HW2 f1 g1
 have hc0 : Below w2.heap.size w2 w2 := Below.refl _ _
 obtain ⟨s0, s1, _⟩ := HS2.out w2 hc0
 go_wp2_with fail
 refine (HN.out _).mono ?_
 rintro en wn ⟨rfl, hbn⟩
 have hcn : Below w2.heap.size w2 wn := hbn
 have hzn := hcn.size
 clear s0 s1
 obtain ⟨s0, _⟩ := HS2.out wn hcn
 go_upto_region 25 with fail
 clear s0
 go_cut [4] (fun g wx => g = .bool (N && B1) ∧ Below w2.heap.size w2 wx)
 case first => as_aux_lemma =>
  cases N with
  | false =>
   go_wp2_with fail
   go_meet
   exact ⟨rfl, hcn⟩
  | true =>
   obtain ⟨s0, s1, s2, s3, s4, s5, s6, s7, s8, s9, s10, s11, s12, s13, s14, s15, s16, s17, s18, s19, s20, s21, s22⟩ := HS2.out wn hcn
   go_wp2_with fail
   refine (H1.out wn hcn).mono ?_
   rintro en wx ⟨rfl, hbx⟩
   have hcx : Below w2.heap.size w2 wx := hcn.trans (hbx.mono hcn.size)
   have hzx := hcx.size
   clear s0 s1 s2 s3 s4 s5 s6 s7 s8 s9 s10 s11 s12 s13 s14 s15 s16 s17 s18 s19 s20 s21 s22
   go_wp2_with fail
   go_meet
   exact ⟨rfl, hcx⟩
 obtain ⟨rfl, hcc⟩ := hcut
 obtain ⟨Y, rfl⟩ : ∃ W, W = wc := ⟨_, rfl⟩
 obtain ⟨G, hG⟩ : ∃ G, (N && B1) = G := ⟨_, rfl⟩
 rw [hG]
 have HG := Lib.hid hG
 have hzc := hcc.size
 obtain ⟨V, hV⟩ : ∃ V, (Y.setCell ⟨w0.heap.size, 22, none⟩ (.string ⟨#[]⟩)) = V := ⟨_, rfl⟩
 have kV : Blk V w0.heap.size 34 (({ s with tb := [], role := [] } : St).cells (p : StP)).toArray := by
  rw [← hV]
  exact (st_set_role (HR2.out Y hcc))
 have hbV : Below w0.heap.size Y V := by rw [← hV]; exact (bwS (Below.refl w0.heap.size Y) (Nat.le_refl _))
 have HV := Lib.hid hV
 have HKV := Lib.hid kV
 have hbf := HBB.out Y V hcc hbV
 clear hV kV hbV hG
 have hkY := HR2.out Y hcc
 obtain ⟨r0, r1, r2, r3, r4, r5, r6, r7, r8, r9, r10, r11, r12, r13, r14, r15, r16, r17, r18, r19, r20, r21, r22⟩ := hkY.st
 obtain ⟨z0, z1, z2, z3, z4, z5, z6, z7, z8, z9, z10, z11, z12, z13, z14, z15, z16, z17, z18, z19, z20, z21, z22⟩ := hkY.stF
 clear hkY r0 z0 r1 z1 r2 z2 r3 z3 r4 z4 r5 z5 r6 z6 r7 z7 r8 z8 r9 z9 r10 z10 r11 z11 r12 z12 r13 z13 r14 z14 r15 z15 r16 z16 r17 z17 r18 z18 r19 z19 r20 z20 r21 z21
 go_upto_region 36 with fail
 rw [show (Y.setCell ⟨w0.heap.size, 22, none⟩ (.string ⟨#[]⟩)) = V from HV.out]
 clear r22 z22
 cases G with
 | false =>
  go_wp2_with fail
  go_ret
  exact ⟨by rw [HR.out, HG.out]; rfl, hbf⟩
 | true =>
  go_wp2_with (refine wpList_load_rowG (by rfl) 34 _ rfl w0.heap.size rfl 34 (({ s with tb := [], role := [] } : St).cells (p : StP)).toArray (0, 0) _ HKV.out Tryz.underlying34 rfl size_st ?_)
  refine (HE.out V).mono ?_
  rintro en we ⟨rfl, hbe⟩
  have hbf2 := hbf.trans (hbe.mono hbf.size)
  go_wp2_with fail
  go_ret
  exact ⟨by rw [HR.out, HG.out]; rfl, hbf2⟩
set_option maxRecDepth 100000 in
set_option maxHeartbeats 8000000 in
theorem parts_unwrite (s : St) (p : StP) (w : World) (hok : s.Ok) (hQ : StQ 1000 s p (Old w.heap.size) w) (hop : s.op = oUnwrite) : Calls Tryz.prog 53 #[.agg (s.cells p).toArray] w (Ret (.bool (partsS s)) w) := by
 obtain ⟨kc, ks, kw, hM⟩ := hQ.h
 refine stBox_in s p w fun w0 HW ks0 hb0 hz0 HST HB => ?_
 obtain ⟨w1, hw1⟩ : ∃ w1, w0.alloc (.cells (s.cells p).toArray 34) = w1 := ⟨_, rfl⟩
 obtain ⟨w2, hw2⟩ : ∃ w2, w1.setCell ⟨w0.heap.size, 1, none⟩ (.string ⟨#[]⟩) = w2 := ⟨_, rfl⟩
 have hk1 : Blk w1 w0.heap.size 34 (s.cells p).toArray := by rw [← hw1]; exact Blk.new _ _ _
 have hk2 : Blk w2 w0.heap.size 34 (({ s with tb := [] } : St).cells p).toArray := by rw [← hw2]; exact st_set_tb hk1
 have hb12 : Below w0.heap.size w0 w2 := by rw [← hw2, ← hw1]; exact bl
 have hb2 : Below w.heap.size w w2 := hb0.trans (hb12.mono hz0)
 have hz2 := hb2.size
 have hl1 : w0.heap.size < w2.heap.size := hk2.lt
 have HS2 : Hid (∀ Z : World, Below w2.heap.size w2 Z → StC s p w.heap.size Z) := fun Z hz => HST.out Z (hb12.trans (hz.mono hb12.size))
 have HR2 : Hid (∀ Z : World, Below w2.heap.size w2 Z → Blk Z w0.heap.size 34 (({ s with tb := [] } : St).cells p).toArray) := fun Z hz => hk2.below hz hl1
 have HKB : Hid (∀ Z : World, Below w2.heap.size w2 Z → Blk Z w.heap.size 34 (s.cells p).toArray) := fun Z hz => ks0.below (hb12.trans (hz.mono hb12.size)) ks0.lt
 have HBB : Hid (∀ Z Y : World, Below w2.heap.size w2 Z → Below w0.heap.size Z Y → Below w.heap.size w Y) := fun Z Y hz hy => hb2.trans ((hz.mono hz2).trans (hy.mono hz0))
 have HM : Hid (∀ Y : World, Below w2.heap.size w2 Y → StH s p kc ks kw (Old Y.heap.size) Y) := fun Y hY => hM.keep (old_keep (hb2.trans (hY.mono hz2)) (Nat.le_trans hz2 hY.size))
 have HMQ : Hid (∀ Y : World, Below w2.heap.size w2 Y → StQ 1000 s p (Old Y.heap.size) Y) := fun Y hY => (HM.out Y hY).q
 obtain ⟨N, hN⟩ : ∃ N, nameG s.tb = N := ⟨_, rfl⟩
 have HN : Hid (∀ Y : World, Calls Tryz.prog 74 #[.string ⟨s.tb.toArray⟩] Y (Ret (.bool N) Y)) := name_at hN hok.tb
 obtain ⟨B1, hB1⟩ : ∃ B, nameG s.role = B := ⟨_, rfl⟩
 have H1 : Hid (∀ Y : World, Below w2.heap.size w2 Y → Calls Tryz.prog 74 #[.string ⟨s.role.toArray⟩] Y (Ret (.bool B1) Y)) := fun Y hY => by
  rw [← hB1]
  exact name_at rfl hok.role Y
 obtain ⟨E, hE⟩ : ∃ E, emptyS ({ s with tb := [], role := [] } : St) = E := ⟨_, rfl⟩
 have HE : Hid (∀ Y : World, Calls Tryz.prog 83 #[.agg (({ s with tb := [], role := [] } : St).cells (p : StP)).toArray] Y (Ret (.bool E) Y)) := emptyAt ({ s with tb := [], role := [] } : St) (p : StP) ⟨sl0, hok.ot, hok.key, sl0, hok.nN, hok.nC, hok.nU, hok.nR, hok.nW, hok.nS⟩ hE
 have hR : partsS s = ((N && B1) && E) := by
  unfold partsS
  rw [if_neg (by rw [hop]; first | done | decide)]
  rw [if_neg (by rw [hop]; first | done | decide)]
  rw [if_neg (by rw [hop]; first | done | decide)]
  rw [if_neg (by rw [hop]; first | done | decide)]
  rw [if_neg (by rw [hop]; first | done | decide)]
  rw [if_pos (by rw [hop]; first | done | decide)]
  rw [hE, hN, hB1]
 obtain ⟨R, hR0⟩ : ∃ R, partsS s = R := ⟨_, rfl⟩
 rw [hR0] at hR ⊢
 have HR := Lib.hid hR
 have HKS := Lib.hid ks0
 have HW1 := Lib.hid hw1
 have HW2 := Lib.hid hw2
 have o_create : (s.op == [99, 114, 101, 97, 116, 101]) = false := by rw [hop]; rfl
 have o_drop : (s.op == [100, 114, 111, 112]) = false := by rw [hop]; rfl
 have o_insert : (s.op == [105, 110, 115, 101, 114, 116]) = false := by rw [hop]; rfl
 have o_update : (s.op == [117, 112, 100, 97, 116, 101]) = false := by rw [hop]; rfl
 have o_delete : (s.op == [100, 101, 108, 101, 116, 101]) = false := by rw [hop]; rfl
 have o_select : (s.op == [115, 101, 108, 101, 99, 116]) = false := by rw [hop]; rfl
 have o_read : (s.op == [114, 101, 97, 100]) = false := by rw [hop]; rfl
 have o_write : (s.op == [119, 114, 105, 116, 101]) = false := by rw [hop]; rfl
 have o_unread : (s.op == [117, 110, 114, 101, 97, 100]) = false := by rw [hop]; rfl
 have o_unwrite : (s.op == [117, 110, 119, 114, 105, 116, 101]) = true := by rw [hop]; rfl
 clear hR hR0 hE hN hB1 hM hQ hok hop hk1 hk2 hw1 hw2 ks0
 obtain ⟨s0, s1, s2, s3, s4, s5, s6, s7, s8, s9, s10, s11, s12, s13, s14, s15, s16, s17, s18, s19, s20, s21, s22⟩ := HST.out w0 (Below.refl _ _)
 go_enter Tryz.func53, Tryz.ntmps53
 go_upto_region 1 with fail
 rw [show w.alloc _ = w0 from HW.out]
 clear HW
 go_upto_region 2 with (first | refine wpList_load_row rfl 34 _ rfl w.heap.size rfl 34 (s.cells p).toArray (0, 0) _ HKS.out Tryz.underlying34 rfl size_st ?_ | refine wpList_store_row rfl 34 _ _ rfl w0.heap.size (s.cells p).toArray rfl rfl 34 _ (heap_alloc_last _ _) size_st rfl (one_st s p) ?_)
 rw [show World.setRow _ _ _ = w1 from (World.setRow_alloc_new _ _ _ _).trans HW1.out]
 have f1 : w1.cell? ⟨w0.heap.size, 1, none⟩ = some (.string ⟨s.tb.toArray⟩) := by rw [← HW1.out]; exact (Blk.new _ _ _).cell 1
 have g1 : w1.frozen? ⟨w0.heap.size, 1, none⟩ = false := by rw [← HW1.out]; exact (Blk.new _ _ _).frozen 1
 go_upto_region 3 with fail
 rw [show w1.setCell _ _ = w2 from HW2.out]
 clear s0 s1 s2 s3 s4 s5 s6 s7 s8 s9 s10 s11 s12 s13 s14 s15 s16 s17 s18 s19 s20 s21 s22
 clear HW1 HW2 f1 g1
 have hc0 : Below w2.heap.size w2 w2 := Below.refl _ _
 obtain ⟨s0, s1, _⟩ := HS2.out w2 hc0
 go_wp2_with fail
 refine (HN.out _).mono ?_
 rintro en wn ⟨rfl, hbn⟩
 have hcn : Below w2.heap.size w2 wn := hbn
 have hzn := hcn.size
 clear s0 s1
 obtain ⟨s0, _⟩ := HS2.out wn hcn
 go_upto_region 25 with fail
 clear s0
 go_cut [4] (fun g wx => g = .bool (N && B1) ∧ Below w2.heap.size w2 wx)
 case first => as_aux_lemma =>
  cases N with
  | false =>
   go_wp2_with fail
   go_meet
   exact ⟨rfl, hcn⟩
  | true =>
   obtain ⟨s0, s1, s2, s3, s4, s5, s6, s7, s8, s9, s10, s11, s12, s13, s14, s15, s16, s17, s18, s19, s20, s21, s22⟩ := HS2.out wn hcn
   go_wp2_with fail
   refine (H1.out wn hcn).mono ?_
   rintro en wx ⟨rfl, hbx⟩
   have hcx : Below w2.heap.size w2 wx := hcn.trans (hbx.mono hcn.size)
   have hzx := hcx.size
   clear s0 s1 s2 s3 s4 s5 s6 s7 s8 s9 s10 s11 s12 s13 s14 s15 s16 s17 s18 s19 s20 s21 s22
   go_wp2_with fail
   go_meet
   exact ⟨rfl, hcx⟩
 obtain ⟨rfl, hcc⟩ := hcut
 obtain ⟨Y, rfl⟩ : ∃ W, W = wc := ⟨_, rfl⟩
 obtain ⟨G, hG⟩ : ∃ G, (N && B1) = G := ⟨_, rfl⟩
 rw [hG]
 have HG := Lib.hid hG
 have hzc := hcc.size
 obtain ⟨V, hV⟩ : ∃ V, (Y.setCell ⟨w0.heap.size, 22, none⟩ (.string ⟨#[]⟩)) = V := ⟨_, rfl⟩
 have kV : Blk V w0.heap.size 34 (({ s with tb := [], role := [] } : St).cells (p : StP)).toArray := by
  rw [← hV]
  exact (st_set_role (HR2.out Y hcc))
 have hbV : Below w0.heap.size Y V := by rw [← hV]; exact (bwS (Below.refl w0.heap.size Y) (Nat.le_refl _))
 have HV := Lib.hid hV
 have HKV := Lib.hid kV
 have hbf := HBB.out Y V hcc hbV
 clear hV kV hbV hG
 have hkY := HR2.out Y hcc
 obtain ⟨r0, r1, r2, r3, r4, r5, r6, r7, r8, r9, r10, r11, r12, r13, r14, r15, r16, r17, r18, r19, r20, r21, r22⟩ := hkY.st
 obtain ⟨z0, z1, z2, z3, z4, z5, z6, z7, z8, z9, z10, z11, z12, z13, z14, z15, z16, z17, z18, z19, z20, z21, z22⟩ := hkY.stF
 clear hkY r0 z0 r1 z1 r2 z2 r3 z3 r4 z4 r5 z5 r6 z6 r7 z7 r8 z8 r9 z9 r10 z10 r11 z11 r12 z12 r13 z13 r14 z14 r15 z15 r16 z16 r17 z17 r18 z18 r19 z19 r20 z20 r21 z21
 go_upto_region 36 with fail
 rw [show (Y.setCell ⟨w0.heap.size, 22, none⟩ (.string ⟨#[]⟩)) = V from HV.out]
 clear r22 z22
 cases G with
 | false =>
  go_wp2_with fail
  go_ret
  exact ⟨by rw [HR.out, HG.out]; rfl, hbf⟩
 | true =>
  go_wp2_with (refine wpList_load_rowG (by rfl) 34 _ rfl w0.heap.size rfl 34 (({ s with tb := [], role := [] } : St).cells (p : StP)).toArray (0, 0) _ HKV.out Tryz.underlying34 rfl size_st ?_)
  refine (HE.out V).mono ?_
  rintro en we ⟨rfl, hbe⟩
  have hbf2 := hbf.trans (hbe.mono hbf.size)
  go_wp2_with fail
  go_ret
  exact ⟨by rw [HR.out, HG.out]; rfl, hbf2⟩
set_option maxRecDepth 100000 in
set_option maxHeartbeats 8000000 in
theorem parts_copy (s : St) (p : StP) (w : World) (hok : s.Ok) (hQ : StQ 1000 s p (Old w.heap.size) w) (hop : s.op = oCopy) : Calls Tryz.prog 53 #[.agg (s.cells p).toArray] w (Ret (.bool (partsS s)) w) := by
 obtain ⟨kc, ks, kw, hM⟩ := hQ.h
 refine stBox_in s p w fun w0 HW ks0 hb0 hz0 HST HB => ?_
 obtain ⟨w1, hw1⟩ : ∃ w1, w0.alloc (.cells (s.cells p).toArray 34) = w1 := ⟨_, rfl⟩
 obtain ⟨w2, hw2⟩ : ∃ w2, w1.setCell ⟨w0.heap.size, 1, none⟩ (.string ⟨#[]⟩) = w2 := ⟨_, rfl⟩
 have hk1 : Blk w1 w0.heap.size 34 (s.cells p).toArray := by rw [← hw1]; exact Blk.new _ _ _
 have hk2 : Blk w2 w0.heap.size 34 (({ s with tb := [] } : St).cells p).toArray := by rw [← hw2]; exact st_set_tb hk1
 have hb12 : Below w0.heap.size w0 w2 := by rw [← hw2, ← hw1]; exact bl
 have hb2 : Below w.heap.size w w2 := hb0.trans (hb12.mono hz0)
 have hz2 := hb2.size
 have hl1 : w0.heap.size < w2.heap.size := hk2.lt
 have HS2 : Hid (∀ Z : World, Below w2.heap.size w2 Z → StC s p w.heap.size Z) := fun Z hz => HST.out Z (hb12.trans (hz.mono hb12.size))
 have HR2 : Hid (∀ Z : World, Below w2.heap.size w2 Z → Blk Z w0.heap.size 34 (({ s with tb := [] } : St).cells p).toArray) := fun Z hz => hk2.below hz hl1
 have HKB : Hid (∀ Z : World, Below w2.heap.size w2 Z → Blk Z w.heap.size 34 (s.cells p).toArray) := fun Z hz => ks0.below (hb12.trans (hz.mono hb12.size)) ks0.lt
 have HBB : Hid (∀ Z Y : World, Below w2.heap.size w2 Z → Below w0.heap.size Z Y → Below w.heap.size w Y) := fun Z Y hz hy => hb2.trans ((hz.mono hz2).trans (hy.mono hz0))
 have HM : Hid (∀ Y : World, Below w2.heap.size w2 Y → StH s p kc ks kw (Old Y.heap.size) Y) := fun Y hY => hM.keep (old_keep (hb2.trans (hY.mono hz2)) (Nat.le_trans hz2 hY.size))
 have HMQ : Hid (∀ Y : World, Below w2.heap.size w2 Y → StQ 1000 s p (Old Y.heap.size) Y) := fun Y hY => (HM.out Y hY).q
 obtain ⟨N, hN⟩ : ∃ N, nameG s.tb = N := ⟨_, rfl⟩
 have HN : Hid (∀ Y : World, Calls Tryz.prog 74 #[.string ⟨s.tb.toArray⟩] Y (Ret (.bool N) Y)) := name_at hN hok.tb
 obtain ⟨B1, hB1⟩ : ∃ B, nameG s.ot = B := ⟨_, rfl⟩
 have H1 : Hid (∀ Y : World, Below w2.heap.size w2 Y → Calls Tryz.prog 74 #[.string ⟨s.ot.toArray⟩] Y (Ret (.bool B1) Y)) := fun Y hY => by
  rw [← hB1]
  exact name_at rfl hok.ot Y
 obtain ⟨B2, hB2⟩ : ∃ B, manyB s.names 1 8 nameG = B := ⟨_, rfl⟩
 have H2 : Hid (∀ Y : World, Below w2.heap.size w2 Y → Calls Tryz.prog 82 #[.slice p.names.a s.names.length p.names.c, .int .i64 1, .int .i64 8, .func (.func 74) #[] #[]] Y (Ret (.bool B2) Y)) := fun Y hY => by
  rw [← hB2]
  exact manyN_any p.names.a p.names.c s.names 1 8 Y (by decide) (by decide) hok.nN hok.names (HM.out Y hY).1
 obtain ⟨B3, hB3⟩ : ∃ B, perhapsE s.chk = B := ⟨_, rfl⟩
 have H3 : Hid (∀ Y : World, Below w2.heap.size w2 Y → Calls Tryz.prog 81 #[.agg #[.string ⟨s.chk.op.toArray⟩, .int .i64 s.chk.v.k, .int .i64 s.chk.v.i, .string ⟨s.chk.v.s.toArray⟩, .string ⟨s.chk.s.toArray⟩, .slice p.chk.a s.chk.l.length p.chk.c]] Y (Ret (.bool B3) Y)) := fun Y hY => by
  rw [← hB3]
  exact perhaps_any s.chk p.chk.a p.chk.c kc Y hok.chk (exq_s (HM.out Y hY).2.2.2.2.1 (Nat.le_refl _))
 obtain ⟨E, hE⟩ : ∃ E, emptyS ({ s with tb := [], ot := [], names := [], chk := exZero } : St) = E := ⟨_, rfl⟩
 have HE : Hid (∀ Y : World, Calls Tryz.prog 83 #[.agg (({ s with tb := [], ot := [], names := [], chk := exZero } : St).cells ({ p with names := ⟨none, 0⟩, chk := ⟨none, 0⟩ } : StP)).toArray] Y (Ret (.bool E) Y)) := emptyAt ({ s with tb := [], ot := [], names := [], chk := exZero } : St) ({ p with names := ⟨none, 0⟩, chk := ⟨none, 0⟩ } : StP) ⟨sl0, sl0, hok.key, hok.role, sl0, hok.nC, hok.nU, hok.nR, hok.nW, hok.nS⟩ hE
 have hR : partsS s = ((N && B1 && B2 && B3) && E) := by
  unfold partsS
  rw [if_neg (by rw [hop]; first | done | decide)]
  rw [if_neg (by rw [hop]; first | done | decide)]
  rw [if_neg (by rw [hop]; first | done | decide)]
  rw [if_neg (by rw [hop]; first | done | decide)]
  rw [if_neg (by rw [hop]; first | done | decide)]
  rw [if_neg (by rw [hop]; first | done | decide)]
  rw [if_pos (by rw [hop]; first | done | decide)]
  rw [hE, hN, hB1, hB2, hB3]
 obtain ⟨R, hR0⟩ : ∃ R, partsS s = R := ⟨_, rfl⟩
 rw [hR0] at hR ⊢
 have HR := Lib.hid hR
 have HKS := Lib.hid ks0
 have HW1 := Lib.hid hw1
 have HW2 := Lib.hid hw2
 have o_create : (s.op == [99, 114, 101, 97, 116, 101]) = false := by rw [hop]; rfl
 have o_drop : (s.op == [100, 114, 111, 112]) = false := by rw [hop]; rfl
 have o_insert : (s.op == [105, 110, 115, 101, 114, 116]) = false := by rw [hop]; rfl
 have o_update : (s.op == [117, 112, 100, 97, 116, 101]) = false := by rw [hop]; rfl
 have o_delete : (s.op == [100, 101, 108, 101, 116, 101]) = false := by rw [hop]; rfl
 have o_select : (s.op == [115, 101, 108, 101, 99, 116]) = false := by rw [hop]; rfl
 have o_read : (s.op == [114, 101, 97, 100]) = false := by rw [hop]; rfl
 have o_write : (s.op == [119, 114, 105, 116, 101]) = false := by rw [hop]; rfl
 have o_unread : (s.op == [117, 110, 114, 101, 97, 100]) = false := by rw [hop]; rfl
 have o_unwrite : (s.op == [117, 110, 119, 114, 105, 116, 101]) = false := by rw [hop]; rfl
 have o_copy : (s.op == [99, 111, 112, 121]) = true := by rw [hop]; rfl
 clear hR hR0 hE hN hB1 hB2 hB3 hM hQ hok hop hk1 hk2 hw1 hw2 ks0
 obtain ⟨s0, s1, s2, s3, s4, s5, s6, s7, s8, s9, s10, s11, s12, s13, s14, s15, s16, s17, s18, s19, s20, s21, s22⟩ := HST.out w0 (Below.refl _ _)
 go_enter Tryz.func53, Tryz.ntmps53
 go_upto_region 1 with fail
 rw [show w.alloc _ = w0 from HW.out]
 clear HW
 go_upto_region 2 with (first | refine wpList_load_row rfl 34 _ rfl w.heap.size rfl 34 (s.cells p).toArray (0, 0) _ HKS.out Tryz.underlying34 rfl size_st ?_ | refine wpList_store_row rfl 34 _ _ rfl w0.heap.size (s.cells p).toArray rfl rfl 34 _ (heap_alloc_last _ _) size_st rfl (one_st s p) ?_)
 rw [show World.setRow _ _ _ = w1 from (World.setRow_alloc_new _ _ _ _).trans HW1.out]
 have f1 : w1.cell? ⟨w0.heap.size, 1, none⟩ = some (.string ⟨s.tb.toArray⟩) := by rw [← HW1.out]; exact (Blk.new _ _ _).cell 1
 have g1 : w1.frozen? ⟨w0.heap.size, 1, none⟩ = false := by rw [← HW1.out]; exact (Blk.new _ _ _).frozen 1
 go_upto_region 3 with fail
 rw [show w1.setCell _ _ = w2 from HW2.out]
 clear s0 s1 s2 s3 s4 s5 s6 s7 s8 s9 s10 s11 s12 s13 s14 s15 s16 s17 s18 s19 s20 s21 s22
 clear HW1 HW2 f1 g1
 have hc0 : Below w2.heap.size w2 w2 := Below.refl _ _
 obtain ⟨s0, s1, _⟩ := HS2.out w2 hc0
 go_wp2_with fail
 refine (HN.out _).mono ?_
 rintro en wn ⟨rfl, hbn⟩
 have hcn : Below w2.heap.size w2 wn := hbn
 have hzn := hcn.size
 clear s0 s1
 obtain ⟨s0, _⟩ := HS2.out wn hcn
 go_upto_region 28 with fail
 clear s0
 go_cut [4] (fun g wx => g = .bool (N && B1 && B2 && B3) ∧ Below w2.heap.size w2 wx)
 case first => as_aux_lemma =>
  cases N with
  | false =>
   go_wp2_with fail
   go_meet
   exact ⟨rfl, hcn⟩
  | true =>
   obtain ⟨s0, s1, s2, s3, s4, s5, s6, s7, s8, s9, s10, s11, s12, s13, s14, s15, s16, s17, s18, s19, s20, s21, s22⟩ := HS2.out wn hcn
   go_wp2_with fail
   refine (H1.out wn hcn).mono ?_
   rintro en wx ⟨rfl, hbx⟩
   have hcx : Below w2.heap.size w2 wx := hcn.trans (hbx.mono hcn.size)
   have hzx := hcx.size
   clear s0 s1 s2 s3 s4 s5 s6 s7 s8 s9 s10 s11 s12 s13 s14 s15 s16 s17 s18 s19 s20 s21 s22
   cases B1 with
   | false =>
    go_wp2_with fail
    go_meet
    exact ⟨rfl, hcx⟩
   | true =>
    obtain ⟨s0, s1, s2, s3, s4, s5, s6, s7, s8, s9, s10, s11, s12, s13, s14, s15, s16, s17, s18, s19, s20, s21, s22⟩ := HS2.out wx hcx
    go_wp2_with fail
    refine (H2.out wx hcx).mono ?_
    rintro en wy ⟨rfl, hby⟩
    have hcy : Below w2.heap.size w2 wy := hcx.trans (hby.mono hcx.size)
    have hzy := hcy.size
    clear s0 s1 s2 s3 s4 s5 s6 s7 s8 s9 s10 s11 s12 s13 s14 s15 s16 s17 s18 s19 s20 s21 s22
    cases B2 with
    | false =>
     go_wp2_with fail
     go_meet
     exact ⟨rfl, hcy⟩
    | true =>
     obtain ⟨s0, s1, s2, s3, s4, s5, s6, s7, s8, s9, s10, s11, s12, s13, s14, s15, s16, s17, s18, s19, s20, s21, s22⟩ := HS2.out wy hcy
     go_wp2_with fail
     refine (H3.out wy hcy).mono ?_
     rintro en wz ⟨rfl, hbz⟩
     have hcz : Below w2.heap.size w2 wz := hcy.trans (hbz.mono hcy.size)
     have hzz := hcz.size
     clear s0 s1 s2 s3 s4 s5 s6 s7 s8 s9 s10 s11 s12 s13 s14 s15 s16 s17 s18 s19 s20 s21 s22
     go_wp2_with fail
     go_meet
     exact ⟨rfl, hcz⟩
 obtain ⟨rfl, hcc⟩ := hcut
 obtain ⟨Y, rfl⟩ : ∃ W, W = wc := ⟨_, rfl⟩
 obtain ⟨G, hG⟩ : ∃ G, (N && B1 && B2 && B3) = G := ⟨_, rfl⟩
 rw [hG]
 have HG := Lib.hid hG
 have hzc := hcc.size
 obtain ⟨V, hV⟩ : ∃ V, ((((((((Y.setCell ⟨w0.heap.size, 2, none⟩ (.string ⟨#[]⟩)).setCell ⟨w0.heap.size, 3, none⟩ (.slice none 0 0)).setCell ⟨w0.heap.size, 8, none⟩ (.string ⟨#[]⟩)).setCell ⟨w0.heap.size, 9, none⟩ (.int .i64 0)).setCell ⟨w0.heap.size, 10, none⟩ (.int .i64 0)).setCell ⟨w0.heap.size, 11, none⟩ (.string ⟨#[]⟩)).setCell ⟨w0.heap.size, 12, none⟩ (.string ⟨#[]⟩)).setCell ⟨w0.heap.size, 13, none⟩ (.slice none 0 0)) = V := ⟨_, rfl⟩
 have kV : Blk V w0.heap.size 34 (({ s with tb := [], ot := [], names := [], chk := exZero } : St).cells ({ p with names := ⟨none, 0⟩, chk := ⟨none, 0⟩ } : StP)).toArray := by
  rw [← hV]
  exact (st_set_chk (st_set_names (st_set_ot (HR2.out Y hcc))))
 have hbV : Below w0.heap.size Y V := by rw [← hV]; exact (bwS (bwS (bwS (bwS (bwS (bwS (bwS (bwS (Below.refl w0.heap.size Y) (Nat.le_refl _)) (Nat.le_refl _)) (Nat.le_refl _)) (Nat.le_refl _)) (Nat.le_refl _)) (Nat.le_refl _)) (Nat.le_refl _)) (Nat.le_refl _))
 have HV := Lib.hid hV
 have HKV := Lib.hid kV
 have hbf := HBB.out Y V hcc hbV
 clear hV kV hbV hG
 have hkY := HR2.out Y hcc
 obtain ⟨r0, r1, r2, r3, r4, r5, r6, r7, r8, r9, r10, r11, r12, r13, r14, r15, r16, r17, r18, r19, r20, r21, r22⟩ := hkY.st
 obtain ⟨z0, z1, z2, z3, z4, z5, z6, z7, z8, z9, z10, z11, z12, z13, z14, z15, z16, z17, z18, z19, z20, z21, z22⟩ := hkY.stF
 clear hkY r0 z0 r1 z1 r4 z4 r5 z5 r6 z6 r7 z7 r14 z14 r15 z15 r16 z16 r17 z17 r18 z18 r19 z19 r20 z20 r21 z21 r22 z22
 go_upto_region 36 with fail
 rw [show ((((((((Y.setCell ⟨w0.heap.size, 2, none⟩ (.string ⟨#[]⟩)).setCell ⟨w0.heap.size, 3, none⟩ (.slice none 0 0)).setCell ⟨w0.heap.size, 8, none⟩ (.string ⟨#[]⟩)).setCell ⟨w0.heap.size, 9, none⟩ (.int .i64 0)).setCell ⟨w0.heap.size, 10, none⟩ (.int .i64 0)).setCell ⟨w0.heap.size, 11, none⟩ (.string ⟨#[]⟩)).setCell ⟨w0.heap.size, 12, none⟩ (.string ⟨#[]⟩)).setCell ⟨w0.heap.size, 13, none⟩ (.slice none 0 0)) = V from HV.out]
 clear r2 z2 r3 z3 r8 z8 r9 z9 r10 z10 r11 z11 r12 z12 r13 z13
 cases G with
 | false =>
  go_wp2_with fail
  go_ret
  exact ⟨by rw [HR.out, HG.out]; rfl, hbf⟩
 | true =>
  go_wp2_with (refine wpList_load_rowG (by rfl) 34 _ rfl w0.heap.size rfl 34 (({ s with tb := [], ot := [], names := [], chk := exZero } : St).cells ({ p with names := ⟨none, 0⟩, chk := ⟨none, 0⟩ } : StP)).toArray (0, 0) _ HKV.out Tryz.underlying34 rfl size_st ?_)
  refine (HE.out V).mono ?_
  rintro en we ⟨rfl, hbe⟩
  have hbf2 := hbf.trans (hbe.mono hbf.size)
  go_wp2_with fail
  go_ret
  exact ⟨by rw [HR.out, HG.out]; rfl, hbf2⟩
set_option maxRecDepth 100000 in
set_option maxHeartbeats 8000000 in
theorem parts_join (s : St) (p : StP) (w : World) (hok : s.Ok) (hQ : StQ 1000 s p (Old w.heap.size) w) (hop : s.op = oJoin) : Calls Tryz.prog 53 #[.agg (s.cells p).toArray] w (Ret (.bool (partsS s)) w) := by
 obtain ⟨kc, ks, kw, hM⟩ := hQ.h
 refine stBox_in s p w fun w0 HW ks0 hb0 hz0 HST HB => ?_
 obtain ⟨w1, hw1⟩ : ∃ w1, w0.alloc (.cells (s.cells p).toArray 34) = w1 := ⟨_, rfl⟩
 obtain ⟨w2, hw2⟩ : ∃ w2, w1.setCell ⟨w0.heap.size, 1, none⟩ (.string ⟨#[]⟩) = w2 := ⟨_, rfl⟩
 have hk1 : Blk w1 w0.heap.size 34 (s.cells p).toArray := by rw [← hw1]; exact Blk.new _ _ _
 have hk2 : Blk w2 w0.heap.size 34 (({ s with tb := [] } : St).cells p).toArray := by rw [← hw2]; exact st_set_tb hk1
 have hb12 : Below w0.heap.size w0 w2 := by rw [← hw2, ← hw1]; exact bl
 have hb2 : Below w.heap.size w w2 := hb0.trans (hb12.mono hz0)
 have hz2 := hb2.size
 have hl1 : w0.heap.size < w2.heap.size := hk2.lt
 have HS2 : Hid (∀ Z : World, Below w2.heap.size w2 Z → StC s p w.heap.size Z) := fun Z hz => HST.out Z (hb12.trans (hz.mono hb12.size))
 have HR2 : Hid (∀ Z : World, Below w2.heap.size w2 Z → Blk Z w0.heap.size 34 (({ s with tb := [] } : St).cells p).toArray) := fun Z hz => hk2.below hz hl1
 have HKB : Hid (∀ Z : World, Below w2.heap.size w2 Z → Blk Z w.heap.size 34 (s.cells p).toArray) := fun Z hz => ks0.below (hb12.trans (hz.mono hb12.size)) ks0.lt
 have HBB : Hid (∀ Z Y : World, Below w2.heap.size w2 Z → Below w0.heap.size Z Y → Below w.heap.size w Y) := fun Z Y hz hy => hb2.trans ((hz.mono hz2).trans (hy.mono hz0))
 have HM : Hid (∀ Y : World, Below w2.heap.size w2 Y → StH s p kc ks kw (Old Y.heap.size) Y) := fun Y hY => hM.keep (old_keep (hb2.trans (hY.mono hz2)) (Nat.le_trans hz2 hY.size))
 have HMQ : Hid (∀ Y : World, Below w2.heap.size w2 Y → StQ 1000 s p (Old Y.heap.size) Y) := fun Y hY => (HM.out Y hY).q
 obtain ⟨N, hN⟩ : ∃ N, nameG s.tb = N := ⟨_, rfl⟩
 have HN : Hid (∀ Y : World, Calls Tryz.prog 74 #[.string ⟨s.tb.toArray⟩] Y (Ret (.bool N) Y)) := name_at hN hok.tb
 obtain ⟨B1, hB1⟩ : ∃ B, nameG s.ot = B := ⟨_, rfl⟩
 have H1 : Hid (∀ Y : World, Below w2.heap.size w2 Y → Calls Tryz.prog 74 #[.string ⟨s.ot.toArray⟩] Y (Ret (.bool B1) Y)) := fun Y hY => by
  rw [← hB1]
  exact name_at rfl hok.ot Y
 obtain ⟨B2, hB2⟩ : ∃ B, nameG s.key = B := ⟨_, rfl⟩
 have H2 : Hid (∀ Y : World, Below w2.heap.size w2 Y → Calls Tryz.prog 74 #[.string ⟨s.key.toArray⟩] Y (Ret (.bool B2) Y)) := fun Y hY => by
  rw [← hB2]
  exact name_at rfl hok.key Y
 obtain ⟨B3, hB3⟩ : ∃ B, nameG s.role = B := ⟨_, rfl⟩
 have H3 : Hid (∀ Y : World, Below w2.heap.size w2 Y → Calls Tryz.prog 74 #[.string ⟨s.role.toArray⟩] Y (Ret (.bool B3) Y)) := fun Y hY => by
  rw [← hB3]
  exact name_at rfl hok.role Y
 obtain ⟨B4, hB4⟩ : ∃ B, perhapsE s.chk = B := ⟨_, rfl⟩
 have H4 : Hid (∀ Y : World, Below w2.heap.size w2 Y → Calls Tryz.prog 81 #[.agg #[.string ⟨s.chk.op.toArray⟩, .int .i64 s.chk.v.k, .int .i64 s.chk.v.i, .string ⟨s.chk.v.s.toArray⟩, .string ⟨s.chk.s.toArray⟩, .slice p.chk.a s.chk.l.length p.chk.c]] Y (Ret (.bool B4) Y)) := fun Y hY => by
  rw [← hB4]
  exact perhaps_any s.chk p.chk.a p.chk.c kc Y hok.chk (exq_s (HM.out Y hY).2.2.2.2.1 (Nat.le_refl _))
 obtain ⟨E, hE⟩ : ∃ E, emptyS ({ s with tb := [], ot := [], key := [], role := [], chk := exZero } : St) = E := ⟨_, rfl⟩
 have HE : Hid (∀ Y : World, Calls Tryz.prog 83 #[.agg (({ s with tb := [], ot := [], key := [], role := [], chk := exZero } : St).cells ({ p with chk := ⟨none, 0⟩ } : StP)).toArray] Y (Ret (.bool E) Y)) := emptyAt ({ s with tb := [], ot := [], key := [], role := [], chk := exZero } : St) ({ p with chk := ⟨none, 0⟩ } : StP) ⟨sl0, sl0, sl0, sl0, hok.nN, hok.nC, hok.nU, hok.nR, hok.nW, hok.nS⟩ hE
 have hR : partsS s = ((N && B1 && B2 && B3 && B4) && E) := by
  unfold partsS
  rw [if_neg (by rw [hop]; first | done | decide)]
  rw [if_neg (by rw [hop]; first | done | decide)]
  rw [if_neg (by rw [hop]; first | done | decide)]
  rw [if_neg (by rw [hop]; first | done | decide)]
  rw [if_neg (by rw [hop]; first | done | decide)]
  rw [if_neg (by rw [hop]; first | done | decide)]
  rw [if_neg (by rw [hop]; first | done | decide)]
  rw [if_pos (by rw [hop]; first | done | decide)]
  rw [hE, hN, hB1, hB2, hB3, hB4]
 obtain ⟨R, hR0⟩ : ∃ R, partsS s = R := ⟨_, rfl⟩
 rw [hR0] at hR ⊢
 have HR := Lib.hid hR
 have HKS := Lib.hid ks0
 have HW1 := Lib.hid hw1
 have HW2 := Lib.hid hw2
 have o_create : (s.op == [99, 114, 101, 97, 116, 101]) = false := by rw [hop]; rfl
 have o_drop : (s.op == [100, 114, 111, 112]) = false := by rw [hop]; rfl
 have o_insert : (s.op == [105, 110, 115, 101, 114, 116]) = false := by rw [hop]; rfl
 have o_update : (s.op == [117, 112, 100, 97, 116, 101]) = false := by rw [hop]; rfl
 have o_delete : (s.op == [100, 101, 108, 101, 116, 101]) = false := by rw [hop]; rfl
 have o_select : (s.op == [115, 101, 108, 101, 99, 116]) = false := by rw [hop]; rfl
 have o_read : (s.op == [114, 101, 97, 100]) = false := by rw [hop]; rfl
 have o_write : (s.op == [119, 114, 105, 116, 101]) = false := by rw [hop]; rfl
 have o_unread : (s.op == [117, 110, 114, 101, 97, 100]) = false := by rw [hop]; rfl
 have o_unwrite : (s.op == [117, 110, 119, 114, 105, 116, 101]) = false := by rw [hop]; rfl
 have o_copy : (s.op == [99, 111, 112, 121]) = false := by rw [hop]; rfl
 have o_join : (s.op == [106, 111, 105, 110]) = true := by rw [hop]; rfl
 clear hR hR0 hE hN hB1 hB2 hB3 hB4 hM hQ hok hop hk1 hk2 hw1 hw2 ks0
 obtain ⟨s0, s1, s2, s3, s4, s5, s6, s7, s8, s9, s10, s11, s12, s13, s14, s15, s16, s17, s18, s19, s20, s21, s22⟩ := HST.out w0 (Below.refl _ _)
 go_enter Tryz.func53, Tryz.ntmps53
 go_upto_region 1 with fail
 rw [show w.alloc _ = w0 from HW.out]
 clear HW
 go_upto_region 2 with (first | refine wpList_load_row rfl 34 _ rfl w.heap.size rfl 34 (s.cells p).toArray (0, 0) _ HKS.out Tryz.underlying34 rfl size_st ?_ | refine wpList_store_row rfl 34 _ _ rfl w0.heap.size (s.cells p).toArray rfl rfl 34 _ (heap_alloc_last _ _) size_st rfl (one_st s p) ?_)
 rw [show World.setRow _ _ _ = w1 from (World.setRow_alloc_new _ _ _ _).trans HW1.out]
 have f1 : w1.cell? ⟨w0.heap.size, 1, none⟩ = some (.string ⟨s.tb.toArray⟩) := by rw [← HW1.out]; exact (Blk.new _ _ _).cell 1
 have g1 : w1.frozen? ⟨w0.heap.size, 1, none⟩ = false := by rw [← HW1.out]; exact (Blk.new _ _ _).frozen 1
 go_upto_region 3 with fail
 rw [show w1.setCell _ _ = w2 from HW2.out]
 clear s0 s1 s2 s3 s4 s5 s6 s7 s8 s9 s10 s11 s12 s13 s14 s15 s16 s17 s18 s19 s20 s21 s22
 clear HW1 HW2 f1 g1
 have hc0 : Below w2.heap.size w2 w2 := Below.refl _ _
 obtain ⟨s0, s1, _⟩ := HS2.out w2 hc0
 go_wp2_with fail
 refine (HN.out _).mono ?_
 rintro en wn ⟨rfl, hbn⟩
 have hcn : Below w2.heap.size w2 wn := hbn
 have hzn := hcn.size
 clear s0 s1
 obtain ⟨s0, _⟩ := HS2.out wn hcn
 go_upto_region 31 with fail
 clear s0
 go_cut [4] (fun g wx => g = .bool (N && B1 && B2 && B3 && B4) ∧ Below w2.heap.size w2 wx)
 case first => as_aux_lemma =>
  cases N with
  | false =>
   go_wp2_with fail
   go_meet
   exact ⟨rfl, hcn⟩
  | true =>
   obtain ⟨s0, s1, s2, s3, s4, s5, s6, s7, s8, s9, s10, s11, s12, s13, s14, s15, s16, s17, s18, s19, s20, s21, s22⟩ := HS2.out wn hcn
   go_wp2_with fail
   refine (H1.out wn hcn).mono ?_
   rintro en wx ⟨rfl, hbx⟩
   have hcx : Below w2.heap.size w2 wx := hcn.trans (hbx.mono hcn.size)
   have hzx := hcx.size
   clear s0 s1 s2 s3 s4 s5 s6 s7 s8 s9 s10 s11 s12 s13 s14 s15 s16 s17 s18 s19 s20 s21 s22
   cases B1 with
   | false =>
    go_wp2_with fail
    go_meet
    exact ⟨rfl, hcx⟩
   | true =>
    obtain ⟨s0, s1, s2, s3, s4, s5, s6, s7, s8, s9, s10, s11, s12, s13, s14, s15, s16, s17, s18, s19, s20, s21, s22⟩ := HS2.out wx hcx
    go_wp2_with fail
    refine (H2.out wx hcx).mono ?_
    rintro en wy ⟨rfl, hby⟩
    have hcy : Below w2.heap.size w2 wy := hcx.trans (hby.mono hcx.size)
    have hzy := hcy.size
    clear s0 s1 s2 s3 s4 s5 s6 s7 s8 s9 s10 s11 s12 s13 s14 s15 s16 s17 s18 s19 s20 s21 s22
    cases B2 with
    | false =>
     go_wp2_with fail
     go_meet
     exact ⟨rfl, hcy⟩
    | true =>
     obtain ⟨s0, s1, s2, s3, s4, s5, s6, s7, s8, s9, s10, s11, s12, s13, s14, s15, s16, s17, s18, s19, s20, s21, s22⟩ := HS2.out wy hcy
     go_wp2_with fail
     refine (H3.out wy hcy).mono ?_
     rintro en wz ⟨rfl, hbz⟩
     have hcz : Below w2.heap.size w2 wz := hcy.trans (hbz.mono hcy.size)
     have hzz := hcz.size
     clear s0 s1 s2 s3 s4 s5 s6 s7 s8 s9 s10 s11 s12 s13 s14 s15 s16 s17 s18 s19 s20 s21 s22
     cases B3 with
     | false =>
      go_wp2_with fail
      go_meet
      exact ⟨rfl, hcz⟩
     | true =>
      obtain ⟨s0, s1, s2, s3, s4, s5, s6, s7, s8, s9, s10, s11, s12, s13, s14, s15, s16, s17, s18, s19, s20, s21, s22⟩ := HS2.out wz hcz
      go_wp2_with fail
      refine (H4.out wz hcz).mono ?_
      rintro en wu ⟨rfl, hbu⟩
      have hcu : Below w2.heap.size w2 wu := hcz.trans (hbu.mono hcz.size)
      have hzu := hcu.size
      clear s0 s1 s2 s3 s4 s5 s6 s7 s8 s9 s10 s11 s12 s13 s14 s15 s16 s17 s18 s19 s20 s21 s22
      go_wp2_with fail
      go_meet
      exact ⟨rfl, hcu⟩
 obtain ⟨rfl, hcc⟩ := hcut
 obtain ⟨Y, rfl⟩ : ∃ W, W = wc := ⟨_, rfl⟩
 obtain ⟨G, hG⟩ : ∃ G, (N && B1 && B2 && B3 && B4) = G := ⟨_, rfl⟩
 rw [hG]
 have HG := Lib.hid hG
 have hzc := hcc.size
 obtain ⟨V, hV⟩ : ∃ V, (((((((((Y.setCell ⟨w0.heap.size, 2, none⟩ (.string ⟨#[]⟩)).setCell ⟨w0.heap.size, 5, none⟩ (.string ⟨#[]⟩)).setCell ⟨w0.heap.size, 22, none⟩ (.string ⟨#[]⟩)).setCell ⟨w0.heap.size, 8, none⟩ (.string ⟨#[]⟩)).setCell ⟨w0.heap.size, 9, none⟩ (.int .i64 0)).setCell ⟨w0.heap.size, 10, none⟩ (.int .i64 0)).setCell ⟨w0.heap.size, 11, none⟩ (.string ⟨#[]⟩)).setCell ⟨w0.heap.size, 12, none⟩ (.string ⟨#[]⟩)).setCell ⟨w0.heap.size, 13, none⟩ (.slice none 0 0)) = V := ⟨_, rfl⟩
 have kV : Blk V w0.heap.size 34 (({ s with tb := [], ot := [], key := [], role := [], chk := exZero } : St).cells ({ p with chk := ⟨none, 0⟩ } : StP)).toArray := by
  rw [← hV]
  exact (st_set_chk (st_set_role (st_set_key (st_set_ot (HR2.out Y hcc)))))
 have hbV : Below w0.heap.size Y V := by rw [← hV]; exact (bwS (bwS (bwS (bwS (bwS (bwS (bwS (bwS (bwS (Below.refl w0.heap.size Y) (Nat.le_refl _)) (Nat.le_refl _)) (Nat.le_refl _)) (Nat.le_refl _)) (Nat.le_refl _)) (Nat.le_refl _)) (Nat.le_refl _)) (Nat.le_refl _)) (Nat.le_refl _))
 have HV := Lib.hid hV
 have HKV := Lib.hid kV
 have hbf := HBB.out Y V hcc hbV
 clear hV kV hbV hG
 have hkY := HR2.out Y hcc
 obtain ⟨r0, r1, r2, r3, r4, r5, r6, r7, r8, r9, r10, r11, r12, r13, r14, r15, r16, r17, r18, r19, r20, r21, r22⟩ := hkY.st
 obtain ⟨z0, z1, z2, z3, z4, z5, z6, z7, z8, z9, z10, z11, z12, z13, z14, z15, z16, z17, z18, z19, z20, z21, z22⟩ := hkY.stF
 clear hkY r0 z0 r1 z1 r3 z3 r4 z4 r6 z6 r7 z7 r14 z14 r15 z15 r16 z16 r17 z17 r18 z18 r19 z19 r20 z20 r21 z21
 go_upto_region 36 with fail
 rw [show (((((((((Y.setCell ⟨w0.heap.size, 2, none⟩ (.string ⟨#[]⟩)).setCell ⟨w0.heap.size, 5, none⟩ (.string ⟨#[]⟩)).setCell ⟨w0.heap.size, 22, none⟩ (.string ⟨#[]⟩)).setCell ⟨w0.heap.size, 8, none⟩ (.string ⟨#[]⟩)).setCell ⟨w0.heap.size, 9, none⟩ (.int .i64 0)).setCell ⟨w0.heap.size, 10, none⟩ (.int .i64 0)).setCell ⟨w0.heap.size, 11, none⟩ (.string ⟨#[]⟩)).setCell ⟨w0.heap.size, 12, none⟩ (.string ⟨#[]⟩)).setCell ⟨w0.heap.size, 13, none⟩ (.slice none 0 0)) = V from HV.out]
 clear r2 z2 r5 z5 r8 z8 r9 z9 r10 z10 r11 z11 r12 z12 r13 z13 r22 z22
 cases G with
 | false =>
  go_wp2_with fail
  go_ret
  exact ⟨by rw [HR.out, HG.out]; rfl, hbf⟩
 | true =>
  go_wp2_with (refine wpList_load_rowG (by rfl) 34 _ rfl w0.heap.size rfl 34 (({ s with tb := [], ot := [], key := [], role := [], chk := exZero } : St).cells ({ p with chk := ⟨none, 0⟩ } : StP)).toArray (0, 0) _ HKV.out Tryz.underlying34 rfl size_st ?_)
  refine (HE.out V).mono ?_
  rintro en we ⟨rfl, hbe⟩
  have hbf2 := hbf.trans (hbe.mono hbf.size)
  go_wp2_with fail
  go_ret
  exact ⟨by rw [HR.out, HG.out]; rfl, hbf2⟩
set_option maxRecDepth 100000 in
set_option maxHeartbeats 8000000 in
theorem parts_group (s : St) (p : StP) (w : World) (hok : s.Ok) (hQ : StQ 1000 s p (Old w.heap.size) w) (hop : s.op = oGroup) : Calls Tryz.prog 53 #[.agg (s.cells p).toArray] w (Ret (.bool (partsS s)) w) := by
 obtain ⟨kc, ks, kw, hM⟩ := hQ.h
 refine stBox_in s p w fun w0 HW ks0 hb0 hz0 HST HB => ?_
 obtain ⟨w1, hw1⟩ : ∃ w1, w0.alloc (.cells (s.cells p).toArray 34) = w1 := ⟨_, rfl⟩
 obtain ⟨w2, hw2⟩ : ∃ w2, w1.setCell ⟨w0.heap.size, 1, none⟩ (.string ⟨#[]⟩) = w2 := ⟨_, rfl⟩
 have hk1 : Blk w1 w0.heap.size 34 (s.cells p).toArray := by rw [← hw1]; exact Blk.new _ _ _
 have hk2 : Blk w2 w0.heap.size 34 (({ s with tb := [] } : St).cells p).toArray := by rw [← hw2]; exact st_set_tb hk1
 have hb12 : Below w0.heap.size w0 w2 := by rw [← hw2, ← hw1]; exact bl
 have hb2 : Below w.heap.size w w2 := hb0.trans (hb12.mono hz0)
 have hz2 := hb2.size
 have hl1 : w0.heap.size < w2.heap.size := hk2.lt
 have HS2 : Hid (∀ Z : World, Below w2.heap.size w2 Z → StC s p w.heap.size Z) := fun Z hz => HST.out Z (hb12.trans (hz.mono hb12.size))
 have HR2 : Hid (∀ Z : World, Below w2.heap.size w2 Z → Blk Z w0.heap.size 34 (({ s with tb := [] } : St).cells p).toArray) := fun Z hz => hk2.below hz hl1
 have HKB : Hid (∀ Z : World, Below w2.heap.size w2 Z → Blk Z w.heap.size 34 (s.cells p).toArray) := fun Z hz => ks0.below (hb12.trans (hz.mono hb12.size)) ks0.lt
 have HBB : Hid (∀ Z Y : World, Below w2.heap.size w2 Z → Below w0.heap.size Z Y → Below w.heap.size w Y) := fun Z Y hz hy => hb2.trans ((hz.mono hz2).trans (hy.mono hz0))
 have HM : Hid (∀ Y : World, Below w2.heap.size w2 Y → StH s p kc ks kw (Old Y.heap.size) Y) := fun Y hY => hM.keep (old_keep (hb2.trans (hY.mono hz2)) (Nat.le_trans hz2 hY.size))
 have HMQ : Hid (∀ Y : World, Below w2.heap.size w2 Y → StQ 1000 s p (Old Y.heap.size) Y) := fun Y hY => (HM.out Y hY).q
 obtain ⟨N, hN⟩ : ∃ N, nameG s.tb = N := ⟨_, rfl⟩
 have HN : Hid (∀ Y : World, Calls Tryz.prog 74 #[.string ⟨s.tb.toArray⟩] Y (Ret (.bool N) Y)) := name_at hN hok.tb
 obtain ⟨B1, hB1⟩ : ∃ B, nameG s.ot = B := ⟨_, rfl⟩
 have H1 : Hid (∀ Y : World, Below w2.heap.size w2 Y → Calls Tryz.prog 74 #[.string ⟨s.ot.toArray⟩] Y (Ret (.bool B1) Y)) := fun Y hY => by
  rw [← hB1]
  exact name_at rfl hok.ot Y
 obtain ⟨B2, hB2⟩ : ∃ B, manyB s.names 2 2 nameG = B := ⟨_, rfl⟩
 have H2 : Hid (∀ Y : World, Below w2.heap.size w2 Y → Calls Tryz.prog 82 #[.slice p.names.a s.names.length p.names.c, .int .i64 2, .int .i64 2, .func (.func 74) #[] #[]] Y (Ret (.bool B2) Y)) := fun Y hY => by
  rw [← hB2]
  exact manyN_any p.names.a p.names.c s.names 2 2 Y (by decide) (by decide) hok.nN hok.names (HM.out Y hY).1
 obtain ⟨B3, hB3⟩ : ∃ B, perhapsE s.chk = B := ⟨_, rfl⟩
 have H3 : Hid (∀ Y : World, Below w2.heap.size w2 Y → Calls Tryz.prog 81 #[.agg #[.string ⟨s.chk.op.toArray⟩, .int .i64 s.chk.v.k, .int .i64 s.chk.v.i, .string ⟨s.chk.v.s.toArray⟩, .string ⟨s.chk.s.toArray⟩, .slice p.chk.a s.chk.l.length p.chk.c]] Y (Ret (.bool B3) Y)) := fun Y hY => by
  rw [← hB3]
  exact perhaps_any s.chk p.chk.a p.chk.c kc Y hok.chk (exq_s (HM.out Y hY).2.2.2.2.1 (Nat.le_refl _))
 obtain ⟨E, hE⟩ : ∃ E, emptyS ({ s with tb := [], ot := [], names := [], chk := exZero } : St) = E := ⟨_, rfl⟩
 have HE : Hid (∀ Y : World, Calls Tryz.prog 83 #[.agg (({ s with tb := [], ot := [], names := [], chk := exZero } : St).cells ({ p with names := ⟨none, 0⟩, chk := ⟨none, 0⟩ } : StP)).toArray] Y (Ret (.bool E) Y)) := emptyAt ({ s with tb := [], ot := [], names := [], chk := exZero } : St) ({ p with names := ⟨none, 0⟩, chk := ⟨none, 0⟩ } : StP) ⟨sl0, sl0, hok.key, hok.role, sl0, hok.nC, hok.nU, hok.nR, hok.nW, hok.nS⟩ hE
 have hR : partsS s = ((N && B1 && B2 && B3) && E) := by
  unfold partsS
  rw [if_neg (by rw [hop]; first | done | decide)]
  rw [if_neg (by rw [hop]; first | done | decide)]
  rw [if_neg (by rw [hop]; first | done | decide)]
  rw [if_neg (by rw [hop]; first | done | decide)]
  rw [if_neg (by rw [hop]; first | done | decide)]
  rw [if_neg (by rw [hop]; first | done | decide)]
  rw [if_neg (by rw [hop]; first | done | decide)]
  rw [if_neg (by rw [hop]; first | done | decide)]
  rw [if_pos (by rw [hop]; first | done | decide)]
  rw [hE, hN, hB1, hB2, hB3]
 obtain ⟨R, hR0⟩ : ∃ R, partsS s = R := ⟨_, rfl⟩
 rw [hR0] at hR ⊢
 have HR := Lib.hid hR
 have HKS := Lib.hid ks0
 have HW1 := Lib.hid hw1
 have HW2 := Lib.hid hw2
 have o_create : (s.op == [99, 114, 101, 97, 116, 101]) = false := by rw [hop]; rfl
 have o_drop : (s.op == [100, 114, 111, 112]) = false := by rw [hop]; rfl
 have o_insert : (s.op == [105, 110, 115, 101, 114, 116]) = false := by rw [hop]; rfl
 have o_update : (s.op == [117, 112, 100, 97, 116, 101]) = false := by rw [hop]; rfl
 have o_delete : (s.op == [100, 101, 108, 101, 116, 101]) = false := by rw [hop]; rfl
 have o_select : (s.op == [115, 101, 108, 101, 99, 116]) = false := by rw [hop]; rfl
 have o_read : (s.op == [114, 101, 97, 100]) = false := by rw [hop]; rfl
 have o_write : (s.op == [119, 114, 105, 116, 101]) = false := by rw [hop]; rfl
 have o_unread : (s.op == [117, 110, 114, 101, 97, 100]) = false := by rw [hop]; rfl
 have o_unwrite : (s.op == [117, 110, 119, 114, 105, 116, 101]) = false := by rw [hop]; rfl
 have o_copy : (s.op == [99, 111, 112, 121]) = false := by rw [hop]; rfl
 have o_join : (s.op == [106, 111, 105, 110]) = false := by rw [hop]; rfl
 have o_group : (s.op == [103, 114, 111, 117, 112]) = true := by rw [hop]; rfl
 clear hR hR0 hE hN hB1 hB2 hB3 hM hQ hok hop hk1 hk2 hw1 hw2 ks0
 obtain ⟨s0, s1, s2, s3, s4, s5, s6, s7, s8, s9, s10, s11, s12, s13, s14, s15, s16, s17, s18, s19, s20, s21, s22⟩ := HST.out w0 (Below.refl _ _)
 go_enter Tryz.func53, Tryz.ntmps53
 go_upto_region 1 with fail
 rw [show w.alloc _ = w0 from HW.out]
 clear HW
 go_upto_region 2 with (first | refine wpList_load_row rfl 34 _ rfl w.heap.size rfl 34 (s.cells p).toArray (0, 0) _ HKS.out Tryz.underlying34 rfl size_st ?_ | refine wpList_store_row rfl 34 _ _ rfl w0.heap.size (s.cells p).toArray rfl rfl 34 _ (heap_alloc_last _ _) size_st rfl (one_st s p) ?_)
 rw [show World.setRow _ _ _ = w1 from (World.setRow_alloc_new _ _ _ _).trans HW1.out]
 have f1 : w1.cell? ⟨w0.heap.size, 1, none⟩ = some (.string ⟨s.tb.toArray⟩) := by rw [← HW1.out]; exact (Blk.new _ _ _).cell 1
 have g1 : w1.frozen? ⟨w0.heap.size, 1, none⟩ = false := by rw [← HW1.out]; exact (Blk.new _ _ _).frozen 1
 go_upto_region 3 with fail
 rw [show w1.setCell _ _ = w2 from HW2.out]
 clear s0 s1 s2 s3 s4 s5 s6 s7 s8 s9 s10 s11 s12 s13 s14 s15 s16 s17 s18 s19 s20 s21 s22
 clear HW1 HW2 f1 g1
 have hc0 : Below w2.heap.size w2 w2 := Below.refl _ _
 obtain ⟨s0, s1, _⟩ := HS2.out w2 hc0
 go_wp2_with fail
 refine (HN.out _).mono ?_
 rintro en wn ⟨rfl, hbn⟩
 have hcn : Below w2.heap.size w2 wn := hbn
 have hzn := hcn.size
 clear s0 s1
 obtain ⟨s0, _⟩ := HS2.out wn hcn
 go_upto_region 34 with fail
 clear s0
 go_cut [4] (fun g wx => g = .bool (N && B1 && B2 && B3) ∧ Below w2.heap.size w2 wx)
 case first => as_aux_lemma =>
  cases N with
  | false =>
   go_wp2_with fail
   go_meet
   exact ⟨rfl, hcn⟩
  | true =>
   obtain ⟨s0, s1, s2, s3, s4, s5, s6, s7, s8, s9, s10, s11, s12, s13, s14, s15, s16, s17, s18, s19, s20, s21, s22⟩ := HS2.out wn hcn
   go_wp2_with fail
   refine (H1.out wn hcn).mono ?_
   rintro en wx ⟨rfl, hbx⟩
   have hcx : Below w2.heap.size w2 wx := hcn.trans (hbx.mono hcn.size)
   have hzx := hcx.size
   clear s0 s1 s2 s3 s4 s5 s6 s7 s8 s9 s10 s11 s12 s13 s14 s15 s16 s17 s18 s19 s20 s21 s22
   cases B1 with
   | false =>
    go_wp2_with fail
    go_meet
    exact ⟨rfl, hcx⟩
   | true =>
    obtain ⟨s0, s1, s2, s3, s4, s5, s6, s7, s8, s9, s10, s11, s12, s13, s14, s15, s16, s17, s18, s19, s20, s21, s22⟩ := HS2.out wx hcx
    go_wp2_with fail
    refine (H2.out wx hcx).mono ?_
    rintro en wy ⟨rfl, hby⟩
    have hcy : Below w2.heap.size w2 wy := hcx.trans (hby.mono hcx.size)
    have hzy := hcy.size
    clear s0 s1 s2 s3 s4 s5 s6 s7 s8 s9 s10 s11 s12 s13 s14 s15 s16 s17 s18 s19 s20 s21 s22
    cases B2 with
    | false =>
     go_wp2_with fail
     go_meet
     exact ⟨rfl, hcy⟩
    | true =>
     obtain ⟨s0, s1, s2, s3, s4, s5, s6, s7, s8, s9, s10, s11, s12, s13, s14, s15, s16, s17, s18, s19, s20, s21, s22⟩ := HS2.out wy hcy
     go_wp2_with fail
     refine (H3.out wy hcy).mono ?_
     rintro en wz ⟨rfl, hbz⟩
     have hcz : Below w2.heap.size w2 wz := hcy.trans (hbz.mono hcy.size)
     have hzz := hcz.size
     clear s0 s1 s2 s3 s4 s5 s6 s7 s8 s9 s10 s11 s12 s13 s14 s15 s16 s17 s18 s19 s20 s21 s22
     go_wp2_with fail
     go_meet
     exact ⟨rfl, hcz⟩
 obtain ⟨rfl, hcc⟩ := hcut
 obtain ⟨Y, rfl⟩ : ∃ W, W = wc := ⟨_, rfl⟩
 obtain ⟨G, hG⟩ : ∃ G, (N && B1 && B2 && B3) = G := ⟨_, rfl⟩
 rw [hG]
 have HG := Lib.hid hG
 have hzc := hcc.size
 obtain ⟨V, hV⟩ : ∃ V, ((((((((Y.setCell ⟨w0.heap.size, 2, none⟩ (.string ⟨#[]⟩)).setCell ⟨w0.heap.size, 3, none⟩ (.slice none 0 0)).setCell ⟨w0.heap.size, 8, none⟩ (.string ⟨#[]⟩)).setCell ⟨w0.heap.size, 9, none⟩ (.int .i64 0)).setCell ⟨w0.heap.size, 10, none⟩ (.int .i64 0)).setCell ⟨w0.heap.size, 11, none⟩ (.string ⟨#[]⟩)).setCell ⟨w0.heap.size, 12, none⟩ (.string ⟨#[]⟩)).setCell ⟨w0.heap.size, 13, none⟩ (.slice none 0 0)) = V := ⟨_, rfl⟩
 have kV : Blk V w0.heap.size 34 (({ s with tb := [], ot := [], names := [], chk := exZero } : St).cells ({ p with names := ⟨none, 0⟩, chk := ⟨none, 0⟩ } : StP)).toArray := by
  rw [← hV]
  exact (st_set_chk (st_set_names (st_set_ot (HR2.out Y hcc))))
 have hbV : Below w0.heap.size Y V := by rw [← hV]; exact (bwS (bwS (bwS (bwS (bwS (bwS (bwS (bwS (Below.refl w0.heap.size Y) (Nat.le_refl _)) (Nat.le_refl _)) (Nat.le_refl _)) (Nat.le_refl _)) (Nat.le_refl _)) (Nat.le_refl _)) (Nat.le_refl _)) (Nat.le_refl _))
 have HV := Lib.hid hV
 have HKV := Lib.hid kV
 have hbf := HBB.out Y V hcc hbV
 clear hV kV hbV hG
 have hkY := HR2.out Y hcc
 obtain ⟨r0, r1, r2, r3, r4, r5, r6, r7, r8, r9, r10, r11, r12, r13, r14, r15, r16, r17, r18, r19, r20, r21, r22⟩ := hkY.st
 obtain ⟨z0, z1, z2, z3, z4, z5, z6, z7, z8, z9, z10, z11, z12, z13, z14, z15, z16, z17, z18, z19, z20, z21, z22⟩ := hkY.stF
 clear hkY r0 z0 r1 z1 r4 z4 r5 z5 r6 z6 r7 z7 r14 z14 r15 z15 r16 z16 r17 z17 r18 z18 r19 z19 r20 z20 r21 z21 r22 z22
 go_upto_region 36 with fail
 rw [show ((((((((Y.setCell ⟨w0.heap.size, 2, none⟩ (.string ⟨#[]⟩)).setCell ⟨w0.heap.size, 3, none⟩ (.slice none 0 0)).setCell ⟨w0.heap.size, 8, none⟩ (.string ⟨#[]⟩)).setCell ⟨w0.heap.size, 9, none⟩ (.int .i64 0)).setCell ⟨w0.heap.size, 10, none⟩ (.int .i64 0)).setCell ⟨w0.heap.size, 11, none⟩ (.string ⟨#[]⟩)).setCell ⟨w0.heap.size, 12, none⟩ (.string ⟨#[]⟩)).setCell ⟨w0.heap.size, 13, none⟩ (.slice none 0 0)) = V from HV.out]
 clear r2 z2 r3 z3 r8 z8 r9 z9 r10 z10 r11 z11 r12 z12 r13 z13
 cases G with
 | false =>
  go_wp2_with fail
  go_ret
  exact ⟨by rw [HR.out, HG.out]; rfl, hbf⟩
 | true =>
  go_wp2_with (refine wpList_load_rowG (by rfl) 34 _ rfl w0.heap.size rfl 34 (({ s with tb := [], ot := [], names := [], chk := exZero } : St).cells ({ p with names := ⟨none, 0⟩, chk := ⟨none, 0⟩ } : StP)).toArray (0, 0) _ HKV.out Tryz.underlying34 rfl size_st ?_)
  refine (HE.out V).mono ?_
  rintro en we ⟨rfl, hbe⟩
  have hbf2 := hbf.trans (hbe.mono hbf.size)
  go_wp2_with fail
  go_ret
  exact ⟨by rw [HR.out, HG.out]; rfl, hbf2⟩
set_option maxRecDepth 100000 in
set_option maxHeartbeats 4000000 in
theorem partsSt_any (s : St) (p : StP) (w : World) (hok : s.Ok) (hQ : StQ 1000 s p (Old w.heap.size) w) : Calls Tryz.prog 53 #[.agg (s.cells p).toArray] w (Ret (.bool (partsS s)) w) := by
 by_cases h_create : s.op = oCreate
 ·exact parts_create s p w hok hQ h_create
 by_cases h_drop : s.op = oDrop
 ·exact parts_drop s p w hok hQ h_drop
 by_cases h_insert : s.op = oInsert
 ·exact parts_insert s p w hok hQ h_insert
 by_cases h_update : s.op = oUpdate
 ·exact parts_update s p w hok hQ h_update
 by_cases h_delete : s.op = oDelete
 ·exact parts_delete s p w hok hQ h_delete
 by_cases h_select : s.op = oSelect
 ·exact parts_select s p w hok hQ h_select
 by_cases h_read : s.op = oRead
 ·exact parts_read s p w hok hQ h_read
 by_cases h_write : s.op = oWrite
 ·exact parts_write s p w hok hQ h_write
 by_cases h_unread : s.op = oUnread
 ·exact parts_unread s p w hok hQ h_unread
 by_cases h_unwrite : s.op = oUnwrite
 ·exact parts_unwrite s p w hok hQ h_unwrite
 by_cases h_copy : s.op = oCopy
 ·exact parts_copy s p w hok hQ h_copy
 by_cases h_join : s.op = oJoin
 ·exact parts_join s p w hok hQ h_join
 by_cases h_group : s.op = oGroup
 ·exact parts_group s p w hok hQ h_group
 have hF : partsS s = false := by
  unfold partsS
  simp [h_create, h_drop, h_insert, h_update, h_delete, h_select, h_read, h_write, h_unread, h_unwrite, h_copy, h_join, h_group]
 rw [hF]
 refine stBox_in s p w fun w0 HW ks0 hb0 hz0 HST HB => ?_
 obtain ⟨w1, hw1⟩ : ∃ w1, w0.alloc (.cells (s.cells p).toArray 34) = w1 := ⟨_, rfl⟩
 obtain ⟨w2, hw2⟩ : ∃ w2, w1.setCell ⟨w0.heap.size, 1, none⟩ (.string ⟨#[]⟩) = w2 := ⟨_, rfl⟩
 have hb12 : Below w0.heap.size w0 w2 := by rw [← hw2, ← hw1]; exact bl
 have hb2 : Below w.heap.size w w2 := hb0.trans (hb12.mono hz0)
 have HS2 : Hid (∀ Z : World, Below w2.heap.size w2 Z → StC s p w.heap.size Z) := fun Z hz => HST.out Z (hb12.trans (hz.mono hb12.size))
 obtain ⟨N, hN⟩ : ∃ N, nameG s.tb = N := ⟨_, rfl⟩
 have HN : Hid (∀ Y : World, Calls Tryz.prog 74 #[.string ⟨s.tb.toArray⟩] Y (Ret (.bool N) Y)) := name_at hN hok.tb
 have HKS := Lib.hid ks0
 have HW1 := Lib.hid hw1
 have HW2 := Lib.hid hw2
 have HB2 := Lib.hid hb2
 have o_create : (s.op == [99, 114, 101, 97, 116, 101]) = false := by rw [beq_eq_false_iff_ne]; exact h_create
 have o_drop : (s.op == [100, 114, 111, 112]) = false := by rw [beq_eq_false_iff_ne]; exact h_drop
 have o_insert : (s.op == [105, 110, 115, 101, 114, 116]) = false := by rw [beq_eq_false_iff_ne]; exact h_insert
 have o_update : (s.op == [117, 112, 100, 97, 116, 101]) = false := by rw [beq_eq_false_iff_ne]; exact h_update
 have o_delete : (s.op == [100, 101, 108, 101, 116, 101]) = false := by rw [beq_eq_false_iff_ne]; exact h_delete
 have o_select : (s.op == [115, 101, 108, 101, 99, 116]) = false := by rw [beq_eq_false_iff_ne]; exact h_select
 have o_read : (s.op == [114, 101, 97, 100]) = false := by rw [beq_eq_false_iff_ne]; exact h_read
 have o_write : (s.op == [119, 114, 105, 116, 101]) = false := by rw [beq_eq_false_iff_ne]; exact h_write
 have o_unread : (s.op == [117, 110, 114, 101, 97, 100]) = false := by rw [beq_eq_false_iff_ne]; exact h_unread
 have o_unwrite : (s.op == [117, 110, 119, 114, 105, 116, 101]) = false := by rw [beq_eq_false_iff_ne]; exact h_unwrite
 have o_copy : (s.op == [99, 111, 112, 121]) = false := by rw [beq_eq_false_iff_ne]; exact h_copy
 have o_join : (s.op == [106, 111, 105, 110]) = false := by rw [beq_eq_false_iff_ne]; exact h_join
 have o_group : (s.op == [103, 114, 111, 117, 112]) = false := by rw [beq_eq_false_iff_ne]; exact h_group
 clear hF hN hQ hok hw1 hw2 ks0 h_create h_drop h_insert h_update h_delete h_select h_read h_write h_unread h_unwrite h_copy h_join h_group
 obtain ⟨s0, s1, s2, s3, s4, s5, s6, s7, s8, s9, s10, s11, s12, s13, s14, s15, s16, s17, s18, s19, s20, s21, s22⟩ := HST.out w0 (Below.refl _ _)
 go_enter Tryz.func53, Tryz.ntmps53
 go_upto_region 1 with fail
 rw [show w.alloc _ = w0 from HW.out]
 clear HW
 go_upto_region 2 with (first | refine wpList_load_row rfl 34 _ rfl w.heap.size rfl 34 (s.cells p).toArray (0, 0) _ HKS.out Tryz.underlying34 rfl size_st ?_ | refine wpList_store_row rfl 34 _ _ rfl w0.heap.size (s.cells p).toArray rfl rfl 34 _ (heap_alloc_last _ _) size_st rfl (one_st s p) ?_)
 rw [show World.setRow _ _ _ = w1 from (World.setRow_alloc_new _ _ _ _).trans HW1.out]
 have f1 : w1.cell? ⟨w0.heap.size, 1, none⟩ = some (.string ⟨s.tb.toArray⟩) := by rw [← HW1.out]; exact (Blk.new _ _ _).cell 1
 have g1 : w1.frozen? ⟨w0.heap.size, 1, none⟩ = false := by rw [← HW1.out]; exact (Blk.new _ _ _).frozen 1
 go_upto_region 3 with fail
 rw [show w1.setCell _ _ = w2 from HW2.out]
 clear s0 s1 s2 s3 s4 s5 s6 s7 s8 s9 s10 s11 s12 s13 s14 s15 s16 s17 s18 s19 s20 s21 s22
 clear HW1 HW2 f1 g1
 have hc0 : Below w2.heap.size w2 w2 := Below.refl _ _
 obtain ⟨s0, s1, _⟩ := HS2.out w2 hc0
 go_wp2_with fail
 refine (HN.out _).mono ?_
 rintro en wn ⟨rfl, hbn⟩
 clear s0 s1
 obtain ⟨s0, _⟩ := HS2.out wn hbn
 have hbf := HB2.out.trans (hbn.mono HB2.out.size)
 go_wp2_with fail
 go_ret
 exact ⟨rfl, hbf⟩
end Go.Proofs.YtchilcchogcibaaGreatDoor
