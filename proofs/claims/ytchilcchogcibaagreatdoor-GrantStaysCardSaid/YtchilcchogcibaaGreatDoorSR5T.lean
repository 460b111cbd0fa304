/- The document's text of a statement, by its Op; The document's Text of a statement. -/
import Derived.Test.YtchilcchogcibaaGreatDoorSBytes
import Derived.Test.YtchilcchogcibaaGreatDoorSR5Same
import Derived.Test.YtchilcchogcibaaGreatDoorSR5W
import Derived.Test.YtchilcchogcibaaGreatDoorSRCut
namespace Go.Proofs.YtchilcchogcibaaGreatDoor
open Go.RowKit
attribute [local go_sem] ByteArray.extract_mk ba_get ba_append
attribute [local go_sem ↓] Go.wp_at_zero Go.wp_at_succ
set_option maxRecDepth 100000 in
set_option maxHeartbeats 8000000 in
theorem wr_copy (s : St) (p : StP) (w : World) (hok : s.Ok) (hlc : s.chk.l.length ≤ maxLen) (hlw : s.whr.l.length ≤ maxLen) (hQ : StQ 1000 s p (Old w.heap.size) w) (hop : s.op = oCopy) : Calls Tryz.prog 64 #[.agg (s.cells p).toArray] w (RetWr s p w) := by
 obtain ⟨kc, ks, kw, hM⟩ := hQ.h
 refine stBox_in s p w fun w0 HW ks0 hb0 hz0 HST HB => ?_
 obtain ⟨w1, hw1⟩ : ∃ w1, w0.alloc (.cells #[.string ⟨#[]⟩, .string ⟨#[]⟩, .string ⟨#[]⟩, .slice none 0 0, .slice none 0 0, .string ⟨#[]⟩, .slice none 0 0, .slice none 0 0, .string ⟨#[]⟩, .int .i64 0, .int .i64 0, .string ⟨#[]⟩, .string ⟨#[]⟩, .slice none 0 0, .slice none 0 0, .slice none 0 0, .string ⟨#[]⟩, .int .i64 0, .int .i64 0, .string ⟨#[]⟩, .string ⟨#[]⟩, .slice none 0 0, .string ⟨#[]⟩] 34) = w1 := ⟨_, rfl⟩
 obtain ⟨w2, hw2⟩ : ∃ w2, w1.alloc (.cells ((stZ s.op s.tb).cells stPZ).toArray 34) = w2 := ⟨_, rfl⟩
 have hs0 : w0.heap.size = w.heap.size + 1 := by rw [← HW.out]; simp
 have kr1 : Blk w1 (w.heap.size + 1) 34 ((stZ [] []).cells stPZ).toArray := by rw [← hs0, ← hw1]; exact Blk.new _ _ _
 have kr2 : Blk w2 (w.heap.size + 1) 34 ((stZ [] []).cells stPZ).toArray := by rw [← hw2]; exact kr1.alloc _
 have ko2 : Blk w2 w1.heap.size 34 ((stZ s.op s.tb).cells stPZ).toArray := by rw [← hw2]; exact Blk.new _ _ _
 have hl01 : w.heap.size < w0.heap.size := ks0.lt
 have hl12 : w.heap.size + 1 < w1.heap.size := kr1.lt
 have hl23 : w1.heap.size < w2.heap.size := ko2.lt
 have hb02 : Below w0.heap.size w0 w2 := by rw [← hw2, ← hw1]; exact bl
 have hb2 : Below w.heap.size w w2 := hb0.trans (hb02.mono hz0)
 have hz2 := hb2.size
 have hs1 : w1.heap.size = w.heap.size + 1 + 1 := by rw [← hw1, ← hs0]; simp
 have HKB : Hid (∀ Z : World, Below w1.heap.size w2 Z → Blk Z w.heap.size 34 (s.cells p).toArray) := fun Z hz => (ks0.below hb02 ks0.lt).below hz (by omega)
 have HKR : Hid (∀ Z : World, Below w1.heap.size w2 Z → Blk Z (w.heap.size + 1) 34 ((stZ [] []).cells stPZ).toArray) := fun Z hz => kr2.below hz hl12
 have HM : Hid (∀ Y : World, Below w1.heap.size w2 Y → StH s p kc ks kw (Old w.heap.size) Y) := fun Y hY => hM.keep fun b hb => by
  have hb' : b < w.heap.size := hb
  exact ⟨hb', fun o => (hY.cell (p := ⟨b, o, none⟩) (show b < w1.heap.size by omega)).trans (hb2.cell (p := ⟨b, o, none⟩) hb')⟩
 have HBB : Hid (∀ Z : World, Below w1.heap.size w2 Z → Below w.heap.size w Z) := fun Z hz => hb2.trans (hz.mono (by omega))
 obtain ⟨PC, hPC⟩ : ∃ B, perhapsE s.chk = B := ⟨_, rfl⟩
 obtain ⟨PW, hPW⟩ : ∃ B, perhapsE s.whr = B := ⟨_, rfl⟩
 obtain ⟨TC, hTC⟩ : ∃ B, condT s.chk [] = B := ⟨_, rfl⟩
 obtain ⟨TW, hTW⟩ : ∃ B, condT s.whr wWhere = B := ⟨_, rfl⟩
 have HC1 : Hid (∀ Y : World, Below w1.heap.size w2 Y → w.heap.size ≤ Y.heap.size → Calls Tryz.prog 108 #[.agg #[.string ⟨s.chk.op.toArray⟩, .int .i64 s.chk.v.k, .int .i64 s.chk.v.i, .string ⟨s.chk.v.s.toArray⟩, .string ⟨s.chk.s.toArray⟩, .slice p.chk.a s.chk.l.length p.chk.c], .string ⟨#[]⟩] Y (Ret (.tuple #[.string ⟨TC.toArray⟩, .bool PC]) Y)) := fun Y hY hz => by
  rw [← hTC, ← hPC]
  exact rcond_any s.chk [] p.chk.a p.chk.c kc Y hok.chk hok.num.1 (exq_s (HM.out Y hY).2.2.2.2.1 hz) hlc (by decide)
 have HC2 : Hid (∀ Y : World, Below w1.heap.size w2 Y → w.heap.size ≤ Y.heap.size → Calls Tryz.prog 108 #[.agg #[.string ⟨s.whr.op.toArray⟩, .int .i64 s.whr.v.k, .int .i64 s.whr.v.i, .string ⟨s.whr.v.s.toArray⟩, .string ⟨s.whr.s.toArray⟩, .slice p.whr.a s.whr.l.length p.whr.c], .string ⟨#[87, 72, 69, 82, 69]⟩] Y (Ret (.tuple #[.string ⟨TW.toArray⟩, .bool PW]) Y)) := fun Y hY hz => by
  rw [← hTW, ← hPW]
  exact rcond_any s.whr wWhere p.whr.a p.whr.c kw Y hok.whr hok.num.2.1 (exq_s (HM.out Y hY).2.2.2.2.2.2.2 hz) hlw (by decide)
 have hlTC : TC.length ≤ 1002000 := by rw [← hTC]; exact condT_len _ _ (by decide) hok.num.1
 have hlTW : TW.length ≤ 1002000 := by rw [← hTW]; exact condT_len _ _ (by decide) hok.num.2.1
 have htb := hok.tb
 have hot := hok.ot
 have hkey := hok.key
 have hrole := hok.role
 have HS1 := Lib.hid hs1
 have HKS := Lib.hid ks0
 have HW1 := Lib.hid hw1
 have HW2 := Lib.hid hw2
 have HOP := Lib.hid hop
 have HPC := Lib.hid hPC
 have HPW := Lib.hid hPW
 have HTC := Lib.hid hTC
 have HTW := Lib.hid hTW
 have hOK : okD s = (nameG s.ot && manyB s.names 1 8 nameG && perhapsE s.chk) := by unfold okD; rw [if_neg (by rw [hop]; decide), if_neg (by rw [hop]; decide), if_neg (by rw [hop]; decide), if_neg (by rw [hop]; decide), if_neg (by rw [hop]; decide), if_neg (by rw [hop]; decide), if_pos (by rw [hop]; first | done | decide)]
 have hOW : ownS s = ⟨s.op, s.tb, s.ot, s.names, [], [], [], [], s.chk, [], [], ex0, []⟩ := by unfold ownS; rw [if_neg (by rw [hop]; decide), if_neg (by rw [hop]; decide), if_neg (by rw [hop]; decide), if_neg (by rw [hop]; decide), if_neg (by rw [hop]; decide), if_pos (by rw [hop]; first | done | decide)]
 have hOP : ownP s p = ⟨p.names, slZ, slZ, slZ, p.chk, slZ, slZ, slZ⟩ := by unfold ownP; rw [if_neg (by rw [hop]; decide), if_neg (by rw [hop]; decide), if_neg (by rw [hop]; decide), if_neg (by rw [hop]; decide), if_neg (by rw [hop]; decide), if_pos (by rw [hop]; first | done | decide)]
 obtain ⟨NO, hNO⟩ : ∃ N, nameG s.ot = N := ⟨_, rfl⟩
 have HNO : Hid (∀ Y : World, Calls Tryz.prog 47 #[.string ⟨s.ot.toArray⟩] Y (Ret (.bool NO) Y)) := fun Y => by rw [← hNO]; exact rnameG_any s.ot Y (by omega)
 obtain ⟨NT, hNT⟩ : ∃ N, (namesD s.names).1 = N := ⟨_, rfl⟩
 obtain ⟨NB, hNB⟩ : ∃ N, (namesD s.names).2 = N := ⟨_, rfl⟩
 have hlN : NT.length ≤ 1010000 := by rw [← hNT]; have := names_len s.names hok.names; have := hok.nN; omega
 have HNM : Hid (∀ Y : World, Below w1.heap.size w2 Y → w.heap.size ≤ Y.heap.size → Calls Tryz.prog 114 #[.slice p.names.a s.names.length p.names.c] Y (Ret (.tuple #[.string ⟨NT.toArray⟩, .bool NB]) Y)) := fun Y hY hz => by
  rw [← hNT, ← hNB]
  exact rnames_any s.names p.names.a p.names.c Y hok.nN hok.names ((HM.out Y hY).1.keep fun b hb => ⟨Nat.lt_of_lt_of_le hb hz, fun _ => rfl⟩)
 rw [names_many] at hNB
 rw [hNO, hNB, hPC] at hOK
 have hT : textS s = [77, 73, 71, 82, 65, 84, 69, 32, 67, 79, 80, 89, 32] ++ s.tb ++ [32, 70, 82, 79, 77, 32] ++ s.ot ++ [32, 40, 32] ++ joinL comma s.names ++ [32, 41] ++ checkT [32] s.chk := by unfold textS; rw [if_neg (by rw [hop]; decide), if_neg (by rw [hop]; decide), if_neg (by rw [hop]; decide), if_neg (by rw [hop]; decide), if_neg (by rw [hop]; decide), if_neg (by rw [hop]; decide), if_neg (by rw [hop]; decide), if_neg (by rw [hop]; decide), if_pos (by rw [hop]; first | done | decide)]; unfold migT; rw [hop]; simp [upperB, oCopy]
 have HT : Hid (PC = true → NB = true → [77, 73, 71, 82, 65, 84, 69, 32, 67, 79, 80, 89, 32] ++ s.tb ++ [32, 70, 82, 79, 77, 32] ++ s.ot ++ [32, 40, 32] ++ NT ++ [32, 41] ++ TC = textS s) := fun h1 h2 => by rw [hT, ← hTC, cond_check (hPC.trans h1) [] [32] (by decide) rfl, ← hNT, names_text (hNB.trans h2)]
 have HOK := Lib.hid hOK
 have HOWN := Lib.hid (And.intro hOW hOP)
 clear hT hOK hOW hOP hNO hNT hNB
 clear hQ hM hb0 ks0 hw1 hw2 kr1 kr2 hPC hPW hTC hTW hs0 hs1 hop hz0 hl01 hb02
 have s0 : w1.cell? ⟨w.heap.size, 0, none⟩ = some (.string ⟨s.op.toArray⟩) := by rw [← HW1.out]; exact (HKS.out.alloc _).cell 0
 have s1 : w1.cell? ⟨w.heap.size, 1, none⟩ = some (.string ⟨s.tb.toArray⟩) := by rw [← HW1.out]; exact (HKS.out.alloc _).cell 1
 go_enter Tryz.func64, Tryz.ntmps64
 go_upto_region 1 with fail
 rw [show World.alloc (World.alloc w _) _ = w1 from (congrArg (fun z => World.alloc z _) HW.out).trans HW1.out]
 go_upto_region 2 with (refine wpList_store_row rfl 34 _ _ rfl w1.heap.size ((stZ s.op s.tb).cells stPZ).toArray rfl rfl 34 _ (heap_alloc_last _ _) size_st rfl (one_st _ _) ?_)
 rw [show World.setRow _ _ _ = w2 from (World.setRow_alloc_new _ _ _ _).trans HW2.out]
 clear s0 s1 HW HW1 HW2 HKS
 have hc2 : Below w1.heap.size w2 w2 := Below.refl _ _
 obtain ⟨-, -, -, -, -, -, -, -, s8, s9, s10, s11, s12, s13, -, -, -, -, -, -, -, -, -⟩ := (HKB.out w2 hc2).st
 go_wp2_with fail
 refine (HC1.out w2 hc2 hz2).mono ?_
 rintro en w3 ⟨rfl, hb3⟩
 have hc3 : Below w1.heap.size w2 w3 := hb3.mono (Nat.le_of_lt hl23)
 have hz3 := hb3.size
 clear s8 s9 s10 s11 s12 s13
 obtain ⟨-, -, -, -, -, -, -, -, -, -, -, -, -, -, -, -, s16, s17, s18, s19, s20, s21, -⟩ := (HKB.out w3 hc3).st
 go_wp2_with fail
 refine (HC2.out w3 hc3 (by omega)).mono ?_
 rintro en w4 ⟨rfl, hb4⟩
 have hz4 := hb4.size
 have hc4 : Below w1.heap.size w2 w4 := hc3.trans (hb4.mono (by omega))
 clear s16 s17 s18 s19 s20 s21
 have ko4 : Blk w4 w1.heap.size 34 ((stZ s.op s.tb).cells stPZ).toArray := (ko2.below hb3 hl23).below hb4 (by omega)
 have o_create : (s.op == [99, 114, 101, 97, 116, 101]) = false := by rw [HOP.out]; rfl
 have o_drop : (s.op == [100, 114, 111, 112]) = false := by rw [HOP.out]; rfl
 have o_insert : (s.op == [105, 110, 115, 101, 114, 116]) = false := by rw [HOP.out]; rfl
 have o_update : (s.op == [117, 112, 100, 97, 116, 101]) = false := by rw [HOP.out]; rfl
 have o_delete : (s.op == [100, 101, 108, 101, 116, 101]) = false := by rw [HOP.out]; rfl
 have o_select : (s.op == [115, 101, 108, 101, 99, 116]) = false := by rw [HOP.out]; rfl
 have o_copy : (s.op == [99, 111, 112, 121]) = true := by rw [HOP.out]; rfl
 obtain ⟨s0, -, -, -, -, -, -, -, -, -, -, -, -, -, -, -, -, -, -, -, -, -, -⟩ := (HKB.out w4 hc4).st
 have r2 : w4.cell? ⟨w1.heap.size, 2, none⟩ = some (.string ⟨#[]⟩) := ko4.cell 2
 have z2 := ko4.frozen 2
 have r3 : w4.cell? ⟨w1.heap.size, 3, none⟩ = some (.slice none 0 0) := ko4.cell 3
 have z3 := ko4.frozen 3
 have r8 : w4.cell? ⟨w1.heap.size, 8, none⟩ = some (.string ⟨#[]⟩) := ko4.cell 8
 have z8 := ko4.frozen 8
 have r9 : w4.cell? ⟨w1.heap.size, 9, none⟩ = some (.int .i64 0) := ko4.cell 9
 have z9 := ko4.frozen 9
 have r10 : w4.cell? ⟨w1.heap.size, 10, none⟩ = some (.int .i64 0) := ko4.cell 10
 have z10 := ko4.frozen 10
 have r11 : w4.cell? ⟨w1.heap.size, 11, none⟩ = some (.string ⟨#[]⟩) := ko4.cell 11
 have z11 := ko4.frozen 11
 have r12 : w4.cell? ⟨w1.heap.size, 12, none⟩ = some (.string ⟨#[]⟩) := ko4.cell 12
 have z12 := ko4.frozen 12
 have r13 : w4.cell? ⟨w1.heap.size, 13, none⟩ = some (.slice none 0 0) := ko4.cell 13
 have z13 := ko4.frozen 13
 have HS4 : Hid (∀ Y : World, Below w1.heap.size w4 Y → Y.cell? ⟨w.heap.size, 2, none⟩ = some (.string ⟨s.ot.toArray⟩) ∧ Y.cell? ⟨w.heap.size, 3, none⟩ = some (.slice p.names.a s.names.length p.names.c) ∧ (Y.cell? ⟨w.heap.size, 8, none⟩ = some (.string ⟨s.chk.op.toArray⟩) ∧ Y.cell? ⟨w.heap.size, 9, none⟩ = some (.int .i64 s.chk.v.k) ∧ Y.cell? ⟨w.heap.size, 10, none⟩ = some (.int .i64 s.chk.v.i) ∧ Y.cell? ⟨w.heap.size, 11, none⟩ = some (.string ⟨s.chk.v.s.toArray⟩) ∧ Y.cell? ⟨w.heap.size, 12, none⟩ = some (.string ⟨s.chk.s.toArray⟩) ∧ Y.cell? ⟨w.heap.size, 13, none⟩ = some (.slice p.chk.a s.chk.l.length p.chk.c))) := fun Y hY => by
  have kb := (HKB.out w4 hc4).below hY (by omega)
  exact ⟨kb.cell 2, kb.cell 3, ⟨kb.cell 8, kb.cell 9, kb.cell 10, kb.cell 11, kb.cell 12, kb.cell 13⟩⟩
 go_upto_region 42 with fail
 clear s0
 refine wp_region_held_drew (S := (fun Y => Y.cell? ⟨w.heap.size, 2, none⟩ = some (.string ⟨s.ot.toArray⟩) ∧ Y.cell? ⟨w.heap.size, 3, none⟩ = some (.slice p.names.a s.names.length p.names.c) ∧ (Y.cell? ⟨w.heap.size, 8, none⟩ = some (.string ⟨s.chk.op.toArray⟩) ∧ Y.cell? ⟨w.heap.size, 9, none⟩ = some (.int .i64 s.chk.v.k) ∧ Y.cell? ⟨w.heap.size, 10, none⟩ = some (.int .i64 s.chk.v.i) ∧ Y.cell? ⟨w.heap.size, 11, none⟩ = some (.string ⟨s.chk.v.s.toArray⟩) ∧ Y.cell? ⟨w.heap.size, 12, none⟩ = some (.string ⟨s.chk.s.toArray⟩) ∧ Y.cell? ⟨w.heap.size, 13, none⟩ = some (.slice p.chk.a s.chk.l.length p.chk.c)))) (by kernel_rfl) ?_ (fun hHeld => ?_)
 ·try dsimp only
  exact HS4.out _ (by exact bl)
 refine tS [0, 1, 2, 3, 4, 5, 6] ?_
 iterate 7 (refine tC ?_; refine ap ?_)
 refine tN ?_
 refine rdy 7 fun K hK => ?_
 go_simp
 skip
 go_wp2_with fail
 refine hK.out _ _ (HS4.out _ (by exact bl)) fun hHeld => ?_
 clear hK K
 refine ap ?_
 refine tS [8] (tC ?_)
 refine ap (tN ?_)
 refine rdy 9 fun K hK => ?_
 go_simp
 skip
 go_wp2_with fail
 refine hK.out _ _ (HS4.out _ (by exact bl)) fun hHeld => ?_
 clear hK K
 refine ap ?_
 refine tS [10] (tC ?_)
 refine ap (tN ?_)
 refine rdy 11 fun K hK => ?_
 go_simp
 skip
 go_wp2_with fail
 refine hK.out _ _ (HS4.out _ (by exact bl)) fun hHeld => ?_
 clear hK K
 refine ap ?_
 refine wpAnyH_done (by kernel_rfl) ?_ _
 obtain ⟨w5, hw5⟩ : ∃ w5, World.drew ((((((((w4.setCell ⟨w1.heap.size, 2, none⟩ (.string ⟨s.ot.toArray⟩)).setCell ⟨w1.heap.size, 3, none⟩ (.slice p.names.a s.names.length p.names.c)).setCell ⟨w1.heap.size, 8, none⟩ (.string ⟨s.chk.op.toArray⟩)).setCell ⟨w1.heap.size, 9, none⟩ (.int .i64 s.chk.v.k)).setCell ⟨w1.heap.size, 10, none⟩ (.int .i64 s.chk.v.i)).setCell ⟨w1.heap.size, 11, none⟩ (.string ⟨s.chk.v.s.toArray⟩)).setCell ⟨w1.heap.size, 12, none⟩ (.string ⟨s.chk.s.toArray⟩)).setCell ⟨w1.heap.size, 13, none⟩ (.slice p.chk.a s.chk.l.length p.chk.c)) = w5 := ⟨_, rfl⟩
 rw [hw5]
 have q0 := ko4
 have q1 := q0.set_ 2 (.string ⟨s.ot.toArray⟩)
 have q2 := q1.set_ 3 (.slice p.names.a s.names.length p.names.c)
 have q3 := own_set6 q2 8 s.chk p.chk.a p.chk.c rfl
 have hkv : Blk w5 w1.heap.size 34 ((ownS s).cells (ownP s p)).toArray := by
  rw [← hw5, HOWN.out.1, HOWN.out.2]
  exact Blk.drew (blk_eq q3 (by first | (simp only [St.cells, stZ, stPZ, slZ, List.setIfInBounds_toArray, List.set_cons_zero, List.set_cons_succ]; done) | (simp [St.cells, stZ, stPZ, slZ]; done)))
 clear q0 q1 q2 q3
 have hcv : Below w1.heap.size w2 w5 := by rw [← hw5]; exact (bwS (bwS (bwS (bwS (bwS (bwS (bwS (bwS (hc4) (Nat.le_refl _)) (Nat.le_refl _)) (Nat.le_refl _)) (Nat.le_refl _)) (Nat.le_refl _)) (Nat.le_refl _)) (Nat.le_refl _)) (Nat.le_refl _)).drew
 have hz5 := hcv.size
 have hsv : w1.heap.size < w5.heap.size := hkv.lt
 clear hw5 HS4 ko4 ko2 r2 z2 r3 z3 r8 z8 r9 z9 r10 z10 r11 z11 r12 z12 r13 z13
 clear o_create o_drop o_insert o_update o_delete o_select o_copy
 obtain ⟨-, -, -, s3, -, -, -, -, -, -, -, -, -, -, -, -, -, -, -, -, -, -, -⟩ := (HKB.out w5 hcv).st
 go_wp2_with fail
 refine (HNM.out w5 hcv (by omega)).mono ?_
 rintro en w6 ⟨rfl, hb6⟩
 have hkv := hkv.below hb6 hsv
 have hz6 := hb6.size
 have hcv : Below w1.heap.size w2 w6 := hcv.trans (hb6.mono (by omega))
 have hsv : w1.heap.size < w6.heap.size := hkv.lt
 clear s3 hb6
 have HSX : Hid (∀ Y : World, Below w6.heap.size w6 Y → (Y.cell? ⟨w.heap.size, 1, none⟩ = some (.string ⟨s.tb.toArray⟩) ∧ Y.cell? ⟨w.heap.size, 2, none⟩ = some (.string ⟨s.ot.toArray⟩)) ∧ Blk Y w.heap.size 34 (s.cells p).toArray ∧ (∃ old : Array Value, old.size = 23 ∧ Blk Y (w.heap.size + 1) 34 old) ∧ Blk Y w1.heap.size 34 ((ownS s).cells (ownP s p)).toArray) := fun Y hY => by
  have hzY := hY.size
  have hcY : Below w1.heap.size w2 Y := hcv.trans (hY.mono (by omega))
  have kb := HKB.out Y hcY
  exact ⟨⟨kb.cell 1, kb.cell 2⟩, kb, ⟨_, rfl, HKR.out Y hcY⟩, hkv.below hY (by omega)⟩
 have HSR : Hid (∀ Y : World, ((Y.cell? ⟨w.heap.size, 1, none⟩ = some (.string ⟨s.tb.toArray⟩) ∧ Y.cell? ⟨w.heap.size, 2, none⟩ = some (.string ⟨s.ot.toArray⟩)) ∧ Blk Y w.heap.size 34 (s.cells p).toArray ∧ (∃ old : Array Value, old.size = 23 ∧ Blk Y (w.heap.size + 1) 34 old) ∧ Blk Y w1.heap.size 34 ((ownS s).cells (ownP s p)).toArray) → ((Y.setRow (w.heap.size + 1) ((ownS s).cells (ownP s p)).toArray).cell? ⟨w.heap.size, 1, none⟩ = some (.string ⟨s.tb.toArray⟩) ∧ (Y.setRow (w.heap.size + 1) ((ownS s).cells (ownP s p)).toArray).cell? ⟨w.heap.size, 2, none⟩ = some (.string ⟨s.ot.toArray⟩)) ∧ Blk (Y.setRow (w.heap.size + 1) ((ownS s).cells (ownP s p)).toArray) w.heap.size 34 (s.cells p).toArray ∧ (∃ old : Array Value, old.size = 23 ∧ Blk (Y.setRow (w.heap.size + 1) ((ownS s).cells (ownP s p)).toArray) (w.heap.size + 1) 34 old) ∧ Blk (Y.setRow (w.heap.size + 1) ((ownS s).cells (ownP s p)).toArray) w1.heap.size 34 ((ownS s).cells (ownP s p)).toArray) := fun Y h => by
  obtain ⟨-, kb, ⟨old, ho, kr⟩, kk⟩ := h
  have kb2 := kb.rowFar (g := w.heap.size + 1) (by omega) ((ownS s).cells (ownP s p)).toArray
  exact ⟨⟨kb2.cell 1, kb2.cell 2⟩, kb2, ⟨_, rfl, kr.row _⟩, kk.rowFar (by omega) _⟩
 clear hkv
 go_upto_region 44 with fail
 cases NB with
 | false =>
  refine rgn HSX fun hHeld => ?_
  refine tS [0, 1, 2, 3, 4, 5, 6, 7, 8, 9, 10, 11, 12] ?_
  iterate 13 (refine tC ?_; refine ap ?_)
  refine tN ?_
  refine wpAnyH_take (i := 13) (v := .agg (((ownS s).cells (ownP s p)).toArray)) rfl (by kernel_rfl) (by kernel_rfl) (by kernel_rfl) (fun _ _ _ h => h) (yields_row (34) _ rfl (by rfl) (w1.heap.size) rfl (34) (((ownS s).cells (ownP s p)).toArray) _ (Tryz.underlying34) rfl (size_st) (fun wq hSw => hSw.2.2.2)) (by assumption) ?_
  refine ap ?_
  refine tS [14, 15] ?_
  iterate 2 (refine tC ?_; refine ap ?_)
  refine tN ?_
  refine tS [16] (tX ?_)
  refine ap (tN ?_)
  refine tS [17, 18] ?_
  iterate 2 (refine tC ?_; refine ap ?_)
  refine tN ?_
  refine tS [19, 20, 21] ?_
  iterate 3 (refine tX ?_; refine ap ?_)
  refine tN ?_
  refine tS [22, 23] ?_
  iterate 2 (refine tC ?_; refine ap ?_)
  refine tN ?_
  refine rdy 24 fun K hK => ?_
  refine step_store_row (by rfl) (34) _ _ rfl (w.heap.size + 1) (((ownS s).cells (ownP s p)).toArray) rfl rfl (34) (hHeld.2.2.1) (size_st) (one_own s p) ?_
  refine hK.out _ _ (HSR.out _ hHeld) (fun hHeld => ?_)
  clear hK K
  refine ap ?_
  refine tS [25] (tC ?_)
  refine ap (tN ?_)
  refine wpAnyH_done (by kernel_rfl) ?_ _
  have hbl : Below w1.heap.size w2 w6.drew := hcv.drew
  have hres : (loadVar 34 ⟨w.heap.size + 1, 0, none⟩).run Tryz.prog (w6.drew.setRow (w.heap.size + 1) ((ownS s).cells (ownP s p)).toArray) = .ok (.agg ((ownS s).cells (ownP s p)).toArray) (w6.drew.setRow (w.heap.size + 1) ((ownS s).cells (ownP s p)).toArray) := wr_res ((HKR.out _ hbl).row _)
  have hbw := bwRow (HBB.out _ hbl) (g := w.heap.size + 1) (by omega) ((ownS s).cells (ownP s p)).toArray
  go_wp2_with fail
  refine bodyPost_ret (v := .tuple #[.string ⟨([77, 73, 71, 82, 65, 84, 69, 32, 67, 79, 80, 89, 32] ++ s.tb ++ [32, 70, 82, 79, 77, 32] ++ s.ot ++ [32, 40, 32] ++ NT ++ [32, 41] ++ TC).toArray⟩, .agg ((ownS s).cells (ownP s p)).toArray, .bool false]) (by first | (simp [results, Tryz.results64, asAddr, hres]; done) | (simp [results, Tryz.results64, asAddr, hres, Sem.run_bind]; done)) rfl ?_
  exact ⟨_, _, rfl, by rw [HOK.out]; cases NO <;> rfl, (fun h => by cases h), hbw⟩
 | true =>
  cases PC with
  | false =>
   refine rgn HSX fun hHeld => ?_
   refine tS [0, 1, 2, 3, 4, 5, 6, 7, 8, 9, 10, 11, 12] ?_
   iterate 13 (refine tC ?_; refine ap ?_)
   refine tN ?_
   refine wpAnyH_take (i := 13) (v := .agg (((ownS s).cells (ownP s p)).toArray)) rfl (by kernel_rfl) (by kernel_rfl) (by kernel_rfl) (fun _ _ _ h => h) (yields_row (34) _ rfl (by rfl) (w1.heap.size) rfl (34) (((ownS s).cells (ownP s p)).toArray) _ (Tryz.underlying34) rfl (size_st) (fun wq hSw => hSw.2.2.2)) (by assumption) ?_
   refine ap ?_
   refine tS [14, 15, 16, 17, 18] ?_
   iterate 5 (refine tC ?_; refine ap ?_)
   refine tN ?_
   refine tS [19, 20, 21] ?_
   iterate 3 (refine tX ?_; refine ap ?_)
   refine tN ?_
   refine tS [22, 23] ?_
   iterate 2 (refine tC ?_; refine ap ?_)
   refine tN ?_
   refine rdy 24 fun K hK => ?_
   refine step_store_row (by rfl) (34) _ _ rfl (w.heap.size + 1) (((ownS s).cells (ownP s p)).toArray) rfl rfl (34) (hHeld.2.2.1) (size_st) (one_own s p) ?_
   refine hK.out _ _ (HSR.out _ hHeld) (fun hHeld => ?_)
   clear hK K
   refine ap ?_
   refine tS [25] (tC ?_)
   refine ap (tN ?_)
   refine wpAnyH_done (by kernel_rfl) ?_ _
   have hbl : Below w1.heap.size w2 w6.drew := hcv.drew
   have hres : (loadVar 34 ⟨w.heap.size + 1, 0, none⟩).run Tryz.prog (w6.drew.setRow (w.heap.size + 1) ((ownS s).cells (ownP s p)).toArray) = .ok (.agg ((ownS s).cells (ownP s p)).toArray) (w6.drew.setRow (w.heap.size + 1) ((ownS s).cells (ownP s p)).toArray) := wr_res ((HKR.out _ hbl).row _)
   have hbw := bwRow (HBB.out _ hbl) (g := w.heap.size + 1) (by omega) ((ownS s).cells (ownP s p)).toArray
   go_wp2_with fail
   refine bodyPost_ret (v := .tuple #[.string ⟨([77, 73, 71, 82, 65, 84, 69, 32, 67, 79, 80, 89, 32] ++ s.tb ++ [32, 70, 82, 79, 77, 32] ++ s.ot ++ [32, 40, 32] ++ NT ++ [32, 41] ++ TC).toArray⟩, .agg ((ownS s).cells (ownP s p)).toArray, .bool false]) (by first | (simp [results, Tryz.results64, asAddr, hres]; done) | (simp [results, Tryz.results64, asAddr, hres, Sem.run_bind]; done)) rfl ?_
   exact ⟨_, _, rfl, by rw [HOK.out]; cases NO <;> rfl, (fun h => by cases h), hbw⟩
  | true =>
   refine rgn HSX fun hHeld => ?_
   refine tS [0, 1, 2, 3, 4, 5, 6, 7, 8, 9, 10, 11, 12] ?_
   iterate 13 (refine tC ?_; refine ap ?_)
   refine tN ?_
   refine wpAnyH_take (i := 13) (v := .agg (((ownS s).cells (ownP s p)).toArray)) rfl (by kernel_rfl) (by kernel_rfl) (by kernel_rfl) (fun _ _ _ h => h) (yields_row (34) _ rfl (by rfl) (w1.heap.size) rfl (34) (((ownS s).cells (ownP s p)).toArray) _ (Tryz.underlying34) rfl (size_st) (fun wq hSw => hSw.2.2.2)) (by assumption) ?_
   refine ap ?_
   refine tS [14, 15, 16, 17, 18, 19, 20] ?_
   iterate 7 (refine tC ?_; refine ap ?_)
   refine tN ?_
   refine rdy 21 fun K hK => ?_
   go_simp
   (refine (HNO.out _).mono ?_) <;> rintro en w21 ⟨rfl, hb21⟩ <;> have hz21 := hb21.size <;> (try simp at hz21)
   go_wp2_with fail
   refine hK.out _ _ (HSX.out _ (by exact bl)) fun hHeld => ?_
   clear hK K
   refine ap ?_
   refine tS [22, 23] ?_
   iterate 2 (refine tC ?_; refine ap ?_)
   refine tN ?_
   refine rdy 24 fun K hK => ?_
   refine step_store_row (by rfl) (34) _ _ rfl (w.heap.size + 1) (((ownS s).cells (ownP s p)).toArray) rfl rfl (34) (hHeld.2.2.1) (size_st) (one_own s p) ?_
   refine hK.out _ _ (HSR.out _ hHeld) (fun hHeld => ?_)
   clear hK K
   refine ap ?_
   refine tS [25] (tC ?_)
   refine ap (tN ?_)
   refine wpAnyH_done (by kernel_rfl) ?_ _
   have hbl : Below w1.heap.size w2 w21 := hcv.trans (Below.mono (B := w6.heap.size) (by exact bl) (by omega))
   have hres : (loadVar 34 ⟨w.heap.size + 1, 0, none⟩).run Tryz.prog (w21.setRow (w.heap.size + 1) ((ownS s).cells (ownP s p)).toArray) = .ok (.agg ((ownS s).cells (ownP s p)).toArray) (w21.setRow (w.heap.size + 1) ((ownS s).cells (ownP s p)).toArray) := wr_res ((HKR.out _ hbl).row _)
   have hbw := bwRow (HBB.out _ hbl) (g := w.heap.size + 1) (by omega) ((ownS s).cells (ownP s p)).toArray
   go_wp2_with fail
   refine bodyPost_ret (v := .tuple #[.string ⟨([77, 73, 71, 82, 65, 84, 69, 32, 67, 79, 80, 89, 32] ++ s.tb ++ [32, 70, 82, 79, 77, 32] ++ s.ot ++ [32, 40, 32] ++ NT ++ [32, 41] ++ TC).toArray⟩, .agg ((ownS s).cells (ownP s p)).toArray, .bool NO]) (by first | (simp [results, Tryz.results64, asAddr, hres]; done) | (simp [results, Tryz.results64, asAddr, hres, Sem.run_bind]; done)) rfl ?_
   exact ⟨_, _, rfl, by rw [HOK.out]; cases NO <;> rfl, (fun _ => by first | exact HT.out rfl rfl | exact HT.out trivial trivial), hbw⟩
theorem St.Ok.lens {s : St} (h : s.Ok) (h1 : s.chk.l.length ≤ maxLen) (h2 : s.whr.l.length ≤ maxLen) (h3 : ∀ x ∈ s.sets, x.e.l.length ≤ maxLen) : s.lens := ⟨h.nN, h.nC, h.nU, h.nR, h.nW, h.nS, h1, h2, h3⟩
theorem own_lens {s : St} (h : s.lens) : (ownS s).lens := by
 obtain ⟨h1, h2, h3, h4, h5, h6, h7, h8, h9⟩ := h
 have z : ∀ x ∈ ([] : List Se), x.e.l.length ≤ maxLen := fun x hx => by cases hx
 unfold ownS
 repeat' split
 all_goals refine ⟨?_, ?_, ?_, ?_, ?_, ?_, ?_, ?_, ?_⟩
 all_goals first | assumption | exact Nat.zero_le _
theorem own_mem {m : Nat} {s : St} {p : StP} {Q : Nat → Prop} {w : World} (h : StM m s p Q w) : StM m (ownS s) (ownP s p) Q w := by
 obtain ⟨h1, h2, h3, h4, h5, h6, h7, h8⟩ := h
 have e0 : ∀ A, ExQ 1000 m w Q A ex0.l := fun A => by cases m <;> first | rfl | exact fun h => absurd h (by simp [ex0, Ex.l])
 have hs : ∀ (A : Option Addr) (l : List (List UInt8)), l = [] → SQ l A Q w := fun A l e => by subst e; exact SQ.nil
 unfold ownS ownP
 repeat' split
 all_goals refine ⟨?_, ?_, ?_, ?_, ?_, ?_, ?_, ?_⟩
 all_goals first | assumption | exact e0 _ | exact SQ.nil | exact XQ.nil | exact ZQ.nil | (refine fun h => absurd h ?_; simp [stZ]; done)
set_option maxRecDepth 100000 in
set_option maxHeartbeats 8000000 in
theorem rtext5_any (s : St) (p : StP) (w : World) (hok : s.Ok) (hlc : s.chk.l.length ≤ maxLen) (hlw : s.whr.l.length ≤ maxLen) (hls : ∀ x ∈ s.sets, x.e.l.length ≤ maxLen) (hQ : StQ 1000 s p (Old w.heap.size) w)
  (hWR : ∀ Y : World, Below w.heap.size w Y → w.heap.size ≤ Y.heap.size → Calls Tryz.prog 64 #[.agg (s.cells p).toArray] Y (RetWr s p Y)) :
  Calls Tryz.prog 42 #[.agg (s.cells p).toArray] w (Ret (.tuple #[.string ⟨(textR s).toArray⟩, .bool (mayS s)]) w) := by
 obtain ⟨kc, ks, kw, hM0⟩ := hQ.h
 have hM := hM0.ups (m := kc + ks + kw) (by omega) (by omega) (by omega)
 generalize kc + ks + kw = m at hM
 clear hM0
 refine stBox_in s p w fun w0 HW ks0 hb0 hz0 HST HB => ?_
 have hln := hok.lens hlc hlw hls
 have HKB : Hid (∀ Z : World, Below w0.heap.size w0 Z → Blk Z w.heap.size 34 (s.cells p).toArray) := fun Z hz => ks0.below hz ks0.lt
 have HMM : ∀ Z : World, Below w0.heap.size w0 Z → StM m s p (Old Z.heap.size) Z := fun Z hz => hM.keep (old_keep (hb0.trans (hz.mono hz0)) (Nat.le_trans hz0 hz.size))
 have HWR := Lib.hid (hWR w0 hb0 hz0)
 have HSM : Hid (∀ Z : World, Below w0.heap.size w0 Z → Calls Tryz.prog 28 #[.agg ((ownS s).cells (ownP s p)).toArray, .agg (s.cells p).toArray] Z (Ret (.bool (sameS m (ownS s) s)) Z)) := fun Z hz => rsameS_any m (ownS s) s (ownP s p) p Z (own_lens hln) hln (own_mem (HMM Z hz)) (HMM Z hz)
 have HNM : Hid (∀ Z : World, Calls Tryz.prog 47 #[.string ⟨s.tb.toArray⟩] Z (Ret (.bool (nameG s.tb)) Z)) := fun Z => rnameG_any s.tb Z (by have := hok.tb; omega)
 have HCT : Hid (partsS s = true → ∀ Z : World, Calls Tryz.prog 65 #[.string ⟨(textS s).toArray⟩] Z (RetTkB (cutT (textS s)) Z)) := fun hp Z => rcut_any (textS s) Z (by have := textS_len s hok hp; omega)
 have hP := parts_D m s
 obtain ⟨P, hPP⟩ : ∃ P, partsS s = P := ⟨_, rfl⟩
 obtain ⟨C, hC⟩ : ∃ C, cutT (textS s) = C := ⟨_, rfl⟩
 have hM2 : mayS s = (P && C.isSome) := by unfold mayS; rw [hPP, hC]
 have hR : textR s = if mayS s then textS s else [] := rfl
 obtain ⟨M, hM0⟩ : ∃ M, mayS s = M := ⟨_, rfl⟩
 obtain ⟨R, hR0⟩ : ∃ R, textR s = R := ⟨_, rfl⟩
 obtain ⟨TX, hT0⟩ : ∃ T, textS s = T := ⟨_, rfl⟩
 obtain ⟨NB, hNB⟩ : ∃ T, nameG s.tb = T := ⟨_, rfl⟩
 obtain ⟨SB, hSB⟩ : ∃ T, sameS m (ownS s) s = T := ⟨_, rfl⟩
 obtain ⟨KB, hKB⟩ : ∃ T, okD s = T := ⟨_, rfl⟩
 rw [hM0] at hM2 hR
 rw [hR0, hT0] at hR
 rw [hPP] at hP HCT
 rw [hKB, hNB, hSB] at hP
 rw [hT0] at HCT hC
 rw [hC] at HCT
 rw [hNB] at HNM
 rw [hSB] at HSM
 rw [hM0, hR0]
 have HP := Lib.hid hP
 have HM2 := Lib.hid hM2
 have HR := Lib.hid hR
 have HT0 := Lib.hid hT0
 have HKK := Lib.hid hKB
 have HKS := Lib.hid ks0
 have hc0 : Below w0.heap.size w0 w0 := Below.refl _ _
 have hl0 : w.heap.size < w0.heap.size := ks0.lt
 have hno : P = false → M = false ∧ R = [] := fun h => by
  have : M = false := by rw [hM2, h]; rfl
  exact ⟨this, by rw [hR, this]; rfl⟩
 have HNO := Lib.hid hno
 clear hQ hM hWR HMM hP hPP hC hM2 hR hM0 hR0 hT0 hNB hSB hKB ks0 hok hln hlc hlw hls hb0 hno
 go_enter Tryz.func42, Tryz.ntmps42
 go_upto_region 1 with fail
 rw [show w.alloc _ = w0 from HW.out]
 clear HW
 go_wp2_with (refine wpList_load_row rfl 34 _ rfl w.heap.size rfl 34 (s.cells p).toArray (0, 0) _ (HKB.out _ hc0) Tryz.underlying34 rfl size_st ?_)
 refine HWR.out.mono ?_
 rintro en w1 ⟨T, K, rfl, hK, hKT, hb1⟩
 have hK2 : K = KB := hK.trans HKK.out
 subst hK2
 have hz1 := hb1.size
 have HKT := Lib.hid hKT
 clear hK hKT HKK HWR
 obtain ⟨w2, hw2⟩ : ∃ w2, w1.alloc (.cells ((ownS s).cells (ownP s p)).toArray 34) = w2 := ⟨_, rfl⟩
 have ko2 : Blk w2 w1.heap.size 34 ((ownS s).cells (ownP s p)).toArray := by rw [← hw2]; exact Blk.new _ _ _
 have hb2 : Below w1.heap.size w1 w2 := by rw [← hw2]; exact bl
 have hc2 : Below w0.heap.size w0 w2 := hb1.trans (hb2.mono hz1)
 have hz2 := hb2.size
 have HW2 := Lib.hid hw2
 have HKO : Hid (∀ Z : World, Below w2.heap.size w2 Z → Blk Z w1.heap.size 34 ((ownS s).cells (ownP s p)).toArray) := fun Z hz => ko2.below hz ko2.lt
 clear hw2 ko2
 go_upto_region 2 with (refine wpList_store_row rfl 34 _ _ rfl w1.heap.size ((ownS s).cells (ownP s p)).toArray rfl rfl 34 _ (heap_alloc_last _ _) size_st rfl (one_own s p) ?_)
 rw [show World.setRow _ _ _ = w2 from (World.setRow_alloc_new _ _ _ _).trans HW2.out]
 clear HW2
 cases K with
 | false =>
  have hp : P = false := by rw [HP.out]; rfl
  obtain ⟨rfl, rfl⟩ := HNO.out hp
  have hbf := HB.out.trans (hc2.mono hz0)
  go_wp2_with fail
  refine bodyPost_ret (v := .tuple #[.string ⟨#[]⟩, .bool false]) (by simp [results, Tryz.results42, go_sem, *]) rfl ?_
  exact ⟨rfl, hbf⟩
 | true =>
  have hT : T = TX := (HKT.out rfl).trans HT0.out
  subst hT
  obtain ⟨-, s1, -⟩ := (HKB.out w2 hc2).st
  cases NB with
  | false =>
   have hp : P = false := by rw [HP.out]; rfl
   obtain ⟨rfl, rfl⟩ := HNO.out hp
   go_wp2_with fail
   refine (HNM.out _).mono ?_
   rintro en w3 ⟨rfl, hb3⟩
   have hbf := HB.out.trans ((hc2.trans (hb3.mono (by omega))).mono hz0)
   go_wp2_with fail
   refine bodyPost_ret (v := .tuple #[.string ⟨#[]⟩, .bool false]) (by simp [results, Tryz.results42, go_sem, *]) rfl ?_
   exact ⟨rfl, hbf⟩
  | true =>
   go_wp2_with fail
   refine (HNM.out _).mono ?_
   rintro en w3 ⟨rfl, hb3⟩
   have hz3 := hb3.size
   have hc3 : Below w0.heap.size w0 w3 := hc2.trans (hb3.mono (by omega))
   clear s1
   have HS3 := Lib.hid (HSM.out w3 hc3)
   go_wp2_with (first | refine wpList_load_rowG (by rfl) 34 _ rfl w1.heap.size rfl 34 ((ownS s).cells (ownP s p)).toArray (0, 0) _ (HKO.out _ hb3) Tryz.underlying34 rfl size_st ?_ | refine wpList_load_rowG (by rfl) 34 _ rfl w.heap.size rfl 34 (s.cells p).toArray (0, 0) _ (HKB.out _ hc3) Tryz.underlying34 rfl size_st ?_)
   refine HS3.out.mono ?_
   rintro en w4 ⟨rfl, hb4⟩
   have hz4 := hb4.size
   have hc4 : Below w0.heap.size w0 w4 := hc3.trans (hb4.mono (by omega))
   cases SB with
   | false =>
    have hp : P = false := by rw [HP.out]; rfl
    obtain ⟨rfl, rfl⟩ := HNO.out hp
    have hbf := HB.out.trans (hc4.mono hz0)
    go_wp2_with fail
    refine bodyPost_ret (v := .tuple #[.string ⟨#[]⟩, .bool false]) (by simp [results, Tryz.results42, go_sem, *]) rfl ?_
    exact ⟨rfl, hbf⟩
   | true =>
    have hp : P = true := by rw [HP.out]; rfl
    subst hp
    have HC4 := Lib.hid (HCT.out rfl w4)
    go_wp2_with fail
    refine HC4.out.mono ?_
    cases C with
    | none =>
     have hm : M = false := HM2.out
     subst hm
     have hr : R = [] := HR.out
     subst hr
     rintro en w5 ⟨A5, c5, l5, b5, rfl, -, -, -, hb5, hb, -⟩
     obtain rfl : b5 = false := hb
     have hbf := HB.out.trans ((hc4.trans (hb5.mono (by omega))).mono hz0)
     go_wp2_with fail
     refine bodyPost_ret (v := .tuple #[.string ⟨#[]⟩, .bool false]) (by simp [results, Tryz.results42, go_sem, *]) rfl ?_
     exact ⟨rfl, hbf⟩
    | some l =>
     have hm : M = true := HM2.out
     subst hm
     have hr : R = T := HR.out
     subst hr
     rintro en w5 ⟨A5, c5, l5, b5, rfl, -, -, -, hb5, hb, -⟩
     obtain rfl : b5 = true := hb
     have hbf := HB.out.trans ((hc4.trans (hb5.mono (by omega))).mono hz0)
     go_wp2_with fail
     refine bodyPost_ret (v := .tuple #[.string ⟨R.toArray⟩, .bool true]) (by simp [results, Tryz.results42, go_sem, *]) rfl ?_
     exact ⟨rfl, hbf⟩
end Go.Proofs.YtchilcchogcibaaGreatDoor
