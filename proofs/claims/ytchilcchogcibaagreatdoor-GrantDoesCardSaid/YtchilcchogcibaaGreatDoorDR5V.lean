/- The document's text of a statement, by its Op: JOIN and GROUP, and whatever Op. Condition: a statement whose texts and lists are no longer than a thousand, of no more than twenty names, columns, uniques, references and sets.. -/
import Derived.Test.YtchilcchogcibaaGreatDoorDR5W
set_option maxRecDepth 100000
set_option maxHeartbeats 16000000
namespace Go.Proofs.YtchilcchogcibaaGreatDoor
open Go.RowKit
attribute [local go_sem] ByteArray.extract_mk ba_get ba_append
attribute [local go_sem ↓] Go.wp_at_zero Go.wp_at_succ
theorem wr_b (s : St) (p : StP) (w : World) (hok : s.Ok) (hlc : s.chk.l.length ≤ maxLen) (hlw : s.whr.l.length ≤ maxLen) (hsm : s.small) (hQ : StQ 1000 s p (Old w.heap.size) w) (O : List UInt8) (hop : s.op = O) (hcs : O = oJoin ∨ O = oGroup) : Calls Tryz.prog 64 #[.agg (s.cells p).toArray] w (RetWr s p w) := by
 have HCS := Lib.hid hcs
 clear hcs
 obtain ⟨kc, ks, kw, hM⟩ := hQ.h
 refine stBox_in s p w fun w0 HW ks0 hb0 hz0 HST HB => ?_
 obtain ⟨w1, hw1⟩ : ∃ w1, w0.alloc (.cells #[.string ⟨#[]⟩, .string ⟨#[]⟩, .string ⟨#[]⟩, .slice none 0 0, .slice none 0 0, .string ⟨#[]⟩, .slice none 0 0, .slice none 0 0, .string ⟨#[]⟩, .int .i64 0, .int .i64 0, .string ⟨#[]⟩, .string ⟨#[]⟩, .slice none 0 0, .slice none 0 0, .slice none 0 0, .string ⟨#[]⟩, .int .i64 0, .int .i64 0, .string ⟨#[]⟩, .string ⟨#[]⟩, .slice none 0 0, .string ⟨#[]⟩] 34) = w1 := ⟨_, rfl⟩
 obtain ⟨w2, hw2⟩ : ∃ w2, w1.alloc (.cells ((stZ s.op s.tb).cells stPZ).toArray 34) = w2 := ⟨_, rfl⟩
 have hs0 : w0.heap.size = w.heap.size + 1 := by rw [← HW.out]; simp
 have kr1 : Blk w1 (w.heap.size + 1) 34 ((stZ [] []).cells stPZ).toArray := by rw [← hs0, ← hw1]; exact Blk.new _ _ _
 have kr2 : Blk w2 (w.heap.size + 1) 34 ((stZ [] []).cells stPZ).toArray := by rw [← hw2]; exact kr1.alloc _
 have ko2 : Blk w2 w1.heap.size 34 ((stZ s.op s.tb).cells stPZ).toArray := by rw [← hw2]; exact Blk.new _ _ _
 have hl01 : w.heap.size < w0.heap.size := ks0.lt
 have hl12 : w.heap.size + 1 < w1.heap.size := kr1.lt
 have hl23 : w1.heap.size < w2.heap.size := ko2.lt
 have hb02 : Below w0.heap.size w0 w2 := by rw [← hw2, ← hw1]; exact bl
 have hb2 : Below w.heap.size w w2 := hb0.trans (hb02.mono hz0)
 have hz2 := hb2.size
 have hs1 : w1.heap.size = w.heap.size + 1 + 1 := by rw [← hw1, ← hs0]; simp
 have HKB : Hid (∀ Z : World, Below w1.heap.size w2 Z → Blk Z w.heap.size 34 (s.cells p).toArray) := fun Z hz => (ks0.below hb02 ks0.lt).below hz (by omega)
 have HKR : Hid (∀ Z : World, Below w1.heap.size w2 Z → Blk Z (w.heap.size + 1) 34 ((stZ [] []).cells stPZ).toArray) := fun Z hz => kr2.below hz hl12
 have HM : Hid (∀ Y : World, Below w1.heap.size w2 Y → StH s p kc ks kw (Old w.heap.size) Y) := fun Y hY => hM.keep fun b hb => by
  have hb' : b < w.heap.size := hb
  exact ⟨hb', fun o => (hY.cell (p := ⟨b, o, none⟩) (show b < w1.heap.size by omega)).trans (hb2.cell (p := ⟨b, o, none⟩) hb')⟩
 have HBB : Hid (∀ Z : World, Below w1.heap.size w2 Z → Below w.heap.size w Z) := fun Z hz => hb2.trans (hz.mono (by omega))
 obtain ⟨PC, hPC⟩ : ∃ B, perhapsE s.chk = B := ⟨_, rfl⟩
 obtain ⟨PW, hPW⟩ : ∃ B, perhapsE s.whr = B := ⟨_, rfl⟩
 obtain ⟨TC, hTC⟩ : ∃ B, condT s.chk [] = B := ⟨_, rfl⟩
 obtain ⟨TW, hTW⟩ : ∃ B, condT s.whr wWhere = B := ⟨_, rfl⟩
 have HC1 : Hid (∀ Y : World, Below w1.heap.size w2 Y → w.heap.size ≤ Y.heap.size → Calls Tryz.prog 108 #[.agg #[.string ⟨s.chk.op.toArray⟩, .int .i64 s.chk.v.k, .int .i64 s.chk.v.i, .string ⟨s.chk.v.s.toArray⟩, .string ⟨s.chk.s.toArray⟩, .slice p.chk.a s.chk.l.length p.chk.c], .string ⟨#[]⟩] Y (Ret (.tuple #[.string ⟨TC.toArray⟩, .bool PC]) Y)) := fun Y hY hz => by
  rw [← hTC, ← hPC]
  exact rcond_any s.chk [] p.chk.a p.chk.c kc Y hok.chk hok.num.1 (exq_s (HM.out Y hY).2.2.2.2.1 hz) hlc (by decide)
 have HC2 : Hid (∀ Y : World, Below w1.heap.size w2 Y → w.heap.size ≤ Y.heap.size → Calls Tryz.prog 108 #[.agg #[.string ⟨s.whr.op.toArray⟩, .int .i64 s.whr.v.k, .int .i64 s.whr.v.i, .string ⟨s.whr.v.s.toArray⟩, .string ⟨s.whr.s.toArray⟩, .slice p.whr.a s.whr.l.length p.whr.c], .string ⟨#[87, 72, 69, 82, 69]⟩] Y (Ret (.tuple #[.string ⟨TW.toArray⟩, .bool PW]) Y)) := fun Y hY hz => by
  rw [← hTW, ← hPW]
  exact rcond_any s.whr wWhere p.whr.a p.whr.c kw Y hok.whr hok.num.2.1 (exq_s (HM.out Y hY).2.2.2.2.2.2.2 hz) hlw (by decide)
 have hlTC : TC.length ≤ 8000 := by rw [← hTC]; exact condT_le (by decide) hok.num.1
 have hlTW : TW.length ≤ 8000 := by rw [← hTW]; exact condT_le (by decide) hok.num.2.1
 have htb := hok.tb
 have hot := hok.ot
 have hkey := hok.key
 have hrole := hok.role
 have HS1 := Lib.hid hs1
 have HKS := Lib.hid ks0
 have HW1 := Lib.hid hw1
 have HW2 := Lib.hid hw2
 have HOP := Lib.hid hop
 have HPC := Lib.hid hPC
 have HPW := Lib.hid hPW
 have HTC := Lib.hid hTC
 have HTW := Lib.hid hTW
 have HCR : Hid (∀ Y : World, Below w1.heap.size w2 Y → w.heap.size ≤ Y.heap.size → Calls Tryz.prog 109 #[.agg (s.cells p).toArray] Y (RetCr Y)) := fun Y hY hz => rcreate_any s p Y hok hlc (hQ.keep (old_keep (HBB.out Y hY) hz)) ⟨hsm.c, hsm.u, hsm.r⟩
 have HN : Hid (∀ (t : List UInt8) (Y : World), t.length ≤ 1000 → Calls Tryz.prog 47 #[.string ⟨t.toArray⟩] Y (Ret (.bool (nameG t)) Y)) := fun t Y h => rnameG_any t Y (by omega)
 have HOKK := Lib.hid hok
 have HSM := Lib.hid hsm
 have h20 := hsm.s
 clear hQ hM hb0 ks0 hw1 hw2 kr1 kr2 hPC hPW hTC hTW hs0 hs1 hop hz0 hl01 hb02
 have s0 : w1.cell? ⟨w.heap.size, 0, none⟩ = some (.string ⟨s.op.toArray⟩) := by rw [← HW1.out]; exact (HKS.out.alloc _).cell 0
 have s1 : w1.cell? ⟨w.heap.size, 1, none⟩ = some (.string ⟨s.tb.toArray⟩) := by rw [← HW1.out]; exact (HKS.out.alloc _).cell 1
 go_in
 go_upto_region 1 with fail
 rw [show World.alloc (World.alloc w _) _ = w1 from (congrArg (fun z => World.alloc z _) HW.out).trans HW1.out]
 go_upto_region 2 with (refine wpList_store_row rfl 34 _ _ rfl w1.heap.size ((stZ s.op s.tb).cells stPZ).toArray rfl rfl 34 _ (heap_alloc_last _ _) size_st rfl (one_st _ _) ?_)
 rw [show World.setRow _ _ _ = w2 from (World.setRow_alloc_new _ _ _ _).trans HW2.out]
 clear s0 s1 HW HW1 HW2 HKS
 have hc2 : Below w1.heap.size w2 w2 := Below.refl _ _
 obtain ⟨-, -, -, -, -, -, -, -, s8, s9, s10, s11, s12, s13, -, -, -, -, -, -, -, -, -⟩ := (HKB.out w2 hc2).st
 go_wp2_with fail
 refine (HC1.out w2 hc2 hz2).mono ?_
 rintro en w3 ⟨rfl, hb3⟩
 have hc3 : Below w1.heap.size w2 w3 := hb3.mono (Nat.le_of_lt hl23)
 have hz3 := hb3.size
 clear s8 s9 s10 s11 s12 s13
 obtain ⟨-, -, -, -, -, -, -, -, -, -, -, -, -, -, -, -, s16, s17, s18, s19, s20, s21, -⟩ := (HKB.out w3 hc3).st
 go_wp2_with fail
 refine (HC2.out w3 hc3 (by omega)).mono ?_
 rintro en w4 ⟨rfl, hb4⟩
 have hz4 := hb4.size
 have hc4 : Below w1.heap.size w2 w4 := hc3.trans (hb4.mono (by omega))
 clear s16 s17 s18 s19 s20 s21
 have ko4 : Blk w4 w1.heap.size 34 ((stZ s.op s.tb).cells stPZ).toArray := (ko2.below hb3 hl23).below hb4 (by omega)
 clear hok hlc hlw hsm HST
 have HEND : Hid (∀ Z : World, Below w1.heap.size w2 Z → (loadVar 34 ⟨w.heap.size + 1, 0, none⟩).run Tryz.prog (Z.setRow (w.heap.size + 1) ((ownS s).cells (ownP s p)).toArray) = .ok (.agg ((ownS s).cells (ownP s p)).toArray) (Z.setRow (w.heap.size + 1) ((ownS s).cells (ownP s p)).toArray) ∧ Below w.heap.size w (Z.setRow (w.heap.size + 1) ((ownS s).cells (ownP s p)).toArray)) := fun Z hZ => ⟨wr_res ((HKR.out Z hZ).row _), bwRow (HBB.out Z hZ) (by omega) _⟩
 have hls : w.heap.size + 1 < w1.heap.size := hl12
 have s0 : w4.cell? ⟨w.heap.size, 0, none⟩ = some (.string ⟨s.op.toArray⟩) := (HKB.out w4 hc4).cell 0
 rw [HOP.out] at s0
 rcases HCS.out with hop | hop
 ·skip
  have HOWN : Hid (ownS s = ⟨s.op, s.tb, s.ot, [], [], s.key, [], [], s.chk, [], [], ex0, s.role⟩ ∧ ownP s p = ⟨slZ, slZ, slZ, slZ, p.chk, slZ, slZ, slZ⟩) := by show _ ∧ _; unfold ownS ownP; rw [HOP.out, hop]; exact ⟨rfl, rfl⟩
  have HNS : Hid (¬ strongO s.op) := by show ¬ _; unfold strongO rightO; rw [HOP.out, hop]; decide
  rw [hop] at s0
  simp only [oJoin] at s0
  have HO := Lib.hid hop
  clear hop
  obtain ⟨NO, hNO⟩ : ∃ N, nameG s.ot = N := ⟨_, rfl⟩
  have HNO : Hid (∀ Y : World, Calls Tryz.prog 47 #[.string ⟨s.ot.toArray⟩] Y (Ret (.bool NO) Y)) := fun Y => by rw [← hNO]; exact HN.out s.ot Y hot
  obtain ⟨NR, hNR⟩ : ∃ N, nameG s.role = N := ⟨_, rfl⟩
  have HNR : Hid (∀ Y : World, Calls Tryz.prog 47 #[.string ⟨s.role.toArray⟩] Y (Ret (.bool NR) Y)) := fun Y => by rw [← hNR]; exact HN.out s.role Y hrole
  obtain ⟨NY, hNY⟩ : ∃ N, nameG s.key = N := ⟨_, rfl⟩
  have HNY : Hid (∀ Y : World, Calls Tryz.prog 47 #[.string ⟨s.key.toArray⟩] Y (Ret (.bool NY) Y)) := fun Y => by rw [← hNY]; exact HN.out s.key Y hkey
  clear hNO hNR hNY
  go_upto_region 46 with fail
  go_cut [] from 900 to 0 (fun wx => Blk wx w1.heap.size 34 ((ownS s).cells (ownP s p)).toArray ∧ Below w1.heap.size w2 wx)
  case first =>
   clear s0
   obtain ⟨-, -, r2, -, -, r5, -, -, r8, r9, r10, r11, r12, r13, -, -, -, -, -, -, -, -, r22⟩ := ko4.st
   obtain ⟨-, -, z2, -, -, z5, -, -, z8, z9, z10, z11, z12, z13, -, -, -, -, -, -, -, -, z22⟩ := ko4.stF
   have HSQ : Hid (∀ Y : World, Below w1.heap.size w4 Y → Y.cell? ⟨w.heap.size, 2, none⟩ = some (.string ⟨s.ot.toArray⟩) ∧ Y.cell? ⟨w.heap.size, 5, none⟩ = some (.string ⟨s.key.toArray⟩) ∧ Y.cell? ⟨w.heap.size, 22, none⟩ = some (.string ⟨s.role.toArray⟩) ∧ (Y.cell? ⟨w.heap.size, 8, none⟩ = some (.string ⟨s.chk.op.toArray⟩) ∧ Y.cell? ⟨w.heap.size, 9, none⟩ = some (.int .i64 s.chk.v.k) ∧ Y.cell? ⟨w.heap.size, 10, none⟩ = some (.int .i64 s.chk.v.i) ∧ Y.cell? ⟨w.heap.size, 11, none⟩ = some (.string ⟨s.chk.v.s.toArray⟩) ∧ Y.cell? ⟨w.heap.size, 12, none⟩ = some (.string ⟨s.chk.s.toArray⟩) ∧ Y.cell? ⟨w.heap.size, 13, none⟩ = some (.slice p.chk.a s.chk.l.length p.chk.c))) := fun Y hY => by
    have kb := (HKB.out w4 hc4).below hY (by omega)
    exact ⟨kb.cell 2, kb.cell 5, kb.cell 22, ⟨kb.cell 8, kb.cell 9, kb.cell 10, kb.cell 11, kb.cell 12, kb.cell 13⟩⟩
   refine rgnB HSQ fun hHeld => ?_
   refine tS [0, 1, 2, 3, 4, 5, 6, 7, 8] ?_
   iterate 9 (refine tC ?_; refine ap ?_)
   refine tN ?_
   refine rdy 9 fun K hK => ?_
   go_simp
   skip
   go_wp2_with fail
   refine hK.out _ _ (HSQ.out _ (by exact bl)) fun hHeld => ?_
   clear hK K
   refine ap ?_
   refine tS [10] (tC ?_)
   refine ap (tN ?_)
   refine rdy 11 fun K hK => ?_
   go_simp
   skip
   go_wp2_with fail
   refine hK.out _ _ (HSQ.out _ (by exact bl)) fun hHeld => ?_
   clear hK K
   refine ap ?_
   refine tS [12] (tC ?_)
   refine ap (tN ?_)
   refine rdy 13 fun K hK => ?_
   go_simp
   skip
   go_wp2_with fail
   refine hK.out _ _ (HSQ.out _ (by exact bl)) fun hHeld => ?_
   clear hK K
   refine ap ?_
   refine tS [14] (tC ?_)
   refine ap (tN ?_)
   refine rdy 15 fun K hK => ?_
   go_simp
   skip
   go_wp2_with fail
   refine hK.out _ _ (HSQ.out _ (by exact bl)) fun hHeld => ?_
   clear hK K
   refine ap ?_
   refine wpAnyH_done (by kernel_rfl) ?_ _
   go_wp2_with fail
   go_meet
   exact ⟨Blk.drew (by rw [HOWN.out.1, HOWN.out.2]; exact blk_eq (own_set6 (((ko4.set_ 2 (.string ⟨s.ot.toArray⟩)).set_ 5 (.string ⟨s.key.toArray⟩)).set_ 22 (.string ⟨s.role.toArray⟩)) 8 s.chk p.chk.a p.chk.c rfl) (by first | (simp only [St.cells, stZ, stPZ, slZ, List.setIfInBounds_toArray, List.set_cons_zero, List.set_cons_succ]; done) | (simp [St.cells, stZ, stPZ, slZ]; done))), by exact bl⟩
  obtain ⟨hkv, hcv⟩ := hcut
  have hsv := hkv.lt
  have hzv := hcv.size
  clear s0 ko4 ko2
  obtain ⟨HSX, HSR⟩ := mkS s p (g := w.heap.size) (fun Y => Y.cell? ⟨w.heap.size, 1, none⟩ = some (.string ⟨s.tb.toArray⟩) ∧ Y.cell? ⟨w.heap.size, 2, none⟩ = some (.string ⟨s.ot.toArray⟩) ∧ Y.cell? ⟨w.heap.size, 5, none⟩ = some (.string ⟨s.key.toArray⟩) ∧ Y.cell? ⟨w.heap.size, 22, none⟩ = some (.string ⟨s.role.toArray⟩)) (fun Y hY => by have kb := HKB.out Y hY; exact ⟨kb.cell 1, kb.cell 2, kb.cell 5, kb.cell 22⟩) (fun Y _ kb => ⟨kb.cell 1, kb.cell 2, kb.cell 5, kb.cell 22⟩) HKB HKR hcv hkv hls (by omega)
  clear hkv
  go_upto_region 47 with fail
  cases PC with
  | false =>
   refine rgn HSX fun hHeld => ?_
   refine tS [0, 1, 2, 3, 4, 5, 6, 7, 8, 9, 10, 11, 12, 13, 14, 15, 16] ?_
   iterate 17 (refine tC ?_; refine ap ?_)
   refine tN ?_
   refine tkOwn s p 17 rfl rfl (fun _ h => h.2.2.2) (ap ?_)
   refine tS [18, 19] ?_
   iterate 2 (refine tC ?_; refine ap ?_)
   refine tN ?_
   refine tS [20, 21, 22] ?_
   iterate 3 (refine tX ?_; refine ap ?_)
   refine tN ?_
   refine tS [23, 24] ?_
   iterate 2 (refine tC ?_; refine ap ?_)
   refine tN ?_
   refine tS [25, 26, 27] ?_
   iterate 3 (refine tX ?_; refine ap ?_)
   refine tN ?_
   refine tS [28, 29] ?_
   iterate 2 (refine tC ?_; refine ap ?_)
   refine tN ?_
   refine tS [30, 31, 32] ?_
   iterate 3 (refine tX ?_; refine ap ?_)
   refine tN ?_
   refine tS [33, 34] ?_
   iterate 2 (refine tC ?_; refine ap ?_)
   refine tN ?_
   refine stOwn s p 35 rfl rfl (fun h => h.2.2.1) (HSR.out _) fun hHeld => ap ?_
   refine tS [36] (tC ?_)
   refine ap (tN ?_)
   refine wpAnyH_done (by kernel_rfl) ?_ _
   obtain ⟨hres, hbw⟩ := HEND.out _ (hcv.drew)
   go_wp2_with fail
   exact bodyPost_ret (v := OWV s p ([77, 73, 71, 82, 65, 84, 69, 32, 74, 79, 73, 78, 32] ++ s.tb ++ [32, 70, 82, 79, 77, 32] ++ s.ot ++ [32, 44, 32] ++ s.role ++ [32, 79, 78, 32] ++ s.key ++ TC) false) (by simp [OWV, results, Tryz.results64, asAddr, hres]) rfl ⟨_, _, rfl, by simp <;> omega, fun h => absurd h HNS.out, hbw⟩
  | true =>
   cases NO with
   | false =>
    refine rgn HSX fun hHeld => ?_
    refine tS [0, 1, 2, 3, 4, 5, 6, 7, 8, 9, 10, 11, 12, 13, 14, 15, 16] ?_
    iterate 17 (refine tC ?_; refine ap ?_)
    refine tN ?_
    refine tkOwn s p 17 rfl rfl (fun _ h => h.2.2.2) (ap ?_)
    refine tS [18, 19, 20, 21] ?_
    iterate 4 (refine tC ?_; refine ap ?_)
    refine tN ?_
    refine rdy 22 fun K hK => ?_
    go_simp
    (refine (HNO.out _).mono ?_) <;> rintro en w22 ⟨rfl, hb22⟩ <;> have hz22 := hb22.size <;> (try simp at hz22)
    go_wp2_with fail
    refine hK.out _ _ (HSX.out _ (by exact bl)) fun hHeld => ?_
    clear hK K
    refine ap ?_
    refine tS [23, 24] ?_
    iterate 2 (refine tC ?_; refine ap ?_)
    refine tN ?_
    refine tS [25, 26, 27] ?_
    iterate 3 (refine tX ?_; refine ap ?_)
    refine tN ?_
    refine tS [28, 29] ?_
    iterate 2 (refine tC ?_; refine ap ?_)
    refine tN ?_
    refine tS [30, 31, 32] ?_
    iterate 3 (refine tX ?_; refine ap ?_)
    refine tN ?_
    refine tS [33, 34] ?_
    iterate 2 (refine tC ?_; refine ap ?_)
    refine tN ?_
    refine stOwn s p 35 rfl rfl (fun h => h.2.2.1) (HSR.out _) fun hHeld => ap ?_
    refine tS [36] (tC ?_)
    refine ap (tN ?_)
    refine wpAnyH_done (by kernel_rfl) ?_ _
    obtain ⟨hres, hbw⟩ := HEND.out w22 (hcv.trans (Below.mono (B := wc.heap.size) (by exact bl) (by omega)))
    go_wp2_with fail
    exact bodyPost_ret (v := OWV s p ([77, 73, 71, 82, 65, 84, 69, 32, 74, 79, 73, 78, 32] ++ s.tb ++ [32, 70, 82, 79, 77, 32] ++ s.ot ++ [32, 44, 32] ++ s.role ++ [32, 79, 78, 32] ++ s.key ++ TC) false) (by simp [OWV, results, Tryz.results64, asAddr, hres]) rfl ⟨_, _, rfl, by simp <;> omega, fun h => absurd h HNS.out, hbw⟩
   | true =>
    cases NR with
    | false =>
     refine rgn HSX fun hHeld => ?_
     refine tS [0, 1, 2, 3, 4, 5, 6, 7, 8, 9, 10, 11, 12, 13, 14, 15, 16] ?_
     iterate 17 (refine tC ?_; refine ap ?_)
     refine tN ?_
     refine tkOwn s p 17 rfl rfl (fun _ h => h.2.2.2) (ap ?_)
     refine tS [18, 19, 20, 21] ?_
     iterate 4 (refine tC ?_; refine ap ?_)
     refine tN ?_
     refine rdy 22 fun K hK => ?_
     go_simp
     (refine (HNO.out _).mono ?_) <;> rintro en w22 ⟨rfl, hb22⟩ <;> have hz22 := hb22.size <;> (try simp at hz22)
     go_wp2_with fail
     refine hK.out _ _ (HSX.out _ (by exact bl)) fun hHeld => ?_
     clear hK K
     refine ap ?_
     refine tS [23, 24, 25, 26] ?_
     iterate 4 (refine tC ?_; refine ap ?_)
     refine tN ?_
     refine rdy 27 fun K hK => ?_
     go_simp
     (refine (HNR.out _).mono ?_) <;> rintro en w27 ⟨rfl, hb27⟩ <;> have hz27 := hb27.size <;> (try simp at hz27)
     go_wp2_with fail
     refine hK.out _ _ (HSX.out _ (by exact bl)) fun hHeld => ?_
     clear hK K
     refine ap ?_
     refine tS [28, 29] ?_
     iterate 2 (refine tC ?_; refine ap ?_)
     refine tN ?_
     refine tS [30, 31, 32] ?_
     iterate 3 (refine tX ?_; refine ap ?_)
     refine tN ?_
     refine tS [33, 34] ?_
     iterate 2 (refine tC ?_; refine ap ?_)
     refine tN ?_
     refine stOwn s p 35 rfl rfl (fun h => h.2.2.1) (HSR.out _) fun hHeld => ap ?_
     refine tS [36] (tC ?_)
     refine ap (tN ?_)
     refine wpAnyH_done (by kernel_rfl) ?_ _
     obtain ⟨hres, hbw⟩ := HEND.out w27 (hcv.trans (Below.mono (B := wc.heap.size) (by exact bl) (by omega)))
     go_wp2_with fail
     exact bodyPost_ret (v := OWV s p ([77, 73, 71, 82, 65, 84, 69, 32, 74, 79, 73, 78, 32] ++ s.tb ++ [32, 70, 82, 79, 77, 32] ++ s.ot ++ [32, 44, 32] ++ s.role ++ [32, 79, 78, 32] ++ s.key ++ TC) false) (by simp [OWV, results, Tryz.results64, asAddr, hres]) rfl ⟨_, _, rfl, by simp <;> omega, fun h => absurd h HNS.out, hbw⟩
    | true =>
     refine rgn HSX fun hHeld => ?_
     refine tS [0, 1, 2, 3, 4, 5, 6, 7, 8, 9, 10, 11, 12, 13, 14, 15, 16] ?_
     iterate 17 (refine tC ?_; refine ap ?_)
     refine tN ?_
     refine tkOwn s p 17 rfl rfl (fun _ h => h.2.2.2) (ap ?_)
     refine tS [18, 19, 20, 21] ?_
     iterate 4 (refine tC ?_; refine ap ?_)
     refine tN ?_
     refine rdy 22 fun K hK => ?_
     go_simp
     (refine (HNO.out _).mono ?_) <;> rintro en w22 ⟨rfl, hb22⟩ <;> have hz22 := hb22.size <;> (try simp at hz22)
     go_wp2_with fail
     refine hK.out _ _ (HSX.out _ (by exact bl)) fun hHeld => ?_
     clear hK K
     refine ap ?_
     refine tS [23, 24, 25, 26] ?_
     iterate 4 (refine tC ?_; refine ap ?_)
     refine tN ?_
     refine rdy 27 fun K hK => ?_
     go_simp
     (refine (HNR.out _).mono ?_) <;> rintro en w27 ⟨rfl, hb27⟩ <;> have hz27 := hb27.size <;> (try simp at hz27)
     go_wp2_with fail
     refine hK.out _ _ (HSX.out _ (by exact bl)) fun hHeld => ?_
     clear hK K
     refine ap ?_
     refine tS [28, 29, 30, 31] ?_
     iterate 4 (refine tC ?_; refine ap ?_)
     refine tN ?_
     refine rdy 32 fun K hK => ?_
     go_simp
     (refine (HNY.out _).mono ?_) <;> rintro en w32 ⟨rfl, hb32⟩ <;> have hz32 := hb32.size <;> (try simp at hz32)
     go_wp2_with fail
     refine hK.out _ _ (HSX.out _ (by exact bl)) fun hHeld => ?_
     clear hK K
     refine ap ?_
     refine tS [33, 34] ?_
     iterate 2 (refine tC ?_; refine ap ?_)
     refine tN ?_
     refine stOwn s p 35 rfl rfl (fun h => h.2.2.1) (HSR.out _) fun hHeld => ap ?_
     refine tS [36] (tC ?_)
     refine ap (tN ?_)
     refine wpAnyH_done (by kernel_rfl) ?_ _
     obtain ⟨hres, hbw⟩ := HEND.out w32 (hcv.trans (Below.mono (B := wc.heap.size) (by exact bl) (by omega)))
     go_wp2_with fail
     exact bodyPost_ret (v := OWV s p ([77, 73, 71, 82, 65, 84, 69, 32, 74, 79, 73, 78, 32] ++ s.tb ++ [32, 70, 82, 79, 77, 32] ++ s.ot ++ [32, 44, 32] ++ s.role ++ [32, 79, 78, 32] ++ s.key ++ TC) NY) (by simp [OWV, results, Tryz.results64, asAddr, hres]) rfl ⟨_, _, rfl, by simp <;> omega, fun h => absurd h HNS.out, hbw⟩
 ·skip
  have HOWN : Hid (ownS s = ⟨s.op, s.tb, s.ot, s.names, [], [], [], [], s.chk, [], [], ex0, []⟩ ∧ ownP s p = ⟨p.names, slZ, slZ, slZ, p.chk, slZ, slZ, slZ⟩) := by show _ ∧ _; unfold ownS ownP; rw [HOP.out, hop]; exact ⟨rfl, rfl⟩
  have HNS : Hid (¬ strongO s.op) := by show ¬ _; unfold strongO rightO; rw [HOP.out, hop]; decide
  rw [hop] at s0
  simp only [oGroup] at s0
  have HO := Lib.hid hop
  clear hop
  obtain ⟨NO, hNO⟩ : ∃ N, nameG s.ot = N := ⟨_, rfl⟩
  have HNO : Hid (∀ Y : World, Calls Tryz.prog 47 #[.string ⟨s.ot.toArray⟩] Y (Ret (.bool NO) Y)) := fun Y => by rw [← hNO]; exact HN.out s.ot Y hot
  clear hNO
  go_upto_region 49 with fail
  go_cut [] from 900 to 0 (fun wx => Blk wx w1.heap.size 34 ((ownS s).cells (ownP s p)).toArray ∧ Below w1.heap.size w2 wx)
  case first =>
   clear s0
   obtain ⟨-, -, r2, r3, -, -, -, -, r8, r9, r10, r11, r12, r13, -, -, -, -, -, -, -, -, -⟩ := ko4.st
   obtain ⟨-, -, z2, z3, -, -, -, -, z8, z9, z10, z11, z12, z13, -, -, -, -, -, -, -, -, -⟩ := ko4.stF
   have HSQ : Hid (∀ Y : World, Below w1.heap.size w4 Y → Y.cell? ⟨w.heap.size, 2, none⟩ = some (.string ⟨s.ot.toArray⟩) ∧ Y.cell? ⟨w.heap.size, 3, none⟩ = some (.slice p.names.a s.names.length p.names.c) ∧ (Y.cell? ⟨w.heap.size, 8, none⟩ = some (.string ⟨s.chk.op.toArray⟩) ∧ Y.cell? ⟨w.heap.size, 9, none⟩ = some (.int .i64 s.chk.v.k) ∧ Y.cell? ⟨w.heap.size, 10, none⟩ = some (.int .i64 s.chk.v.i) ∧ Y.cell? ⟨w.heap.size, 11, none⟩ = some (.string ⟨s.chk.v.s.toArray⟩) ∧ Y.cell? ⟨w.heap.size, 12, none⟩ = some (.string ⟨s.chk.s.toArray⟩) ∧ Y.cell? ⟨w.heap.size, 13, none⟩ = some (.slice p.chk.a s.chk.l.length p.chk.c))) := fun Y hY => by
    have kb := (HKB.out w4 hc4).below hY (by omega)
    exact ⟨kb.cell 2, kb.cell 3, ⟨kb.cell 8, kb.cell 9, kb.cell 10, kb.cell 11, kb.cell 12, kb.cell 13⟩⟩
   refine rgnB HSQ fun hHeld => ?_
   refine tS [0, 1, 2, 3, 4, 5, 6] ?_
   iterate 7 (refine tC ?_; refine ap ?_)
   refine tN ?_
   refine rdy 7 fun K hK => ?_
   go_simp
   skip
   go_wp2_with fail
   refine hK.out _ _ (HSQ.out _ (by exact bl)) fun hHeld => ?_
   clear hK K
   refine ap ?_
   refine tS [8] (tC ?_)
   refine ap (tN ?_)
   refine rdy 9 fun K hK => ?_
   go_simp
   skip
   go_wp2_with fail
   refine hK.out _ _ (HSQ.out _ (by exact bl)) fun hHeld => ?_
   clear hK K
   refine ap ?_
   refine tS [10] (tC ?_)
   refine ap (tN ?_)
   refine rdy 11 fun K hK => ?_
   go_simp
   skip
   go_wp2_with fail
   refine hK.out _ _ (HSQ.out _ (by exact bl)) fun hHeld => ?_
   clear hK K
   refine ap ?_
   refine wpAnyH_done (by kernel_rfl) ?_ _
   go_wp2_with fail
   go_meet
   exact ⟨Blk.drew (by rw [HOWN.out.1, HOWN.out.2]; exact blk_eq (own_set6 ((ko4.set_ 2 (.string ⟨s.ot.toArray⟩)).set_ 3 (.slice p.names.a s.names.length p.names.c)) 8 s.chk p.chk.a p.chk.c rfl) (by first | (simp only [St.cells, stZ, stPZ, slZ, List.setIfInBounds_toArray, List.set_cons_zero, List.set_cons_succ]; done) | (simp [St.cells, stZ, stPZ, slZ]; done))), by exact bl⟩
  obtain ⟨hkv, hcv⟩ := hcut
  have hsv := hkv.lt
  have hzv := hcv.size
  clear s0 ko4 ko2
  have c3 : wc.cell? ⟨w.heap.size, 3, none⟩ = some (.slice p.names.a s.names.length p.names.c) := (HKB.out wc hcv).cell 3
  by_cases hn2 : s.names.length = 2
  rotate_left
  ·have e2 : ((s.names.length : Int) == 2) = false := by rw [beq_eq_false_iff_ne]; omega
   have e3 : ¬ (s.names.length : Int) = 2 := by omega
   have e4 : ((s.names.length : Int) != 2) = true := by rw [bne_iff_ne]; omega
   obtain ⟨HSX, HSR⟩ := mkS s p (g := w.heap.size) (fun Y => Y.cell? ⟨w.heap.size, 1, none⟩ = some (.string ⟨s.tb.toArray⟩)) (fun Y hY => by have kb := HKB.out Y hY; exact kb.cell 1) (fun Y _ kb => kb.cell 1) HKB HKR hcv hkv hls (by omega)
   clear hkv
   go_wp2_with fail
   clear c3
   refine rgn HSX fun hHeld => ?_
   refine tkOwn s p 0 rfl rfl (fun _ h => h.2.2.2) (ap ?_)
   refine tS [1] (tC ?_)
   refine ap (tN ?_)
   refine stOwn s p 2 rfl rfl (fun h => h.2.2.1) (HSR.out _) fun hHeld => ap ?_
   refine tS [3] (tC ?_)
   refine ap (tN ?_)
   refine wpAnyH_done (by kernel_rfl) ?_ _
   obtain ⟨hres, hbw⟩ := HEND.out _ (hcv.drew)
   go_wp2_with fail
   exact bodyPost_ret (v := OWV s p ([]) false) (by simp [OWV, results, Tryz.results64, asAddr, hres]) rfl ⟨_, _, rfl, by simp <;> omega, fun h => absurd h HNS.out, hbw⟩
  obtain ⟨x0, x1, hx⟩ : ∃ x0 x1, s.names = [x0, x1] := by
   match hx : s.names, hn2 with
   | [a, b], _ => exact ⟨a, b, rfl⟩
  have la := HOKK.out.names x0 (by rw [hx]; simp)
  have lb := HOKK.out.names x1 (by rw [hx]; simp)
  obtain ⟨nb, no, hpa, hnb, -⟩ := (HM.out w2 (Below.refl _ _)).1 (by omega)
  have hnb2 : nb < w.heap.size := hnb
  have HNN : Hid (∀ Y : World, Below w1.heap.size w2 Y → Y.cell? ⟨nb, no, none⟩ = some (.string ⟨x0.toArray⟩) ∧ Y.cell? ⟨nb, no + 1, none⟩ = some (.string ⟨x1.toArray⟩)) := fun Y hY => by
   obtain ⟨b2, o2, hpa2, -, hnr⟩ := (HM.out Y hY).1 (by omega)
   rw [hpa] at hpa2
   injection hpa2 with hpa2
   injection hpa2 with h1 h2
   subst h1 h2
   exact ⟨hnr 0 x0 (by rw [hx]; rfl), hnr 1 x1 (by rw [hx]; rfl)⟩
  have HC3 : Hid (∀ Y : World, Blk Y w.heap.size 34 (s.cells p).toArray → Y.cell? ⟨w.heap.size, 3, none⟩ = some (.slice (some ⟨nb, no, none⟩) 2 p.names.c)) := fun Y kb => by
   have c3 : Y.cell? ⟨w.heap.size, 3, none⟩ = some (.slice p.names.a s.names.length p.names.c) := kb.cell 3
   rw [hpa, hn2] at c3
   exact c3
  obtain ⟨N0, hN0⟩ : ∃ N, nameG x0 = N := ⟨_, rfl⟩
  have HN0 : Hid (∀ Y : World, Calls Tryz.prog 47 #[.string ⟨x0.toArray⟩] Y (Ret (.bool N0) Y)) := fun Y => by rw [← hN0]; exact HN.out x0 Y la
  obtain ⟨N1, hN1⟩ : ∃ N, nameG x1 = N := ⟨_, rfl⟩
  have HN1 : Hid (∀ Y : World, Calls Tryz.prog 47 #[.string ⟨x1.toArray⟩] Y (Ret (.bool N1) Y)) := fun Y => by rw [← hN1]; exact HN.out x1 Y lb
  rw [hpa, hn2] at c3
  clear hN0 hN1 hx hpa hnb hn2
  obtain ⟨HSX, HSR⟩ := mkS s p (g := w.heap.size) (fun Y => Y.cell? ⟨w.heap.size, 1, none⟩ = some (.string ⟨s.tb.toArray⟩) ∧ Y.cell? ⟨w.heap.size, 2, none⟩ = some (.string ⟨s.ot.toArray⟩) ∧ Y.cell? ⟨w.heap.size, 3, none⟩ = some (.slice (some ⟨nb, no, none⟩) 2 p.names.c) ∧ Y.cell? ⟨nb, no, none⟩ = some (.string ⟨x0.toArray⟩) ∧ Y.cell? ⟨nb, no + 1, none⟩ = some (.string ⟨x1.toArray⟩)) (fun Y hY => by have kb := HKB.out Y hY; exact ⟨kb.cell 1, kb.cell 2, HC3.out Y kb, HNN.out Y hY⟩) (fun Y h kb => ⟨kb.cell 1, kb.cell 2, HC3.out _ kb, (World.cell?_of_block (a := ⟨nb, no, none⟩) (setRow_block _ _ nb _ (by omega))).trans h.2.2.2.1, (World.cell?_of_block (a := ⟨nb, no + 1, none⟩) (setRow_block _ _ nb _ (by omega))).trans h.2.2.2.2⟩) HKB HKR hcv hkv hls (by omega)
  clear hkv
  go_upto_region 52 with fail
  clear c3
  cases PC with
  | false =>
   refine rgn HSX fun hHeld => ?_
   refine tS [0, 1, 2, 3, 4, 5, 6, 7, 8, 9, 10, 11, 12, 13, 14, 15, 16, 17, 18, 19, 20] ?_
   iterate 21 (refine tC ?_; refine ap ?_)
   refine tN ?_
   refine tkOwn s p 21 rfl rfl (fun _ h => h.2.2.2) (ap ?_)
   refine tS [22, 23] ?_
   iterate 2 (refine tC ?_; refine ap ?_)
   refine tN ?_
   refine tS [24, 25, 26] ?_
   iterate 3 (refine tX ?_; refine ap ?_)
   refine tN ?_
   refine tS [27, 28] ?_
   iterate 2 (refine tC ?_; refine ap ?_)
   refine tN ?_
   refine tS [29, 30, 31, 32, 33] ?_
   iterate 5 (refine tX ?_; refine ap ?_)
   refine tN ?_
   refine tS [34, 35] ?_
   iterate 2 (refine tC ?_; refine ap ?_)
   refine tN ?_
   refine tS [36, 37, 38, 39, 40] ?_
   iterate 5 (refine tX ?_; refine ap ?_)
   refine tN ?_
   refine tS [41, 42] ?_
   iterate 2 (refine tC ?_; refine ap ?_)
   refine tN ?_
   refine stOwn s p 43 rfl rfl (fun h => h.2.2.1) (HSR.out _) fun hHeld => ap ?_
   refine tS [44] (tC ?_)
   refine ap (tN ?_)
   refine wpAnyH_done (by kernel_rfl) ?_ _
   obtain ⟨hres, hbw⟩ := HEND.out _ (hcv.drew)
   go_wp2_with fail
   exact bodyPost_ret (v := OWV s p ([77, 73, 71, 82, 65, 84, 69, 32, 71, 82, 79, 85, 80, 32] ++ s.tb ++ [32, 70, 82, 79, 77, 32] ++ s.ot ++ [32, 66, 89, 32] ++ x0 ++ [32, 83, 85, 77, 32] ++ x1 ++ TC) false) (by simp [OWV, results, Tryz.results64, asAddr, hres]) rfl ⟨_, _, rfl, by simp <;> omega, fun h => absurd h HNS.out, hbw⟩
  | true =>
   cases NO with
   | false =>
    refine rgn HSX fun hHeld => ?_
    refine tS [0, 1, 2, 3, 4, 5, 6, 7, 8, 9, 10, 11, 12, 13, 14, 15, 16, 17, 18, 19, 20] ?_
    iterate 21 (refine tC ?_; refine ap ?_)
    refine tN ?_
    refine tkOwn s p 21 rfl rfl (fun _ h => h.2.2.2) (ap ?_)
    refine tS [22, 23, 24, 25] ?_
    iterate 4 (refine tC ?_; refine ap ?_)
    refine tN ?_
    refine rdy 26 fun K hK => ?_
    go_simp
    (refine (HNO.out _).mono ?_) <;> rintro en w26 ⟨rfl, hb26⟩ <;> have hz26 := hb26.size <;> (try simp at hz26)
    go_wp2_with fail
    refine hK.out _ _ (HSX.out _ (by exact bl)) fun hHeld => ?_
    clear hK K
    refine ap ?_
    refine tS [27, 28] ?_
    iterate 2 (refine tC ?_; refine ap ?_)
    refine tN ?_
    refine tS [29, 30, 31, 32, 33] ?_
    iterate 5 (refine tX ?_; refine ap ?_)
    refine tN ?_
    refine tS [34, 35] ?_
    iterate 2 (refine tC ?_; refine ap ?_)
    refine tN ?_
    refine tS [36, 37, 38, 39, 40] ?_
    iterate 5 (refine tX ?_; refine ap ?_)
    refine tN ?_
    refine tS [41, 42] ?_
    iterate 2 (refine tC ?_; refine ap ?_)
    refine tN ?_
    refine stOwn s p 43 rfl rfl (fun h => h.2.2.1) (HSR.out _) fun hHeld => ap ?_
    refine tS [44] (tC ?_)
    refine ap (tN ?_)
    refine wpAnyH_done (by kernel_rfl) ?_ _
    obtain ⟨hres, hbw⟩ := HEND.out w26 (hcv.trans (Below.mono (B := wc.heap.size) (by exact bl) (by omega)))
    go_wp2_with fail
    exact bodyPost_ret (v := OWV s p ([77, 73, 71, 82, 65, 84, 69, 32, 71, 82, 79, 85, 80, 32] ++ s.tb ++ [32, 70, 82, 79, 77, 32] ++ s.ot ++ [32, 66, 89, 32] ++ x0 ++ [32, 83, 85, 77, 32] ++ x1 ++ TC) false) (by simp [OWV, results, Tryz.results64, asAddr, hres]) rfl ⟨_, _, rfl, by simp <;> omega, fun h => absurd h HNS.out, hbw⟩
   | true =>
    cases N0 with
    | false =>
     refine rgn HSX fun hHeld => ?_
     refine tS [0, 1, 2, 3, 4, 5, 6, 7, 8, 9, 10, 11, 12, 13, 14, 15, 16, 17, 18, 19, 20] ?_
     iterate 21 (refine tC ?_; refine ap ?_)
     refine tN ?_
     refine tkOwn s p 21 rfl rfl (fun _ h => h.2.2.2) (ap ?_)
     refine tS [22, 23, 24, 25] ?_
     iterate 4 (refine tC ?_; refine ap ?_)
     refine tN ?_
     refine rdy 26 fun K hK => ?_
     go_simp
     (refine (HNO.out _).mono ?_) <;> rintro en w26 ⟨rfl, hb26⟩ <;> have hz26 := hb26.size <;> (try simp at hz26)
     go_wp2_with fail
     refine hK.out _ _ (HSX.out _ (by exact bl)) fun hHeld => ?_
     clear hK K
     refine ap ?_
     refine tS [27, 28, 29, 30, 31, 32] ?_
     iterate 6 (refine tC ?_; refine ap ?_)
     refine tN ?_
     refine rdy 33 fun K hK => ?_
     go_simp
     (refine (HN0.out _).mono ?_) <;> rintro en w33 ⟨rfl, hb33⟩ <;> have hz33 := hb33.size <;> (try simp at hz33)
     go_wp2_with fail
     refine hK.out _ _ (HSX.out _ (by exact bl)) fun hHeld => ?_
     clear hK K
     refine ap ?_
     refine tS [34, 35] ?_
     iterate 2 (refine tC ?_; refine ap ?_)
     refine tN ?_
     refine tS [36, 37, 38, 39, 40] ?_
     iterate 5 (refine tX ?_; refine ap ?_)
     refine tN ?_
     refine tS [41, 42] ?_
     iterate 2 (refine tC ?_; refine ap ?_)
     refine tN ?_
     refine stOwn s p 43 rfl rfl (fun h => h.2.2.1) (HSR.out _) fun hHeld => ap ?_
     refine tS [44] (tC ?_)
     refine ap (tN ?_)
     refine wpAnyH_done (by kernel_rfl) ?_ _
     obtain ⟨hres, hbw⟩ := HEND.out w33 (hcv.trans (Below.mono (B := wc.heap.size) (by exact bl) (by omega)))
     go_wp2_with fail
     exact bodyPost_ret (v := OWV s p ([77, 73, 71, 82, 65, 84, 69, 32, 71, 82, 79, 85, 80, 32] ++ s.tb ++ [32, 70, 82, 79, 77, 32] ++ s.ot ++ [32, 66, 89, 32] ++ x0 ++ [32, 83, 85, 77, 32] ++ x1 ++ TC) false) (by simp [OWV, results, Tryz.results64, asAddr, hres]) rfl ⟨_, _, rfl, by simp <;> omega, fun h => absurd h HNS.out, hbw⟩
    | true =>
     refine rgn HSX fun hHeld => ?_
     refine tS [0, 1, 2, 3, 4, 5, 6, 7, 8, 9, 10, 11, 12, 13, 14, 15, 16, 17, 18, 19, 20] ?_
     iterate 21 (refine tC ?_; refine ap ?_)
     refine tN ?_
     refine tkOwn s p 21 rfl rfl (fun _ h => h.2.2.2) (ap ?_)
     refine tS [22, 23, 24, 25] ?_
     iterate 4 (refine tC ?_; refine ap ?_)
     refine tN ?_
     refine rdy 26 fun K hK => ?_
     go_simp
     (refine (HNO.out _).mono ?_) <;> rintro en w26 ⟨rfl, hb26⟩ <;> have hz26 := hb26.size <;> (try simp at hz26)
     go_wp2_with fail
     refine hK.out _ _ (HSX.out _ (by exact bl)) fun hHeld => ?_
     clear hK K
     refine ap ?_
     refine tS [27, 28, 29, 30, 31, 32] ?_
     iterate 6 (refine tC ?_; refine ap ?_)
     refine tN ?_
     refine rdy 33 fun K hK => ?_
     go_simp
     (refine (HN0.out _).mono ?_) <;> rintro en w33 ⟨rfl, hb33⟩ <;> have hz33 := hb33.size <;> (try simp at hz33)
     go_wp2_with fail
     refine hK.out _ _ (HSX.out _ (by exact bl)) fun hHeld => ?_
     clear hK K
     refine ap ?_
     refine tS [34, 35, 36, 37, 38, 39] ?_
     iterate 6 (refine tC ?_; refine ap ?_)
     refine tN ?_
     refine rdy 40 fun K hK => ?_
     go_simp
     (refine (HN1.out _).mono ?_) <;> rintro en w40 ⟨rfl, hb40⟩ <;> have hz40 := hb40.size <;> (try simp at hz40)
     go_wp2_with fail
     refine hK.out _ _ (HSX.out _ (by exact bl)) fun hHeld => ?_
     clear hK K
     refine ap ?_
     refine tS [41, 42] ?_
     iterate 2 (refine tC ?_; refine ap ?_)
     refine tN ?_
     refine stOwn s p 43 rfl rfl (fun h => h.2.2.1) (HSR.out _) fun hHeld => ap ?_
     refine tS [44] (tC ?_)
     refine ap (tN ?_)
     refine wpAnyH_done (by kernel_rfl) ?_ _
     obtain ⟨hres, hbw⟩ := HEND.out w40 (hcv.trans (Below.mono (B := wc.heap.size) (by exact bl) (by omega)))
     go_wp2_with fail
     exact bodyPost_ret (v := OWV s p ([77, 73, 71, 82, 65, 84, 69, 32, 71, 82, 79, 85, 80, 32] ++ s.tb ++ [32, 70, 82, 79, 77, 32] ++ s.ot ++ [32, 66, 89, 32] ++ x0 ++ [32, 83, 85, 77, 32] ++ x1 ++ TC) N1) (by simp [OWV, results, Tryz.results64, asAddr, hres]) rfl ⟨_, _, rfl, by simp <;> omega, fun h => absurd h HNS.out, hbw⟩
theorem wr_any (s : St) (p : StP) (w : World) (hok : s.Ok) (hlc : s.chk.l.length ≤ maxLen) (hlw : s.whr.l.length ≤ maxLen) (hsm : s.small) (hQ : StQ 1000 s p (Old w.heap.size) w) : Calls Tryz.prog 64 #[.agg (s.cells p).toArray] w (RetWr s p w) := by
 obtain ⟨O, hop⟩ : ∃ O, s.op = O := ⟨_, rfl⟩
 have A := wr_a s p w hok hlc hlw hsm hQ O hop
 have B := wr_b s p w hok hlc hlw hsm hQ O hop
 by_cases a : O = oCreate
 ·exact A (.inl a)
 by_cases b : O = oInsert
 ·exact A (.inr (.inl b))
 by_cases c : O = oUpdate
 ·exact A (.inr (.inr (.inl c)))
 by_cases d : O = oJoin
 ·exact B (.inl d)
 by_cases e : O = oGroup
 ·exact B (.inr e)
 by_cases f : strongO O
 ·rcases f with h | h | h | h | h
  ·exact A (.inr (.inr (.inr (.inl h))))
  ·exact A (.inr (.inr (.inr (.inr (.inl (.inl h))))))
  ·exact A (.inr (.inr (.inr (.inr (.inl (.inr h))))))
  ·exact A (.inr (.inr (.inr (.inr (.inr (.inl h))))))
  ·exact A (.inr (.inr (.inr (.inr (.inr (.inr (.inl h)))))))
 ·exact A (.inr (.inr (.inr (.inr (.inr (.inr (.inr (⟨a, b, c, d, e, f⟩))))))))
end Go.Proofs.YtchilcchogcibaaGreatDoor
