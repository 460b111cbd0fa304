/- The document's text of a statement, by its Op, and the parts that it names: what stands ahead of the Op. Condition: a statement whose texts and lists are no longer than a thousand.. -/
import Derived.Test.YtchilcchogcibaaGreatDoorSBytes
import Derived.Test.YtchilcchogcibaaGreatDoorSOwnRow
import Derived.Test.YtchilcchogcibaaGreatDoorSR5Law
import Derived.Test.YtchilcchogcibaaGreatDoorSRd4
import Derived.Test.YtchilcchogcibaaGreatDoorSRowReg
import Derived.Test.YtchilcchogcibaaGreatDoorSStL
namespace Go.Proofs.YtchilcchogcibaaGreatDoor
open Go.RowKit
attribute [local go_sem] ByteArray.extract_mk ba_get ba_append
attribute [local go_sem ↓] Go.wp_at_zero Go.wp_at_succ
/-- What write answers. -/
def RetWr (s : St) (p : StP) (w : World) (en : Ending) (w' : World) : Prop :=
 ∃ (T : List UInt8) (K : Bool), en = .returned (.tuple #[.string ⟨T.toArray⟩, .agg ((ownS s).cells (ownP s p)).toArray, .bool K]) ∧ K = okD s ∧ (K = true → T = textS s) ∧ Below w.heap.size w w'
theorem one_own (s : St) (p : StP) : ((ownS s).cells (ownP s p)).toArray.all (·.oneCell') = true := one_st _ _
theorem wr_res {s : St} {p : StP} {W : World} {g : Nat} (hg : Blk W g 34 ((ownS s).cells (ownP s p)).toArray) :
  (loadVar 34 ⟨g, 0, none⟩).run Tryz.prog W = .ok (.agg ((ownS s).cells (ownP s p)).toArray) W := run_loadVar_row W g 34 34 _ (0, 0) _ hg Tryz.underlying34 rfl size_st
theorem condT_len (e : Ex) (a : List UInt8) (ha : a.length ≤ 1000) (hf : fitE 13 e) : (condT e a).length ≤ 1002000 := by
 unfold condT
 by_cases hm : mayX e = true
 ·have := textX_lt hm hf
  rw [if_pos hm]
  split <;> simp <;> omega
 ·rw [if_neg hm]; simp
theorem cond_where {e : Ex} (h : perhapsE e = true) : condT e wWhere = whereT e := by
 unfold condT whereT
 cases hn : noneE e
 ·unfold perhapsE at h
  rw [hn, Bool.false_or] at h
  rw [if_pos h, if_pos rfl, if_neg (by decide)]
 ·rw [none_may hn, if_neg (by decide), if_pos rfl]
theorem cond_check {e : Ex} (h : perhapsE e = true) (a b : List UInt8) (ha : ¬ a = wWhere) (hb : b = a ++ [32]) : condT e a = checkT b e := by
 subst hb
 unfold condT checkT
 cases hn : noneE e
 ·unfold perhapsE at h
  rw [hn, Bool.false_or] at h
  rw [if_pos h, if_neg ha, if_neg (by decide)]
  simp
 ·rw [none_may hn, if_neg (by decide), if_pos rfl]
theorem joinC_len : ∀ l : List (List UInt8), (∀ x ∈ l, x.length ≤ 1000) → (joinL comma l).length ≤ l.length * 1010
 | [], _ => by simp [joinL]
 | [x], h => by
  have := h x (by simp)
  simp [joinL]; omega
 | x :: y :: r, h => by
  have h1 := h x (by simp)
  have ih := joinC_len (y :: r) (fun z hz => h z (by simp only [List.mem_cons] at hz ⊢; exact .inr hz))
  simp only [joinL, List.length_append, List.length_cons, comma, List.length_nil] at ih ⊢
  omega
theorem names_len (l : List (List UInt8)) (h : ∀ x ∈ l, x.length ≤ 1000) : (namesD l).1.length ≤ l.length * 1010 := by
 unfold namesD
 split
 ·exact joinC_len l h
 ·simp
theorem names_many (l : List (List UInt8)) : (namesD l).2 = manyB l 1 8 nameG := by
 unfold namesD manyB
 cases l.all nameG <;> simp
theorem names_text {l : List (List UInt8)} (h : manyB l 1 8 nameG = true) : (namesD l).1 = joinL comma l := by
 unfold manyB at h
 simp only [Bool.and_eq_true] at h
 unfold namesD
 rw [if_pos h.2]
/-- The cells of a part of a statement are laid. -/
theorem own_set {w : World} {g : Nat} {t : TypeId} {s s' : St} {p p' : StP} (h : Blk w g t (s.cells p).toArray) (i : Nat) (v : Value) (he : ((s.cells p).toArray.setIfInBounds i v) = (s'.cells p').toArray) : Blk (w.setCell ⟨g, i, none⟩ v) g t (s'.cells p').toArray := by
 have := h.set_ i v
 rw [← he]
 exact this
theorem blk_eq {w : World} {g : Nat} {t : TypeId} {cs cs' : Array Value} (h : Blk w g t cs) (he : cs = cs') : Blk w g t cs' := he ▸ h
/-- Six cells of an expression are laid. -/
theorem own_set6 {w : World} {g : Nat} {t : TypeId} {cs cs' : Array Value} (h : Blk w g t cs) (i : Nat) (e : Ex) (A : Option Addr) (c : Nat)
  (he : (((((cs.setIfInBounds i (.string ⟨e.op.toArray⟩)).setIfInBounds (i + 1) (.int .i64 e.v.k)).setIfInBounds (i + 2) (.int .i64 e.v.i)).setIfInBounds (i + 3) (.string ⟨e.v.s.toArray⟩)).setIfInBounds (i + 4) (.string ⟨e.s.toArray⟩)).setIfInBounds (i + 5) (.slice A e.l.length c) = cs') :
  Blk ((((((w.setCell ⟨g, i, none⟩ (.string ⟨e.op.toArray⟩)).setCell ⟨g, i + 1, none⟩ (.int .i64 e.v.k)).setCell ⟨g, i + 2, none⟩ (.int .i64 e.v.i)).setCell ⟨g, i + 3, none⟩ (.string ⟨e.v.s.toArray⟩)).setCell ⟨g, i + 4, none⟩ (.string ⟨e.s.toArray⟩)).setCell ⟨g, i + 5, none⟩ (.slice A e.l.length c)) g t cs' := by
 rw [← he]
 exact (((((h.set_ i _).set_ (i + 1) _).set_ (i + 2) _).set_ (i + 3) _).set_ (i + 4) _).set_ (i + 5) _
set_option maxRecDepth 100000 in
set_option maxHeartbeats 8000000 in
theorem wr_read (s : St) (p : StP) (w : World) (hok : s.Ok) (hlc : s.chk.l.length ≤ maxLen) (hlw : s.whr.l.length ≤ maxLen) (hQ : StQ 1000 s p (Old w.heap.size) w) (hop : s.op = oRead) : Calls Tryz.prog 64 #[.agg (s.cells p).toArray] w (RetWr s p w) := by
 obtain ⟨kc, ks, kw, hM⟩ := hQ.h
 refine stBox_in s p w fun w0 HW ks0 hb0 hz0 HST HB => ?_
 obtain ⟨w1, hw1⟩ : ∃ w1, w0.alloc (.cells #[.string ⟨#[]⟩, .string ⟨#[]⟩, .string ⟨#[]⟩, .slice none 0 0, .slice none 0 0, .string ⟨#[]⟩, .slice none 0 0, .slice none 0 0, .string ⟨#[]⟩, .int .i64 0, .int .i64 0, .string ⟨#[]⟩, .string ⟨#[]⟩, .slice none 0 0, .slice none 0 0, .slice none 0 0, .string ⟨#[]⟩, .int .i64 0, .int .i64 0, .string ⟨#[]⟩, .string ⟨#[]⟩, .slice none 0 0, .string ⟨#[]⟩] 34) = w1 := ⟨_, rfl⟩
 obtain ⟨w2, hw2⟩ : ∃ w2, w1.alloc (.cells ((stZ s.op s.tb).cells stPZ).toArray 34) = w2 := ⟨_, rfl⟩
 have hs0 : w0.heap.size = w.heap.size + 1 := by rw [← HW.out]; simp
 have kr1 : Blk w1 (w.heap.size + 1) 34 ((stZ [] []).cells stPZ).toArray := by rw [← hs0, ← hw1]; exact Blk.new _ _ _
 have kr2 : Blk w2 (w.heap.size + 1) 34 ((stZ [] []).cells stPZ).toArray := by rw [← hw2]; exact kr1.alloc _
 have ko2 : Blk w2 w1.heap.size 34 ((stZ s.op s.tb).cells stPZ).toArray := by rw [← hw2]; exact Blk.new _ _ _
 have hl01 : w.heap.size < w0.heap.size := ks0.lt
 have hl12 : w.heap.size + 1 < w1.heap.size := kr1.lt
 have hl23 : w1.heap.size < w2.heap.size := ko2.lt
 have hb02 : Below w0.heap.size w0 w2 := by rw [← hw2, ← hw1]; exact bl
 have hb2 : Below w.heap.size w w2 := hb0.trans (hb02.mono hz0)
 have hz2 := hb2.size
 have hs1 : w1.heap.size = w.heap.size + 1 + 1 := by rw [← hw1, ← hs0]; simp
 have HKB : Hid (∀ Z : World, Below w1.heap.size w2 Z → Blk Z w.heap.size 34 (s.cells p).toArray) := fun Z hz => (ks0.below hb02 ks0.lt).below hz (by omega)
 have HKR : Hid (∀ Z : World, Below w1.heap.size w2 Z → Blk Z (w.heap.size + 1) 34 ((stZ [] []).cells stPZ).toArray) := fun Z hz => kr2.below hz hl12
 have HM : Hid (∀ Y : World, Below w1.heap.size w2 Y → StH s p kc ks kw (Old w.heap.size) Y) := fun Y hY => hM.keep fun b hb => by
  have hb' : b < w.heap.size := hb
  exact ⟨hb', fun o => (hY.cell (p := ⟨b, o, none⟩) (show b < w1.heap.size by omega)).trans (hb2.cell (p := ⟨b, o, none⟩) hb')⟩
 have HBB : Hid (∀ Z : World, Below w1.heap.size w2 Z → Below w.heap.size w Z) := fun Z hz => hb2.trans (hz.mono (by omega))
 obtain ⟨PC, hPC⟩ : ∃ B, perhapsE s.chk = B := ⟨_, rfl⟩
 obtain ⟨PW, hPW⟩ : ∃ B, perhapsE s.whr = B := ⟨_, rfl⟩
 obtain ⟨TC, hTC⟩ : ∃ B, condT s.chk [] = B := ⟨_, rfl⟩
 obtain ⟨TW, hTW⟩ : ∃ B, condT s.whr wWhere = B := ⟨_, rfl⟩
 have HC1 : Hid (∀ Y : World, Below w1.heap.size w2 Y → w.heap.size ≤ Y.heap.size → Calls Tryz.prog 108 #[.agg #[.string ⟨s.chk.op.toArray⟩, .int .i64 s.chk.v.k, .int .i64 s.chk.v.i, .string ⟨s.chk.v.s.toArray⟩, .string ⟨s.chk.s.toArray⟩, .slice p.chk.a s.chk.l.length p.chk.c], .string ⟨#[]⟩] Y (Ret (.tuple #[.string ⟨TC.toArray⟩, .bool PC]) Y)) := fun Y hY hz => by
  rw [← hTC, ← hPC]
  exact rcond_any s.chk [] p.chk.a p.chk.c kc Y hok.chk hok.num.1 (exq_s (HM.out Y hY).2.2.2.2.1 hz) hlc (by decide)
 have HC2 : Hid (∀ Y : World, Below w1.heap.size w2 Y → w.heap.size ≤ Y.heap.size → Calls Tryz.prog 108 #[.agg #[.string ⟨s.whr.op.toArray⟩, .int .i64 s.whr.v.k, .int .i64 s.whr.v.i, .string ⟨s.whr.v.s.toArray⟩, .string ⟨s.whr.s.toArray⟩, .slice p.whr.a s.whr.l.length p.whr.c], .string ⟨#[87, 72, 69, 82, 69]⟩] Y (Ret (.tuple #[.string ⟨TW.toArray⟩, .bool PW]) Y)) := fun Y hY hz => by
  rw [← hTW, ← hPW]
  exact rcond_any s.whr wWhere p.whr.a p.whr.c kw Y hok.whr hok.num.2.1 (exq_s (HM.out Y hY).2.2.2.2.2.2.2 hz) hlw (by decide)
 have hlTC : TC.length ≤ 1002000 := by rw [← hTC]; exact condT_len _ _ (by decide) hok.num.1
 have hlTW : TW.length ≤ 1002000 := by rw [← hTW]; exact condT_len _ _ (by decide) hok.num.2.1
 have htb := hok.tb
 have hot := hok.ot
 have hkey := hok.key
 have hrole := hok.role
 have HS1 := Lib.hid hs1
 have HKS := Lib.hid ks0
 have HW1 := Lib.hid hw1
 have HW2 := Lib.hid hw2
 have HOP := Lib.hid hop
 have HPC := Lib.hid hPC
 have HPW := Lib.hid hPW
 have HTC := Lib.hid hTC
 have HTW := Lib.hid hTW
 have hOK : okD s = nameG s.role := by unfold okD; rw [if_neg (by rw [hop]; decide), if_neg (by rw [hop]; decide), if_neg (by rw [hop]; decide), if_neg (by rw [hop]; decide), if_neg (by rw [hop]; decide), if_pos (by rw [hop]; first | done | decide)]
 have hOW : ownS s = ⟨s.op, s.tb, [], [], [], [], [], [], ex0, [], [], ex0, s.role⟩ := by unfold ownS; rw [if_neg (by rw [hop]; decide), if_neg (by rw [hop]; decide), if_neg (by rw [hop]; decide), if_neg (by rw [hop]; decide), if_pos (by rw [hop]; first | done | decide)]
 have hOP : ownP s p = stPZ := by unfold ownP; rw [if_neg (by rw [hop]; decide), if_neg (by rw [hop]; decide), if_neg (by rw [hop]; decide), if_neg (by rw [hop]; decide), if_pos (by rw [hop]; first | done | decide)]
 obtain ⟨NR, hNR⟩ : ∃ N, nameG s.role = N := ⟨_, rfl⟩
 have HNR : Hid (∀ Y : World, Calls Tryz.prog 47 #[.string ⟨s.role.toArray⟩] Y (Ret (.bool NR) Y)) := fun Y => by rw [← hNR]; exact rnameG_any s.role Y (by omega)
 rw [hNR] at hOK
 have hT : textS s = [71, 82, 65, 78, 84, 32, 82, 69, 65, 68, 32, 79, 78, 32] ++ s.tb ++ [32, 84, 79, 32] ++ s.role := by unfold textS; rw [if_neg (by rw [hop]; decide), if_neg (by rw [hop]; decide), if_neg (by rw [hop]; decide), if_neg (by rw [hop]; decide), if_neg (by rw [hop]; decide), if_neg (by rw [hop]; decide), if_pos (by rw [hop]; first | done | decide), hop]; simp [upperB, oRead]
 have HT := Lib.hid hT
 have HOK := Lib.hid hOK
 have HOWN := Lib.hid (And.intro hOW hOP)
 clear hT hOK hOW hOP hNR
 clear hQ hM hb0 ks0 hw1 hw2 kr1 kr2 hPC hPW hTC hTW hs0 hs1 hop hz0 hl01 hb02
 have s0 : w1.cell? ⟨w.heap.size, 0, none⟩ = some (.string ⟨s.op.toArray⟩) := by rw [← HW1.out]; exact (HKS.out.alloc _).cell 0
 have s1 : w1.cell? ⟨w.heap.size, 1, none⟩ = some (.string ⟨s.tb.toArray⟩) := by rw [← HW1.out]; exact (HKS.out.alloc _).cell 1
 go_enter Tryz.func64, Tryz.ntmps64
 go_upto_region 1 with fail
 rw [show World.alloc (World.alloc w _) _ = w1 from (congrArg (fun z => World.alloc z _) HW.out).trans HW1.out]
 go_upto_region 2 with (refine wpList_store_row rfl 34 _ _ rfl w1.heap.size ((stZ s.op s.tb).cells stPZ).toArray rfl rfl 34 _ (heap_alloc_last _ _) size_st rfl (one_st _ _) ?_)
 rw [show World.setRow _ _ _ = w2 from (World.setRow_alloc_new _ _ _ _).trans HW2.out]
 clear s0 s1 HW HW1 HW2 HKS
 have hc2 : Below w1.heap.size w2 w2 := Below.refl _ _
 obtain ⟨-, -, -, -, -, -, -, -, s8, s9, s10, s11, s12, s13, -, -, -, -, -, -, -, -, -⟩ := (HKB.out w2 hc2).st
 go_wp2_with fail
 refine (HC1.out w2 hc2 hz2).mono ?_
 rintro en w3 ⟨rfl, hb3⟩
 have hc3 : Below w1.heap.size w2 w3 := hb3.mono (Nat.le_of_lt hl23)
 have hz3 := hb3.size
 clear s8 s9 s10 s11 s12 s13
 obtain ⟨-, -, -, -, -, -, -, -, -, -, -, -, -, -, -, -, s16, s17, s18, s19, s20, s21, -⟩ := (HKB.out w3 hc3).st
 go_wp2_with fail
 refine (HC2.out w3 hc3 (by omega)).mono ?_
 rintro en w4 ⟨rfl, hb4⟩
 have hz4 := hb4.size
 have hc4 : Below w1.heap.size w2 w4 := hc3.trans (hb4.mono (by omega))
 clear s16 s17 s18 s19 s20 s21
 have ko4 : Blk w4 w1.heap.size 34 ((stZ s.op s.tb).cells stPZ).toArray := (ko2.below hb3 hl23).below hb4 (by omega)
 have o_create : (s.op == [99, 114, 101, 97, 116, 101]) = false := by rw [HOP.out]; rfl
 have o_drop : (s.op == [100, 114, 111, 112]) = false := by rw [HOP.out]; rfl
 have o_insert : (s.op == [105, 110, 115, 101, 114, 116]) = false := by rw [HOP.out]; rfl
 have o_update : (s.op == [117, 112, 100, 97, 116, 101]) = false := by rw [HOP.out]; rfl
 have o_delete : (s.op == [100, 101, 108, 101, 116, 101]) = false := by rw [HOP.out]; rfl
 have o_select : (s.op == [115, 101, 108, 101, 99, 116]) = false := by rw [HOP.out]; rfl
 have o_copy : (s.op == [99, 111, 112, 121]) = false := by rw [HOP.out]; rfl
 have o_join : (s.op == [106, 111, 105, 110]) = false := by rw [HOP.out]; rfl
 have o_group : (s.op == [103, 114, 111, 117, 112]) = false := by rw [HOP.out]; rfl
 have o_read : (s.op == [114, 101, 97, 100]) = true := by rw [HOP.out]; rfl
 obtain ⟨s0, -, -, -, -, -, -, -, -, -, -, -, -, -, -, -, -, -, -, -, -, -, s22⟩ := (HKB.out w4 hc4).st
 have z22 := ko4.frozen 22
 have r22 : w4.cell? ⟨w1.heap.size, 22, none⟩ = some (.string ⟨#[]⟩) := ko4.cell 22
 go_upto_region 55 with fail
 obtain ⟨w5, hw5⟩ : ∃ w5, w4.setCell ⟨w1.heap.size, 22, none⟩ (.string ⟨s.role.toArray⟩) = w5 := ⟨_, rfl⟩
 rw [hw5]
 have hkv : Blk w5 w1.heap.size 34 ((ownS s).cells (ownP s p)).toArray := by rw [← hw5]; exact own_set ko4 22 _ (by rw [HOWN.out.1, HOWN.out.2]; rfl)
 have hcv : Below w1.heap.size w2 w5 := by rw [← hw5]; exact bwS hc4 (Nat.le_refl _)
 have hz5 := hcv.size
 have hsv : w1.heap.size < w5.heap.size := hkv.lt
 clear hw5 r22 z22 s0 s22 o_create o_drop o_insert o_update o_delete o_select o_copy o_join o_group o_read ko4 ko2
 have HSX : Hid (∀ Y : World, Below w5.heap.size w5 Y → (Y.cell? ⟨w.heap.size, 1, none⟩ = some (.string ⟨s.tb.toArray⟩) ∧ Y.cell? ⟨w.heap.size, 22, none⟩ = some (.string ⟨s.role.toArray⟩)) ∧ Blk Y w.heap.size 34 (s.cells p).toArray ∧ (∃ old : Array Value, old.size = 23 ∧ Blk Y (w.heap.size + 1) 34 old) ∧ Blk Y w1.heap.size 34 ((ownS s).cells (ownP s p)).toArray) := fun Y hY => by
  have hzY := hY.size
  have hcY : Below w1.heap.size w2 Y := hcv.trans (hY.mono (by omega))
  have kb := HKB.out Y hcY
  exact ⟨⟨kb.cell 1, kb.cell 22⟩, kb, ⟨_, rfl, HKR.out Y hcY⟩, hkv.below hY (by omega)⟩
 have HSR : Hid (∀ Y : World, ((Y.cell? ⟨w.heap.size, 1, none⟩ = some (.string ⟨s.tb.toArray⟩) ∧ Y.cell? ⟨w.heap.size, 22, none⟩ = some (.string ⟨s.role.toArray⟩)) ∧ Blk Y w.heap.size 34 (s.cells p).toArray ∧ (∃ old : Array Value, old.size = 23 ∧ Blk Y (w.heap.size + 1) 34 old) ∧ Blk Y w1.heap.size 34 ((ownS s).cells (ownP s p)).toArray) → ((Y.setRow (w.heap.size + 1) ((ownS s).cells (ownP s p)).toArray).cell? ⟨w.heap.size, 1, none⟩ = some (.string ⟨s.tb.toArray⟩) ∧ (Y.setRow (w.heap.size + 1) ((ownS s).cells (ownP s p)).toArray).cell? ⟨w.heap.size, 22, none⟩ = some (.string ⟨s.role.toArray⟩)) ∧ Blk (Y.setRow (w.heap.size + 1) ((ownS s).cells (ownP s p)).toArray) w.heap.size 34 (s.cells p).toArray ∧ (∃ old : Array Value, old.size = 23 ∧ Blk (Y.setRow (w.heap.size + 1) ((ownS s).cells (ownP s p)).toArray) (w.heap.size + 1) 34 old) ∧ Blk (Y.setRow (w.heap.size + 1) ((ownS s).cells (ownP s p)).toArray) w1.heap.size 34 ((ownS s).cells (ownP s p)).toArray) := fun Y h => by
  obtain ⟨-, kb, ⟨old, ho, kr⟩, kk⟩ := h
  have kb2 := kb.rowFar (g := w.heap.size + 1) (by omega) ((ownS s).cells (ownP s p)).toArray
  exact ⟨⟨kb2.cell 1, kb2.cell 22⟩, kb2, ⟨_, rfl, kr.row _⟩, kk.rowFar (by omega) _⟩
 clear hkv
 refine rgn HSX fun hHeld => ?_
 refine tS [0, 1, 2, 3, 4, 5, 6] ?_
 iterate 7 (refine tC ?_; refine ap ?_)
 refine tN ?_
 refine wpAnyH_take (i := 7) (v := .agg (((ownS s).cells (ownP s p)).toArray)) rfl (by kernel_rfl) (by kernel_rfl) (by kernel_rfl) (fun _ _ _ h => h) (yields_row (34) _ rfl (by rfl) (w1.heap.size) rfl (34) (((ownS s).cells (ownP s p)).toArray) _ (Tryz.underlying34) rfl (size_st) (fun wq hSw => hSw.2.2.2)) (by assumption) ?_
 refine ap ?_
 refine tS [8, 9] ?_
 iterate 2 (refine tC ?_; refine ap ?_)
 refine tN ?_
 refine rdy 10 fun K hK => ?_
 go_simp
 (refine (HNR.out _).mono ?_) <;> rintro en w10 ⟨rfl, hb10⟩ <;> have hz10 := hb10.size <;> (try simp at hz10)
 go_wp2_with fail
 refine hK.out _ _ (HSX.out _ (by exact bl)) fun hHeld => ?_
 clear hK K
 refine ap ?_
 refine tS [11] (tC ?_)
 refine ap (tN ?_)
 refine rdy 12 fun K hK => ?_
 refine step_store_row (by rfl) (34) _ _ rfl (w.heap.size + 1) (((ownS s).cells (ownP s p)).toArray) rfl rfl (34) (hHeld.2.2.1) (size_st) (one_own s p) ?_
 refine hK.out _ _ (HSR.out _ hHeld) (fun hHeld => ?_)
 clear hK K
 refine ap ?_
 refine tS [13] (tC ?_)
 refine ap (tN ?_)
 refine wpAnyH_done (by kernel_rfl) ?_ _
 have hbl : Below w1.heap.size w2 w10 := hcv.trans (Below.mono (B := w5.heap.size) (by exact bl) (by omega))
 have hres : (loadVar 34 ⟨w.heap.size + 1, 0, none⟩).run Tryz.prog (w10.setRow (w.heap.size + 1) ((ownS s).cells (ownP s p)).toArray) = .ok (.agg ((ownS s).cells (ownP s p)).toArray) (w10.setRow (w.heap.size + 1) ((ownS s).cells (ownP s p)).toArray) := wr_res ((HKR.out _ hbl).row _)
 have hbw := bwRow (HBB.out _ hbl) (g := w.heap.size + 1) (by omega) ((ownS s).cells (ownP s p)).toArray
 go_wp2_with fail
 refine bodyPost_ret (v := .tuple #[.string ⟨([71, 82, 65, 78, 84, 32, 82, 69, 65, 68, 32, 79, 78, 32] ++ s.tb ++ [32, 84, 79, 32] ++ s.role).toArray⟩, .agg ((ownS s).cells (ownP s p)).toArray, .bool NR]) (by first | (simp [results, Tryz.results64, asAddr, hres]; done) | (simp [results, Tryz.results64, asAddr, hres, Sem.run_bind]; done)) rfl ?_
 exact ⟨_, _, rfl, HOK.out.symm, (fun _ => HT.out.symm), hbw⟩
set_option maxRecDepth 100000 in
set_option maxHeartbeats 8000000 in
theorem wr_delete (s : St) (p : StP) (w : World) (hok : s.Ok) (hlc : s.chk.l.length ≤ maxLen) (hlw : s.whr.l.length ≤ maxLen) (hQ : StQ 1000 s p (Old w.heap.size) w) (hop : s.op = oDelete) : Calls Tryz.prog 64 #[.agg (s.cells p).toArray] w (RetWr s p w) := by
 obtain ⟨kc, ks, kw, hM⟩ := hQ.h
 refine stBox_in s p w fun w0 HW ks0 hb0 hz0 HST HB => ?_
 obtain ⟨w1, hw1⟩ : ∃ w1, w0.alloc (.cells #[.string ⟨#[]⟩, .string ⟨#[]⟩, .string ⟨#[]⟩, .slice none 0 0, .slice none 0 0, .string ⟨#[]⟩, .slice none 0 0, .slice none 0 0, .string ⟨#[]⟩, .int .i64 0, .int .i64 0, .string ⟨#[]⟩, .string ⟨#[]⟩, .slice none 0 0, .slice none 0 0, .slice none 0 0, .string ⟨#[]⟩, .int .i64 0, .int .i64 0, .string ⟨#[]⟩, .string ⟨#[]⟩, .slice none 0 0, .string ⟨#[]⟩] 34) = w1 := ⟨_, rfl⟩
 obtain ⟨w2, hw2⟩ : ∃ w2, w1.alloc (.cells ((stZ s.op s.tb).cells stPZ).toArray 34) = w2 := ⟨_, rfl⟩
 have hs0 : w0.heap.size = w.heap.size + 1 := by rw [← HW.out]; simp
 have kr1 : Blk w1 (w.heap.size + 1) 34 ((stZ [] []).cells stPZ).toArray := by rw [← hs0, ← hw1]; exact Blk.new _ _ _
 have kr2 : Blk w2 (w.heap.size + 1) 34 ((stZ [] []).cells stPZ).toArray := by rw [← hw2]; exact kr1.alloc _
 have ko2 : Blk w2 w1.heap.size 34 ((stZ s.op s.tb).cells stPZ).toArray := by rw [← hw2]; exact Blk.new _ _ _
 have hl01 : w.heap.size < w0.heap.size := ks0.lt
 have hl12 : w.heap.size + 1 < w1.heap.size := kr1.lt
 have hl23 : w1.heap.size < w2.heap.size := ko2.lt
 have hb02 : Below w0.heap.size w0 w2 := by rw [← hw2, ← hw1]; exact bl
 have hb2 : Below w.heap.size w w2 := hb0.trans (hb02.mono hz0)
 have hz2 := hb2.size
 have hs1 : w1.heap.size = w.heap.size + 1 + 1 := by rw [← hw1, ← hs0]; simp
 have HKB : Hid (∀ Z : World, Below w1.heap.size w2 Z → Blk Z w.heap.size 34 (s.cells p).toArray) := fun Z hz => (ks0.below hb02 ks0.lt).below hz (by omega)
 have HKR : Hid (∀ Z : World, Below w1.heap.size w2 Z → Blk Z (w.heap.size + 1) 34 ((stZ [] []).cells stPZ).toArray) := fun Z hz => kr2.below hz hl12
 have HM : Hid (∀ Y : World, Below w1.heap.size w2 Y → StH s p kc ks kw (Old w.heap.size) Y) := fun Y hY => hM.keep fun b hb => by
  have hb' : b < w.heap.size := hb
  exact ⟨hb', fun o => (hY.cell (p := ⟨b, o, none⟩) (show b < w1.heap.size by omega)).trans (hb2.cell (p := ⟨b, o, none⟩) hb')⟩
 have HBB : Hid (∀ Z : World, Below w1.heap.size w2 Z → Below w.heap.size w Z) := fun Z hz => hb2.trans (hz.mono (by omega))
 obtain ⟨PC, hPC⟩ : ∃ B, perhapsE s.chk = B := ⟨_, rfl⟩
 obtain ⟨PW, hPW⟩ : ∃ B, perhapsE s.whr = B := ⟨_, rfl⟩
 obtain ⟨TC, hTC⟩ : ∃ B, condT s.chk [] = B := ⟨_, rfl⟩
 obtain ⟨TW, hTW⟩ : ∃ B, condT s.whr wWhere = B := ⟨_, rfl⟩
 have HC1 : Hid (∀ Y : World, Below w1.heap.size w2 Y → w.heap.size ≤ Y.heap.size → Calls Tryz.prog 108 #[.agg #[.string ⟨s.chk.op.toArray⟩, .int .i64 s.chk.v.k, .int .i64 s.chk.v.i, .string ⟨s.chk.v.s.toArray⟩, .string ⟨s.chk.s.toArray⟩, .slice p.chk.a s.chk.l.length p.chk.c], .string ⟨#[]⟩] Y (Ret (.tuple #[.string ⟨TC.toArray⟩, .bool PC]) Y)) := fun Y hY hz => by
  rw [← hTC, ← hPC]
  exact rcond_any s.chk [] p.chk.a p.chk.c kc Y hok.chk hok.num.1 (exq_s (HM.out Y hY).2.2.2.2.1 hz) hlc (by decide)
 have HC2 : Hid (∀ Y : World, Below w1.heap.size w2 Y → w.heap.size ≤ Y.heap.size → Calls Tryz.prog 108 #[.agg #[.string ⟨s.whr.op.toArray⟩, .int .i64 s.whr.v.k, .int .i64 s.whr.v.i, .string ⟨s.whr.v.s.toArray⟩, .string ⟨s.whr.s.toArray⟩, .slice p.whr.a s.whr.l.length p.whr.c], .string ⟨#[87, 72, 69, 82, 69]⟩] Y (Ret (.tuple #[.string ⟨TW.toArray⟩, .bool PW]) Y)) := fun Y hY hz => by
  rw [← hTW, ← hPW]
  exact rcond_any s.whr wWhere p.whr.a p.whr.c kw Y hok.whr hok.num.2.1 (exq_s (HM.out Y hY).2.2.2.2.2.2.2 hz) hlw (by decide)
 have hlTC : TC.length ≤ 1002000 := by rw [← hTC]; exact condT_len _ _ (by decide) hok.num.1
 have hlTW : TW.length ≤ 1002000 := by rw [← hTW]; exact condT_len _ _ (by decide) hok.num.2.1
 have htb := hok.tb
 have hot := hok.ot
 have hkey := hok.key
 have hrole := hok.role
 have HS1 := Lib.hid hs1
 have HKS := Lib.hid ks0
 have HW1 := Lib.hid hw1
 have HW2 := Lib.hid hw2
 have HOP := Lib.hid hop
 have HPC := Lib.hid hPC
 have HPW := Lib.hid hPW
 have HTC := Lib.hid hTC
 have HTW := Lib.hid hTW
 have hOK : okD s = perhapsE s.whr := by unfold okD; rw [if_neg (by rw [hop]; decide), if_neg (by rw [hop]; decide), if_neg (by rw [hop]; decide), if_neg (by rw [hop]; decide), if_pos (by rw [hop]; first | done | decide)]
 have hOW : ownS s = ⟨s.op, s.tb, [], [], [], [], [], [], ex0, [], [], s.whr, []⟩ := by unfold ownS; rw [if_neg (by rw [hop]; decide), if_neg (by rw [hop]; decide), if_neg (by rw [hop]; decide), if_pos (by rw [hop]; first | done | decide)]
 have hOP : ownP s p = ⟨slZ, slZ, slZ, slZ, slZ, slZ, slZ, p.whr⟩ := by unfold ownP; rw [if_neg (by rw [hop]; decide), if_neg (by rw [hop]; decide), if_neg (by rw [hop]; decide), if_pos (by rw [hop]; first | done | decide)]
 rw [hPW] at hOK
 have hT : textS s = [68, 69, 76, 69, 84, 69, 32, 70, 82, 79, 77, 32] ++ s.tb ++ whereT s.whr := by unfold textS; rw [if_neg (by rw [hop]; decide), if_neg (by rw [hop]; decide), if_neg (by rw [hop]; decide), if_neg (by rw [hop]; decide), if_pos (by rw [hop]; first | done | decide)]
 have HT : Hid (PW = true → [68, 69, 76, 69, 84, 69, 32, 70, 82, 79, 77, 32] ++ s.tb ++ TW = textS s) := fun h => by rw [hT, ← hTW, cond_where (hPW.trans h)]
 have HOK := Lib.hid hOK
 have HOWN := Lib.hid (And.intro hOW hOP)
 clear hT hOK hOW hOP
 clear hQ hM hb0 ks0 hw1 hw2 kr1 kr2 hPC hPW hTC hTW hs0 hs1 hop hz0 hl01 hb02
 have s0 : w1.cell? ⟨w.heap.size, 0, none⟩ = some (.string ⟨s.op.toArray⟩) := by rw [← HW1.out]; exact (HKS.out.alloc _).cell 0
 have s1 : w1.cell? ⟨w.heap.size, 1, none⟩ = some (.string ⟨s.tb.toArray⟩) := by rw [← HW1.out]; exact (HKS.out.alloc _).cell 1
 go_enter Tryz.func64, Tryz.ntmps64
 go_upto_region 1 with fail
 rw [show World.alloc (World.alloc w _) _ = w1 from (congrArg (fun z => World.alloc z _) HW.out).trans HW1.out]
 go_upto_region 2 with (refine wpList_store_row rfl 34 _ _ rfl w1.heap.size ((stZ s.op s.tb).cells stPZ).toArray rfl rfl 34 _ (heap_alloc_last _ _) size_st rfl (one_st _ _) ?_)
 rw [show World.setRow _ _ _ = w2 from (World.setRow_alloc_new _ _ _ _).trans HW2.out]
 clear s0 s1 HW HW1 HW2 HKS
 have hc2 : Below w1.heap.size w2 w2 := Below.refl _ _
 obtain ⟨-, -, -, -, -, -, -, -, s8, s9, s10, s11, s12, s13, -, -, -, -, -, -, -, -, -⟩ := (HKB.out w2 hc2).st
 go_wp2_with fail
 refine (HC1.out w2 hc2 hz2).mono ?_
 rintro en w3 ⟨rfl, hb3⟩
 have hc3 : Below w1.heap.size w2 w3 := hb3.mono (Nat.le_of_lt hl23)
 have hz3 := hb3.size
 clear s8 s9 s10 s11 s12 s13
 obtain ⟨-, -, -, -, -, -, -, -, -, -, -, -, -, -, -, -, s16, s17, s18, s19, s20, s21, -⟩ := (HKB.out w3 hc3).st
 go_wp2_with fail
 refine (HC2.out w3 hc3 (by omega)).mono ?_
 rintro en w4 ⟨rfl, hb4⟩
 have hz4 := hb4.size
 have hc4 : Below w1.heap.size w2 w4 := hc3.trans (hb4.mono (by omega))
 clear s16 s17 s18 s19 s20 s21
 have ko4 : Blk w4 w1.heap.size 34 ((stZ s.op s.tb).cells stPZ).toArray := (ko2.below hb3 hl23).below hb4 (by omega)
 have o_create : (s.op == [99, 114, 101, 97, 116, 101]) = false := by rw [HOP.out]; rfl
 have o_drop : (s.op == [100, 114, 111, 112]) = false := by rw [HOP.out]; rfl
 have o_insert : (s.op == [105, 110, 115, 101, 114, 116]) = false := by rw [HOP.out]; rfl
 have o_update : (s.op == [117, 112, 100, 97, 116, 101]) = false := by rw [HOP.out]; rfl
 have o_delete : (s.op == [100, 101, 108, 101, 116, 101]) = true := by rw [HOP.out]; rfl
 obtain ⟨s0, -, -, -, -, -, -, -, -, -, -, -, -, -, -, -, s16, s17, s18, s19, s20, s21, -⟩ := (HKB.out w4 hc4).st
 have z16 := ko4.frozen 16
 have z17 := ko4.frozen 17
 have z18 := ko4.frozen 18
 have z19 := ko4.frozen 19
 have z20 := ko4.frozen 20
 have z21 := ko4.frozen 21
 have r16 : w4.cell? ⟨w1.heap.size, 16, none⟩ = some (.string ⟨#[]⟩) := ko4.cell 16
 have r17 : w4.cell? ⟨w1.heap.size, 17, none⟩ = some (.int .i64 0) := ko4.cell 17
 have r18 : w4.cell? ⟨w1.heap.size, 18, none⟩ = some (.int .i64 0) := ko4.cell 18
 have r19 : w4.cell? ⟨w1.heap.size, 19, none⟩ = some (.string ⟨#[]⟩) := ko4.cell 19
 have r20 : w4.cell? ⟨w1.heap.size, 20, none⟩ = some (.string ⟨#[]⟩) := ko4.cell 20
 have r21 : w4.cell? ⟨w1.heap.size, 21, none⟩ = some (.slice none 0 0) := ko4.cell 21
 go_upto_region 37 with fail
 obtain ⟨w5, hw5⟩ : ∃ w5, ((((((w4.setCell ⟨w1.heap.size, 16, none⟩ (.string ⟨s.whr.op.toArray⟩)).setCell ⟨w1.heap.size, 17, none⟩ (.int .i64 s.whr.v.k)).setCell ⟨w1.heap.size, 18, none⟩ (.int .i64 s.whr.v.i)).setCell ⟨w1.heap.size, 19, none⟩ (.string ⟨s.whr.v.s.toArray⟩)).setCell ⟨w1.heap.size, 20, none⟩ (.string ⟨s.whr.s.toArray⟩)).setCell ⟨w1.heap.size, 21, none⟩ (.slice p.whr.a s.whr.l.length p.whr.c)) = w5 := ⟨_, rfl⟩
 rw [hw5]
 have hkv : Blk w5 w1.heap.size 34 ((ownS s).cells (ownP s p)).toArray := by rw [← hw5]; exact own_set6 ko4 16 s.whr p.whr.a p.whr.c (by rw [HOWN.out.1, HOWN.out.2]; rfl)
 have hcv : Below w1.heap.size w2 w5 := by rw [← hw5]; exact bwS (bwS (bwS (bwS (bwS (bwS (hc4) (Nat.le_refl _)) (Nat.le_refl _)) (Nat.le_refl _)) (Nat.le_refl _)) (Nat.le_refl _)) (Nat.le_refl _)
 have hz5 := hcv.size
 have hsv : w1.heap.size < w5.heap.size := hkv.lt
 clear hw5 s0 s16 s17 s18 s19 s20 s21 r16 r17 r18 r19 r20 r21 z16 z17 z18 z19 z20 z21 o_create o_drop o_insert o_update o_delete ko4 ko2
 have HSX : Hid (∀ Y : World, Below w5.heap.size w5 Y → (Y.cell? ⟨w.heap.size, 1, none⟩ = some (.string ⟨s.tb.toArray⟩)) ∧ Blk Y w.heap.size 34 (s.cells p).toArray ∧ (∃ old : Array Value, old.size = 23 ∧ Blk Y (w.heap.size + 1) 34 old) ∧ Blk Y w1.heap.size 34 ((ownS s).cells (ownP s p)).toArray) := fun Y hY => by
  have hzY := hY.size
  have hcY : Below w1.heap.size w2 Y := hcv.trans (hY.mono (by omega))
  have kb := HKB.out Y hcY
  exact ⟨kb.cell 1, kb, ⟨_, rfl, HKR.out Y hcY⟩, hkv.below hY (by omega)⟩
 have HSR : Hid (∀ Y : World, ((Y.cell? ⟨w.heap.size, 1, none⟩ = some (.string ⟨s.tb.toArray⟩)) ∧ Blk Y w.heap.size 34 (s.cells p).toArray ∧ (∃ old : Array Value, old.size = 23 ∧ Blk Y (w.heap.size + 1) 34 old) ∧ Blk Y w1.heap.size 34 ((ownS s).cells (ownP s p)).toArray) → ((Y.setRow (w.heap.size + 1) ((ownS s).cells (ownP s p)).toArray).cell? ⟨w.heap.size, 1, none⟩ = some (.string ⟨s.tb.toArray⟩)) ∧ Blk (Y.setRow (w.heap.size + 1) ((ownS s).cells (ownP s p)).toArray) w.heap.size 34 (s.cells p).toArray ∧ (∃ old : Array Value, old.size = 23 ∧ Blk (Y.setRow (w.heap.size + 1) ((ownS s).cells (ownP s p)).toArray) (w.heap.size + 1) 34 old) ∧ Blk (Y.setRow (w.heap.size + 1) ((ownS s).cells (ownP s p)).toArray) w1.heap.size 34 ((ownS s).cells (ownP s p)).toArray) := fun Y h => by
  obtain ⟨-, kb, ⟨old, ho, kr⟩, kk⟩ := h
  have kb2 := kb.rowFar (g := w.heap.size + 1) (by omega) ((ownS s).cells (ownP s p)).toArray
  exact ⟨kb2.cell 1, kb2, ⟨_, rfl, kr.row _⟩, kk.rowFar (by omega) _⟩
 clear hkv
 refine rgn HSX fun hHeld => ?_
 refine tS [0, 1, 2, 3, 4] ?_
 iterate 5 (refine tC ?_; refine ap ?_)
 refine tN ?_
 refine wpAnyH_take (i := 5) (v := .agg (((ownS s).cells (ownP s p)).toArray)) rfl (by kernel_rfl) (by kernel_rfl) (by kernel_rfl) (fun _ _ _ h => h) (yields_row (34) _ rfl (by rfl) (w1.heap.size) rfl (34) (((ownS s).cells (ownP s p)).toArray) _ (Tryz.underlying34) rfl (size_st) (fun wq hSw => hSw.2.2.2)) (by assumption) ?_
 refine ap ?_
 refine tS [6, 7] ?_
 iterate 2 (refine tC ?_; refine ap ?_)
 refine tN ?_
 refine rdy 8 fun K hK => ?_
 refine step_store_row (by rfl) (34) _ _ rfl (w.heap.size + 1) (((ownS s).cells (ownP s p)).toArray) rfl rfl (34) (hHeld.2.2.1) (size_st) (one_own s p) ?_
 refine hK.out _ _ (HSR.out _ hHeld) (fun hHeld => ?_)
 clear hK K
 refine ap ?_
 refine tS [9] (tC ?_)
 refine ap (tN ?_)
 refine wpAnyH_done (by kernel_rfl) ?_ _
 have hbl : Below w1.heap.size w2 w5.drew := hcv.drew
 have hres : (loadVar 34 ⟨w.heap.size + 1, 0, none⟩).run Tryz.prog (w5.drew.setRow (w.heap.size + 1) ((ownS s).cells (ownP s p)).toArray) = .ok (.agg ((ownS s).cells (ownP s p)).toArray) (w5.drew.setRow (w.heap.size + 1) ((ownS s).cells (ownP s p)).toArray) := wr_res ((HKR.out _ hbl).row _)
 have hbw := bwRow (HBB.out _ hbl) (g := w.heap.size + 1) (by omega) ((ownS s).cells (ownP s p)).toArray
 go_wp2_with fail
 refine bodyPost_ret (v := .tuple #[.string ⟨([68, 69, 76, 69, 84, 69, 32, 70, 82, 79, 77, 32] ++ s.tb ++ TW).toArray⟩, .agg ((ownS s).cells (ownP s p)).toArray, .bool PW]) (by first | (simp [results, Tryz.results64, asAddr, hres]; done) | (simp [results, Tryz.results64, asAddr, hres, Sem.run_bind]; done)) rfl ?_
 exact ⟨_, _, rfl, HOK.out.symm, HT.out, hbw⟩
set_option maxRecDepth 100000 in
set_option maxHeartbeats 8000000 in
theorem wr_select (s : St) (p : StP) (w : World) (hok : s.Ok) (hlc : s.chk.l.length ≤ maxLen) (hlw : s.whr.l.length ≤ maxLen) (hQ : StQ 1000 s p (Old w.heap.size) w) (hop : s.op = oSelect) : Calls Tryz.prog 64 #[.agg (s.cells p).toArray] w (RetWr s p w) := by
 obtain ⟨kc, ks, kw, hM⟩ := hQ.h
 refine stBox_in s p w fun w0 HW ks0 hb0 hz0 HST HB => ?_
 obtain ⟨w1, hw1⟩ : ∃ w1, w0.alloc (.cells #[.string ⟨#[]⟩, .string ⟨#[]⟩, .string ⟨#[]⟩, .slice none 0 0, .slice none 0 0, .string ⟨#[]⟩, .slice none 0 0, .slice none 0 0, .string ⟨#[]⟩, .int .i64 0, .int .i64 0, .string ⟨#[]⟩, .string ⟨#[]⟩, .slice none 0 0, .slice none 0 0, .slice none 0 0, .string ⟨#[]⟩, .int .i64 0, .int .i64 0, .string ⟨#[]⟩, .string ⟨#[]⟩, .slice none 0 0, .string ⟨#[]⟩] 34) = w1 := ⟨_, rfl⟩
 obtain ⟨w2, hw2⟩ : ∃ w2, w1.alloc (.cells ((stZ s.op s.tb).cells stPZ).toArray 34) = w2 := ⟨_, rfl⟩
 have hs0 : w0.heap.size = w.heap.size + 1 := by rw [← HW.out]; simp
 have kr1 : Blk w1 (w.heap.size + 1) 34 ((stZ [] []).cells stPZ).toArray := by rw [← hs0, ← hw1]; exact Blk.new _ _ _
 have kr2 : Blk w2 (w.heap.size + 1) 34 ((stZ [] []).cells stPZ).toArray := by rw [← hw2]; exact kr1.alloc _
 have ko2 : Blk w2 w1.heap.size 34 ((stZ s.op s.tb).cells stPZ).toArray := by rw [← hw2]; exact Blk.new _ _ _
 have hl01 : w.heap.size < w0.heap.size := ks0.lt
 have hl12 : w.heap.size + 1 < w1.heap.size := kr1.lt
 have hl23 : w1.heap.size < w2.heap.size := ko2.lt
 have hb02 : Below w0.heap.size w0 w2 := by rw [← hw2, ← hw1]; exact bl
 have hb2 : Below w.heap.size w w2 := hb0.trans (hb02.mono hz0)
 have hz2 := hb2.size
 have hs1 : w1.heap.size = w.heap.size + 1 + 1 := by rw [← hw1, ← hs0]; simp
 have HKB : Hid (∀ Z : World, Below w1.heap.size w2 Z → Blk Z w.heap.size 34 (s.cells p).toArray) := fun Z hz => (ks0.below hb02 ks0.lt).below hz (by omega)
 have HKR : Hid (∀ Z : World, Below w1.heap.size w2 Z → Blk Z (w.heap.size + 1) 34 ((stZ [] []).cells stPZ).toArray) := fun Z hz => kr2.below hz hl12
 have HM : Hid (∀ Y : World, Below w1.heap.size w2 Y → StH s p kc ks kw (Old w.heap.size) Y) := fun Y hY => hM.keep fun b hb => by
  have hb' : b < w.heap.size := hb
  exact ⟨hb', fun o => (hY.cell (p := ⟨b, o, none⟩) (show b < w1.heap.size by omega)).trans (hb2.cell (p := ⟨b, o, none⟩) hb')⟩
 have HBB : Hid (∀ Z : World, Below w1.heap.size w2 Z → Below w.heap.size w Z) := fun Z hz => hb2.trans (hz.mono (by omega))
 obtain ⟨PC, hPC⟩ : ∃ B, perhapsE s.chk = B := ⟨_, rfl⟩
 obtain ⟨PW, hPW⟩ : ∃ B, perhapsE s.whr = B := ⟨_, rfl⟩
 obtain ⟨TC, hTC⟩ : ∃ B, condT s.chk [] = B := ⟨_, rfl⟩
 obtain ⟨TW, hTW⟩ : ∃ B, condT s.whr wWhere = B := ⟨_, rfl⟩
 have HC1 : Hid (∀ Y : World, Below w1.heap.size w2 Y → w.heap.size ≤ Y.heap.size → Calls Tryz.prog 108 #[.agg #[.string ⟨s.chk.op.toArray⟩, .int .i64 s.chk.v.k, .int .i64 s.chk.v.i, .string ⟨s.chk.v.s.toArray⟩, .string ⟨s.chk.s.toArray⟩, .slice p.chk.a s.chk.l.length p.chk.c], .string ⟨#[]⟩] Y (Ret (.tuple #[.string ⟨TC.toArray⟩, .bool PC]) Y)) := fun Y hY hz => by
  rw [← hTC, ← hPC]
  exact rcond_any s.chk [] p.chk.a p.chk.c kc Y hok.chk hok.num.1 (exq_s (HM.out Y hY).2.2.2.2.1 hz) hlc (by decide)
 have HC2 : Hid (∀ Y : World, Below w1.heap.size w2 Y → w.heap.size ≤ Y.heap.size → Calls Tryz.prog 108 #[.agg #[.string ⟨s.whr.op.toArray⟩, .int .i64 s.whr.v.k, .int .i64 s.whr.v.i, .string ⟨s.whr.v.s.toArray⟩, .string ⟨s.whr.s.toArray⟩, .slice p.whr.a s.whr.l.length p.whr.c], .string ⟨#[87, 72, 69, 82, 69]⟩] Y (Ret (.tuple #[.string ⟨TW.toArray⟩, .bool PW]) Y)) := fun Y hY hz => by
  rw [← hTW, ← hPW]
  exact rcond_any s.whr wWhere p.whr.a p.whr.c kw Y hok.whr hok.num.2.1 (exq_s (HM.out Y hY).2.2.2.2.2.2.2 hz) hlw (by decide)
 have hlTC : TC.length ≤ 1002000 := by rw [← hTC]; exact condT_len _ _ (by decide) hok.num.1
 have hlTW : TW.length ≤ 1002000 := by rw [← hTW]; exact condT_len _ _ (by decide) hok.num.2.1
 have htb := hok.tb
 have hot := hok.ot
 have hkey := hok.key
 have hrole := hok.role
 have HS1 := Lib.hid hs1
 have HKS := Lib.hid ks0
 have HW1 := Lib.hid hw1
 have HW2 := Lib.hid hw2
 have HOP := Lib.hid hop
 have HPC := Lib.hid hPC
 have HPW := Lib.hid hPW
 have HTC := Lib.hid hTC
 have HTW := Lib.hid hTW
 have hOK : okD s = perhapsE s.whr := by unfold okD; rw [if_neg (by rw [hop]; decide), if_neg (by rw [hop]; decide), if_neg (by rw [hop]; decide), if_neg (by rw [hop]; decide), if_pos (by rw [hop]; first | done | decide)]
 have hOW : ownS s = ⟨s.op, s.tb, [], [], [], [], [], [], ex0, [], [], s.whr, []⟩ := by unfold ownS; rw [if_neg (by rw [hop]; decide), if_neg (by rw [hop]; decide), if_neg (by rw [hop]; decide), if_pos (by rw [hop]; first | done | decide)]
 have hOP : ownP s p = ⟨slZ, slZ, slZ, slZ, slZ, slZ, slZ, p.whr⟩ := by unfold ownP; rw [if_neg (by rw [hop]; decide), if_neg (by rw [hop]; decide), if_neg (by rw [hop]; decide), if_pos (by rw [hop]; first | done | decide)]
 rw [hPW] at hOK
 have hT : textS s = [83, 69, 76, 69, 67, 84, 32, 42, 32, 70, 82, 79, 77, 32] ++ s.tb ++ whereT s.whr := by unfold textS; rw [if_neg (by rw [hop]; decide), if_neg (by rw [hop]; decide), if_neg (by rw [hop]; decide), if_neg (by rw [hop]; decide), if_neg (by rw [hop]; decide), if_pos (by rw [hop]; first | done | decide)]
 have HT : Hid (PW = true → [83, 69, 76, 69, 67, 84, 32, 42, 32, 70, 82, 79, 77, 32] ++ s.tb ++ TW = textS s) := fun h => by rw [hT, ← hTW, cond_where (hPW.trans h)]
 have HOK := Lib.hid hOK
 have HOWN := Lib.hid (And.intro hOW hOP)
 clear hT hOK hOW hOP
 clear hQ hM hb0 ks0 hw1 hw2 kr1 kr2 hPC hPW hTC hTW hs0 hs1 hop hz0 hl01 hb02
 have s0 : w1.cell? ⟨w.heap.size, 0, none⟩ = some (.string ⟨s.op.toArray⟩) := by rw [← HW1.out]; exact (HKS.out.alloc _).cell 0
 have s1 : w1.cell? ⟨w.heap.size, 1, none⟩ = some (.string ⟨s.tb.toArray⟩) := by rw [← HW1.out]; exact (HKS.out.alloc _).cell 1
 go_enter Tryz.func64, Tryz.ntmps64
 go_upto_region 1 with fail
 rw [show World.alloc (World.alloc w _) _ = w1 from (congrArg (fun z => World.alloc z _) HW.out).trans HW1.out]
 go_upto_region 2 with (refine wpList_store_row rfl 34 _ _ rfl w1.heap.size ((stZ s.op s.tb).cells stPZ).toArray rfl rfl 34 _ (heap_alloc_last _ _) size_st rfl (one_st _ _) ?_)
 rw [show World.setRow _ _ _ = w2 from (World.setRow_alloc_new _ _ _ _).trans HW2.out]
 clear s0 s1 HW HW1 HW2 HKS
 have hc2 : Below w1.heap.size w2 w2 := Below.refl _ _
 obtain ⟨-, -, -, -, -, -, -, -, s8, s9, s10, s11, s12, s13, -, -, -, -, -, -, -, -, -⟩ := (HKB.out w2 hc2).st
 go_wp2_with fail
 refine (HC1.out w2 hc2 hz2).mono ?_
 rintro en w3 ⟨rfl, hb3⟩
 have hc3 : Below w1.heap.size w2 w3 := hb3.mono (Nat.le_of_lt hl23)
 have hz3 := hb3.size
 clear s8 s9 s10 s11 s12 s13
 obtain ⟨-, -, -, -, -, -, -, -, -, -, -, -, -, -, -, -, s16, s17, s18, s19, s20, s21, -⟩ := (HKB.out w3 hc3).st
 go_wp2_with fail
 refine (HC2.out w3 hc3 (by omega)).mono ?_
 rintro en w4 ⟨rfl, hb4⟩
 have hz4 := hb4.size
 have hc4 : Below w1.heap.size w2 w4 := hc3.trans (hb4.mono (by omega))
 clear s16 s17 s18 s19 s20 s21
 have ko4 : Blk w4 w1.heap.size 34 ((stZ s.op s.tb).cells stPZ).toArray := (ko2.below hb3 hl23).below hb4 (by omega)
 have o_create : (s.op == [99, 114, 101, 97, 116, 101]) = false := by rw [HOP.out]; rfl
 have o_drop : (s.op == [100, 114, 111, 112]) = false := by rw [HOP.out]; rfl
 have o_insert : (s.op == [105, 110, 115, 101, 114, 116]) = false := by rw [HOP.out]; rfl
 have o_update : (s.op == [117, 112, 100, 97, 116, 101]) = false := by rw [HOP.out]; rfl
 have o_delete : (s.op == [100, 101, 108, 101, 116, 101]) = false := by rw [HOP.out]; rfl
 have o_select : (s.op == [115, 101, 108, 101, 99, 116]) = true := by rw [HOP.out]; rfl
 obtain ⟨s0, -, -, -, -, -, -, -, -, -, -, -, -, -, -, -, s16, s17, s18, s19, s20, s21, -⟩ := (HKB.out w4 hc4).st
 have z16 := ko4.frozen 16
 have z17 := ko4.frozen 17
 have z18 := ko4.frozen 18
 have z19 := ko4.frozen 19
 have z20 := ko4.frozen 20
 have z21 := ko4.frozen 21
 have r16 : w4.cell? ⟨w1.heap.size, 16, none⟩ = some (.string ⟨#[]⟩) := ko4.cell 16
 have r17 : w4.cell? ⟨w1.heap.size, 17, none⟩ = some (.int .i64 0) := ko4.cell 17
 have r18 : w4.cell? ⟨w1.heap.size, 18, none⟩ = some (.int .i64 0) := ko4.cell 18
 have r19 : w4.cell? ⟨w1.heap.size, 19, none⟩ = some (.string ⟨#[]⟩) := ko4.cell 19
 have r20 : w4.cell? ⟨w1.heap.size, 20, none⟩ = some (.string ⟨#[]⟩) := ko4.cell 20
 have r21 : w4.cell? ⟨w1.heap.size, 21, none⟩ = some (.slice none 0 0) := ko4.cell 21
 go_upto_region 40 with fail
 obtain ⟨w5, hw5⟩ : ∃ w5, ((((((w4.setCell ⟨w1.heap.size, 16, none⟩ (.string ⟨s.whr.op.toArray⟩)).setCell ⟨w1.heap.size, 17, none⟩ (.int .i64 s.whr.v.k)).setCell ⟨w1.heap.size, 18, none⟩ (.int .i64 s.whr.v.i)).setCell ⟨w1.heap.size, 19, none⟩ (.string ⟨s.whr.v.s.toArray⟩)).setCell ⟨w1.heap.size, 20, none⟩ (.string ⟨s.whr.s.toArray⟩)).setCell ⟨w1.heap.size, 21, none⟩ (.slice p.whr.a s.whr.l.length p.whr.c)) = w5 := ⟨_, rfl⟩
 rw [hw5]
 have hkv : Blk w5 w1.heap.size 34 ((ownS s).cells (ownP s p)).toArray := by rw [← hw5]; exact own_set6 ko4 16 s.whr p.whr.a p.whr.c (by rw [HOWN.out.1, HOWN.out.2]; rfl)
 have hcv : Below w1.heap.size w2 w5 := by rw [← hw5]; exact bwS (bwS (bwS (bwS (bwS (bwS (hc4) (Nat.le_refl _)) (Nat.le_refl _)) (Nat.le_refl _)) (Nat.le_refl _)) (Nat.le_refl _)) (Nat.le_refl _)
 have hz5 := hcv.size
 have hsv : w1.heap.size < w5.heap.size := hkv.lt
 clear hw5 s0 s16 s17 s18 s19 s20 s21 r16 r17 r18 r19 r20 r21 z16 z17 z18 z19 z20 z21 o_create o_drop o_insert o_update o_delete o_select ko4 ko2
 have HSX : Hid (∀ Y : World, Below w5.heap.size w5 Y → (Y.cell? ⟨w.heap.size, 1, none⟩ = some (.string ⟨s.tb.toArray⟩)) ∧ Blk Y w.heap.size 34 (s.cells p).toArray ∧ (∃ old : Array Value, old.size = 23 ∧ Blk Y (w.heap.size + 1) 34 old) ∧ Blk Y w1.heap.size 34 ((ownS s).cells (ownP s p)).toArray) := fun Y hY => by
  have hzY := hY.size
  have hcY : Below w1.heap.size w2 Y := hcv.trans (hY.mono (by omega))
  have kb := HKB.out Y hcY
  exact ⟨kb.cell 1, kb, ⟨_, rfl, HKR.out Y hcY⟩, hkv.below hY (by omega)⟩
 have HSR : Hid (∀ Y : World, ((Y.cell? ⟨w.heap.size, 1, none⟩ = some (.string ⟨s.tb.toArray⟩)) ∧ Blk Y w.heap.size 34 (s.cells p).toArray ∧ (∃ old : Array Value, old.size = 23 ∧ Blk Y (w.heap.size + 1) 34 old) ∧ Blk Y w1.heap.size 34 ((ownS s).cells (ownP s p)).toArray) → ((Y.setRow (w.heap.size + 1) ((ownS s).cells (ownP s p)).toArray).cell? ⟨w.heap.size, 1, none⟩ = some (.string ⟨s.tb.toArray⟩)) ∧ Blk (Y.setRow (w.heap.size + 1) ((ownS s).cells (ownP s p)).toArray) w.heap.size 34 (s.cells p).toArray ∧ (∃ old : Array Value, old.size = 23 ∧ Blk (Y.setRow (w.heap.size + 1) ((ownS s).cells (ownP s p)).toArray) (w.heap.size + 1) 34 old) ∧ Blk (Y.setRow (w.heap.size + 1) ((ownS s).cells (ownP s p)).toArray) w1.heap.size 34 ((ownS s).cells (ownP s p)).toArray) := fun Y h => by
  obtain ⟨-, kb, ⟨old, ho, kr⟩, kk⟩ := h
  have kb2 := kb.rowFar (g := w.heap.size + 1) (by omega) ((ownS s).cells (ownP s p)).toArray
  exact ⟨kb2.cell 1, kb2, ⟨_, rfl, kr.row _⟩, kk.rowFar (by omega) _⟩
 clear hkv
 refine rgn HSX fun hHeld => ?_
 refine tS [0, 1, 2, 3, 4] ?_
 iterate 5 (refine tC ?_; refine ap ?_)
 refine tN ?_
 refine wpAnyH_take (i := 5) (v := .agg (((ownS s).cells (ownP s p)).toArray)) rfl (by kernel_rfl) (by kernel_rfl) (by kernel_rfl) (fun _ _ _ h => h) (yields_row (34) _ rfl (by rfl) (w1.heap.size) rfl (34) (((ownS s).cells (ownP s p)).toArray) _ (Tryz.underlying34) rfl (size_st) (fun wq hSw => hSw.2.2.2)) (by assumption) ?_
 refine ap ?_
 refine tS [6, 7] ?_
 iterate 2 (refine tC ?_; refine ap ?_)
 refine tN ?_
 refine rdy 8 fun K hK => ?_
 refine step_store_row (by rfl) (34) _ _ rfl (w.heap.size + 1) (((ownS s).cells (ownP s p)).toArray) rfl rfl (34) (hHeld.2.2.1) (size_st) (one_own s p) ?_
 refine hK.out _ _ (HSR.out _ hHeld) (fun hHeld => ?_)
 clear hK K
 refine ap ?_
 refine tS [9] (tC ?_)
 refine ap (tN ?_)
 refine wpAnyH_done (by kernel_rfl) ?_ _
 have hbl : Below w1.heap.size w2 w5.drew := hcv.drew
 have hres : (loadVar 34 ⟨w.heap.size + 1, 0, none⟩).run Tryz.prog (w5.drew.setRow (w.heap.size + 1) ((ownS s).cells (ownP s p)).toArray) = .ok (.agg ((ownS s).cells (ownP s p)).toArray) (w5.drew.setRow (w.heap.size + 1) ((ownS s).cells (ownP s p)).toArray) := wr_res ((HKR.out _ hbl).row _)
 have hbw := bwRow (HBB.out _ hbl) (g := w.heap.size + 1) (by omega) ((ownS s).cells (ownP s p)).toArray
 go_wp2_with fail
 refine bodyPost_ret (v := .tuple #[.string ⟨([83, 69, 76, 69, 67, 84, 32, 42, 32, 70, 82, 79, 77, 32] ++ s.tb ++ TW).toArray⟩, .agg ((ownS s).cells (ownP s p)).toArray, .bool PW]) (by first | (simp [results, Tryz.results64, asAddr, hres]; done) | (simp [results, Tryz.results64, asAddr, hres, Sem.run_bind]; done)) rfl ?_
 exact ⟨_, _, rfl, HOK.out.symm, HT.out, hbw⟩
end Go.Proofs.YtchilcchogcibaaGreatDoor
