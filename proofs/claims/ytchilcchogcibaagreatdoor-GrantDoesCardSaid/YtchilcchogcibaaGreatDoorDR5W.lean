/- The document's text of a statement, by its Op, and the parts that it names: exactly where the Op is a right, SELECT, DELETE, DROP or COPY; elsewhere that it answers. Condition: a statement whose texts and lists are no longer than a thousand, of no more than twenty names, columns, uniques, references and sets.. -/
import Derived.Test.YtchilcchogcibaaGreatDoorDRCreate
import Derived.Test.YtchilcchogcibaaGreatDoorDRowReg
set_option maxRecDepth 100000
set_option maxHeartbeats 16000000
namespace Go.Proofs.YtchilcchogcibaaGreatDoor
open Go.RowKit
attribute [local go_sem] ByteArray.extract_mk ba_get ba_append
attribute [local go_sem ↓] Go.wp_at_zero Go.wp_at_succ
def rightO (op : List UInt8) : Prop := op = oRead ∨ op = oWrite ∨ op = oUnread ∨ op = oUnwrite
def strongO (op : List UInt8) : Prop := op = oDrop ∨ op = oDelete ∨ op = oSelect ∨ op = oCopy ∨ rightO op
def otherO (op : List UInt8) : Prop := ¬ op = oCreate ∧ ¬ op = oInsert ∧ ¬ op = oUpdate ∧ ¬ op = oJoin ∧ ¬ op = oGroup ∧ ¬ strongO op
structure St.small (s : St) : Prop where
 n : s.names.length ≤ 20
 c : s.cols.length ≤ 20
 u : s.uniq.length ≤ 20
 r : s.refs.length ≤ 20
 s : s.sets.length ≤ 20
def OWV (s : St) (p : StP) (T : List UInt8) (K : Bool) : Value := .tuple #[.string ⟨T.toArray⟩, .agg ((ownS s).cells (ownP s p)).toArray, .bool K]
def RetWr (s : St) (p : StP) (w : World) (en : Ending) (w' : World) : Prop :=
 ∃ (T : List UInt8) (K : Bool), en = .returned (OWV s p T K) ∧ T.length ≤ 900000 ∧ (strongO s.op → K = okD s ∧ (K = true → T = textS s)) ∧ Below w.heap.size w w'
theorem one_own (s : St) (p : StP) : ((ownS s).cells (ownP s p)).toArray.all (·.oneCell') = true := one_st _ _
theorem wr_res {s : St} {p : StP} {W : World} {g : Nat} (hg : Blk W g 34 ((ownS s).cells (ownP s p)).toArray) :
  (loadVar 34 ⟨g, 0, none⟩).run Tryz.prog W = .ok (.agg ((ownS s).cells (ownP s p)).toArray) W := run_loadVar_row W g 34 34 _ (0, 0) _ hg Tryz.underlying34 rfl size_st
theorem cond_where {e : Ex} (h : perhapsE e = true) : condT e wWhere = whereT e := by
 unfold condT whereT
 cases hn : noneE e
 ·unfold perhapsE at h
  rw [hn, Bool.false_or] at h
  rw [if_pos h, if_pos rfl, if_neg (by decide)]
 ·rw [none_may hn, if_neg (by decide), if_pos rfl]
theorem cond_check {e : Ex} (h : perhapsE e = true) (a b : List UInt8) (ha : ¬ a = wWhere) (hb : b = a ++ [32]) : condT e a = checkT b e := by
 subst hb
 unfold condT checkT
 cases hn : noneE e
 ·unfold perhapsE at h
  rw [hn, Bool.false_or] at h
  rw [if_pos h, if_neg ha, if_neg (by decide)]
  simp
 ·rw [none_may hn, if_neg (by decide), if_pos rfl]
theorem joinC_len : ∀ l : List (List UInt8), (∀ x ∈ l, x.length ≤ 1000) → (joinL comma l).length ≤ l.length * 1010
 | [], _ => by simp [joinL]
 | [x], h => by
  have := h x (by simp)
  simp [joinL]; omega
 | x :: y :: r, h => by
  have h1 := h x (by simp)
  have ih := joinC_len (y :: r) (fun z hz => h z (by simp only [List.mem_cons] at hz ⊢; exact .inr hz))
  simp only [joinL, List.length_append, List.length_cons, comma, List.length_nil] at ih ⊢
  omega
theorem names_len (l : List (List UInt8)) (h : ∀ x ∈ l, x.length ≤ 1000) : (namesD l).1.length ≤ l.length * 1010 := by
 unfold namesD
 split
 ·exact joinC_len l h
 ·simp
theorem names_many (l : List (List UInt8)) : (namesD l).2 = manyB l 1 8 nameG := by
 unfold namesD manyB
 cases l.all nameG <;> simp
theorem names_text {l : List (List UInt8)} (h : manyB l 1 8 nameG = true) : (namesD l).1 = joinL comma l := by
 unfold manyB at h
 simp only [Bool.and_eq_true] at h
 unfold namesD
 rw [if_pos h.2]
theorem blk_eq {w : World} {g : Nat} {t : TypeId} {cs cs' : Array Value} (h : Blk w g t cs) (he : cs = cs') : Blk w g t cs' := he ▸ h
theorem own_set6 {w : World} {g : Nat} {t : TypeId} {cs cs' : Array Value} (h : Blk w g t cs) (i : Nat) (e : Ex) (A : Option Addr) (c : Nat)
  (he : (((((cs.setIfInBounds i (.string ⟨e.op.toArray⟩)).setIfInBounds (i + 1) (.int .i64 e.v.k)).setIfInBounds (i + 2) (.int .i64 e.v.i)).setIfInBounds (i + 3) (.string ⟨e.v.s.toArray⟩)).setIfInBounds (i + 4) (.string ⟨e.s.toArray⟩)).setIfInBounds (i + 5) (.slice A e.l.length c) = cs') :
  Blk ((((((w.setCell ⟨g, i, none⟩ (.string ⟨e.op.toArray⟩)).setCell ⟨g, i + 1, none⟩ (.int .i64 e.v.k)).setCell ⟨g, i + 2, none⟩ (.int .i64 e.v.i)).setCell ⟨g, i + 3, none⟩ (.string ⟨e.v.s.toArray⟩)).setCell ⟨g, i + 4, none⟩ (.string ⟨e.s.toArray⟩)).setCell ⟨g, i + 5, none⟩ (.slice A e.l.length c)) g t cs' := by
 rw [← he]
 exact (((((h.set_ i _).set_ (i + 1) _).set_ (i + 2) _).set_ (i + 3) _).set_ (i + 4) _).set_ (i + 5) _
section
variable {ops : Array Oper} {Q : Exit → Act → World → Prop} {md : Region.Mode} {S : World → Prop} {fuel : Nat} {listed : Array Bool} {a : Act} {w : World}
theorem rgnB {id B : Nat} {w0 : World} (HS : Hid (∀ Z : World, Below B w0 Z → S Z)) (h : S w.drew → wpAnyH Tryz.prog .any ops Q S ops.size (Array.replicate ops.size false) a w.drew)
  (hb : Below B w0 w.drew := by exact bl) (hm : Tryz.prog.follows .mixedOrders = true := by kernel_rfl) : (Code.region id ops true).wp Tryz.prog Q a w :=
 wp_region_held_drew hm (HS.out _ hb) h
theorem tkOwn (s : St) (p : StP) (i : Nat) {oi : Oper} {x : Operand} {g : Nat} (hi : ops[i]? = some oi) (ho : oi.op = .load 34 x) (F : ∀ wq, S wq → Blk wq g 34 ((ownS s).cells (ownP s p)).toArray) (h : wpAnyH Tryz.prog md ops Q S fuel (listed.setIfInBounds i true) (a.put oi.dst (.agg ((ownS s).cells (ownP s p)).toArray)) w)
  (hs : Region.noSelect ops = true := by kernel_rfl) (hf : Region.free md ops listed i = true := by kernel_rfl) (hr : (Region.ready md ops listed).contains i = true := by kernel_rfl)
  (hQ : ∀ c a w, Q (.panic c) (a.put oi.dst (.agg ((ownS s).cells (ownP s p)).toArray)) w → Q (.panic c) a w := by exact fun _ _ _ h => h) (hw : Region.wanted oi (yielded ops a.tmps) = true := by rfl) (hx : a.eval x = .pointer (some ⟨g, 0, none⟩) := by rfl) (hS : S w := by assumption) : wpAnyH Tryz.prog md ops Q S (fuel + 1) listed a w :=
 wpAnyH_take hi hs hf hr hQ (yields_row 34 x ho hw g hx 34 ((ownS s).cells (ownP s p)).toArray _ Tryz.underlying34 rfl size_st F) hS h
theorem stOwn (s : St) (p : StP) (i : Nat) {o : Oper} {x y : Operand} {g : Nat} (hi : ops[i]? = some o) (ho : o.op = .store 34 x y) (F : S w → ∃ old : Array Value, old.size = 23 ∧ Blk w g 34 old) (KEEP : S w → S (w.setRow g ((ownS s).cells (ownP s p)).toArray)) (h : S (w.setRow g ((ownS s).cells (ownP s p)).toArray) → wpAnyH Tryz.prog md ops Q S fuel (listed.setIfInBounds i true) (a.put o.dst undef) (w.setRow g ((ownS s).cells (ownP s p)).toArray))
  (hr : Region.ready md ops listed = [i] := by kernel_rfl) (hw : Region.wanted o (yielded ops a.tmps) = true := by rfl) (hx : a.eval x = .pointer (some ⟨g, 0, none⟩) := by rfl) (hy : a.eval y = .agg ((ownS s).cells (ownP s p)).toArray := by rfl) (hS : S w := by assumption) : wpAnyH Tryz.prog md ops Q S (fuel + 1) listed a w := by
 refine rdy i (fun K hK => ?_) hr hi
 refine step_store_row hw 34 x y ho g ((ownS s).cells (ownP s p)).toArray hx hy 34 (F hS) size_st (one_own s p) ?_
 exact hK.out _ _ (KEEP hS) h
end
theorem mkS (s : St) (p : StP) {w1 w2 wv : World} {g : Nat} (A : World → Prop) (hA : ∀ Y, Below w1.heap.size w2 Y → A Y) (hA2 : ∀ Y, A Y → Blk (Y.setRow (g + 1) ((ownS s).cells (ownP s p)).toArray) g 34 (s.cells p).toArray → A (Y.setRow (g + 1) ((ownS s).cells (ownP s p)).toArray)) (HKB : Hid (∀ Z : World, Below w1.heap.size w2 Z → Blk Z g 34 (s.cells p).toArray)) (HKR : Hid (∀ Z : World, Below w1.heap.size w2 Z → Blk Z (g + 1) 34 ((stZ [] []).cells stPZ).toArray))
  (hcv : Below w1.heap.size w2 wv) (hkv : Blk wv w1.heap.size 34 ((ownS s).cells (ownP s p)).toArray) (h1 : g + 1 < w1.heap.size) (h2 : w1.heap.size ≤ wv.heap.size) :
  Hid (∀ Y : World, Below wv.heap.size wv Y → A Y ∧ Blk Y g 34 (s.cells p).toArray ∧ (∃ old : Array Value, old.size = 23 ∧ Blk Y (g + 1) 34 old) ∧ Blk Y w1.heap.size 34 ((ownS s).cells (ownP s p)).toArray) ∧
  Hid (∀ Y : World, (A Y ∧ Blk Y g 34 (s.cells p).toArray ∧ (∃ old : Array Value, old.size = 23 ∧ Blk Y (g + 1) 34 old) ∧ Blk Y w1.heap.size 34 ((ownS s).cells (ownP s p)).toArray) → A (Y.setRow (g + 1) ((ownS s).cells (ownP s p)).toArray) ∧ Blk (Y.setRow (g + 1) ((ownS s).cells (ownP s p)).toArray) g 34 (s.cells p).toArray ∧ (∃ old : Array Value, old.size = 23 ∧ Blk (Y.setRow (g + 1) ((ownS s).cells (ownP s p)).toArray) (g + 1) 34 old) ∧ Blk (Y.setRow (g + 1) ((ownS s).cells (ownP s p)).toArray) w1.heap.size 34 ((ownS s).cells (ownP s p)).toArray) := by
 refine ⟨fun Y hY => ?_, fun Y h => ?_⟩
 ·have hcY := hcv.trans (hY.mono h2)
  exact ⟨hA Y hcY, HKB.out Y hcY, ⟨_, rfl, HKR.out Y hcY⟩, hkv.below hY hkv.lt⟩
 ·obtain ⟨a, kb, ⟨old, ho, kr⟩, kk⟩ := h
  have kb2 := kb.rowFar (g := g + 1) (by omega) ((ownS s).cells (ownP s p)).toArray
  exact ⟨hA2 Y a kb2, kb2, ⟨_, rfl, kr.row _⟩, kk.rowFar (by omega) _⟩
theorem wr_a (s : St) (p : StP) (w : World) (hok : s.Ok) (hlc : s.chk.l.length ≤ maxLen) (hlw : s.whr.l.length ≤ maxLen) (hsm : s.small) (hQ : StQ 1000 s p (Old w.heap.size) w) (O : List UInt8) (hop : s.op = O) (hcs : O = oCreate ∨ O = oInsert ∨ O = oUpdate ∨ O = oDrop ∨ (O = oDelete ∨ O = oSelect) ∨ O = oCopy ∨ rightO O ∨ otherO O) : Calls Tryz.prog 64 #[.agg (s.cells p).toArray] w (RetWr s p w) := by
 have HCS := Lib.hid hcs
 clear hcs
 obtain ⟨kc, ks, kw, hM⟩ := hQ.h
 refine stBox_in s p w fun w0 HW ks0 hb0 hz0 HST HB => ?_
 obtain ⟨w1, hw1⟩ : ∃ w1, w0.alloc (.cells #[.string ⟨#[]⟩, .string ⟨#[]⟩, .string ⟨#[]⟩, .slice none 0 0, .slice none 0 0, .string ⟨#[]⟩, .slice none 0 0, .slice none 0 0, .string ⟨#[]⟩, .int .i64 0, .int .i64 0, .string ⟨#[]⟩, .string ⟨#[]⟩, .slice none 0 0, .slice none 0 0, .slice none 0 0, .string ⟨#[]⟩, .int .i64 0, .int .i64 0, .string ⟨#[]⟩, .string ⟨#[]⟩, .slice none 0 0, .string ⟨#[]⟩] 34) = w1 := ⟨_, rfl⟩
 obtain ⟨w2, hw2⟩ : ∃ w2, w1.alloc (.cells ((stZ s.op s.tb).cells stPZ).toArray 34) = w2 := ⟨_, rfl⟩
 have hs0 : w0.heap.size = w.heap.size + 1 := by rw [← HW.out]; simp
 have kr1 : Blk w1 (w.heap.size + 1) 34 ((stZ [] []).cells stPZ).toArray := by rw [← hs0, ← hw1]; exact Blk.new _ _ _
 have kr2 : Blk w2 (w.heap.size + 1) 34 ((stZ [] []).cells stPZ).toArray := by rw [← hw2]; exact kr1.alloc _
 have ko2 : Blk w2 w1.heap.size 34 ((stZ s.op s.tb).cells stPZ).toArray := by rw [← hw2]; exact Blk.new _ _ _
 have hl01 : w.heap.size < w0.heap.size := ks0.lt
 have hl12 : w.heap.size + 1 < w1.heap.size := kr1.lt
 have hl23 : w1.heap.size < w2.heap.size := ko2.lt
 have hb02 : Below w0.heap.size w0 w2 := by rw [← hw2, ← hw1]; exact bl
 have hb2 : Below w.heap.size w w2 := hb0.trans (hb02.mono hz0)
 have hz2 := hb2.size
 have hs1 : w1.heap.size = w.heap.size + 1 + 1 := by rw [← hw1, ← hs0]; simp
 have HKB : Hid (∀ Z : World, Below w1.heap.size w2 Z → Blk Z w.heap.size 34 (s.cells p).toArray) := fun Z hz => (ks0.below hb02 ks0.lt).below hz (by omega)
 have HKR : Hid (∀ Z : World, Below w1.heap.size w2 Z → Blk Z (w.heap.size + 1) 34 ((stZ [] []).cells stPZ).toArray) := fun Z hz => kr2.below hz hl12
 have HM : Hid (∀ Y : World, Below w1.heap.size w2 Y → StH s p kc ks kw (Old w.heap.size) Y) := fun Y hY => hM.keep fun b hb => by
  have hb' : b < w.heap.size := hb
  exact ⟨hb', fun o => (hY.cell (p := ⟨b, o, none⟩) (show b < w1.heap.size by omega)).trans (hb2.cell (p := ⟨b, o, none⟩) hb')⟩
 have HBB : Hid (∀ Z : World, Below w1.heap.size w2 Z → Below w.heap.size w Z) := fun Z hz => hb2.trans (hz.mono (by omega))
 obtain ⟨PC, hPC⟩ : ∃ B, perhapsE s.chk = B := ⟨_, rfl⟩
 obtain ⟨PW, hPW⟩ : ∃ B, perhapsE s.whr = B := ⟨_, rfl⟩
 obtain ⟨TC, hTC⟩ : ∃ B, condT s.chk [] = B := ⟨_, rfl⟩
 obtain ⟨TW, hTW⟩ : ∃ B, condT s.whr wWhere = B := ⟨_, rfl⟩
 have HC1 : Hid (∀ Y : World, Below w1.heap.size w2 Y → w.heap.size ≤ Y.heap.size → Calls Tryz.prog 108 #[.agg #[.string ⟨s.chk.op.toArray⟩, .int .i64 s.chk.v.k, .int .i64 s.chk.v.i, .string ⟨s.chk.v.s.toArray⟩, .string ⟨s.chk.s.toArray⟩, .slice p.chk.a s.chk.l.length p.chk.c], .string ⟨#[]⟩] Y (Ret (.tuple #[.string ⟨TC.toArray⟩, .bool PC]) Y)) := fun Y hY hz => by
  rw [← hTC, ← hPC]
  exact rcond_any s.chk [] p.chk.a p.chk.c kc Y hok.chk hok.num.1 (exq_s (HM.out Y hY).2.2.2.2.1 hz) hlc (by decide)
 have HC2 : Hid (∀ Y : World, Below w1.heap.size w2 Y → w.heap.size ≤ Y.heap.size → Calls Tryz.prog 108 #[.agg #[.string ⟨s.whr.op.toArray⟩, .int .i64 s.whr.v.k, .int .i64 s.whr.v.i, .string ⟨s.whr.v.s.toArray⟩, .string ⟨s.whr.s.toArray⟩, .slice p.whr.a s.whr.l.length p.whr.c], .string ⟨#[87, 72, 69, 82, 69]⟩] Y (Ret (.tuple #[.string ⟨TW.toArray⟩, .bool PW]) Y)) := fun Y hY hz => by
  rw [← hTW, ← hPW]
  exact rcond_any s.whr wWhere p.whr.a p.whr.c kw Y hok.whr hok.num.2.1 (exq_s (HM.out Y hY).2.2.2.2.2.2.2 hz) hlw (by decide)
 have hlTC : TC.length ≤ 8000 := by rw [← hTC]; exact condT_le (by decide) hok.num.1
 have hlTW : TW.length ≤ 8000 := by rw [← hTW]; exact condT_le (by decide) hok.num.2.1
 have htb := hok.tb
 have hot := hok.ot
 have hkey := hok.key
 have hrole := hok.role
 have HS1 := Lib.hid hs1
 have HKS := Lib.hid ks0
 have HW1 := Lib.hid hw1
 have HW2 := Lib.hid hw2
 have HOP := Lib.hid hop
 have HPC := Lib.hid hPC
 have HPW := Lib.hid hPW
 have HTC := Lib.hid hTC
 have HTW := Lib.hid hTW
 have HCR : Hid (∀ Y : World, Below w1.heap.size w2 Y → w.heap.size ≤ Y.heap.size → Calls Tryz.prog 109 #[.agg (s.cells p).toArray] Y (RetCr Y)) := fun Y hY hz => rcreate_any s p Y hok hlc (hQ.keep (old_keep (HBB.out Y hY) hz)) ⟨hsm.c, hsm.u, hsm.r⟩
 have HN : Hid (∀ (t : List UInt8) (Y : World), t.length ≤ 1000 → Calls Tryz.prog 47 #[.string ⟨t.toArray⟩] Y (Ret (.bool (nameG t)) Y)) := fun t Y h => rnameG_any t Y (by omega)
 have HOKK := Lib.hid hok
 have HSM := Lib.hid hsm
 have h20 := hsm.s
 clear hQ hM hb0 ks0 hw1 hw2 kr1 kr2 hPC hPW hTC hTW hs0 hs1 hop hz0 hl01 hb02
 have s0 : w1.cell? ⟨w.heap.size, 0, none⟩ = some (.string ⟨s.op.toArray⟩) := by rw [← HW1.out]; exact (HKS.out.alloc _).cell 0
 have s1 : w1.cell? ⟨w.heap.size, 1, none⟩ = some (.string ⟨s.tb.toArray⟩) := by rw [← HW1.out]; exact (HKS.out.alloc _).cell 1
 go_in
 go_upto_region 1 with fail
 rw [show World.alloc (World.alloc w _) _ = w1 from (congrArg (fun z => World.alloc z _) HW.out).trans HW1.out]
 go_upto_region 2 with (refine wpList_store_row rfl 34 _ _ rfl w1.heap.size ((stZ s.op s.tb).cells stPZ).toArray rfl rfl 34 _ (heap_alloc_last _ _) size_st rfl (one_st _ _) ?_)
 rw [show World.setRow _ _ _ = w2 from (World.setRow_alloc_new _ _ _ _).trans HW2.out]
 clear s0 s1 HW HW1 HW2 HKS
 have hc2 : Below w1.heap.size w2 w2 := Below.refl _ _
 obtain ⟨-, -, -, -, -, -, -, -, s8, s9, s10, s11, s12, s13, -, -, -, -, -, -, -, -, -⟩ := (HKB.out w2 hc2).st
 go_wp2_with fail
 refine (HC1.out w2 hc2 hz2).mono ?_
 rintro en w3 ⟨rfl, hb3⟩
 have hc3 : Below w1.heap.size w2 w3 := hb3.mono (Nat.le_of_lt hl23)
 have hz3 := hb3.size
 clear s8 s9 s10 s11 s12 s13
 obtain ⟨-, -, -, -, -, -, -, -, -, -, -, -, -, -, -, -, s16, s17, s18, s19, s20, s21, -⟩ := (HKB.out w3 hc3).st
 go_wp2_with fail
 refine (HC2.out w3 hc3 (by omega)).mono ?_
 rintro en w4 ⟨rfl, hb4⟩
 have hz4 := hb4.size
 have hc4 : Below w1.heap.size w2 w4 := hc3.trans (hb4.mono (by omega))
 clear s16 s17 s18 s19 s20 s21
 have ko4 : Blk w4 w1.heap.size 34 ((stZ s.op s.tb).cells stPZ).toArray := (ko2.below hb3 hl23).below hb4 (by omega)
 clear hok hlc hlw hsm HST
 have HEND : Hid (∀ Z : World, Below w1.heap.size w2 Z → (loadVar 34 ⟨w.heap.size + 1, 0, none⟩).run Tryz.prog (Z.setRow (w.heap.size + 1) ((ownS s).cells (ownP s p)).toArray) = .ok (.agg ((ownS s).cells (ownP s p)).toArray) (Z.setRow (w.heap.size + 1) ((ownS s).cells (ownP s p)).toArray) ∧ Below w.heap.size w (Z.setRow (w.heap.size + 1) ((ownS s).cells (ownP s p)).toArray)) := fun Z hZ => ⟨wr_res ((HKR.out Z hZ).row _), bwRow (HBB.out Z hZ) (by omega) _⟩
 have hls : w.heap.size + 1 < w1.heap.size := hl12
 have s0 : w4.cell? ⟨w.heap.size, 0, none⟩ = some (.string ⟨s.op.toArray⟩) := (HKB.out w4 hc4).cell 0
 rw [HOP.out] at s0
 rcases HCS.out with hop | hop | hop | hop | hop | hop | hop | hop
 ·skip
  have HOWN : Hid (ownS s = ⟨s.op, s.tb, [], [], s.cols, s.key, s.uniq, s.refs, s.chk, [], [], ex0, []⟩ ∧ ownP s p = ⟨slZ, p.cols, p.uniq, p.refs, p.chk, slZ, slZ, slZ⟩) := by show _ ∧ _; unfold ownS ownP; rw [HOP.out, hop]; exact ⟨rfl, rfl⟩
  have HNS : Hid (¬ strongO s.op) := by show ¬ _; unfold strongO rightO; rw [HOP.out, hop]; decide
  rw [hop] at s0
  simp only [oCreate] at s0
  have HO := Lib.hid hop
  clear hop
  go_upto_region 6 with fail
  go_cut [] from 900 to 0 (fun wx => Blk wx w1.heap.size 34 ((ownS s).cells (ownP s p)).toArray ∧ Below w1.heap.size w2 wx)
  case first =>
   clear s0
   obtain ⟨-, -, -, -, r4, r5, r6, r7, r8, r9, r10, r11, r12, r13, -, -, -, -, -, -, -, -, -⟩ := ko4.st
   obtain ⟨-, -, -, -, z4, z5, z6, z7, z8, z9, z10, z11, z12, z13, -, -, -, -, -, -, -, -, -⟩ := ko4.stF
   have HSQ : Hid (∀ Y : World, Below w1.heap.size w4 Y → Y.cell? ⟨w.heap.size, 4, none⟩ = some (.slice p.cols.a s.cols.length p.cols.c) ∧ Y.cell? ⟨w.heap.size, 5, none⟩ = some (.string ⟨s.key.toArray⟩) ∧ Y.cell? ⟨w.heap.size, 6, none⟩ = some (.slice p.uniq.a s.uniq.length p.uniq.c) ∧ Y.cell? ⟨w.heap.size, 7, none⟩ = some (.slice p.refs.a s.refs.length p.refs.c) ∧ (Y.cell? ⟨w.heap.size, 8, none⟩ = some (.string ⟨s.chk.op.toArray⟩) ∧ Y.cell? ⟨w.heap.size, 9, none⟩ = some (.int .i64 s.chk.v.k) ∧ Y.cell? ⟨w.heap.size, 10, none⟩ = some (.int .i64 s.chk.v.i) ∧ Y.cell? ⟨w.heap.size, 11, none⟩ = some (.string ⟨s.chk.v.s.toArray⟩) ∧ Y.cell? ⟨w.heap.size, 12, none⟩ = some (.string ⟨s.chk.s.toArray⟩) ∧ Y.cell? ⟨w.heap.size, 13, none⟩ = some (.slice p.chk.a s.chk.l.length p.chk.c))) := fun Y hY => by
    have kb := (HKB.out w4 hc4).below hY (by omega)
    exact ⟨kb.cell 4, kb.cell 5, kb.cell 6, kb.cell 7, ⟨kb.cell 8, kb.cell 9, kb.cell 10, kb.cell 11, kb.cell 12, kb.cell 13⟩⟩
   refine rgnB HSQ fun hHeld => ?_
   refine tS [0, 1, 2, 3, 4, 5, 6, 7, 8, 9, 10] ?_
   iterate 11 (refine tC ?_; refine ap ?_)
   refine tN ?_
   refine rdy 11 fun K hK => ?_
   go_simp
   skip
   go_wp2_with fail
   refine hK.out _ _ (HSQ.out _ (by exact bl)) fun hHeld => ?_
   clear hK K
   refine ap ?_
   refine tS [12] (tC ?_)
   refine ap (tN ?_)
   refine rdy 13 fun K hK => ?_
   go_simp
   skip
   go_wp2_with fail
   refine hK.out _ _ (HSQ.out _ (by exact bl)) fun hHeld => ?_
   clear hK K
   refine ap ?_
   refine tS [14] (tC ?_)
   refine ap (tN ?_)
   refine rdy 15 fun K hK => ?_
   go_simp
   skip
   go_wp2_with fail
   refine hK.out _ _ (HSQ.out _ (by exact bl)) fun hHeld => ?_
   clear hK K
   refine ap ?_
   refine tS [16] (tC ?_)
   refine ap (tN ?_)
   refine rdy 17 fun K hK => ?_
   go_simp
   skip
   go_wp2_with fail
   refine hK.out _ _ (HSQ.out _ (by exact bl)) fun hHeld => ?_
   clear hK K
   refine ap ?_
   refine tS [18] (tC ?_)
   refine ap (tN ?_)
   refine rdy 19 fun K hK => ?_
   go_simp
   skip
   go_wp2_with fail
   refine hK.out _ _ (HSQ.out _ (by exact bl)) fun hHeld => ?_
   clear hK K
   refine ap ?_
   refine wpAnyH_done (by kernel_rfl) ?_ _
   go_wp2_with fail
   go_meet
   exact ⟨Blk.drew (by rw [HOWN.out.1, HOWN.out.2]; exact blk_eq (own_set6 ((((ko4.set_ 4 (.slice p.cols.a s.cols.length p.cols.c)).set_ 5 (.string ⟨s.key.toArray⟩)).set_ 6 (.slice p.uniq.a s.uniq.length p.uniq.c)).set_ 7 (.slice p.refs.a s.refs.length p.refs.c)) 8 s.chk p.chk.a p.chk.c rfl) (by first | (simp only [St.cells, stZ, stPZ, slZ, List.setIfInBounds_toArray, List.set_cons_zero, List.set_cons_succ]; done) | (simp [St.cells, stZ, stPZ, slZ]; done))), by exact bl⟩
  obtain ⟨hkv, hcv⟩ := hcut
  have hsv := hkv.lt
  have hzv := hcv.size
  clear s0 ko4 ko2
  go_wp2_with (refine wpList_load_row rfl 34 _ rfl w.heap.size rfl 34 (s.cells p).toArray (0, 0) _ (HKB.out _ hcv) Tryz.underlying34 rfl size_st ?_)
  refine (HCR.out wc hcv (by omega)).mono ?_
  rintro en w6 ⟨T, K, rfl, hlT, hb6⟩
  have hkv := hkv.below hb6 hsv
  have hcv := hcv.trans (hb6.mono (by omega))
  have hsv := hkv.lt
  have hzv := hcv.size
  obtain ⟨HSX, HSR⟩ := mkS s p (g := w.heap.size) (fun Y => Y.cell? ⟨w.heap.size, 1, none⟩ = some (.string ⟨s.tb.toArray⟩)) (fun Y hY => by have kb := HKB.out Y hY; exact kb.cell 1) (fun Y _ kb => kb.cell 1) HKB HKR hcv hkv hls (by omega)
  clear hkv hb6
  go_wp2_with fail
  refine rgn HSX fun hHeld => ?_
  refine tS [0] (tC ?_)
  refine ap (tN ?_)
  refine tkOwn s p 1 rfl rfl (fun _ h => h.2.2.2) (ap ?_)
  refine tS [2, 3] ?_
  iterate 2 (refine tC ?_; refine ap ?_)
  refine tN ?_
  refine stOwn s p 4 rfl rfl (fun h => h.2.2.1) (HSR.out _) fun hHeld => ap ?_
  refine tS [5] (tC ?_)
  refine ap (tN ?_)
  refine wpAnyH_done (by kernel_rfl) ?_ _
  obtain ⟨hres, hbw⟩ := HEND.out _ (hcv.drew)
  go_wp2_with fail
  exact bodyPost_ret (v := OWV s p (T) K) (by simp [OWV, results, Tryz.results64, asAddr, hres]) rfl ⟨_, _, rfl, by omega, fun h => absurd h HNS.out, hbw⟩
 ·skip
  have HOWN : Hid (ownS s = ⟨s.op, s.tb, [], [], [], [], [], [], ex0, s.row, [], ex0, []⟩ ∧ ownP s p = ⟨slZ, slZ, slZ, slZ, slZ, p.row, slZ, slZ⟩) := by show _ ∧ _; unfold ownS ownP; rw [HOP.out, hop]; exact ⟨rfl, rfl⟩
  have HNS : Hid (¬ strongO s.op) := by show ¬ _; unfold strongO rightO; rw [HOP.out, hop]; decide
  rw [hop] at s0
  simp only [oInsert] at s0
  have HO := Lib.hid hop
  clear hop
  go_upto_region 12 with fail
  go_cut [] from 900 to 0 (fun wx => Blk wx w1.heap.size 34 ((ownS s).cells (ownP s p)).toArray ∧ Below w1.heap.size w2 wx)
  case first =>
   obtain ⟨-, -, -, -, -, -, -, -, -, -, -, -, -, -, r14, -, -, -, -, -, -, -, -⟩ := ko4.st
   obtain ⟨-, -, -, -, -, -, -, -, -, -, -, -, -, -, z14, -, -, -, -, -, -, -, -⟩ := ko4.stF
   obtain ⟨-, -, -, -, -, -, -, -, -, -, -, -, -, -, q14, -, -, -, -, -, -, -, -⟩ := (HKB.out w4 hc4).st
   go_wp2_with fail
   go_meet
   exact ⟨by rw [HOWN.out.1, HOWN.out.2]; exact blk_eq (ko4.set_ 14 (.slice p.row.a s.row.length p.row.c)) (by first | (simp only [St.cells, stZ, stPZ, slZ, List.setIfInBounds_toArray, List.set_cons_zero, List.set_cons_succ]; done) | (simp [St.cells, stZ, stPZ, slZ]; done)), by exact bl⟩
  obtain ⟨hkv, hcv⟩ := hcut
  have hsv := hkv.lt
  have hzv := hcv.size
  clear s0 ko4 ko2
  have HKV := Lib.hid hkv
  clear hkv
  go_wp2_with fail
  go_loopw [12, 13] (fun t i wr => ∃ (T : List UInt8) (j : Nat), t = .string ⟨T.toArray⟩ ∧ i = .int .i64 j ∧ j ≤ s.row.length ∧ T.length ≤ j * 110 ∧ Below wc.heap.size wc wr) (fun _ i _ => s.row.length - (intOf i).toNat)
  case atStart => exact ⟨[], 0, rfl, rfl, Nat.zero_le _, by simp, Below.refl _ _⟩
  case round =>
   have hnW := HOKK.out.nW
   obtain ⟨T, j, rfl, rfl, hj, hT, hbw⟩ := hrel
   obtain ⟨W, rfl⟩ : ∃ W, W = wr := ⟨_, rfl⟩
   have hzw := hbw.size
   have hcW : Below w1.heap.size w2 W := hcv.trans (hbw.mono (by omega))
   have c14 : W.cell? ⟨w.heap.size, 14, none⟩ = some (.slice p.row.a s.row.length p.row.c) := (HKB.out W hcW).cell 14
   by_cases hlt : j < s.row.length
   ·obtain ⟨b, off, x, hA, hbB, hv, c0, c1, c2⟩ := (HM.out W hcW).2.2.2.2.2.1.at_ hlt
    rw [hA] at c14
    obtain ⟨hxi, hxs⟩ := HOKK.out.row x (List.mem_of_getElem? hv)
    obtain ⟨k, iv, sv⟩ := x
    dsimp only at c0 c1 c2 hxi hxs
    unfold fitI at hxi
    have lb : b < W.heap.size := by have : b < w.heap.size := hbB; omega
    have i1 : (0 : Int) ≤ (j : Int) := by omega
    have i2 : (j : Int) < (s.row.length : Int) := by omega
    have HMX := Lib.hid (rmay_any k iv sv W (by omega))
    obtain ⟨M, hM⟩ : ∃ M, mayB k iv sv = M := ⟨_, rfl⟩
    rw [hM] at HMX
    have HTX : Hid (∀ Z : World, Calls Tryz.prog 111 #[.agg #[.int .i64 k, .int .i64 iv, .string ⟨sv.toArray⟩]] Z (Ret (.string ⟨(textF k iv sv).toArray⟩) Z)) := fun Z => rtext_any k iv sv Z (by omega) (by omega) (by omega)
    have hTF := textF_len k iv sv hxi
    obtain ⟨TF, hTF0⟩ : ∃ F, textF k iv sv = F := ⟨_, rfl⟩
    rw [hTF0] at HTX hTF
    clear hv hbB hM hTF0 hxi
    go_wp2_with fail
    refine HMX.out.mono ?_
    rintro en w6 ⟨rfl, hb6⟩
    have hc6 : Below w1.heap.size w2 w6 := hcW.trans (hb6.mono (by omega))
    have hz6 := hb6.size
    have f : ∀ o, w6.cell? ⟨b, o, none⟩ = W.cell? ⟨b, o, none⟩ := fun o => hb6.cell (p := ⟨b, o, none⟩) lb
    rw [← f] at c0
    rw [← f] at c1
    rw [← f] at c2
    have c14 : w6.cell? ⟨w.heap.size, 14, none⟩ = some (.slice p.row.a s.row.length p.row.c) := (HKB.out w6 hc6).cell 14
    rw [hA] at c14
    clear f hA
    cases M with
    | false =>
     have hkv := HKV.out.below (hbw.trans (hb6.mono hzw)) hsv
     have hcv := hc6
     have hzv := hcv.size
     obtain ⟨HSX, HSR⟩ := mkS s p (g := w.heap.size) (fun Y => Y.cell? ⟨w.heap.size, 1, none⟩ = some (.string ⟨s.tb.toArray⟩)) (fun Y hY => by have kb := HKB.out Y hY; exact kb.cell 1) (fun Y _ kb => kb.cell 1) HKB HKR hcv hkv hls (by omega)
     clear hkv c0 c1 c2 c14
     go_wp2_with fail
     refine rgn HSX fun hHeld => ?_
     refine tkOwn s p 0 rfl rfl (fun _ h => h.2.2.2) (ap ?_)
     refine tS [1] (tC ?_)
     refine ap (tN ?_)
     refine stOwn s p 2 rfl rfl (fun h => h.2.2.1) (HSR.out _) fun hHeld => ap ?_
     refine tS [3] (tC ?_)
     refine ap (tN ?_)
     refine wpAnyH_done (by kernel_rfl) ?_ _
     obtain ⟨hres, hbw⟩ := HEND.out _ (hcv.drew)
     go_wp2_with fail
     exact bodyPost_ret (v := OWV s p ([]) false) (by simp [OWV, results, Tryz.results64, asAddr, hres]) rfl ⟨_, _, rfl, by simp <;> omega, fun h => absurd h HNS.out, hbw⟩
    | true =>
     by_cases p0 : (j : Int) > 0
     rotate_left
     obtain rfl : j = 0 := by omega
     simp only [Nat.zero_mul, Nat.add_zero] at c0 c1 c2
     all_goals
      go_wp2_with fail
      refine (HTX.out _).mono ?_
      rintro en w7 ⟨rfl, hb7⟩
      go_wp2_with fail
      go_roundw
      case rel => exact ⟨_, _ + 1, rfl, by go_num, by omega, by simp <;> omega, hbw.trans ((hb6.trans (hb7.mono hz6)).mono hzw)⟩
      case measure => simp [intOf]; omega
   ·have i2 : ¬ (j : Int) < (s.row.length : Int) := by omega
    have hkv := HKV.out.below hbw hsv
    have hcv := hcW
    have hzv := hcv.size
    have hTT : T.length ≤ 110000 := by omega
    clear hlt hj hT hnW
    obtain ⟨HSX, HSR⟩ := mkS s p (g := w.heap.size) (fun Y => Y.cell? ⟨w.heap.size, 1, none⟩ = some (.string ⟨s.tb.toArray⟩) ∧ Y.cell? ⟨w.heap.size, 14, none⟩ = some (.slice p.row.a s.row.length p.row.c)) (fun Y hY => by have kb := HKB.out Y hY; exact ⟨kb.cell 1, kb.cell 14⟩) (fun Y _ kb => ⟨kb.cell 1, kb.cell 14⟩) HKB HKR hcv hkv hls (by omega)
    clear hkv
    go_wp2_with fail
    clear c14 i2
    by_cases q1 : (1 : Int) ≤ (s.row.length : Int)
    ·have d1 : decide ((1 : Int) ≤ (s.row.length : Int)) = true := by simpa using q1
     clear q1
     refine rgn HSX fun hHeld => ?_
     refine tS [0, 1, 2, 3, 4, 5, 6] ?_
     iterate 7 (refine tC ?_; refine ap ?_)
     refine tN ?_
     refine tkOwn s p 7 rfl rfl (fun _ h => h.2.2.2) (ap ?_)
     refine tS [8, 9, 10, 11, 12, 13, 14, 15, 16, 17, 18] ?_
     iterate 11 (refine tC ?_; refine ap ?_)
     refine tN ?_
     refine stOwn s p 19 rfl rfl (fun h => h.2.2.1) (HSR.out _) fun hHeld => ap ?_
     refine tS [20] (tC ?_)
     refine ap (tN ?_)
     refine wpAnyH_done (by kernel_rfl) ?_ _
     obtain ⟨hres, hbw⟩ := HEND.out _ (hcv.drew)
     go_wp2_with fail
     exact bodyPost_ret (v := OWV s p ([73, 78, 83, 69, 82, 84, 32, 73, 78, 84, 79, 32] ++ s.tb ++ [32, 86, 65, 76, 85, 69, 83, 32, 40, 32] ++ T ++ [32, 41]) (decide ((s.row.length : Int) ≤ 12))) (by simp [OWV, results, Tryz.results64, asAddr, hres]) rfl ⟨_, _, rfl, by simp <;> omega, fun h => absurd h HNS.out, hbw⟩
    ·have d1 : decide ((1 : Int) ≤ (s.row.length : Int)) = false := by simpa using q1
     clear q1
     refine rgn HSX fun hHeld => ?_
     refine tS [0, 1, 2, 3, 4, 5, 6] ?_
     iterate 7 (refine tC ?_; refine ap ?_)
     refine tN ?_
     refine tkOwn s p 7 rfl rfl (fun _ h => h.2.2.2) (ap ?_)
     refine tS [8, 9, 10, 11, 12] ?_
     iterate 5 (refine tC ?_; refine ap ?_)
     refine tN ?_
     refine tS [13, 14, 15, 16] ?_
     iterate 4 (refine tX ?_; refine ap ?_)
     refine tN ?_
     refine tS [17, 18] ?_
     iterate 2 (refine tC ?_; refine ap ?_)
     refine tN ?_
     refine stOwn s p 19 rfl rfl (fun h => h.2.2.1) (HSR.out _) fun hHeld => ap ?_
     refine tS [20] (tC ?_)
     refine ap (tN ?_)
     refine wpAnyH_done (by kernel_rfl) ?_ _
     obtain ⟨hres, hbw⟩ := HEND.out _ (hcv.drew)
     go_wp2_with fail
     exact bodyPost_ret (v := OWV s p ([73, 78, 83, 69, 82, 84, 32, 73, 78, 84, 79, 32] ++ s.tb ++ [32, 86, 65, 76, 85, 69, 83, 32, 40, 32] ++ T ++ [32, 41]) false) (by simp [OWV, results, Tryz.results64, asAddr, hres]) rfl ⟨_, _, rfl, by simp <;> omega, fun h => absurd h HNS.out, hbw⟩
 ·skip
  have HOWN : Hid (ownS s = ⟨s.op, s.tb, [], [], [], [], [], [], ex0, [], s.sets, s.whr, []⟩ ∧ ownP s p = ⟨slZ, slZ, slZ, slZ, slZ, slZ, p.sets, p.whr⟩) := by show _ ∧ _; unfold ownS ownP; rw [HOP.out, hop]; exact ⟨rfl, rfl⟩
  have HNS : Hid (¬ strongO s.op) := by show ¬ _; unfold strongO rightO; rw [HOP.out, hop]; decide
  rw [hop] at s0
  simp only [oUpdate] at s0
  have HO := Lib.hid hop
  clear hop
  go_upto_region 24 with fail
  go_cut [] from 900 to 0 (fun wx => Blk wx w1.heap.size 34 ((ownS s).cells (ownP s p)).toArray ∧ Below w1.heap.size w2 wx)
  case first =>
   clear s0
   obtain ⟨-, -, -, -, -, -, -, -, -, -, -, -, -, -, -, r15, r16, r17, r18, r19, r20, r21, -⟩ := ko4.st
   obtain ⟨-, -, -, -, -, -, -, -, -, -, -, -, -, -, -, z15, z16, z17, z18, z19, z20, z21, -⟩ := ko4.stF
   have HSQ : Hid (∀ Y : World, Below w1.heap.size w4 Y → Y.cell? ⟨w.heap.size, 15, none⟩ = some (.slice p.sets.a s.sets.length p.sets.c) ∧ (Y.cell? ⟨w.heap.size, 16, none⟩ = some (.string ⟨s.whr.op.toArray⟩) ∧ Y.cell? ⟨w.heap.size, 17, none⟩ = some (.int .i64 s.whr.v.k) ∧ Y.cell? ⟨w.heap.size, 18, none⟩ = some (.int .i64 s.whr.v.i) ∧ Y.cell? ⟨w.heap.size, 19, none⟩ = some (.string ⟨s.whr.v.s.toArray⟩) ∧ Y.cell? ⟨w.heap.size, 20, none⟩ = some (.string ⟨s.whr.s.toArray⟩) ∧ Y.cell? ⟨w.heap.size, 21, none⟩ = some (.slice p.whr.a s.whr.l.length p.whr.c))) := fun Y hY => by
    have kb := (HKB.out w4 hc4).below hY (by omega)
    exact ⟨kb.cell 15, ⟨kb.cell 16, kb.cell 17, kb.cell 18, kb.cell 19, kb.cell 20, kb.cell 21⟩⟩
   refine rgnB HSQ fun hHeld => ?_
   refine tS [0, 1, 2, 3, 4] ?_
   iterate 5 (refine tC ?_; refine ap ?_)
   refine tN ?_
   refine rdy 5 fun K hK => ?_
   go_simp
   skip
   go_wp2_with fail
   refine hK.out _ _ (HSQ.out _ (by exact bl)) fun hHeld => ?_
   clear hK K
   refine ap ?_
   refine tS [6] (tC ?_)
   refine ap (tN ?_)
   refine rdy 7 fun K hK => ?_
   go_simp
   skip
   go_wp2_with fail
   refine hK.out _ _ (HSQ.out _ (by exact bl)) fun hHeld => ?_
   clear hK K
   refine ap ?_
   refine wpAnyH_done (by kernel_rfl) ?_ _
   go_wp2_with fail
   go_meet
   exact ⟨Blk.drew (by rw [HOWN.out.1, HOWN.out.2]; exact blk_eq (own_set6 (ko4.set_ 15 (.slice p.sets.a s.sets.length p.sets.c)) 16 s.whr p.whr.a p.whr.c rfl) (by first | (simp only [St.cells, stZ, stPZ, slZ, List.setIfInBounds_toArray, List.set_cons_zero, List.set_cons_succ]; done) | (simp [St.cells, stZ, stPZ, slZ]; done))), by exact bl⟩
  obtain ⟨hkv, hcv⟩ := hcut
  have hsv := hkv.lt
  have hzv := hcv.size
  clear s0 ko4 ko2
  have HKV := Lib.hid hkv
  clear hkv
  go_wp2_with fail
  go_loopw [14, 15] (fun t i wr => ∃ (T : List UInt8) (j : Nat), t = .string ⟨T.toArray⟩ ∧ i = .int .i64 j ∧ j ≤ s.sets.length ∧ T.length ≤ j * 7700 ∧ Below wc.heap.size wc wr) (fun _ i _ => s.sets.length - (intOf i).toNat)
  case atStart => exact ⟨[], 0, rfl, rfl, Nat.zero_le _, by simp, Below.refl _ _⟩
  case round =>
   obtain ⟨T, j, rfl, rfl, hj, hT, hbw⟩ := hrel
   obtain ⟨W, rfl⟩ : ∃ W, W = wr := ⟨_, rfl⟩
   have hzw := hbw.size
   have hcW : Below w1.heap.size w2 W := hcv.trans (hbw.mono (by omega))
   have c15 : W.cell? ⟨w.heap.size, 15, none⟩ = some (.slice p.sets.a s.sets.length p.sets.c) := (HKB.out W hcW).cell 15
   by_cases hlt : j < s.sets.length
   ·obtain ⟨b, off, x, A', e', hA, hbB, hv, c0, hxf, -, -, ⟨c1, c2, c3, c4, c5, c6⟩, mx⟩ := (HM.out W hcW).2.2.2.2.2.2.1.at_ hlt
    rw [hA] at c15
    have hxn := (HOKK.out.sets x (List.mem_of_getElem? hv)).1
    have hxm := HOKK.out.num.2.2.2 x (List.mem_of_getElem? hv)
    obtain ⟨n, e⟩ := x
    dsimp only at c0 c1 c2 c3 c4 c5 c6 hxf hxn hxm mx
    have lb : b < W.heap.size := by have : b < w.heap.size := hbB; omega
    have lw : w.heap.size < W.heap.size := by omega
    have i1 : (0 : Int) ≤ (j : Int) := by omega
    have i2 : (j : Int) < (s.sets.length : Int) := by omega
    have hex : ∀ Z : World, Below W.heap.size W Z → ExS 1000 ks Z Z.heap.size A' e.l := fun Z hz => ((exq_s mx (by omega)).below ks hz).more hz.size ks
    have HMX : Hid (∀ Z : World, Below W.heap.size W Z → Calls Tryz.prog 112 #[.agg #[.string ⟨e.op.toArray⟩, .int .i64 e.v.k, .int .i64 e.v.i, .string ⟨e.v.s.toArray⟩, .string ⟨e.s.toArray⟩, .slice A' e.l.length e']] Z (Ret (.bool (mayX e)) Z)) := fun Z hz => may4_any ks e A' e' Z hxf (hex Z hz)
    have HTX : Hid (mayX e = true → ∀ Z : World, Below W.heap.size W Z → Calls Tryz.prog 113 #[.agg #[.string ⟨e.op.toArray⟩, .int .i64 e.v.k, .int .i64 e.v.i, .string ⟨e.v.s.toArray⟩, .string ⟨e.s.toArray⟩, .slice A' e.l.length e']] Z (Ret (.string ⟨(textX e).toArray⟩) Z)) := fun hm Z hz => rextext_any Z.heap.size 13 e A' e' ks Z (by omega) (Nat.le_refl _) (form_up 12 e (mayX_form hm)) hxm hxf (hex Z hz)
    have HTL : Hid (mayX e = true → (textX e).length ≤ 6600) := fun hm => textX_len hm hxm
    obtain ⟨N, hN⟩ : ∃ N, nameG n = N := ⟨_, rfl⟩
    obtain ⟨M, hM⟩ : ∃ M, mayX e = M := ⟨_, rfl⟩
    have HNX := Lib.hid (HN.out n W hxn)
    obtain ⟨TX, hTX⟩ : ∃ X, textX e = X := ⟨_, rfl⟩
    rw [hN] at HNX
    rw [hM] at HMX HTX HTL
    rw [hTX] at HTX HTL
    have HSZ : Hid (∀ Z : World, Below W.heap.size W Z → Z.cell? ⟨w.heap.size, 15, none⟩ = some (.slice (some ⟨b, off, none⟩) s.sets.length p.sets.c) ∧ Z.cell? ⟨b, off + j * 7, none⟩ = some (.string ⟨n.toArray⟩) ∧ Z.cell? ⟨b, off + j * 7 + 1, none⟩ = some (.string ⟨e.op.toArray⟩) ∧ Z.cell? ⟨b, off + j * 7 + 1 + 1, none⟩ = some (.int .i64 e.v.k) ∧ Z.cell? ⟨b, off + j * 7 + 1 + 2, none⟩ = some (.int .i64 e.v.i) ∧ Z.cell? ⟨b, off + j * 7 + 1 + 3, none⟩ = some (.string ⟨e.v.s.toArray⟩) ∧ Z.cell? ⟨b, off + j * 7 + 1 + 4, none⟩ = some (.string ⟨e.s.toArray⟩) ∧ Z.cell? ⟨b, off + j * 7 + 1 + 5, none⟩ = some (.slice A' e.l.length e')) := fun Z hz => by
     have f : ∀ o, Z.cell? ⟨w.heap.size, o, none⟩ = W.cell? ⟨w.heap.size, o, none⟩ := fun o => hz.cell (p := ⟨w.heap.size, o, none⟩) lw
     have g : ∀ o, Z.cell? ⟨b, o, none⟩ = W.cell? ⟨b, o, none⟩ := fun o => hz.cell (p := ⟨b, o, none⟩) lb
     exact ⟨(f _).trans c15, (g _).trans c0, (g _).trans c1, (g _).trans c2, (g _).trans c3, (g _).trans c4, (g _).trans c5, (g _).trans c6⟩
    have HKW : Hid (∀ Z : World, Below W.heap.size W Z → Blk Z w1.heap.size 34 ((ownS s).cells (ownP s p)).toArray ∧ Below w1.heap.size w2 Z) := fun Z hz => ⟨HKV.out.below (hbw.trans (hz.mono hzw)) hsv, hcW.trans (hz.mono (by omega))⟩
    clear hv hbB hM hN hTX hA hex mx hxm hxf
    go_wp2_with fail
    refine HNX.out.mono ?_
    rintro en w6 ⟨rfl, hb6⟩
    have hz6 := hb6.size
    clear c15 c0 c1 c2 c3 c4 c5 c6
    cases N with
    | false =>
     obtain ⟨hkv, hcv⟩ := HKW.out w6 hb6
     have hzv := hcv.size
     obtain ⟨HSX, HSR⟩ := mkS s p (g := w.heap.size) (fun Y => Y.cell? ⟨w.heap.size, 1, none⟩ = some (.string ⟨s.tb.toArray⟩)) (fun Y hY => by have kb := HKB.out Y hY; exact kb.cell 1) (fun Y _ kb => kb.cell 1) HKB HKR hcv hkv hls (by omega)
     clear hkv
     go_wp2_with fail
     refine rgn HSX fun hHeld => ?_
     refine tkOwn s p 0 rfl rfl (fun _ h => h.2.2.2) (ap ?_)
     refine tS [1] (tC ?_)
     refine ap (tN ?_)
     refine stOwn s p 2 rfl rfl (fun h => h.2.2.1) (HSR.out _) fun hHeld => ap ?_
     refine tS [3] (tC ?_)
     refine ap (tN ?_)
     refine wpAnyH_done (by kernel_rfl) ?_ _
     obtain ⟨hres, hbw⟩ := HEND.out _ (hcv.drew)
     go_wp2_with fail
     exact bodyPost_ret (v := OWV s p ([]) false) (by simp [OWV, results, Tryz.results64, asAddr, hres]) rfl ⟨_, _, rfl, by simp <;> omega, fun h => absurd h HNS.out, hbw⟩
    | true =>
     obtain ⟨c15, c0, c1, c2, c3, c4, c5, c6⟩ := HSZ.out w6 hb6
     go_wp2_with fail
     refine (HMX.out w6 hb6).mono ?_
     rintro en w7 ⟨rfl, hb7⟩
     have hb7 : Below W.heap.size W w7 := hb6.trans (hb7.mono hz6)
     have hz7 := hb7.size
     clear c15 c0 c1 c2 c3 c4 c5 c6
     cases M with
     | false =>
      obtain ⟨hkv, hcv⟩ := HKW.out w7 hb7
      have hzv := hcv.size
      obtain ⟨HSX, HSR⟩ := mkS s p (g := w.heap.size) (fun Y => Y.cell? ⟨w.heap.size, 1, none⟩ = some (.string ⟨s.tb.toArray⟩)) (fun Y hY => by have kb := HKB.out Y hY; exact kb.cell 1) (fun Y _ kb => kb.cell 1) HKB HKR hcv hkv hls (by omega)
      clear hkv
      go_wp2_with fail
      refine rgn HSX fun hHeld => ?_
      refine tkOwn s p 0 rfl rfl (fun _ h => h.2.2.2) (ap ?_)
      refine tS [1] (tC ?_)
      refine ap (tN ?_)
      refine stOwn s p 2 rfl rfl (fun h => h.2.2.1) (HSR.out _) fun hHeld => ap ?_
      refine tS [3] (tC ?_)
      refine ap (tN ?_)
      refine wpAnyH_done (by kernel_rfl) ?_ _
      obtain ⟨hres, hbw⟩ := HEND.out _ (hcv.drew)
      go_wp2_with fail
      exact bodyPost_ret (v := OWV s p ([]) false) (by simp [OWV, results, Tryz.results64, asAddr, hres]) rfl ⟨_, _, rfl, by simp <;> omega, fun h => absurd h HNS.out, hbw⟩
     | true =>
      have hTL : TX.length ≤ 6600 := HTL.out rfl
      have HSY : Hid (∀ Z : World, Below w7.heap.size w7 Z → _) := fun Z hz => HSZ.out Z (hb7.trans (hz.mono hz7))
      have HTY := HTX.out rfl
      have HTY : Hid (∀ Z : World, Below w7.heap.size w7 Z → _) := fun Z hz => HTY Z (hb7.trans (hz.mono hz7))
      have HB7 := Lib.hid (hbw.trans (hb7.mono hzw))
      clear hb6 hb7
      by_cases p0 : (j : Int) > 0
      all_goals
       go_wp2_with fail
       refine rgn HSY fun hHeld => ?_
       refine tS [0, 1, 2, 3, 4, 5, 6, 7, 8, 9, 10, 11, 12, 13] ?_
       iterate 14 (refine tC ?_; refine ap ?_)
       refine tN ?_
       refine rdy 14 fun K hK => ?_
       go_simp
       (refine (HTY.out _ (by exact bl)).mono ?_) <;> rintro en w9 ⟨rfl, hb9⟩ <;> have hz9 := hb9.size <;> (try simp at hz9)
       go_wp2_with fail
       refine hK.out _ _ (HSY.out _ (by exact bl)) fun hHeld => ?_
       clear hK K
       refine ap ?_
       refine tS [15, 16, 17] ?_
       iterate 3 (refine tC ?_; refine ap ?_)
       refine tN ?_
       refine wpAnyH_done (by kernel_rfl) ?_ _
       have hb9 : Below wc.heap.size wc w9 := HB7.out.trans (Below.mono (B := w7.heap.size) (by exact bl) HB7.out.size)
       go_wp2_with fail
       go_roundw
       case rel => exact ⟨_, j + 1, rfl, by go_num, by omega, by simp; omega, hb9⟩
       case measure => simp [intOf]; omega
   ·have i2 : ¬ (j : Int) < (s.sets.length : Int) := by omega
    have hkv := HKV.out.below hbw hsv
    have hcv := hcW
    have hzv := hcv.size
    have hTT : T.length ≤ 154000 := by omega
    clear hlt hj hT
    obtain ⟨HSX, HSR⟩ := mkS s p (g := w.heap.size) (fun Y => Y.cell? ⟨w.heap.size, 1, none⟩ = some (.string ⟨s.tb.toArray⟩) ∧ Y.cell? ⟨w.heap.size, 15, none⟩ = some (.slice p.sets.a s.sets.length p.sets.c)) (fun Y hY => by have kb := HKB.out Y hY; exact ⟨kb.cell 1, kb.cell 15⟩) (fun Y _ kb => ⟨kb.cell 1, kb.cell 15⟩) HKB HKR hcv hkv hls (by omega)
    clear hkv
    go_wp2_with fail
    clear c15 i2
    cases PW with
    | false =>
     refine rgn HSX fun hHeld => ?_
     refine tS [0, 1, 2, 3, 4, 5, 6, 7] ?_
     iterate 8 (refine tC ?_; refine ap ?_)
     refine tN ?_
     refine tkOwn s p 8 rfl rfl (fun _ h => h.2.2.2) (ap ?_)
     refine tS [9, 10] ?_
     iterate 2 (refine tC ?_; refine ap ?_)
     refine tN ?_
     refine tS [11, 12, 13, 14] ?_
     iterate 4 (refine tX ?_; refine ap ?_)
     refine tN ?_
     refine tS [15, 16] ?_
     iterate 2 (refine tC ?_; refine ap ?_)
     refine tN ?_
     refine tS [17, 18, 19, 20] ?_
     iterate 4 (refine tX ?_; refine ap ?_)
     refine tN ?_
     refine tS [21, 22] ?_
     iterate 2 (refine tC ?_; refine ap ?_)
     refine tN ?_
     refine stOwn s p 23 rfl rfl (fun h => h.2.2.1) (HSR.out _) fun hHeld => ap ?_
     refine tS [24] (tC ?_)
     refine ap (tN ?_)
     refine wpAnyH_done (by kernel_rfl) ?_ _
     obtain ⟨hres, hbw⟩ := HEND.out _ (hcv.drew)
     go_wp2_with fail
     exact bodyPost_ret (v := OWV s p ([85, 80, 68, 65, 84, 69, 32] ++ s.tb ++ [32, 83, 69, 84, 32] ++ T ++ TW) false) (by simp [OWV, results, Tryz.results64, asAddr, hres]) rfl ⟨_, _, rfl, by simp <;> omega, fun h => absurd h HNS.out, hbw⟩
    | true =>
     by_cases q1 : (1 : Int) ≤ (s.sets.length : Int)
     ·have d1 : decide ((1 : Int) ≤ (s.sets.length : Int)) = true := by simpa using q1
      clear q1
      refine rgn HSX fun hHeld => ?_
      refine tS [0, 1, 2, 3, 4, 5, 6, 7] ?_
      iterate 8 (refine tC ?_; refine ap ?_)
      refine tN ?_
      refine tkOwn s p 8 rfl rfl (fun _ h => h.2.2.2) (ap ?_)
      refine tS [9, 10, 11, 12, 13, 14, 15, 16, 17, 18, 19, 20, 21, 22] ?_
      iterate 14 (refine tC ?_; refine ap ?_)
      refine tN ?_
      refine stOwn s p 23 rfl rfl (fun h => h.2.2.1) (HSR.out _) fun hHeld => ap ?_
      refine tS [24] (tC ?_)
      refine ap (tN ?_)
      refine wpAnyH_done (by kernel_rfl) ?_ _
      obtain ⟨hres, hbw⟩ := HEND.out _ (hcv.drew)
      go_wp2_with fail
      exact bodyPost_ret (v := OWV s p ([85, 80, 68, 65, 84, 69, 32] ++ s.tb ++ [32, 83, 69, 84, 32] ++ T ++ TW) (decide ((s.sets.length : Int) ≤ 8))) (by simp [OWV, results, Tryz.results64, asAddr, hres]) rfl ⟨_, _, rfl, by simp <;> omega, fun h => absurd h HNS.out, hbw⟩
     ·have d1 : decide ((1 : Int) ≤ (s.sets.length : Int)) = false := by simpa using q1
      clear q1
      refine rgn HSX fun hHeld => ?_
      refine tS [0, 1, 2, 3, 4, 5, 6, 7] ?_
      iterate 8 (refine tC ?_; refine ap ?_)
      refine tN ?_
      refine tkOwn s p 8 rfl rfl (fun _ h => h.2.2.2) (ap ?_)
      refine tS [9, 10, 11, 12, 13, 14, 15, 16] ?_
      iterate 8 (refine tC ?_; refine ap ?_)
      refine tN ?_
      refine tS [17, 18, 19, 20] ?_
      iterate 4 (refine tX ?_; refine ap ?_)
      refine tN ?_
      refine tS [21, 22] ?_
      iterate 2 (refine tC ?_; refine ap ?_)
      refine tN ?_
      refine stOwn s p 23 rfl rfl (fun h => h.2.2.1) (HSR.out _) fun hHeld => ap ?_
      refine tS [24] (tC ?_)
      refine ap (tN ?_)
      refine wpAnyH_done (by kernel_rfl) ?_ _
      obtain ⟨hres, hbw⟩ := HEND.out _ (hcv.drew)
      go_wp2_with fail
      exact bodyPost_ret (v := OWV s p ([85, 80, 68, 65, 84, 69, 32] ++ s.tb ++ [32, 83, 69, 84, 32] ++ T ++ TW) false) (by simp [OWV, results, Tryz.results64, asAddr, hres]) rfl ⟨_, _, rfl, by simp <;> omega, fun h => absurd h HNS.out, hbw⟩
 ·skip
  have HOWN : Hid (ownS s = stZ s.op s.tb ∧ ownP s p = stPZ) := by show _ ∧ _; unfold ownS ownP; rw [HOP.out, hop]; exact ⟨rfl, rfl⟩
  have HST : Hid (true = okD s ∧ [68, 82, 79, 80, 32, 84, 65, 66, 76, 69, 32] ++ s.tb = textS s) := by show _ ∧ _; unfold okD textS; rw [HOP.out, hop]; exact ⟨rfl, rfl⟩
  rw [hop] at s0
  simp only [oDrop] at s0
  have HO := Lib.hid hop
  clear hop
  have hkv : Blk w4 w1.heap.size 34 ((ownS s).cells (ownP s p)).toArray := by rw [HOWN.out.1, HOWN.out.2]; exact ko4
  have hcv := hc4
  go_upto_region 10 with fail
  have hsv := hkv.lt
  have hzv := hcv.size
  clear s0 ko4 ko2
  obtain ⟨HSX, HSR⟩ := mkS s p (g := w.heap.size) (fun Y => Y.cell? ⟨w.heap.size, 1, none⟩ = some (.string ⟨s.tb.toArray⟩)) (fun Y hY => by have kb := HKB.out Y hY; exact kb.cell 1) (fun Y _ kb => kb.cell 1) HKB HKR hcv hkv hls (by omega)
  clear hkv
  refine rgn HSX fun hHeld => ?_
  refine tS [0, 1, 2] ?_
  iterate 3 (refine tC ?_; refine ap ?_)
  refine tN ?_
  refine tkOwn s p 3 rfl rfl (fun _ h => h.2.2.2) (ap ?_)
  refine tS [4] (tC ?_)
  refine ap (tN ?_)
  refine stOwn s p 5 rfl rfl (fun h => h.2.2.1) (HSR.out _) fun hHeld => ap ?_
  refine tS [6] (tC ?_)
  refine ap (tN ?_)
  refine wpAnyH_done (by kernel_rfl) ?_ _
  obtain ⟨hres, hbw⟩ := HEND.out _ (hcv.drew)
  go_wp2_with fail
  exact bodyPost_ret (v := OWV s p ([68, 82, 79, 80, 32, 84, 65, 66, 76, 69, 32] ++ s.tb) true) (by simp [OWV, results, Tryz.results64, asAddr, hres]) rfl ⟨_, _, rfl, by simp <;> omega, fun _ => ⟨HST.out.1, fun _ => HST.out.2⟩, hbw⟩
 ·skip
  have HOWN : Hid (ownS s = ⟨s.op, s.tb, [], [], [], [], [], [], ex0, [], [], s.whr, []⟩ ∧ ownP s p = ⟨slZ, slZ, slZ, slZ, slZ, slZ, slZ, p.whr⟩) := by show _ ∧ _; unfold ownS ownP; rcases hop with h | h <;> rw [HOP.out, h] <;> exact ⟨rfl, rfl⟩
  have HOK : Hid (PW = okD s) := by show _ = _; unfold okD; rcases hop with h | h <;> rw [HOP.out, h, ← HPW.out] <;> rfl
  obtain ⟨PR, HPR, hPL, HT⟩ : ∃ PR : List UInt8, Hid (PR = if O = oDelete then [68, 69, 76, 69, 84, 69, 32, 70, 82, 79, 77, 32] else [83, 69, 76, 69, 67, 84, 32, 42, 32, 70, 82, 79, 77, 32]) ∧ PR.length ≤ 20 ∧ Hid (PW = true → PR ++ s.tb ++ TW = textS s) := by
   refine ⟨_, rfl, by split <;> decide, fun h => ?_⟩
   rw [← HTW.out, cond_where (HPW.out.trans h)]
   unfold textS
   rcases hop with e | e <;> rw [HOP.out, e] <;> rfl
  rcases hop with hop | hop
  have HPR : Hid (PR = [68, 69, 76, 69, 84, 69, 32, 70, 82, 79, 77, 32]) := HPR.out.trans (if_pos hop)
  rotate_left
  have HPR : Hid (PR = [83, 69, 76, 69, 67, 84, 32, 42, 32, 70, 82, 79, 77, 32]) := HPR.out.trans (if_neg (by rw [hop]; decide))
  rotate_left
  all_goals
   rw [hop] at s0
   simp only [oDelete, oSelect] at s0
   have HO := Lib.hid hop
   clear hop
  focus go_upto_region 36 with fail
  rotate_left
  focus go_upto_region 39 with fail
  rotate_left
  all_goals
   go_cut [] from 900 to 0 (fun wx => Blk wx w1.heap.size 34 ((ownS s).cells (ownP s p)).toArray ∧ Below w1.heap.size w2 wx)
   case first =>
    obtain ⟨-, -, -, -, -, -, -, -, -, -, -, -, -, -, -, -, r16, r17, r18, r19, r20, r21, -⟩ := ko4.st
    obtain ⟨-, -, -, -, -, -, -, -, -, -, -, -, -, -, -, -, z16, z17, z18, z19, z20, z21, -⟩ := ko4.stF
    obtain ⟨-, -, -, -, -, -, -, -, -, -, -, -, -, -, -, -, q16, q17, q18, q19, q20, q21, -⟩ := (HKB.out w4 hc4).st
    go_wp2_with fail
    go_meet
    exact ⟨by rw [HOWN.out.1, HOWN.out.2]; exact blk_eq (own_set6 ko4 16 s.whr p.whr.a p.whr.c rfl) (by first | (simp only [St.cells, stZ, stPZ, slZ, List.setIfInBounds_toArray, List.set_cons_zero, List.set_cons_succ]; done) | (simp [St.cells, stZ, stPZ, slZ]; done)), by exact bl⟩
   obtain ⟨hkv, hcv⟩ := hcut
   have hsv := hkv.lt
   have hzv := hcv.size
   clear s0 ko4 ko2
   obtain ⟨HSX, HSR⟩ := mkS s p (g := w.heap.size) (fun Y => Y.cell? ⟨w.heap.size, 1, none⟩ = some (.string ⟨s.tb.toArray⟩)) (fun Y hY => by have kb := HKB.out Y hY; exact kb.cell 1) (fun Y _ kb => kb.cell 1) HKB HKR hcv hkv hls (by omega)
   clear hkv
   go_wp2_with fail
   refine rgn HSX fun hHeld => ?_
   refine tS [0, 1, 2, 3, 4] ?_
   iterate 5 (refine tC ?_; refine ap ?_)
   refine tN ?_
   refine tkOwn s p 5 rfl rfl (fun _ h => h.2.2.2) (ap ?_)
   refine tS [6, 7] ?_
   iterate 2 (refine tC ?_; refine ap ?_)
   refine tN ?_
   refine stOwn s p 8 rfl rfl (fun h => h.2.2.1) (HSR.out _) fun hHeld => ap ?_
   refine tS [9] (tC ?_)
   refine ap (tN ?_)
   refine wpAnyH_done (by kernel_rfl) ?_ _
   obtain ⟨hres, hbw⟩ := HEND.out _ (hcv.drew)
   go_wp2_with fail
   exact bodyPost_ret (v := OWV s p (PR ++ s.tb ++ TW) PW) (by simp [OWV, results, Tryz.results64, asAddr, hres, HPR.out]) rfl ⟨_, _, rfl, by simp <;> omega, fun _ => ⟨HOK.out, HT.out⟩, hbw⟩
 ·skip
  have HOWN : Hid (ownS s = ⟨s.op, s.tb, s.ot, s.names, [], [], [], [], s.chk, [], [], ex0, []⟩ ∧ ownP s p = ⟨p.names, slZ, slZ, slZ, p.chk, slZ, slZ, slZ⟩) := by show _ ∧ _; unfold ownS ownP; rw [HOP.out, hop]; exact ⟨rfl, rfl⟩
  obtain ⟨NO, hNO⟩ : ∃ N, nameG s.ot = N := ⟨_, rfl⟩
  have HNO : Hid (∀ Y : World, Calls Tryz.prog 47 #[.string ⟨s.ot.toArray⟩] Y (Ret (.bool NO) Y)) := fun Y => by rw [← hNO]; exact HN.out s.ot Y hot
  obtain ⟨NT, hNT⟩ : ∃ N, (namesD s.names).1 = N := ⟨_, rfl⟩
  obtain ⟨NB, hNB⟩ : ∃ N, (namesD s.names).2 = N := ⟨_, rfl⟩
  have hlN : NT.length ≤ 20200 := by rw [← hNT]; have := names_len s.names HOKK.out.names; have := HSM.out.n; omega
  have HNM : Hid (∀ Y : World, Below w1.heap.size w2 Y → w.heap.size ≤ Y.heap.size → Calls Tryz.prog 114 #[.slice p.names.a s.names.length p.names.c] Y (Ret (.tuple #[.string ⟨NT.toArray⟩, .bool NB]) Y)) := fun Y hY hz => by
   rw [← hNT, ← hNB]
   exact rnames_any s.names p.names.a p.names.c Y HOKK.out.nN HOKK.out.names ((HM.out Y hY).1.keep fun b hb => ⟨Nat.lt_of_lt_of_le hb hz, fun _ => rfl⟩)
  rw [names_many] at hNB
  have HOK : Hid (okD s = (NO && NB && PC)) := by show _ = _; rw [← hNO, ← hNB, ← HPC.out]; unfold okD; rw [HOP.out, hop]; rfl
  have HT : Hid (PC = true → NB = true → [77, 73, 71, 82, 65, 84, 69, 32, 67, 79, 80, 89, 32] ++ s.tb ++ [32, 70, 82, 79, 77, 32] ++ s.ot ++ [32, 40, 32] ++ NT ++ [32, 41] ++ TC = textS s) := fun h1 h2 => by
   rw [← HTC.out, cond_check (HPC.out.trans h1) [] [32] (by decide) rfl, ← hNT, names_text (hNB.trans h2)]
   unfold textS migT
   rw [HOP.out, hop]
   rfl
  clear hNO hNT hNB
  rw [hop] at s0
  simp only [oCopy] at s0
  have HO := Lib.hid hop
  clear hop
  go_upto_region 42 with fail
  go_cut [] from 900 to 0 (fun wx => Blk wx w1.heap.size 34 ((ownS s).cells (ownP s p)).toArray ∧ Below w1.heap.size w2 wx)
  case first =>
   clear s0
   obtain ⟨-, -, r2, r3, -, -, -, -, r8, r9, r10, r11, r12, r13, -, -, -, -, -, -, -, -, -⟩ := ko4.st
   obtain ⟨-, -, z2, z3, -, -, -, -, z8, z9, z10, z11, z12, z13, -, -, -, -, -, -, -, -, -⟩ := ko4.stF
   have HSQ : Hid (∀ Y : World, Below w1.heap.size w4 Y → Y.cell? ⟨w.heap.size, 2, none⟩ = some (.string ⟨s.ot.toArray⟩) ∧ Y.cell? ⟨w.heap.size, 3, none⟩ = some (.slice p.names.a s.names.length p.names.c) ∧ (Y.cell? ⟨w.heap.size, 8, none⟩ = some (.string ⟨s.chk.op.toArray⟩) ∧ Y.cell? ⟨w.heap.size, 9, none⟩ = some (.int .i64 s.chk.v.k) ∧ Y.cell? ⟨w.heap.size, 10, none⟩ = some (.int .i64 s.chk.v.i) ∧ Y.cell? ⟨w.heap.size, 11, none⟩ = some (.string ⟨s.chk.v.s.toArray⟩) ∧ Y.cell? ⟨w.heap.size, 12, none⟩ = some (.string ⟨s.chk.s.toArray⟩) ∧ Y.cell? ⟨w.heap.size, 13, none⟩ = some (.slice p.chk.a s.chk.l.length p.chk.c))) := fun Y hY => by
    have kb := (HKB.out w4 hc4).below hY (by omega)
    exact ⟨kb.cell 2, kb.cell 3, ⟨kb.cell 8, kb.cell 9, kb.cell 10, kb.cell 11, kb.cell 12, kb.cell 13⟩⟩
   refine rgnB HSQ fun hHeld => ?_
   refine tS [0, 1, 2, 3, 4, 5, 6] ?_
   iterate 7 (refine tC ?_; refine ap ?_)
   refine tN ?_
   refine rdy 7 fun K hK => ?_
   go_simp
   skip
   go_wp2_with fail
   refine hK.out _ _ (HSQ.out _ (by exact bl)) fun hHeld => ?_
   clear hK K
   refine ap ?_
   refine tS [8] (tC ?_)
   refine ap (tN ?_)
   refine rdy 9 fun K hK => ?_
   go_simp
   skip
   go_wp2_with fail
   refine hK.out _ _ (HSQ.out _ (by exact bl)) fun hHeld => ?_
   clear hK K
   refine ap ?_
   refine tS [10] (tC ?_)
   refine ap (tN ?_)
   refine rdy 11 fun K hK => ?_
   go_simp
   skip
   go_wp2_with fail
   refine hK.out _ _ (HSQ.out _ (by exact bl)) fun hHeld => ?_
   clear hK K
   refine ap ?_
   refine wpAnyH_done (by kernel_rfl) ?_ _
   go_wp2_with fail
   go_meet
   exact ⟨Blk.drew (by rw [HOWN.out.1, HOWN.out.2]; exact blk_eq (own_set6 ((ko4.set_ 2 (.string ⟨s.ot.toArray⟩)).set_ 3 (.slice p.names.a s.names.length p.names.c)) 8 s.chk p.chk.a p.chk.c rfl) (by first | (simp only [St.cells, stZ, stPZ, slZ, List.setIfInBounds_toArray, List.set_cons_zero, List.set_cons_succ]; done) | (simp [St.cells, stZ, stPZ, slZ]; done))), by exact bl⟩
  obtain ⟨hkv, hcv⟩ := hcut
  have hsv := hkv.lt
  have hzv := hcv.size
  clear s0 ko4 ko2
  have c3 : wc.cell? ⟨w.heap.size, 3, none⟩ = some (.slice p.names.a s.names.length p.names.c) := (HKB.out wc hcv).cell 3
  go_wp2_with fail
  refine (HNM.out wc hcv (by omega)).mono ?_
  rintro en w6 ⟨rfl, hb6⟩
  have hkv := hkv.below hb6 hsv
  have hcv := hcv.trans (hb6.mono (by omega))
  have hsv := hkv.lt
  have hzv := hcv.size
  obtain ⟨HSX, HSR⟩ := mkS s p (g := w.heap.size) (fun Y => Y.cell? ⟨w.heap.size, 1, none⟩ = some (.string ⟨s.tb.toArray⟩) ∧ Y.cell? ⟨w.heap.size, 2, none⟩ = some (.string ⟨s.ot.toArray⟩)) (fun Y hY => by have kb := HKB.out Y hY; exact ⟨kb.cell 1, kb.cell 2⟩) (fun Y _ kb => ⟨kb.cell 1, kb.cell 2⟩) HKB HKR hcv hkv hls (by omega)
  clear hkv hb6 c3
  go_upto_region 44 with fail
  cases NB with
  | false =>
   refine rgn HSX fun hHeld => ?_
   refine tS [0, 1, 2, 3, 4, 5, 6, 7, 8, 9, 10, 11, 12] ?_
   iterate 13 (refine tC ?_; refine ap ?_)
   refine tN ?_
   refine tkOwn s p 13 rfl rfl (fun _ h => h.2.2.2) (ap ?_)
   refine tS [14, 15] ?_
   iterate 2 (refine tC ?_; refine ap ?_)
   refine tN ?_
   refine tS [16] (tX ?_)
   refine ap (tN ?_)
   refine tS [17, 18] ?_
   iterate 2 (refine tC ?_; refine ap ?_)
   refine tN ?_
   refine tS [19, 20, 21] ?_
   iterate 3 (refine tX ?_; refine ap ?_)
   refine tN ?_
   refine tS [22, 23] ?_
   iterate 2 (refine tC ?_; refine ap ?_)
   refine tN ?_
   refine stOwn s p 24 rfl rfl (fun h => h.2.2.1) (HSR.out _) fun hHeld => ap ?_
   refine tS [25] (tC ?_)
   refine ap (tN ?_)
   refine wpAnyH_done (by kernel_rfl) ?_ _
   obtain ⟨hres, hbw⟩ := HEND.out _ (hcv.drew)
   go_wp2_with fail
   exact bodyPost_ret (v := OWV s p ([77, 73, 71, 82, 65, 84, 69, 32, 67, 79, 80, 89, 32] ++ s.tb ++ [32, 70, 82, 79, 77, 32] ++ s.ot ++ [32, 40, 32] ++ NT ++ [32, 41] ++ TC) false) (by simp [OWV, results, Tryz.results64, asAddr, hres]) rfl ⟨_, _, rfl, by simp <;> omega, fun _ => ⟨by rw [HOK.out]; cases NO <;> rfl, fun h => by cases h⟩, hbw⟩
  | true =>
   cases PC with
   | false =>
    refine rgn HSX fun hHeld => ?_
    refine tS [0, 1, 2, 3, 4, 5, 6, 7, 8, 9, 10, 11, 12] ?_
    iterate 13 (refine tC ?_; refine ap ?_)
    refine tN ?_
    refine tkOwn s p 13 rfl rfl (fun _ h => h.2.2.2) (ap ?_)
    refine tS [14, 15, 16, 17, 18] ?_
    iterate 5 (refine tC ?_; refine ap ?_)
    refine tN ?_
    refine tS [19, 20, 21] ?_
    iterate 3 (refine tX ?_; refine ap ?_)
    refine tN ?_
    refine tS [22, 23] ?_
    iterate 2 (refine tC ?_; refine ap ?_)
    refine tN ?_
    refine stOwn s p 24 rfl rfl (fun h => h.2.2.1) (HSR.out _) fun hHeld => ap ?_
    refine tS [25] (tC ?_)
    refine ap (tN ?_)
    refine wpAnyH_done (by kernel_rfl) ?_ _
    obtain ⟨hres, hbw⟩ := HEND.out _ (hcv.drew)
    go_wp2_with fail
    exact bodyPost_ret (v := OWV s p ([77, 73, 71, 82, 65, 84, 69, 32, 67, 79, 80, 89, 32] ++ s.tb ++ [32, 70, 82, 79, 77, 32] ++ s.ot ++ [32, 40, 32] ++ NT ++ [32, 41] ++ TC) false) (by simp [OWV, results, Tryz.results64, asAddr, hres]) rfl ⟨_, _, rfl, by simp <;> omega, fun _ => ⟨by rw [HOK.out]; cases NO <;> rfl, fun h => by cases h⟩, hbw⟩
   | true =>
    refine rgn HSX fun hHeld => ?_
    refine tS [0, 1, 2, 3, 4, 5, 6, 7, 8, 9, 10, 11, 12] ?_
    iterate 13 (refine tC ?_; refine ap ?_)
    refine tN ?_
    refine tkOwn s p 13 rfl rfl (fun _ h => h.2.2.2) (ap ?_)
    refine tS [14, 15, 16, 17, 18, 19, 20] ?_
    iterate 7 (refine tC ?_; refine ap ?_)
    refine tN ?_
    refine rdy 21 fun K hK => ?_
    go_simp
    (refine (HNO.out _).mono ?_) <;> rintro en w21 ⟨rfl, hb21⟩ <;> have hz21 := hb21.size <;> (try simp at hz21)
    go_wp2_with fail
    refine hK.out _ _ (HSX.out _ (by exact bl)) fun hHeld => ?_
    clear hK K
    refine ap ?_
    refine tS [22, 23] ?_
    iterate 2 (refine tC ?_; refine ap ?_)
    refine tN ?_
    refine stOwn s p 24 rfl rfl (fun h => h.2.2.1) (HSR.out _) fun hHeld => ap ?_
    refine tS [25] (tC ?_)
    refine ap (tN ?_)
    refine wpAnyH_done (by kernel_rfl) ?_ _
    obtain ⟨hres, hbw⟩ := HEND.out w21 (hcv.trans (Below.mono (B := w6.heap.size) (by exact bl) (by omega)))
    go_wp2_with fail
    exact bodyPost_ret (v := OWV s p ([77, 73, 71, 82, 65, 84, 69, 32, 67, 79, 80, 89, 32] ++ s.tb ++ [32, 70, 82, 79, 77, 32] ++ s.ot ++ [32, 40, 32] ++ NT ++ [32, 41] ++ TC) NO) (by simp [OWV, results, Tryz.results64, asAddr, hres]) rfl ⟨_, _, rfl, by simp <;> omega, fun _ => ⟨by rw [HOK.out]; cases NO <;> rfl, fun _ => HT.out (by trivial) (by trivial)⟩, hbw⟩
 ·skip
  have HOWN : Hid (ownS s = ⟨s.op, s.tb, [], [], [], [], [], [], ex0, [], [], ex0, s.role⟩ ∧ ownP s p = stPZ) := by show _ ∧ _; unfold ownS ownP; rcases hop with h | h | h | h <;> rw [HOP.out, h] <;> exact ⟨rfl, rfl⟩
  obtain ⟨NR, hNR⟩ : ∃ N, nameG s.role = N := ⟨_, rfl⟩
  have HNR : Hid (∀ Y : World, Calls Tryz.prog 47 #[.string ⟨s.role.toArray⟩] Y (Ret (.bool NR) Y)) := fun Y => by rw [← hNR]; exact HN.out s.role Y hrole
  have HOK : Hid (NR = okD s) := by show _ = _; unfold okD; rcases hop with h | h | h | h <;> rw [HOP.out, h, ← hNR] <;> rfl
  clear hNR
  rcases hop with hop | hop | hop | hop
  have HT : Hid (textS s = [71, 82, 65, 78, 84, 32, 82, 69, 65, 68, 32, 79, 78, 32] ++ s.tb ++ [32, 84, 79, 32] ++ s.role) := by show _ = _; unfold textS; rw [HOP.out, hop]; rfl
  rotate_left
  have HT : Hid (textS s = [71, 82, 65, 78, 84, 32, 87, 82, 73, 84, 69, 32, 79, 78, 32] ++ s.tb ++ [32, 84, 79, 32] ++ s.role) := by show _ = _; unfold textS; rw [HOP.out, hop]; rfl
  rotate_left
  have HT : Hid (textS s = [82, 69, 86, 79, 75, 69, 32, 82, 69, 65, 68, 32, 79, 78, 32] ++ s.tb ++ [32, 70, 82, 79, 77, 32] ++ s.role) := by show _ = _; unfold textS; rw [HOP.out, hop]; rfl
  rotate_left
  have HT : Hid (textS s = [82, 69, 86, 79, 75, 69, 32, 87, 82, 73, 84, 69, 32, 79, 78, 32] ++ s.tb ++ [32, 70, 82, 79, 77, 32] ++ s.role) := by show _ = _; unfold textS; rw [HOP.out, hop]; rfl
  rotate_left
  all_goals
   rw [hop] at s0
   simp only [oRead, oWrite, oUnread, oUnwrite] at s0
   have HO := Lib.hid hop
   clear hop
  focus go_upto_region 54 with fail
  rotate_left
  focus go_upto_region 57 with fail
  rotate_left
  focus go_upto_region 60 with fail
  rotate_left
  focus go_upto_region 63 with fail
  rotate_left
  all_goals
   go_cut [] from 900 to 0 (fun wx => Blk wx w1.heap.size 34 ((ownS s).cells (ownP s p)).toArray ∧ Below w1.heap.size w2 wx)
   case first =>
    obtain ⟨-, -, -, -, -, -, -, -, -, -, -, -, -, -, -, -, -, -, -, -, -, -, r22⟩ := ko4.st
    obtain ⟨-, -, -, -, -, -, -, -, -, -, -, -, -, -, -, -, -, -, -, -, -, -, z22⟩ := ko4.stF
    obtain ⟨-, -, -, -, -, -, -, -, -, -, -, -, -, -, -, -, -, -, -, -, -, -, q22⟩ := (HKB.out w4 hc4).st
    go_wp2_with fail
    go_meet
    exact ⟨by rw [HOWN.out.1, HOWN.out.2]; exact blk_eq (ko4.set_ 22 (.string ⟨s.role.toArray⟩)) (by first | (simp only [St.cells, stZ, stPZ, slZ, List.setIfInBounds_toArray, List.set_cons_zero, List.set_cons_succ]; done) | (simp [St.cells, stZ, stPZ, slZ]; done)), by exact bl⟩
   obtain ⟨hkv, hcv⟩ := hcut
   have hsv := hkv.lt
   have hzv := hcv.size
   clear s0 ko4 ko2
   obtain ⟨HSX, HSR⟩ := mkS s p (g := w.heap.size) (fun Y => Y.cell? ⟨w.heap.size, 1, none⟩ = some (.string ⟨s.tb.toArray⟩) ∧ Y.cell? ⟨w.heap.size, 22, none⟩ = some (.string ⟨s.role.toArray⟩)) (fun Y hY => by have kb := HKB.out Y hY; exact ⟨kb.cell 1, kb.cell 22⟩) (fun Y _ kb => ⟨kb.cell 1, kb.cell 22⟩) HKB HKR hcv hkv hls (by omega)
   clear hkv
   go_wp2_with fail
   refine rgn HSX fun hHeld => ?_
   refine tS [0, 1, 2, 3, 4, 5, 6] ?_
   iterate 7 (refine tC ?_; refine ap ?_)
   refine tN ?_
   refine tkOwn s p 7 rfl rfl (fun _ h => h.2.2.2) (ap ?_)
   refine tS [8, 9] ?_
   iterate 2 (refine tC ?_; refine ap ?_)
   refine tN ?_
   refine rdy 10 fun K hK => ?_
   go_simp
   (refine (HNR.out _).mono ?_) <;> rintro en w10 ⟨rfl, hb10⟩ <;> have hz10 := hb10.size <;> (try simp at hz10)
   go_wp2_with fail
   refine hK.out _ _ (HSX.out _ (by exact bl)) fun hHeld => ?_
   clear hK K
   refine ap ?_
   refine tS [11] (tC ?_)
   refine ap (tN ?_)
   refine stOwn s p 12 rfl rfl (fun h => h.2.2.1) (HSR.out _) fun hHeld => ap ?_
   refine tS [13] (tC ?_)
   refine ap (tN ?_)
   refine wpAnyH_done (by kernel_rfl) ?_ _
   obtain ⟨hres, hbw⟩ := HEND.out w10 (hcv.trans (Below.mono (B := wc.heap.size) (by exact bl) (by omega)))
   go_wp2_with fail
   exact bodyPost_ret (v := OWV s p (textS s) NR) (by simp [OWV, results, Tryz.results64, asAddr, hres, HT.out]) rfl ⟨_, _, rfl, by rw [HT.out]; simp <;> omega, fun _ => ⟨HOK.out, fun _ => rfl⟩, hbw⟩
 ·skip
  obtain ⟨n1, n2, n3, n4, n5, n6⟩ := hop
  have HNS : Hid (¬ strongO s.op) := by show ¬ _; rw [HOP.out]; exact n6
  unfold strongO rightO at n6
  simp only [not_or] at n6
  obtain ⟨m1, m2, m3, m4, m5, m6, m7, m8⟩ := n6
  have HOWN : Hid (ownS s = stZ s.op s.tb ∧ ownP s p = stPZ) := by show _ ∧ _; unfold ownS ownP; rw [HOP.out]; simp only [n1, n2, n3, n4, n5, m2, m3, m4, m5, m6, m7, m8, if_false, or_self, and_self]
  have o_create : (O == [99, 114, 101, 97, 116, 101]) = false := beq_eq_false_iff_ne.2 n1
  have o_drop : (O == [100, 114, 111, 112]) = false := beq_eq_false_iff_ne.2 m1
  have o_insert : (O == [105, 110, 115, 101, 114, 116]) = false := beq_eq_false_iff_ne.2 n2
  have o_update : (O == [117, 112, 100, 97, 116, 101]) = false := beq_eq_false_iff_ne.2 n3
  have o_delete : (O == [100, 101, 108, 101, 116, 101]) = false := beq_eq_false_iff_ne.2 m2
  have o_select : (O == [115, 101, 108, 101, 99, 116]) = false := beq_eq_false_iff_ne.2 m3
  have o_copy : (O == [99, 111, 112, 121]) = false := beq_eq_false_iff_ne.2 m4
  have o_join : (O == [106, 111, 105, 110]) = false := beq_eq_false_iff_ne.2 n4
  have o_group : (O == [103, 114, 111, 117, 112]) = false := beq_eq_false_iff_ne.2 n5
  have o_read : (O == [114, 101, 97, 100]) = false := beq_eq_false_iff_ne.2 m5
  have o_write : (O == [119, 114, 105, 116, 101]) = false := beq_eq_false_iff_ne.2 m6
  have o_unread : (O == [117, 110, 114, 101, 97, 100]) = false := beq_eq_false_iff_ne.2 m7
  have o_unwrite : (O == [117, 110, 119, 114, 105, 116, 101]) = false := beq_eq_false_iff_ne.2 m8
  clear n1 m1 n2 n3 m2 m3 m4 n4 n5 m5 m6 m7 m8
  have hkv : Blk w4 w1.heap.size 34 ((ownS s).cells (ownP s p)).toArray := by rw [HOWN.out.1, HOWN.out.2]; exact ko4
  have hcv := hc4
  go_wp2_with fail
  clear o_create o_drop o_insert o_update o_delete o_select o_copy o_join o_group o_read o_write o_unread o_unwrite
  have hsv := hkv.lt
  have hzv := hcv.size
  clear s0 ko4 ko2
  obtain ⟨HSX, HSR⟩ := mkS s p (g := w.heap.size) (fun Y => Y.cell? ⟨w.heap.size, 1, none⟩ = some (.string ⟨s.tb.toArray⟩)) (fun Y hY => by have kb := HKB.out Y hY; exact kb.cell 1) (fun Y _ kb => kb.cell 1) HKB HKR hcv hkv hls (by omega)
  clear hkv
  refine rgn HSX fun hHeld => ?_
  refine tkOwn s p 0 rfl rfl (fun _ h => h.2.2.2) (ap ?_)
  refine tS [1] (tC ?_)
  refine ap (tN ?_)
  refine stOwn s p 2 rfl rfl (fun h => h.2.2.1) (HSR.out _) fun hHeld => ap ?_
  refine tS [3] (tC ?_)
  refine ap (tN ?_)
  refine wpAnyH_done (by kernel_rfl) ?_ _
  obtain ⟨hres, hbw⟩ := HEND.out _ (hcv.drew)
  go_wp2_with fail
  exact bodyPost_ret (v := OWV s p ([]) false) (by simp [OWV, results, Tryz.results64, asAddr, hres]) rfl ⟨_, _, rfl, by simp <;> omega, fun h => absurd h HNS.out, hbw⟩
end Go.Proofs.YtchilcchogcibaaGreatDoor
