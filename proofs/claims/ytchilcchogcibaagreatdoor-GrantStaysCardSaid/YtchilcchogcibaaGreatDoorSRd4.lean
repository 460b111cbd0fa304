/- stmt.creates and stmt.parts as plain functions; The document's condition of a statement as a plain function; The document's reader; The document's reader. -/
import Derived.Deep.CutBlock
import Derived.Deep.DeepCutAuto
import Derived.Deep.WholeRow
import Derived.Test.YtchilcchogcibaaGreatDoorSGr8
import Derived.Test.YtchilcchogcibaaGreatDoorSGrR4
import Derived.Test.YtchilcchogcibaaGreatDoorSR5Law
import Derived.Test.YtchilcchogcibaaGreatDoorSRd2
import Derived.Test.YtchilcchogcibaaGreatDoorSStB
namespace Go.Proofs.YtchilcchogcibaaGreatDoor
open Go.RowKit
attribute [local go_sem] ByteArray.extract_mk ba_get ba_append
attribute [local go_sem ↓] Go.wp_at_zero Go.wp_at_succ
/-- A statement's memory below a block, whose expressions are of these heights. -/
def StH (s : St) (p : StP) (kc ks kw : Nat) (Q : Nat → Prop) (w : World) : Prop :=
 SQ s.names p.names.a Q w ∧ CQ s.cols p.cols.a Q w ∧ SQ s.uniq p.uniq.a Q w ∧ XQ s.refs p.refs.a Q w ∧ ExQ 1000 kc w Q p.chk.a s.chk.l ∧ WQ s.row p.row.a Q w ∧ ZQ 1000 ks s.sets p.sets.a Q w ∧ ExQ 1000 kw w Q p.whr.a s.whr.l
theorem StQ.h {s : St} {p : StP} {Q : Nat → Prop} {w : World} (h : StQ 1000 s p Q w) : ∃ kc ks kw, StH s p kc ks kw Q w := by
 obtain ⟨h1, h2, h3, h4, ⟨n, h5⟩, h6, ⟨m, h7⟩, k, h8⟩ := h
 exact ⟨n, m, k, h1, h2, h3, h4, h5, h6, h7, h8⟩
theorem StH.keep {s : St} {p : StP} {kc ks kw : Nat} {Q Q' : Nat → Prop} {w w' : World} (h : StH s p kc ks kw Q w) (hk : ∀ b, Q b → Q' b ∧ ∀ o, w'.cell? ⟨b, o, none⟩ = w.cell? ⟨b, o, none⟩) : StH s p kc ks kw Q' w' := by
 obtain ⟨h1, h2, h3, h4, h5, h6, h7, h8⟩ := h
 exact ⟨h1.keep hk, h2.keep hk, h3.keep hk, h4.keep hk, h5.keep hk kc, h6.keep hk, h7.keep hk, h8.keep hk kw⟩
set_option maxRecDepth 100000 in
set_option maxHeartbeats 4000000 in
theorem creates_any (s : St) (p : StP) (w : World) (hok : s.Ok) (hQ : StQ 1000 s p (Old w.heap.size) w) : Calls Tryz.prog 75 #[.agg (s.cells p).toArray] w (Ret (.bool (creS s)) w) := by
 obtain ⟨kc, ks, kw, hM⟩ := hQ.h
 refine stBox_in s p w fun w0 HW ks0 hb0 hz0 HST HB => ?_
 dsimp only [St.cells] at HW
 have HM : Hid (∀ Y : World, Below w0.heap.size w0 Y → StH s p kc ks kw (Old Y.heap.size) Y) := fun Y hY => hM.keep (old_keep (hb0.trans (hY.mono hz0)) (Nat.le_trans hz0 hY.size))
 obtain ⟨B1, hB1⟩ : ∃ B, manyB s.cols 1 8 colOkB = B := ⟨_, rfl⟩
 have H1 : Hid (∀ Y : World, Below w0.heap.size w0 Y → Calls Tryz.prog 132 #[.slice p.cols.a s.cols.length p.cols.c, .int .i64 1, .int .i64 8, .func (.func 130) #[] #[]] Y (Ret (.bool B1) Y)) := fun Y hY => by
  rw [← hB1]
  exact manyCol_any p.cols.a p.cols.c s.cols 1 8 Y (by decide) (by decide) hok.nC hok.cols (HM.out Y hY).2.1
 obtain ⟨B2, hB2⟩ : ∃ B, nameG s.key = B := ⟨_, rfl⟩
 have H2 : Hid (∀ Y : World, Below w0.heap.size w0 Y → Calls Tryz.prog 74 #[.string ⟨s.key.toArray⟩] Y (Ret (.bool B2) Y)) := fun Y hY => by
  rw [← hB2]
  exact name_at rfl hok.key Y
 obtain ⟨B3, hB3⟩ : ∃ B, manyB s.uniq 0 8 nameG = B := ⟨_, rfl⟩
 have H3 : Hid (∀ Y : World, Below w0.heap.size w0 Y → Calls Tryz.prog 82 #[.slice p.uniq.a s.uniq.length p.uniq.c, .int .i64 0, .int .i64 8, .func (.func 74) #[] #[]] Y (Ret (.bool B3) Y)) := fun Y hY => by
  rw [← hB3]
  exact manyN_any p.uniq.a p.uniq.c s.uniq 0 8 Y (by decide) (by decide) hok.nU hok.uniq (HM.out Y hY).2.2.1
 obtain ⟨B4, hB4⟩ : ∃ B, manyB s.refs 0 8 refOkB = B := ⟨_, rfl⟩
 have H4 : Hid (∀ Y : World, Below w0.heap.size w0 Y → Calls Tryz.prog 133 #[.slice p.refs.a s.refs.length p.refs.c, .int .i64 0, .int .i64 8, .func (.func 131) #[] #[]] Y (Ret (.bool B4) Y)) := fun Y hY => by
  rw [← hB4]
  exact manyRef_any p.refs.a p.refs.c s.refs 0 8 Y (by decide) (by decide) hok.nR hok.refs (HM.out Y hY).2.2.2.1
 obtain ⟨B5, hB5⟩ : ∃ B, perhapsE s.chk = B := ⟨_, rfl⟩
 have H5 : Hid (∀ Y : World, Below w0.heap.size w0 Y → Calls Tryz.prog 81 #[.agg #[.string ⟨s.chk.op.toArray⟩, .int .i64 s.chk.v.k, .int .i64 s.chk.v.i, .string ⟨s.chk.v.s.toArray⟩, .string ⟨s.chk.s.toArray⟩, .slice p.chk.a s.chk.l.length p.chk.c]] Y (Ret (.bool B5) Y)) := fun Y hY => by
  rw [← hB5]
  exact perhaps_any s.chk p.chk.a p.chk.c kc Y hok.chk (exq_s (HM.out Y hY).2.2.2.2.1 (Nat.le_refl _))
 have hR : creS s = (B1 && (B2 && (B3 && (B4 && B5)))) := by unfold creS; rw [hB1, hB2, hB3, hB4, hB5]; simp only [Bool.and_assoc]
 obtain ⟨R, hR0⟩ : ∃ R, creS s = R := ⟨_, rfl⟩
 rw [hR0] at hR ⊢
 have HR := Lib.hid hR
 clear hR hR0 hB1 hB2 hB3 hB4 hB5 ks0 hQ hM hok HM
 obtain ⟨s0, s1, s2, s3, s4, s5, s6, s7, s8, s9, s10, s11, s12, s13, s14, s15, s16, s17, s18, s19, s20, s21, s22⟩ := HST.out w0 (Below.refl _ _)
 dsimp only [St.cells]
 go_enter Tryz.func75, Tryz.ntmps75
 go_upto_region 1 with fail
 rw [show w.alloc _ = w0 from HW.out]
 clear HW
 have hc0 : Below w0.heap.size w0 w0 := Below.refl _ _
 go_wp2_with fail
 refine (H1.out w0 hc0).mono ?_
 rintro en w1 ⟨rfl, hb1⟩
 have hc1 : Below w0.heap.size w0 w1 := hc0.trans (hb1.mono hc0.size)
 have hz1 := hc1.size
 clear s0 s1 s2 s3 s4 s5 s6 s7 s8 s9 s10 s11 s12 s13 s14 s15 s16 s17 s18 s19 s20 s21 s22
 cases B1 with
 | false =>
  go_wp2_with fail
  go_ret
  exact ⟨by rw [HR.out]; rfl, HB.out.trans (hc1.mono hz0)⟩
 | true =>
  obtain ⟨s0, s1, s2, s3, s4, s5, s6, s7, s8, s9, s10, s11, s12, s13, s14, s15, s16, s17, s18, s19, s20, s21, s22⟩ := HST.out w1 hc1
  go_wp2_with fail
  refine (H2.out w1 hc1).mono ?_
  rintro en w2 ⟨rfl, hb2⟩
  have hc2 : Below w0.heap.size w0 w2 := hc1.trans (hb2.mono hc1.size)
  have hz2 := hc2.size
  clear s0 s1 s2 s3 s4 s5 s6 s7 s8 s9 s10 s11 s12 s13 s14 s15 s16 s17 s18 s19 s20 s21 s22
  cases B2 with
  | false =>
   go_wp2_with fail
   go_ret
   exact ⟨by rw [HR.out]; rfl, HB.out.trans (hc2.mono hz0)⟩
  | true =>
   obtain ⟨s0, s1, s2, s3, s4, s5, s6, s7, s8, s9, s10, s11, s12, s13, s14, s15, s16, s17, s18, s19, s20, s21, s22⟩ := HST.out w2 hc2
   go_wp2_with fail
   refine (H3.out w2 hc2).mono ?_
   rintro en w3 ⟨rfl, hb3⟩
   have hc3 : Below w0.heap.size w0 w3 := hc2.trans (hb3.mono hc2.size)
   have hz3 := hc3.size
   clear s0 s1 s2 s3 s4 s5 s6 s7 s8 s9 s10 s11 s12 s13 s14 s15 s16 s17 s18 s19 s20 s21 s22
   cases B3 with
   | false =>
    go_wp2_with fail
    go_ret
    exact ⟨by rw [HR.out]; rfl, HB.out.trans (hc3.mono hz0)⟩
   | true =>
    obtain ⟨s0, s1, s2, s3, s4, s5, s6, s7, s8, s9, s10, s11, s12, s13, s14, s15, s16, s17, s18, s19, s20, s21, s22⟩ := HST.out w3 hc3
    go_wp2_with fail
    refine (H4.out w3 hc3).mono ?_
    rintro en w4 ⟨rfl, hb4⟩
    have hc4 : Below w0.heap.size w0 w4 := hc3.trans (hb4.mono hc3.size)
    have hz4 := hc4.size
    clear s0 s1 s2 s3 s4 s5 s6 s7 s8 s9 s10 s11 s12 s13 s14 s15 s16 s17 s18 s19 s20 s21 s22
    cases B4 with
    | false =>
     go_wp2_with fail
     go_ret
     exact ⟨by rw [HR.out]; rfl, HB.out.trans (hc4.mono hz0)⟩
    | true =>
     obtain ⟨s0, s1, s2, s3, s4, s5, s6, s7, s8, s9, s10, s11, s12, s13, s14, s15, s16, s17, s18, s19, s20, s21, s22⟩ := HST.out w4 hc4
     go_wp2_with fail
     refine (H5.out w4 hc4).mono ?_
     rintro en w5 ⟨rfl, hb5⟩
     have hc5 : Below w0.heap.size w0 w5 := hc4.trans (hb5.mono hc4.size)
     have hz5 := hc5.size
     clear s0 s1 s2 s3 s4 s5 s6 s7 s8 s9 s10 s11 s12 s13 s14 s15 s16 s17 s18 s19 s20 s21 s22
     go_wp2_with fail
     go_ret
     exact ⟨by rw [HR.out]; rfl, HB.out.trans (hc5.mono hz0)⟩
/-- The whole of a statement's memory, at a later world. -/
theorem StH.q {s : St} {p : StP} {kc ks kw : Nat} {Q : Nat → Prop} {w : World} (h : StH s p kc ks kw Q w) : StQ 1000 s p Q w := by
 obtain ⟨h1, h2, h3, h4, h5, h6, h7, h8⟩ := h
 exact ⟨h1, h2, h3, h4, ⟨_, h5⟩, h6, ⟨_, h7⟩, _, h8⟩
/-- What stmt.empty wants. -/
def St.Slim (s : St) : Prop := s.tb.length ≤ 1000 ∧ s.ot.length ≤ 1000 ∧ s.key.length ≤ 1000 ∧ s.role.length ≤ 1000 ∧ s.names.length ≤ 1000 ∧ s.cols.length ≤ 1000 ∧ s.uniq.length ≤ 1000 ∧ s.refs.length ≤ 1000 ∧ s.row.length ≤ 1000 ∧ s.sets.length ≤ 1000
theorem emptyAt (s : St) (p : StP) (h : s.Slim) {E : Bool} (he : emptyS s = E) (Y : World) : Calls Tryz.prog 83 #[.agg (s.cells p).toArray] Y (Ret (.bool E) Y) := by
 obtain ⟨h1, h2, h3, h4, h5, h6, h7, h8, h9, h10⟩ := h
 have := empty_any s p Y (by omega) (by omega) (by omega) (by omega) (by omega) (by omega) (by omega) (by omega) (by omega) (by omega)
 rw [he] at this
 exact this
theorem st_set_tb {w : World} {g : Nat} {t : TypeId} {s : St} {p : StP} (h : Blk w g t (s.cells p).toArray) : Blk (w.setCell ⟨g, 1, none⟩ (.string ⟨#[]⟩)) g t (({ s with tb := [] } : St).cells p).toArray := by
 have := h.set_ 1 (.string ⟨#[]⟩)
 simpa [St.cells] using this
theorem st_set_ot {w : World} {g : Nat} {t : TypeId} {s : St} {p : StP} (h : Blk w g t (s.cells p).toArray) : Blk (w.setCell ⟨g, 2, none⟩ (.string ⟨#[]⟩)) g t (({ s with ot := [] } : St).cells p).toArray := by
 have := h.set_ 2 (.string ⟨#[]⟩)
 simpa [St.cells] using this
theorem st_set_names {w : World} {g : Nat} {t : TypeId} {s : St} {p : StP} (h : Blk w g t (s.cells p).toArray) : Blk (w.setCell ⟨g, 3, none⟩ (.slice none 0 0)) g t (({ s with names := [] } : St).cells ({ p with names := ⟨none, 0⟩ } : StP)).toArray := by
 have := h.set_ 3 (.slice none 0 0)
 simpa [St.cells] using this
theorem st_set_cols {w : World} {g : Nat} {t : TypeId} {s : St} {p : StP} (h : Blk w g t (s.cells p).toArray) : Blk (w.setCell ⟨g, 4, none⟩ (.slice none 0 0)) g t (({ s with cols := [] } : St).cells ({ p with cols := ⟨none, 0⟩ } : StP)).toArray := by
 have := h.set_ 4 (.slice none 0 0)
 simpa [St.cells] using this
theorem st_set_key {w : World} {g : Nat} {t : TypeId} {s : St} {p : StP} (h : Blk w g t (s.cells p).toArray) : Blk (w.setCell ⟨g, 5, none⟩ (.string ⟨#[]⟩)) g t (({ s with key := [] } : St).cells p).toArray := by
 have := h.set_ 5 (.string ⟨#[]⟩)
 simpa [St.cells] using this
theorem st_set_uniq {w : World} {g : Nat} {t : TypeId} {s : St} {p : StP} (h : Blk w g t (s.cells p).toArray) : Blk (w.setCell ⟨g, 6, none⟩ (.slice none 0 0)) g t (({ s with uniq := [] } : St).cells ({ p with uniq := ⟨none, 0⟩ } : StP)).toArray := by
 have := h.set_ 6 (.slice none 0 0)
 simpa [St.cells] using this
theorem st_set_refs {w : World} {g : Nat} {t : TypeId} {s : St} {p : StP} (h : Blk w g t (s.cells p).toArray) : Blk (w.setCell ⟨g, 7, none⟩ (.slice none 0 0)) g t (({ s with refs := [] } : St).cells ({ p with refs := ⟨none, 0⟩ } : StP)).toArray := by
 have := h.set_ 7 (.slice none 0 0)
 simpa [St.cells] using this
theorem st_set_row {w : World} {g : Nat} {t : TypeId} {s : St} {p : StP} (h : Blk w g t (s.cells p).toArray) : Blk (w.setCell ⟨g, 14, none⟩ (.slice none 0 0)) g t (({ s with row := [] } : St).cells ({ p with row := ⟨none, 0⟩ } : StP)).toArray := by
 have := h.set_ 14 (.slice none 0 0)
 simpa [St.cells] using this
theorem st_set_sets {w : World} {g : Nat} {t : TypeId} {s : St} {p : StP} (h : Blk w g t (s.cells p).toArray) : Blk (w.setCell ⟨g, 15, none⟩ (.slice none 0 0)) g t (({ s with sets := [] } : St).cells ({ p with sets := ⟨none, 0⟩ } : StP)).toArray := by
 have := h.set_ 15 (.slice none 0 0)
 simpa [St.cells] using this
theorem st_set_role {w : World} {g : Nat} {t : TypeId} {s : St} {p : StP} (h : Blk w g t (s.cells p).toArray) : Blk (w.setCell ⟨g, 22, none⟩ (.string ⟨#[]⟩)) g t (({ s with role := [] } : St).cells p).toArray := by
 have := h.set_ 22 (.string ⟨#[]⟩)
 simpa [St.cells] using this
theorem st_set_chk {w : World} {g : Nat} {t : TypeId} {s : St} {p : StP} (h : Blk w g t (s.cells p).toArray) : Blk ((((((w.setCell ⟨g, 8, none⟩ (.string ⟨#[]⟩)).setCell ⟨g, 9, none⟩ (.int .i64 0)).setCell ⟨g, 10, none⟩ (.int .i64 0)).setCell ⟨g, 11, none⟩ (.string ⟨#[]⟩)).setCell ⟨g, 12, none⟩ (.string ⟨#[]⟩)).setCell ⟨g, 13, none⟩ (.slice none 0 0)) g t (({ s with chk := exZero } : St).cells ({ p with chk := ⟨none, 0⟩ } : StP)).toArray := by
 have := (((((h.set_ 8 (.string ⟨#[]⟩)).set_ 9 (.int .i64 0)).set_ 10 (.int .i64 0)).set_ 11 (.string ⟨#[]⟩)).set_ 12 (.string ⟨#[]⟩)).set_ 13 (.slice none 0 0)
 simpa [St.cells, exZero, Ex.op, Ex.v, Ex.s, Ex.l, V.zero] using this
theorem st_set_whr {w : World} {g : Nat} {t : TypeId} {s : St} {p : StP} (h : Blk w g t (s.cells p).toArray) : Blk ((((((w.setCell ⟨g, 16, none⟩ (.string ⟨#[]⟩)).setCell ⟨g, 17, none⟩ (.int .i64 0)).setCell ⟨g, 18, none⟩ (.int .i64 0)).setCell ⟨g, 19, none⟩ (.string ⟨#[]⟩)).setCell ⟨g, 20, none⟩ (.string ⟨#[]⟩)).setCell ⟨g, 21, none⟩ (.slice none 0 0)) g t (({ s with whr := exZero } : St).cells ({ p with whr := ⟨none, 0⟩ } : StP)).toArray := by
 have := (((((h.set_ 16 (.string ⟨#[]⟩)).set_ 17 (.int .i64 0)).set_ 18 (.int .i64 0)).set_ 19 (.string ⟨#[]⟩)).set_ 20 (.string ⟨#[]⟩)).set_ 21 (.slice none 0 0)
 simpa [St.cells, exZero, Ex.op, Ex.v, Ex.s, Ex.l, V.zero] using this
theorem size_st : (Tryz.prog.info? 34).map (·.size) = some 23 := by kernel_rfl
theorem one_st (s : St) (p : StP) : (s.cells p).toArray.all (·.oneCell') = true := by simp [St.cells, Value.oneCell']
theorem wpList_load_rowG {P : Program} {ops : Array Oper} {rest : List Oper} {o : Oper} {a : Act} {w : World} {Q : Exit → Act → World → Prop} (hw : Region.wanted o (yielded ops a.tmps) = true) (ty : TypeId) (x : Operand) (ho : o.op = .load ty x)
  (g : Nat) (hx : a.eval x = .pointer (some ⟨g, 0, none⟩)) (t : TypeId) (cs : Array Value) (fr : Nat × Nat) (d : TypeDesc) (hg : w.heap[g]? = some (.cells cs t fr))
  (hu : P.underlying ty = some d) (hd : (match d with | .struct _ | .array _ _ => true | _ => false) = true) (hi : (P.info? ty).map (·.size) = some cs.size)
  (h : wpList P ops Q rest (a.put o.dst (.agg cs)) w) : wpList P ops Q (o :: rest) a w :=
 wpList_step fun K hK => by rw [if_pos hw]; exact wp_load_row ty x ho g hx t cs fr d hg hu hd hi (hK _ _ h)
theorem sl0 {α : Type} : ([] : List α).length ≤ 1000 := Nat.zero_le _
def wWhere : List UInt8 := [87, 72, 69, 82, 69]
/-- What cond writes. -/
def condT (e : Ex) (word : List UInt8) : List UInt8 := if mayX e = true then (if word = wWhere then [32, 87, 72, 69, 82, 69, 32] ++ textX e else word ++ [32, 67, 72, 69, 67, 75, 32, 40, 32] ++ textX e ++ [32, 41]) else []
theorem may_op {e : Ex} (h : mayX e = true) : ¬ e.op = [] := by
 intro h0
 have h1 := may_formE h
 rcases form_cases h1 with ⟨he, _⟩ | ⟨he, _, _⟩ | ⟨a, rfl, _⟩ | ⟨a, rfl, _⟩ | ⟨op, a, b, rfl, ho, _, _⟩
 ·rw [he] at h0; cases h0
 ·rw [he] at h0; cases h0
 ·cases h0
 ·cases h0
 ·have h0 : op = [] := h0
  subst h0
  rw [twoB_iff] at ho
  rcases ho with h | h | h | h | h | h <;> cases h
theorem none_op {e : Ex} (h : noneE e = true) : e.op = [] := by
 unfold noneE at h
 simp only [Bool.and_eq_true, List.isEmpty_iff] at h
 exact h.1.1.1
theorem none_may {e : Ex} (h : noneE e = true) : mayX e = false := by
 cases hm : mayX e
 ·rfl
 ·exact absurd (none_op h) (may_op hm)
theorem same0_none (e : Ex) : same0 e = noneE e := by
 unfold same0 noneE
 obtain ⟨op, v, s, l⟩ := e
 cases op <;> cases s <;> cases l <;> simp [Ex.op, Ex.v, Ex.s, Ex.l]
theorem textX_lt {e : Ex} (h : mayX e = true) (hf : fitE 13 e) : (textX e).length ≤ 1000000 := textN_lt (Nat.le_refl _) (form_up 12 e (mayX_form h)) hf
set_option maxRecDepth 100000 in
set_option maxHeartbeats 2000000 in
theorem rcond_any (e : Ex) (word : List UInt8) (A : Option Addr) (c m : Nat) (w : World) (hf : e.fit 1000) (hfe : fitE 13 e) (hE : ExS 1000 m w w.heap.size A e.l) (hl : e.l.length ≤ maxLen) (hw : word.length ≤ 1000) :
  Calls Tryz.prog 108 #[.agg (e.cells A c).toArray, .string ⟨word.toArray⟩] w (Ret (.tuple #[.string ⟨(condT e word).toArray⟩, .bool (perhapsE e)]) w) := by
 refine exBox_in e A c w fun w0 hw0 kq0 hb0 hz0 HSH HW HB => ?_
 obtain ⟨q0, q1, q2, q3, q4, q5⟩ := HSH.out w0 (Below.refl _ _)
 have hEY : ∀ Y : World, Below w0.heap.size w0 Y → ExS 1000 m Y Y.heap.size A e.l := fun Y hY => (hE.below m (hb0.trans (hY.mono hz0))).more (Nat.le_trans hz0 hY.size) m
 have HSM : Hid (∀ Y : World, Below w0.heap.size w0 Y → Calls Tryz.prog 56 #[.agg (e.cells A c).toArray, .agg #[.string ⟨#[]⟩, .int .i64 0, .int .i64 0, .string ⟨#[]⟩, .string ⟨#[]⟩, .slice none 0 0]] Y (Ret (.bool (noneE e)) Y)) := fun Y hY => by
  have := same4_any m e ex0 A none c 0 Y hl (hEY Y hY) (ExS.nil m)
  rw [sameE_0, same0_none] at this
  exact this
 have HMY : Hid (∀ Y : World, Below w0.heap.size w0 Y → Calls Tryz.prog 112 #[.agg (e.cells A c).toArray] Y (Ret (.bool (mayX e)) Y)) := fun Y hY => may4_any m e A c Y hf (hEY Y hY)
 have HTX : Hid (mayX e = true → ∀ Y : World, Below w0.heap.size w0 Y → Calls Tryz.prog 113 #[.agg (e.cells A c).toArray] Y (Ret (.string ⟨(textX e).toArray⟩) Y)) := fun hm Y hY =>
  rextext_any 0 13 e A c m Y (by omega) (Nat.zero_le _) (form_up 12 e (mayX_form hm)) hfe hf (hEY Y hY)
 have hln : mayX e = true → (textX e).length ≤ 1000000 := fun hm => textX_lt hm hfe
 obtain ⟨R, hR⟩ : ∃ R, condT e word = R := ⟨_, rfl⟩
 obtain ⟨P, hP⟩ : ∃ P, perhapsE e = P := ⟨_, rfl⟩
 rw [hR, hP]
 unfold condT at hR
 unfold perhapsE at hP
 by_cases ho : e.op = []
 ·have hm : mayX e = false := by
   cases hm : mayX e
   ·rfl
   ·exact absurd ho (may_op hm)
  rw [hm] at hR hP
  rw [if_neg (by decide)] at hR
  rw [Bool.or_false] at hP
  rw [hP] at HSM
  subst hR
  clear hw0 kq0 hb0 hE hf hfe hP HMY HTX hln hm hEY hl
  dsimp only [Ex.cells] at HW HSM ⊢
  have o1 : (e.op == []) = true := by rw [ho]; rfl
  have HO := Lib.hid ho
  clear ho
  go_enter Tryz.func108, Tryz.ntmps108
  go_upto_region 1 with fail
  rw [show w.alloc _ = w0 from HW.out]
  clear HW
  have HC := Lib.hid (HSM.out w0 (Below.refl _ _))
  go_wp2_with fail
  refine HC.out.mono ?_
  rintro en w1 ⟨rfl, hb1⟩
  go_wp2_with fail
  refine bodyPost_ret (v := .tuple #[.string ⟨#[]⟩, .bool P]) (by simp [results, Tryz.results108, go_sem, *]) rfl ?_
  exact ⟨rfl, HB.out.trans (hb1.mono hz0)⟩
 ·have o1 : (e.op == []) = false := by rw [beq_eq_false_iff_ne]; exact ho
  have hn : noneE e = false := by
   cases hn : noneE e
   ·rfl
   ·exact absurd (none_op hn) ho
  rw [hn, Bool.false_or] at hP
  obtain ⟨M, hM⟩ : ∃ M, mayX e = M := ⟨_, rfl⟩
  obtain ⟨T, hT⟩ : ∃ T, textX e = T := ⟨_, rfl⟩
  rw [hM] at HMY HTX hln hR hP
  rw [hT] at HTX hln hR
  subst hP
  have HO := Lib.hid ho
  clear hw0 kq0 hb0 hE hf hfe hM hT hn hEY hl ho HSM
  dsimp only [Ex.cells] at HW HMY HTX ⊢
  have HC := Lib.hid (HMY.out w0 (Below.refl _ _))
  cases M with
  | false =>
   rw [if_neg (by decide)] at hR
   subst hR
   clear hln
   go_enter Tryz.func108, Tryz.ntmps108
   go_upto_region 1 with fail
   rw [show w.alloc _ = w0 from HW.out]
   clear HW
   go_wp2_with fail
   refine HC.out.mono ?_
   rintro en w1 ⟨rfl, hb1⟩
   go_wp2_with fail
   refine bodyPost_ret (v := .tuple #[.string ⟨#[]⟩, .bool false]) (by simp [results, Tryz.results108, go_sem, *]) rfl ?_
   exact ⟨rfl, HB.out.trans (hb1.mono hz0)⟩
  | true =>
   rw [if_pos rfl] at hR
   have hln := hln rfl
   by_cases h1 : word = wWhere
   ·rw [if_pos h1] at hR
    have e1 : (word == [87, 72, 69, 82, 69]) = true := by rw [h1]; rfl
    have HR := Lib.hid hR
    clear hR h1
    go_enter Tryz.func108, Tryz.ntmps108
    go_upto_region 1 with fail
    rw [show w.alloc _ = w0 from HW.out]
    clear HW
    go_wp2_with fail
    refine HC.out.mono ?_
    rintro en w1 ⟨rfl, hb1⟩
    clear q0 q1 q2 q3 q4 q5
    obtain ⟨q0, q1, q2, q3, q4, q5⟩ := HSH.out w1 hb1
    have HC2 := Lib.hid (HTX.out trivial w1 hb1)
    have hz1 := hb1.size
    go_wp2_with fail
    refine HC2.out.mono ?_
    rintro en w2 ⟨rfl, hb2⟩
    go_wp2_with fail
    refine bodyPost_ret (v := .tuple #[.string ⟨([32, 87, 72, 69, 82, 69, 32] ++ T).toArray⟩, .bool true]) (by simp [results, Tryz.results108, go_sem, *]) rfl ?_
    exact ⟨by rw [HR.out], HB.out.trans ((hb1.trans (hb2.mono hz1)).mono hz0)⟩
   ·rw [if_neg h1] at hR
    have e1 : (word == [87, 72, 69, 82, 69]) = false := by rw [beq_eq_false_iff_ne]; exact h1
    have HR := Lib.hid hR
    clear hR h1
    go_enter Tryz.func108, Tryz.ntmps108
    go_upto_region 1 with fail
    rw [show w.alloc _ = w0 from HW.out]
    clear HW
    go_wp2_with fail
    refine HC.out.mono ?_
    rintro en w1 ⟨rfl, hb1⟩
    clear q0 q1 q2 q3 q4 q5
    obtain ⟨q0, q1, q2, q3, q4, q5⟩ := HSH.out w1 hb1
    have HC2 := Lib.hid (HTX.out trivial w1 hb1)
    have hz1 := hb1.size
    go_wp2_with fail
    refine HC2.out.mono ?_
    rintro en w2 ⟨rfl, hb2⟩
    go_wp2_with fail
    refine bodyPost_ret (v := .tuple #[.string ⟨(word ++ [32, 67, 72, 69, 67, 75, 32, 40, 32] ++ T ++ [32, 41]).toArray⟩, .bool true]) (by simp [results, Tryz.results108, go_sem, *]) rfl ?_
    exact ⟨by rw [HR.out], HB.out.trans ((hb1.trans (hb2.mono hz1)).mono hz0)⟩
theorem But.join {p : Nat} {a w w' : World} (h : But p a w) (hb : Below a.heap.size w w') : But p a w' :=
 ⟨hb.os.trans h.os, hb.tape.trans h.tape, hb.output.trans h.output, Nat.le_trans h.size hb.size, fun i hi hp => (hb.block i hi).trans (h.block i hi hp)⟩
set_option maxRecDepth 100000 in
set_option maxHeartbeats 2000000 in
/-- Where the word is not there. -/
theorem rdcond_none (l : List Tok) (A : Option Addr) (c a g : Nat) (ok : Bool) (s : List UInt8) (w : World) (hl : l.length ≤ 1000000) (ha : a ≤ l.length) (h : RdS g A c l a ok w) (hs : seeT l a s = false) :
  Calls Tryz.prog 126 #[.pointer (some ⟨g, 0, none⟩), .string ⟨s.toArray⟩] w (RetRd (.returned (.agg #[.string ⟨#[]⟩, .int .i64 0, .int .i64 0, .string ⟨#[]⟩, .string ⟨#[]⟩, .slice none 0 0])) g A c l a ok w) := by
 have lg := Blk.lt h.1
 have HPS : Hid (∀ Z : World, Below w.heap.size w Z → Calls Tryz.prog 120 #[.pointer (some ⟨g, 0, none⟩), .string ⟨s.toArray⟩] Z (RetRd (.returned (.bool false)) g A c l a ok Z)) := by
  intro Z hz
  have := rpass_any l A c a g ok s Z hl ha (h.but hz)
  rw [hs] at this
  exact this
 clear h hs
 go_enter Tryz.func126, Tryz.ntmps126
 go_wp2_with (go_at_call 120; refine (HPS.out _ (by exact bl)).mono ?_; rintro e w1 ⟨rfl, hP1, hb1⟩; have hz1 := hb1.size; (try simp at hz1); have k1 : Blk w1 w.heap.size 30 #[.string ⟨#[]⟩, .int .i64 0, .int .i64 0, .string ⟨#[]⟩, .string ⟨#[]⟩, .slice none 0 0] := hb1.blk (Blk.new _ _ _) (by omega); have c0 := k1.cell 0; have c1 := k1.cell 1; have c2 := k1.cell 2; have c3 := k1.cell 3; have c4 := k1.cell 4; have c5 := k1.cell 5; have f0 := k1.frozen 0; have f1 := k1.frozen 1; have f2 := k1.frozen 2; have f3 := k1.frozen 3; have f4 := k1.frozen 4; have f5 := k1.frozen 5)
 refine bodyPost_ret (v := .agg #[.string ⟨#[]⟩, .int .i64 0, .int .i64 0, .string ⟨#[]⟩, .string ⟨#[]⟩, .slice none 0 0]) (by simp [results, Tryz.results126, go_sem, *]) rfl ?_
 have hbA : Below w.heap.size w (w.alloc (.cells #[.string ⟨#[]⟩, .int .i64 0, .int .i64 0, .string ⟨#[]⟩, .string ⟨#[]⟩, .slice none 0 0] 30)) := by exact bl
 refine ⟨rfl, ⟨Blk.below (B := w.heap.size) hP1.1 ?_ lg, hP1.2.below (Below.mono (B := w.heap.size) ?_ (Nat.le_of_lt lg))⟩, ((But.of_below hbA).trans hb1).join ?_⟩
 all_goals ((with_reducible repeat' (first | exact bwR | assumption | refine bwD ?_ | refine bwN ?_ | refine bwS ?_ ?_ | refine bwA ?_ ?_ | refine bwT ?_ (by assumption) ?_)) <;> first | (simp; done) | (simp; omega) | omega)
/-- All blocks but two stay. -/
def But2 (p q : Nat) (w w' : World) : Prop := w'.os = w.os ∧ w'.tape = w.tape ∧ w'.output = w.output ∧ w.heap.size ≤ w'.heap.size ∧ ∀ i, i < w.heap.size → i ≠ p → i ≠ q → w'.heap[i]? = w.heap[i]?
/-- What a right leaves. -/
def RetRight (g sb : Nat) (A : Option Addr) (c : Nat) (l : List Tok) (a : Nat) (ok : Bool) (cs : Array Value) (w : World) (e : Ending) (w' : World) : Prop := e = .returned (.tuple #[]) ∧ RdS g A c l a ok w' ∧ Blk w' sb 34 cs ∧ But2 g sb w w'
set_option maxRecDepth 100000 in
set_option maxHeartbeats 2000000 in
theorem rdright_any (l : List Tok) (A : Option Addr) (c a g sb : Nat) (ok : Bool) (s : St) (p : StP) (word t r : List UInt8) (w : World) (hl : l.length ≤ 1000) (ha : a + 5 ≤ l.length) (h : RdS g A c l a ok w) (hs : g < sb) (ks : Blk w sb 34 (s.cells p).toArray)
  (h1 : seeT l a [82, 69, 65, 68] = true) (h2 : seeT l (a + 1) [79, 78] = true) (h3 : rnameT l (a + 2) = some t) (h4 : seeT l (a + 3) word = true) (h5 : rnameT l (a + 4) = some r) :
  Calls Tryz.prog 128 #[.pointer (some ⟨g, 0, none⟩), .pointer (some ⟨sb, 0, none⟩), .string ⟨word.toArray⟩] w
   (RetRight g sb A c l (a + 5) ok (({ s with tb := t, role := r } : St).cells p).toArray w) := by
 have hp1 := rpass_any l A c a g ok [82, 69, 65, 68] w (by omega) (by omega) h
 rw [h1] at hp1
 go_enter Tryz.func128, Tryz.ntmps128
 go_wp2_with (go_at_call 120; refine hp1.mono ?_; rintro e w1 ⟨rfl, hP1, hb1⟩)
 have k1 := hb1.blk ks (by omega)
 have hm2 := rmust_any l A c (a + 1) g ok [79, 78] w1 (by omega) (by omega) hP1
 rw [h2] at hm2
 refine hm2.mono ?_
 rintro e w2 ⟨rfl, hP2, hb2⟩
 have k2 := hb2.blk k1 (by omega)
 go_wp2_with fail
 have hm3 := rdname_any l A c (a + 2) g (ok && true) w2 (by omega) hP2
 rw [h3] at hm3
 refine hm3.mono ?_
 rintro e w3 ⟨rfl, hP3, hb3⟩
 have k3 := hb3.blk k2 (by omega)
 have x1 := k3.cell 1
 have f1 := k3.frozen 1
 go_wp2_with fail
 obtain ⟨w4, hw4⟩ : ∃ w4, w3.setCell ⟨sb, 1, none⟩ (.string ⟨t.toArray⟩) = w4 := ⟨_, rfl⟩
 rw [hw4]
 have hd4 : Below sb w3 w4 := by rw [← hw4]; exact bwS bwR (Nat.le_refl _)
 have hb4 : But sb w3 w4 := by rw [← hw4]; exact (But.refl _ _).set 1 _
 have k4 : Blk w4 sb 34 (({ s with tb := t } : St).cells p).toArray := by rw [← hw4]; exact k3.set_ 1 _
 have hP4 : RdS g A c l (a + 3) (ok && true && true) w4 := ⟨Blk.below hP3.1 hd4 hs, hP3.2.below (hd4.mono (Nat.le_of_lt hs))⟩
 clear hw4 x1 f1
 have hm5 := rmust_any l A c (a + 3) g (ok && true && true) word w4 (by omega) (by omega) hP4
 rw [h4] at hm5
 refine hm5.mono ?_
 rintro e w5 ⟨rfl, hP5, hb5⟩
 have k5 := hb5.blk k4 (by omega)
 go_wp2_with fail
 have hm6 := rdname_any l A c (a + 4) g (ok && true && true && true) w5 (by omega) hP5
 rw [h5] at hm6
 refine hm6.mono ?_
 rintro e w6 ⟨rfl, hP6, hb6⟩
 have k6 := hb6.blk k5 (by omega)
 have x1 := k6.cell 22
 have f1 := k6.frozen 22
 go_wp2_with fail
 refine bodyPost_ret (v := .tuple #[]) (by simp [results, Tryz.results128, go_sem, *]) rfl ?_
 have hd7 : Below sb w6 (w6.setCell ⟨sb, 22, none⟩ (.string ⟨r.toArray⟩)) := bwS bwR (Nat.le_refl _)
 have hb7 : But sb w6 (w6.setCell ⟨sb, 22, none⟩ (.string ⟨r.toArray⟩)) := (But.refl _ _).set 22 _
 have e6 : (ok && true && true && true && true) = ok := by simp
 have hP7 : RdS g A c l (a + 5) ok w6 := e6 ▸ hP6
 refine ⟨rfl, ⟨Blk.below hP7.1 hd7 hs, hP7.2.below (hd7.mono (Nat.le_of_lt hs))⟩, k6.set_ 22 _, ?_⟩
 have ha1 := (hb1.trans hb2).trans hb3
 have ha2 := hb5.trans hb6
 exact ⟨hb7.os.trans (ha2.os.trans (hb4.os.trans ha1.os)), hb7.tape.trans (ha2.tape.trans (hb4.tape.trans ha1.tape)), hb7.output.trans (ha2.output.trans (hb4.output.trans ha1.output)),
  Nat.le_trans ha1.size (Nat.le_trans hb4.size (Nat.le_trans ha2.size hb7.size)),
  fun i hi hg hq => (hb7.block i (by have := ha1.size; have := hb4.size; have := ha2.size; omega) hq).trans ((ha2.block i (by have := ha1.size; have := hb4.size; omega) hg).trans ((hb4.block i (by have := ha1.size; omega) hq).trans (ha1.block i hi hg)))⟩
end Go.Proofs.YtchilcchogcibaaGreatDoor
