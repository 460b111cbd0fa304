/- stmt.creates and stmt.parts as plain functions. Condition: a statement whose texts and lists are no longer than a thousand.. -/
import Derived.Deep.WholeRow
import Derived.Test.YtchilcchogcibaaGreatDoorEStC
set_option maxRecDepth 100000
set_option maxHeartbeats 4000000
namespace Go.Proofs.YtchilcchogcibaaGreatDoor
open Go.RowKit
attribute [local go_sem] ByteArray.extract_mk ba_get ba_append
attribute [local go_sem ↓] Go.wp_at_zero Go.wp_at_succ
def StH (s : St) (p : StP) (kc ks kw : Nat) (Q : Nat → Prop) (w : World) : Prop :=
 SQ s.names p.names.a Q w ∧ CQ s.cols p.cols.a Q w ∧ SQ s.uniq p.uniq.a Q w ∧ XQ s.refs p.refs.a Q w ∧ ExQ 1000 kc w Q p.chk.a s.chk.l ∧ WQ s.row p.row.a Q w ∧ ZQ 1000 ks s.sets p.sets.a Q w ∧ ExQ 1000 kw w Q p.whr.a s.whr.l
theorem StQ.h {s : St} {p : StP} {Q : Nat → Prop} {w : World} (h : StQ 1000 s p Q w) : ∃ kc ks kw, StH s p kc ks kw Q w := by
 obtain ⟨h1, h2, h3, h4, ⟨n, h5⟩, h6, ⟨m, h7⟩, k, h8⟩ := h
 exact ⟨n, m, k, h1, h2, h3, h4, h5, h6, h7, h8⟩
theorem StH.keep {s : St} {p : StP} {kc ks kw : Nat} {Q Q' : Nat → Prop} {w w' : World} (h : StH s p kc ks kw Q w) (hk : ∀ b, Q b → Q' b ∧ ∀ o, w'.cell? ⟨b, o, none⟩ = w.cell? ⟨b, o, none⟩) : StH s p kc ks kw Q' w' := by
 obtain ⟨h1, h2, h3, h4, h5, h6, h7, h8⟩ := h
 exact ⟨h1.keep hk, h2.keep hk, h3.keep hk, h4.keep hk, h5.keep hk kc, h6.keep hk, h7.keep hk, h8.keep hk kw⟩
theorem creates_any (s : St) (p : StP) (w : World) (hok : s.Ok) (hQ : StQ 1000 s p (Old w.heap.size) w) : Calls Tryz.prog 75 #[.agg (s.cells p).toArray] w (Ret (.bool (creS s)) w) := by
 obtain ⟨kc, ks, kw, hM⟩ := hQ.h
 refine stBox_in s p w fun w0 HW ks0 hb0 hz0 HST HB => ?_
 dsimp only [St.cells] at HW
 have HM : Hid (∀ Y : World, Below w0.heap.size w0 Y → StH s p kc ks kw (Old Y.heap.size) Y) := fun Y hY => hM.keep (old_keep (hb0.trans (hY.mono hz0)) (Nat.le_trans hz0 hY.size))
 obtain ⟨B1, hB1⟩ : ∃ B, manyB s.cols 1 8 colOkB = B := ⟨_, rfl⟩
 have H1 : Hid (∀ Y : World, Below w0.heap.size w0 Y → Calls Tryz.prog 132 #[.slice p.cols.a s.cols.length p.cols.c, .int .i64 1, .int .i64 8, .func (.func 130) #[] #[]] Y (Ret (.bool B1) Y)) := fun Y hY => by
  rw [← hB1]
  exact manyCol_any p.cols.a p.cols.c s.cols 1 8 Y (by decide) (by decide) hok.nC hok.cols (HM.out Y hY).2.1
 obtain ⟨B2, hB2⟩ : ∃ B, nameG s.key = B := ⟨_, rfl⟩
 have H2 : Hid (∀ Y : World, Below w0.heap.size w0 Y → Calls Tryz.prog 74 #[.string ⟨s.key.toArray⟩] Y (Ret (.bool B2) Y)) := fun Y hY => by
  rw [← hB2]
  exact name_at rfl hok.key Y
 obtain ⟨B3, hB3⟩ : ∃ B, manyB s.uniq 0 8 nameG = B := ⟨_, rfl⟩
 have H3 : Hid (∀ Y : World, Below w0.heap.size w0 Y → Calls Tryz.prog 82 #[.slice p.uniq.a s.uniq.length p.uniq.c, .int .i64 0, .int .i64 8, .func (.func 74) #[] #[]] Y (Ret (.bool B3) Y)) := fun Y hY => by
  rw [← hB3]
  exact manyN_any p.uniq.a p.uniq.c s.uniq 0 8 Y (by decide) (by decide) hok.nU hok.uniq (HM.out Y hY).2.2.1
 obtain ⟨B4, hB4⟩ : ∃ B, manyB s.refs 0 8 refOkB = B := ⟨_, rfl⟩
 have H4 : Hid (∀ Y : World, Below w0.heap.size w0 Y → Calls Tryz.prog 133 #[.slice p.refs.a s.refs.length p.refs.c, .int .i64 0, .int .i64 8, .func (.func 131) #[] #[]] Y (Ret (.bool B4) Y)) := fun Y hY => by
  rw [← hB4]
  exact manyRef_any p.refs.a p.refs.c s.refs 0 8 Y (by decide) (by decide) hok.nR hok.refs (HM.out Y hY).2.2.2.1
 obtain ⟨B5, hB5⟩ : ∃ B, perhapsE s.chk = B := ⟨_, rfl⟩
 have H5 : Hid (∀ Y : World, Below w0.heap.size w0 Y → Calls Tryz.prog 81 #[.agg #[.string ⟨s.chk.op.toArray⟩, .int .i64 s.chk.v.k, .int .i64 s.chk.v.i, .string ⟨s.chk.v.s.toArray⟩, .string ⟨s.chk.s.toArray⟩, .slice p.chk.a s.chk.l.length p.chk.c]] Y (Ret (.bool B5) Y)) := fun Y hY => by
  rw [← hB5]
  exact perhaps_any s.chk p.chk.a p.chk.c kc Y hok.chk (exq_s (HM.out Y hY).2.2.2.2.1 (Nat.le_refl _))
 have hR : creS s = (B1 && (B2 && (B3 && (B4 && B5)))) := by unfold creS; rw [hB1, hB2, hB3, hB4, hB5]; simp only [Bool.and_assoc]
 obtain ⟨R, hR0⟩ : ∃ R, creS s = R := ⟨_, rfl⟩
 rw [hR0] at hR ⊢
 have HR := Lib.hid hR
 clear hR hR0 hB1 hB2 hB3 hB4 hB5 ks0 hQ hM hok HM
 obtain ⟨s0, s1, s2, s3, s4, s5, s6, s7, s8, s9, s10, s11, s12, s13, s14, s15, s16, s17, s18, s19, s20, s21, s22⟩ := HST.out w0 (Below.refl _ _)
 dsimp only [St.cells]
 go_in
 go_upto_region 1 with fail
 rw [show w.alloc _ = w0 from HW.out]
 clear HW
 have hc0 : Below w0.heap.size w0 w0 := Below.refl _ _
 go_wp2_with fail
 refine (H1.out w0 hc0).mono ?_
 rintro en w1 ⟨rfl, hb1⟩
 have hc1 : Below w0.heap.size w0 w1 := hc0.trans (hb1.mono hc0.size)
 have hz1 := hc1.size
 clear s0 s1 s2 s3 s4 s5 s6 s7 s8 s9 s10 s11 s12 s13 s14 s15 s16 s17 s18 s19 s20 s21 s22
 cases B1 with
 | false =>
  go_wp2_with fail
  go_ret
  exact ⟨by rw [HR.out]; rfl, HB.out.trans (hc1.mono hz0)⟩
 | true =>
  obtain ⟨s0, s1, s2, s3, s4, s5, s6, s7, s8, s9, s10, s11, s12, s13, s14, s15, s16, s17, s18, s19, s20, s21, s22⟩ := HST.out w1 hc1
  go_wp2_with fail
  refine (H2.out w1 hc1).mono ?_
  rintro en w2 ⟨rfl, hb2⟩
  have hc2 : Below w0.heap.size w0 w2 := hc1.trans (hb2.mono hc1.size)
  have hz2 := hc2.size
  clear s0 s1 s2 s3 s4 s5 s6 s7 s8 s9 s10 s11 s12 s13 s14 s15 s16 s17 s18 s19 s20 s21 s22
  cases B2 with
  | false =>
   go_wp2_with fail
   go_ret
   exact ⟨by rw [HR.out]; rfl, HB.out.trans (hc2.mono hz0)⟩
  | true =>
   obtain ⟨s0, s1, s2, s3, s4, s5, s6, s7, s8, s9, s10, s11, s12, s13, s14, s15, s16, s17, s18, s19, s20, s21, s22⟩ := HST.out w2 hc2
   go_wp2_with fail
   refine (H3.out w2 hc2).mono ?_
   rintro en w3 ⟨rfl, hb3⟩
   have hc3 : Below w0.heap.size w0 w3 := hc2.trans (hb3.mono hc2.size)
   have hz3 := hc3.size
   clear s0 s1 s2 s3 s4 s5 s6 s7 s8 s9 s10 s11 s12 s13 s14 s15 s16 s17 s18 s19 s20 s21 s22
   cases B3 with
   | false =>
    go_wp2_with fail
    go_ret
    exact ⟨by rw [HR.out]; rfl, HB.out.trans (hc3.mono hz0)⟩
   | true =>
    obtain ⟨s0, s1, s2, s3, s4, s5, s6, s7, s8, s9, s10, s11, s12, s13, s14, s15, s16, s17, s18, s19, s20, s21, s22⟩ := HST.out w3 hc3
    go_wp2_with fail
    refine (H4.out w3 hc3).mono ?_
    rintro en w4 ⟨rfl, hb4⟩
    have hc4 : Below w0.heap.size w0 w4 := hc3.trans (hb4.mono hc3.size)
    have hz4 := hc4.size
    clear s0 s1 s2 s3 s4 s5 s6 s7 s8 s9 s10 s11 s12 s13 s14 s15 s16 s17 s18 s19 s20 s21 s22
    cases B4 with
    | false =>
     go_wp2_with fail
     go_ret
     exact ⟨by rw [HR.out]; rfl, HB.out.trans (hc4.mono hz0)⟩
    | true =>
     obtain ⟨s0, s1, s2, s3, s4, s5, s6, s7, s8, s9, s10, s11, s12, s13, s14, s15, s16, s17, s18, s19, s20, s21, s22⟩ := HST.out w4 hc4
     go_wp2_with fail
     refine (H5.out w4 hc4).mono ?_
     rintro en w5 ⟨rfl, hb5⟩
     have hc5 : Below w0.heap.size w0 w5 := hc4.trans (hb5.mono hc4.size)
     have hz5 := hc5.size
     clear s0 s1 s2 s3 s4 s5 s6 s7 s8 s9 s10 s11 s12 s13 s14 s15 s16 s17 s18 s19 s20 s21 s22
     go_wp2_with fail
     go_ret
     exact ⟨by rw [HR.out]; rfl, HB.out.trans (hc5.mono hz0)⟩
theorem StH.q {s : St} {p : StP} {kc ks kw : Nat} {Q : Nat → Prop} {w : World} (h : StH s p kc ks kw Q w) : StQ 1000 s p Q w := by
 obtain ⟨h1, h2, h3, h4, h5, h6, h7, h8⟩ := h
 exact ⟨h1, h2, h3, h4, ⟨_, h5⟩, h6, ⟨_, h7⟩, _, h8⟩
def St.Slim (s : St) : Prop := s.tb.length ≤ 1000 ∧ s.ot.length ≤ 1000 ∧ s.key.length ≤ 1000 ∧ s.role.length ≤ 1000 ∧ s.names.length ≤ 1000 ∧ s.cols.length ≤ 1000 ∧ s.uniq.length ≤ 1000 ∧ s.refs.length ≤ 1000 ∧ s.row.length ≤ 1000 ∧ s.sets.length ≤ 1000
theorem emptyAt (s : St) (p : StP) (h : s.Slim) {E : Bool} (he : emptyS s = E) (Y : World) : Calls Tryz.prog 83 #[.agg (s.cells p).toArray] Y (Ret (.bool E) Y) := by
 obtain ⟨h1, h2, h3, h4, h5, h6, h7, h8, h9, h10⟩ := h
 have := empty_any s p Y (by omega) (by omega) (by omega) (by omega) (by omega) (by omega) (by omega) (by omega) (by omega) (by omega)
 rw [he] at this
 exact this
theorem st_set_tb {w : World} {g : Nat} {t : TypeId} {s : St} {p : StP} (h : Blk w g t (s.cells p).toArray) : Blk (w.setCell ⟨g, 1, none⟩ (.string ⟨#[]⟩)) g t (({ s with tb := [] } : St).cells p).toArray := by
 have := h.set_ 1 (.string ⟨#[]⟩)
 simpa [St.cells] using this
theorem st_set_ot {w : World} {g : Nat} {t : TypeId} {s : St} {p : StP} (h : Blk w g t (s.cells p).toArray) : Blk (w.setCell ⟨g, 2, none⟩ (.string ⟨#[]⟩)) g t (({ s with ot := [] } : St).cells p).toArray := by
 have := h.set_ 2 (.string ⟨#[]⟩)
 simpa [St.cells] using this
theorem st_set_names {w : World} {g : Nat} {t : TypeId} {s : St} {p : StP} (h : Blk w g t (s.cells p).toArray) : Blk (w.setCell ⟨g, 3, none⟩ (.slice none 0 0)) g t (({ s with names := [] } : St).cells ({ p with names := ⟨none, 0⟩ } : StP)).toArray := by
 have := h.set_ 3 (.slice none 0 0)
 simpa [St.cells] using this
theorem st_set_cols {w : World} {g : Nat} {t : TypeId} {s : St} {p : StP} (h : Blk w g t (s.cells p).toArray) : Blk (w.setCell ⟨g, 4, none⟩ (.slice none 0 0)) g t (({ s with cols := [] } : St).cells ({ p with cols := ⟨none, 0⟩ } : StP)).toArray := by
 have := h.set_ 4 (.slice none 0 0)
 simpa [St.cells] using this
theorem st_set_key {w : World} {g : Nat} {t : TypeId} {s : St} {p : StP} (h : Blk w g t (s.cells p).toArray) : Blk (w.setCell ⟨g, 5, none⟩ (.string ⟨#[]⟩)) g t (({ s with key := [] } : St).cells p).toArray := by
 have := h.set_ 5 (.string ⟨#[]⟩)
 simpa [St.cells] using this
theorem st_set_uniq {w : World} {g : Nat} {t : TypeId} {s : St} {p : StP} (h : Blk w g t (s.cells p).toArray) : Blk (w.setCell ⟨g, 6, none⟩ (.slice none 0 0)) g t (({ s with uniq := [] } : St).cells ({ p with uniq := ⟨none, 0⟩ } : StP)).toArray := by
 have := h.set_ 6 (.slice none 0 0)
 simpa [St.cells] using this
theorem st_set_refs {w : World} {g : Nat} {t : TypeId} {s : St} {p : StP} (h : Blk w g t (s.cells p).toArray) : Blk (w.setCell ⟨g, 7, none⟩ (.slice none 0 0)) g t (({ s with refs := [] } : St).cells ({ p with refs := ⟨none, 0⟩ } : StP)).toArray := by
 have := h.set_ 7 (.slice none 0 0)
 simpa [St.cells] using this
theorem st_set_row {w : World} {g : Nat} {t : TypeId} {s : St} {p : StP} (h : Blk w g t (s.cells p).toArray) : Blk (w.setCell ⟨g, 14, none⟩ (.slice none 0 0)) g t (({ s with row := [] } : St).cells ({ p with row := ⟨none, 0⟩ } : StP)).toArray := by
 have := h.set_ 14 (.slice none 0 0)
 simpa [St.cells] using this
theorem st_set_sets {w : World} {g : Nat} {t : TypeId} {s : St} {p : StP} (h : Blk w g t (s.cells p).toArray) : Blk (w.setCell ⟨g, 15, none⟩ (.slice none 0 0)) g t (({ s with sets := [] } : St).cells ({ p with sets := ⟨none, 0⟩ } : StP)).toArray := by
 have := h.set_ 15 (.slice none 0 0)
 simpa [St.cells] using this
theorem st_set_role {w : World} {g : Nat} {t : TypeId} {s : St} {p : StP} (h : Blk w g t (s.cells p).toArray) : Blk (w.setCell ⟨g, 22, none⟩ (.string ⟨#[]⟩)) g t (({ s with role := [] } : St).cells p).toArray := by
 have := h.set_ 22 (.string ⟨#[]⟩)
 simpa [St.cells] using this
theorem st_set_chk {w : World} {g : Nat} {t : TypeId} {s : St} {p : StP} (h : Blk w g t (s.cells p).toArray) : Blk ((((((w.setCell ⟨g, 8, none⟩ (.string ⟨#[]⟩)).setCell ⟨g, 9, none⟩ (.int .i64 0)).setCell ⟨g, 10, none⟩ (.int .i64 0)).setCell ⟨g, 11, none⟩ (.string ⟨#[]⟩)).setCell ⟨g, 12, none⟩ (.string ⟨#[]⟩)).setCell ⟨g, 13, none⟩ (.slice none 0 0)) g t (({ s with chk := exZero } : St).cells ({ p with chk := ⟨none, 0⟩ } : StP)).toArray := by
 have := (((((h.set_ 8 (.string ⟨#[]⟩)).set_ 9 (.int .i64 0)).set_ 10 (.int .i64 0)).set_ 11 (.string ⟨#[]⟩)).set_ 12 (.string ⟨#[]⟩)).set_ 13 (.slice none 0 0)
 simpa [St.cells, exZero, Ex.op, Ex.v, Ex.s, Ex.l, V.zero] using this
theorem st_set_whr {w : World} {g : Nat} {t : TypeId} {s : St} {p : StP} (h : Blk w g t (s.cells p).toArray) : Blk ((((((w.setCell ⟨g, 16, none⟩ (.string ⟨#[]⟩)).setCell ⟨g, 17, none⟩ (.int .i64 0)).setCell ⟨g, 18, none⟩ (.int .i64 0)).setCell ⟨g, 19, none⟩ (.string ⟨#[]⟩)).setCell ⟨g, 20, none⟩ (.string ⟨#[]⟩)).setCell ⟨g, 21, none⟩ (.slice none 0 0)) g t (({ s with whr := exZero } : St).cells ({ p with whr := ⟨none, 0⟩ } : StP)).toArray := by
 have := (((((h.set_ 16 (.string ⟨#[]⟩)).set_ 17 (.int .i64 0)).set_ 18 (.int .i64 0)).set_ 19 (.string ⟨#[]⟩)).set_ 20 (.string ⟨#[]⟩)).set_ 21 (.slice none 0 0)
 simpa [St.cells, exZero, Ex.op, Ex.v, Ex.s, Ex.l, V.zero] using this
theorem size_st : (Tryz.prog.info? 34).map (·.size) = some 23 := by kernel_rfl
theorem one_st (s : St) (p : StP) : (s.cells p).toArray.all (·.oneCell') = true := by simp [St.cells, Value.oneCell']
theorem wpList_load_rowG {P : Program} {ops : Array Oper} {rest : List Oper} {o : Oper} {a : Act} {w : World} {Q : Exit → Act → World → Prop} (hw : Region.wanted o (yielded ops a.tmps) = true) (ty : TypeId) (x : Operand) (ho : o.op = .load ty x)
  (g : Nat) (hx : a.eval x = .pointer (some ⟨g, 0, none⟩)) (t : TypeId) (cs : Array Value) (fr : Nat × Nat) (d : TypeDesc) (hg : w.heap[g]? = some (.cells cs t fr))
  (hu : P.underlying ty = some d) (hd : (match d with | .struct _ | .array _ _ => true | _ => false) = true) (hi : (P.info? ty).map (·.size) = some cs.size)
  (h : wpList P ops Q rest (a.put o.dst (.agg cs)) w) : wpList P ops Q (o :: rest) a w :=
 wpList_step fun K hK => by rw [if_pos hw]; exact wp_load_row ty x ho g hx t cs fr d hg hu hd hi (hK _ _ h)
theorem sl0 {α : Type} : ([] : List α).length ≤ 1000 := Nat.zero_le _
end Go.Proofs.YtchilcchogcibaaGreatDoor
