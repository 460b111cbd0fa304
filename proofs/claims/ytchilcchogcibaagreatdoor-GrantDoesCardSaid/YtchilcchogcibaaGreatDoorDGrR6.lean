/- stmt.creates and stmt.parts as plain functions; The document's With and Both of grants as plain functions. -/
import Derived.Deep.WholeRow
import Derived.Test.YtchilcchogcibaaGreatDoorDGrR3
set_option maxRecDepth 100000
set_option maxHeartbeats 8000000
namespace Go.Proofs.YtchilcchogcibaaGreatDoor
open Go.RowKit
attribute [local go_sem] ByteArray.extract_mk ba_get ba_append
attribute [local go_sem ↓] Go.wp_at_zero Go.wp_at_succ
def StH (s : St) (p : StP) (kc ks kw : Nat) (Q : Nat → Prop) (w : World) : Prop :=
 SQ s.names p.names.a Q w ∧ CQ s.cols p.cols.a Q w ∧ SQ s.uniq p.uniq.a Q w ∧ XQ s.refs p.refs.a Q w ∧ ExQ 1000 kc w Q p.chk.a s.chk.l ∧ WQ s.row p.row.a Q w ∧ ZQ 1000 ks s.sets p.sets.a Q w ∧ ExQ 1000 kw w Q p.whr.a s.whr.l
theorem StQ.h {s : St} {p : StP} {Q : Nat → Prop} {w : World} (h : StQ 1000 s p Q w) : ∃ kc ks kw, StH s p kc ks kw Q w := by
 obtain ⟨h1, h2, h3, h4, ⟨n, h5⟩, h6, ⟨m, h7⟩, k, h8⟩ := h
 exact ⟨n, m, k, h1, h2, h3, h4, h5, h6, h7, h8⟩
theorem StH.keep {s : St} {p : StP} {kc ks kw : Nat} {Q Q' : Nat → Prop} {w w' : World} (h : StH s p kc ks kw Q w) (hk : ∀ b, Q b → Q' b ∧ ∀ o, w'.cell? ⟨b, o, none⟩ = w.cell? ⟨b, o, none⟩) : StH s p kc ks kw Q' w' := by
 obtain ⟨h1, h2, h3, h4, h5, h6, h7, h8⟩ := h
 exact ⟨h1.keep hk, h2.keep hk, h3.keep hk, h4.keep hk, h5.keep hk kc, h6.keep hk, h7.keep hk, h8.keep hk kw⟩
theorem creates_any (s : St) (p : StP) (w : World) (hok : s.Ok) (hQ : StQ 1000 s p (Old w.heap.size) w) : Calls Tryz.prog 75 #[.agg (s.cells p).toArray] w (Ret (.bool (creS s)) w) := by
 obtain ⟨kc, ks, kw, hM⟩ := hQ.h
 refine stBox_in s p w fun w0 HW ks0 hb0 hz0 HST HB => ?_
 dsimp only [St.cells] at HW
 have HM : Hid (∀ Y : World, Below w0.heap.size w0 Y → StH s p kc ks kw (Old Y.heap.size) Y) := fun Y hY => hM.keep (old_keep (hb0.trans (hY.mono hz0)) (Nat.le_trans hz0 hY.size))
 obtain ⟨B1, hB1⟩ : ∃ B, manyB s.cols 1 8 colOkB = B := ⟨_, rfl⟩
 have H1 : Hid (∀ Y : World, Below w0.heap.size w0 Y → Calls Tryz.prog 132 #[.slice p.cols.a s.cols.length p.cols.c, .int .i64 1, .int .i64 8, .func (.func 130) #[] #[]] Y (Ret (.bool B1) Y)) := fun Y hY => by
  rw [← hB1]
  exact manyCol_any p.cols.a p.cols.c s.cols 1 8 Y (by decide) (by decide) hok.nC hok.cols (HM.out Y hY).2.1
 obtain ⟨B2, hB2⟩ : ∃ B, nameG s.key = B := ⟨_, rfl⟩
 have H2 : Hid (∀ Y : World, Below w0.heap.size w0 Y → Calls Tryz.prog 74 #[.string ⟨s.key.toArray⟩] Y (Ret (.bool B2) Y)) := fun Y hY => by
  rw [← hB2]
  exact name_at rfl hok.key Y
 obtain ⟨B3, hB3⟩ : ∃ B, manyB s.uniq 0 8 nameG = B := ⟨_, rfl⟩
 have H3 : Hid (∀ Y : World, Below w0.heap.size w0 Y → Calls Tryz.prog 82 #[.slice p.uniq.a s.uniq.length p.uniq.c, .int .i64 0, .int .i64 8, .func (.func 74) #[] #[]] Y (Ret (.bool B3) Y)) := fun Y hY => by
  rw [← hB3]
  exact manyN_any p.uniq.a p.uniq.c s.uniq 0 8 Y (by decide) (by decide) hok.nU hok.uniq (HM.out Y hY).2.2.1
 obtain ⟨B4, hB4⟩ : ∃ B, manyB s.refs 0 8 refOkB = B := ⟨_, rfl⟩
 have H4 : Hid (∀ Y : World, Below w0.heap.size w0 Y → Calls Tryz.prog 133 #[.slice p.refs.a s.refs.length p.refs.c, .int .i64 0, .int .i64 8, .func (.func 131) #[] #[]] Y (Ret (.bool B4) Y)) := fun Y hY => by
  rw [← hB4]
  exact manyRef_any p.refs.a p.refs.c s.refs 0 8 Y (by decide) (by decide) hok.nR hok.refs (HM.out Y hY).2.2.2.1
 obtain ⟨B5, hB5⟩ : ∃ B, perhapsE s.chk = B := ⟨_, rfl⟩
 have H5 : Hid (∀ Y : World, Below w0.heap.size w0 Y → Calls Tryz.prog 81 #[.agg #[.string ⟨s.chk.op.toArray⟩, .int .i64 s.chk.v.k, .int .i64 s.chk.v.i, .string ⟨s.chk.v.s.toArray⟩, .string ⟨s.chk.s.toArray⟩, .slice p.chk.a s.chk.l.length p.chk.c]] Y (Ret (.bool B5) Y)) := fun Y hY => by
  rw [← hB5]
  exact perhaps_any s.chk p.chk.a p.chk.c kc Y hok.chk (exq_s (HM.out Y hY).2.2.2.2.1 (Nat.le_refl _))
 have hR : creS s = (B1 && (B2 && (B3 && (B4 && B5)))) := by unfold creS; rw [hB1, hB2, hB3, hB4, hB5]; simp only [Bool.and_assoc]
 obtain ⟨R, hR0⟩ : ∃ R, creS s = R := ⟨_, rfl⟩
 rw [hR0] at hR ⊢
 have HR := Lib.hid hR
 clear hR hR0 hB1 hB2 hB3 hB4 hB5 ks0 hQ hM hok HM
 obtain ⟨s0, s1, s2, s3, s4, s5, s6, s7, s8, s9, s10, s11, s12, s13, s14, s15, s16, s17, s18, s19, s20, s21, s22⟩ := HST.out w0 (Below.refl _ _)
 dsimp only [St.cells]
 go_in
 go_upto_region 1 with fail
 rw [show w.alloc _ = w0 from HW.out]
 clear HW
 have hc0 : Below w0.heap.size w0 w0 := Below.refl _ _
 go_wp2_with fail
 refine (H1.out w0 hc0).mono ?_
 rintro en w1 ⟨rfl, hb1⟩
 have hc1 : Below w0.heap.size w0 w1 := hc0.trans (hb1.mono hc0.size)
 have hz1 := hc1.size
 clear s0 s1 s2 s3 s4 s5 s6 s7 s8 s9 s10 s11 s12 s13 s14 s15 s16 s17 s18 s19 s20 s21 s22
 cases B1 with
 | false =>
  go_wp2_with fail
  go_ret
  exact ⟨by rw [HR.out]; rfl, HB.out.trans (hc1.mono hz0)⟩
 | true =>
  obtain ⟨s0, s1, s2, s3, s4, s5, s6, s7, s8, s9, s10, s11, s12, s13, s14, s15, s16, s17, s18, s19, s20, s21, s22⟩ := HST.out w1 hc1
  go_wp2_with fail
  refine (H2.out w1 hc1).mono ?_
  rintro en w2 ⟨rfl, hb2⟩
  have hc2 : Below w0.heap.size w0 w2 := hc1.trans (hb2.mono hc1.size)
  have hz2 := hc2.size
  clear s0 s1 s2 s3 s4 s5 s6 s7 s8 s9 s10 s11 s12 s13 s14 s15 s16 s17 s18 s19 s20 s21 s22
  cases B2 with
  | false =>
   go_wp2_with fail
   go_ret
   exact ⟨by rw [HR.out]; rfl, HB.out.trans (hc2.mono hz0)⟩
  | true =>
   obtain ⟨s0, s1, s2, s3, s4, s5, s6, s7, s8, s9, s10, s11, s12, s13, s14, s15, s16, s17, s18, s19, s20, s21, s22⟩ := HST.out w2 hc2
   go_wp2_with fail
   refine (H3.out w2 hc2).mono ?_
   rintro en w3 ⟨rfl, hb3⟩
   have hc3 : Below w0.heap.size w0 w3 := hc2.trans (hb3.mono hc2.size)
   have hz3 := hc3.size
   clear s0 s1 s2 s3 s4 s5 s6 s7 s8 s9 s10 s11 s12 s13 s14 s15 s16 s17 s18 s19 s20 s21 s22
   cases B3 with
   | false =>
    go_wp2_with fail
    go_ret
    exact ⟨by rw [HR.out]; rfl, HB.out.trans (hc3.mono hz0)⟩
   | true =>
    obtain ⟨s0, s1, s2, s3, s4, s5, s6, s7, s8, s9, s10, s11, s12, s13, s14, s15, s16, s17, s18, s19, s20, s21, s22⟩ := HST.out w3 hc3
    go_wp2_with fail
    refine (H4.out w3 hc3).mono ?_
    rintro en w4 ⟨rfl, hb4⟩
    have hc4 : Below w0.heap.size w0 w4 := hc3.trans (hb4.mono hc3.size)
    have hz4 := hc4.size
    clear s0 s1 s2 s3 s4 s5 s6 s7 s8 s9 s10 s11 s12 s13 s14 s15 s16 s17 s18 s19 s20 s21 s22
    cases B4 with
    | false =>
     go_wp2_with fail
     go_ret
     exact ⟨by rw [HR.out]; rfl, HB.out.trans (hc4.mono hz0)⟩
    | true =>
     obtain ⟨s0, s1, s2, s3, s4, s5, s6, s7, s8, s9, s10, s11, s12, s13, s14, s15, s16, s17, s18, s19, s20, s21, s22⟩ := HST.out w4 hc4
     go_wp2_with fail
     refine (H5.out w4 hc4).mono ?_
     rintro en w5 ⟨rfl, hb5⟩
     have hc5 : Below w0.heap.size w0 w5 := hc4.trans (hb5.mono hc4.size)
     have hz5 := hc5.size
     clear s0 s1 s2 s3 s4 s5 s6 s7 s8 s9 s10 s11 s12 s13 s14 s15 s16 s17 s18 s19 s20 s21 s22
     go_wp2_with fail
     go_ret
     exact ⟨by rw [HR.out]; rfl, HB.out.trans (hc5.mono hz0)⟩
theorem StH.q {s : St} {p : StP} {kc ks kw : Nat} {Q : Nat → Prop} {w : World} (h : StH s p kc ks kw Q w) : StQ 1000 s p Q w := by
 obtain ⟨h1, h2, h3, h4, h5, h6, h7, h8⟩ := h
 exact ⟨h1, h2, h3, h4, ⟨_, h5⟩, h6, ⟨_, h7⟩, _, h8⟩
def St.Slim (s : St) : Prop := s.tb.length ≤ 1000 ∧ s.ot.length ≤ 1000 ∧ s.key.length ≤ 1000 ∧ s.role.length ≤ 1000 ∧ s.names.length ≤ 1000 ∧ s.cols.length ≤ 1000 ∧ s.uniq.length ≤ 1000 ∧ s.refs.length ≤ 1000 ∧ s.row.length ≤ 1000 ∧ s.sets.length ≤ 1000
theorem emptyAt (s : St) (p : StP) (h : s.Slim) {E : Bool} (he : emptyS s = E) (Y : World) : Calls Tryz.prog 83 #[.agg (s.cells p).toArray] Y (Ret (.bool E) Y) := by
 obtain ⟨h1, h2, h3, h4, h5, h6, h7, h8, h9, h10⟩ := h
 have := empty_any s p Y (by omega) (by omega) (by omega) (by omega) (by omega) (by omega) (by omega) (by omega) (by omega) (by omega)
 rw [he] at this
 exact this
theorem st_set_tb {w : World} {g : Nat} {t : TypeId} {s : St} {p : StP} (h : Blk w g t (s.cells p).toArray) : Blk (w.setCell ⟨g, 1, none⟩ (.string ⟨#[]⟩)) g t (({ s with tb := [] } : St).cells p).toArray := by
 have := h.set_ 1 (.string ⟨#[]⟩)
 simpa [St.cells] using this
theorem st_set_ot {w : World} {g : Nat} {t : TypeId} {s : St} {p : StP} (h : Blk w g t (s.cells p).toArray) : Blk (w.setCell ⟨g, 2, none⟩ (.string ⟨#[]⟩)) g t (({ s with ot := [] } : St).cells p).toArray := by
 have := h.set_ 2 (.string ⟨#[]⟩)
 simpa [St.cells] using this
theorem st_set_names {w : World} {g : Nat} {t : TypeId} {s : St} {p : StP} (h : Blk w g t (s.cells p).toArray) : Blk (w.setCell ⟨g, 3, none⟩ (.slice none 0 0)) g t (({ s with names := [] } : St).cells ({ p with names := ⟨none, 0⟩ } : StP)).toArray := by
 have := h.set_ 3 (.slice none 0 0)
 simpa [St.cells] using this
theorem st_set_cols {w : World} {g : Nat} {t : TypeId} {s : St} {p : StP} (h : Blk w g t (s.cells p).toArray) : Blk (w.setCell ⟨g, 4, none⟩ (.slice none 0 0)) g t (({ s with cols := [] } : St).cells ({ p with cols := ⟨none, 0⟩ } : StP)).toArray := by
 have := h.set_ 4 (.slice none 0 0)
 simpa [St.cells] using this
theorem st_set_key {w : World} {g : Nat} {t : TypeId} {s : St} {p : StP} (h : Blk w g t (s.cells p).toArray) : Blk (w.setCell ⟨g, 5, none⟩ (.string ⟨#[]⟩)) g t (({ s with key := [] } : St).cells p).toArray := by
 have := h.set_ 5 (.string ⟨#[]⟩)
 simpa [St.cells] using this
theorem st_set_uniq {w : World} {g : Nat} {t : TypeId} {s : St} {p : StP} (h : Blk w g t (s.cells p).toArray) : Blk (w.setCell ⟨g, 6, none⟩ (.slice none 0 0)) g t (({ s with uniq := [] } : St).cells ({ p with uniq := ⟨none, 0⟩ } : StP)).toArray := by
 have := h.set_ 6 (.slice none 0 0)
 simpa [St.cells] using this
theorem st_set_refs {w : World} {g : Nat} {t : TypeId} {s : St} {p : StP} (h : Blk w g t (s.cells p).toArray) : Blk (w.setCell ⟨g, 7, none⟩ (.slice none 0 0)) g t (({ s with refs := [] } : St).cells ({ p with refs := ⟨none, 0⟩ } : StP)).toArray := by
 have := h.set_ 7 (.slice none 0 0)
 simpa [St.cells] using this
theorem st_set_row {w : World} {g : Nat} {t : TypeId} {s : St} {p : StP} (h : Blk w g t (s.cells p).toArray) : Blk (w.setCell ⟨g, 14, none⟩ (.slice none 0 0)) g t (({ s with row := [] } : St).cells ({ p with row := ⟨none, 0⟩ } : StP)).toArray := by
 have := h.set_ 14 (.slice none 0 0)
 simpa [St.cells] using this
theorem st_set_sets {w : World} {g : Nat} {t : TypeId} {s : St} {p : StP} (h : Blk w g t (s.cells p).toArray) : Blk (w.setCell ⟨g, 15, none⟩ (.slice none 0 0)) g t (({ s with sets := [] } : St).cells ({ p with sets := ⟨none, 0⟩ } : StP)).toArray := by
 have := h.set_ 15 (.slice none 0 0)
 simpa [St.cells] using this
theorem st_set_role {w : World} {g : Nat} {t : TypeId} {s : St} {p : StP} (h : Blk w g t (s.cells p).toArray) : Blk (w.setCell ⟨g, 22, none⟩ (.string ⟨#[]⟩)) g t (({ s with role := [] } : St).cells p).toArray := by
 have := h.set_ 22 (.string ⟨#[]⟩)
 simpa [St.cells] using this
theorem st_set_chk {w : World} {g : Nat} {t : TypeId} {s : St} {p : StP} (h : Blk w g t (s.cells p).toArray) : Blk ((((((w.setCell ⟨g, 8, none⟩ (.string ⟨#[]⟩)).setCell ⟨g, 9, none⟩ (.int .i64 0)).setCell ⟨g, 10, none⟩ (.int .i64 0)).setCell ⟨g, 11, none⟩ (.string ⟨#[]⟩)).setCell ⟨g, 12, none⟩ (.string ⟨#[]⟩)).setCell ⟨g, 13, none⟩ (.slice none 0 0)) g t (({ s with chk := exZero } : St).cells ({ p with chk := ⟨none, 0⟩ } : StP)).toArray := by
 have := (((((h.set_ 8 (.string ⟨#[]⟩)).set_ 9 (.int .i64 0)).set_ 10 (.int .i64 0)).set_ 11 (.string ⟨#[]⟩)).set_ 12 (.string ⟨#[]⟩)).set_ 13 (.slice none 0 0)
 simpa [St.cells, exZero, Ex.op, Ex.v, Ex.s, Ex.l, V.zero] using this
theorem st_set_whr {w : World} {g : Nat} {t : TypeId} {s : St} {p : StP} (h : Blk w g t (s.cells p).toArray) : Blk ((((((w.setCell ⟨g, 16, none⟩ (.string ⟨#[]⟩)).setCell ⟨g, 17, none⟩ (.int .i64 0)).setCell ⟨g, 18, none⟩ (.int .i64 0)).setCell ⟨g, 19, none⟩ (.string ⟨#[]⟩)).setCell ⟨g, 20, none⟩ (.string ⟨#[]⟩)).setCell ⟨g, 21, none⟩ (.slice none 0 0)) g t (({ s with whr := exZero } : St).cells ({ p with whr := ⟨none, 0⟩ } : StP)).toArray := by
 have := (((((h.set_ 16 (.string ⟨#[]⟩)).set_ 17 (.int .i64 0)).set_ 18 (.int .i64 0)).set_ 19 (.string ⟨#[]⟩)).set_ 20 (.string ⟨#[]⟩)).set_ 21 (.slice none 0 0)
 simpa [St.cells, exZero, Ex.op, Ex.v, Ex.s, Ex.l, V.zero] using this
theorem size_st : (Tryz.prog.info? 34).map (·.size) = some 23 := by kernel_rfl
theorem one_st (s : St) (p : StP) : (s.cells p).toArray.all (·.oneCell') = true := by simp [St.cells, Value.oneCell']
theorem wpList_load_rowG {P : Program} {ops : Array Oper} {rest : List Oper} {o : Oper} {a : Act} {w : World} {Q : Exit → Act → World → Prop} (hw : Region.wanted o (yielded ops a.tmps) = true) (ty : TypeId) (x : Operand) (ho : o.op = .load ty x)
  (g : Nat) (hx : a.eval x = .pointer (some ⟨g, 0, none⟩)) (t : TypeId) (cs : Array Value) (fr : Nat × Nat) (d : TypeDesc) (hg : w.heap[g]? = some (.cells cs t fr))
  (hu : P.underlying ty = some d) (hd : (match d with | .struct _ | .array _ _ => true | _ => false) = true) (hi : (P.info? ty).map (·.size) = some cs.size)
  (h : wpList P ops Q rest (a.put o.dst (.agg cs)) w) : wpList P ops Q (o :: rest) a w :=
 wpList_step fun K hK => by rw [if_pos hw]; exact wp_load_row ty x ho g hx t cs fr d hg hu hd hi (hK _ _ h)
theorem sl0 {α : Type} : ([] : List α).length ≤ 1000 := Nat.zero_le _
end Go.Proofs.YtchilcchogcibaaGreatDoor
namespace Go.Proofs.YtchilcchogcibaaGreatDoor
open Go.RowKit
attribute [local go_sem] ByteArray.extract_mk ba_get ba_append
attribute [local go_sem ↓] Go.wp_at_zero Go.wp_at_succ run_eql_G
theorem rwith_any (A : Option Addr) (c : Nat) (l : List Gr) (g : Gr) (w : World) (hl : l.length ≤ 1000) (h : GQ l A (Old w.heap.size) w) :
  Calls Tryz.prog 44 #[.slice A l.length c, .agg #[.string ⟨g.r.toArray⟩, .string ⟨g.t.toArray⟩, .bool g.w]] w (RetGs (withG l g) w) := by
 obtain ⟨i0, hi0, zi0, zi1, zi2⟩ := info_parts infoGr
 obtain ⟨w0, hw0⟩ : ∃ w0, w.alloc (.cells #[.string ⟨g.r.toArray⟩, .string ⟨g.t.toArray⟩, .bool g.w] 54) = w0 := ⟨_, rfl⟩
 have kg : Blk w0 w.heap.size 54 #[.string ⟨g.r.toArray⟩, .string ⟨g.t.toArray⟩, .bool g.w] := by rw [← hw0]; exact Blk.new _ _ _
 have hb0 : Below w.heap.size w w0 := by rw [← hw0]; exact bl
 have hz0 := hb0.size
 obtain ⟨N, hN⟩ : ∃ N, l.length = N := ⟨_, rfl⟩
 have HL := Lib.hid hN
 obtain ⟨R, hR⟩ : ∃ R, withG l g = R := ⟨_, rfl⟩
 rw [hR]
 have HR : Hid (l.filter (fun x => glt x g) ++ g :: l.filter (fun x => glt g x) = R) := hR
 have HQ : Hid (∀ Z : World, Below w0.heap.size w0 Z → GQ l A (Old w.heap.size) Z) := fun Z hz => h.keep fun b hb => ⟨hb, fun o => (hb0.trans (hz.mono hz0)).cell (p := ⟨b, o, none⟩) hb⟩
 have HK := Lib.hid kg
 have HW := Lib.hid hw0
 have HB0 := Lib.hid hb0
 rw [hN] at hl ⊢
 have HL1 : Hid (0 = ([] : List Gr).length) := rfl
 have HO1 : Hid (w0.ownsRow w0.heap.size 54 3 (.slice none 0 0) 0 (gcs [])) := World.ownsRow_nil _ _ _ _
 have HB1 : Hid (Below w0.heap.size w0 w0) := Below.refl _ _
 clear hN hR h hw0 kg hb0
 go_in
 go_upto_region 1 with fail
 rw [HW.out]
 clear HW
 go_wp2_with fail
 go_loopw [5, 6] (fun s5' i wr => ∃ (s5 : Value) (j M : Nat) (L : List Gr), s5 = s5' ∧ j ≤ N ∧ M ≤ 0 + j ∧ i = .int .i64 j ∧ Hid (M = L.length) ∧ Hid ([] ++ (l.take j).filter (fun x => glt x g) = L) ∧ wr.ownsRow w0.heap.size 54 3 s5 M (gcs L) ∧ Below w0.heap.size w0 wr) (fun _ i _ => N - (intOf i).toNat)
 case atStart => exact ⟨_, 0, _, _, rfl, by omega, by omega, rfl, HL1.out, by show _ = _; simp, HO1.out, HB1.out⟩
 case round =>
  obtain ⟨s5, j, M, L, rfl, hj, hM, rfl, HM, HJ, hown, hbw⟩ := hrel
  obtain ⟨W, rfl⟩ : ∃ W, W = wr := ⟨_, rfl⟩
  have hzw := hbw.size
  by_cases hlt : j < N
  ·obtain ⟨b, off, x, rfl, hbB, hv, c0, c1, c2⟩ := (HQ.out _ hbw).at_ (j := j) (by rw [HL.out]; exact hlt)
   have lb : b < W.heap.size := by have : b < w.heap.size := hbB; omega
   have hk := HK.out.below hbw HK.out.lt
   have lk := hk.lt
   have HSH : Hid (∀ Z : World, Below W.heap.size W Z → (Z.cell? ⟨b, off + j * 3, none⟩ = some (.string ⟨x.r.toArray⟩) ∧ Z.cell? ⟨b, off + j * 3 + 1, none⟩ = some (.string ⟨x.t.toArray⟩) ∧ Z.cell? ⟨b, off + j * 3 + 2, none⟩ = some (.bool x.w)) ∧ Z.cell? ⟨w.heap.size, 0, none⟩ = some (.string ⟨g.r.toArray⟩) ∧ Z.cell? ⟨w.heap.size, 1, none⟩ = some (.string ⟨g.t.toArray⟩) ∧ Z.cell? ⟨w.heap.size, 2, none⟩ = some (.bool g.w)) := fun Z hz => by
    have hc : ∀ o, Z.cell? ⟨b, o, none⟩ = W.cell? ⟨b, o, none⟩ := fun o => hz.cell (p := ⟨b, o, none⟩) lb
    have kz := hk.below hz lk
    exact ⟨⟨(hc _).trans c0, (hc _).trans c1, (hc _).trans c2⟩, kz.cell 0, kz.cell 1, kz.cell 2⟩
   have HT : Hid ([] ++ (l.take (j + 1)).filter (fun x => glt x g) = if glt x g then L ++ [x] else L) := by
    show _ = _
    rw [List.take_add_one, hv, List.filter_append, ← List.append_assoc, HJ.out]
    by_cases hq : glt x g = true <;> simp [hq]
   have HAH := Lib.hid (ahead_any x g)
   obtain ⟨B, hB⟩ : ∃ B, glt x g = B := ⟨_, rfl⟩
   rw [hB] at HT HAH
   have HOW := Lib.hid hown
   have g10 : (0 : Int) ≤ (j : Int) := by omega
   have g11 : (j : Int) < (N : Int) := by omega
   clear hv c0 c1 c2 hk hown HJ hB
   go_wp2_with fail
   refine rgn HSH fun hHeld => ?_
   refine tS [0, 1, 2, 3, 4] ?_
   iterate 5 (refine tC ?_; refine ap ?_)
   refine tN ?_
   refine rdy 5 fun K hK => ?_
   go_simp
   (refine (HAH.out _).mono ?_) <;> rintro en w5 ⟨rfl, hb5⟩ <;> have hz5 := hb5.size <;> (try simp at hz5)
   go_wp2_with fail
   refine hK.out _ _ (HSH.out _ (by exact bl)) fun hHeld => ?_
   clear hK K
   refine ap ?_
   refine wpAnyH_done (by kernel_rfl) ?_ _
   have hbW5 : Below W.heap.size W w5 := by exact bl
   have hbw5 : Below w0.heap.size w0 w5 := hbw.trans (hbW5.mono hzw)
   have HO5 := Lib.hid (own_below HOW.out hbW5)
   have hz5' : w0.heap.size ≤ w5.heap.size := hbw5.size
   clear hb5 hz5
   cases B with
   | false =>
    have HT2 : Hid ([] ++ (l.take (j + 1)).filter (fun x => glt x g) = L) := HT.out
    go_wp2_with fail
    go_roundw
    case rel => exact ⟨_, j + 1, M, L, rfl, by omega, by omega, by go_num, HM, HT2, HO5.out, hbw5⟩
    case measure => simp [intOf]; omega
   | true =>
    have HT2 : Hid ([] ++ (l.take (j + 1)).filter (fun x => glt x g) = L ++ [x]) := HT.out
    obtain ⟨⟨c0, c1, c2⟩, _⟩ := HSH.out w5 hbW5
    clear HSH hbW5
    have HOLx := Lib.hid HO5.out.lt
    have HOWx := Lib.hid ((HO5.out).alloc (.cells #[.string ⟨x.r.toArray⟩, .string ⟨x.t.toArray⟩, .bool x.w] 54))
    go_wp2_with (at_builtin; refine wpList_append_own _ rfl _ _ 22 rfl w0.heap.size 54 i0 _ 3 40 Tryz.underlying22 hi0 zi0 zi1 zi2 rfl (by decide) _ _ _ rfl HOWx.out ⟨(w5).heap.size, 0, none⟩ 1 1 [.string ⟨x.r.toArray⟩, .string ⟨x.t.toArray⟩, .bool x.w] rfl rfl ?c1i ?c2i ?c3i ?c4i ?c5i ?_)
    try case c1i => exact World.news_of_block (cs := #[.string ⟨x.r.toArray⟩, .string ⟨x.t.toArray⟩, .bool x.w]) (t := 54) (fr := (0, 0)) (heap_alloc_new _ _)
    try case c2i => first | exact ⟨rfl, rfl, rfl⟩ | (intro u hu; simp at hu; rcases hu with rfl | rfl | rfl <;> rfl)
    try case c3i => unfold maxLen; omega
    try case c4i => omega
    try case c5i => first | omega | (simp; omega)
    intro v' w2 hown2 hg2 _
    have hb2 : Below w0.heap.size w0 w2 := ((hbw5).alloc hz5' _).grown hg2 (by have := hz5'; simp; omega) (fun k hk => (HOLx.out k hk).1)
    have HO2 : Hid (w2.ownsRow w0.heap.size 54 3 v' (M + 1) (gcs (L ++ [x]))) := by show World.ownsRow _ _ _ _ _ _ _; rw [gcs_snoc]; exact hown2
    clear hown2 hg2
    go_wp2_with fail
    go_roundw
    case rel => exact ⟨_, j + 1, M + 1, L ++ [x], rfl, by omega, by omega, by go_num, by show _ = _; rw [List.length_append, ← HM.out]; rfl, HT2, HO2.out, hb2⟩
    case measure => simp [intOf]; omega
  ·obtain rfl : N = j := by omega
   have HF : Hid ([] ++ l.filter (fun x => glt x g) = L) := by
    show _ = _
    have := HJ.out
    rw [← HL.out, List.take_length] at this
    exact this
   have HO := Lib.hid hown
   have g11 : ¬ (N : Int) < (N : Int) := by omega
   have hzw' : w0.heap.size ≤ W.heap.size := hbw.size
   clear HJ hlt hown
   have HK2 := Lib.hid (HK.out.below hbw HK.out.lt)
   obtain ⟨⟨k0, k1, k2⟩, _⟩ := HK2.out.three
   have HOLg := Lib.hid HO.out.lt
   have HOWg := Lib.hid ((HO.out).alloc (.cells #[.string ⟨g.r.toArray⟩, .string ⟨g.t.toArray⟩, .bool g.w] 54))
   go_wp2_with (at_builtin; refine wpList_append_own _ rfl _ _ 22 rfl w0.heap.size 54 i0 _ 3 40 Tryz.underlying22 hi0 zi0 zi1 zi2 rfl (by decide) _ _ _ rfl HOWg.out ⟨(W).heap.size, 0, none⟩ 1 1 [.string ⟨g.r.toArray⟩, .string ⟨g.t.toArray⟩, .bool g.w] rfl rfl ?c1k ?c2k ?c3k ?c4k ?c5k ?_)
   try case c1k => exact World.news_of_block (cs := #[.string ⟨g.r.toArray⟩, .string ⟨g.t.toArray⟩, .bool g.w]) (t := 54) (fr := (0, 0)) (heap_alloc_new _ _)
   try case c2k => first | exact ⟨rfl, rfl, rfl⟩ | (intro u hu; simp at hu; rcases hu with rfl | rfl | rfl <;> rfl)
   try case c3k => unfold maxLen; omega
   try case c4k => omega
   try case c5k => first | omega | (simp; omega)
   intro v' w2 hown2 hg2 _
   have hb2 : Below w0.heap.size w0 w2 := ((hbw).alloc hzw' _).grown hg2 (by have := hzw'; simp; omega) (fun k hk => (HOLg.out k hk).1)
   have HO2 : Hid (w2.ownsRow w0.heap.size 54 3 v' (M + 1) (gcs (L ++ [g]))) := by show World.ownsRow _ _ _ _ _ _ _; rw [gcs_snoc]; exact hown2
   clear hown2 hg2
   have HL1 : Hid (M + 1 = (L ++ [g]).length) := by show _ = _; rw [List.length_append, ← HM.out]; rfl
   have HO1 := HO2
   have HB1 := Lib.hid hb2
   obtain ⟨M1, hM1⟩ : ∃ M1, M + 1 = M1 := ⟨_, rfl⟩
   have hM1x : M1 ≤ N + 1 := by omega
   rw [hM1] at HL1 HO1
   obtain ⟨L1, hL1⟩ : ∃ L1, L ++ [g] = L1 := ⟨_, rfl⟩
   have HE1 : Hid (l.filter (fun x => glt x g) ++ [g] = L1) := by show _ = _; rw [← hL1, ← HF.out]; simp
   rw [hL1] at HL1 HO1
   clear HO2 hM1 hL1 hb2 HM HF k0 k1 k2 HK2 hM
   rename_i v'
   go_wp2_with fail
   go_loopw [5, 7] (fun s5' i wr => ∃ (s5 : Value) (j M : Nat) (L : List Gr), s5 = s5' ∧ j ≤ N ∧ M ≤ M1 + j ∧ i = .int .i64 j ∧ Hid (M = L.length) ∧ Hid (L1 ++ (l.take j).filter (fun x => glt g x) = L) ∧ wr.ownsRow w0.heap.size 54 3 s5 M (gcs L) ∧ Below w0.heap.size w0 wr) (fun _ i _ => N - (intOf i).toNat)
   case atStart => exact ⟨_, 0, _, _, rfl, by omega, by omega, rfl, HL1.out, by show _ = _; simp, HO1.out, HB1.out⟩
   case round =>
    obtain ⟨s5, j, M, L, rfl, hj, hM, rfl, HM, HJ, hown, hbw⟩ := hrel
    obtain ⟨W, rfl⟩ : ∃ W, W = wr := ⟨_, rfl⟩
    have hzw := hbw.size
    by_cases hlt : j < N
    ·obtain ⟨b, off, x, rfl, hbB, hv, c0, c1, c2⟩ := (HQ.out _ hbw).at_ (j := j) (by rw [HL.out]; exact hlt)
     have lb : b < W.heap.size := by have : b < w.heap.size := hbB; omega
     have hk := HK.out.below hbw HK.out.lt
     have lk := hk.lt
     have HSH : Hid (∀ Z : World, Below W.heap.size W Z → (Z.cell? ⟨b, off + j * 3, none⟩ = some (.string ⟨x.r.toArray⟩) ∧ Z.cell? ⟨b, off + j * 3 + 1, none⟩ = some (.string ⟨x.t.toArray⟩) ∧ Z.cell? ⟨b, off + j * 3 + 2, none⟩ = some (.bool x.w)) ∧ Z.cell? ⟨w.heap.size, 0, none⟩ = some (.string ⟨g.r.toArray⟩) ∧ Z.cell? ⟨w.heap.size, 1, none⟩ = some (.string ⟨g.t.toArray⟩) ∧ Z.cell? ⟨w.heap.size, 2, none⟩ = some (.bool g.w)) := fun Z hz => by
      have hc : ∀ o, Z.cell? ⟨b, o, none⟩ = W.cell? ⟨b, o, none⟩ := fun o => hz.cell (p := ⟨b, o, none⟩) lb
      have kz := hk.below hz lk
      exact ⟨⟨(hc _).trans c0, (hc _).trans c1, (hc _).trans c2⟩, kz.cell 0, kz.cell 1, kz.cell 2⟩
     have HT : Hid (L1 ++ (l.take (j + 1)).filter (fun x => glt g x) = if glt g x then L ++ [x] else L) := by
      show _ = _
      rw [List.take_add_one, hv, List.filter_append, ← List.append_assoc, HJ.out]
      by_cases hq : glt g x = true <;> simp [hq]
     have HAH := Lib.hid (ahead_any g x)
     obtain ⟨B, hB⟩ : ∃ B, glt g x = B := ⟨_, rfl⟩
     rw [hB] at HT HAH
     have HOW := Lib.hid hown
     have g10 : (0 : Int) ≤ (j : Int) := by omega
     have g11 : (j : Int) < (N : Int) := by omega
     clear hv c0 c1 c2 hk hown HJ hB
     go_wp2_with fail
     refine rgn HSH fun hHeld => ?_
     refine tS [0, 1, 2, 3, 4] ?_
     iterate 5 (refine tC ?_; refine ap ?_)
     refine tN ?_
     refine rdy 5 fun K hK => ?_
     go_simp
     (refine (HAH.out _).mono ?_) <;> rintro en w5 ⟨rfl, hb5⟩ <;> have hz5 := hb5.size <;> (try simp at hz5)
     go_wp2_with fail
     refine hK.out _ _ (HSH.out _ (by exact bl)) fun hHeld => ?_
     clear hK K
     refine ap ?_
     refine wpAnyH_done (by kernel_rfl) ?_ _
     have hbW5 : Below W.heap.size W w5 := by exact bl
     have hbw5 : Below w0.heap.size w0 w5 := hbw.trans (hbW5.mono hzw)
     have HO5 := Lib.hid (own_below HOW.out hbW5)
     have hz5' : w0.heap.size ≤ w5.heap.size := hbw5.size
     clear hb5 hz5
     cases B with
     | false =>
      have HT2 : Hid (L1 ++ (l.take (j + 1)).filter (fun x => glt g x) = L) := HT.out
      go_wp2_with fail
      go_roundw
      case rel => exact ⟨_, j + 1, M, L, rfl, by omega, by omega, by go_num, HM, HT2, HO5.out, hbw5⟩
      case measure => simp [intOf]; omega
     | true =>
      have HT2 : Hid (L1 ++ (l.take (j + 1)).filter (fun x => glt g x) = L ++ [x]) := HT.out
      obtain ⟨⟨c0, c1, c2⟩, _⟩ := HSH.out w5 hbW5
      clear HSH hbW5
      have HOLx := Lib.hid HO5.out.lt
      have HOWx := Lib.hid ((HO5.out).alloc (.cells #[.string ⟨x.r.toArray⟩, .string ⟨x.t.toArray⟩, .bool x.w] 54))
      go_wp2_with (at_builtin; refine wpList_append_own _ rfl _ _ 22 rfl w0.heap.size 54 i0 _ 3 40 Tryz.underlying22 hi0 zi0 zi1 zi2 rfl (by decide) _ _ _ rfl HOWx.out ⟨(w5).heap.size, 0, none⟩ 1 1 [.string ⟨x.r.toArray⟩, .string ⟨x.t.toArray⟩, .bool x.w] rfl rfl ?c1j ?c2j ?c3j ?c4j ?c5j ?_)
      try case c1j => exact World.news_of_block (cs := #[.string ⟨x.r.toArray⟩, .string ⟨x.t.toArray⟩, .bool x.w]) (t := 54) (fr := (0, 0)) (heap_alloc_new _ _)
      try case c2j => first | exact ⟨rfl, rfl, rfl⟩ | (intro u hu; simp at hu; rcases hu with rfl | rfl | rfl <;> rfl)
      try case c3j => unfold maxLen; omega
      try case c4j => omega
      try case c5j => first | omega | (simp; omega)
      intro v' w2 hown2 hg2 _
      have hb2 : Below w0.heap.size w0 w2 := ((hbw5).alloc hz5' _).grown hg2 (by have := hz5'; simp; omega) (fun k hk => (HOLx.out k hk).1)
      have HO2 : Hid (w2.ownsRow w0.heap.size 54 3 v' (M + 1) (gcs (L ++ [x]))) := by show World.ownsRow _ _ _ _ _ _ _; rw [gcs_snoc]; exact hown2
      clear hown2 hg2
      go_wp2_with fail
      go_roundw
      case rel => exact ⟨_, j + 1, M + 1, L ++ [x], rfl, by omega, by omega, by go_num, by show _ = _; rw [List.length_append, ← HM.out]; rfl, HT2, HO2.out, hb2⟩
      case measure => simp [intOf]; omega
    ·obtain rfl : N = j := by omega
     have HF : Hid (L1 ++ l.filter (fun x => glt g x) = L) := by
      show _ = _
      have := HJ.out
      rw [← HL.out, List.take_length] at this
      exact this
     have HO := Lib.hid hown
     have g11 : ¬ (N : Int) < (N : Int) := by omega
     have hzw' : w0.heap.size ≤ W.heap.size := hbw.size
     clear HJ hlt hown
     have HE : Hid (R = L) := by show _ = _; rw [← HR.out, ← HF.out, ← HE1.out]; simp
     have HB2 := Lib.hid (HB0.out.trans (hbw.mono HB0.out.size))
     have HO2 := Lib.hid (own_less HO.out HB0.out.size)
     go_wp2_with fail
     go_ret
     rw [HE.out]
     exact ⟨_, rfl, by have := HO2.out; rw [HM.out] at this; exact this, HB2.out⟩
end Go.Proofs.YtchilcchogcibaaGreatDoor
