/- The document's Eval of an expression, as a plain function. Condition: an expression whose form is right, columns and a row that read as such, texts of a row that are looked at. -/
import Derived.Test.YtdhjogmkhbpcgaaGreatR4M
import Derived.Test.YtdhjogmkhbpcgaaGreatRef1Reck
namespace Go.Proofs.YtdhjogmkhbpcgaaGreat
open Go.RowKit

attribute [local go_sem] ByteArray.extract_mk ba_get ba_append
attribute [local go_sem ↓] Go.wp_at_zero Go.wp_at_succ run_eql_V run_neq_V

theorem ev_lit : ∀ (n : Nat) (cols : List Col) (row : List V) (e : Ex), e.op = opLit → evalE n cols row e = e.v
  | 0, _, _, e, h => by rw [evalE, if_pos h]
  | n + 1, _, _, e, h => by rw [evalE, if_pos h]
theorem ev_col : ∀ (n : Nat) (cols : List Col) (row : List V) (e : Ex), e.op = opCol → evalE n cols row e = if placeF cols e.s < 0 then V.zero else row.getD (placeF cols e.s).toNat V.zero
  | 0, _, _, e, h => by rw [evalE, if_neg (by rw [h]; decide), if_pos h]
  | n + 1, _, _, e, h => by rw [evalE, if_neg (by rw [h]; decide), if_pos h]
theorem ev_one (n : Nat) (cols : List Col) (row : List V) (e a : Ex) (h1 : ¬ e.op = opLit) (h2 : ¬ e.op = opCol) (h : e.l = [a]) : evalE (n + 1) cols row e = doF e.op (evalE n cols row a) V.zero := by
  rw [evalE, if_neg h1, if_neg h2, h]
  rfl
theorem ev_two (n : Nat) (cols : List Col) (row : List V) (e a b : Ex) (h1 : ¬ e.op = opLit) (h2 : ¬ e.op = opCol) (h : e.l = [a, b]) : evalE (n + 1) cols row e = doF e.op (evalE n cols row a) (evalE n cols row b) := by
  rw [evalE, if_neg h1, if_neg h2, h]
  rfl
theorem truthV_s (n : Int) : (truthV n).s = [] := by unfold truthV; split <;> rfl
theorem doF_s (op : List UInt8) (a b : V) : (doF op a b).s = [] := by
  unfold doF
  split
  · exact truthV_s _
  · split
    · exact truthV_s _
    · split
      · exact truthV_s _
      · split
        · unfold equalV; split <;> rfl
        · split
          · unfold lessV; split <;> rfl
          · split
            · unfold plusV; split <;> rfl
            · split
              · unfold minusV; split <;> rfl
              · rfl
theorem evalE_s : ∀ (n : Nat) (cols : List Col) (row : List V) (e : Ex), e.v.s.length ≤ 1000 → (∀ v ∈ row, v.s.length ≤ 1000) → (evalE n cols row e).s.length ≤ 1000 := by
  intro n cols row e he hr
  by_cases h1 : e.op = opLit
  · rw [ev_lit n cols row e h1]; exact he
  · by_cases h2 : e.op = opCol
    · rw [ev_col n cols row e h2]
      split
      · simp [V.zero]
      · rw [List.getD_eq_getElem?_getD]
        cases h : row[(placeF cols e.s).toNat]? with
        | none => simp [V.zero]
        | some v => exact hr v (List.mem_of_getElem? h)
    · cases n with
      | zero => rw [evalE, if_neg h1, if_neg h2]; simp [doF_s]
      | succ n => rw [evalE, if_neg h1, if_neg h2]; simp [doF_s]

set_option maxRecDepth 100000 in
set_option maxHeartbeats 16000000 in
theorem eval4_step (n : Nat) (ih : ∀ m, n = m + 1 → ∀ (d : Nat) (e : Ex) (A A1 A2 : Option Addr) (c c1 c2 : Nat) (cols : List Col) (row : List V) (w : World), formE d e = true → e.fit 1000 → ExS 1000 m w w.heap.size A e.l → cols.length ≤ 1000 → row.length ≤ 1000 → (∀ v ∈ row, fitI v.i ∧ v.s.length ≤ 1000) → ColS w w.heap.size A1 cols → VS w w.heap.size A2 row →
      Calls Tryz.prog 40 #[.agg (e.cells A c).toArray, .slice A1 cols.length c1, .slice A2 row.length c2] w (Ret (.agg #[.int .i64 (evalE m cols row e).k, .int .i64 (evalE m cols row e).i, .string ⟨(evalE m cols row e).s.toArray⟩]) w))
    (d : Nat) (e : Ex) (A A1 A2 : Option Addr) (c c1 c2 : Nat) (cols : List Col) (row : List V) (w : World) (hfm : formE d e = true) (_hf : e.fit 1000) (hE : ExS 1000 n w w.heap.size A e.l) (hcl : cols.length ≤ 1000) (hrl : row.length ≤ 1000) (hrv : ∀ v ∈ row, fitI v.i ∧ v.s.length ≤ 1000) (hC : ColS w w.heap.size A1 cols) (hV : VS w w.heap.size A2 row) :
    Calls Tryz.prog 40 #[.agg (e.cells A c).toArray, .slice A1 cols.length c1, .slice A2 row.length c2] w (Ret (.agg #[.int .i64 (evalE n cols row e).k, .int .i64 (evalE n cols row e).i, .string ⟨(evalE n cols row e).s.toArray⟩]) w) := by
  obtain ⟨d, rfl⟩ : ∃ k, d = k + 1 := by cases d with | zero => simp [formE] at hfm | succ k => exact ⟨k, rfl⟩
  have hparts := form_parts hfm
  obtain ⟨w0, hw0⟩ : ∃ w0, (w.alloc (.cells (e.cells A c).toArray 29)).alloc (.cells #[.int .i64 0, .int .i64 0, .string ⟨#[]⟩] 26) = w0 := ⟨_, rfl⟩
  have kq0 : Blk w0 w.heap.size 29 (e.cells A c).toArray := by rw [← hw0]; exact (Blk.new _ _ _).alloc _
  have kr0 : Blk w0 (w.heap.size + 1) 26 #[.int .i64 0, .int .i64 0, .string ⟨#[]⟩] := by rw [← hw0]; exact Blk.new' _ _ _ _ (by simp)
  have hb0 : Below w.heap.size w w0 := by rw [← hw0]; exact bl
  have HSH : Hid (∀ w' : World, Below w0.heap.size w0 w' → (w'.cell? ⟨w.heap.size, 0, none⟩ = some (.string ⟨e.op.toArray⟩) ∧ w'.cell? ⟨w.heap.size, 1, none⟩ = some (.int .i64 e.v.k) ∧ w'.cell? ⟨w.heap.size, 2, none⟩ = some (.int .i64 e.v.i) ∧ w'.cell? ⟨w.heap.size, 3, none⟩ = some (.string ⟨e.v.s.toArray⟩) ∧ w'.cell? ⟨w.heap.size, 4, none⟩ = some (.string ⟨e.s.toArray⟩) ∧ w'.cell? ⟨w.heap.size, 5, none⟩ = some (.slice A e.l.length c))) := fun w' h => (kq0.below h kq0.lt).six
  have HRS : Hid (∀ w' : World, Below w0.heap.size w0 w' → (w'.cell? ⟨w.heap.size + 1, 0, none⟩ = some (.int .i64 0) ∧ w'.cell? ⟨w.heap.size + 1, 1, none⟩ = some (.int .i64 0) ∧ w'.cell? ⟨w.heap.size + 1, 2, none⟩ = some (.string ⟨#[]⟩)) ∧ (w'.frozen? ⟨w.heap.size + 1, 0, none⟩ = false ∧ w'.frozen? ⟨w.heap.size + 1, 1, none⟩ = false ∧ w'.frozen? ⟨w.heap.size + 1, 2, none⟩ = false)) := fun w' h => (kr0.below h kr0.lt).three
  have HRL : Hid (∀ w' : World, Below w0.heap.size w0 w' → w.heap.size + 1 < w'.heap.size) := fun w' h => (kr0.below h kr0.lt).lt
  have HE : Hid (∀ Y : World, Below w0.heap.size w0 Y → ExS 1000 n Y Y.heap.size A e.l) := fun Y h => ((hE.below n (hb0.trans (h.mono hb0.size)))).more (Nat.le_trans hb0.size h.size) n
  have HCS : Hid (∀ Y : World, Below w0.heap.size w0 Y → ColS Y Y.heap.size A1 cols) := fun Y h hl => by
    obtain ⟨b, off, h1, h2, h3⟩ := hC hl
    have hb := hb0.trans (h.mono hb0.size)
    refine ⟨b, off, h1, Nat.lt_of_lt_of_le h2 hb.size, fun i v hv => ?_⟩
    obtain ⟨u0, u1, u2⟩ := h3 i v hv
    exact ⟨(hb.cell (p := ⟨b, off + i * 3, none⟩) h2).trans u0, (hb.cell (p := ⟨b, off + i * 3 + 1, none⟩) h2).trans u1, (hb.cell (p := ⟨b, off + i * 3 + 2, none⟩) h2).trans u2⟩
  have HVS : Hid (∀ Y : World, Below w0.heap.size w0 Y → VS Y Y.heap.size A2 row) := fun Y h => (hV.below (hb0.trans (h.mono hb0.size))).more (Nat.le_trans hb0.size h.size)
  have HW := Lib.hid hw0
  have HBW : Hid (∀ Y : World, Below w0.heap.size w0 Y → Below w.heap.size w Y) := fun Y h => hb0.trans (h.mono hb0.size)
  have hbr0 : Below w0.heap.size w0 w0 := Below.refl _ _
  obtain ⟨R, hR⟩ : ∃ R, evalE n cols row e = R := ⟨_, rfl⟩
  rw [hR]
  have HIH : Hid (∀ m, n = m + 1 → ∀ (x : Ex) (A' : Option Addr) (c' : Nat) (Y : World), formE d x = true → x.fit 1000 → ExS 1000 m Y Y.heap.size A' x.l → Below w0.heap.size w0 Y →
      Calls Tryz.prog 40 #[.agg #[.string ⟨x.op.toArray⟩, .int .i64 x.v.k, .int .i64 x.v.i, .string ⟨x.v.s.toArray⟩, .string ⟨x.s.toArray⟩, .slice A' x.l.length c'], .slice A1 cols.length c1, .slice A2 row.length c2] Y (Ret (.agg #[.int .i64 (evalE m cols row x).k, .int .i64 (evalE m cols row x).i, .string ⟨(evalE m cols row x).s.toArray⟩]) Y)) :=
    fun m hm x A' c' Y h1 h2 h3 h4 => ih m hm d x A' A1 A2 c' c1 c2 cols row Y h1 h2 h3 hcl hrl hrv (HCS.out Y h4) (HVS.out Y h4)
  have HLN : Hid (∀ (m : Nat) (x : Ex), x.fit 1000 → (evalE m cols row x).s.length ≤ 140737488351232 ∧ (-9223372036854775808 ≤ (evalE m cols row x).i ∧ (evalE m cols row x).i ≤ 9223372036854775807)) := fun m x h => ⟨by have := evalE_s m cols row x h.2.2.2 (fun v hv => (hrv v hv).2); omega, evalE_in m cols row x h.1 (fun v hv => (hrv v hv).1)⟩
  clear hw0 hE kq0 kr0 hb0 hC hV ih hfm hrv
  obtain ⟨q0, q1, q2, q3, q4, q5⟩ := HSH.out w0 hbr0
  go_enter Tryz.func40, Tryz.ntmps40
  go_upto_region 1 with fail
  rw [HW.out]
  clear HW
  rcases hparts with ⟨ho, hl⟩ | ⟨ho, hl⟩ | ⟨ho, a, hl, ha⟩ | ⟨ho, a, b, hl, ha, hb⟩
  · have o1 : (e.op == [108, 105, 116]) = true := by rw [ho]; rfl
    have HF : Hid (R = e.v) := by show _ = _; rw [← hR, ev_lit n cols row e ho]
    clear hR hl ho HIH HE
    obtain ⟨⟨r0, r1, r2⟩, f0, f1, f2⟩ := HRS.out w0 (by assumption)
    have lr := HRL.out w0 (by assumption)
    have hbl := HBW.out w0 (by assumption)
    go_wp2_with fail
    refine bodyPost_ret (v := .agg #[.int .i64 (e.v).k, .int .i64 (e.v).i, .string ⟨(e.v).s.toArray⟩]) (by simp [results, Tryz.results40, go_sem, *]) rfl ⟨by first | (rw [HF.out]; done) | (rw [HF.out]; rfl), ?_⟩
    exact bl
  · have o1 : (e.op == [108, 105, 116]) = false := by rw [ho]; rfl
    have o2 : (e.op == [99, 111, 108]) = true := by rw [ho]; rfl
    have hR2 : (if placeF cols e.s < 0 then V.zero else row.getD (placeF cols e.s).toNat V.zero) = R := by rw [← hR, ev_col n cols row e ho]
    obtain ⟨P, hP⟩ : ∃ P, placeF cols e.s = P := ⟨_, rfl⟩
    rw [hP] at hR2
    have HR := Lib.hid hR2
    have HP : Hid (placeFrom e.s (cols.drop 0) 0 = P) := hP
    clear hR hl ho HIH HE hR2 hP
    go_wp2_with fail
    go_loopw [7] (fun i wr => ∃ j : Nat, j ≤ cols.length ∧ i = .int .i64 j ∧ Hid (placeFrom e.s (cols.drop j) j = P) ∧ Below w0.heap.size w0 wr) (fun i _ => cols.length - (intOf i).toNat)
    case atStart => exact ⟨0, by omega, rfl, HP, hbr0⟩
    case round =>
      obtain ⟨j, hj, rfl, HJ, hbr⟩ := hrel
      clear q0 q1 q2 q3 q4 q5
      obtain ⟨q0, q1, q2, q3, q4, q5⟩ := HSH.out wr hbr
      by_cases hlt : j < cols.length
      · obtain ⟨b1, o1', x, rfl, hbB, hv, d0, d1, d2⟩ := (HCS.out wr hbr).at_ hlt
        have hJ := HJ.out
        rw [dropCo cols j x hv] at hJ
        simp only [placeFrom] at hJ
        obtain ⟨B, hB⟩ : ∃ B, (x.n == e.s) = B := ⟨_, rfl⟩
        have i1 : (0 : Int) ≤ (j : Int) := by omega
        have i2 : (j : Int) < (cols.length : Int) := by omega
        cases B
        · have HN : Hid (placeFrom e.s (cols.drop (j + 1)) (j + 1) = P) := by show _ = _; rw [if_neg (by simpa using hB)] at hJ; exact hJ
          clear hJ hv HJ
          go_wp2_with fail
          go_quiet (fail)
          go_wp2_with fail
          go_roundw
          case rel => exact ⟨j + 1, by omega, by go_num, HN, below_drewN hbr _⟩
          case measure => simp [intOf]; omega
        · have hr2 : row.getD j V.zero = R := by
            rw [if_pos (by simpa using hB)] at hJ
            rw [← HR.out, ← hJ, if_neg (by omega), Int.toNat_natCast]
          clear hJ hv HJ HR
          by_cases hjr : j < row.length
          · obtain ⟨b2, o2', v, rfl, hbB2, hv2, u0, u1, u2⟩ := (HVS.out wr hbr).at_ hjr
            have HF : Hid (R = v) := by show _ = _; rw [← hr2, List.getD_eq_getElem?_getD, hv2]; rfl
            have i3 : (j : Int) < (row.length : Int) := by omega
            clear hr2 hv2
            obtain ⟨⟨r0, r1, r2⟩, f0, f1, f2⟩ := HRS.out wr (by assumption)
            have lr := HRL.out wr (by assumption)
            have hbl := HBW.out wr (by assumption)
            go_wp2_with fail
            go_quiet (fail)
            go_wp2_with fail
            refine bodyPost_ret (v := .agg #[.int .i64 (v).k, .int .i64 (v).i, .string ⟨(v).s.toArray⟩]) (by simp [results, Tryz.results40, go_sem, *]) rfl ⟨by first | (rw [HF.out]; done) | (rw [HF.out]; rfl), ?_⟩
            exact bl
          · have HF : Hid (R = V.zero) := by show _ = _; rw [← hr2, List.getD_eq_getElem?_getD, List.getElem?_eq_none (by omega)]; rfl
            have i3 : ¬ ((j : Int) < (row.length : Int)) := by omega
            clear hr2
            obtain ⟨⟨r0, r1, r2⟩, f0, f1, f2⟩ := HRS.out wr (by assumption)
            have lr := HRL.out wr (by assumption)
            have hbl := HBW.out wr (by assumption)
            go_wp2_with fail
            go_quiet (fail)
            go_wp2_with fail
            refine bodyPost_ret (v := .agg #[.int .i64 (V.zero).k, .int .i64 (V.zero).i, .string ⟨(V.zero).s.toArray⟩]) (by simp [results, Tryz.results40, go_sem, V.zero, *]) rfl ⟨by rw [HF.out], ?_⟩
            exact bl
      · have HF : Hid (R = V.zero) := by
          show _ = _
          have hJ := HJ.out
          rw [List.drop_of_length_le (by omega)] at hJ
          simp only [placeFrom] at hJ
          rw [← HR.out, ← hJ]
          rfl
        have b0 : ¬ ((j : Int) < (cols.length : Int)) := by omega
        clear HJ HR
        obtain ⟨⟨r0, r1, r2⟩, f0, f1, f2⟩ := HRS.out wr (by assumption)
        have lr := HRL.out wr (by assumption)
        have hbl := HBW.out wr (by assumption)
        go_wp2_with fail
        refine bodyPost_ret (v := .agg #[.int .i64 (V.zero).k, .int .i64 (V.zero).i, .string ⟨(V.zero).s.toArray⟩]) (by simp [results, Tryz.results40, go_sem, V.zero, *]) rfl ⟨by rw [HF.out], ?_⟩
        exact bl
  · have hlen : e.l.length = 1 := by rw [hl]; rfl
    have o1 : (e.op == [108, 105, 116]) = false := by rcases ho with h | h <;> rw [h] <;> rfl
    have o2 : (e.op == [99, 111, 108]) = false := by rcases ho with h | h <;> rw [h] <;> rfl
    obtain ⟨m, b1, o1', x, A', c', hnm, rfl, hbB, hv0, _, hfx, hxc, hxm, ⟨c0, c1', c2', c3, c4, c5⟩, hx⟩ := six0 (HE.out w0 hbr0) (j := 0) (by rw [hl]; simp)
    have hxa : x = a := by rw [hl] at hv0; simpa using hv0.symm
    subst hxa
    subst hnm
    rw [ev_one m cols row e x (by rcases ho with h | h <;> rw [h] <;> decide) (by rcases ho with h | h <;> rw [h] <;> decide) hl] at hR
    have HX := Lib.hid (HIH.out m rfl x A' c' w0 ha hfx hx hbr0)
    have hln := HLN.out m x hfx
    obtain ⟨va, hT⟩ : ∃ T, evalE m cols row x = T := ⟨_, rfl⟩
    rw [hT] at HX hR hln
    have HVL := Lib.hid hln
    have i1 : (0 : Int) < (e.l.length : Int) := by omega
    simp only [Nat.zero_mul, Nat.add_zero] at c0 c1' c2' c3 c4 c5
    clear hv0 hfx hxc hxm hx hT HIH HE hlen hl ha hln
    go_wp2_with fail
    refine HX.out.mono ?_
    rintro en w1 ⟨rfl, hb1⟩
    obtain ⟨w2, hw2⟩ : ∃ w2, w1.alloc (.cells #[.int .i64 (va).k, .int .i64 (va).i, .string ⟨(va).s.toArray⟩] 26) = w2 := ⟨_, rfl⟩
    have ka : Blk w2 w1.heap.size 26 #[.int .i64 (va).k, .int .i64 (va).i, .string ⟨(va).s.toArray⟩] := by rw [← hw2]; exact Blk.new _ _ _
    have hb12 : Below w1.heap.size w1 w2 := by rw [← hw2]; exact bl
    have hb02 : Below w0.heap.size w0 w2 := hb1.trans (hb12.mono hb1.size)
    have HW2 := Lib.hid hw2
    clear q0 q1 q2 q3 q4 q5 HX c0 c1' c2' c3 c4 c5 hw2
    obtain ⟨q0, q1, q2, q3, q4, q5⟩ := HSH.out w2 hb02
    obtain ⟨⟨v0, v1, v2⟩, _⟩ := ka.three
    go_upto_region 14 with fail
    rw [HW2.out]
    clear HW2
    rcases ho with ho | ho
    · have g0 : (e.op == [110, 111, 116]) = true := by rw [ho]; rfl
      have HF : Hid (R = truthV (notN (saysF va.k va.i va.s))) := by show _ = _; rw [← hR, ho]; rfl
      have HN := Lib.hid (rnot_any va.k va.i va.s w2)
      clear hR ho
      go_wp2_with fail
      refine HN.out.mono ?_
      rintro en w3 ⟨rfl, hb3⟩
      have hb03 : Below w0.heap.size w0 w3 := hb02.trans (hb3.mono hb02.size)
      clear q0 q1 q2 q3 q4 q5 v0 v1 v2
      obtain ⟨⟨r0, r1, r2⟩, f0, f1, f2⟩ := HRS.out w3 (by assumption)
      have lr := HRL.out w3 (by assumption)
      have hbl := HBW.out w3 (by assumption)
      go_wp2_with fail
      refine bodyPost_ret (v := .agg #[.int .i64 (truthV (notN (saysF va.k va.i va.s))).k, .int .i64 (truthV (notN (saysF va.k va.i va.s))).i, .string ⟨(truthV (notN (saysF va.k va.i va.s))).s.toArray⟩]) (by simp [results, Tryz.results40, go_sem, *]) rfl ⟨by first | (rw [HF.out]; done) | (rw [HF.out]; rfl), ?_⟩
      exact bl
    · have g0 : (e.op == [110, 111, 116]) = false := by rw [ho]; rfl
      have g1 : (e.op == [110, 117, 108, 108]) = true := by rw [ho]; rfl
      obtain ⟨mb, hmb⟩ : ∃ b, mayB va.k va.i va.s = b := ⟨_, rfl⟩
      obtain ⟨kb, hkb⟩ : ∃ b, (va.k == 0) = b := ⟨_, rfl⟩
      have HF : Hid (R = bV (!mb || kb)) := by
        show _ = _
        rw [← hR, ho]
        show nullV va = _
        unfold nullV goodV
        rw [hmb]
        cases mb
        · rfl
        · rw [← hkb]
          rfl
      have HM := Lib.hid (rmay_any va.k va.i va.s w2 HVL.out.1)
      rw [hmb] at HM
      have HT : Hid (∀ (b : Bool) (Y : World), Calls Tryz.prog 70 #[.bool b] Y (Ret (.agg #[.int .i64 (bV b).k, .int .i64 (bV b).i, .string ⟨(bV b).s.toArray⟩]) Y)) := fun b Y => rtruth_any b Y
      clear hR ho hmb
      go_wp2_with fail
      refine HM.out.mono ?_
      rintro en w3 ⟨rfl, hb3⟩
      have hb03 : Below w0.heap.size w0 w3 := hb02.trans (hb3.mono hb02.size)
      have ka3 := ka.below hb3 ka.lt
      clear q0 q1 q2 q3 q4 q5 v0 v1 v2
      obtain ⟨⟨v0, v1, v2⟩, _⟩ := ka3.three
      cases mb
      · go_wp2_with fail
        refine (HT.out true _).mono ?_
        rintro en w4 ⟨rfl, hb4⟩
        have hb04 : Below w0.heap.size w0 w4 := hb03.trans (hb4.mono hb03.size)
        clear v0 v1 v2
        obtain ⟨⟨r0, r1, r2⟩, f0, f1, f2⟩ := HRS.out w4 (by assumption)
        have lr := HRL.out w4 (by assumption)
        have hbl := HBW.out w4 (by assumption)
        go_wp2_with fail
        refine bodyPost_ret (v := .agg #[.int .i64 (bV true).k, .int .i64 (bV true).i, .string ⟨(bV true).s.toArray⟩]) (by simp [results, Tryz.results40, go_sem, *]) rfl ⟨by first | (rw [HF.out]; done) | (rw [HF.out]; rfl), ?_⟩
        exact bl
      · cases kb
        · go_wp2_with fail
          refine (HT.out false _).mono ?_
          rintro en w4 ⟨rfl, hb4⟩
          have hb04 : Below w0.heap.size w0 w4 := hb03.trans (hb4.mono hb03.size)
          clear v0 v1 v2
          obtain ⟨⟨r0, r1, r2⟩, f0, f1, f2⟩ := HRS.out w4 (by assumption)
          have lr := HRL.out w4 (by assumption)
          have hbl := HBW.out w4 (by assumption)
          go_wp2_with fail
          refine bodyPost_ret (v := .agg #[.int .i64 (bV false).k, .int .i64 (bV false).i, .string ⟨(bV false).s.toArray⟩]) (by simp [results, Tryz.results40, go_sem, *]) rfl ⟨by first | (rw [HF.out]; done) | (rw [HF.out]; rfl), ?_⟩
          exact bl
        · go_wp2_with fail
          refine (HT.out true _).mono ?_
          rintro en w4 ⟨rfl, hb4⟩
          have hb04 : Below w0.heap.size w0 w4 := hb03.trans (hb4.mono hb03.size)
          clear v0 v1 v2
          obtain ⟨⟨r0, r1, r2⟩, f0, f1, f2⟩ := HRS.out w4 (by assumption)
          have lr := HRL.out w4 (by assumption)
          have hbl := HBW.out w4 (by assumption)
          go_wp2_with fail
          refine bodyPost_ret (v := .agg #[.int .i64 (bV true).k, .int .i64 (bV true).i, .string ⟨(bV true).s.toArray⟩]) (by simp [results, Tryz.results40, go_sem, *]) rfl ⟨by first | (rw [HF.out]; done) | (rw [HF.out]; rfl), ?_⟩
          exact bl
  · have hlen : e.l.length = 2 := by rw [hl]; rfl
    have o1 : (e.op == [108, 105, 116]) = false := by rcases ho with h | h | h | h | h | h <;> rw [h] <;> rfl
    have o2 : (e.op == [99, 111, 108]) = false := by rcases ho with h | h | h | h | h | h <;> rw [h] <;> rfl
    have g8 : (e.op == [110, 111, 116]) = false := by rcases ho with h | h | h | h | h | h <;> rw [h] <;> rfl
    have g9 : (e.op == [110, 117, 108, 108]) = false := by rcases ho with h | h | h | h | h | h <;> rw [h] <;> rfl
    obtain ⟨m, b1, o1', x, A', c', hnm, rfl, hbB, hv0, _, hfx, hxc, hxm, ⟨c0, c1', c2', c3, c4, c5⟩, hx⟩ := six0 (HE.out w0 hbr0) (j := 0) (by rw [hl]; simp)
    have hxa : x = a := by rw [hl] at hv0; simpa using hv0.symm
    subst hxa
    obtain ⟨m', b2, o2', y, A3, c3', hnm', e2', hbB', hv1, _, hfy, hyc, hym, hsix, hy⟩ := six0 (HE.out w0 hbr0) (j := 1) (by rw [hl]; simp)
    have hyb : y = b := by rw [hl] at hv1; simpa using hv1.symm
    subst hyb
    subst hnm
    have em : m' = m := by omega
    subst em
    cases e2'
    rw [ev_two m' cols row e x y (by rcases ho with h | h | h | h | h | h <;> rw [h] <;> decide) (by rcases ho with h | h | h | h | h | h <;> rw [h] <;> decide) hl] at hR
    have HX := Lib.hid (HIH.out m' rfl x A' c' w0 ha hfx hx hbr0)
    have HY : Hid (∀ Y : World, Below w0.heap.size w0 Y → Calls Tryz.prog 40 #[.agg #[.string ⟨y.op.toArray⟩, .int .i64 y.v.k, .int .i64 y.v.i, .string ⟨y.v.s.toArray⟩, .string ⟨y.s.toArray⟩, .slice A3 y.l.length c3'], .slice A1 cols.length c1, .slice A2 row.length c2] Y (Ret (.agg #[.int .i64 (evalE m' cols row y).k, .int .i64 (evalE m' cols row y).i, .string ⟨(evalE m' cols row y).s.toArray⟩]) Y)) := fun Y h => HIH.out m' rfl y A3 c3' Y hb hfy ((hy.below m' h).more h.size m') h
    have HDS : Hid (∀ Y : World, Below w0.heap.size w0 Y → Six Y b1 (o1' + 6) y A3 c3') := fun Y h => Six.keep hsix fun o => h.cell (p := ⟨b1, o, none⟩) hbB'
    have hlx := HLN.out m' x hfx
    have hly := HLN.out m' y hfy
    obtain ⟨va, hT⟩ : ∃ T, evalE m' cols row x = T := ⟨_, rfl⟩
    obtain ⟨vb, hU⟩ : ∃ T, evalE m' cols row y = T := ⟨_, rfl⟩
    rw [hT] at HX hR hlx
    rw [hU] at HY hR hly
    have HLA := Lib.hid hlx
    have HLB := Lib.hid hly
    have i1 : (0 : Int) < (e.l.length : Int) := by omega
    have i2 : (1 : Int) < (e.l.length : Int) := by omega
    simp only [Nat.zero_mul, Nat.add_zero] at c0 c1' c2' c3 c4 c5
    clear hv0 hv1 hfx hxc hxm hx hT HIH HE hlen hl ha hb hfy hyc hym hsix hy hU hnm' hlx hly HLN
    go_wp2_with fail
    refine HX.out.mono ?_
    rintro en w1 ⟨rfl, hb1⟩
    obtain ⟨w2, hw2⟩ : ∃ w2, w1.alloc (.cells #[.int .i64 (va).k, .int .i64 (va).i, .string ⟨(va).s.toArray⟩] 26) = w2 := ⟨_, rfl⟩
    have ka : Blk w2 w1.heap.size 26 #[.int .i64 (va).k, .int .i64 (va).i, .string ⟨(va).s.toArray⟩] := by rw [← hw2]; exact Blk.new _ _ _
    have hb12 : Below w1.heap.size w1 w2 := by rw [← hw2]; exact bl
    have hb02 : Below w0.heap.size w0 w2 := hb1.trans (hb12.mono hb1.size)
    have HW2 := Lib.hid hw2
    clear q0 q1 q2 q3 q4 q5 HX c0 c1' c2' c3 c4 c5 hw2
    obtain ⟨q0, q1, q2, q3, q4, q5⟩ := HSH.out w2 hb02
    obtain ⟨d0, d1, d2, d3, d4, d5⟩ := HDS.out w2 hb02
    go_upto_region 14 with fail
    rw [HW2.out]
    clear HW2
    go_wp2_with fail
    refine (HY.out w2 hb02).mono ?_
    rintro en w3 ⟨rfl, hb3⟩
    obtain ⟨w4, hw4⟩ : ∃ w4, w3.alloc (.cells #[.int .i64 (vb).k, .int .i64 (vb).i, .string ⟨(vb).s.toArray⟩] 26) = w4 := ⟨_, rfl⟩
    have kb : Blk w4 w3.heap.size 26 #[.int .i64 (vb).k, .int .i64 (vb).i, .string ⟨(vb).s.toArray⟩] := by rw [← hw4]; exact Blk.new _ _ _
    have hb34 : Below w3.heap.size w3 w4 := by rw [← hw4]; exact bl
    have ka4 := (ka.below hb3 ka.lt).below hb34 (ka.below hb3 ka.lt).lt
    have hb03 : Below w0.heap.size w0 w3 := hb02.trans (hb3.mono hb02.size)
    have hb04 : Below w0.heap.size w0 w4 := hb03.trans (hb34.mono hb03.size)
    have HW4 := Lib.hid hw4
    clear q0 q1 q2 q3 q4 q5 HY d0 d1 d2 d3 d4 d5 hw4 HDS
    obtain ⟨q0, q1, q2, q3, q4, q5⟩ := HSH.out w4 hb04
    obtain ⟨⟨v0, v1, v2⟩, _⟩ := ka4.three
    obtain ⟨⟨u0, u1, u2⟩, _⟩ := kb.three
    go_upto_region 19 with fail
    rw [HW4.out]
    clear HW4 hb1 hb12 hb3 hb34 hb03 hb02
    rcases ho with ho | ho | ho | ho | ho | ho
    · have g0 : (e.op == [97, 110, 100]) = true := by rw [ho]; rfl
      have g1 : (e.op == [111, 114]) = false := by rw [ho]; rfl
      have g2 : (e.op == [61]) = false := by rw [ho]; rfl
      have g3 : (e.op == [60]) = false := by rw [ho]; rfl
      have g4 : (e.op == [43]) = false := by rw [ho]; rfl
      have HN := Lib.hid (rand_any va.k va.i va.s vb.k vb.i vb.s w4)
      obtain ⟨RR, hRR⟩ : ∃ r, truthV (andN (saysF va.k va.i va.s) (saysF vb.k vb.i vb.s)) = r := ⟨_, rfl⟩
      have HF : Hid (R = RR) := by show _ = _; rw [← hR, ho, ← hRR]; rfl
      rw [hRR] at HN
      clear hR ho hRR
      go_wp2_with fail
      refine HN.out.mono ?_
      rintro en w5 ⟨rfl, hb5⟩
      have hb05 : Below w0.heap.size w0 w5 := hb04.trans (hb5.mono hb04.size)
      clear q0 q1 q2 q3 q4 q5 v0 v1 v2 u0 u1 u2
      obtain ⟨⟨r0, r1, r2⟩, f0, f1, f2⟩ := HRS.out w5 (by assumption)
      have lr := HRL.out w5 (by assumption)
      have hbl := HBW.out w5 (by assumption)
      go_wp2_with fail
      refine bodyPost_ret (v := .agg #[.int .i64 (RR).k, .int .i64 (RR).i, .string ⟨(RR).s.toArray⟩]) (by simp [results, Tryz.results40, go_sem, *]) rfl ⟨by first | (rw [HF.out]; done) | (rw [HF.out]; rfl), ?_⟩
      exact bl
    · have g0 : (e.op == [97, 110, 100]) = false := by rw [ho]; rfl
      have g1 : (e.op == [111, 114]) = true := by rw [ho]; rfl
      have g2 : (e.op == [61]) = false := by rw [ho]; rfl
      have g3 : (e.op == [60]) = false := by rw [ho]; rfl
      have g4 : (e.op == [43]) = false := by rw [ho]; rfl
      have HN := Lib.hid (ror_any va.k va.i va.s vb.k vb.i vb.s w4)
      obtain ⟨RR, hRR⟩ : ∃ r, truthV (orN (saysF va.k va.i va.s) (saysF vb.k vb.i vb.s)) = r := ⟨_, rfl⟩
      have HF : Hid (R = RR) := by show _ = _; rw [← hR, ho, ← hRR]; rfl
      rw [hRR] at HN
      clear hR ho hRR
      go_wp2_with fail
      refine HN.out.mono ?_
      rintro en w5 ⟨rfl, hb5⟩
      have hb05 : Below w0.heap.size w0 w5 := hb04.trans (hb5.mono hb04.size)
      clear q0 q1 q2 q3 q4 q5 v0 v1 v2 u0 u1 u2
      obtain ⟨⟨r0, r1, r2⟩, f0, f1, f2⟩ := HRS.out w5 (by assumption)
      have lr := HRL.out w5 (by assumption)
      have hbl := HBW.out w5 (by assumption)
      go_wp2_with fail
      refine bodyPost_ret (v := .agg #[.int .i64 (RR).k, .int .i64 (RR).i, .string ⟨(RR).s.toArray⟩]) (by simp [results, Tryz.results40, go_sem, *]) rfl ⟨by first | (rw [HF.out]; done) | (rw [HF.out]; rfl), ?_⟩
      exact bl
    · have g0 : (e.op == [97, 110, 100]) = false := by rw [ho]; rfl
      have g1 : (e.op == [111, 114]) = false := by rw [ho]; rfl
      have g2 : (e.op == [61]) = true := by rw [ho]; rfl
      have g3 : (e.op == [60]) = false := by rw [ho]; rfl
      have g4 : (e.op == [43]) = false := by rw [ho]; rfl
      have HN := Lib.hid (requal_any va.k va.i va.s vb.k vb.i vb.s w4 HLA.out.1 HLB.out.1)
      obtain ⟨RR, hRR⟩ : ∃ r, equalV ⟨va.k, va.i, va.s⟩ ⟨vb.k, vb.i, vb.s⟩ = r := ⟨_, rfl⟩
      have HF : Hid (R = RR) := by show _ = _; rw [← hR, ho, ← hRR]; rfl
      rw [hRR] at HN
      clear hR ho hRR
      go_wp2_with fail
      refine HN.out.mono ?_
      rintro en w5 ⟨rfl, hb5⟩
      have hb05 : Below w0.heap.size w0 w5 := hb04.trans (hb5.mono hb04.size)
      clear q0 q1 q2 q3 q4 q5 v0 v1 v2 u0 u1 u2
      obtain ⟨⟨r0, r1, r2⟩, f0, f1, f2⟩ := HRS.out w5 (by assumption)
      have lr := HRL.out w5 (by assumption)
      have hbl := HBW.out w5 (by assumption)
      go_wp2_with fail
      refine bodyPost_ret (v := .agg #[.int .i64 (RR).k, .int .i64 (RR).i, .string ⟨(RR).s.toArray⟩]) (by simp [results, Tryz.results40, go_sem, *]) rfl ⟨by first | (rw [HF.out]; done) | (rw [HF.out]; rfl), ?_⟩
      exact bl
    · have g0 : (e.op == [97, 110, 100]) = false := by rw [ho]; rfl
      have g1 : (e.op == [111, 114]) = false := by rw [ho]; rfl
      have g2 : (e.op == [61]) = false := by rw [ho]; rfl
      have g3 : (e.op == [60]) = true := by rw [ho]; rfl
      have g4 : (e.op == [43]) = false := by rw [ho]; rfl
      have HN := Lib.hid (rless_any va.k va.i va.s vb.k vb.i vb.s w4 HLA.out.1 HLB.out.1)
      obtain ⟨RR, hRR⟩ : ∃ r, lessV ⟨va.k, va.i, va.s⟩ ⟨vb.k, vb.i, vb.s⟩ = r := ⟨_, rfl⟩
      have HF : Hid (R = RR) := by show _ = _; rw [← hR, ho, ← hRR]; rfl
      rw [hRR] at HN
      clear hR ho hRR
      go_wp2_with fail
      refine HN.out.mono ?_
      rintro en w5 ⟨rfl, hb5⟩
      have hb05 : Below w0.heap.size w0 w5 := hb04.trans (hb5.mono hb04.size)
      clear q0 q1 q2 q3 q4 q5 v0 v1 v2 u0 u1 u2
      obtain ⟨⟨r0, r1, r2⟩, f0, f1, f2⟩ := HRS.out w5 (by assumption)
      have lr := HRL.out w5 (by assumption)
      have hbl := HBW.out w5 (by assumption)
      go_wp2_with fail
      refine bodyPost_ret (v := .agg #[.int .i64 (RR).k, .int .i64 (RR).i, .string ⟨(RR).s.toArray⟩]) (by simp [results, Tryz.results40, go_sem, *]) rfl ⟨by first | (rw [HF.out]; done) | (rw [HF.out]; rfl), ?_⟩
      exact bl
    · have g0 : (e.op == [97, 110, 100]) = false := by rw [ho]; rfl
      have g1 : (e.op == [111, 114]) = false := by rw [ho]; rfl
      have g2 : (e.op == [61]) = false := by rw [ho]; rfl
      have g3 : (e.op == [60]) = false := by rw [ho]; rfl
      have g4 : (e.op == [43]) = true := by rw [ho]; rfl
      have HN := Lib.hid (rplus_any va.k va.i va.s vb.k vb.i vb.s w4 HLA.out.2 HLB.out.2 HLA.out.1 HLB.out.1)
      obtain ⟨RR, hRR⟩ : ∃ r, plusV ⟨va.k, va.i, va.s⟩ ⟨vb.k, vb.i, vb.s⟩ = r := ⟨_, rfl⟩
      have HF : Hid (R = RR) := by show _ = _; rw [← hR, ho, ← hRR]; rfl
      rw [hRR] at HN
      clear hR ho hRR
      go_wp2_with fail
      refine HN.out.mono ?_
      rintro en w5 ⟨rfl, hb5⟩
      have hb05 : Below w0.heap.size w0 w5 := hb04.trans (hb5.mono hb04.size)
      clear q0 q1 q2 q3 q4 q5 v0 v1 v2 u0 u1 u2
      obtain ⟨⟨r0, r1, r2⟩, f0, f1, f2⟩ := HRS.out w5 (by assumption)
      have lr := HRL.out w5 (by assumption)
      have hbl := HBW.out w5 (by assumption)
      go_wp2_with fail
      refine bodyPost_ret (v := .agg #[.int .i64 (RR).k, .int .i64 (RR).i, .string ⟨(RR).s.toArray⟩]) (by simp [results, Tryz.results40, go_sem, *]) rfl ⟨by first | (rw [HF.out]; done) | (rw [HF.out]; rfl), ?_⟩
      exact bl
    · have g0 : (e.op == [97, 110, 100]) = false := by rw [ho]; rfl
      have g1 : (e.op == [111, 114]) = false := by rw [ho]; rfl
      have g2 : (e.op == [61]) = false := by rw [ho]; rfl
      have g3 : (e.op == [60]) = false := by rw [ho]; rfl
      have g4 : (e.op == [43]) = false := by rw [ho]; rfl
      have HN := Lib.hid (rminus_any va.k va.i va.s vb.k vb.i vb.s w4 HLA.out.2 HLB.out.2 HLA.out.1 HLB.out.1)
      obtain ⟨RR, hRR⟩ : ∃ r, minusV ⟨va.k, va.i, va.s⟩ ⟨vb.k, vb.i, vb.s⟩ = r := ⟨_, rfl⟩
      have HF : Hid (R = RR) := by show _ = _; rw [← hR, ho, ← hRR]; rfl
      rw [hRR] at HN
      clear hR ho hRR
      go_wp2_with fail
      refine HN.out.mono ?_
      rintro en w5 ⟨rfl, hb5⟩
      have hb05 : Below w0.heap.size w0 w5 := hb04.trans (hb5.mono hb04.size)
      clear q0 q1 q2 q3 q4 q5 v0 v1 v2 u0 u1 u2
      obtain ⟨⟨r0, r1, r2⟩, f0, f1, f2⟩ := HRS.out w5 (by assumption)
      have lr := HRL.out w5 (by assumption)
      have hbl := HBW.out w5 (by assumption)
      go_wp2_with fail
      refine bodyPost_ret (v := .agg #[.int .i64 (RR).k, .int .i64 (RR).i, .string ⟨(RR).s.toArray⟩]) (by simp [results, Tryz.results40, go_sem, *]) rfl ⟨by first | (rw [HF.out]; done) | (rw [HF.out]; rfl), ?_⟩
      exact bl

theorem eval4_any : ∀ (n d : Nat) (e : Ex) (A A1 A2 : Option Addr) (c c1 c2 : Nat) (cols : List Col) (row : List V) (w : World), formE d e = true → e.fit 1000 → ExS 1000 n w w.heap.size A e.l → cols.length ≤ 1000 → row.length ≤ 1000 → (∀ v ∈ row, fitI v.i ∧ v.s.length ≤ 1000) → ColS w w.heap.size A1 cols → VS w w.heap.size A2 row →
      Calls Tryz.prog 40 #[.agg (e.cells A c).toArray, .slice A1 cols.length c1, .slice A2 row.length c2] w (Ret (.agg #[.int .i64 (evalE n cols row e).k, .int .i64 (evalE n cols row e).i, .string ⟨(evalE n cols row e).s.toArray⟩]) w) := by
  intro n
  induction n with
  | zero => exact eval4_step 0 (fun m h => absurd h (by omega))
  | succ n ih =>
    refine eval4_step (n + 1) (fun m h => ?_)
    obtain rfl : n = m := by omega
    exact ih

end Go.Proofs.YtdhjogmkhbpcgaaGreat
