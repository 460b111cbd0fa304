/- The document's Text of an expression as a plain function; The document's condition of a statement as a plain function; The document's reader; The document's reader. -/
import Derived.Test.YtchilcchogcibaaGreatDoorDRd2
set_option maxRecDepth 100000
set_option maxHeartbeats 8000000
namespace Go.Proofs.YtchilcchogcibaaGreatDoor
open Go.RowKit
attribute [local go_sem] ByteArray.extract_mk ba_get ba_append
attribute [local go_sem ↓] Go.wp_at_zero Go.wp_at_succ
theorem rextext_any (B : Nat) : ∀ (n : Nat) (e : Ex) (A : Option Addr) (c m : Nat) (w : World), n ≤ 13 → B ≤ w.heap.size → formE n e = true → fitE n e → e.fit 1000 → ExS 1000 m w w.heap.size A e.l →
  Calls Tryz.prog 113 #[.agg (e.cells A c).toArray] w (Ret (.string ⟨(textN n e).toArray⟩) w) := by
 intro n
 induction n with
 | zero => intro e A c m w _ _ h; simp [formE] at h
 | succ n ih =>
  intro e A c m w hn hB h hf hft hE
  obtain ⟨w0, hw0⟩ : ∃ w0, w.alloc (.cells (e.cells A c).toArray 30) = w0 := ⟨_, rfl⟩
  have kq0 : Blk w0 w.heap.size 30 (e.cells A c).toArray := by rw [← hw0]; exact Blk.new _ _ _
  have hb0 : Below w.heap.size w w0 := by rw [← hw0]; exact bl
  have hz0 := hb0.size
  have HSH : Hid (∀ w' : World, Below w0.heap.size w0 w' → (w'.cell? ⟨w.heap.size, 0, none⟩ = some (.string ⟨e.op.toArray⟩) ∧ w'.cell? ⟨w.heap.size, 1, none⟩ = some (.int .i64 e.v.k) ∧ w'.cell? ⟨w.heap.size, 2, none⟩ = some (.int .i64 e.v.i) ∧ w'.cell? ⟨w.heap.size, 3, none⟩ = some (.string ⟨e.v.s.toArray⟩) ∧ w'.cell? ⟨w.heap.size, 4, none⟩ = some (.string ⟨e.s.toArray⟩) ∧ w'.cell? ⟨w.heap.size, 5, none⟩ = some (.slice A e.l.length c))) := fun w' h => (kq0.below h kq0.lt).six
  have HE : Hid (∀ Y : World, Below w0.heap.size w0 Y → ExS 1000 m Y Y.heap.size A e.l) := fun Y h => ((hE.below m (hb0.trans (h.mono hz0)))).more (Nat.le_trans hz0 h.size) m
  have HW := Lib.hid hw0
  have HBW : Hid (∀ Y : World, Below w0.heap.size w0 Y → Below w.heap.size w Y ∧ B ≤ Y.heap.size) := fun Y h => ⟨hb0.trans (h.mono hz0), Nat.le_trans hB (Nat.le_trans hz0 h.size)⟩
  have HIH : Hid (∀ (x : Ex) (A' : Option Addr) (c' m : Nat) (Y : World), B ≤ Y.heap.size → formE n x = true → fitE n x → x.fit 1000 → ExS 1000 m Y Y.heap.size A' x.l → Calls Tryz.prog 113 #[.agg #[.string ⟨x.op.toArray⟩, .int .i64 x.v.k, .int .i64 x.v.i, .string ⟨x.v.s.toArray⟩, .string ⟨x.s.toArray⟩, .slice A' x.l.length c']] Y (Ret (.string ⟨(textN n x).toArray⟩) Y)) := fun x A' c' m Y h1 h2 h3 h4 h5 => ih x A' c' m Y (by omega) h1 h2 h3 h4 h5
  clear ih hw0 hE kq0 hb0 hz0
  obtain ⟨q0, q1, q2, q3, q4, q5⟩ := HSH.out w0 (Below.refl _ _)
  rcases form_cases h with ⟨he, hm⟩ | ⟨he, hnm, _⟩ | ⟨a, rfl, ha⟩ | ⟨a, rfl, ha⟩ | ⟨op, a, b, rfl, ho, ha, hb⟩
  ·have ho : e.op = opLit := by rw [he]; rfl
   have ht : textN (n + 1) e = textF e.v.k e.v.i e.v.s := by rw [he]; rfl
   have hfv := fitE_v hf
   have HFS : Hid (e.v.s.length ≤ 1000) := hft.2.2.2
   have HT := Lib.hid (rtext_any e.v.k e.v.i e.v.s w0 hfv.1 hfv.2 (by have := HFS.out; omega))
   rw [ht]
   have o1 : (e.op == [108, 105, 116]) = true := by rw [ho]; rfl
   obtain ⟨T, hT⟩ : ∃ T, textF e.v.k e.v.i e.v.s = T := ⟨_, rfl⟩
   rw [hT] at HT ⊢
   clear ht hT he hm h hf ho
   go_in
   go_upto_region 1 with fail
   rw [show w.alloc _ = w0 from HW.out]
   clear HW
   go_wp2_with fail
   refine HT.out.mono ?_
   rintro en w1 ⟨rfl, hb1⟩
   go_wp2_with fail
   go_ret
   exact ⟨rfl, (HBW.out w1 hb1).1⟩
  ·have ho : e.op = opCol := by rw [he]; rfl
   have ht : textN (n + 1) e = e.s := by rw [he]; rfl
   rw [ht]
   have o1 : (e.op == [108, 105, 116]) = false := by rw [ho]; rfl
   have o2 : (e.op == [99, 111, 108]) = true := by rw [ho]; rfl
   clear ht he hnm h hf ho
   go_in
   go_upto_region 1 with fail
   rw [show w.alloc _ = w0 from HW.out]
   clear HW
   go_wp2_with fail
   go_ret
   exact ⟨rfl, (HBW.out w0 (Below.refl _ _)).1⟩
  ·have hfa := hf.2 a (by simp [Ex.l])
   obtain ⟨m1, b1, o1', x, A', c', rfl, rfl, hbB, _, hgd, hfx, hxc, hxm, ⟨c0, c1, c2, c3, c4, c5⟩, hx⟩ := six0 (HE.out w0 (Below.refl _ _)) (j := 0) (by simp [Ex.l])
   obtain rfl : a = x := hgd
   have hln := textN_lt (by omega) ha hfa
   have HC := Lib.hid (HIH.out a A' c' m1 w0 (HBW.out w0 (Below.refl _ _)).2 ha hfa hfx hx)
   have ht : textN (n + 1) (.mk opNot V.zero [] [a]) = ([40, 78, 79, 84, 32] ++ textN n a) ++ [41] := rfl
   rw [ht]
   obtain ⟨T, hT⟩ : ∃ T, textN n a = T := ⟨_, rfl⟩
   rw [hT] at HC hln ⊢
   simp only [Nat.zero_mul, Nat.add_zero] at c0 c1 c2 c3 c4 c5
   clear ht hT h hf ha hfa hfx hx
   dsimp only [Ex.cells, Ex.op, Ex.v, Ex.s, Ex.l, V.zero, List.length_cons, List.length_nil] at q0 q1 q2 q3 q4 q5 HW ⊢
   go_in
   go_upto_region 1 with fail
   rw [show w.alloc _ = w0 from HW.out]
   clear HW
   go_wp2_with fail
   refine HC.out.mono ?_
   rintro en w1 ⟨rfl, hb1⟩
   go_wp2_with fail
   go_ret
   exact ⟨by simp, (HBW.out w1 hb1).1⟩
  ·have hfa := hf.2 a (by simp [Ex.l])
   obtain ⟨m1, b1, o1', x, A', c', rfl, rfl, hbB, _, hgd, hfx, hxc, hxm, ⟨c0, c1, c2, c3, c4, c5⟩, hx⟩ := six0 (HE.out w0 (Below.refl _ _)) (j := 0) (by simp [Ex.l])
   obtain rfl : a = x := hgd
   have hln := textN_lt (by omega) ha hfa
   have HC := Lib.hid (HIH.out a A' c' m1 w0 (HBW.out w0 (Below.refl _ _)).2 ha hfa hfx hx)
   have ht : textN (n + 1) (.mk opNull V.zero [] [a]) = ([40] ++ textN n a) ++ [32, 73, 83, 32, 78, 85, 76, 76, 41] := rfl
   rw [ht]
   obtain ⟨T, hT⟩ : ∃ T, textN n a = T := ⟨_, rfl⟩
   rw [hT] at HC hln ⊢
   simp only [Nat.zero_mul, Nat.add_zero] at c0 c1 c2 c3 c4 c5
   clear ht hT h hf ha hfa hfx hx
   dsimp only [Ex.cells, Ex.op, Ex.v, Ex.s, Ex.l, V.zero, List.length_cons, List.length_nil, opNull] at q0 q1 q2 q3 q4 q5 HW ⊢
   go_in
   go_upto_region 1 with fail
   rw [show w.alloc _ = w0 from HW.out]
   clear HW
   go_wp2_with fail
   refine HC.out.mono ?_
   rintro en w1 ⟨rfl, hb1⟩
   go_wp2_with fail
   go_ret
   exact ⟨by simp, (HBW.out w1 hb1).1⟩
  ·have hfa := hf.2 a (by simp [Ex.l])
   have hfb := hf.2 b (by simp [Ex.l])
   obtain ⟨m1, b1, o1', x, A', c', rfl, rfl, hbB, _, hgd, hfx, hxc, hxm, ⟨c0, c1, c2, c3, c4, c5⟩, hx⟩ := six0 (HE.out w0 (Below.refl _ _)) (j := 0) (by simp [Ex.l])
   obtain rfl : a = x := hgd
   obtain ⟨m2, b2, o2', y, A2, c2', e1, e2, hbB2, _, hgd2, hfy, hyc, hym, ⟨d0, d1, d2, d3, d4, d5⟩, hy⟩ := six0 (HE.out w0 (Below.refl _ _)) (j := 1) (by simp [Ex.l])
   obtain rfl : b = y := hgd2
   obtain rfl : m1 = m2 := by omega
   obtain ⟨rfl, rfl⟩ : b1 = b2 ∧ o1' = o2' := by injection e2 with e; injection e with e1 e3; exact ⟨e1, e3⟩
   have hln := textN_lt (by omega) ha hfa
   have hln2 := textN_lt (by omega) hb hfb
   obtain ⟨n1, n2, n3, n4⟩ := twoB_ne ho
   obtain ⟨u1, u2⟩ := twoB_len ho
   have HC : Hid (∀ Y : World, Below w0.heap.size w0 Y → Calls Tryz.prog 113 #[.agg #[.string ⟨a.op.toArray⟩, .int .i64 a.v.k, .int .i64 a.v.i, .string ⟨a.v.s.toArray⟩, .string ⟨a.s.toArray⟩, .slice A' a.l.length c']] Y (Ret (.string ⟨(textN n a).toArray⟩) Y)) := fun Y hY => HIH.out a A' c' m1 Y (HBW.out Y hY).2 ha hfa hfx ((hx.below m1 hY).more hY.size m1)
   have HC2 : Hid (∀ Y : World, Below w0.heap.size w0 Y → Calls Tryz.prog 113 #[.agg #[.string ⟨b.op.toArray⟩, .int .i64 b.v.k, .int .i64 b.v.i, .string ⟨b.v.s.toArray⟩, .string ⟨b.s.toArray⟩, .slice A2 b.l.length c2']] Y (Ret (.string ⟨(textN n b).toArray⟩) Y)) := fun Y hY => HIH.out b A2 c2' m1 Y (HBW.out Y hY).2 hb hfb hfy ((hy.below m1 hY).more hY.size m1)
   rw [textN_two n1 n2 n3 n4]
   have hul : (upperB op).length ≤ 3 := by rw [upper_len]; exact u1
   obtain ⟨T, hT⟩ : ∃ T, textN n a = T := ⟨_, rfl⟩
   obtain ⟨T2, hT2⟩ : ∃ T, textN n b = T := ⟨_, rfl⟩
   rw [hT] at HC hln ⊢
   rw [hT2] at HC2 hln2 ⊢
   simp only [Nat.zero_mul, Nat.one_mul, Nat.add_zero] at c0 c1 c2 c3 c4 c5 d0 d1 d2 d3 d4 d5
   have o1 : (op == [108, 105, 116]) = false := by rw [beq_eq_false_iff_ne]; exact n1
   have o2 : (op == [99, 111, 108]) = false := by rw [beq_eq_false_iff_ne]; exact n2
   have o3 : (op == [110, 111, 116]) = false := by rw [beq_eq_false_iff_ne]; exact n3
   have o4 : (op == [110, 117, 108, 108]) = false := by rw [beq_eq_false_iff_ne]; exact n4
   have HSX : Hid (∀ Y : World, Below w0.heap.size w0 Y → (Y.cell? ⟨w.heap.size, 0, none⟩ = some (.string ⟨op.toArray⟩) ∧ Y.cell? ⟨w.heap.size, 5, none⟩ = some (.slice (some ⟨b1, o1', none⟩) 2 c)) ∧ (Y.cell? ⟨b1, o1', none⟩ = some (.string ⟨a.op.toArray⟩) ∧ Y.cell? ⟨b1, o1' + 1, none⟩ = some (.int .i64 a.v.k) ∧ Y.cell? ⟨b1, o1' + 2, none⟩ = some (.int .i64 a.v.i) ∧ Y.cell? ⟨b1, o1' + 3, none⟩ = some (.string ⟨a.v.s.toArray⟩) ∧ Y.cell? ⟨b1, o1' + 4, none⟩ = some (.string ⟨a.s.toArray⟩) ∧ Y.cell? ⟨b1, o1' + 5, none⟩ = some (.slice A' a.l.length c')) ∧ (Y.cell? ⟨b1, o1' + 6, none⟩ = some (.string ⟨b.op.toArray⟩) ∧ Y.cell? ⟨b1, o1' + 6 + 1, none⟩ = some (.int .i64 b.v.k) ∧ Y.cell? ⟨b1, o1' + 6 + 2, none⟩ = some (.int .i64 b.v.i) ∧ Y.cell? ⟨b1, o1' + 6 + 3, none⟩ = some (.string ⟨b.v.s.toArray⟩) ∧ Y.cell? ⟨b1, o1' + 6 + 4, none⟩ = some (.string ⟨b.s.toArray⟩) ∧ Y.cell? ⟨b1, o1' + 6 + 5, none⟩ = some (.slice A2 b.l.length c2'))) := fun Y hY => by
    have hk : ∀ o, Y.cell? ⟨b1, o, none⟩ = w0.cell? ⟨b1, o, none⟩ := fun o => hY.cell (p := ⟨b1, o, none⟩) hbB
    obtain ⟨r0, _, _, _, _, r5⟩ := HSH.out Y hY
    exact ⟨⟨r0, r5⟩, ⟨(hk _).trans c0, (hk _).trans c1, (hk _).trans c2, (hk _).trans c3, (hk _).trans c4, (hk _).trans c5⟩, (hk _).trans d0, (hk _).trans d1, (hk _).trans d2, (hk _).trans d3, (hk _).trans d4, (hk _).trans d5⟩
   have hop3 : op = opAnd ∨ op = opOr ∨ (upperB op = op ∧ ¬ op = opAnd ∧ ¬ op = opOr) := by
    rw [twoB_iff] at ho
    rcases ho with rfl | rfl | rfl | rfl | rfl | rfl
    ·exact .inl rfl
    ·exact .inr (.inl rfl)
    all_goals exact .inr (.inr ⟨by decide, by decide, by decide⟩)
   clear hT hT2 h hf ha hfa hb hfb hfx hx hfy hy n1 n2 n3 n4 ho u2 c0 c1 c2 c3 c4 c5 d0 d1 d2 d3 d4 d5
   dsimp only [Ex.cells, Ex.op, Ex.v, Ex.s, Ex.l, V.zero, List.length_cons, List.length_nil] at q0 q1 q2 q3 q4 q5 HW ⊢
   rcases hop3 with hop | hop | ⟨hop, hna, hno⟩
   ·have hu : upperB op = [65, 78, 68] := by rw [hop]; rfl
    rw [hu]
    have o5 : (op == [97, 110, 100]) = true := by rw [hop]; rfl
    clear hop hu hul
    go_in
    go_upto_region 1 with fail
    rw [show w.alloc _ = w0 from HW.out]
    clear HW
    go_wp2_with fail
    refine rgn HSX fun hHeld => ?_
    refine tS [0, 1, 2, 3, 7, 8, 9, 10] ?_
    iterate 8 (refine tC ?_; refine ap ?_)
    refine tN ?_
    refine rdy 4 fun K hK => ?_
    go_simp
    (refine (HC.out _ (by exact bl)).mono ?_) <;> rintro en w4 ⟨rfl, hb4⟩ <;> have hz4 := hb4.size <;> (try simp at hz4)
    go_wp2_with fail
    refine hK.out _ _ (HSX.out _ (by exact bl)) fun hHeld => ?_
    clear hK K
    refine ap ?_
    refine tS [5, 6] ?_
    iterate 2 (refine tC ?_; refine ap ?_)
    refine tN ?_
    refine rdy 11 fun K hK => ?_
    go_simp
    (refine (HC2.out _ (by exact bl)).mono ?_) <;> rintro en w11 ⟨rfl, hb11⟩ <;> have hz11 := hb11.size <;> (try simp at hz11)
    go_wp2_with fail
    refine hK.out _ _ (HSX.out _ (by exact bl)) fun hHeld => ?_
    clear hK K
    refine ap ?_
    refine tS [12, 13, 14] ?_
    iterate 3 (refine tC ?_; refine ap ?_)
    refine tN ?_
    refine wpAnyH_done (by kernel_rfl) ?_ _
    have hbL : Below w0.heap.size w0 w11 := by exact bl
    go_wp2_with fail
    go_ret
    exact ⟨by simp, (HBW.out _ hbL).1⟩
   ·have hu : upperB op = [79, 82] := by rw [hop]; rfl
    rw [hu]
    have o5 : (op == [97, 110, 100]) = false := by rw [hop]; rfl
    have o6 : (op == [111, 114]) = true := by rw [hop]; rfl
    clear hop hu hul
    go_in
    go_upto_region 1 with fail
    rw [show w.alloc _ = w0 from HW.out]
    clear HW
    go_wp2_with fail
    refine rgn HSX fun hHeld => ?_
    refine tS [0, 1, 2, 3, 7, 8, 9, 10] ?_
    iterate 8 (refine tC ?_; refine ap ?_)
    refine tN ?_
    refine rdy 4 fun K hK => ?_
    go_simp
    (refine (HC.out _ (by exact bl)).mono ?_) <;> rintro en w4 ⟨rfl, hb4⟩ <;> have hz4 := hb4.size <;> (try simp at hz4)
    go_wp2_with fail
    refine hK.out _ _ (HSX.out _ (by exact bl)) fun hHeld => ?_
    clear hK K
    refine ap ?_
    refine tS [5, 6] ?_
    iterate 2 (refine tC ?_; refine ap ?_)
    refine tN ?_
    refine rdy 11 fun K hK => ?_
    go_simp
    (refine (HC2.out _ (by exact bl)).mono ?_) <;> rintro en w11 ⟨rfl, hb11⟩ <;> have hz11 := hb11.size <;> (try simp at hz11)
    go_wp2_with fail
    refine hK.out _ _ (HSX.out _ (by exact bl)) fun hHeld => ?_
    clear hK K
    refine ap ?_
    refine tS [12, 13, 14] ?_
    iterate 3 (refine tC ?_; refine ap ?_)
    refine tN ?_
    refine wpAnyH_done (by kernel_rfl) ?_ _
    have hbL : Below w0.heap.size w0 w11 := by exact bl
    go_wp2_with fail
    go_ret
    exact ⟨by simp, (HBW.out _ hbL).1⟩
   ·rw [hop]
    have o5 : (op == [97, 110, 100]) = false := by rw [beq_eq_false_iff_ne]; exact hna
    have o6 : (op == [111, 114]) = false := by rw [beq_eq_false_iff_ne]; exact hno
    clear hop hul hna hno
    go_in
    go_upto_region 1 with fail
    rw [show w.alloc _ = w0 from HW.out]
    clear HW
    go_wp2_with fail
    refine rgn HSX fun hHeld => ?_
    refine tS [0, 1, 2, 3, 7, 8, 11, 12, 13, 14] ?_
    iterate 10 (refine tC ?_; refine ap ?_)
    refine tN ?_
    refine rdy 4 fun K hK => ?_
    go_simp
    (refine (HC.out _ (by exact bl)).mono ?_) <;> rintro en w4 ⟨rfl, hb4⟩ <;> have hz4 := hb4.size <;> (try simp at hz4)
    go_wp2_with fail
    refine hK.out _ _ (HSX.out _ (by exact bl)) fun hHeld => ?_
    clear hK K
    refine ap ?_
    refine tS [5, 6, 9, 10] ?_
    iterate 4 (refine tC ?_; refine ap ?_)
    refine tN ?_
    refine rdy 15 fun K hK => ?_
    go_simp
    (refine (HC2.out _ (by exact bl)).mono ?_) <;> rintro en w15 ⟨rfl, hb15⟩ <;> have hz15 := hb15.size <;> (try simp at hz15)
    go_wp2_with fail
    refine hK.out _ _ (HSX.out _ (by exact bl)) fun hHeld => ?_
    clear hK K
    refine ap ?_
    refine tS [16, 17, 18] ?_
    iterate 3 (refine tC ?_; refine ap ?_)
    refine tN ?_
    refine wpAnyH_done (by kernel_rfl) ?_ _
    have hbL : Below w0.heap.size w0 w15 := by exact bl
    go_wp2_with fail
    go_ret
    exact ⟨by simp, (HBW.out _ hbL).1⟩
def wWhere : List UInt8 := [87, 72, 69, 82, 69]
def condT (e : Ex) (word : List UInt8) : List UInt8 := if mayX e = true then (if word = wWhere then [32, 87, 72, 69, 82, 69, 32] ++ textX e else word ++ [32, 67, 72, 69, 67, 75, 32, 40, 32] ++ textX e ++ [32, 41]) else []
theorem may_op {e : Ex} (h : mayX e = true) : ¬ e.op = [] := by
 intro h0
 have h1 := may_formE h
 rcases form_cases h1 with ⟨he, _⟩ | ⟨he, _, _⟩ | ⟨a, rfl, _⟩ | ⟨a, rfl, _⟩ | ⟨op, a, b, rfl, ho, _, _⟩
 ·rw [he] at h0; cases h0
 ·rw [he] at h0; cases h0
 ·cases h0
 ·cases h0
 ·have h0 : op = [] := h0
  subst h0
  rw [twoB_iff] at ho
  rcases ho with h | h | h | h | h | h <;> cases h
theorem none_op {e : Ex} (h : noneE e = true) : e.op = [] := by
 unfold noneE at h
 simp only [Bool.and_eq_true, List.isEmpty_iff] at h
 exact h.1.1.1
theorem none_may {e : Ex} (h : noneE e = true) : mayX e = false := by
 cases hm : mayX e
 ·rfl
 ·exact absurd (none_op h) (may_op hm)
theorem same0_none (e : Ex) : same0 e = noneE e := by
 unfold same0 noneE
 obtain ⟨op, v, s, l⟩ := e
 cases op <;> cases s <;> cases l <;> simp [Ex.op, Ex.v, Ex.s, Ex.l]
theorem textX_lt {e : Ex} (h : mayX e = true) (hf : fitE 13 e) : (textX e).length ≤ 1000000 := textN_lt (Nat.le_refl _) (form_up 12 e (mayX_form h)) hf
theorem rcond_any (e : Ex) (word : List UInt8) (A : Option Addr) (c m : Nat) (w : World) (hf : e.fit 1000) (hfe : fitE 13 e) (hE : ExS 1000 m w w.heap.size A e.l) (hl : e.l.length ≤ maxLen) (hw : word.length ≤ 1000) :
  Calls Tryz.prog 108 #[.agg (e.cells A c).toArray, .string ⟨word.toArray⟩] w (Ret (.tuple #[.string ⟨(condT e word).toArray⟩, .bool (perhapsE e)]) w) := by
 refine exBox_in e A c w fun w0 hw0 kq0 hb0 hz0 HSH HW HB => ?_
 obtain ⟨q0, q1, q2, q3, q4, q5⟩ := HSH.out w0 (Below.refl _ _)
 have hEY : ∀ Y : World, Below w0.heap.size w0 Y → ExS 1000 m Y Y.heap.size A e.l := fun Y hY => (hE.below m (hb0.trans (hY.mono hz0))).more (Nat.le_trans hz0 hY.size) m
 have HSM : Hid (∀ Y : World, Below w0.heap.size w0 Y → Calls Tryz.prog 56 #[.agg (e.cells A c).toArray, .agg #[.string ⟨#[]⟩, .int .i64 0, .int .i64 0, .string ⟨#[]⟩, .string ⟨#[]⟩, .slice none 0 0]] Y (Ret (.bool (noneE e)) Y)) := fun Y hY => by
  have := same4_any m e ex0 A none c 0 Y hl (hEY Y hY) (ExS.nil m)
  rw [sameE_0, same0_none] at this
  exact this
 have HMY : Hid (∀ Y : World, Below w0.heap.size w0 Y → Calls Tryz.prog 112 #[.agg (e.cells A c).toArray] Y (Ret (.bool (mayX e)) Y)) := fun Y hY => may4_any m e A c Y hf (hEY Y hY)
 have HTX : Hid (mayX e = true → ∀ Y : World, Below w0.heap.size w0 Y → Calls Tryz.prog 113 #[.agg (e.cells A c).toArray] Y (Ret (.string ⟨(textX e).toArray⟩) Y)) := fun hm Y hY =>
  rextext_any 0 13 e A c m Y (by omega) (Nat.zero_le _) (form_up 12 e (mayX_form hm)) hfe hf (hEY Y hY)
 have hln : mayX e = true → (textX e).length ≤ 1000000 := fun hm => textX_lt hm hfe
 obtain ⟨R, hR⟩ : ∃ R, condT e word = R := ⟨_, rfl⟩
 obtain ⟨P, hP⟩ : ∃ P, perhapsE e = P := ⟨_, rfl⟩
 rw [hR, hP]
 unfold condT at hR
 unfold perhapsE at hP
 by_cases ho : e.op = []
 ·have hm : mayX e = false := by
   cases hm : mayX e
   ·rfl
   ·exact absurd ho (may_op hm)
  rw [hm] at hR hP
  rw [if_neg (by decide)] at hR
  rw [Bool.or_false] at hP
  rw [hP] at HSM
  subst hR
  clear hw0 kq0 hb0 hE hf hfe hP HMY HTX hln hm hEY hl
  dsimp only [Ex.cells] at HW HSM ⊢
  have o1 : (e.op == []) = true := by rw [ho]; rfl
  have HO := Lib.hid ho
  clear ho
  go_in
  go_upto_region 1 with fail
  rw [show w.alloc _ = w0 from HW.out]
  clear HW
  have HC := Lib.hid (HSM.out w0 (Below.refl _ _))
  go_wp2_with fail
  refine HC.out.mono ?_
  rintro en w1 ⟨rfl, hb1⟩
  go_wp2_with fail
  refine bodyPost_ret (v := .tuple #[.string ⟨#[]⟩, .bool P]) (by simp [results, Tryz.results108, go_sem, *]) rfl ?_
  exact ⟨rfl, HB.out.trans (hb1.mono hz0)⟩
 ·have o1 : (e.op == []) = false := by rw [beq_eq_false_iff_ne]; exact ho
  have hn : noneE e = false := by
   cases hn : noneE e
   ·rfl
   ·exact absurd (none_op hn) ho
  rw [hn, Bool.false_or] at hP
  obtain ⟨M, hM⟩ : ∃ M, mayX e = M := ⟨_, rfl⟩
  obtain ⟨T, hT⟩ : ∃ T, textX e = T := ⟨_, rfl⟩
  rw [hM] at HMY HTX hln hR hP
  rw [hT] at HTX hln hR
  subst hP
  have HO := Lib.hid ho
  clear hw0 kq0 hb0 hE hf hfe hM hT hn hEY hl ho HSM
  dsimp only [Ex.cells] at HW HMY HTX ⊢
  have HC := Lib.hid (HMY.out w0 (Below.refl _ _))
  cases M with
  | false =>
   rw [if_neg (by decide)] at hR
   subst hR
   clear hln
   go_in
   go_upto_region 1 with fail
   rw [show w.alloc _ = w0 from HW.out]
   clear HW
   go_wp2_with fail
   refine HC.out.mono ?_
   rintro en w1 ⟨rfl, hb1⟩
   go_wp2_with fail
   refine bodyPost_ret (v := .tuple #[.string ⟨#[]⟩, .bool false]) (by simp [results, Tryz.results108, go_sem, *]) rfl ?_
   exact ⟨rfl, HB.out.trans (hb1.mono hz0)⟩
  | true =>
   rw [if_pos rfl] at hR
   have hln := hln rfl
   by_cases h1 : word = wWhere
   ·rw [if_pos h1] at hR
    have e1 : (word == [87, 72, 69, 82, 69]) = true := by rw [h1]; rfl
    have HR := Lib.hid hR
    clear hR h1
    go_in
    go_upto_region 1 with fail
    rw [show w.alloc _ = w0 from HW.out]
    clear HW
    go_wp2_with fail
    refine HC.out.mono ?_
    rintro en w1 ⟨rfl, hb1⟩
    clear q0 q1 q2 q3 q4 q5
    obtain ⟨q0, q1, q2, q3, q4, q5⟩ := HSH.out w1 hb1
    have HC2 := Lib.hid (HTX.out trivial w1 hb1)
    have hz1 := hb1.size
    go_wp2_with fail
    refine HC2.out.mono ?_
    rintro en w2 ⟨rfl, hb2⟩
    go_wp2_with fail
    refine bodyPost_ret (v := .tuple #[.string ⟨([32, 87, 72, 69, 82, 69, 32] ++ T).toArray⟩, .bool true]) (by simp [results, Tryz.results108, go_sem, *]) rfl ?_
    exact ⟨by rw [HR.out], HB.out.trans ((hb1.trans (hb2.mono hz1)).mono hz0)⟩
   ·rw [if_neg h1] at hR
    have e1 : (word == [87, 72, 69, 82, 69]) = false := by rw [beq_eq_false_iff_ne]; exact h1
    have HR := Lib.hid hR
    clear hR h1
    go_in
    go_upto_region 1 with fail
    rw [show w.alloc _ = w0 from HW.out]
    clear HW
    go_wp2_with fail
    refine HC.out.mono ?_
    rintro en w1 ⟨rfl, hb1⟩
    clear q0 q1 q2 q3 q4 q5
    obtain ⟨q0, q1, q2, q3, q4, q5⟩ := HSH.out w1 hb1
    have HC2 := Lib.hid (HTX.out trivial w1 hb1)
    have hz1 := hb1.size
    go_wp2_with fail
    refine HC2.out.mono ?_
    rintro en w2 ⟨rfl, hb2⟩
    go_wp2_with fail
    refine bodyPost_ret (v := .tuple #[.string ⟨(word ++ [32, 67, 72, 69, 67, 75, 32, 40, 32] ++ T ++ [32, 41]).toArray⟩, .bool true]) (by simp [results, Tryz.results108, go_sem, *]) rfl ?_
    exact ⟨by rw [HR.out], HB.out.trans ((hb1.trans (hb2.mono hz1)).mono hz0)⟩
theorem But.join {p : Nat} {a w w' : World} (h : But p a w) (hb : Below a.heap.size w w') : But p a w' :=
 ⟨hb.os.trans h.os, hb.tape.trans h.tape, hb.output.trans h.output, Nat.le_trans h.size hb.size, fun i hi hp => (hb.block i hi).trans (h.block i hi hp)⟩
theorem rdcond_none (l : List Tok) (A : Option Addr) (c a g : Nat) (ok : Bool) (s : List UInt8) (w : World) (hl : l.length ≤ 1000000) (ha : a ≤ l.length) (h : RdS g A c l a ok w) (hs : seeT l a s = false) :
  Calls Tryz.prog 126 #[.pointer (some ⟨g, 0, none⟩), .string ⟨s.toArray⟩] w (RetRd (.returned (.agg #[.string ⟨#[]⟩, .int .i64 0, .int .i64 0, .string ⟨#[]⟩, .string ⟨#[]⟩, .slice none 0 0])) g A c l a ok w) := by
 have lg := Blk.lt h.1
 have HPS : Hid (∀ Z : World, Below w.heap.size w Z → Calls Tryz.prog 120 #[.pointer (some ⟨g, 0, none⟩), .string ⟨s.toArray⟩] Z (RetRd (.returned (.bool false)) g A c l a ok Z)) := by
  intro Z hz
  have := rpass_any l A c a g ok s Z hl ha (h.but hz)
  rw [hs] at this
  exact this
 clear h hs
 go_in
 go_wp2_with (go_at_call 120; refine (HPS.out _ (by exact bl)).mono ?_; rintro e w1 ⟨rfl, hP1, hb1⟩; have hz1 := hb1.size; (try simp at hz1); have k1 : Blk w1 w.heap.size 30 #[.string ⟨#[]⟩, .int .i64 0, .int .i64 0, .string ⟨#[]⟩, .string ⟨#[]⟩, .slice none 0 0] := hb1.blk (Blk.new _ _ _) (by omega); have c0 := k1.cell 0; have c1 := k1.cell 1; have c2 := k1.cell 2; have c3 := k1.cell 3; have c4 := k1.cell 4; have c5 := k1.cell 5; have f0 := k1.frozen 0; have f1 := k1.frozen 1; have f2 := k1.frozen 2; have f3 := k1.frozen 3; have f4 := k1.frozen 4; have f5 := k1.frozen 5)
 refine bodyPost_ret (v := .agg #[.string ⟨#[]⟩, .int .i64 0, .int .i64 0, .string ⟨#[]⟩, .string ⟨#[]⟩, .slice none 0 0]) (by simp [results, Tryz.results126, go_sem, *]) rfl ?_
 have hbA : Below w.heap.size w (w.alloc (.cells #[.string ⟨#[]⟩, .int .i64 0, .int .i64 0, .string ⟨#[]⟩, .string ⟨#[]⟩, .slice none 0 0] 30)) := by exact bl
 refine ⟨rfl, ⟨Blk.below (B := w.heap.size) hP1.1 ?_ lg, hP1.2.below (Below.mono (B := w.heap.size) ?_ (Nat.le_of_lt lg))⟩, ((But.of_below hbA).trans hb1).join ?_⟩
 all_goals ((with_reducible repeat' (first | exact bwR | assumption | refine bwD ?_ | refine bwN ?_ | refine bwS ?_ ?_ | refine bwA ?_ ?_ | refine bwT ?_ (by assumption) ?_)) <;> first | (simp; done) | (simp; omega) | omega)
def But2 (p q : Nat) (w w' : World) : Prop := w'.os = w.os ∧ w'.tape = w.tape ∧ w'.output = w.output ∧ w.heap.size ≤ w'.heap.size ∧ ∀ i, i < w.heap.size → i ≠ p → i ≠ q → w'.heap[i]? = w.heap[i]?
def RetRight (g sb : Nat) (A : Option Addr) (c : Nat) (l : List Tok) (a : Nat) (ok : Bool) (cs : Array Value) (w : World) (e : Ending) (w' : World) : Prop := e = .returned (.tuple #[]) ∧ RdS g A c l a ok w' ∧ Blk w' sb 34 cs ∧ But2 g sb w w'
theorem rdright_any (l : List Tok) (A : Option Addr) (c a g sb : Nat) (ok : Bool) (s : St) (p : StP) (word t r : List UInt8) (w : World) (hl : l.length ≤ 1000) (ha : a + 5 ≤ l.length) (h : RdS g A c l a ok w) (hs : g < sb) (ks : Blk w sb 34 (s.cells p).toArray)
  (h1 : seeT l a [82, 69, 65, 68] = true) (h2 : seeT l (a + 1) [79, 78] = true) (h3 : rnameT l (a + 2) = some t) (h4 : seeT l (a + 3) word = true) (h5 : rnameT l (a + 4) = some r) :
  Calls Tryz.prog 128 #[.pointer (some ⟨g, 0, none⟩), .pointer (some ⟨sb, 0, none⟩), .string ⟨word.toArray⟩] w
   (RetRight g sb A c l (a + 5) ok (({ s with tb := t, role := r } : St).cells p).toArray w) := by
 have hp1 := rpass_any l A c a g ok [82, 69, 65, 68] w (by omega) (by omega) h
 rw [h1] at hp1
 go_in
 go_wp2_with (go_at_call 120; refine hp1.mono ?_; rintro e w1 ⟨rfl, hP1, hb1⟩)
 have k1 := hb1.blk ks (by omega)
 have hm2 := rmust_any l A c (a + 1) g ok [79, 78] w1 (by omega) (by omega) hP1
 rw [h2] at hm2
 refine hm2.mono ?_
 rintro e w2 ⟨rfl, hP2, hb2⟩
 have k2 := hb2.blk k1 (by omega)
 go_wp2_with fail
 have hm3 := rdname_any l A c (a + 2) g (ok && true) w2 (by omega) hP2
 rw [h3] at hm3
 refine hm3.mono ?_
 rintro e w3 ⟨rfl, hP3, hb3⟩
 have k3 := hb3.blk k2 (by omega)
 have x1 := k3.cell 1
 have f1 := k3.frozen 1
 go_wp2_with fail
 obtain ⟨w4, hw4⟩ : ∃ w4, w3.setCell ⟨sb, 1, none⟩ (.string ⟨t.toArray⟩) = w4 := ⟨_, rfl⟩
 rw [hw4]
 have hd4 : Below sb w3 w4 := by rw [← hw4]; exact bwS bwR (Nat.le_refl _)
 have hb4 : But sb w3 w4 := by rw [← hw4]; exact (But.refl _ _).set 1 _
 have k4 : Blk w4 sb 34 (({ s with tb := t } : St).cells p).toArray := by rw [← hw4]; exact k3.set_ 1 _
 have hP4 : RdS g A c l (a + 3) (ok && true && true) w4 := ⟨Blk.below hP3.1 hd4 hs, hP3.2.below (hd4.mono (Nat.le_of_lt hs))⟩
 clear hw4 x1 f1
 have hm5 := rmust_any l A c (a + 3) g (ok && true && true) word w4 (by omega) (by omega) hP4
 rw [h4] at hm5
 refine hm5.mono ?_
 rintro e w5 ⟨rfl, hP5, hb5⟩
 have k5 := hb5.blk k4 (by omega)
 go_wp2_with fail
 have hm6 := rdname_any l A c (a + 4) g (ok && true && true && true) w5 (by omega) hP5
 rw [h5] at hm6
 refine hm6.mono ?_
 rintro e w6 ⟨rfl, hP6, hb6⟩
 have k6 := hb6.blk k5 (by omega)
 have x1 := k6.cell 22
 have f1 := k6.frozen 22
 go_wp2_with fail
 refine bodyPost_ret (v := .tuple #[]) (by simp [results, Tryz.results128, go_sem, *]) rfl ?_
 have hd7 : Below sb w6 (w6.setCell ⟨sb, 22, none⟩ (.string ⟨r.toArray⟩)) := bwS bwR (Nat.le_refl _)
 have hb7 : But sb w6 (w6.setCell ⟨sb, 22, none⟩ (.string ⟨r.toArray⟩)) := (But.refl _ _).set 22 _
 have e6 : (ok && true && true && true && true) = ok := by simp
 have hP7 : RdS g A c l (a + 5) ok w6 := e6 ▸ hP6
 refine ⟨rfl, ⟨Blk.below hP7.1 hd7 hs, hP7.2.below (hd7.mono (Nat.le_of_lt hs))⟩, k6.set_ 22 _, ?_⟩
 have ha1 := (hb1.trans hb2).trans hb3
 have ha2 := hb5.trans hb6
 exact ⟨hb7.os.trans (ha2.os.trans (hb4.os.trans ha1.os)), hb7.tape.trans (ha2.tape.trans (hb4.tape.trans ha1.tape)), hb7.output.trans (ha2.output.trans (hb4.output.trans ha1.output)),
  Nat.le_trans ha1.size (Nat.le_trans hb4.size (Nat.le_trans ha2.size hb7.size)),
  fun i hi hg hq => (hb7.block i (by have := ha1.size; have := hb4.size; have := ha2.size; omega) hq).trans ((ha2.block i (by have := ha1.size; have := hb4.size; omega) hg).trans ((hb4.block i (by have := ha1.size; omega) hq).trans (ha1.block i hi hg)))⟩
end Go.Proofs.YtchilcchogcibaaGreatDoor
