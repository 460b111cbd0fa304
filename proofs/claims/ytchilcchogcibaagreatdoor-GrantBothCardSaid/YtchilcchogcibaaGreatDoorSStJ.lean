/- The document's Text of an expression as a plain function; The closure of text at what an UPDATE sets, and stmt.created, as plain functions. -/
import Derived.Test.YtchilcchogcibaaGreatDoorSExText
import Derived.Test.YtchilcchogcibaaGreatDoorSGr3
import Derived.Test.YtchilcchogcibaaGreatDoorSGrR2
import Derived.Test.YtchilcchogcibaaGreatDoorSLex1
import Derived.Test.YtchilcchogcibaaGreatDoorSRef1Text
import Derived.Test.YtchilcchogcibaaGreatDoorSStF
namespace Go.Proofs.YtchilcchogcibaaGreatDoor
open Go.RowKit
attribute [local go_sem] ByteArray.extract_mk ba_get ba_append
attribute [local go_sem ↓] Go.wp_at_zero Go.wp_at_succ
set_option maxRecDepth 100000 in
set_option maxHeartbeats 8000000 in
theorem rextext_any (B : Nat) : ∀ (n : Nat) (e : Ex) (A : Option Addr) (c m : Nat) (w : World), n ≤ 13 → B ≤ w.heap.size → formE n e = true → fitE n e → e.fit 1000 → ExS 1000 m w w.heap.size A e.l →
  Calls Tryz.prog 113 #[.agg (e.cells A c).toArray] w (Ret (.string ⟨(textN n e).toArray⟩) w) := by
 intro n
 induction n with
 | zero => intro e A c m w _ _ h; simp [formE] at h
 | succ n ih =>
  intro e A c m w hn hB h hf hft hE
  obtain ⟨w0, hw0⟩ : ∃ w0, w.alloc (.cells (e.cells A c).toArray 30) = w0 := ⟨_, rfl⟩
  have kq0 : Blk w0 w.heap.size 30 (e.cells A c).toArray := by rw [← hw0]; exact Blk.new _ _ _
  have hb0 : Below w.heap.size w w0 := by rw [← hw0]; exact bl
  have hz0 := hb0.size
  have HSH : Hid (∀ w' : World, Below w0.heap.size w0 w' → (w'.cell? ⟨w.heap.size, 0, none⟩ = some (.string ⟨e.op.toArray⟩) ∧ w'.cell? ⟨w.heap.size, 1, none⟩ = some (.int .i64 e.v.k) ∧ w'.cell? ⟨w.heap.size, 2, none⟩ = some (.int .i64 e.v.i) ∧ w'.cell? ⟨w.heap.size, 3, none⟩ = some (.string ⟨e.v.s.toArray⟩) ∧ w'.cell? ⟨w.heap.size, 4, none⟩ = some (.string ⟨e.s.toArray⟩) ∧ w'.cell? ⟨w.heap.size, 5, none⟩ = some (.slice A e.l.length c))) := fun w' h => (kq0.below h kq0.lt).six
  have HE : Hid (∀ Y : World, Below w0.heap.size w0 Y → ExS 1000 m Y Y.heap.size A e.l) := fun Y h => ((hE.below m (hb0.trans (h.mono hz0)))).more (Nat.le_trans hz0 h.size) m
  have HW := Lib.hid hw0
  have HBW : Hid (∀ Y : World, Below w0.heap.size w0 Y → Below w.heap.size w Y ∧ B ≤ Y.heap.size) := fun Y h => ⟨hb0.trans (h.mono hz0), Nat.le_trans hB (Nat.le_trans hz0 h.size)⟩
  have HIH : Hid (∀ (x : Ex) (A' : Option Addr) (c' m : Nat) (Y : World), B ≤ Y.heap.size → formE n x = true → fitE n x → x.fit 1000 → ExS 1000 m Y Y.heap.size A' x.l → Calls Tryz.prog 113 #[.agg #[.string ⟨x.op.toArray⟩, .int .i64 x.v.k, .int .i64 x.v.i, .string ⟨x.v.s.toArray⟩, .string ⟨x.s.toArray⟩, .slice A' x.l.length c']] Y (Ret (.string ⟨(textN n x).toArray⟩) Y)) := fun x A' c' m Y h1 h2 h3 h4 h5 => ih x A' c' m Y (by omega) h1 h2 h3 h4 h5
  clear ih hw0 hE kq0 hb0 hz0
  obtain ⟨q0, q1, q2, q3, q4, q5⟩ := HSH.out w0 (Below.refl _ _)
  rcases form_cases h with ⟨he, hm⟩ | ⟨he, hnm, _⟩ | ⟨a, rfl, ha⟩ | ⟨a, rfl, ha⟩ | ⟨op, a, b, rfl, ho, ha, hb⟩
  ·have ho : e.op = opLit := by rw [he]; rfl
   have ht : textN (n + 1) e = textF e.v.k e.v.i e.v.s := by rw [he]; rfl
   have hfv := fitE_v hf
   have HFS : Hid (e.v.s.length ≤ 1000) := hft.2.2.2
   have HT := Lib.hid (rtext_any e.v.k e.v.i e.v.s w0 hfv.1 hfv.2 (by have := HFS.out; omega))
   rw [ht]
   have o1 : (e.op == [108, 105, 116]) = true := by rw [ho]; rfl
   obtain ⟨T, hT⟩ : ∃ T, textF e.v.k e.v.i e.v.s = T := ⟨_, rfl⟩
   rw [hT] at HT ⊢
   clear ht hT he hm h hf ho
   go_enter Tryz.func113, Tryz.ntmps113
   go_upto_region 1 with fail
   rw [show w.alloc _ = w0 from HW.out]
   clear HW
   go_wp2_with fail
   refine HT.out.mono ?_
   rintro en w1 ⟨rfl, hb1⟩
   go_wp2_with fail
   go_ret
   exact ⟨rfl, (HBW.out w1 hb1).1⟩
  ·have ho : e.op = opCol := by rw [he]; rfl
   have ht : textN (n + 1) e = e.s := by rw [he]; rfl
   rw [ht]
   have o1 : (e.op == [108, 105, 116]) = false := by rw [ho]; rfl
   have o2 : (e.op == [99, 111, 108]) = true := by rw [ho]; rfl
   clear ht he hnm h hf ho
   go_enter Tryz.func113, Tryz.ntmps113
   go_upto_region 1 with fail
   rw [show w.alloc _ = w0 from HW.out]
   clear HW
   go_wp2_with fail
   go_ret
   exact ⟨rfl, (HBW.out w0 (Below.refl _ _)).1⟩
  ·have hfa := hf.2 a (by simp [Ex.l])
   obtain ⟨m1, b1, o1', x, A', c', rfl, rfl, hbB, _, hgd, hfx, hxc, hxm, ⟨c0, c1, c2, c3, c4, c5⟩, hx⟩ := six0 (HE.out w0 (Below.refl _ _)) (j := 0) (by simp [Ex.l])
   obtain rfl : a = x := hgd
   have hln := textN_lt (by omega) ha hfa
   have HC := Lib.hid (HIH.out a A' c' m1 w0 (HBW.out w0 (Below.refl _ _)).2 ha hfa hfx hx)
   have ht : textN (n + 1) (.mk opNot V.zero [] [a]) = ([40, 78, 79, 84, 32] ++ textN n a) ++ [41] := rfl
   rw [ht]
   obtain ⟨T, hT⟩ : ∃ T, textN n a = T := ⟨_, rfl⟩
   rw [hT] at HC hln ⊢
   simp only [Nat.zero_mul, Nat.add_zero] at c0 c1 c2 c3 c4 c5
   clear ht hT h hf ha hfa hfx hx
   dsimp only [Ex.cells, Ex.op, Ex.v, Ex.s, Ex.l, V.zero, List.length_cons, List.length_nil] at q0 q1 q2 q3 q4 q5 HW ⊢
   go_enter Tryz.func113, Tryz.ntmps113
   go_upto_region 1 with fail
   rw [show w.alloc _ = w0 from HW.out]
   clear HW
   go_wp2_with fail
   refine HC.out.mono ?_
   rintro en w1 ⟨rfl, hb1⟩
   go_wp2_with fail
   go_ret
   exact ⟨by simp, (HBW.out w1 hb1).1⟩
  ·have hfa := hf.2 a (by simp [Ex.l])
   obtain ⟨m1, b1, o1', x, A', c', rfl, rfl, hbB, _, hgd, hfx, hxc, hxm, ⟨c0, c1, c2, c3, c4, c5⟩, hx⟩ := six0 (HE.out w0 (Below.refl _ _)) (j := 0) (by simp [Ex.l])
   obtain rfl : a = x := hgd
   have hln := textN_lt (by omega) ha hfa
   have HC := Lib.hid (HIH.out a A' c' m1 w0 (HBW.out w0 (Below.refl _ _)).2 ha hfa hfx hx)
   have ht : textN (n + 1) (.mk opNull V.zero [] [a]) = ([40] ++ textN n a) ++ [32, 73, 83, 32, 78, 85, 76, 76, 41] := rfl
   rw [ht]
   obtain ⟨T, hT⟩ : ∃ T, textN n a = T := ⟨_, rfl⟩
   rw [hT] at HC hln ⊢
   simp only [Nat.zero_mul, Nat.add_zero] at c0 c1 c2 c3 c4 c5
   clear ht hT h hf ha hfa hfx hx
   dsimp only [Ex.cells, Ex.op, Ex.v, Ex.s, Ex.l, V.zero, List.length_cons, List.length_nil, opNull] at q0 q1 q2 q3 q4 q5 HW ⊢
   go_enter Tryz.func113, Tryz.ntmps113
   go_upto_region 1 with fail
   rw [show w.alloc _ = w0 from HW.out]
   clear HW
   go_wp2_with fail
   refine HC.out.mono ?_
   rintro en w1 ⟨rfl, hb1⟩
   go_wp2_with fail
   go_ret
   exact ⟨by simp, (HBW.out w1 hb1).1⟩
  ·have hfa := hf.2 a (by simp [Ex.l])
   have hfb := hf.2 b (by simp [Ex.l])
   obtain ⟨m1, b1, o1', x, A', c', rfl, rfl, hbB, _, hgd, hfx, hxc, hxm, ⟨c0, c1, c2, c3, c4, c5⟩, hx⟩ := six0 (HE.out w0 (Below.refl _ _)) (j := 0) (by simp [Ex.l])
   obtain rfl : a = x := hgd
   obtain ⟨m2, b2, o2', y, A2, c2', e1, e2, hbB2, _, hgd2, hfy, hyc, hym, ⟨d0, d1, d2, d3, d4, d5⟩, hy⟩ := six0 (HE.out w0 (Below.refl _ _)) (j := 1) (by simp [Ex.l])
   obtain rfl : b = y := hgd2
   obtain rfl : m1 = m2 := by omega
   obtain ⟨rfl, rfl⟩ : b1 = b2 ∧ o1' = o2' := by injection e2 with e; injection e with e1 e3; exact ⟨e1, e3⟩
   have hln := textN_lt (by omega) ha hfa
   have hln2 := textN_lt (by omega) hb hfb
   obtain ⟨n1, n2, n3, n4⟩ := twoB_ne ho
   obtain ⟨u1, u2⟩ := twoB_len ho
   have HC : Hid (∀ Y : World, Below w0.heap.size w0 Y → Calls Tryz.prog 113 #[.agg #[.string ⟨a.op.toArray⟩, .int .i64 a.v.k, .int .i64 a.v.i, .string ⟨a.v.s.toArray⟩, .string ⟨a.s.toArray⟩, .slice A' a.l.length c']] Y (Ret (.string ⟨(textN n a).toArray⟩) Y)) := fun Y hY => HIH.out a A' c' m1 Y (HBW.out Y hY).2 ha hfa hfx ((hx.below m1 hY).more hY.size m1)
   have HC2 : Hid (∀ Y : World, Below w0.heap.size w0 Y → Calls Tryz.prog 113 #[.agg #[.string ⟨b.op.toArray⟩, .int .i64 b.v.k, .int .i64 b.v.i, .string ⟨b.v.s.toArray⟩, .string ⟨b.s.toArray⟩, .slice A2 b.l.length c2']] Y (Ret (.string ⟨(textN n b).toArray⟩) Y)) := fun Y hY => HIH.out b A2 c2' m1 Y (HBW.out Y hY).2 hb hfb hfy ((hy.below m1 hY).more hY.size m1)
   rw [textN_two n1 n2 n3 n4]
   have hul : (upperB op).length ≤ 3 := by rw [upper_len]; exact u1
   obtain ⟨T, hT⟩ : ∃ T, textN n a = T := ⟨_, rfl⟩
   obtain ⟨T2, hT2⟩ : ∃ T, textN n b = T := ⟨_, rfl⟩
   rw [hT] at HC hln ⊢
   rw [hT2] at HC2 hln2 ⊢
   simp only [Nat.zero_mul, Nat.one_mul, Nat.add_zero] at c0 c1 c2 c3 c4 c5 d0 d1 d2 d3 d4 d5
   have o1 : (op == [108, 105, 116]) = false := by rw [beq_eq_false_iff_ne]; exact n1
   have o2 : (op == [99, 111, 108]) = false := by rw [beq_eq_false_iff_ne]; exact n2
   have o3 : (op == [110, 111, 116]) = false := by rw [beq_eq_false_iff_ne]; exact n3
   have o4 : (op == [110, 117, 108, 108]) = false := by rw [beq_eq_false_iff_ne]; exact n4
   have HSX : Hid (∀ Y : World, Below w0.heap.size w0 Y → (Y.cell? ⟨w.heap.size, 0, none⟩ = some (.string ⟨op.toArray⟩) ∧ Y.cell? ⟨w.heap.size, 5, none⟩ = some (.slice (some ⟨b1, o1', none⟩) 2 c)) ∧ (Y.cell? ⟨b1, o1', none⟩ = some (.string ⟨a.op.toArray⟩) ∧ Y.cell? ⟨b1, o1' + 1, none⟩ = some (.int .i64 a.v.k) ∧ Y.cell? ⟨b1, o1' + 2, none⟩ = some (.int .i64 a.v.i) ∧ Y.cell? ⟨b1, o1' + 3, none⟩ = some (.string ⟨a.v.s.toArray⟩) ∧ Y.cell? ⟨b1, o1' + 4, none⟩ = some (.string ⟨a.s.toArray⟩) ∧ Y.cell? ⟨b1, o1' + 5, none⟩ = some (.slice A' a.l.length c')) ∧ (Y.cell? ⟨b1, o1' + 6, none⟩ = some (.string ⟨b.op.toArray⟩) ∧ Y.cell? ⟨b1, o1' + 6 + 1, none⟩ = some (.int .i64 b.v.k) ∧ Y.cell? ⟨b1, o1' + 6 + 2, none⟩ = some (.int .i64 b.v.i) ∧ Y.cell? ⟨b1, o1' + 6 + 3, none⟩ = some (.string ⟨b.v.s.toArray⟩) ∧ Y.cell? ⟨b1, o1' + 6 + 4, none⟩ = some (.string ⟨b.s.toArray⟩) ∧ Y.cell? ⟨b1, o1' + 6 + 5, none⟩ = some (.slice A2 b.l.length c2'))) := fun Y hY => by
    have hk : ∀ o, Y.cell? ⟨b1, o, none⟩ = w0.cell? ⟨b1, o, none⟩ := fun o => hY.cell (p := ⟨b1, o, none⟩) hbB
    obtain ⟨r0, _, _, _, _, r5⟩ := HSH.out Y hY
    exact ⟨⟨r0, r5⟩, ⟨(hk _).trans c0, (hk _).trans c1, (hk _).trans c2, (hk _).trans c3, (hk _).trans c4, (hk _).trans c5⟩, (hk _).trans d0, (hk _).trans d1, (hk _).trans d2, (hk _).trans d3, (hk _).trans d4, (hk _).trans d5⟩
   have hop3 : op = opAnd ∨ op = opOr ∨ (upperB op = op ∧ ¬ op = opAnd ∧ ¬ op = opOr) := by
    rw [twoB_iff] at ho
    rcases ho with rfl | rfl | rfl | rfl | rfl | rfl
    ·exact .inl rfl
    ·exact .inr (.inl rfl)
    all_goals exact .inr (.inr ⟨by decide, by decide, by decide⟩)
   clear hT hT2 h hf ha hfa hb hfb hfx hx hfy hy n1 n2 n3 n4 ho u2 c0 c1 c2 c3 c4 c5 d0 d1 d2 d3 d4 d5
   dsimp only [Ex.cells, Ex.op, Ex.v, Ex.s, Ex.l, V.zero, List.length_cons, List.length_nil] at q0 q1 q2 q3 q4 q5 HW ⊢
   rcases hop3 with hop | hop | ⟨hop, hna, hno⟩
   ·have hu : upperB op = [65, 78, 68] := by rw [hop]; rfl
    rw [hu]
    have o5 : (op == [97, 110, 100]) = true := by rw [hop]; rfl
    clear hop hu hul
    go_enter Tryz.func113, Tryz.ntmps113
    go_upto_region 1 with fail
    rw [show w.alloc _ = w0 from HW.out]
    clear HW
    go_wp2_with fail
    refine wp_region_held_drew (S := (fun Y => (Y.cell? ⟨w.heap.size, 0, none⟩ = some (.string ⟨op.toArray⟩) ∧ Y.cell? ⟨w.heap.size, 5, none⟩ = some (.slice (some ⟨b1, o1', none⟩) 2 c)) ∧ (Y.cell? ⟨b1, o1', none⟩ = some (.string ⟨a.op.toArray⟩) ∧ Y.cell? ⟨b1, o1' + 1, none⟩ = some (.int .i64 a.v.k) ∧ Y.cell? ⟨b1, o1' + 2, none⟩ = some (.int .i64 a.v.i) ∧ Y.cell? ⟨b1, o1' + 3, none⟩ = some (.string ⟨a.v.s.toArray⟩) ∧ Y.cell? ⟨b1, o1' + 4, none⟩ = some (.string ⟨a.s.toArray⟩) ∧ Y.cell? ⟨b1, o1' + 5, none⟩ = some (.slice A' a.l.length c')) ∧ (Y.cell? ⟨b1, o1' + 6, none⟩ = some (.string ⟨b.op.toArray⟩) ∧ Y.cell? ⟨b1, o1' + 6 + 1, none⟩ = some (.int .i64 b.v.k) ∧ Y.cell? ⟨b1, o1' + 6 + 2, none⟩ = some (.int .i64 b.v.i) ∧ Y.cell? ⟨b1, o1' + 6 + 3, none⟩ = some (.string ⟨b.v.s.toArray⟩) ∧ Y.cell? ⟨b1, o1' + 6 + 4, none⟩ = some (.string ⟨b.s.toArray⟩) ∧ Y.cell? ⟨b1, o1' + 6 + 5, none⟩ = some (.slice A2 b.l.length c2')))) (by kernel_rfl) ?_ (fun hHeld => ?_)
    ·try dsimp only
     exact HSX.out _ (by exact bl)
    refine tS [0, 1, 2, 3, 7, 8, 9, 10] ?_
    iterate 8 (refine tC ?_; refine ap ?_)
    refine tN ?_
    refine rdy 4 fun K hK => ?_
    go_simp
    (refine (HC.out _ (by exact bl)).mono ?_) <;> rintro en w4 ⟨rfl, hb4⟩ <;> have hz4 := hb4.size <;> (try simp at hz4)
    go_wp2_with fail
    refine hK.out _ _ ?_ (fun hHeld => ?_)
    ·try dsimp only
     exact HSX.out _ (by exact bl)
    clear hK K
    refine ap ?_
    refine tS [5, 6] ?_
    iterate 2 (refine tC ?_; refine ap ?_)
    refine tN ?_
    refine rdy 11 fun K hK => ?_
    go_simp
    (refine (HC2.out _ (by exact bl)).mono ?_) <;> rintro en w11 ⟨rfl, hb11⟩ <;> have hz11 := hb11.size <;> (try simp at hz11)
    go_wp2_with fail
    refine hK.out _ _ ?_ (fun hHeld => ?_)
    ·try dsimp only
     exact HSX.out _ (by exact bl)
    clear hK K
    refine ap ?_
    refine tS [12, 13, 14] ?_
    iterate 3 (refine tC ?_; refine ap ?_)
    refine tN ?_
    refine wpAnyH_done (by kernel_rfl) ?_ _
    have hbL : Below w0.heap.size w0 w11 := by exact bl
    go_wp2_with fail
    go_ret
    exact ⟨by simp, (HBW.out _ hbL).1⟩
   ·have hu : upperB op = [79, 82] := by rw [hop]; rfl
    rw [hu]
    have o5 : (op == [97, 110, 100]) = false := by rw [hop]; rfl
    have o6 : (op == [111, 114]) = true := by rw [hop]; rfl
    clear hop hu hul
    go_enter Tryz.func113, Tryz.ntmps113
    go_upto_region 1 with fail
    rw [show w.alloc _ = w0 from HW.out]
    clear HW
    go_wp2_with fail
    refine wp_region_held_drew (S := (fun Y => (Y.cell? ⟨w.heap.size, 0, none⟩ = some (.string ⟨op.toArray⟩) ∧ Y.cell? ⟨w.heap.size, 5, none⟩ = some (.slice (some ⟨b1, o1', none⟩) 2 c)) ∧ (Y.cell? ⟨b1, o1', none⟩ = some (.string ⟨a.op.toArray⟩) ∧ Y.cell? ⟨b1, o1' + 1, none⟩ = some (.int .i64 a.v.k) ∧ Y.cell? ⟨b1, o1' + 2, none⟩ = some (.int .i64 a.v.i) ∧ Y.cell? ⟨b1, o1' + 3, none⟩ = some (.string ⟨a.v.s.toArray⟩) ∧ Y.cell? ⟨b1, o1' + 4, none⟩ = some (.string ⟨a.s.toArray⟩) ∧ Y.cell? ⟨b1, o1' + 5, none⟩ = some (.slice A' a.l.length c')) ∧ (Y.cell? ⟨b1, o1' + 6, none⟩ = some (.string ⟨b.op.toArray⟩) ∧ Y.cell? ⟨b1, o1' + 6 + 1, none⟩ = some (.int .i64 b.v.k) ∧ Y.cell? ⟨b1, o1' + 6 + 2, none⟩ = some (.int .i64 b.v.i) ∧ Y.cell? ⟨b1, o1' + 6 + 3, none⟩ = some (.string ⟨b.v.s.toArray⟩) ∧ Y.cell? ⟨b1, o1' + 6 + 4, none⟩ = some (.string ⟨b.s.toArray⟩) ∧ Y.cell? ⟨b1, o1' + 6 + 5, none⟩ = some (.slice A2 b.l.length c2')))) (by kernel_rfl) ?_ (fun hHeld => ?_)
    ·try dsimp only
     exact HSX.out _ (by exact bl)
    refine tS [0, 1, 2, 3, 7, 8, 9, 10] ?_
    iterate 8 (refine tC ?_; refine ap ?_)
    refine tN ?_
    refine rdy 4 fun K hK => ?_
    go_simp
    (refine (HC.out _ (by exact bl)).mono ?_) <;> rintro en w4 ⟨rfl, hb4⟩ <;> have hz4 := hb4.size <;> (try simp at hz4)
    go_wp2_with fail
    refine hK.out _ _ ?_ (fun hHeld => ?_)
    ·try dsimp only
     exact HSX.out _ (by exact bl)
    clear hK K
    refine ap ?_
    refine tS [5, 6] ?_
    iterate 2 (refine tC ?_; refine ap ?_)
    refine tN ?_
    refine rdy 11 fun K hK => ?_
    go_simp
    (refine (HC2.out _ (by exact bl)).mono ?_) <;> rintro en w11 ⟨rfl, hb11⟩ <;> have hz11 := hb11.size <;> (try simp at hz11)
    go_wp2_with fail
    refine hK.out _ _ ?_ (fun hHeld => ?_)
    ·try dsimp only
     exact HSX.out _ (by exact bl)
    clear hK K
    refine ap ?_
    refine tS [12, 13, 14] ?_
    iterate 3 (refine tC ?_; refine ap ?_)
    refine tN ?_
    refine wpAnyH_done (by kernel_rfl) ?_ _
    have hbL : Below w0.heap.size w0 w11 := by exact bl
    go_wp2_with fail
    go_ret
    exact ⟨by simp, (HBW.out _ hbL).1⟩
   ·rw [hop]
    have o5 : (op == [97, 110, 100]) = false := by rw [beq_eq_false_iff_ne]; exact hna
    have o6 : (op == [111, 114]) = false := by rw [beq_eq_false_iff_ne]; exact hno
    clear hop hul hna hno
    go_enter Tryz.func113, Tryz.ntmps113
    go_upto_region 1 with fail
    rw [show w.alloc _ = w0 from HW.out]
    clear HW
    go_wp2_with fail
    refine wp_region_held_drew (S := (fun Y => (Y.cell? ⟨w.heap.size, 0, none⟩ = some (.string ⟨op.toArray⟩) ∧ Y.cell? ⟨w.heap.size, 5, none⟩ = some (.slice (some ⟨b1, o1', none⟩) 2 c)) ∧ (Y.cell? ⟨b1, o1', none⟩ = some (.string ⟨a.op.toArray⟩) ∧ Y.cell? ⟨b1, o1' + 1, none⟩ = some (.int .i64 a.v.k) ∧ Y.cell? ⟨b1, o1' + 2, none⟩ = some (.int .i64 a.v.i) ∧ Y.cell? ⟨b1, o1' + 3, none⟩ = some (.string ⟨a.v.s.toArray⟩) ∧ Y.cell? ⟨b1, o1' + 4, none⟩ = some (.string ⟨a.s.toArray⟩) ∧ Y.cell? ⟨b1, o1' + 5, none⟩ = some (.slice A' a.l.length c')) ∧ (Y.cell? ⟨b1, o1' + 6, none⟩ = some (.string ⟨b.op.toArray⟩) ∧ Y.cell? ⟨b1, o1' + 6 + 1, none⟩ = some (.int .i64 b.v.k) ∧ Y.cell? ⟨b1, o1' + 6 + 2, none⟩ = some (.int .i64 b.v.i) ∧ Y.cell? ⟨b1, o1' + 6 + 3, none⟩ = some (.string ⟨b.v.s.toArray⟩) ∧ Y.cell? ⟨b1, o1' + 6 + 4, none⟩ = some (.string ⟨b.s.toArray⟩) ∧ Y.cell? ⟨b1, o1' + 6 + 5, none⟩ = some (.slice A2 b.l.length c2')))) (by kernel_rfl) ?_ (fun hHeld => ?_)
    ·try dsimp only
     exact HSX.out _ (by exact bl)
    refine tS [0, 1, 2, 3, 7, 8, 11, 12, 13, 14] ?_
    iterate 10 (refine tC ?_; refine ap ?_)
    refine tN ?_
    refine rdy 4 fun K hK => ?_
    go_simp
    (refine (HC.out _ (by exact bl)).mono ?_) <;> rintro en w4 ⟨rfl, hb4⟩ <;> have hz4 := hb4.size <;> (try simp at hz4)
    go_wp2_with fail
    refine hK.out _ _ ?_ (fun hHeld => ?_)
    ·try dsimp only
     exact HSX.out _ (by exact bl)
    clear hK K
    refine ap ?_
    refine tS [5, 6, 9, 10] ?_
    iterate 4 (refine tC ?_; refine ap ?_)
    refine tN ?_
    refine rdy 15 fun K hK => ?_
    go_simp
    (refine (HC2.out _ (by exact bl)).mono ?_) <;> rintro en w15 ⟨rfl, hb15⟩ <;> have hz15 := hb15.size <;> (try simp at hz15)
    go_wp2_with fail
    refine hK.out _ _ ?_ (fun hHeld => ?_)
    ·try dsimp only
     exact HSX.out _ (by exact bl)
    clear hK K
    refine ap ?_
    refine tS [16, 17, 18] ?_
    iterate 3 (refine tC ?_; refine ap ?_)
    refine tN ?_
    refine wpAnyH_done (by kernel_rfl) ?_ _
    have hbL : Below w0.heap.size w0 w15 := by exact bl
    go_wp2_with fail
    go_ret
    exact ⟨by simp, (HBW.out _ hbL).1⟩
set_option maxRecDepth 100000 in
set_option maxHeartbeats 2000000 in
theorem setTC_any (x : Se) (A' : Option Addr) (c' m : Nat) (w : World) (h : setOkB x = true) (hf : x.e.fit 1000) (hfe : fitE 13 x.e) (hE : ExS 1000 m w w.heap.size A' x.e.l) (hV : Env0 w) :
  Calls Tryz.prog 89 #[.agg #[.string ⟨x.n.toArray⟩, .string ⟨x.e.op.toArray⟩, .int .i64 x.e.v.k, .int .i64 x.e.v.i, .string ⟨x.e.v.s.toArray⟩, .string ⟨x.e.s.toArray⟩, .slice A' x.e.l.length c']] w (Ret (.string ⟨(setT x).toArray⟩) w) := by
 have h0 := h
 unfold setOkB at h0
 simp only [Bool.and_eq_true] at h0
 have hn := nameG_len h0.1
 have hx := textX_len h0.2 hfe
 obtain ⟨w0, hw0⟩ : ∃ w0, w.alloc (.cells #[.string ⟨x.n.toArray⟩, .string ⟨x.e.op.toArray⟩, .int .i64 x.e.v.k, .int .i64 x.e.v.i, .string ⟨x.e.v.s.toArray⟩, .string ⟨x.e.s.toArray⟩, .slice A' x.e.l.length c'] 76) = w0 := ⟨_, rfl⟩
 have kb0 : Blk w0 w.heap.size 76 #[.string ⟨x.n.toArray⟩, .string ⟨x.e.op.toArray⟩, .int .i64 x.e.v.k, .int .i64 x.e.v.i, .string ⟨x.e.v.s.toArray⟩, .string ⟨x.e.s.toArray⟩, .slice A' x.e.l.length c'] := by rw [← hw0]; exact Blk.new _ _ _
 have hb0 : Below w.heap.size w w0 := by rw [← hw0]; exact bl
 have hz0 := hb0.size
 have HK : Hid (∀ Z : World, Below w0.heap.size w0 Z → ∀ i, Z.cell? ⟨w.heap.size, i, none⟩ = (#[.string ⟨x.n.toArray⟩, .string ⟨x.e.op.toArray⟩, .int .i64 x.e.v.k, .int .i64 x.e.v.i, .string ⟨x.e.v.s.toArray⟩, .string ⟨x.e.s.toArray⟩, .slice A' x.e.l.length c'] : Array Value)[i]?) := fun Z hz i => (kb0.below hz kb0.lt).cell i
 have HW := Lib.hid hw0
 have HB := Lib.hid hb0
 clear hw0 kb0 hb0
 have HC : Hid (∀ Y, Below w0.heap.size w0 Y → Calls Tryz.prog 90 #[.agg #[.string ⟨x.e.op.toArray⟩, .int .i64 x.e.v.k, .int .i64 x.e.v.i, .string ⟨x.e.v.s.toArray⟩, .string ⟨x.e.s.toArray⟩, .slice A' x.e.l.length c']] Y (Ret (.string ⟨(textX x.e).toArray⟩) Y)) := fun Y hY => by
  have := written_any x.e A' c' m Y hf hfe ((hE.below m (HB.out.trans (hY.mono hz0))).more (Nat.le_trans hz0 hY.size) m) (hV.below (HB.out.trans (hY.mono hz0)))
  unfold writtenE at this
  rw [h0.2] at this
  exact this
 have HSH : Hid (∀ Z : World, Below w0.heap.size w0 Z → Z.cell? ⟨w.heap.size, 0, none⟩ = some (.string ⟨x.n.toArray⟩) ∧ Z.cell? ⟨w.heap.size, 1, none⟩ = some (.string ⟨x.e.op.toArray⟩) ∧ Z.cell? ⟨w.heap.size, 2, none⟩ = some (.int .i64 x.e.v.k) ∧ Z.cell? ⟨w.heap.size, 3, none⟩ = some (.int .i64 x.e.v.i) ∧ Z.cell? ⟨w.heap.size, 4, none⟩ = some (.string ⟨x.e.v.s.toArray⟩) ∧ Z.cell? ⟨w.heap.size, 5, none⟩ = some (.string ⟨x.e.s.toArray⟩) ∧ Z.cell? ⟨w.heap.size, 6, none⟩ = some (.slice A' x.e.l.length c')) := fun Z hz => ⟨HK.out Z hz 0, HK.out Z hz 1, HK.out Z hz 2, HK.out Z hz 3, HK.out Z hz 4, HK.out Z hz 5, HK.out Z hz 6⟩
 obtain ⟨T, hT⟩ : ∃ T, textX x.e = T := ⟨_, rfl⟩
 obtain ⟨R, hR⟩ : ∃ R, setT x = R := ⟨_, rfl⟩
 have hR2 : x.n ++ ([32, 61, 32] ++ T) = R := by rw [← hR, ← hT]; unfold setT; simp
 rw [hR]
 rw [hT] at HC hx
 have HR := Lib.hid hR2
 clear hT hR hR2 h0 h hE hV
 go_enter Tryz.func89, Tryz.ntmps89
 go_upto_region 1 with fail
 rw [HW.out]
 go_wp2_with fail
 refine wp_region_held_drew (S := (fun Z => Z.cell? ⟨w.heap.size, 0, none⟩ = some (.string ⟨x.n.toArray⟩) ∧ Z.cell? ⟨w.heap.size, 1, none⟩ = some (.string ⟨x.e.op.toArray⟩) ∧ Z.cell? ⟨w.heap.size, 2, none⟩ = some (.int .i64 x.e.v.k) ∧ Z.cell? ⟨w.heap.size, 3, none⟩ = some (.int .i64 x.e.v.i) ∧ Z.cell? ⟨w.heap.size, 4, none⟩ = some (.string ⟨x.e.v.s.toArray⟩) ∧ Z.cell? ⟨w.heap.size, 5, none⟩ = some (.string ⟨x.e.s.toArray⟩) ∧ Z.cell? ⟨w.heap.size, 6, none⟩ = some (.slice A' x.e.l.length c'))) (by kernel_rfl) ?_ (fun hHeld => ?_)
 ·try dsimp only
  exact HSH.out _ (by exact bl)
 refine tS [0, 1, 2, 3, 4] ?_
 iterate 5 (refine tC ?_; refine ap ?_)
 refine tN ?_
 refine rdy 5 fun K hK => ?_
 go_simp
 (refine (HC.out _ (by exact bl)).mono ?_) <;> rintro en w5 ⟨rfl, hb5⟩ <;> have hz5 := hb5.size <;> (try simp at hz5)
 go_wp2_with fail
 refine hK.out _ _ ?_ (fun hHeld => ?_)
 ·try dsimp only
  exact HSH.out _ (by exact bl)
 clear hK K
 refine ap ?_
 refine tS [6, 7] ?_
 iterate 2 (refine tC ?_; refine ap ?_)
 refine tN ?_
 refine wpAnyH_done (by kernel_rfl) ?_ _
 have hb5' : Below w0.heap.size w0 w5 := by exact bl
 have hbf := HB.out.trans (hb5'.mono hz0)
 go_wp2_with fail
 go_ret
 exact ⟨by rw [← HR.out]; simp, hbf⟩
theorem uniqT_snoc (l : List (List UInt8)) (x : List UInt8) : uniqT (l ++ [x]) = uniqT l ++ ([32, 44, 32, 85, 78, 73, 81, 85, 69, 32, 40, 32] ++ x ++ [32, 41]) := by unfold uniqT; simp
theorem refsT_snoc (l : List Rf) (x : Rf) : refsT (l ++ [x]) = refsT l ++ ([32, 44, 32, 82, 69, 70, 69, 82, 69, 78, 67, 69, 83, 32, 40, 32] ++ x.c ++ [32, 41, 32] ++ x.t) := by unfold refsT; simp
set_option maxRecDepth 100000 in
set_option maxHeartbeats 8000000 in
theorem created_any (s : St) (p : StP) (w : World) (hok : s.Ok) (hQ : StQ 1000 s p (Old w.heap.size) w) (hV : Env0 w) (hc : creS s = true) :
  Calls Tryz.prog 86 #[.agg (s.cells p).toArray] w (Ret (.string ⟨([67, 82, 69, 65, 84, 69, 32, 84, 65, 66, 76, 69, 32] ++ s.tb ++ [32, 40, 32] ++ joinL comma (s.cols.map colT) ++ [32, 44, 32, 75, 69, 89, 32, 40, 32] ++ s.key ++ [32, 41] ++ uniqT s.uniq ++ refsT s.refs ++ checkT comma s.chk ++ [32, 41]).toArray⟩) w) := by
 obtain ⟨kc, ks, kw, hM⟩ := hQ.h
 unfold creS at hc
 simp only [Bool.and_eq_true] at hc
 obtain ⟨⟨⟨⟨c1, c2⟩, c3⟩, c4⟩, c5⟩ := hc
 obtain ⟨_, n1, a1⟩ := many_all c1
 obtain ⟨_, n3, a3⟩ := many_all c3
 obtain ⟨_, n4, a4⟩ := many_all c4
 refine stBox_in s p w fun w0 HW ks0 hb0 hz0 HST HB => ?_
 have HM : Hid (∀ Y : World, Below w0.heap.size w0 Y → StH s p kc ks kw (Old w.heap.size) Y) := fun Y hY => hM.keep (fun b hb => ⟨hb, fun o => (hb0.trans (hY.mono hz0)).cell (p := ⟨b, o, none⟩) hb⟩)
 have HM2 : ∀ Y : World, Below w0.heap.size w0 Y → StH s p kc ks kw (Old Y.heap.size) Y := fun Y hY => hM.keep (old_keep (hb0.trans (hY.mono hz0)) (Nat.le_trans hz0 hY.size))
 have HEV : ∀ Y : World, Below w0.heap.size w0 Y → Env0 Y := fun Y hY => hV.below (hb0.trans (hY.mono hz0))
 have hjl : (joinL comma (s.cols.map colT)).length ≤ 2000 := by
  have := joined_len colT 100 s.cols (fun c hc => colT_len (a1 c hc))
  have : s.cols.length * (100 + 3) ≤ 8 * 103 := Nat.mul_le_mul_right _ n1
  omega
 have HLI : Hid (∀ Y : World, Below w0.heap.size w0 Y → Calls Tryz.prog 149 #[.slice p.cols.a s.cols.length p.cols.c, .func (.func 150) #[] #[]] Y (Ret (.string ⟨(joinL comma (s.cols.map colT)).toArray⟩) Y)) := fun Y hY =>
  listed_col p.cols.a p.cols.c s.cols colT 150 (Go.Proofs.enters_of Tryz.func150 (by kernel_rfl) rfl) Y hok.nC (by omega) (HM2 Y hY).2.1 (fun c hc Z hz _ => colTC_any c Z (a1 c hc) ((HEV Y hY).below hz).2.2)
 have hcl := check_len (a := comma) (by decide) c5 hok.num.1
 have HCK : Hid (∀ Y : World, Below w0.heap.size w0 Y → Calls Tryz.prog 94 #[.string ⟨#[32, 44, 32]⟩, .agg #[.string ⟨s.chk.op.toArray⟩, .int .i64 s.chk.v.k, .int .i64 s.chk.v.i, .string ⟨s.chk.v.s.toArray⟩, .string ⟨s.chk.s.toArray⟩, .slice p.chk.a s.chk.l.length p.chk.c]] Y (Ret (.string ⟨(checkT comma s.chk).toArray⟩) Y)) := fun Y hY => by
  have := check_st_any comma s.chk p.chk.a p.chk.c kc Y (by decide) hok.chk hok.num.1 (exq_s (HM2 Y hY).2.2.2.2.1 (Nat.le_refl _)) (HEV Y hY)
  rw [check_eq c5] at this
  exact this
 obtain ⟨J, hJ⟩ : ∃ J, joinL comma (s.cols.map colT) = J := ⟨_, rfl⟩
 obtain ⟨K, hK⟩ : ∃ K, checkT comma s.chk = K := ⟨_, rfl⟩
 obtain ⟨R, hR⟩ : ∃ R, [67, 82, 69, 65, 84, 69, 32, 84, 65, 66, 76, 69, 32] ++ s.tb ++ [32, 40, 32] ++ joinL comma (s.cols.map colT) ++ [32, 44, 32, 75, 69, 89, 32, 40, 32] ++ s.key ++ [32, 41] ++ uniqT s.uniq ++ refsT s.refs ++ checkT comma s.chk ++ [32, 41] = R := ⟨_, rfl⟩
 rw [hR]
 rw [hJ] at HLI hjl hR
 rw [hK] at HCK hcl hR
 have HR : Hid ([67, 82, 69, 65, 84, 69, 32, 84, 65, 66, 76, 69, 32] ++ s.tb ++ [32, 40, 32] ++ J ++ [32, 44, 32, 75, 69, 89, 32, 40, 32] ++ s.key ++ [32, 41] ++ uniqT s.uniq ++ refsT s.refs ++ K ++ [32, 41] = R) := hR
 have htb := hok.tb
 have hke := nameG_len c2
 obtain ⟨NU, hNU⟩ : ∃ N, s.uniq.length = N := ⟨_, rfl⟩
 obtain ⟨NR, hNR⟩ : ∃ N, s.refs.length = N := ⟨_, rfl⟩
 have HNU := Lib.hid hNU
 have HNR := Lib.hid hNR
 have A3 := Lib.hid a3
 have A4 := Lib.hid a4
 rw [hNU] at n3
 rw [hNR] at n4
 have HS3 : Hid (∀ Z : World, Below w0.heap.size w0 Z → Z.cell? ⟨w.heap.size, 6, none⟩ = some (.slice p.uniq.a NU p.uniq.c) ∧ Z.cell? ⟨w.heap.size, 7, none⟩ = some (.slice p.refs.a NR p.refs.c)) := fun Z hz => by
  have := HST.out Z hz
  rw [← hNU, ← hNR]
  exact ⟨this.2.2.2.2.2.2.1, this.2.2.2.2.2.2.2.1⟩
 clear hJ hK hR HM2 HEV hM hQ hV ks0 hok c1 c2 c3 c4 c5 a1 a3 a4 n1 hNU hNR hb0
 have hc0 : Below w0.heap.size w0 w0 := Below.refl _ _
 obtain ⟨s0, s1, s2, s3, s4, s5, -⟩ := HST.out w0 hc0
 go_enter Tryz.func86, Tryz.ntmps86
 go_upto_region 1 with fail
 rw [show w.alloc _ = w0 from HW.out]
 clear HW
 go_wp2_with fail
 refine (HLI.out _ hc0).mono ?_
 rintro en w1 ⟨rfl, hb1⟩
 have hz1 := hb1.size
 clear s0 s1 s2 s3 s4 s5
 obtain ⟨s0, s1, s2, s3, s4, s5, -⟩ := HST.out w1 hb1
 obtain ⟨t6, t7⟩ := HS3.out w1 hb1
 obtain ⟨X0, hX0⟩ : ∃ X, [67, 82, 69, 65, 84, 69, 32, 84, 65, 66, 76, 69, 32] ++ s.tb ++ [32, 40, 32] ++ J ++ [32, 44, 32, 75, 69, 89, 32, 40, 32] ++ s.key ++ [32, 41] = X := ⟨_, rfl⟩
 have hX0l : X0.length ≤ 4000 := by rw [← hX0]; simp; omega
 have HX0 := Lib.hid hX0
 go_wp2_with fail
 go_loopw [3, 26] (fun x i wr => ∃ (X : List UInt8) (j : Nat), x = .string ⟨X.toArray⟩ ∧ i = .int .i64 j ∧ j ≤ NU ∧ X.length ≤ 4000 + 100 * j ∧ Hid (X = X0 ++ uniqT (s.uniq.take j)) ∧ Below w0.heap.size w0 wr) (fun _ i _ => NU - (intOf i).toNat)
 case atStart =>
  refine ⟨X0, 0, ?_, rfl, by omega, by omega, by show _ = _; simp [uniqT], hb1⟩
  rw [← HX0.out]; simp
 case round =>
  obtain ⟨X, j, rfl, rfl, hj, hXl, HX, hbw⟩ := hrel
  obtain ⟨Y, rfl⟩ : ∃ W, W = wr := ⟨_, rfl⟩
  have hzY := hbw.size
  by_cases hlt : j < NU
  ·obtain ⟨b, off, x, e1, hbB, hv, d0⟩ := (HM.out Y hbw).2.2.1.at_ (j := j) (by rw [HNU.out]; exact hlt)
   have hxl := nameG_len (A3.out x (List.mem_of_getElem? hv))
   have HNX : Hid (X ++ ([32, 44, 32, 85, 78, 73, 81, 85, 69, 32, 40, 32] ++ x ++ [32, 41]) = X0 ++ uniqT (s.uniq.take (j + 1))) := by
    show _ = _
    rw [List.take_add_one, hv, show (some x).toList = [x] from rfl, uniqT_snoc, HX.out, List.append_assoc]
   have hlb : b < w.heap.size := hbB
   have g10 : (j : Int) < (NU : Int) := by omega
   rw [e1]
   clear hv
   go_wp2_with fail
   go_roundw
   case rel =>
    refine ⟨_, j + 1, rfl, by go_num, by omega, ?_, HNX, hbw⟩
    simp; omega
   case measure => simp [intOf]; omega
  ·obtain rfl : NU = j := by omega
   have HX2 : Hid (X = X0 ++ uniqT s.uniq) := by show _ = _; rw [HX.out, ← HNU.out, List.take_length]
   clear s0 s1 s2 s3 s4 s5 t6 t7
   obtain ⟨t6, t7⟩ := HS3.out Y hbw
   have g11 : ¬ (NU : Int) < (NU : Int) := by omega
   clear hlt HX
   go_wp2_with fail
   go_loopw [3, 39] (fun x i wr => ∃ (Z : List UInt8) (j : Nat), x = .string ⟨Z.toArray⟩ ∧ i = .int .i64 j ∧ j ≤ NR ∧ Z.length ≤ 5000 + 100 * j ∧ Hid (Z = X ++ refsT (s.refs.take j)) ∧ Below w0.heap.size w0 wr) (fun _ i _ => NR - (intOf i).toNat)
   case atStart => exact ⟨X, 0, rfl, rfl, by omega, by omega, by show _ = _; simp [refsT], hbw⟩
   case round =>
    obtain ⟨Z, j, rfl, rfl, hj2, hZl, HZ, hbv⟩ := hrel
    obtain ⟨U, rfl⟩ : ∃ W, W = wr := ⟨_, rfl⟩
    have hzU := hbv.size
    by_cases hlt : j < NR
    ·obtain ⟨b, off, x, e1, hbB, hv, d0, d1⟩ := (HM.out U hbv).2.2.2.1.at_ (j := j) (by rw [HNR.out]; exact hlt)
     have hx4 := A4.out x (List.mem_of_getElem? hv)
     unfold refOkB at hx4
     simp only [Bool.and_eq_true] at hx4
     have hxl := nameG_len hx4.1
     have hxl2 := nameG_len hx4.2
     have HNX : Hid (Z ++ ([32, 44, 32, 82, 69, 70, 69, 82, 69, 78, 67, 69, 83, 32, 40, 32] ++ (x.c ++ ([32, 41, 32] ++ x.t))) = X ++ refsT (s.refs.take (j + 1))) := by
      show _ = _
      rw [List.take_add_one, hv, show (some x).toList = [x] from rfl, refsT_snoc, HZ.out]
      simp
     obtain ⟨V, hV⟩ : ∃ V, U.alloc (.cells #[.string ⟨x.c.toArray⟩, .string ⟨x.t.toArray⟩] 74) = V := ⟨_, rfl⟩
     have kV : Blk V U.heap.size 74 #[.string ⟨x.c.toArray⟩, .string ⟨x.t.toArray⟩] := by rw [← hV]; exact Blk.new _ _ _
     have hbV : Below w0.heap.size w0 V := by rw [← hV]; exact hbv.alloc hzU _
     obtain ⟨⟨k0, k1⟩, _⟩ := kV.two
     have HV := Lib.hid hV
     have hlb : b < w.heap.size := hbB
     have g10 : (j : Int) < (NR : Int) := by omega
     rw [e1]
     clear hv hV kV hx4
     go_upto_region 12 with fail
     rw [show U.alloc _ = V from HV.out]
     go_wp2_with fail
     go_roundw
     case rel =>
      refine ⟨_, j + 1, rfl, by go_num, by omega, ?_, HNX, hbV⟩
      simp; omega
     case measure => simp [intOf]; omega
    ·obtain rfl : NR = j := by omega
     have HZ2 : Hid (Z = X ++ refsT s.refs) := by show _ = _; rw [HZ.out, ← HNR.out, List.take_length]
     have g12 : ¬ (NR : Int) < (NR : Int) := by omega
     obtain ⟨-, -, -, -, -, -, -, -, s8, s9, s10, s11, s12, s13, -⟩ := HST.out U hbv
     clear hlt HZ t6 t7
     go_wp2_with fail
     refine (HCK.out _ hbv).mono ?_
     rintro en w5 ⟨rfl, hb5⟩
     have hbf := HB.out.trans ((hbv.trans (hb5.mono hzU)).mono hz0)
     go_wp2_with fail
     go_ret
     refine ⟨?_, hbf⟩
     rw [← HR.out, HZ2.out, HX2.out, ← HX0.out]
     simp
end Go.Proofs.YtchilcchogcibaaGreatDoor
