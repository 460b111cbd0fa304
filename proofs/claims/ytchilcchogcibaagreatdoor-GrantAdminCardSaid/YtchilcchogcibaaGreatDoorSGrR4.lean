/- grant.place, and the closures that are held against a grant; The document's Text of an expression as a plain function; slices.Clone at grants; The document's Without of grants as a plain function; The closures of package grant that are held against a grant, or a table; The document's Same of grants as a plain function. -/
import Derived.Shelf.Abstract
import Derived.Lib.SliceRun
import Derived.Deep.AppendLies
import Derived.Deep.CutBlock
import Derived.Deep.DeepCutAuto
import Derived.Test.YtchilcchogcibaaGreatDoorSBytes
import Derived.Test.YtchilcchogcibaaGreatDoorSClones
import Derived.Test.YtchilcchogcibaaGreatDoorSEnvL
import Derived.Test.YtchilcchogcibaaGreatDoorSExText
import Derived.Test.YtchilcchogcibaaGreatDoorSR5Law
import Derived.Test.YtchilcchogcibaaGreatDoorSRd1
namespace Go.Proofs.YtchilcchogcibaaGreatDoor
open Go.RowKit
attribute [local go_sem] ByteArray.extract_mk ba_get ba_append
attribute [local go_sem ↓] Go.wp_at_zero Go.wp_at_succ
def eqG (a b : Gr) : Bool := decide (a.r = b.r) && (decide (a.t = b.t) && decide (a.w = b.w))
theorem eqG_iff (a b : Gr) : eqG a b = decide (a = b) := by
 obtain ⟨r, t, w⟩ := a
 obtain ⟨r', t', w'⟩ := b
 unfold eqG
 by_cases h1 : r = r' <;> by_cases h2 : t = t' <;> by_cases h3 : w = w' <;> simp [h1, h2, h3]
theorem run_eql_G (r t : List UInt8) (u : Bool) (r' t' : List UInt8) (u' : Bool) (w : World) :
  (binOp .eql 54 (.agg #[.string ⟨r.toArray⟩, .string ⟨t.toArray⟩, .bool u]) (.agg #[.string ⟨r'.toArray⟩, .string ⟨t'.toArray⟩, .bool u'])).run Tryz.prog w = .ok (.bool (eqG ⟨r, t, u⟩ ⟨r', t', u'⟩)) w := by
 by_cases h1 : r = r' <;> by_cases h2 : t = t' <;> cases u <;> cases u' <;> simp [go_sem, eqG, h1, h2, Tryz.underlying54, Tryz.underlying9, Tryz.underlying4]
attribute [local go_sem ↓] run_eql_G
theorem placeC_any (x y : Gr) (g : Nat) (w : World) (h0 : w.cell? ⟨g, 0, none⟩ = some (.string ⟨y.r.toArray⟩)) (h1 : w.cell? ⟨g, 1, none⟩ = some (.string ⟨y.t.toArray⟩)) (h2 : w.cell? ⟨g, 2, none⟩ = some (.bool y.w)) :
  Calls Tryz.prog 61 #[.agg #[.string ⟨x.r.toArray⟩, .string ⟨x.t.toArray⟩, .bool x.w], .pointer (some ⟨g, 0, none⟩)] w (Ret (.bool (decide (x = y))) w) := by
 have hg : g < w.heap.size := Blk_lt_of_cell h0
 have HE := Lib.hid (eqG_iff x y)
 rw [← HE.out]
 go_enter Tryz.func61, Tryz.ntmps61
 go_wp2_with fail
 go_ret
 exact ⟨rfl, by exact bl⟩
theorem place_any (A : Option Addr) (c : Nat) (l : List Gr) (y : Gr) (w : World) (hl : l.length ≤ 1000000) (h : GQ l A (Old w.heap.size) w) :
  Calls Tryz.prog 37 #[.slice A l.length c, .agg #[.string ⟨y.r.toArray⟩, .string ⟨y.t.toArray⟩, .bool y.w]] w (Ret (.int .i64 (firstP (fun x => decide (x = y)) l 0)) w) := by
 obtain ⟨w0, hw0⟩ : ∃ w0, w.alloc (.cells #[.string ⟨y.r.toArray⟩, .string ⟨y.t.toArray⟩, .bool y.w] 54) = w0 := ⟨_, rfl⟩
 have kg : Blk w0 w.heap.size 54 #[.string ⟨y.r.toArray⟩, .string ⟨y.t.toArray⟩, .bool y.w] := by rw [← hw0]; exact Blk.new _ _ _
 have hb0 : Below w.heap.size w w0 := by rw [← hw0]; exact bl
 have hI := idxG_any A c l (fun x => decide (x = y)) 61 w.heap.size (Go.Proofs.enters_of Tryz.func61 (by kernel_rfl) rfl) w0 hl (h.keep (old_keep hb0 hb0.size)) (fun x _ Z hz => by
  have k := kg.below hz kg.lt
  exact placeC_any x y w.heap.size Z (k.cell 0) (k.cell 1) (k.cell 2))
 have HI := Lib.hid hI
 have HW := Lib.hid hw0
 have HB0 := Lib.hid hb0
 clear hI hw0 kg h hb0
 go_enter Tryz.func37, Tryz.ntmps37
 go_upto_region 1 with fail
 rw [HW.out]
 clear HW
 go_wp2_with fail
 refine HI.out.mono ?_
 rintro en w1 ⟨rfl, hb1⟩
 go_wp2_with fail
 go_ret
 exact ⟨rfl, HB0.out.trans (hb1.mono HB0.out.size)⟩
theorem firstP_mem (l : List Gr) (y : Gr) : decide (0 ≤ firstP (fun x => decide (x = y)) l 0) = decide (y ∈ l) := by
 rw [firstP_any]
 induction l with
 | nil => simp
 | cons x r ih =>
  rw [List.any_cons, ih]
  by_cases h : x = y
  ·simp [h]
  ·have h' : ¬ y = x := fun e => h e.symm
   by_cases h2 : y ∈ r <;> simp [h, h', h2]
set_option maxRecDepth 100000 in
set_option maxHeartbeats 8000000 in
theorem rextext_any (B : Nat) : ∀ (n : Nat) (e : Ex) (A : Option Addr) (c m : Nat) (w : World), n ≤ 13 → B ≤ w.heap.size → formE n e = true → fitE n e → e.fit 1000 → ExS 1000 m w w.heap.size A e.l →
  Calls Tryz.prog 113 #[.agg (e.cells A c).toArray] w (Ret (.string ⟨(textN n e).toArray⟩) w) := by
 intro n
 induction n with
 | zero => intro e A c m w _ _ h; simp [formE] at h
 | succ n ih =>
  intro e A c m w hn hB h hf hft hE
  obtain ⟨w0, hw0⟩ : ∃ w0, w.alloc (.cells (e.cells A c).toArray 30) = w0 := ⟨_, rfl⟩
  have kq0 : Blk w0 w.heap.size 30 (e.cells A c).toArray := by rw [← hw0]; exact Blk.new _ _ _
  have hb0 : Below w.heap.size w w0 := by rw [← hw0]; exact bl
  have hz0 := hb0.size
  have HSH : Hid (∀ w' : World, Below w0.heap.size w0 w' → (w'.cell? ⟨w.heap.size, 0, none⟩ = some (.string ⟨e.op.toArray⟩) ∧ w'.cell? ⟨w.heap.size, 1, none⟩ = some (.int .i64 e.v.k) ∧ w'.cell? ⟨w.heap.size, 2, none⟩ = some (.int .i64 e.v.i) ∧ w'.cell? ⟨w.heap.size, 3, none⟩ = some (.string ⟨e.v.s.toArray⟩) ∧ w'.cell? ⟨w.heap.size, 4, none⟩ = some (.string ⟨e.s.toArray⟩) ∧ w'.cell? ⟨w.heap.size, 5, none⟩ = some (.slice A e.l.length c))) := fun w' h => (kq0.below h kq0.lt).six
  have HE : Hid (∀ Y : World, Below w0.heap.size w0 Y → ExS 1000 m Y Y.heap.size A e.l) := fun Y h => ((hE.below m (hb0.trans (h.mono hz0)))).more (Nat.le_trans hz0 h.size) m
  have HW := Lib.hid hw0
  have HBW : Hid (∀ Y : World, Below w0.heap.size w0 Y → Below w.heap.size w Y ∧ B ≤ Y.heap.size) := fun Y h => ⟨hb0.trans (h.mono hz0), Nat.le_trans hB (Nat.le_trans hz0 h.size)⟩
  have HIH : Hid (∀ (x : Ex) (A' : Option Addr) (c' m : Nat) (Y : World), B ≤ Y.heap.size → formE n x = true → fitE n x → x.fit 1000 → ExS 1000 m Y Y.heap.size A' x.l → Calls Tryz.prog 113 #[.agg #[.string ⟨x.op.toArray⟩, .int .i64 x.v.k, .int .i64 x.v.i, .string ⟨x.v.s.toArray⟩, .string ⟨x.s.toArray⟩, .slice A' x.l.length c']] Y (Ret (.string ⟨(textN n x).toArray⟩) Y)) := fun x A' c' m Y h1 h2 h3 h4 h5 => ih x A' c' m Y (by omega) h1 h2 h3 h4 h5
  clear ih hw0 hE kq0 hb0 hz0
  obtain ⟨q0, q1, q2, q3, q4, q5⟩ := HSH.out w0 (Below.refl _ _)
  rcases form_cases h with ⟨he, hm⟩ | ⟨he, hnm, _⟩ | ⟨a, rfl, ha⟩ | ⟨a, rfl, ha⟩ | ⟨op, a, b, rfl, ho, ha, hb⟩
  ·have ho : e.op = opLit := by rw [he]; rfl
   have ht : textN (n + 1) e = textF e.v.k e.v.i e.v.s := by rw [he]; rfl
   have hfv := fitE_v hf
   have HFS : Hid (e.v.s.length ≤ 1000) := hft.2.2.2
   have HT := Lib.hid (rtext_any e.v.k e.v.i e.v.s w0 hfv.1 hfv.2 (by have := HFS.out; omega))
   rw [ht]
   have o1 : (e.op == [108, 105, 116]) = true := by rw [ho]; rfl
   obtain ⟨T, hT⟩ : ∃ T, textF e.v.k e.v.i e.v.s = T := ⟨_, rfl⟩
   rw [hT] at HT ⊢
   clear ht hT he hm h hf ho
   go_enter Tryz.func113, Tryz.ntmps113
   go_upto_region 1 with fail
   rw [show w.alloc _ = w0 from HW.out]
   clear HW
   go_wp2_with fail
   refine HT.out.mono ?_
   rintro en w1 ⟨rfl, hb1⟩
   go_wp2_with fail
   go_ret
   exact ⟨rfl, (HBW.out w1 hb1).1⟩
  ·have ho : e.op = opCol := by rw [he]; rfl
   have ht : textN (n + 1) e = e.s := by rw [he]; rfl
   rw [ht]
   have o1 : (e.op == [108, 105, 116]) = false := by rw [ho]; rfl
   have o2 : (e.op == [99, 111, 108]) = true := by rw [ho]; rfl
   clear ht he hnm h hf ho
   go_enter Tryz.func113, Tryz.ntmps113
   go_upto_region 1 with fail
   rw [show w.alloc _ = w0 from HW.out]
   clear HW
   go_wp2_with fail
   go_ret
   exact ⟨rfl, (HBW.out w0 (Below.refl _ _)).1⟩
  ·have hfa := hf.2 a (by simp [Ex.l])
   obtain ⟨m1, b1, o1', x, A', c', rfl, rfl, hbB, _, hgd, hfx, hxc, hxm, ⟨c0, c1, c2, c3, c4, c5⟩, hx⟩ := six0 (HE.out w0 (Below.refl _ _)) (j := 0) (by simp [Ex.l])
   obtain rfl : a = x := hgd
   have hln := textN_lt (by omega) ha hfa
   have HC := Lib.hid (HIH.out a A' c' m1 w0 (HBW.out w0 (Below.refl _ _)).2 ha hfa hfx hx)
   have ht : textN (n + 1) (.mk opNot V.zero [] [a]) = ([40, 78, 79, 84, 32] ++ textN n a) ++ [41] := rfl
   rw [ht]
   obtain ⟨T, hT⟩ : ∃ T, textN n a = T := ⟨_, rfl⟩
   rw [hT] at HC hln ⊢
   simp only [Nat.zero_mul, Nat.add_zero] at c0 c1 c2 c3 c4 c5
   clear ht hT h hf ha hfa hfx hx
   dsimp only [Ex.cells, Ex.op, Ex.v, Ex.s, Ex.l, V.zero, List.length_cons, List.length_nil] at q0 q1 q2 q3 q4 q5 HW ⊢
   go_enter Tryz.func113, Tryz.ntmps113
   go_upto_region 1 with fail
   rw [show w.alloc _ = w0 from HW.out]
   clear HW
   go_wp2_with fail
   refine HC.out.mono ?_
   rintro en w1 ⟨rfl, hb1⟩
   go_wp2_with fail
   go_ret
   exact ⟨by simp, (HBW.out w1 hb1).1⟩
  ·have hfa := hf.2 a (by simp [Ex.l])
   obtain ⟨m1, b1, o1', x, A', c', rfl, rfl, hbB, _, hgd, hfx, hxc, hxm, ⟨c0, c1, c2, c3, c4, c5⟩, hx⟩ := six0 (HE.out w0 (Below.refl _ _)) (j := 0) (by simp [Ex.l])
   obtain rfl : a = x := hgd
   have hln := textN_lt (by omega) ha hfa
   have HC := Lib.hid (HIH.out a A' c' m1 w0 (HBW.out w0 (Below.refl _ _)).2 ha hfa hfx hx)
   have ht : textN (n + 1) (.mk opNull V.zero [] [a]) = ([40] ++ textN n a) ++ [32, 73, 83, 32, 78, 85, 76, 76, 41] := rfl
   rw [ht]
   obtain ⟨T, hT⟩ : ∃ T, textN n a = T := ⟨_, rfl⟩
   rw [hT] at HC hln ⊢
   simp only [Nat.zero_mul, Nat.add_zero] at c0 c1 c2 c3 c4 c5
   clear ht hT h hf ha hfa hfx hx
   dsimp only [Ex.cells, Ex.op, Ex.v, Ex.s, Ex.l, V.zero, List.length_cons, List.length_nil, opNull] at q0 q1 q2 q3 q4 q5 HW ⊢
   go_enter Tryz.func113, Tryz.ntmps113
   go_upto_region 1 with fail
   rw [show w.alloc _ = w0 from HW.out]
   clear HW
   go_wp2_with fail
   refine HC.out.mono ?_
   rintro en w1 ⟨rfl, hb1⟩
   go_wp2_with fail
   go_ret
   exact ⟨by simp, (HBW.out w1 hb1).1⟩
  ·have hfa := hf.2 a (by simp [Ex.l])
   have hfb := hf.2 b (by simp [Ex.l])
   obtain ⟨m1, b1, o1', x, A', c', rfl, rfl, hbB, _, hgd, hfx, hxc, hxm, ⟨c0, c1, c2, c3, c4, c5⟩, hx⟩ := six0 (HE.out w0 (Below.refl _ _)) (j := 0) (by simp [Ex.l])
   obtain rfl : a = x := hgd
   obtain ⟨m2, b2, o2', y, A2, c2', e1, e2, hbB2, _, hgd2, hfy, hyc, hym, ⟨d0, d1, d2, d3, d4, d5⟩, hy⟩ := six0 (HE.out w0 (Below.refl _ _)) (j := 1) (by simp [Ex.l])
   obtain rfl : b = y := hgd2
   obtain rfl : m1 = m2 := by omega
   obtain ⟨rfl, rfl⟩ : b1 = b2 ∧ o1' = o2' := by injection e2 with e; injection e with e1 e3; exact ⟨e1, e3⟩
   have hln := textN_lt (by omega) ha hfa
   have hln2 := textN_lt (by omega) hb hfb
   obtain ⟨n1, n2, n3, n4⟩ := twoB_ne ho
   obtain ⟨u1, u2⟩ := twoB_len ho
   have HC : Hid (∀ Y : World, Below w0.heap.size w0 Y → Calls Tryz.prog 113 #[.agg #[.string ⟨a.op.toArray⟩, .int .i64 a.v.k, .int .i64 a.v.i, .string ⟨a.v.s.toArray⟩, .string ⟨a.s.toArray⟩, .slice A' a.l.length c']] Y (Ret (.string ⟨(textN n a).toArray⟩) Y)) := fun Y hY => HIH.out a A' c' m1 Y (HBW.out Y hY).2 ha hfa hfx ((hx.below m1 hY).more hY.size m1)
   have HC2 : Hid (∀ Y : World, Below w0.heap.size w0 Y → Calls Tryz.prog 113 #[.agg #[.string ⟨b.op.toArray⟩, .int .i64 b.v.k, .int .i64 b.v.i, .string ⟨b.v.s.toArray⟩, .string ⟨b.s.toArray⟩, .slice A2 b.l.length c2']] Y (Ret (.string ⟨(textN n b).toArray⟩) Y)) := fun Y hY => HIH.out b A2 c2' m1 Y (HBW.out Y hY).2 hb hfb hfy ((hy.below m1 hY).more hY.size m1)
   rw [textN_two n1 n2 n3 n4]
   have hul : (upperB op).length ≤ 3 := by rw [upper_len]; exact u1
   obtain ⟨T, hT⟩ : ∃ T, textN n a = T := ⟨_, rfl⟩
   obtain ⟨T2, hT2⟩ : ∃ T, textN n b = T := ⟨_, rfl⟩
   rw [hT] at HC hln ⊢
   rw [hT2] at HC2 hln2 ⊢
   simp only [Nat.zero_mul, Nat.one_mul, Nat.add_zero] at c0 c1 c2 c3 c4 c5 d0 d1 d2 d3 d4 d5
   have o1 : (op == [108, 105, 116]) = false := by rw [beq_eq_false_iff_ne]; exact n1
   have o2 : (op == [99, 111, 108]) = false := by rw [beq_eq_false_iff_ne]; exact n2
   have o3 : (op == [110, 111, 116]) = false := by rw [beq_eq_false_iff_ne]; exact n3
   have o4 : (op == [110, 117, 108, 108]) = false := by rw [beq_eq_false_iff_ne]; exact n4
   have HSX : Hid (∀ Y : World, Below w0.heap.size w0 Y → (Y.cell? ⟨w.heap.size, 0, none⟩ = some (.string ⟨op.toArray⟩) ∧ Y.cell? ⟨w.heap.size, 5, none⟩ = some (.slice (some ⟨b1, o1', none⟩) 2 c)) ∧ (Y.cell? ⟨b1, o1', none⟩ = some (.string ⟨a.op.toArray⟩) ∧ Y.cell? ⟨b1, o1' + 1, none⟩ = some (.int .i64 a.v.k) ∧ Y.cell? ⟨b1, o1' + 2, none⟩ = some (.int .i64 a.v.i) ∧ Y.cell? ⟨b1, o1' + 3, none⟩ = some (.string ⟨a.v.s.toArray⟩) ∧ Y.cell? ⟨b1, o1' + 4, none⟩ = some (.string ⟨a.s.toArray⟩) ∧ Y.cell? ⟨b1, o1' + 5, none⟩ = some (.slice A' a.l.length c')) ∧ (Y.cell? ⟨b1, o1' + 6, none⟩ = some (.string ⟨b.op.toArray⟩) ∧ Y.cell? ⟨b1, o1' + 6 + 1, none⟩ = some (.int .i64 b.v.k) ∧ Y.cell? ⟨b1, o1' + 6 + 2, none⟩ = some (.int .i64 b.v.i) ∧ Y.cell? ⟨b1, o1' + 6 + 3, none⟩ = some (.string ⟨b.v.s.toArray⟩) ∧ Y.cell? ⟨b1, o1' + 6 + 4, none⟩ = some (.string ⟨b.s.toArray⟩) ∧ Y.cell? ⟨b1, o1' + 6 + 5, none⟩ = some (.slice A2 b.l.length c2'))) := fun Y hY => by
    have hk : ∀ o, Y.cell? ⟨b1, o, none⟩ = w0.cell? ⟨b1, o, none⟩ := fun o => hY.cell (p := ⟨b1, o, none⟩) hbB
    obtain ⟨r0, _, _, _, _, r5⟩ := HSH.out Y hY
    exact ⟨⟨r0, r5⟩, ⟨(hk _).trans c0, (hk _).trans c1, (hk _).trans c2, (hk _).trans c3, (hk _).trans c4, (hk _).trans c5⟩, (hk _).trans d0, (hk _).trans d1, (hk _).trans d2, (hk _).trans d3, (hk _).trans d4, (hk _).trans d5⟩
   have hop3 : op = opAnd ∨ op = opOr ∨ (upperB op = op ∧ ¬ op = opAnd ∧ ¬ op = opOr) := by
    rw [twoB_iff] at ho
    rcases ho with rfl | rfl | rfl | rfl | rfl | rfl
    ·exact .inl rfl
    ·exact .inr (.inl rfl)
    all_goals exact .inr (.inr ⟨by decide, by decide, by decide⟩)
   clear hT hT2 h hf ha hfa hb hfb hfx hx hfy hy n1 n2 n3 n4 ho u2 c0 c1 c2 c3 c4 c5 d0 d1 d2 d3 d4 d5
   dsimp only [Ex.cells, Ex.op, Ex.v, Ex.s, Ex.l, V.zero, List.length_cons, List.length_nil] at q0 q1 q2 q3 q4 q5 HW ⊢
   rcases hop3 with hop | hop | ⟨hop, hna, hno⟩
   ·have hu : upperB op = [65, 78, 68] := by rw [hop]; rfl
    rw [hu]
    have o5 : (op == [97, 110, 100]) = true := by rw [hop]; rfl
    clear hop hu hul
    go_enter Tryz.func113, Tryz.ntmps113
    go_upto_region 1 with fail
    rw [show w.alloc _ = w0 from HW.out]
    clear HW
    go_wp2_with fail
    refine rgn HSX fun hHeld => ?_
    refine tS [0, 1, 2, 3, 7, 8, 9, 10] ?_
    iterate 8 (refine tC ?_; refine ap ?_)
    refine tN ?_
    refine rdy 4 fun K hK => ?_
    go_simp
    (refine (HC.out _ (by exact bl)).mono ?_) <;> rintro en w4 ⟨rfl, hb4⟩ <;> have hz4 := hb4.size <;> (try simp at hz4)
    go_wp2_with fail
    refine hK.out _ _ (HSX.out _ (by exact bl)) fun hHeld => ?_
    clear hK K
    refine ap ?_
    refine tS [5, 6] ?_
    iterate 2 (refine tC ?_; refine ap ?_)
    refine tN ?_
    refine rdy 11 fun K hK => ?_
    go_simp
    (refine (HC2.out _ (by exact bl)).mono ?_) <;> rintro en w11 ⟨rfl, hb11⟩ <;> have hz11 := hb11.size <;> (try simp at hz11)
    go_wp2_with fail
    refine hK.out _ _ (HSX.out _ (by exact bl)) fun hHeld => ?_
    clear hK K
    refine ap ?_
    refine tS [12, 13, 14] ?_
    iterate 3 (refine tC ?_; refine ap ?_)
    refine tN ?_
    refine wpAnyH_done (by kernel_rfl) ?_ _
    have hbL : Below w0.heap.size w0 w11 := by exact bl
    go_wp2_with fail
    go_ret
    exact ⟨by simp, (HBW.out _ hbL).1⟩
   ·have hu : upperB op = [79, 82] := by rw [hop]; rfl
    rw [hu]
    have o5 : (op == [97, 110, 100]) = false := by rw [hop]; rfl
    have o6 : (op == [111, 114]) = true := by rw [hop]; rfl
    clear hop hu hul
    go_enter Tryz.func113, Tryz.ntmps113
    go_upto_region 1 with fail
    rw [show w.alloc _ = w0 from HW.out]
    clear HW
    go_wp2_with fail
    refine rgn HSX fun hHeld => ?_
    refine tS [0, 1, 2, 3, 7, 8, 9, 10] ?_
    iterate 8 (refine tC ?_; refine ap ?_)
    refine tN ?_
    refine rdy 4 fun K hK => ?_
    go_simp
    (refine (HC.out _ (by exact bl)).mono ?_) <;> rintro en w4 ⟨rfl, hb4⟩ <;> have hz4 := hb4.size <;> (try simp at hz4)
    go_wp2_with fail
    refine hK.out _ _ (HSX.out _ (by exact bl)) fun hHeld => ?_
    clear hK K
    refine ap ?_
    refine tS [5, 6] ?_
    iterate 2 (refine tC ?_; refine ap ?_)
    refine tN ?_
    refine rdy 11 fun K hK => ?_
    go_simp
    (refine (HC2.out _ (by exact bl)).mono ?_) <;> rintro en w11 ⟨rfl, hb11⟩ <;> have hz11 := hb11.size <;> (try simp at hz11)
    go_wp2_with fail
    refine hK.out _ _ (HSX.out _ (by exact bl)) fun hHeld => ?_
    clear hK K
    refine ap ?_
    refine tS [12, 13, 14] ?_
    iterate 3 (refine tC ?_; refine ap ?_)
    refine tN ?_
    refine wpAnyH_done (by kernel_rfl) ?_ _
    have hbL : Below w0.heap.size w0 w11 := by exact bl
    go_wp2_with fail
    go_ret
    exact ⟨by simp, (HBW.out _ hbL).1⟩
   ·rw [hop]
    have o5 : (op == [97, 110, 100]) = false := by rw [beq_eq_false_iff_ne]; exact hna
    have o6 : (op == [111, 114]) = false := by rw [beq_eq_false_iff_ne]; exact hno
    clear hop hul hna hno
    go_enter Tryz.func113, Tryz.ntmps113
    go_upto_region 1 with fail
    rw [show w.alloc _ = w0 from HW.out]
    clear HW
    go_wp2_with fail
    refine rgn HSX fun hHeld => ?_
    refine tS [0, 1, 2, 3, 7, 8, 11, 12, 13, 14] ?_
    iterate 10 (refine tC ?_; refine ap ?_)
    refine tN ?_
    refine rdy 4 fun K hK => ?_
    go_simp
    (refine (HC.out _ (by exact bl)).mono ?_) <;> rintro en w4 ⟨rfl, hb4⟩ <;> have hz4 := hb4.size <;> (try simp at hz4)
    go_wp2_with fail
    refine hK.out _ _ (HSX.out _ (by exact bl)) fun hHeld => ?_
    clear hK K
    refine ap ?_
    refine tS [5, 6, 9, 10] ?_
    iterate 4 (refine tC ?_; refine ap ?_)
    refine tN ?_
    refine rdy 15 fun K hK => ?_
    go_simp
    (refine (HC2.out _ (by exact bl)).mono ?_) <;> rintro en w15 ⟨rfl, hb15⟩ <;> have hz15 := hb15.size <;> (try simp at hz15)
    go_wp2_with fail
    refine hK.out _ _ (HSX.out _ (by exact bl)) fun hHeld => ?_
    clear hK K
    refine ap ?_
    refine tS [16, 17, 18] ?_
    iterate 3 (refine tC ?_; refine ap ?_)
    refine tN ?_
    refine wpAnyH_done (by kernel_rfl) ?_ _
    have hbL : Below w0.heap.size w0 w15 := by exact bl
    go_wp2_with fail
    go_ret
    exact ⟨by simp, (HBW.out _ hbL).1⟩
end Go.Proofs.YtchilcchogcibaaGreatDoor
namespace Go.Proofs.YtchilcchogcibaaGreatDoor
open Go.RowKit
attribute [local go_sem] ByteArray.extract_mk ba_get
attribute [local go_sem ↓] Go.wp_at_zero Go.wp_at_succ
theorem run_nil_grs (A : Option Addr) (n c : Nat) (w : World) : (binOp .eql 22 (.slice A n c) (.slice none 0 0)).run Tryz.prog w = .ok (.bool A.isNone) w := Lib.run_eql_slice_nil w _ _ A n c 0 0 Tryz.underlying22
theorem info_grs : (Tryz.prog.info? 54).map (fun i => (i.zero, i.size, i.bytes)) = some (some (.agg #[.string ⟨#[]⟩, .string ⟨#[]⟩, .bool false]), 3, 40) := by kernel_rfl
attribute [local go_sem ↓] run_nil_grs
set_option maxHeartbeats 1000000 in
theorem clone_grs (A : Option Addr) (c n : Nat) (cs : List Value) (w : World) (hl : n ≤ 1000000) (h : Reads w w.heap.size 3 A n cs) (h1 : ∀ u ∈ cs, u.oneCell' = true) :
  Calls Tryz.prog 40 #[.slice A n c] w (RetOwn 54 3 n cs w) := by
 obtain ⟨i0, hi0, zi0, zi1, zi2⟩ := info_parts info_grs
 rcases A with _ | a
 ·have e : n = 0 := by
   rcases Nat.eq_zero_or_pos n with h0 | h0
   ·exact h0
   ·obtain ⟨ad, he, _⟩ := h.2 h0; cases he
  have hn : cs = [] := List.eq_nil_of_length_eq_zero (by have := h.1; rw [e] at this; simpa using this)
  have HE := Lib.hid e
  have HN := Lib.hid hn
  clear e hn h h1
  go_enter Tryz.func40, Tryz.ntmps40
  go_wp2
  go_ret
  exact ⟨_, rfl, by rw [HE.out, HN.out]; exact World.ownsRow_nil _ _ _ _, Below.refl _ _⟩
 ·have hown0 : (w.alloc (.cells #[] 54)).ownsRow w.heap.size 54 3 (.slice (some ⟨w.heap.size, 0, none⟩) 0 0) 0 [] := World.ownsRow_made w #[] 0 (Nat.le_refl _) (Nat.zero_le _) rfl
  have hba : Below w.heap.size w (w.alloc (.cells #[] 54)) := (Below.refl _ _).alloc (Nat.le_refl _) _
  have hva : Reads (w.alloc (.cells #[] 54)) w.heap.size 3 (some a) n cs := ⟨h.1, fun h0 => by
   obtain ⟨ad, e1, e2, e3⟩ := h.2 h0
   exact ⟨ad, e1, e2, fun j u hu => (hba.cell (p := ad.add j) (by rw [World.addr_add_block]; exact e2)).trans (e3 j u hu)⟩⟩
  have HV := Lib.hid hva
  have H1 := Lib.hid h1
  clear hva h h1
  go_enter Tryz.func40, Tryz.ntmps40
  go_wp2_with (at_builtin; refine wpList_append_any _ rfl (.tmp 5) (.tmp 6) 22 rfl w.heap.size 54 i0 _ 3 40 Tryz.underlying22 hi0 zi0 zi1 zi2 rfl (by decide) _ _ _ rfl hown0 w.heap.size (some a) n c _ rfl HV.out H1.out ?c1 ?c2 ?c3 ?_)
  case c1 => unfold maxLen; omega
  case c2 => omega
  case c3 => simp
  intro v5 w5 hown5 hg5 hat5
  have hb5 : Below w.heap.size w w5 := hba.grown hg5 (by simp) (by simp [Value.ownBlock])
  have HO : Hid (w5.ownsRow w.heap.size 54 3 v5 n cs) := by first | exact hown5 | (simp only [Nat.zero_add, List.nil_append] at hown5; exact hown5) | (have := hown5; simp at this; exact this)
  clear hown5 hg5 hat5
  go_wp2
  go_ret
  exact ⟨_, rfl, HO.out, hb5⟩
/-- A grant's cells. -/
def Gr.cells (g : Gr) : List Value := [.string ⟨g.r.toArray⟩, .string ⟨g.t.toArray⟩, .bool g.w]
def gcs (l : List Gr) : List Value := l.flatMap Gr.cells
theorem gcs_len (l : List Gr) : (gcs l).length = l.length * 3 := by
 induction l with
 | nil => rfl
 | cons x r ih => unfold gcs at *; rw [List.flatMap_cons, List.length_append, ih, List.length_cons]; simp [Gr.cells]; omega
theorem gcs_app (a b : List Gr) : gcs (a ++ b) = gcs a ++ gcs b := by unfold gcs; simp
theorem gcs_at : ∀ (l : List Gr) (i j : Nat) (v : Gr), l[i]? = some v → j < 3 → (gcs l)[i * 3 + j]? = v.cells[j]? := by
 intro l
 induction l with
 | nil => intro i j v h; simp at h
 | cons x r ih =>
  intro i j v h hj
  unfold gcs at *
  cases i with
  | zero =>
   simp at h; subst h
   rw [List.flatMap_cons, List.getElem?_append_left (by simp [Gr.cells]; omega)]
   simp
  | succ i =>
   rw [List.flatMap_cons, List.getElem?_append_right (by simp [Gr.cells]; omega)]
   have e : (i + 1) * 3 + j - x.cells.length = i * 3 + j := by simp [Gr.cells]; omega
   rw [e]
   exact ih i j v (by simpa using h) hj
theorem gcs_one (l : List Gr) : ∀ u ∈ gcs l, u.oneCell' = true := by
 intro u hu
 unfold gcs at hu
 rw [List.mem_flatMap] at hu
 obtain ⟨x, _, h⟩ := hu
 simp only [Gr.cells, List.mem_cons, List.not_mem_nil, or_false] at h
 rcases h with rfl | rfl | rfl <;> rfl
theorem GQ.reads {l : List Gr} {A : Option Addr} {w : World} (h : GQ l A (Old w.heap.size) w) : Reads w w.heap.size 3 A l.length (gcs l) := by
 refine ⟨gcs_len l, fun hn => ?_⟩
 obtain ⟨b, off, rfl, hb, hr⟩ := h hn
 refine ⟨⟨b, off, none⟩, rfl, hb, fun j u hu => ?_⟩
 have hj : j < (gcs l).length := (List.getElem?_eq_some_iff.1 hu).1
 rw [gcs_len] at hj
 obtain ⟨i, k, hk, rfl⟩ : ∃ i k, k < 3 ∧ j = i * 3 + k := ⟨j / 3, j % 3, Nat.mod_lt _ (by omega), by omega⟩
 have hi : i < l.length := by omega
 rw [gcs_at l i k l[i] (List.getElem?_eq_getElem hi) hk] at hu
 obtain ⟨c0, c1, c2⟩ := hr i l[i] (List.getElem?_eq_getElem hi)
 rw [add_mid]
 match k, hk with
 | 0, _ => simp [Gr.cells] at hu; subst hu; exact c0
 | 1, _ => simp [Gr.cells] at hu; subst hu; rw [← Nat.add_assoc]; exact c1
 | 2, _ => simp [Gr.cells] at hu; subst hu; rw [← Nat.add_assoc]; exact c2
/-- A row of grants of the call's own. -/
theorem GQ.own {w : World} {base : Nat} {e : TypeId} {sv : Value} {n : Nat} {l : List Gr} (h : w.ownsRow base e 3 sv n (gcs l)) :
  ∃ A c, sv = .slice A l.length c ∧ l.length ≤ c ∧ c ≤ maxLen ∧ GQ l A (fun b => base ≤ b ∧ b < w.heap.size) w := by
 have hn : l.length = n := by have := h.1; rw [gcs_len] at this; omega
 rcases h.2 with ⟨rfl, h0⟩ | ⟨g, cap, cur, rfl, hb, hg, hnc, hcm, hcs, htk⟩
 ·exact ⟨none, 0, by rw [hn, h0], by omega, Nat.zero_le _, fun hl => absurd hl (by omega)⟩
 ·refine ⟨some ⟨g, 0, none⟩, cap, by rw [hn], by omega, hcm, fun _ => ⟨g, 0, rfl, ⟨hb, (Array.getElem?_eq_some_iff.1 hg).1⟩, fun i v hv => ?_⟩⟩
  have hc := h.cells (g := g) rfl
  have key : ∀ j u, j < 3 → v.cells[j]? = some u → w.cell? ⟨g, 0 + i * 3 + j, none⟩ = some u := by
   intro j u hj hu
   have := hc (i * 3 + j) u (by rw [gcs_at l i j v hv hj]; exact hu)
   rw [add_mid] at this
   rw [Nat.add_assoc]
   exact this
  exact ⟨key 0 _ (by omega) rfl, key 1 _ (by omega) rfl, key 2 _ (by omega) rfl⟩
end Go.Proofs.YtchilcchogcibaaGreatDoor
namespace Go.Proofs.YtchilcchogcibaaGreatDoor
open Go.RowKit
attribute [local go_sem] ByteArray.extract_mk ba_get ba_append
attribute [local go_sem ↓] Go.wp_at_zero Go.wp_at_succ run_eql_G
/-- Grants in a slice of the call's own. -/
def RetGs (l : List Gr) (w : World) (en : Ending) (w' : World) : Prop := ∃ sv, en = .returned sv ∧ w'.ownsRow w.heap.size 54 3 sv l.length (gcs l) ∧ Below w.heap.size w w'
theorem gcs_snoc (l : List Gr) (x : Gr) : gcs (l ++ [x]) = gcs l ++ [.string ⟨x.r.toArray⟩, .string ⟨x.t.toArray⟩, .bool x.w] := by rw [gcs_app]; rfl
theorem infoGr : (Tryz.prog.info? 54).map (fun i => (i.zero, i.size, i.bytes)) = some (some (.agg #[.string ⟨#[]⟩, .string ⟨#[]⟩, .bool false]), 3, 40) := by kernel_rfl
theorem doC_any (x y : Gr) (g : Nat) (w : World) (h0 : w.cell? ⟨g, 0, none⟩ = some (.string ⟨y.r.toArray⟩)) (h1 : w.cell? ⟨g, 1, none⟩ = some (.string ⟨y.t.toArray⟩)) (h2 : w.cell? ⟨g, 2, none⟩ = some (.bool y.w)) :
  Calls Tryz.prog 41 #[.agg #[.string ⟨x.r.toArray⟩, .string ⟨x.t.toArray⟩, .bool x.w], .pointer (some ⟨g, 0, none⟩)] w (Ret (.bool (decide (x = y))) w) := by
 have hg : g < w.heap.size := Blk_lt_of_cell h0
 have HE := Lib.hid (eqG_iff x y)
 rw [← HE.out]
 go_enter Tryz.func41, Tryz.ntmps41
 go_wp2_with fail
 go_ret
 exact ⟨rfl, by exact bl⟩
theorem withC_any (x y : Gr) (g : Nat) (w : World) (h0 : w.cell? ⟨g, 0, none⟩ = some (.string ⟨y.r.toArray⟩)) (h1 : w.cell? ⟨g, 1, none⟩ = some (.string ⟨y.t.toArray⟩)) (h2 : w.cell? ⟨g, 2, none⟩ = some (.bool y.w)) :
  Calls Tryz.prog 62 #[.agg #[.string ⟨x.r.toArray⟩, .string ⟨x.t.toArray⟩, .bool x.w], .pointer (some ⟨g, 0, none⟩)] w (Ret (.bool (decide (0 < gord x y))) w) := by
 have hg : g < w.heap.size := Blk_lt_of_cell h0
 have HO := Lib.hid (order_any x y)
 obtain ⟨O, hO⟩ : ∃ O, gord x y = O := ⟨_, rfl⟩
 rw [hO] at HO ⊢
 clear hO
 go_enter Tryz.func62, Tryz.ntmps62
 go_wp2_with fail
 refine (HO.out _).mono ?_
 rintro en w1 ⟨rfl, hb1⟩
 have hz1 := hb1.size
 go_wp2_with fail
 go_ret
 exact ⟨rfl, Below.trans (b := _) (by exact bl) (hb1.mono (by simp))⟩
end Go.Proofs.YtchilcchogcibaaGreatDoor
namespace Go.Proofs.YtchilcchogcibaaGreatDoor
open Go.RowKit
theorem run_neq_G (r t : List UInt8) (u : Bool) (r' t' : List UInt8) (u' : Bool) (w : World) :
  (binOp .neq 54 (.agg #[.string ⟨r.toArray⟩, .string ⟨t.toArray⟩, .bool u]) (.agg #[.string ⟨r'.toArray⟩, .string ⟨t'.toArray⟩, .bool u'])).run Tryz.prog w = .ok (.bool (!eqG ⟨r, t, u⟩ ⟨r', t', u'⟩)) w := by
 by_cases h1 : r = r' <;> by_cases h2 : t = t' <;> cases u <;> cases u' <;> simp [go_sem, eqG, h1, h2, Tryz.underlying54, Tryz.underlying9, Tryz.underlying4]
attribute [local go_sem] ByteArray.extract_mk ba_get ba_append
attribute [local go_sem ↓] Go.wp_at_zero Go.wp_at_succ run_eql_G run_neq_G
set_option maxRecDepth 100000 in
set_option maxHeartbeats 4000000 in
theorem rsameG_any (A B : Option Addr) (c d : Nat) (a b : List Gr) (w : World) (ha : a.length ≤ 1000000) (hb : b.length ≤ 1000000) (hA : GQ a A (Old w.heap.size) w) (hB : GQ b B (Old w.heap.size) w) :
  Calls Tryz.prog 17 #[.slice A a.length c, .slice B b.length d] w (Ret (.bool (decide (a = b))) w) := by
 obtain ⟨N, hN⟩ : ∃ N, a.length = N := ⟨_, rfl⟩
 obtain ⟨M, hM⟩ : ∃ N, b.length = N := ⟨_, rfl⟩
 have HN := Lib.hid hN
 have HM := Lib.hid hM
 obtain ⟨R, hR⟩ : ∃ R, decide (a = b) = R := ⟨_, rfl⟩
 rw [hR]
 have HR := Lib.hid hR
 have HQA : Hid (∀ Z : World, Below w.heap.size w Z → GQ a A (Old w.heap.size) Z) := fun Z hz => hA.keep fun b hb => ⟨hb, fun o => hz.cell (p := ⟨b, o, none⟩) hb⟩
 have HQB : Hid (∀ Z : World, Below w.heap.size w Z → GQ b B (Old w.heap.size) Z) := fun Z hz => hB.keep fun b hb => ⟨hb, fun o => hz.cell (p := ⟨b, o, none⟩) hb⟩
 rw [hN] at ha ⊢
 rw [hM] at hb ⊢
 clear hN hM hR hA hB
 by_cases hl : N = M
 ·subst hl
  go_enter Tryz.func17, Tryz.ntmps17
  go_wp2_with fail
  go_loopw [5] (fun i wr => ∃ j : Nat, j ≤ N ∧ i = .int .i64 j ∧ Hid (a.take j = b.take j) ∧ Below w.heap.size w wr) (fun i _ => N - (intOf i).toNat)
  case atStart => exact ⟨0, by omega, rfl, by show _ = _; simp, Below.refl _ _⟩
  case round =>
   obtain ⟨j, hj, rfl, HJ, hbw⟩ := hrel
   obtain ⟨W, rfl⟩ : ∃ W, W = wr := ⟨_, rfl⟩
   have hzw := hbw.size
   by_cases hlt : j < N
   ·obtain ⟨b1, o1, x, rfl, hb1, hv, c0, c1, c2⟩ := (HQA.out _ hbw).at_ (j := j) (by rw [HN.out]; exact hlt)
    obtain ⟨b2, o2, y, rfl, hb2, hv2, d0, d1, d2⟩ := (HQB.out _ hbw).at_ (j := j) (by rw [HM.out]; exact hlt)
    have l1 : b1 < w.heap.size := hb1
    have l2 : b2 < w.heap.size := hb2
    have HSH : Hid (∀ Z : World, Below W.heap.size W Z → (Z.cell? ⟨b1, o1 + j * 3, none⟩ = some (.string ⟨x.r.toArray⟩) ∧ Z.cell? ⟨b1, o1 + j * 3 + 1, none⟩ = some (.string ⟨x.t.toArray⟩) ∧ Z.cell? ⟨b1, o1 + j * 3 + 2, none⟩ = some (.bool x.w)) ∧ Z.cell? ⟨b2, o2 + j * 3, none⟩ = some (.string ⟨y.r.toArray⟩) ∧ Z.cell? ⟨b2, o2 + j * 3 + 1, none⟩ = some (.string ⟨y.t.toArray⟩) ∧ Z.cell? ⟨b2, o2 + j * 3 + 2, none⟩ = some (.bool y.w)) := fun Z hz => by
     have h1 : ∀ o, Z.cell? ⟨b1, o, none⟩ = W.cell? ⟨b1, o, none⟩ := fun o => hz.cell (p := ⟨b1, o, none⟩) (show b1 < _ by omega)
     have h2 : ∀ o, Z.cell? ⟨b2, o, none⟩ = W.cell? ⟨b2, o, none⟩ := fun o => hz.cell (p := ⟨b2, o, none⟩) (show b2 < _ by omega)
     exact ⟨⟨(h1 _).trans c0, (h1 _).trans c1, (h1 _).trans c2⟩, (h2 _).trans d0, (h2 _).trans d1, (h2 _).trans d2⟩
    have HE : Hid (eqG x y = decide (x = y)) := eqG_iff x y
    have HT : Hid (x = y → a.take (j + 1) = b.take (j + 1)) := fun e => by rw [List.take_add_one, List.take_add_one, hv, hv2, HJ.out, e]
    have HF0 : Hid (¬ x = y → R = false) := fun e => by
     rw [← HR.out]
     exact decide_eq_false fun h => e (by rw [h, hv2] at hv; cases hv; rfl)
    have g10 : (0 : Int) ≤ (j : Int) := by omega
    have g11 : (j : Int) < (N : Int) := by omega
    clear hv hv2 c0 c1 c2 d0 d1 d2
    go_wp2_with fail
    refine rgn HSH fun hHeld => ?_
    refine tS [0, 1, 2, 3, 4, 5, 6, 7, 8] ?_
    iterate 9 (refine tC ?_; refine ap ?_)
    refine tN ?_
    refine wpAnyH_done (by kernel_rfl) ?_ _
    have hbd : Below w.heap.size w W.drew := hbw.trans ((show Below W.heap.size W W.drew by exact bl).mono hzw)
    have HBD := Lib.hid hbd
    clear hbd
    obtain ⟨E, hE⟩ : ∃ E, eqG ⟨x.r, x.t, x.w⟩ ⟨y.r, y.t, y.w⟩ = E := ⟨_, rfl⟩
    rw [hE]
    have HE2 : Hid (E = decide (x = y)) := by show _ = _; rw [← hE]; exact HE.out
    clear hE HE
    cases E with
    | false =>
     have HF : Hid (R = false) := HF0.out (by have := HE2.out; simpa using this)
     clear HE2 HT HF0 HJ HR
     go_wp2_with fail
     go_ret
     exact ⟨by rw [HF.out]; rfl, HBD.out⟩
    | true =>
     have HF : Hid (a.take (j + 1) = b.take (j + 1)) := HT.out (by have := HE2.out; simpa using this)
     clear HE2 HT HF0 HJ
     go_wp2_with fail
     go_roundw
     case rel => exact ⟨j + 1, by omega, by go_num, HF, HBD.out⟩
     case measure => simp [intOf]; omega
   ·obtain rfl : j = N := by omega
    have HF : Hid (R = true) := by
     show _ = _
     have := HJ.out
     rw [← HN.out, List.take_length, HN.out, ← HM.out, List.take_length] at this
     rw [← HR.out]
     exact decide_eq_true this
    have g11 : ¬ (j : Int) < (j : Int) := by omega
    clear HJ hlt
    go_wp2_with fail
    go_ret
    exact ⟨by rw [HF.out]; rfl, hbw⟩
 ·have HF : Hid (R = false) := by
   show _ = _
   rw [← HR.out]
   exact decide_eq_false fun h => hl (by rw [← HN.out, ← HM.out, h])
  have e1 : ((N : Int) != (M : Int)) = true := by simp; omega
  have e2 : ¬ (N : Int) = (M : Int) := by omega
  clear HR
  go_enter Tryz.func17, Tryz.ntmps17
  go_wp2_with fail
  go_ret
  exact ⟨by rw [HF.out]; rfl, by exact bl⟩
end Go.Proofs.YtchilcchogcibaaGreatDoor
