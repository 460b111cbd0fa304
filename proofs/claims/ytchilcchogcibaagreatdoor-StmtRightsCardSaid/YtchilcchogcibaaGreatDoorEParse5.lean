/- The parser's comparison as a plain function. Condition: what a sum is is known (PartC).. -/
import Derived.Test.YtchilcchogcibaaGreatDoorEParse4
set_option maxRecDepth 100000
set_option maxHeartbeats 8000000
namespace Go.Proofs.YtchilcchogcibaaGreatDoor
open Go.RowKit
attribute [local go_sem] ByteArray.extract_mk ba_get ba_append
attribute [local go_sem ↓] Go.wp_at_zero Go.wp_at_succ run_eql_V run_neq_V
theorem twoed_end {p : Nat} {A : Option Addr} {c : Nat} {l : List Tok} {deep : Nat} {w X : World} {op : List UInt8} {e e5 : Ex} {A' A5 : Option Addr} {c' c5 g a : Nat} {b : Bool} (ho : op.length ≤ 1000) (hg : w.heap.size ≤ g) (hpg : p < g) (hE : ExR (fun x => w.heap.size ≤ x ∧ x < X.heap.size ∧ x ≠ g) e A' c' X) (hE5 : ExR (fun x => w.heap.size ≤ x ∧ x < X.heap.size ∧ x ≠ g) e5 A5 c5 X)
  (hP : PSt p A c l a deep X) (hb : But p w X) :
  RetPE (.mk op V.zero [] [e, e5], b, a) p A c l deep w (.returned (.tuple #[.agg ((Ex.mk op V.zero [] [e, e5]).cells (some ⟨X.heap.size, 0, none⟩) 2).toArray, .bool b]))
   (((((((X.setCell ⟨g, 0, none⟩ (.string ⟨op.toArray⟩)).setCell ⟨g, 1, none⟩ (.int .i64 0)).setCell ⟨g, 2, none⟩ (.int .i64 0)).setCell ⟨g, 3, none⟩ (.string ⟨#[]⟩)).setCell ⟨g, 4, none⟩ (.string ⟨#[]⟩)).setCell ⟨g, 5, none⟩ (.slice (some ⟨X.heap.size, 0, none⟩) 2 2)).alloc (.cells #[.string ⟨e.op.toArray⟩, .int .i64 e.v.k, .int .i64 e.v.i, .string ⟨e.v.s.toArray⟩, .string ⟨e.s.toArray⟩, .slice A' e.l.length c', .string ⟨e5.op.toArray⟩, .int .i64 e5.v.k, .int .i64 e5.v.i, .string ⟨e5.v.s.toArray⟩, .string ⟨e5.s.toArray⟩, .slice A5 e5.l.length c5] 30)) := by
 have hB := But.sixSet X g (.string ⟨op.toArray⟩) (.int .i64 0) (.int .i64 0) (.string ⟨#[]⟩) (.string ⟨#[]⟩) (.slice (some ⟨X.heap.size, 0, none⟩) 2 2)
 have hP1 := hP.far hB hpg
 have hbs := hb.sixOwn hg (.string ⟨op.toArray⟩) (.int .i64 0) (.int .i64 0) (.string ⟨#[]⟩) (.string ⟨#[]⟩) (.slice (some ⟨X.heap.size, 0, none⟩) 2 2)
 have hsz : ((((((X.setCell ⟨g, 0, none⟩ (.string ⟨op.toArray⟩)).setCell ⟨g, 1, none⟩ (.int .i64 0)).setCell ⟨g, 2, none⟩ (.int .i64 0)).setCell ⟨g, 3, none⟩ (.string ⟨#[]⟩)).setCell ⟨g, 4, none⟩ (.string ⟨#[]⟩)).setCell ⟨g, 5, none⟩ (.slice (some ⟨X.heap.size, 0, none⟩) 2 2)).heap.size = X.heap.size := by simp
 have hE1 := hE.keep (Q' := fun x => w.heap.size ≤ x ∧ x < X.heap.size ∧ x ≠ g) fun x hx => ⟨hx, fun o => hB.cell hx.2.1 hx.2.2 o⟩
 have hE51 := hE5.keep (Q' := fun x => w.heap.size ≤ x ∧ x < X.heap.size ∧ x ≠ g) fun x hx => ⟨hx, fun o => hB.cell hx.2.1 hx.2.2 o⟩
 generalize ((((((X.setCell ⟨g, 0, none⟩ (.string ⟨op.toArray⟩)).setCell ⟨g, 1, none⟩ (.int .i64 0)).setCell ⟨g, 2, none⟩ (.int .i64 0)).setCell ⟨g, 3, none⟩ (.string ⟨#[]⟩)).setCell ⟨g, 4, none⟩ (.string ⟨#[]⟩)).setCell ⟨g, 5, none⟩ (.slice (some ⟨X.heap.size, 0, none⟩) 2 2)) = Y at *
 have hz := hb.size
 have hbl : Below Y.heap.size Y (Y.alloc (.cells (e.cells A' c' ++ e5.cells A5 c5).toArray 30)) := (Below.refl _ _).alloc (Nat.le_refl _) _
 refine ⟨some ⟨X.heap.size, 0, none⟩, 2, rfl, ?_, hP1.but hbl, hbs.after hbl⟩
 refine ExR.two (t := 30) (hE1.keep fun x hx => ⟨⟨hx.1, by simp; omega⟩, fun o => hbl.cell (p := ⟨x, o, none⟩) (show x < Y.heap.size by omega)⟩) (hE51.keep fun x hx => ⟨⟨hx.1, by simp; omega⟩, fun o => hbl.cell (p := ⟨x, o, none⟩) (show x < Y.heap.size by omega)⟩) (Blk.new' Y X.heap.size _ _ hsz) ⟨by omega, by simp; omega⟩ ho
theorem oned_end1 {p : Nat} {A : Option Addr} {c : Nat} {l : List Tok} {deep : Nat} {w X : World} {op : List UInt8} {e : Ex} {A' : Option Addr} {c' g gs a : Nat} {b : Bool} (ho : op.length ≤ 1000) (hg : w.heap.size ≤ g) (hpg : p < g) (hE : ExR (fun x => w.heap.size ≤ x ∧ x < X.heap.size ∧ x ≠ g) e A' c' X)
  (ks : Blk X gs 30 (e.cells A' c').toArray) (hgs : w.heap.size ≤ gs) (hgg : gs ≠ g) (hP : PSt p A c l a deep X) (hb : But p w X) :
  RetPE (.mk op V.zero [] [e], b, a) p A c l deep w (.returned (.tuple #[.agg ((Ex.mk op V.zero [] [e]).cells (some ⟨gs, 0, none⟩) 1).toArray, .bool b]))
   ((((((X.setCell ⟨g, 0, none⟩ (.string ⟨op.toArray⟩)).setCell ⟨g, 1, none⟩ (.int .i64 0)).setCell ⟨g, 2, none⟩ (.int .i64 0)).setCell ⟨g, 3, none⟩ (.string ⟨#[]⟩)).setCell ⟨g, 4, none⟩ (.string ⟨#[]⟩)).setCell ⟨g, 5, none⟩ (.slice (some ⟨gs, 0, none⟩) 1 1)) :=
 retPE_end rfl hg hpg (ExR.one hE ks ⟨hgs, ks.lt, hgg⟩ ho) hP hb _ _ _ _ _ _
def cmpWs : List (List UInt8) := [[61], [60], [73, 83]]
def compF (l : List Tok) (Fs : Nat → Ex × Bool × Nat) (a : Nat) : Ex × Bool × Nat :=
 if (Fs a).2.1 then (match takenF l (Fs a).2.2 cmpWs with
  | none => ((Fs a).1, true, (Fs a).2.2)
  | some x => if x = [73, 83] then (.mk opNull V.zero [] [(Fs a).1], hit l ((Fs a).2.2 + 1) [78, 85, 76, 76], if hit l ((Fs a).2.2 + 1) [78, 85, 76, 76] then (Fs a).2.2 + 1 + 1 else (Fs a).2.2 + 1)
   else (.mk x V.zero [] [(Fs a).1, (Fs ((Fs a).2.2 + 1)).1], (Fs ((Fs a).2.2 + 1)).2.1, (Fs ((Fs a).2.2 + 1)).2.2))
 else ((Fs a).1, false, (Fs a).2.2)
theorem hit_lt {l : List Tok} {a : Nat} {x : List UInt8} (h : hit l a x = true) : a < l.length := by
 unfold hit at h
 split at h
 ·cases h
 ·rename_i t ht
  exact (List.getElem?_eq_some_iff.1 ht).1
theorem comp_in (l : List Tok) (Fs : Nat → Ex × Bool × Nat) (hF : ∀ a, a ≤ l.length → a ≤ (Fs a).2.2 ∧ (Fs a).2.2 ≤ l.length) (a : Nat) (ha : a ≤ l.length) : a ≤ (compF l Fs a).2.2 ∧ (compF l Fs a).2.2 ≤ l.length := by
 have h1 := hF a ha
 unfold compF
 split
 ·split
  ·exact h1
  ·rename_i x hx
   have h2 := (takenF_lt hx).1
   split
   ·simp only
    split
    ·rename_i hh
     have := hit_lt hh
     omega
    ·omega
   ·have h3 := hF ((Fs a).2.2 + 1) (by omega)
    simp only
    omega
 ·exact h1
theorem comp_part (p : Nat) (A : Option Addr) (c : Nat) (l : List Tok) (deep : Nat) (Fs : Nat → Ex × Bool × Nat) (hll : l.length ≤ 990) (hC : PartC 262 p A c l deep Fs) : PartC 260 p A c l deep (compF l Fs) := by
 refine ⟨comp_in l Fs hC.1, fun a w ha hP => ?_⟩
 have lp := hP.1.lt
 have hFa := hC.1 a ha
 have HC := Lib.hid hC
 obtain ⟨R, hR⟩ : ∃ R, compF l Fs a = R := ⟨_, rfl⟩
 rw [hR]
 obtain ⟨w0, hw0⟩ : ∃ w0, w.alloc (.cells (exZero.cells none 0).toArray 30) = w0 := ⟨_, rfl⟩
 have kR0 : Blk w0 w.heap.size 30 (exZero.cells none 0).toArray := by rw [← hw0]; exact Blk.new _ _ _
 have hb0 : Below w.heap.size w w0 := by rw [← hw0]; exact bl
 have hs0 : w0.heap.size = w.heap.size + 1 := by rw [← hw0]; simp
 have HW := Lib.hid hw0
 have HP0 := Lib.hid (hP.but hb0)
 clear hw0 hP hC
 obtain ⟨Q, hQ⟩ : ∃ Q, Fs a = Q := ⟨_, rfl⟩
 unfold compF at hR
 rw [hQ] at hR hFa
 obtain ⟨e1, ok1, a1⟩ := Q
 have HQ := Lib.hid hQ
 simp only at hR hFa
 have HR := Lib.hid hR
 clear hQ hR
 go_in
 go_upto_region 1 with fail
 rw [show w.alloc (.cells #[.string ⟨#[]⟩, .int .i64 0, .int .i64 0, .string ⟨#[]⟩, .string ⟨#[]⟩, .slice none 0 0] 30) = w0 from HW.out]
 clear HW
 go_wp2_with fail
 refine (HC.out.2 a w0 ha HP0.out).mono ?_
 rw [HQ.out]
 rintro en w1 ⟨A1, c1, rfl, hE1, hP1, hb1⟩
 dsimp only [Ex.cells]
 obtain ⟨w2, hw2⟩ : ∃ w2, w1.alloc (.cells (e1.cells A1 c1).toArray 30) = w2 := ⟨_, rfl⟩
 have kB2 : Blk w2 w1.heap.size 30 (e1.cells A1 c1).toArray := by rw [← hw2]; exact Blk.new _ _ _
 have hb2 : Below w1.heap.size w1 w2 := by rw [← hw2]; exact bl
 have hs2 : w2.heap.size = w1.heap.size + 1 := by rw [← hw2]; simp
 have HW2 := Lib.hid hw2
 clear hw2
 have hz1 := hb1.size
 have kR2 := (hb1.blk kR0 (by omega)).below hb2 (by omega)
 have HP2 := Lib.hid (hP1.but hb2)
 have HE2 : Hid (ExR (fun x => w.heap.size < x ∧ x < w2.heap.size) e1 A1 c1 w2) := hE1.keep fun x hx => ⟨⟨by omega, by omega⟩, fun o => hb2.cell (p := ⟨x, o, none⟩) hx.2⟩
 have hbw2 : But p w w2 := ((But.of_below hb0).trans hb1).after hb2
 clear hP1 hE1 hb1 hb2 kR0 HP0
 go_upto_region 2 with fail
 rw [show w1.alloc (.cells #[.string ⟨e1.op.toArray⟩, .int .i64 e1.v.k, .int .i64 e1.v.i, .string ⟨e1.v.s.toArray⟩, .string ⟨e1.s.toArray⟩, .slice A1 e1.l.length c1] 30) = w2 from HW2.out]
 clear HW2
 obtain ⟨G, hG⟩ : ∃ G, w1.heap.size = G := ⟨_, rfl⟩
 rw [hG] at kB2 hz1 hs2 ⊢
 have hGw : w.heap.size < G := by omega
 clear hG hz1 hs2 hs0 hb0
 have lB2 := kB2.lt
 have lR2 := kR2.lt
 cases ok1
 ·have HF : Hid (R = (e1, false, a1)) := HR.out.symm
  clear HR
  obtain ⟨q0, q1, q2, q3, q4, q5⟩ := kB2.six
  obtain ⟨z0, z1, z2, z3, z4, z5⟩ := kR2.sixF
  obtain ⟨r0, r1, r2, r3, r4, r5⟩ := kR2.six
  go_wp2_with fail
  refine bodyPost_ret (v := .tuple #[.agg (e1.cells A1 c1).toArray, .bool false]) (by simp [results, Tryz.results260, go_sem, *, Ex.cells]) rfl ?_
  exact retPE_end HF.out (Nat.le_refl _) lp (HE2.out.keep fun x hx => ⟨⟨by omega, hx.2, by omega⟩, fun o => rfl⟩) HP2.out hbw2 _ _ _ _ _ _
 obtain ⟨w3, hw3⟩ : ∃ w3, w2.alloc (.cells #[.string ⟨#[61]⟩, .string ⟨#[60]⟩, .string ⟨#[73, 83]⟩] 9) = w3 := ⟨_, rfl⟩
 have kg3 : Blk w3 w2.heap.size 9 (cmpWs.map strV).toArray := by rw [← hw3]; exact Blk.new _ _ _
 have hb3 : Below w2.heap.size w2 w3 := by rw [← hw3]; exact bl
 have hs3 : w3.heap.size = w2.heap.size + 1 := by rw [← hw3]; simp
 have HW3 := Lib.hid hw3
 clear hw3
 have kB3 := kB2.below hb3 lB2
 have kR3 := kR2.below hb3 lR2
 have HP3 := Lib.hid (HP2.out.but hb3)
 have HE3 : Hid (ExR (fun x => w.heap.size < x ∧ x < w3.heap.size) e1 A1 c1 w3) := HE2.out.keep fun x hx => ⟨⟨hx.1, by omega⟩, fun o => hb3.cell (p := ⟨x, o, none⟩) hx.2⟩
 have hbw3 := hbw2.after hb3
 have hgp : w2.heap.size ≠ p := by omega
 clear HP2 HE2 kB2 kR2 hbw2 hb3 hs3
 go_wp2_with fail
 rw [HW3.out]
 clear HW3
 refine (taken_any p A c l a1 deep w2.heap.size cmpWs w3 (by omega) (by decide) hgp HP3.out kg3 3).mono ?_
 obtain ⟨O, hO⟩ : ∃ O, takenF l a1 cmpWs = O := ⟨_, rfl⟩
 have hR := HR.out
 rw [hO] at hR ⊢
 simp only [if_true] at hR
 rintro en w4 ⟨rfl, hP4, hb4⟩
 have hz4 := hb4.size
 have kB4 := hb4.blk kB3 (by omega)
 have kR4 := hb4.blk kR3 (by omega)
 have lB4 := kB4.lt
 have lR4 := kR4.lt
 have HE4 : Hid (ExR (fun x => w.heap.size < x ∧ x < w4.heap.size) e1 A1 c1 w4) := HE3.out.keep fun x hx => ⟨⟨hx.1, by omega⟩, fun o => hb4.cell hx.2 (by omega) o⟩
 have hbw4 := hbw3.trans hb4
 have HP4 := Lib.hid hP4
 clear hP4 HE3 HP3 kB3 kR3 kg3 hbw3 hb4 HR HQ lB2 lR2 hz4
 cases O with
 | none =>
  have HF : Hid (R = (e1, true, a1)) := hR.symm
  clear hR
  obtain ⟨q0, q1, q2, q3, q4, q5⟩ := kB4.six
  obtain ⟨z0, z1, z2, z3, z4, z5⟩ := kR4.sixF
  obtain ⟨r0, r1, r2, r3, r4, r5⟩ := kR4.six
  go_wp2_with fail
  refine bodyPost_ret (v := .tuple #[.agg (e1.cells A1 c1).toArray, .bool true]) (by simp [results, Tryz.results260, go_sem, *, Ex.cells]) rfl ?_
  exact retPE_end HF.out (Nat.le_refl _) lp (HE4.out.keep fun x hx => ⟨⟨by omega, hx.2, by omega⟩, fun o => rfl⟩) HP4.out hbw4 _ _ _ _ _ _
 | some x =>
  obtain ⟨halt, hxw⟩ := takenF_lt hO
  simp only at hR
  have HP5 : Hid (PSt p A c l (a1 + 1) deep w4) := HP4.out
  clear HP4 hO
  simp only [cmpWs, List.mem_cons, List.not_mem_nil, or_false] at hxw
  rcases hxw with rfl | rfl | rfl
  ·
   have eIS : (([61] : List UInt8) == [73, 83]) = false := by decide
   rw [if_neg (by decide)] at hR
   have hFn := HC.out.1 (a1 + 1) (by omega)
   obtain ⟨Q, hQ⟩ : ∃ Q, Fs (a1 + 1) = Q := ⟨_, rfl⟩
   rw [hQ] at hR hFn
   obtain ⟨e5, ok5, a5⟩ := Q
   have HQ := Lib.hid hQ
   simp only at hR
   have HF := Lib.hid hR
   clear hR hQ
   go_wp2_with fail
   refine (HC.out.2 (a1 + 1) w4 (by omega) HP5.out).mono ?_
   rw [HQ.out]
   rintro en w5 ⟨A5, c5, rfl, hE5, hP6, hb5⟩
   dsimp only [Ex.cells]
   have hz5 := hb5.size
   obtain ⟨w6, hw6⟩ : ∃ w6, w5.alloc (.cells (e5.cells A5 c5).toArray 30) = w6 := ⟨_, rfl⟩
   have kC6 : Blk w6 w5.heap.size 30 (e5.cells A5 c5).toArray := by rw [← hw6]; exact Blk.new _ _ _
   have hb6 : Below w5.heap.size w5 w6 := by rw [← hw6]; exact bl
   have hs6 : w6.heap.size = w5.heap.size + 1 := by rw [← hw6]; simp
   have HW6 := Lib.hid hw6
   clear hw6
   have kB6 := (hb5.blk kB4 (by omega)).below hb6 (by omega)
   have kR6 := (hb5.blk kR4 (by omega)).below hb6 (by omega)
   have lB6 := kB6.lt
   have lR6 := kR6.lt
   have lC6 := kC6.lt
   have HE6 : Hid (ExR (fun x => w.heap.size ≤ x ∧ x < w6.heap.size ∧ x ≠ w.heap.size) e1 A1 c1 w6) := HE4.out.keep fun x hx => ⟨⟨by omega, by omega, by omega⟩, fun o => (hb6.cell (p := ⟨x, o, none⟩) (show x < _ by omega)).trans (hb5.cell hx.2 (by omega) o)⟩
   have HN6 : Hid (ExR (fun x => w.heap.size ≤ x ∧ x < w6.heap.size ∧ x ≠ w.heap.size) e5 A5 c5 w6) := hE5.keep fun x hx => ⟨⟨by omega, by omega, by omega⟩, fun o => hb6.cell (p := ⟨x, o, none⟩) hx.2⟩
   have HP7 := Lib.hid (hP6.but hb6)
   have hbw6 := (hbw4.trans hb5).after hb6
   clear hE5 hP6 HE4 HP5 kB4 kR4 hbw4 hb5 hb6 hs6 hz5 lB4 lR4
   obtain ⟨z0, z1, z2, z3, z4, z5⟩ := kR6.sixF
   obtain ⟨r0, r1, r2, r3, r4, r5⟩ := kR6.six
   obtain ⟨q0, q1, q2, q3, q4, q5⟩ := kB6.six
   obtain ⟨s0, s1, s2, s3, s4, s5⟩ := kC6.six
   go_upto_region 7 with fail
   rw [show w5.alloc (.cells #[.string ⟨e5.op.toArray⟩, .int .i64 e5.v.k, .int .i64 e5.v.i, .string ⟨e5.v.s.toArray⟩, .string ⟨e5.s.toArray⟩, .slice A5 e5.l.length c5] 30) = w6 from HW6.out]
   clear HW6
   go_wp2_with fail
   refine bodyPost_ret (v := .tuple #[.agg ((Ex.mk [61] V.zero [] [e1, e5]).cells (some ⟨w6.heap.size, 0, none⟩) 2).toArray, .bool ok5]) (by simp [results, Tryz.results260, go_sem, *, Ex.cells, Ex.op, Ex.v, Ex.s, Ex.l, V.zero]) rfl ?_
   rw [← HF.out]
   exact twoed_end (by decide) (Nat.le_refl _) lp HE6.out HN6.out HP7.out hbw6
  ·
   have eIS : (([60] : List UInt8) == [73, 83]) = false := by decide
   rw [if_neg (by decide)] at hR
   have hFn := HC.out.1 (a1 + 1) (by omega)
   obtain ⟨Q, hQ⟩ : ∃ Q, Fs (a1 + 1) = Q := ⟨_, rfl⟩
   rw [hQ] at hR hFn
   obtain ⟨e5, ok5, a5⟩ := Q
   have HQ := Lib.hid hQ
   simp only at hR
   have HF := Lib.hid hR
   clear hR hQ
   go_wp2_with fail
   refine (HC.out.2 (a1 + 1) w4 (by omega) HP5.out).mono ?_
   rw [HQ.out]
   rintro en w5 ⟨A5, c5, rfl, hE5, hP6, hb5⟩
   dsimp only [Ex.cells]
   have hz5 := hb5.size
   obtain ⟨w6, hw6⟩ : ∃ w6, w5.alloc (.cells (e5.cells A5 c5).toArray 30) = w6 := ⟨_, rfl⟩
   have kC6 : Blk w6 w5.heap.size 30 (e5.cells A5 c5).toArray := by rw [← hw6]; exact Blk.new _ _ _
   have hb6 : Below w5.heap.size w5 w6 := by rw [← hw6]; exact bl
   have hs6 : w6.heap.size = w5.heap.size + 1 := by rw [← hw6]; simp
   have HW6 := Lib.hid hw6
   clear hw6
   have kB6 := (hb5.blk kB4 (by omega)).below hb6 (by omega)
   have kR6 := (hb5.blk kR4 (by omega)).below hb6 (by omega)
   have lB6 := kB6.lt
   have lR6 := kR6.lt
   have lC6 := kC6.lt
   have HE6 : Hid (ExR (fun x => w.heap.size ≤ x ∧ x < w6.heap.size ∧ x ≠ w.heap.size) e1 A1 c1 w6) := HE4.out.keep fun x hx => ⟨⟨by omega, by omega, by omega⟩, fun o => (hb6.cell (p := ⟨x, o, none⟩) (show x < _ by omega)).trans (hb5.cell hx.2 (by omega) o)⟩
   have HN6 : Hid (ExR (fun x => w.heap.size ≤ x ∧ x < w6.heap.size ∧ x ≠ w.heap.size) e5 A5 c5 w6) := hE5.keep fun x hx => ⟨⟨by omega, by omega, by omega⟩, fun o => hb6.cell (p := ⟨x, o, none⟩) hx.2⟩
   have HP7 := Lib.hid (hP6.but hb6)
   have hbw6 := (hbw4.trans hb5).after hb6
   clear hE5 hP6 HE4 HP5 kB4 kR4 hbw4 hb5 hb6 hs6 hz5 lB4 lR4
   obtain ⟨z0, z1, z2, z3, z4, z5⟩ := kR6.sixF
   obtain ⟨r0, r1, r2, r3, r4, r5⟩ := kR6.six
   obtain ⟨q0, q1, q2, q3, q4, q5⟩ := kB6.six
   obtain ⟨s0, s1, s2, s3, s4, s5⟩ := kC6.six
   go_upto_region 7 with fail
   rw [show w5.alloc (.cells #[.string ⟨e5.op.toArray⟩, .int .i64 e5.v.k, .int .i64 e5.v.i, .string ⟨e5.v.s.toArray⟩, .string ⟨e5.s.toArray⟩, .slice A5 e5.l.length c5] 30) = w6 from HW6.out]
   clear HW6
   go_wp2_with fail
   refine bodyPost_ret (v := .tuple #[.agg ((Ex.mk [60] V.zero [] [e1, e5]).cells (some ⟨w6.heap.size, 0, none⟩) 2).toArray, .bool ok5]) (by simp [results, Tryz.results260, go_sem, *, Ex.cells, Ex.op, Ex.v, Ex.s, Ex.l, V.zero]) rfl ?_
   rw [← HF.out]
   exact twoed_end (by decide) (Nat.le_refl _) lp HE6.out HN6.out HP7.out hbw6
  ·rw [if_pos rfl] at hR
   obtain ⟨B, hB⟩ : ∃ B, hit l (a1 + 1) [78, 85, 76, 76] = B := ⟨_, rfl⟩
   rw [hB] at hR
   have HF := Lib.hid hR
   have HTK : Hid (∀ X : World, PSt p A c l (a1 + 1) deep X → Calls Tryz.prog 258 #[.pointer (some ⟨p, 0, none⟩), .string ⟨#[78, 85, 76, 76]⟩] X (RetTake B p A c l (a1 + 1) deep X)) := fun X hX => by
    have := take_any p A c l (a1 + 1) deep [78, 85, 76, 76] X (by omega) hX
    rw [hB] at this
    exact this
   clear hB hR
   have hpG : p ≠ G := by omega
   have hpw : p ≠ w.heap.size := by omega
   obtain ⟨q0, q1, q2, q3, q4, q5⟩ := kB4.six
   obtain ⟨z0, z1, z2, z3, z4, z5⟩ := kR4.sixF
   obtain ⟨r0, r1, r2, r3, r4, r5⟩ := kR4.six
   go_upto_region 11 with fail
   go_region_with (go_at_call 258; refine (HTK.out _ (HP5.out.but (by exact bl))).mono ?_; rintro en w6 ⟨rfl, hP6, hb6⟩; have HP6 := Lib.hid hP6; clear hP6; have hz6 := hb6.size; (try simp at hz6); have lG6 : G < w6.heap.size := (by omega); have lR6 : w.heap.size < w6.heap.size := (by omega); have hb46 : But p w4 w6 := But.trans (But.of_below (by exact bl)) hb6; have kB6 := hb46.blk kB4 (Ne.symm hpG); have kR6 := hb46.blk kR4 (Ne.symm hpw); obtain ⟨u0, u1, u2, u3, u4, u5⟩ := kB6.six; obtain ⟨v0, v1, v2, v3, v4, v5⟩ := kR6.sixF; obtain ⟨x0, x1, x2, x3, x4, x5⟩ := kR6.six)
   all_goals (go_wp2_with fail)
   all_goals (have HE6 : ExR (fun x => w.heap.size ≤ x ∧ x < w6.heap.size ∧ x ≠ w.heap.size) e1 A1 c1 w6 := HE4.out.keep fun x hx => ⟨⟨by omega, by have := hb46.size; omega, by omega⟩, fun o => hb46.cell hx.2 (by omega) o⟩)
   all_goals (have hbw6 := hbw4.trans hb46)
   all_goals
    first
    |
     refine bodyPost_ret (v := .tuple #[.agg ((Ex.mk opNull V.zero [] [e1]).cells (some ⟨w6.heap.size, 0, none⟩) 1).toArray, .bool B]) ?_ rfl ?_
     focus (simp [results, Tryz.results260, go_sem, *, Ex.cells, Ex.op, Ex.v, Ex.s, Ex.l, V.zero, opNull]; done)
     rw [← HF.out]
     exact oned_end (by decide) (Nat.le_refl _) lp HE6 HP6.out hbw6
    |
     refine bodyPost_ret (v := .tuple #[.agg ((Ex.mk opNull V.zero [] [e1]).cells (some ⟨w4.heap.size, 0, none⟩) 1).toArray, .bool B]) ?_ rfl ?_
     focus (simp [results, Tryz.results260, go_sem, *, Ex.cells, Ex.op, Ex.v, Ex.s, Ex.l, V.zero, opNull]; done)
     rw [← HF.out]
     have ks : Blk w6 w4.heap.size 30 (e1.cells A1 c1).toArray := hb6.blk (Blk.new' _ _ _ _ (by simp)) (by omega)
     exact oned_end1 (by decide) (Nat.le_refl _) lp HE6 ks (by omega) (by omega) HP6.out hbw6
end Go.Proofs.YtchilcchogcibaaGreatDoor
