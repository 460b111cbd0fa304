/- The document's Name, ahead and has as plain functions; The closures of created and text, as plain functions; how long texts are; The document's Check of grants as a plain function; The document's May of grants as a plain function. -/
import Derived.Test.YtchilcchogcibaaGreatDoorDStG
set_option maxRecDepth 100000
set_option maxHeartbeats 8000000
namespace Go.Proofs.YtchilcchogcibaaGreatDoor
open Go.RowKit
attribute [local go_sem] ByteArray.extract_mk ba_get ba_append
attribute [local go_sem ↓] Go.wp_at_zero Go.wp_at_succ run_eql_G
theorem rnameG_any (s : List UInt8) (w : World) (hs : s.length ≤ 1000000) : Calls Tryz.prog 47 #[.string ⟨s.toArray⟩] w (Ret (.bool (nameG s)) w) := by
 have HN := Lib.hid (rname_any s w hs)
 have HRV := Lib.hid (rreserved_any s)
 obtain ⟨R, hR⟩ : ∃ R, nameG s = R := ⟨_, rfl⟩
 rw [hR]
 unfold nameG nameB at hR
 obtain ⟨b, hb⟩ : ∃ b, runB 16 letB partB s = b := ⟨_, rfl⟩
 obtain ⟨r, hr⟩ : ∃ r, reserved s = r := ⟨_, rfl⟩
 rw [hb, hr] at hR
 rw [hb] at HN
 rw [hr] at HRV
 have HF := Lib.hid hR
 clear hb hr hR
 go_in
 cases b
 ·go_wp2_with fail
  refine HN.out.mono ?_
  rintro en w1 ⟨rfl, rfl⟩
  go_wp2_with fail
  go_ret
  exact ⟨by rw [← HF.out]; rfl, Below.refl _ _⟩
 ·go_wp2_with fail
  refine HN.out.mono ?_
  rintro en w1 ⟨rfl, rfl⟩
  go_wp2_with fail
  refine (HRV.out _).mono ?_
  rintro en w1 ⟨rfl, hb1⟩
  go_wp2_with fail
  go_ret
  exact ⟨by rw [← HF.out]; cases r <;> rfl, hb1⟩
theorem ahead_any (a b : Gr) (w : World) : Calls Tryz.prog 48 #[.agg #[.string ⟨a.r.toArray⟩, .string ⟨a.t.toArray⟩, .bool a.w], .agg #[.string ⟨b.r.toArray⟩, .string ⟨b.t.toArray⟩, .bool b.w]] w (Ret (.bool (glt a b)) w) := by
 obtain ⟨r, t, u⟩ := a
 obtain ⟨r', t', u'⟩ := b
 obtain ⟨R, hR⟩ : ∃ R, glt ⟨r, t, u⟩ ⟨r', t', u'⟩ = R := ⟨_, rfl⟩
 rw [hR]
 have HR : Hid ((if r = r' then (if t = t' then !u && u' else Op.bytesLess t t') else Op.bytesLess r r') = R) := hR
 clear hR
 dsimp only
 by_cases h1 : r = r'
 ·subst h1
  by_cases h2 : t = t'
  ·subst h2
   have HF : Hid ((!u && u') = R) := by have := HR.out; rw [if_pos rfl, if_pos rfl] at this; exact this
   clear HR
   cases u <;> cases u'
   all_goals
    go_in
    go_wp2_with fail
    go_ret
    exact ⟨by rw [← HF.out]; rfl, by exact bl⟩
  ·have HF : Hid (Op.bytesLess t t' = R) := by have := HR.out; rw [if_pos rfl, if_neg h2] at this; exact this
   have e2 : (t == t') = false := by simpa using h2
   clear HR
   go_in
   go_wp2_with fail
   go_ret
   exact ⟨by rw [← HF.out]; rfl, by exact bl⟩
 ·have HF : Hid (Op.bytesLess r r' = R) := by have := HR.out; rw [if_neg h1] at this; exact this
  have e1 : (r == r') = false := by simpa using h1
  clear HR
  go_in
  go_wp2_with fail
  go_ret
  exact ⟨by rw [← HF.out]; rfl, by exact bl⟩
theorem has_any (A : Option Addr) (c : Nat) (l : List Gr) (y : Gr) (w : World) (hl : l.length ≤ 1000000) (h : GQ l A (Old w.heap.size) w) :
  Calls Tryz.prog 43 #[.slice A l.length c, .agg #[.string ⟨y.r.toArray⟩, .string ⟨y.t.toArray⟩, .bool y.w]] w (Ret (.bool (decide (y ∈ l))) w) := by
 obtain ⟨N, hN⟩ : ∃ N, l.length = N := ⟨_, rfl⟩
 have HL := Lib.hid hN
 obtain ⟨w0, hw0⟩ : ∃ w0, w.alloc (.cells #[.string ⟨y.r.toArray⟩, .string ⟨y.t.toArray⟩, .bool y.w] 54) = w0 := ⟨_, rfl⟩
 have kg : Blk w0 w.heap.size 54 #[.string ⟨y.r.toArray⟩, .string ⟨y.t.toArray⟩, .bool y.w] := by rw [← hw0]; exact Blk.new _ _ _
 have hb0 : Below w.heap.size w w0 := by rw [← hw0]; exact bl
 have hz0 := hb0.size
 have HQ : Hid (∀ Z : World, Below w0.heap.size w0 Z → GQ l A (Old w.heap.size) Z) := fun Z hz => h.keep fun b hb => ⟨hb, fun o => (hb0.trans (hz.mono hz0)).cell (p := ⟨b, o, none⟩) hb⟩
 have HBW : Hid (∀ Z : World, Below w0.heap.size w0 Z → Below w.heap.size w Z) := fun Z hz => hb0.trans (hz.mono hz0)
 have HK := Lib.hid kg
 have HW := Lib.hid hw0
 obtain ⟨R, hR⟩ : ∃ R, decide (y ∈ l) = R := ⟨_, rfl⟩
 rw [hR]
 have HR := Lib.hid hR
 rw [hN] at hl ⊢
 clear hN hw0 kg h hb0 hR
 go_in
 go_upto_region 1 with fail
 rw [HW.out]
 clear HW
 go_wp2_with fail
 go_loopw [5] (fun i wr => ∃ j : Nat, j ≤ N ∧ i = .int .i64 j ∧ Hid (y ∉ l.take j) ∧ Below w0.heap.size w0 wr) (fun i _ => N - (intOf i).toNat)
 case atStart => exact ⟨0, by omega, rfl, by show _ ∉ _; simp, Below.refl _ _⟩
 case round =>
  obtain ⟨j, hj, rfl, HJ, hbw⟩ := hrel
  obtain ⟨W, rfl⟩ : ∃ W, W = wr := ⟨_, rfl⟩
  have hzw := hbw.size
  by_cases hlt : j < N
  ·obtain ⟨b, off, x, rfl, hbB, hv, c0, c1, c2⟩ := (HQ.out _ hbw).at_ (j := j) (by rw [HL.out]; exact hlt)
   have lb : b < w.heap.size := hbB
   have kw := HK.out.below hbw HK.out.lt
   have lk := kw.lt
   have HSH : Hid (∀ Z : World, Below W.heap.size W Z → (Z.cell? ⟨b, off + j * 3, none⟩ = some (.string ⟨x.r.toArray⟩) ∧ Z.cell? ⟨b, off + j * 3 + 1, none⟩ = some (.string ⟨x.t.toArray⟩) ∧ Z.cell? ⟨b, off + j * 3 + 2, none⟩ = some (.bool x.w)) ∧ Z.cell? ⟨w.heap.size, 0, none⟩ = some (.string ⟨y.r.toArray⟩) ∧ Z.cell? ⟨w.heap.size, 1, none⟩ = some (.string ⟨y.t.toArray⟩) ∧ Z.cell? ⟨w.heap.size, 2, none⟩ = some (.bool y.w)) := fun Z hz => by
    have hc : ∀ o, Z.cell? ⟨b, o, none⟩ = W.cell? ⟨b, o, none⟩ := fun o => hz.cell (p := ⟨b, o, none⟩) (show b < _ by omega)
    have kz := kw.below hz lk
    exact ⟨⟨(hc _).trans c0, (hc _).trans c1, (hc _).trans c2⟩, kz.cell 0, kz.cell 1, kz.cell 2⟩
   have HE : Hid (eqG x y = decide (x = y)) := eqG_iff x y
   have HM := Lib.hid (List.mem_of_getElem? hv)
   have HT : Hid (l.take (j + 1) = l.take j ++ [x]) := by show _ = _; rw [List.take_add_one, hv]; rfl
   have g10 : (0 : Int) ≤ (j : Int) := by omega
   have g11 : (j : Int) < (N : Int) := by omega
   clear hv c0 c1 c2 kw
   go_wp2_with fail
   refine rgn HSH fun hHeld => ?_
   refine tS [0, 1, 2, 3, 4, 5] ?_
   iterate 6 (refine tC ?_; refine ap ?_)
   refine tN ?_
   refine wpAnyH_done (by kernel_rfl) ?_ _
   have hbd : Below w0.heap.size w0 W.drew := hbw.trans ((show Below W.heap.size W W.drew by exact bl).mono hzw)
   have HBD := Lib.hid hbd
   clear hbd
   obtain ⟨E, hE⟩ : ∃ E, eqG ⟨x.r, x.t, x.w⟩ ⟨y.r, y.t, y.w⟩ = E := ⟨_, rfl⟩
   rw [hE]
   have HE2 : Hid (E = decide (x = y)) := by show _ = _; rw [← hE]; exact HE.out
   clear hE HE
   cases E with
   | true =>
    have he : x = y := by have := HE2.out; simpa using this
    have HF : Hid (R = true) := by show _ = _; rw [← HR.out]; exact decide_eq_true (he ▸ HM.out)
    clear HE2 HR HT HM HJ he
    go_wp2_with fail
    go_ret
    exact ⟨by rw [HF.out]; rfl, HBW.out _ HBD.out⟩
   | false =>
    have he : ¬ x = y := by have := HE2.out; simpa using this
    have HF : Hid (y ∉ l.take (j + 1)) := by
     show _ ∉ _
     rw [HT.out]
     simp only [List.mem_append, List.mem_singleton, not_or]
     exact ⟨HJ.out, fun h => he h.symm⟩
    clear HE2 HT HM HJ he
    go_wp2_with fail
    go_roundw
    case rel => exact ⟨j + 1, by omega, by go_num, HF, HBD.out⟩
    case measure => simp [intOf]; omega
  ·obtain rfl : j = N := by omega
   have HF : Hid (R = false) := by
    show _ = _
    have := HJ.out
    rw [← HL.out, List.take_length] at this
    rw [← HR.out]
    exact decide_eq_false this
   have g11 : ¬ (j : Int) < (j : Int) := by omega
   clear HJ hlt
   go_wp2_with fail
   go_ret
   exact ⟨by rw [HF.out]; rfl, HBW.out _ hbw⟩
end Go.Proofs.YtchilcchogcibaaGreatDoor
namespace Go.Proofs.YtchilcchogcibaaGreatDoor
open Go.RowKit
attribute [local go_sem] ByteArray.extract_mk ba_get ba_append
attribute [local go_sem ↓] Go.wp_at_zero Go.wp_at_succ
theorem textN_nodes : ∀ (n : Nat) (e : Ex), formE n e = true → fitE n e → (textN n e).length ≤ 110 * nodesE n e := by
 intro n
 induction n with
 | zero => intro e h; simp [formE] at h
 | succ n ih =>
  intro e h hf
  have hp := nodes_pos (n + 1) e
  rcases form_cases h with ⟨he, hm⟩ | ⟨he, hn, _⟩ | ⟨a, rfl, ha⟩ | ⟨a, rfl, ha⟩ | ⟨op, a, b, rfl, ho, ha, hb⟩
  ·have := textF_len e.v.k e.v.i e.v.s (fitE_v hf)
   rw [show textN (n + 1) e = textF e.v.k e.v.i e.v.s by rw [he]; rfl]
   omega
  ·rw [show textN (n + 1) e = e.s by rw [he]; rfl]
   unfold nameB runB at hn
   simp only [Bool.and_eq_true, decide_eq_true_eq] at hn
   omega
  ·have := ih a ha (hf.2 a (by simp [Ex.l]))
   rw [nodes_one n _ (by simp [Ex.l])]
   show (([40, 78, 79, 84, 32] ++ textN n a) ++ [41]).length ≤ 110 * (1 + nodesE n a)
   simp; omega
  ·have := ih a ha (hf.2 a (by simp [Ex.l]))
   rw [nodes_one n _ (by simp [Ex.l])]
   show (([40] ++ textN n a) ++ [32, 73, 83, 32, 78, 85, 76, 76, 41]).length ≤ 110 * (1 + nodesE n a)
   simp; omega
  ·have k1 := ih a ha (hf.2 a (by simp [Ex.l]))
   have k2 := ih b hb (hf.2 b (by simp [Ex.l]))
   obtain ⟨n1, n2, n3, n4⟩ := twoB_ne ho
   have := (twoB_len ho).1
   rw [nodes_two n _ (by simp [Ex.l]), textN_two n1 n2 n3 n4]
   show _ ≤ 110 * (1 + (nodesE n a + nodesE n b))
   simp [upper_len]; omega
theorem fitE_less : ∀ (n : Nat) (e : Ex), fitE (n + 1) e → fitE n e
 | 0, _, h => h.1
 | n + 1, _, h => ⟨h.1, fun x hx => fitE_less n x (h.2 x hx)⟩
theorem textX_len {e : Ex} (h : mayX e = true) (hf : fitE 13 e) : (textX e).length ≤ 6600 := by
 have h1 := mayX_form h
 have h2 := (may_form 12 1 0 e (by omega) (by omega)).1
 unfold mayX may at h
 rw [h2] at h
 simp only [Bool.and_eq_true, decide_eq_true_eq] at h
 have h3 := textN_nodes 12 e h1 (fitE_less 12 e hf)
 have h4 := (tok_up 12 e h1).2
 unfold textX
 rw [h4]
 omega
theorem where_eq {e : Ex} (h : perhapsE e = true) : whereW e = whereT e := by
 unfold whereW whereT writtenE
 unfold perhapsE at h
 cases hn : noneE e
 ·rw [hn] at h
  have : mayX e = true := by simpa using h
  simp [this]
 ·rfl
theorem check_eq {a : List UInt8} {e : Ex} (h : perhapsE e = true) : checkW a e = checkT a e := by
 unfold checkW checkT writtenE
 unfold perhapsE at h
 cases hn : noneE e
 ·rw [hn] at h
  have : mayX e = true := by simpa using h
  simp [this]
 ·rfl
theorem where_len {e : Ex} (h : perhapsE e = true) (hf : fitE 13 e) : (whereT e).length ≤ 7000 := by
 unfold whereT
 unfold perhapsE at h
 cases hn : noneE e
 ·rw [hn] at h
  have := textX_len (e := e) (by simpa using h) hf
  simp; omega
 ·simp
theorem check_len {a : List UInt8} {e : Ex} (ha : a.length ≤ 100) (h : perhapsE e = true) (hf : fitE 13 e) : (checkT a e).length ≤ 7000 := by
 unfold checkT
 unfold perhapsE at h
 cases hn : noneE e
 ·rw [hn] at h
  have := textX_len (e := e) (by simpa using h) hf
  simp; omega
 ·simp
theorem nameG_len {s : List UInt8} (h : nameG s = true) : s.length ≤ 16 := by
 have := nameG_B h
 unfold nameB runB at this
 simp only [Bool.and_eq_true, decide_eq_true_eq] at this
 omega
theorem colT_len {c : Col} (h : colOkB c = true) : (colT c).length ≤ 100 := by
 unfold colOkB at h
 simp only [Bool.and_eq_true] at h
 have h1 := nameG_len h.1.1
 have h2 : (typeT c.t).length ≤ 4 := by unfold typeT; split; decide; split <;> decide
 unfold colT
 cases c.b <;> simp <;> omega
theorem setT_len {x : Se} (h : setOkB x = true) (hf : fitE 13 x.e) : (setT x).length ≤ 7000 := by
 unfold setOkB at h
 simp only [Bool.and_eq_true] at h
 have h1 := nameG_len h.1
 have h2 := textX_len h.2 hf
 unfold setT
 simp; omega
theorem sum_le {α : Type} (f : α → Nat) (K : Nat) : ∀ l : List α, (∀ x ∈ l, f x ≤ K) → (l.map f).sum ≤ l.length * K
 | [], _ => by simp
 | x :: r, h => by
  have h1 := h x (by simp)
  have h2 := sum_le f K r (fun y hy => h y (by simp [hy]))
  rw [List.map_cons, List.sum_cons, List.length_cons, Nat.add_mul]
  omega
theorem joined_len {α : Type} (t : α → List UInt8) (K : Nat) (l : List α) (h : ∀ x ∈ l, (t x).length ≤ K) : (joinL comma (l.map t)).length ≤ l.length * (K + 3) := by
 have h1 := joinL_len comma (l.map t)
 have h2 := sum_le (fun x : List UInt8 => x.length + comma.length) (K + 3) (l.map t) (fun x hx => by
  obtain ⟨y, hy, rfl⟩ := List.mem_map.1 hx
  have := h y hy
  show (t y).length + 3 ≤ _
  omega)
 rw [List.length_map] at h2
 omega
theorem sameC_any (x : List UInt8) (w : World) : Calls Tryz.prog 84 #[.string ⟨x.toArray⟩] w (Ret (.string ⟨x.toArray⟩) w) := by
 go_in
 go_wp2_with fail
 go_ret
 exact ⟨rfl, Below.refl _ _⟩
theorem typ_at {w : World} (h : TypT w) {t : Int} (h1 : 1 ≤ t) (h2 : t ≤ 3) : w.cell? ⟨0, (t - 1).toNat, none⟩ = some (.string ⟨(typeT t).toArray⟩) := by
 obtain ⟨a, b, c⟩ := h
 have : t = 1 ∨ t = 2 ∨ t = 3 := by omega
 rcases this with rfl | rfl | rfl
 ·exact a
 ·exact b
 ·exact c
theorem colTC_any (c : Col) (w : World) (h : colOkB c = true) (hT : TypT w) : Calls Tryz.prog 150 #[.agg #[.string ⟨c.n.toArray⟩, .int .i64 c.t, .bool c.b]] w (Ret (.string ⟨(colT c).toArray⟩) w) := by
 obtain ⟨n, t, b⟩ := c
 have hlen := colT_len h
 unfold colOkB at h
 simp only [Bool.and_eq_true, decide_eq_true_eq] at h
 obtain ⟨⟨h0, h1⟩, h2⟩ := h
 have hn := nameG_len h0
 dsimp only at hn h1 h2 ⊢
 obtain ⟨w0, hw0⟩ : ∃ w0, w.alloc (.cells #[.string ⟨n.toArray⟩, .int .i64 t, .bool b] 96) = w0 := ⟨_, rfl⟩
 have kb0 : Blk w0 w.heap.size 96 #[.string ⟨n.toArray⟩, .int .i64 t, .bool b] := by rw [← hw0]; exact Blk.new _ _ _
 have hb0 : Below w.heap.size w w0 := by rw [← hw0]; exact bl
 have hz0 := hb0.size
 have HK : Hid (∀ Z : World, Below w0.heap.size w0 Z → ∀ i, Z.cell? ⟨w.heap.size, i, none⟩ = (#[.string ⟨n.toArray⟩, .int .i64 t, .bool b] : Array Value)[i]?) := fun Z hz i => (kb0.below hz kb0.lt).cell i
 have HW := Lib.hid hw0
 have HB := Lib.hid hb0
 clear hw0 kb0 hb0
 obtain ⟨m, hm⟩ : ∃ m : Nat, (t - 1).toNat = m := ⟨_, rfl⟩
 have hty := typ_at hT h1 h2
 have hl2 : (typeT t).length ≤ 4 := by unfold typeT; split; decide; split <;> decide
 obtain ⟨Y, hY⟩ : ∃ Y, typeT t = Y := ⟨_, rfl⟩
 obtain ⟨R, hR⟩ : ∃ R, colT ⟨n, t, b⟩ = R := ⟨_, rfl⟩
 have hR2 : n ++ [32] ++ Y ++ (if b then [32, 78, 79, 84, 32, 78, 85, 76, 76] else []) = R := by rw [← hR, ← hY]; rfl
 rw [hR]
 rw [hY, hm] at hty
 rw [hY] at hl2
 have hg0 : 0 < w.heap.size := Blk_lt_of_cell hty
 have HTY : Hid (∀ Z : World, Below w0.heap.size w0 Z → Z.cell? ⟨0, m, none⟩ = some (.string ⟨Y.toArray⟩)) := fun Z hz => ((HB.out.trans (hz.mono hz0)).cell (p := ⟨0, m, none⟩) hg0).trans hty
 have HR := Lib.hid hR2
 have HSH : Hid (∀ Z : World, Below w0.heap.size w0 Z → (Z.cell? ⟨w.heap.size, 0, none⟩ = some (.string ⟨n.toArray⟩) ∧ Z.cell? ⟨w.heap.size, 1, none⟩ = some (.int .i64 t) ∧ Z.cell? ⟨w.heap.size, 2, none⟩ = some (.bool b)) ∧ Z.cell? ⟨0, m, none⟩ = some (.string ⟨Y.toArray⟩)) := fun Z hz => ⟨⟨HK.out Z hz 0, HK.out Z hz 1, HK.out Z hz 2⟩, HTY.out Z hz⟩
 have i1 : IntKind.i64.wrap (t - 1) = t - 1 := IntWalk.i64_in _ (by omega)
 have i2 : (0 : Int) ≤ t - 1 := by omega
 have i3 : t - 1 < 3 := by omega
 clear hR hR2 hY hty hlen
 obtain ⟨⟨k0, k1, k2⟩, k3⟩ := HSH.out w0 (Below.refl _ _)
 cases b with
 | true =>
  go_in
  go_upto_region 1 with fail
  rw [HW.out]
  go_wp2_with fail
  refine rgn HSH fun hHeld => ?_
  refine tS [0, 1, 2, 3, 4, 5, 6, 7, 8, 9, 10] ?_
  iterate 11 (refine tC ?_; refine ap ?_)
  refine tN ?_
  refine wpAnyH_done (by kernel_rfl) ?_ _
  have hbf : Below w.heap.size w w0.drew := HB.out.drew
  go_wp2_with fail
  go_ret
  exact ⟨by rw [← HR.out]; simp, by first | exact hbf | exact HB.out⟩
 | false =>
  go_in
  go_upto_region 1 with fail
  rw [HW.out]
  go_wp2_with fail
  refine rgn HSH fun hHeld => ?_
  refine tS [0, 1, 2, 3, 4, 5, 6, 7, 8, 9] ?_
  iterate 10 (refine tC ?_; refine ap ?_)
  refine tN ?_
  refine wpAnyH_done (by kernel_rfl) ?_ _
  have hbf : Below w.heap.size w w0.drew := HB.out.drew
  go_wp2_with fail
  go_ret
  exact ⟨by rw [← HR.out]; simp, by first | exact hbf | exact HB.out⟩
theorem rcheckG_any (A : Option Addr) (c : Nat) (l : List Gr) (w : World) (hl : l.length ≤ 1000000) (hn : ∀ g ∈ l, g.r.length ≤ 1000000 ∧ g.t.length ≤ 1000000) (h : GQ l A (Old w.heap.size) w) :
  Calls Tryz.prog 21 #[.slice A l.length c] w (Ret (.int .i64 (chkG l)) w) := by
 have HQ : Hid (∀ Z : World, Below w.heap.size w Z → GQ l A (Old w.heap.size) Z) := fun Z hz => h.keep fun b hb => ⟨hb, fun o => hz.cell (p := ⟨b, o, none⟩) hb⟩
 have HN := Lib.hid hn
 obtain ⟨R, hR⟩ : ∃ R, chkG l = R := ⟨_, rfl⟩
 rw [hR]
 have HR := Lib.hid hR
 obtain ⟨N, hNN⟩ : ∃ N, l.length = N := ⟨_, rfl⟩
 have HL := Lib.hid hNN
 rw [hNN] at hl ⊢
 clear h hn hR hNN
 go_in
 go_wp2_with fail
 go_loopw [3] (fun i wr => ∃ j : Nat, j ≤ N ∧ i = .int .i64 j ∧ Hid (∀ g ∈ l.take j, badG g = false) ∧ Below w.heap.size w wr) (fun i _ => N - (intOf i).toNat)
 case atStart => exact ⟨0, by omega, rfl, fun g hg => by simp at hg, Below.refl _ _⟩
 case round =>
  obtain ⟨j, hj, rfl, HJ, hbw⟩ := hrel
  obtain ⟨W, rfl⟩ : ∃ W, W = wr := ⟨_, rfl⟩
  have hzw := hbw.size
  by_cases hlt : j < N
  ·obtain ⟨b, off, x, rfl, hbB, hv, c0, c1, c2⟩ := (HQ.out _ hbw).at_ (j := j) (by rw [HL.out]; exact hlt)
   have hxl := List.mem_of_getElem? hv
   obtain ⟨n1, n2⟩ := HN.out x hxl
   have HB1 : Hid (badG x = true → R = 1) := fun hb => by rw [← HR.out]; exact chk_bad hxl hb
   have HB0 : Hid (badG x = false → ∀ g ∈ l.take (j + 1), badG g = false) := fun hb g hg => by
    rw [List.take_add_one, hv] at hg
    rcases List.mem_append.1 hg with hg | hg
    ·exact HJ.out g hg
    ·simp at hg; rw [hg]; exact hb
   have lb : b < W.heap.size := by have : b < w.heap.size := hbB; omega
   obtain ⟨r, t, u⟩ := x
   obtain ⟨B1, hB1⟩ : ∃ B, nameG r = B := ⟨_, rfl⟩
   obtain ⟨B2, hB2⟩ : ∃ B, nameG t = B := ⟨_, rfl⟩
   have HX1 : Hid (∀ Z : World, Calls Tryz.prog 47 #[.string ⟨r.toArray⟩] Z (Ret (.bool B1) Z)) := fun Z => by have := rnameG_any r Z n1; rw [hB1] at this; exact this
   have HX2 : Hid (∀ Z : World, Calls Tryz.prog 47 #[.string ⟨t.toArray⟩] Z (Ret (.bool B2) Z)) := fun Z => by have := rnameG_any t Z n2; rw [hB2] at this; exact this
   have HBG : Hid (badG ⟨r, t, u⟩ = (!B1 || (!B2 || decide (r = adminT)))) := by show _ = _; unfold badG; rw [hB1, hB2]
   dsimp only at c0 c1 c2
   have HCC : Hid (∀ Z : World, Below w.heap.size w Z → Z.cell? ⟨b, off + j * 3, none⟩ = some (.string ⟨r.toArray⟩) ∧ Z.cell? ⟨b, off + j * 3 + 1, none⟩ = some (.string ⟨t.toArray⟩)) := fun Z hz => by
    have hc : ∀ o, Z.cell? ⟨b, o, none⟩ = W.cell? ⟨b, o, none⟩ := fun o => (hz.cell (p := ⟨b, o, none⟩) hbB).trans (hbw.cell (p := ⟨b, o, none⟩) hbB).symm
    exact ⟨(hc _).trans c0, (hc _).trans c1⟩
   have g10 : (0 : Int) ≤ (j : Int) := by omega
   have g11 : (j : Int) < (N : Int) := by omega
   clear hv hxl hB1 hB2 n1 n2
   go_wp2_with fail
   refine (HX1.out W).mono ?_
   rintro en w1 ⟨rfl, hb1⟩
   have hbw1 : Below w.heap.size w w1 := hbw.trans (hb1.mono hzw)
   have hz1 := hb1.size
   clear c0 c1 c2
   obtain ⟨k0, k1⟩ := HCC.out w1 hbw1
   cases B1 with
   | false =>
    have HF : Hid (R = 1) := HB1.out (by rw [HBG.out]; rfl)
    go_wp2_with fail
    go_ret
    exact ⟨by rw [HF.out]; rfl, hbw1⟩
   | true =>
    go_wp2_with fail
    refine (HX2.out w1).mono ?_
    rintro en w2 ⟨rfl, hb2⟩
    have hbw2 : Below w.heap.size w w2 := hbw1.trans (hb2.mono hbw1.size)
    have hz2 := hb2.size
    clear k0 k1
    obtain ⟨k0, k1⟩ := HCC.out w2 hbw2
    cases B2 with
    | false =>
     have HF : Hid (R = 1) := HB1.out (by rw [HBG.out]; rfl)
     go_wp2_with fail
     go_ret
     exact ⟨by rw [HF.out]; rfl, hbw2⟩
    | true =>
     by_cases h3 : r = adminT
     ·have HF : Hid (R = 1) := HB1.out (by rw [HBG.out, decide_eq_true h3]; rfl)
      have e3 : (r == [97, 100, 109, 105, 110]) = true := by rw [h3]; rfl
      have e4 : r = [97, 100, 109, 105, 110] := h3
      clear HX1 HX2 HBG HB0 HB1 HCC
      subst e4
      go_wp2_with fail
      go_ret
      exact ⟨by rw [HF.out]; rfl, hbw2⟩
     ·have HF : Hid (∀ g ∈ l.take (j + 1), badG g = false) := HB0.out (by rw [HBG.out, decide_eq_false h3]; rfl)
      have e4 : ¬ r = [97, 100, 109, 105, 110] := h3
      have e3 : (r == [97, 100, 109, 105, 110]) = false := by simpa using e4
      clear h3
      go_wp2_with fail
      go_roundw
      case rel => exact ⟨j + 1, by omega, by go_num, HF, hbw2⟩
      case measure => simp [intOf]; omega
  ·obtain rfl : j = N := by omega
   have HJ2 : Hid (l.any badG = false) := by
    show _ = _
    have := HJ.out
    rw [← HL.out, List.take_length] at this
    rw [List.any_eq_false]
    intro g hg
    rw [this g hg]; simp
   clear HJ hlt
   by_cases h60 : 60 < j
   ·have HF : Hid (R = 13) := by show _ = _; rw [← HR.out]; unfold chkG; rw [HJ2.out, HL.out, if_neg (by simp), if_pos h60]
    go_wp2_with fail
    go_ret
    exact ⟨by rw [HF.out]; rfl, hbw⟩
   ·have HF : Hid ((if risB l then (0 : Int) else 15) = R) := by have := HR.out; unfold chkG at this; rw [HJ2.out, HL.out, if_neg (by simp), if_neg h60] at this; exact this
    have h60' : ¬ (60 : Int) < (j : Int) := by omega
    have HBJ := Lib.hid hbw
    clear HR hbw
    go_wp2_with fail
    go_loopw [4] (fun i wr => ∃ k : Nat, 1 ≤ k ∧ i = .int .i64 k ∧ Hid (∀ m x y, m + 1 < k → l[m]? = some x → l[m + 1]? = some y → glt x y = true) ∧ Below w.heap.size w wr) (fun i _ => j + 1 - (intOf i).toNat)
    case atStart => exact ⟨1, Nat.le_refl _, rfl, fun m x y h => absurd h (by omega), HBJ.out⟩
    case round =>
     obtain ⟨k, hk1, rfl, HK, hbk⟩ := hrel
     obtain ⟨Y, rfl⟩ : ∃ W, W = wr := ⟨_, rfl⟩
     have hzk := hbk.size
     by_cases hlt : k < j
     ·obtain ⟨m, hm⟩ : ∃ m, k = m + 1 := ⟨k - 1, by omega⟩
      obtain ⟨b, off, x, rfl, hbB, hv, c0, c1, c2⟩ := (HQ.out _ hbk).at_ (j := m) (by rw [HL.out]; omega)
      obtain ⟨b2, off2, y, e2, _, hv2, d0, d1, d2⟩ := (HQ.out _ hbk).at_ (j := k) (by rw [HL.out]; exact hlt)
      obtain ⟨rfl, rfl⟩ : b = b2 ∧ off = off2 := by injection e2 with e; injection e with e1 e3; exact ⟨e1, e3⟩
      have lb : b < w.heap.size := hbB
      obtain ⟨O, hO⟩ : ∃ O, glt x y = O := ⟨_, rfl⟩
      have HOR : Hid (∀ Z : World, Calls Tryz.prog 48 #[.agg #[.string ⟨x.r.toArray⟩, .string ⟨x.t.toArray⟩, .bool x.w], .agg #[.string ⟨y.r.toArray⟩, .string ⟨y.t.toArray⟩, .bool y.w]] Z (Ret (.bool O) Z)) := fun Z => by have := ahead_any x y Z; rw [hO] at this; exact this
      have HNX : Hid (O = true → ∀ q x y, q + 1 < k + 1 → l[q]? = some x → l[q + 1]? = some y → glt x y = true) := fun hg0 q x' y' hq hx hy => by
       have hg : glt x y = true := hO.trans hg0
       rcases Nat.lt_or_ge (q + 1) k with h | h
       ·exact HK.out q x' y' h hx hy
       ·obtain rfl : q = m := by omega
        rw [hv] at hx
        rw [← hm, hv2] at hy
        cases hx; cases hy; exact hg
      have HBD : Hid (O = false → R = 15) := fun hg0 => by
       have hg : glt x y = false := hO.trans hg0
       rw [← HF.out, if_neg]
       intro hr
       have := (risB_iff l).1 hr m x y hv (by rw [← hm]; exact hv2)
       rw [this] at hg; cases hg
      have HSH : Hid (∀ Z : World, Below Y.heap.size Y Z → (Z.cell? ⟨b, off + m * 3, none⟩ = some (.string ⟨x.r.toArray⟩) ∧ Z.cell? ⟨b, off + m * 3 + 1, none⟩ = some (.string ⟨x.t.toArray⟩) ∧ Z.cell? ⟨b, off + m * 3 + 2, none⟩ = some (.bool x.w)) ∧ Z.cell? ⟨b, off + k * 3, none⟩ = some (.string ⟨y.r.toArray⟩) ∧ Z.cell? ⟨b, off + k * 3 + 1, none⟩ = some (.string ⟨y.t.toArray⟩) ∧ Z.cell? ⟨b, off + k * 3 + 2, none⟩ = some (.bool y.w)) := fun Z hz => by
       have hc : ∀ o, Z.cell? ⟨b, o, none⟩ = Y.cell? ⟨b, o, none⟩ := fun o => hz.cell (p := ⟨b, o, none⟩) (show b < _ by omega)
       exact ⟨⟨(hc _).trans c0, (hc _).trans c1, (hc _).trans c2⟩, (hc _).trans d0, (hc _).trans d1, (hc _).trans d2⟩
      have g6 : IntKind.i64.wrap ((k : Int) - 1) = (m : Int) := by rw [IntWalk.i64_in _ (by omega)]; omega
      have g7 : (0 : Int) ≤ (m : Int) := by omega
      have g8 : (m : Int) < (j : Int) := by omega
      have g9 : IntKind.i64.wrap (m : Int) = (m : Int) := IntWalk.i64_in _ (by omega)
      have g10 : (0 : Int) ≤ (k : Int) := by omega
      have g11 : (k : Int) < (j : Int) := by omega
      have HM := Lib.hid hm
      clear hv hv2 hO hm c0 c1 c2 d0 d1 d2 hbB e2
      go_wp2_with fail
      refine rgn HSH fun hHeld => ?_
      refine tS [0, 1, 2, 3, 4, 5, 6, 7, 8] ?_
      iterate 9 (refine tC ?_; refine ap ?_)
      refine tN ?_
      refine rdy 9 fun K hK => ?_
      go_simp
      (refine (HOR.out _).mono ?_) <;> rintro en w9 ⟨rfl, hb9⟩ <;> have hz9 := hb9.size <;> (try simp at hz9)
      go_wp2_with fail
      refine hK.out _ _ (HSH.out _ (by exact bl)) fun hHeld => ?_
      clear hK K
      refine ap ?_
      refine tS [10] (tC ?_)
      refine ap (tN ?_)
      refine wpAnyH_done (by kernel_rfl) ?_ _
      have hbY9 : Below Y.heap.size Y w9 := by exact bl
      have hbk9 : Below w.heap.size w w9 := hbk.trans (hbY9.mono hzk)
      cases O
      ·have HF2 : Hid (R = 15) := HBD.out rfl
       clear HNX HBD
       go_wp2_with fail
       go_ret
       exact ⟨by rw [HF2.out]; rfl, hbk9⟩
      ·have HK2 := Lib.hid (HNX.out rfl)
       clear HNX HBD
       go_wp2_with fail
       go_roundw
       case rel => exact ⟨k + 1, by omega, by go_num, HK2, hbk9⟩
       case measure => simp [intOf]; omega
     ·have HF2 : Hid (R = 0) := by
       show _ = _
       rw [← HF.out, if_pos]
       refine (risB_iff l).2 fun m x y hx hy => HK.out m x y ?_ hx hy
       have : m + 1 < l.length := (List.getElem?_eq_some_iff.1 hy).1
       rw [HL.out] at this; omega
      have g11 : ¬ (k : Int) < (j : Int) := by omega
      clear hlt HK
      go_wp2_with fail
      go_ret
      exact ⟨by rw [HF2.out]; rfl, hbk⟩
theorem rmayG_any (A : Option Addr) (c : Nat) (l : List Gr) (role : List UInt8) (s : St) (p : StP) (w : World) (hl : l.length ≤ 1000000) (hn : ∀ g ∈ l, g.r.length ≤ 1000000 ∧ g.t.length ≤ 1000000) (h : GQ l A (Old w.heap.size) w) :
  Calls Tryz.prog 19 #[.slice A l.length c, .string ⟨role.toArray⟩, .agg (s.cells p).toArray] w (Ret (.bool (mayG l role s.op s.tb)) w) := by
 have HQ : Hid (∀ Z : World, Below w.heap.size w Z → GQ l A (Old Z.heap.size) Z) := fun Z hz => h.keep (old_keep hz hz.size)
 have HN := Lib.hid hn
 obtain ⟨R, hR⟩ : ∃ R, mayG l role s.op s.tb = R := ⟨_, rfl⟩
 rw [hR]
 have HR := Lib.hid hR
 obtain ⟨C, hC⟩ : ∃ C, chkG l = C := ⟨_, rfl⟩
 have HCK : Hid (∀ Z : World, Below w.heap.size w Z → Calls Tryz.prog 21 #[.slice A l.length c] Z (Ret (.int .i64 C) Z)) := fun Z hz => by
  have := rcheckG_any A c l Z hl hn (HQ.out Z hz)
  rw [hC] at this
  exact this
 obtain ⟨B1, hB1⟩ : ∃ B, decide ((⟨role, s.tb, false⟩ : Gr) ∈ l) = B := ⟨_, rfl⟩
 obtain ⟨B2, hB2⟩ : ∃ B, decide ((⟨role, s.tb, true⟩ : Gr) ∈ l) = B := ⟨_, rfl⟩
 have HP1 : Hid (∀ Z : World, Below w.heap.size w Z → Calls Tryz.prog 43 #[.slice A l.length c, .agg #[.string ⟨role.toArray⟩, .string ⟨s.tb.toArray⟩, .bool false]] Z (Ret (.bool B1) Z)) := fun Z hz => by
  have := has_any A c l ⟨role, s.tb, false⟩ Z hl (HQ.out Z hz)
  rw [hB1] at this
  exact this
 have HP2 : Hid (∀ Z : World, Below w.heap.size w Z → Calls Tryz.prog 43 #[.slice A l.length c, .agg #[.string ⟨role.toArray⟩, .string ⟨s.tb.toArray⟩, .bool true]] Z (Ret (.bool B2) Z)) := fun Z hz => by
  have := has_any A c l ⟨role, s.tb, true⟩ Z hl (HQ.out Z hz)
  rw [hB2] at this
  exact this
 have HM1 : Hid (B1 = decide (⟨role, s.tb, false⟩ ∈ l)) := hB1.symm
 have HM2 : Hid (B2 = decide (⟨role, s.tb, true⟩ ∈ l)) := hB2.symm
 have HC := Lib.hid hC
 obtain ⟨w0, hw0⟩ : ∃ w0, w.alloc (.cells (s.cells p).toArray 34) = w0 := ⟨_, rfl⟩
 have ks : Blk w0 w.heap.size 34 (s.cells p).toArray := by rw [← hw0]; exact Blk.new _ _ _
 have hb0 : Below w.heap.size w w0 := by rw [← hw0]; exact bl
 have HSH : Hid (∀ Z : World, Below w0.heap.size w0 Z → Z.cell? ⟨w.heap.size, 0, none⟩ = some (.string ⟨s.op.toArray⟩) ∧ Z.cell? ⟨w.heap.size, 1, none⟩ = some (.string ⟨s.tb.toArray⟩)) := fun Z hz => by
  have k := ks.below hz ks.lt
  exact ⟨k.cell 0, k.cell 1⟩
 dsimp only [St.cells] at hw0
 have HW := Lib.hid hw0
 have hz0 := hb0.size
 have HBW : Hid (∀ Z : World, Below w0.heap.size w0 Z → Below w.heap.size w Z) := fun Z hz => hb0.trans (hz.mono hz0)
 obtain ⟨op, hop⟩ : ∃ o, s.op = o := ⟨_, rfl⟩
 have HRO : Hid (mayG l role op s.tb = R) := by rw [← hop]; exact hR
 rw [hop] at HSH
 clear h hn hR hC hB1 hB2 hw0 ks hb0 hop HR
 dsimp only [St.cells]
 go_in
 go_upto_region 1 with fail
 rw [show w.alloc _ = w0 from HW.out]
 clear HW
 go_wp2_with fail
 refine (HCK.out w0 (HBW.out _ (Below.refl _ _))).mono ?_
 rintro en w1 ⟨rfl, hb1⟩
 by_cases hc0 : C = 0
 ·subst hc0
  by_cases hra : role = adminT
  ·have e4 : role = [97, 100, 109, 105, 110] := hra
   have HF : Hid (R = true) := by show _ = _; rw [← HRO.out]; unfold mayG; rw [HC.out, if_pos rfl, if_pos hra]
   clear HRO HP1 HP2 HM1 HM2 hra HCK HSH HC HQ
   subst e4
   go_wp2_with fail
   go_ret
   exact ⟨by rw [HF.out]; rfl, HBW.out _ hb1⟩
  ·have e4 : ¬ role = [97, 100, 109, 105, 110] := hra
   have e5 : (role == [97, 100, 109, 105, 110]) = false := by simpa using e4
   have HRO2 : Hid ((if op = oSelect then decide (⟨role, s.tb, false⟩ ∈ l) else if op = oInsert ∨ op = oUpdate ∨ op = oDelete then decide (⟨role, s.tb, false⟩ ∈ l) && decide (⟨role, s.tb, true⟩ ∈ l) else false) = R) := by
    have := HRO.out
    unfold mayG at this
    rw [HC.out, if_pos rfl, if_neg hra] at this
    exact this
   clear HRO hra HC
   obtain ⟨q0, q1⟩ := HSH.out w1 hb1
   go_wp2_with fail
   refine (HP1.out w1 (HBW.out _ hb1)).mono ?_
   rintro en w2 ⟨rfl, hb2⟩
   have hb02 : Below w0.heap.size w0 w2 := hb1.trans (hb2.mono hb1.size)
   clear q0 q1
   obtain ⟨q0, q1⟩ := HSH.out w2 hb02
   go_wp2_with fail
   refine (HP2.out w2 (HBW.out _ hb02)).mono ?_
   rintro en w3 ⟨rfl, hb3⟩
   have hb03 : Below w0.heap.size w0 w3 := hb02.trans (hb3.mono hb02.size)
   clear q0 q1
   obtain ⟨q0, q1⟩ := HSH.out w3 hb03
   have hbw3 := HBW.out _ hb03
   by_cases o_select : op = oSelect
   ·have HF : Hid (B1 = R) := by show _ = _; rw [HM1.out, ← HRO2.out, if_pos o_select]
    have o' : op = [115, 101, 108, 101, 99, 116] := o_select
    clear HRO2 HM1 HM2 HP1 HP2 HSH HQ HCK o_select
    subst o'
    go_wp2_with fail
    go_ret
    exact ⟨by rw [← HF.out]; rfl, hbw3⟩
   by_cases o_insert : op = oInsert
   ·have HF : Hid ((B1 && B2) = R) := by
     show _ = _
     rw [HM1.out, HM2.out, ← HRO2.out, if_neg o_select, if_pos (by simp [o_insert])]
    have o' : op = [105, 110, 115, 101, 114, 116] := o_insert
    clear o_select HRO2 HM1 HM2 HP1 HP2 HSH HQ HCK o_insert
    subst o'
    cases B1
    rotate_left
    ·have HF2 : Hid (B2 = R) := by show _ = _; rw [← HF.out]; rfl
     go_wp2_with fail
     go_ret
     exact ⟨by rw [← HF2.out]; rfl, hbw3⟩
    ·have HF2 : Hid (R = false) := by show _ = _; rw [← HF.out]; rfl
     go_wp2_with fail
     go_ret
     exact ⟨by rw [HF2.out]; rfl, hbw3⟩
   by_cases o_update : op = oUpdate
   ·have HF : Hid ((B1 && B2) = R) := by
     show _ = _
     rw [HM1.out, HM2.out, ← HRO2.out, if_neg o_select, if_pos (by simp [o_update])]
    have o' : op = [117, 112, 100, 97, 116, 101] := o_update
    clear o_select o_insert HRO2 HM1 HM2 HP1 HP2 HSH HQ HCK o_update
    subst o'
    cases B1
    rotate_left
    ·have HF2 : Hid (B2 = R) := by show _ = _; rw [← HF.out]; rfl
     go_wp2_with fail
     go_ret
     exact ⟨by rw [← HF2.out]; rfl, hbw3⟩
    ·have HF2 : Hid (R = false) := by show _ = _; rw [← HF.out]; rfl
     go_wp2_with fail
     go_ret
     exact ⟨by rw [HF2.out]; rfl, hbw3⟩
   by_cases o_delete : op = oDelete
   ·have HF : Hid ((B1 && B2) = R) := by
     show _ = _
     rw [HM1.out, HM2.out, ← HRO2.out, if_neg o_select, if_pos (by simp [o_delete])]
    have o' : op = [100, 101, 108, 101, 116, 101] := o_delete
    clear o_select o_insert o_update HRO2 HM1 HM2 HP1 HP2 HSH HQ HCK o_delete
    subst o'
    cases B1
    rotate_left
    ·have HF2 : Hid (B2 = R) := by show _ = _; rw [← HF.out]; rfl
     go_wp2_with fail
     go_ret
     exact ⟨by rw [← HF2.out]; rfl, hbw3⟩
    ·have HF2 : Hid (R = false) := by show _ = _; rw [← HF.out]; rfl
     go_wp2_with fail
     go_ret
     exact ⟨by rw [HF2.out]; rfl, hbw3⟩
   have HF : Hid (R = false) := by
    show _ = _
    rw [← HRO2.out, if_neg o_select, if_neg (by simp [o_insert, o_update, o_delete])]
   have o1 : (op == [115, 101, 108, 101, 99, 116]) = false := by rw [beq_eq_false_iff_ne]; exact o_select
   have o2 : (op == [105, 110, 115, 101, 114, 116]) = false := by rw [beq_eq_false_iff_ne]; exact o_insert
   have o3 : (op == [117, 112, 100, 97, 116, 101]) = false := by rw [beq_eq_false_iff_ne]; exact o_update
   have o4 : (op == [100, 101, 108, 101, 116, 101]) = false := by rw [beq_eq_false_iff_ne]; exact o_delete
   have p1 : ¬ op = [115, 101, 108, 101, 99, 116] := o_select
   have p2 : ¬ op = [105, 110, 115, 101, 114, 116] := o_insert
   have p3 : ¬ op = [117, 112, 100, 97, 116, 101] := o_update
   have p4 : ¬ op = [100, 101, 108, 101, 116, 101] := o_delete
   clear HRO2 HM1 HM2 HP1 HP2 HSH HQ HCK o_select o_insert o_update o_delete
   go_wp2_with fail
   go_ret
   exact ⟨by rw [HF.out]; rfl, hbw3⟩
 ·have e1 : (C != 0) = true := by simpa using hc0
  have HF : Hid (R = false) := by show _ = _; rw [← HRO.out]; unfold mayG; rw [HC.out, if_neg hc0]
  clear HRO HP1 HP2 HM1 HM2 HCK HC HQ
  go_wp2_with fail
  go_ret
  exact ⟨by rw [HF.out]; rfl, HBW.out _ hb1⟩
end Go.Proofs.YtchilcchogcibaaGreatDoor
