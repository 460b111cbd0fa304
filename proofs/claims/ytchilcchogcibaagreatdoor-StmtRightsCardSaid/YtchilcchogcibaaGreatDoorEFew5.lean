/- The closures of created and text, as plain functions; how long texts are; A drawn region whose last operations write what its first ones read; caddislaw05.Few. -/
import Derived.Test.YtchilcchogcibaaGreatDoorEStD
import Derived.Test.YtchilcchogcibaaGreatDoorEStG
set_option maxRecDepth 100000
set_option maxHeartbeats 2000000
namespace Go.Proofs.YtchilcchogcibaaGreatDoor
open Go.RowKit
attribute [local go_sem] ByteArray.extract_mk ba_get ba_append
attribute [local go_sem ↓] Go.wp_at_zero Go.wp_at_succ
theorem textN_nodes : ∀ (n : Nat) (e : Ex), formE n e = true → fitE n e → (textN n e).length ≤ 110 * nodesE n e := by
 intro n
 induction n with
 | zero => intro e h; simp [formE] at h
 | succ n ih =>
  intro e h hf
  have hp := nodes_pos (n + 1) e
  rcases form_cases h with ⟨he, hm⟩ | ⟨he, hn, _⟩ | ⟨a, rfl, ha⟩ | ⟨a, rfl, ha⟩ | ⟨op, a, b, rfl, ho, ha, hb⟩
  ·have := textF_len e.v.k e.v.i e.v.s (fitE_v hf)
   rw [show textN (n + 1) e = textF e.v.k e.v.i e.v.s by rw [he]; rfl]
   omega
  ·rw [show textN (n + 1) e = e.s by rw [he]; rfl]
   unfold nameB runB at hn
   simp only [Bool.and_eq_true, decide_eq_true_eq] at hn
   omega
  ·have := ih a ha (hf.2 a (by simp [Ex.l]))
   rw [nodes_one n _ (by simp [Ex.l])]
   show (([40, 78, 79, 84, 32] ++ textN n a) ++ [41]).length ≤ 110 * (1 + nodesE n a)
   simp; omega
  ·have := ih a ha (hf.2 a (by simp [Ex.l]))
   rw [nodes_one n _ (by simp [Ex.l])]
   show (([40] ++ textN n a) ++ [32, 73, 83, 32, 78, 85, 76, 76, 41]).length ≤ 110 * (1 + nodesE n a)
   simp; omega
  ·have k1 := ih a ha (hf.2 a (by simp [Ex.l]))
   have k2 := ih b hb (hf.2 b (by simp [Ex.l]))
   obtain ⟨n1, n2, n3, n4⟩ := twoB_ne ho
   have := (twoB_len ho).1
   rw [nodes_two n _ (by simp [Ex.l]), textN_two n1 n2 n3 n4]
   show _ ≤ 110 * (1 + (nodesE n a + nodesE n b))
   simp [upper_len]; omega
theorem fitE_less : ∀ (n : Nat) (e : Ex), fitE (n + 1) e → fitE n e
 | 0, _, h => h.1
 | n + 1, _, h => ⟨h.1, fun x hx => fitE_less n x (h.2 x hx)⟩
theorem textX_len {e : Ex} (h : mayX e = true) (hf : fitE 13 e) : (textX e).length ≤ 6600 := by
 have h1 := mayX_form h
 have h2 := (may_form 12 1 0 e (by omega) (by omega)).1
 unfold mayX may at h
 rw [h2] at h
 simp only [Bool.and_eq_true, decide_eq_true_eq] at h
 have h3 := textN_nodes 12 e h1 (fitE_less 12 e hf)
 have h4 := (tok_up 12 e h1).2
 unfold textX
 rw [h4]
 omega
theorem where_eq {e : Ex} (h : perhapsE e = true) : whereW e = whereT e := by
 unfold whereW whereT writtenE
 unfold perhapsE at h
 cases hn : noneE e
 ·rw [hn] at h
  have : mayX e = true := by simpa using h
  simp [this]
 ·rfl
theorem check_eq {a : List UInt8} {e : Ex} (h : perhapsE e = true) : checkW a e = checkT a e := by
 unfold checkW checkT writtenE
 unfold perhapsE at h
 cases hn : noneE e
 ·rw [hn] at h
  have : mayX e = true := by simpa using h
  simp [this]
 ·rfl
theorem where_len {e : Ex} (h : perhapsE e = true) (hf : fitE 13 e) : (whereT e).length ≤ 7000 := by
 unfold whereT
 unfold perhapsE at h
 cases hn : noneE e
 ·rw [hn] at h
  have := textX_len (e := e) (by simpa using h) hf
  simp; omega
 ·simp
theorem check_len {a : List UInt8} {e : Ex} (ha : a.length ≤ 100) (h : perhapsE e = true) (hf : fitE 13 e) : (checkT a e).length ≤ 7000 := by
 unfold checkT
 unfold perhapsE at h
 cases hn : noneE e
 ·rw [hn] at h
  have := textX_len (e := e) (by simpa using h) hf
  simp; omega
 ·simp
theorem nameG_len {s : List UInt8} (h : nameG s = true) : s.length ≤ 16 := by
 have := nameG_B h
 unfold nameB runB at this
 simp only [Bool.and_eq_true, decide_eq_true_eq] at this
 omega
theorem colT_len {c : Col} (h : colOkB c = true) : (colT c).length ≤ 100 := by
 unfold colOkB at h
 simp only [Bool.and_eq_true] at h
 have h1 := nameG_len h.1.1
 have h2 : (typeT c.t).length ≤ 4 := by unfold typeT; split; decide; split <;> decide
 unfold colT
 cases c.b <;> simp <;> omega
theorem setT_len {x : Se} (h : setOkB x = true) (hf : fitE 13 x.e) : (setT x).length ≤ 7000 := by
 unfold setOkB at h
 simp only [Bool.and_eq_true] at h
 have h1 := nameG_len h.1
 have h2 := textX_len h.2 hf
 unfold setT
 simp; omega
theorem sum_le {α : Type} (f : α → Nat) (K : Nat) : ∀ l : List α, (∀ x ∈ l, f x ≤ K) → (l.map f).sum ≤ l.length * K
 | [], _ => by simp
 | x :: r, h => by
  have h1 := h x (by simp)
  have h2 := sum_le f K r (fun y hy => h y (by simp [hy]))
  rw [List.map_cons, List.sum_cons, List.length_cons, Nat.add_mul]
  omega
theorem joined_len {α : Type} (t : α → List UInt8) (K : Nat) (l : List α) (h : ∀ x ∈ l, (t x).length ≤ K) : (joinL comma (l.map t)).length ≤ l.length * (K + 3) := by
 have h1 := joinL_len comma (l.map t)
 have h2 := sum_le (fun x : List UInt8 => x.length + comma.length) (K + 3) (l.map t) (fun x hx => by
  obtain ⟨y, hy, rfl⟩ := List.mem_map.1 hx
  have := h y hy
  show (t y).length + 3 ≤ _
  omega)
 rw [List.length_map] at h2
 omega
theorem sameC_any (x : List UInt8) (w : World) : Calls Tryz.prog 84 #[.string ⟨x.toArray⟩] w (Ret (.string ⟨x.toArray⟩) w) := by
 go_in
 go_wp2_with fail
 go_ret
 exact ⟨rfl, Below.refl _ _⟩
theorem typ_at {w : World} (h : TypT w) {t : Int} (h1 : 1 ≤ t) (h2 : t ≤ 3) : w.cell? ⟨0, (t - 1).toNat, none⟩ = some (.string ⟨(typeT t).toArray⟩) := by
 obtain ⟨a, b, c⟩ := h
 have : t = 1 ∨ t = 2 ∨ t = 3 := by omega
 rcases this with rfl | rfl | rfl
 ·exact a
 ·exact b
 ·exact c
theorem colTC_any (c : Col) (w : World) (h : colOkB c = true) (hT : TypT w) : Calls Tryz.prog 150 #[.agg #[.string ⟨c.n.toArray⟩, .int .i64 c.t, .bool c.b]] w (Ret (.string ⟨(colT c).toArray⟩) w) := by
 obtain ⟨n, t, b⟩ := c
 have hlen := colT_len h
 unfold colOkB at h
 simp only [Bool.and_eq_true, decide_eq_true_eq] at h
 obtain ⟨⟨h0, h1⟩, h2⟩ := h
 have hn := nameG_len h0
 dsimp only at hn h1 h2 ⊢
 obtain ⟨w0, hw0⟩ : ∃ w0, w.alloc (.cells #[.string ⟨n.toArray⟩, .int .i64 t, .bool b] 96) = w0 := ⟨_, rfl⟩
 have kb0 : Blk w0 w.heap.size 96 #[.string ⟨n.toArray⟩, .int .i64 t, .bool b] := by rw [← hw0]; exact Blk.new _ _ _
 have hb0 : Below w.heap.size w w0 := by rw [← hw0]; exact bl
 have hz0 := hb0.size
 have HK : Hid (∀ Z : World, Below w0.heap.size w0 Z → ∀ i, Z.cell? ⟨w.heap.size, i, none⟩ = (#[.string ⟨n.toArray⟩, .int .i64 t, .bool b] : Array Value)[i]?) := fun Z hz i => (kb0.below hz kb0.lt).cell i
 have HW := Lib.hid hw0
 have HB := Lib.hid hb0
 clear hw0 kb0 hb0
 obtain ⟨m, hm⟩ : ∃ m : Nat, (t - 1).toNat = m := ⟨_, rfl⟩
 have hty := typ_at hT h1 h2
 have hl2 : (typeT t).length ≤ 4 := by unfold typeT; split; decide; split <;> decide
 obtain ⟨Y, hY⟩ : ∃ Y, typeT t = Y := ⟨_, rfl⟩
 obtain ⟨R, hR⟩ : ∃ R, colT ⟨n, t, b⟩ = R := ⟨_, rfl⟩
 have hR2 : n ++ [32] ++ Y ++ (if b then [32, 78, 79, 84, 32, 78, 85, 76, 76] else []) = R := by rw [← hR, ← hY]; rfl
 rw [hR]
 rw [hY, hm] at hty
 rw [hY] at hl2
 have hg0 : 0 < w.heap.size := Blk_lt_of_cell hty
 have HTY : Hid (∀ Z : World, Below w0.heap.size w0 Z → Z.cell? ⟨0, m, none⟩ = some (.string ⟨Y.toArray⟩)) := fun Z hz => ((HB.out.trans (hz.mono hz0)).cell (p := ⟨0, m, none⟩) hg0).trans hty
 have HR := Lib.hid hR2
 have HSH : Hid (∀ Z : World, Below w0.heap.size w0 Z → (Z.cell? ⟨w.heap.size, 0, none⟩ = some (.string ⟨n.toArray⟩) ∧ Z.cell? ⟨w.heap.size, 1, none⟩ = some (.int .i64 t) ∧ Z.cell? ⟨w.heap.size, 2, none⟩ = some (.bool b)) ∧ Z.cell? ⟨0, m, none⟩ = some (.string ⟨Y.toArray⟩)) := fun Z hz => ⟨⟨HK.out Z hz 0, HK.out Z hz 1, HK.out Z hz 2⟩, HTY.out Z hz⟩
 have i1 : IntKind.i64.wrap (t - 1) = t - 1 := IntWalk.i64_in _ (by omega)
 have i2 : (0 : Int) ≤ t - 1 := by omega
 have i3 : t - 1 < 3 := by omega
 clear hR hR2 hY hty hlen
 obtain ⟨⟨k0, k1, k2⟩, k3⟩ := HSH.out w0 (Below.refl _ _)
 cases b with
 | true =>
  go_in
  go_upto_region 1 with fail
  rw [HW.out]
  go_wp2_with fail
  refine rgn HSH fun hHeld => ?_
  refine tS [0, 1, 2, 3, 4, 5, 6, 7, 8, 9, 10] ?_
  iterate 11 (refine tC ?_; refine ap ?_)
  refine tN ?_
  refine wpAnyH_done (by kernel_rfl) ?_ _
  have hbf : Below w.heap.size w w0.drew := HB.out.drew
  go_wp2_with fail
  go_ret
  exact ⟨by rw [← HR.out]; simp, by first | exact hbf | exact HB.out⟩
 | false =>
  go_in
  go_upto_region 1 with fail
  rw [HW.out]
  go_wp2_with fail
  refine rgn HSH fun hHeld => ?_
  refine tS [0, 1, 2, 3, 4, 5, 6, 7, 8, 9] ?_
  iterate 10 (refine tC ?_; refine ap ?_)
  refine tN ?_
  refine wpAnyH_done (by kernel_rfl) ?_ _
  have hbf : Below w.heap.size w w0.drew := HB.out.drew
  go_wp2_with fail
  go_ret
  exact ⟨by rw [← HR.out]; simp, by first | exact hbf | exact HB.out⟩
end Go.Proofs.YtchilcchogcibaaGreatDoor
namespace Go.Proofs.YtchilcchogcibaaGreatDoor
open Go
section
variable {P : Program} {ops : Array Oper} {Q : Exit → Act → World → Prop} {md : Region.Mode} {S : Array Bool → World → Prop} {T : World → Prop}
def wpAnyI (P : Program) (md : Region.Mode) (ops : Array Oper) (Q : Exit → Act → World → Prop) (S : Array Bool → World → Prop) : Nat → Array Bool → Act → World → Prop
 | 0, listed, a, w => Region.ready md ops listed = [] ∧ Q .normal a w
 | fuel + 1, listed, a, w =>
  (Region.ready md ops listed = [] → Q .normal a w) ∧
  ∀ i ∈ Region.ready md ops listed, wpOp P ops Q i (fun a' w' => S (listed.setIfInBounds i true) w' ∧ wpAnyI P md ops Q S fuel (listed.setIfInBounds i true) a' w') a w
def Till (cs : List Nat) (T : World → Prop) (L : Array Bool) (w : World) : Prop := (∃ c ∈ cs, L.getD c true = false) → T w
theorem Till.set {cs : List Nat} {i : Nat} {L : Array Bool} {w : World} (hs : Till cs T L w) : Till cs T (L.setIfInBounds i true) w := fun ⟨c, hc, hL⟩ => by
 refine hs ⟨c, hc, ?_⟩
 by_cases h : i = c
 ·subst h
  rcases Nat.lt_or_ge i L.size with h1 | h1
  ·simp [Array.getD, h1] at hL
  ·simp [Array.getD, Nat.not_lt.2 h1] at hL
 ·rw [getD_set_ne true h] at hL
  exact hL
def AllReadyI (P : Program) (md : Region.Mode) (ops : Array Oper) (Q : Exit → Act → World → Prop) (S : Array Bool → World → Prop) (fuel : Nat) (listed : Array Bool) (a : Act) (w : World) (rs : List Nat) : Prop :=
 ∀ i ∈ rs, wpOp P ops Q i (fun a' w' => S (listed.setIfInBounds i true) w' ∧ wpAnyI P md ops Q S fuel (listed.setIfInBounds i true) a' w') a w
theorem AllReadyI.nil {fuel : Nat} {listed : Array Bool} {a : Act} {w : World} : AllReadyI P md ops Q S fuel listed a w [] := fun _ h => by cases h
theorem AllReadyI.cons {fuel : Nat} {listed : Array Bool} {a : Act} {w : World} {i : Nat} {o : Oper} {rs : List Nat} (ho : ops[i]? = some o)
  (h : ∀ K' : Act → World → Prop, Shut (∀ a w, S (listed.setIfInBounds i true) w → (S (listed.setIfInBounds i true) w → wpAnyI P md ops Q S fuel (listed.setIfInBounds i true) a w) → K' a w) → if Region.wanted o (yielded ops a.tmps) = true then Oper.wp P o a w K' Q else K' (a.put o.dst undef) w)
  (hs : AllReadyI P md ops Q S fuel listed a w rs) : AllReadyI P md ops Q S fuel listed a w (i :: rs) := fun j hj => by
 rcases List.mem_cons.1 hj with rfl | hj
 ·exact wpOp_step ho (fun K' hK => h K' (fun a w hS hW => hK a w ⟨hS, hW hS⟩))
 ·exact hs j hj
end
end Go.Proofs.YtchilcchogcibaaGreatDoor
namespace Go.Proofs.YtchilcchogcibaaGreatDoor
open Go.RowKit
attribute [local go_sem] ByteArray.extract_mk ba_get ba_append
attribute [local go_sem ↓] Go.wp_at_zero Go.wp_at_succ run_eql_V run_neq_V
def GotS (l : List (List UInt8)) (u : Value) (Q : Nat → Prop) (w : World) : Prop := ∃ A c, u = .slice A l.length c ∧ SQ l A Q w
def GotW (l : List V) (u : Value) (Q : Nat → Prop) (w : World) : Prop := ∃ A c, u = .slice A l.length c ∧ WQ l A Q w
theorem GotS.keeps (l : List (List UInt8)) (u : Value) : Keep1 (GotS l u) := fun _ _ _ _ hk ⟨A, c, h1, h2⟩ => ⟨A, c, h1, h2.keep hk⟩
theorem GotW.keeps (l : List V) (u : Value) : Keep1 (GotW l u) := fun _ _ _ _ hk ⟨A, c, h1, h2⟩ => ⟨A, c, h1, h2.keep hk⟩
def aggV : Value → Array Value
 | .agg a => a
 | _ => #[]
def bld5 (V : Nat → Value) : Value := .agg (#[V 0, V 1, V 2, V 5, V 7, V 3, V 6, .slice none 0 0] ++ aggV (V 8) ++ #[V 10, .slice none 0 0] ++ aggV (V 9) ++ #[V 4])
def A5 (x : St) (j : Nat) (V : Nat → Value) (Q : Nat → Prop) (w : World) : Prop :=
 match j with
 | 0 => V 0 = .string ⟨x.op.toArray⟩
 | 1 => V 1 = .string ⟨x.tb.toArray⟩
 | 2 => V 2 = .string ⟨x.ot.toArray⟩
 | 3 => V 3 = .string ⟨x.key.toArray⟩
 | 4 => V 4 = .string ⟨x.role.toArray⟩
 | 5 => GotS x.names (V 5) Q w
 | 6 => GotS x.uniq (V 6) Q w
 | 7 => GotK x.cols (V 7) Q w
 | 8 => GotX x.chk (V 8) Q w
 | 9 => GotX x.whr (V 9) Q w
 | 10 => GotW x.row (V 10) Q w
 | 11 => V 11 = bld5 V
 | _ => True
theorem A5.keep (x : St) (j : Nat) (V : Nat → Value) (Q Q' : Nat → Prop) (w w' : World) (hk : ∀ b, Q b → Q' b ∧ ∀ o, w'.cell? ⟨b, o, none⟩ = w.cell? ⟨b, o, none⟩) (h : A5 x j V Q w) : A5 x j V Q' w' := by
 match j, h with
 | 0, h => exact h
 | 1, h => exact h
 | 2, h => exact h
 | 3, h => exact h
 | 4, h => exact h
 | 5, h => exact GotS.keeps _ _ _ _ _ _ hk h
 | 6, h => exact GotS.keeps _ _ _ _ _ _ hk h
 | 7, h => exact GotK.keeps _ _ _ _ _ _ hk h
 | 8, h => exact GotX.keeps _ _ _ _ _ _ hk h
 | 9, h => exact GotX.keeps _ _ _ _ _ _ hk h
 | 10, h => exact GotW.keeps _ _ _ _ _ _ hk h
 | 11, h => exact h
 | _ + 12, _ => trivial
def StQ5 (x : St) (p : StP) (Q : Nat → Prop) (w : World) : Prop := SQ x.names p.names.a Q w ∧ CQ x.cols p.cols.a Q w ∧ SQ x.uniq p.uniq.a Q w ∧ ExR Q x.chk p.chk.a p.chk.c w ∧ WQ x.row p.row.a Q w ∧ ExR Q x.whr p.whr.a p.whr.c w
theorem StQ5.keep {x : St} {p : StP} {Q Q' : Nat → Prop} {w w' : World} (h : StQ5 x p Q w) (hk : ∀ b, Q b → Q' b ∧ ∀ o, w'.cell? ⟨b, o, none⟩ = w.cell? ⟨b, o, none⟩) : StQ5 x p Q' w' :=
 ⟨h.1.keep hk, h.2.1.keep hk, h.2.2.1.keep hk, h.2.2.2.1.keep hk, h.2.2.2.2.1.keep hk, h.2.2.2.2.2.keep hk⟩
def Rf.cells (r : Rf) : List Value := [.string ⟨r.c.toArray⟩, .string ⟨r.t.toArray⟩]
theorem rf_at : ∀ (l : List Rf) (i j : Nat) (v : Rf), l[i]? = some v → j < 2 → (l.flatMap Rf.cells)[i * 2 + j]? = v.cells[j]? := by
 intro l
 induction l with
 | nil => intro i j v h; simp at h
 | cons x r ih =>
  intro i j v h hj
  cases i with
  | zero =>
   simp at h; subst h
   rw [List.flatMap_cons, List.getElem?_append_left (by simp [Rf.cells]; omega)]
   simp
  | succ i =>
   rw [List.flatMap_cons, List.getElem?_append_right (by simp [Rf.cells]; omega)]
   have e : (i + 1) * 2 + j - x.cells.length = i * 2 + j := by simp [Rf.cells]; omega
   rw [e]
   exact ih i j v (by simpa using h) hj
theorem rf_len (l : List Rf) : (l.flatMap Rf.cells).length = l.length * 2 := by
 induction l with
 | nil => rfl
 | cons x r ih => rw [List.flatMap_cons, List.length_append, ih, List.length_cons]; simp [Rf.cells]; omega
theorem XQ.own {w : World} {base : Nat} {e : TypeId} {sv : Value} {n : Nat} {l : List Rf} (h : w.ownsRow base e 2 sv n (l.flatMap Rf.cells)) :
  ∃ A c, sv = .slice A l.length c ∧ XQ l A (fun b => base ≤ b ∧ b < w.heap.size) w := by
 have hn : l.length = n := by have := h.1; rw [rf_len] at this; omega
 rcases h.2 with ⟨rfl, h0⟩ | ⟨g, cap, cur, rfl, hb, hg, hnc, hcm, hcs, htk⟩
 ·exact ⟨none, 0, by rw [hn, h0], fun hl => absurd hl (by omega)⟩
 ·refine ⟨some ⟨g, 0, none⟩, cap, by rw [hn], fun _ => ⟨g, 0, rfl, ⟨hb, (Array.getElem?_eq_some_iff.1 hg).1⟩, fun i v hv => ?_⟩⟩
  have hc := h.cells (g := g) rfl
  have key : ∀ j u, j < 2 → v.cells[j]? = some u → w.cell? ⟨g, 0 + i * 2 + j, none⟩ = some u := by
   intro j u hj hu
   have := hc (i * 2 + j) u (by rw [rf_at l i j v hv hj]; exact hu)
   rw [add_mid] at this
   rw [Nat.add_assoc]
   exact this
  exact ⟨key 0 _ (by omega) rfl, key 1 _ (by omega) rfl⟩
structure SeC where
 n : List UInt8
 e : Ex
 A : Option Addr
 c : Nat
def SeC.cells (q : SeC) : List Value := .string ⟨q.n.toArray⟩ :: q.e.cells q.A q.c
def SeC.se (q : SeC) : Se := ⟨q.n, q.e⟩
theorem sec_at : ∀ (l : List SeC) (i j : Nat) (v : SeC), l[i]? = some v → j < 7 → (l.flatMap SeC.cells)[i * 7 + j]? = v.cells[j]? := by
 intro l
 induction l with
 | nil => intro i j v h; simp at h
 | cons x r ih =>
  intro i j v h hj
  cases i with
  | zero =>
   simp at h; subst h
   rw [List.flatMap_cons, List.getElem?_append_left (by simp [SeC.cells, Ex.cells]; omega)]
   simp
  | succ i =>
   rw [List.flatMap_cons, List.getElem?_append_right (by simp [SeC.cells, Ex.cells]; omega)]
   have e : (i + 1) * 7 + j - x.cells.length = i * 7 + j := by simp [SeC.cells, Ex.cells]; omega
   rw [e]
   exact ih i j v (by simpa using h) hj
def SetsOwn (w : World) (e : TypeId) (lo : Nat) (sv : Value) (l : List Se) : Prop :=
 ∃ recs : List SeC, recs.map SeC.se = l ∧ w.ownsRow lo e 7 sv l.length (recs.flatMap SeC.cells) ∧ ∀ q ∈ recs, ExR (fun b => lo ≤ b ∧ b < w.heap.size ∧ some b ≠ sv.ownBlock) q.e q.A q.c w
section
variable {w w' w1 : World} {e : TypeId} {lo : Nat} {sv : Value} {l : List Se}
theorem SetsOwn.nil : SetsOwn w e lo (.slice none 0 0) [] := ⟨[], rfl, World.ownsRow_nil _ _ _ _, by simp⟩
theorem SetsOwn.step {recs : List SeC} {n g cap : Nat} {q0 : SeC} (h1 : recs.map SeC.se = l) (h3 : ∀ q ∈ recs, ExR (fun b => lo ≤ b ∧ b < w.heap.size ∧ some b ≠ sv.ownBlock) q.e q.A q.c w)
  (hr : ExR (fun b => lo ≤ b ∧ b < w.heap.size ∧ some b ≠ sv.ownBlock) q0.e q0.A q0.c w) (hn : n = l.length) (ho : w'.ownsRow lo e 7 (.slice (some ⟨g, 0, none⟩) (n + 1) cap) (n + 1) (recs.flatMap SeC.cells ++ q0.cells))
  (hb : Below w.heap.size w w1) (hg : w1.grownBy w' sv.ownBlock) (hor : sv.ownBlock = some g ∨ g = w1.heap.size) : SetsOwn w' e lo (.slice (some ⟨g, 0, none⟩) (n + 1) cap) (l ++ [q0.se]) := by
 have hk : ∀ b, (lo ≤ b ∧ b < w.heap.size ∧ some b ≠ sv.ownBlock) → (lo ≤ b ∧ b < w'.heap.size ∧ some b ≠ (Value.slice (some ⟨g, 0, none⟩) (n + 1) cap).ownBlock) ∧ ∀ o, w'.cell? ⟨b, o, none⟩ = w.cell? ⟨b, o, none⟩ := fun b ⟨h1, h2, h3⟩ => by
  have hz1 := hb.size
  have hz2 := hg.size
  refine ⟨⟨h1, by omega, fun e1 => ?_⟩, fun o => (World.cell?_of_block (a := ⟨b, o, none⟩) (hg.block b (by omega) h3)).trans (hb.cell (p := ⟨b, o, none⟩) h2)⟩
  rcases hor with h | h
  ·exact h3 (e1.trans h.symm)
  ·have : b = g := Option.some.inj e1
   omega
 subst hn
 refine ⟨recs ++ [q0], by rw [List.map_append, h1]; rfl, ?_, fun q hq => ?_⟩
 ·rw [List.flatMap_append, List.length_append]
  simpa using ho
 ·rcases List.mem_append.1 hq with hq | hq
  ·exact (h3 q hq).keep hk
  ·obtain rfl : q = q0 := by simpa using hq
   exact hr.keep hk
theorem exq_all {Q : Nat → Prop} : ∀ recs : List SeC, (∀ q ∈ recs, ExR Q q.e q.A q.c w) → ∃ n, ∀ q ∈ recs, q.e.fit 1000 ∧ q.e.l.length ≤ q.c ∧ q.c ≤ maxLen ∧ ExQ 1000 n w Q q.A q.e.l
 | [], _ => ⟨0, fun q hq => by simp at hq⟩
 | x :: r, h => by
  obtain ⟨n, hn⟩ := exq_all r fun y hy => h y (by simp [hy])
  obtain ⟨f, c1, c2, m, hm⟩ := h x (by simp)
  refine ⟨max n m, fun y hy => ?_⟩
  rcases List.mem_cons.1 hy with rfl | hy
  ·exact ⟨f, c1, c2, hm.ups _ (Nat.le_max_right _ _)⟩
  ·exact ⟨(hn y hy).1, (hn y hy).2.1, (hn y hy).2.2.1, (hn y hy).2.2.2.ups _ (Nat.le_max_left _ _)⟩
theorem SetsOwn.out (h : SetsOwn w e lo sv l) : ∃ A c n, sv = .slice A l.length c ∧ ZQ 1000 n l A (fun b => lo ≤ b ∧ b < w.heap.size) w := by
 obtain ⟨recs, h1, h2, h3⟩ := h
 obtain ⟨n, hn⟩ := exq_all recs h3
 have hl : recs.length = l.length := by rw [← h1, List.length_map]
 rcases h2.2 with ⟨rfl, h0⟩ | ⟨g, cap, cur, rfl, hb, hg, hnc, hcm, hcs, htk⟩
 ·exact ⟨none, 0, 0, by rw [h0], fun hl => absurd hl (by omega)⟩
 ·refine ⟨some ⟨g, 0, none⟩, cap, n, rfl, fun _ => ⟨g, 0, rfl, ⟨hb, (Array.getElem?_eq_some_iff.1 hg).1⟩, fun i x hx => ?_⟩⟩
  rw [← h1, List.getElem?_map, Option.map_eq_some_iff] at hx
  obtain ⟨q, hq, rfl⟩ := hx
  have hc := h2.cells (g := g) rfl
  have key : ∀ j u, j < 7 → q.cells[j]? = some u → w.cell? ⟨g, 0 + i * 7 + j, none⟩ = some u := by
   intro j u hj hu
   have := hc (i * 7 + j) u (by rw [sec_at recs i j q hq hj]; exact hu)
   rw [add_mid] at this
   rw [Nat.add_assoc]
   exact this
  obtain ⟨f, c1, c2, hx⟩ := hn q (List.mem_of_getElem? hq)
  exact ⟨key 0 _ (by omega) rfl, q.A, q.c, f, c1, c2, ⟨key 1 _ (by omega) rfl, key 2 _ (by omega) rfl, key 3 _ (by omega) rfl, key 4 _ (by omega) rfl, key 5 _ (by omega) rfl, key 6 _ (by omega) rfl⟩, hx.keep (fun b hb' => ⟨⟨hb'.1, hb'.2.1⟩, fun _ => rfl⟩) n⟩
theorem SetsOwn.lt (h : SetsOwn w e lo sv l) : ∀ k, sv.ownBlock = some k → lo ≤ k ∧ k < w.heap.size := by
 obtain ⟨recs, _, h2, _⟩ := h
 exact h2.lt
theorem SetsOwn.but {p : Nat} (h : SetsOwn w e lo sv l) (hb : But p w w') (hp : p < lo) : SetsOwn w' e lo sv l := by
 obtain ⟨recs, h1, h2, h3⟩ := h
 exact ⟨recs, h1, own_but h2 hb hp, fun q hq => (h3 q hq).keep fun b hb' => ⟨⟨hb'.1, Nat.lt_of_lt_of_le hb'.2.1 hb.size, hb'.2.2⟩, fun o => hb.cell hb'.2.1 (by omega) o⟩⟩
end
end Go.Proofs.YtchilcchogcibaaGreatDoor
