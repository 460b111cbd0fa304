/- (expr.counter).may and expr.May as plain functions. Condition: an expression that reads as a tree, texts no longer than a thousand.. -/
import Derived.Test.YtchilcchogcibaaGreatDoorELex3
set_option maxRecDepth 100000
set_option maxHeartbeats 4000000
namespace Go.Proofs.YtchilcchogcibaaGreatDoor
open Go.RowKit
attribute [local go_sem] ByteArray.extract_mk ba_get ba_append
attribute [local go_sem ↓] Go.wp_at_zero Go.wp_at_succ run_eql_V run_neq_V
theorem But.after {p : Nat} {a w w' : World} (h : But p a w) (hb : Below w.heap.size w w') : But p a w' := h.trans (But.of_below hb)
theorem But.alloc {p : Nat} {a w : World} (h : But p a w) (o : Obj) : But p a (w.alloc o) := h.after ((Below.refl _ _).alloc (Nat.le_refl _) o)
theorem But.drew {p : Nat} {a w : World} (h : But p a w) : But p a w.drew := h.after (Below.drew (Below.refl _ _))
theorem But.set {p : Nat} {a w : World} (h : But p a w) (i : Nat) (u : Value) : But p a (w.setCell ⟨p, i, none⟩ u) := by
 have hb : Below 0 w (w.setCell ⟨p, i, none⟩ u) := by exact bl
 exact h.trans ⟨hb.os, hb.tape, hb.output, hb.size, fun k _ hp => Below.heap_setCell w ⟨p, i, none⟩ u k hp⟩
theorem Blk.six {w : World} {g : Nat} {t : TypeId} {e : Ex} {A : Option Addr} {c : Nat} (h : Blk w g t (e.cells A c).toArray) :
  w.cell? ⟨g, 0, none⟩ = some (.string ⟨e.op.toArray⟩) ∧ w.cell? ⟨g, 1, none⟩ = some (.int .i64 e.v.k) ∧ w.cell? ⟨g, 2, none⟩ = some (.int .i64 e.v.i) ∧ w.cell? ⟨g, 3, none⟩ = some (.string ⟨e.v.s.toArray⟩) ∧ w.cell? ⟨g, 4, none⟩ = some (.string ⟨e.s.toArray⟩) ∧ w.cell? ⟨g, 5, none⟩ = some (.slice A e.l.length c) :=
 ⟨h.cell 0, h.cell 1, h.cell 2, h.cell 3, h.cell 4, h.cell 5⟩
theorem exBox_in (e : Ex) (A : Option Addr) (c : Nat) (w : World) {G : Prop} (k : ∀ w0 : World, w.alloc (.cells (e.cells A c).toArray 30) = w0 → Blk w0 w.heap.size 30 (e.cells A c).toArray → Below w.heap.size w w0 → w.heap.size ≤ w0.heap.size →
  Hid (∀ w' : World, Below w0.heap.size w0 w' → (w'.cell? ⟨w.heap.size, 0, none⟩ = some (.string ⟨e.op.toArray⟩) ∧ w'.cell? ⟨w.heap.size, 1, none⟩ = some (.int .i64 e.v.k) ∧ w'.cell? ⟨w.heap.size, 2, none⟩ = some (.int .i64 e.v.i) ∧ w'.cell? ⟨w.heap.size, 3, none⟩ = some (.string ⟨e.v.s.toArray⟩) ∧ w'.cell? ⟨w.heap.size, 4, none⟩ = some (.string ⟨e.s.toArray⟩) ∧ w'.cell? ⟨w.heap.size, 5, none⟩ = some (.slice A e.l.length c))) →
  Hid (w.alloc (.cells (e.cells A c).toArray 30) = w0) → Hid (Below w.heap.size w w0) → G) : G := by
 have kq0 : Blk (w.alloc (.cells (e.cells A c).toArray 30)) w.heap.size 30 (e.cells A c).toArray := Blk.new _ _ _
 have hb0 : Below w.heap.size w (w.alloc (.cells (e.cells A c).toArray 30)) := by exact bl
 exact k _ rfl kq0 hb0 hb0.size (fun w' h => (kq0.below h kq0.lt).six) rfl hb0
theorem Blk.one {w : World} {g : Nat} {t : TypeId} {x : Value} (h : Blk w g t #[x]) : w.cell? ⟨g, 0, none⟩ = some x ∧ w.frozen? ⟨g, 0, none⟩ = false := ⟨h.cell 0, h.frozen 0⟩
theorem mayE_le : ∀ (n d c : Nat) (e : Ex), (mayE n d c e).1 = true → (mayE n d c e).2 ≤ 60 := by
 intro n
 induction n with
 | zero =>
  intro d c e
  unfold mayE
  split
  ·intro h; cases h
  ·rename_i h1
   simp only [Bool.or_eq_true, decide_eq_true_eq, not_or] at h1
   have := h1.1.2
   intro _
   split
   ·simp only; omega
   ·split
    ·simp only; omega
    ·split
     ·simp only; omega
     ·simp only; omega
 | succ n ih =>
  intro d c e
  have hfold : ∀ (l : List Ex) (c' : Nat), c' ≤ 60 → (mayFold (mayE n (d + 1)) c' l).1 = true → (mayFold (mayE n (d + 1)) c' l).2 ≤ 60 := by
   intro l
   induction l with
   | nil => intro c' hc _; exact hc
   | cons x r ihl =>
    intro c' hc
    unfold mayFold
    split
    ·rename_i hx
     exact ihl _ (ih _ _ _ hx)
    ·intro h; cases h
  unfold mayE
  split
  ·intro h; cases h
  ·rename_i h1
   simp only [Bool.or_eq_true, decide_eq_true_eq, not_or] at h1
   have := h1.1.2
   split
   ·intro _; simp only; omega
   ·split
    ·intro _; simp only; omega
    ·split
     ·intro h; cases h
     ·exact hfold _ _ (by omega)
def tailM (n d c : Nat) (l : List Ex) : Bool × Nat := match n with | 0 => (true, c) | n + 1 => mayFold (mayE n (d + 1)) c l
theorem mayE_eq (n d k : Nat) (e : Ex) (h12 : ¬ 12 < d) (h60 : ¬ 60 < k + 1) (hpt : (e.l.length : Int) = partsF e.op) : mayE n d k e = if e.op = opLit then (decide (e.s = []) && mayB e.v.k e.v.i e.v.s, k + 1)
  else if e.op = opCol then (isZero e.v && nameB e.s && !reserved e.s, k + 1)
  else if !isZero e.v || !decide (e.s = []) then (false, k + 1)
  else tailM n d (k + 1) e.l := by
 unfold mayE
 simp only [h12, h60, hpt, decide_true, decide_false, Bool.not_true, Bool.or_self, Bool.false_eq_true, if_false]
 rfl
def RetMay (R : Bool × Nat) (p : Nat) (w : World) (en : Ending) (w' : World) : Prop := en = .returned (.bool R.1) ∧ Blk w' p 159 #[.int .i64 (R.2 : Nat)] ∧ But p w w'
def MayC (n : Nat) : Prop := ∀ (e : Ex) (A : Option Addr) (c p d k : Nat) (w : World), e.fit 1000 → ExS 1000 n w p A e.l → Blk w p 159 #[.int .i64 (k : Nat)] → d ≤ 13 → k ≤ 60 →
  Calls Tryz.prog 138 #[.pointer (some ⟨p, 0, none⟩), .agg (e.cells A c).toArray, .int .i64 (d : Nat)] w (RetMay (mayE n d k e) p w)
theorem may_step (n : Nat) (ih : ∀ m, n = m + 1 → MayC m) : MayC n := by
 intro e A c p d k w hf hA hk hd hk60
 have lp := hk.lt
 have HA := Lib.hid hA
 have HIH := Lib.hid ih
 obtain ⟨hfi, hf1, hf2, hf3⟩ := hf
 have HFI := Lib.hid hfi
 obtain ⟨R, hR⟩ : ∃ R, mayE n d k e = R := ⟨_, rfl⟩
 rw [hR]
 have HR := Lib.hid hR
 clear hA ih hR hfi
 obtain ⟨w0, hw0⟩ : ∃ w0, w.alloc (.cells (e.cells A c).toArray 30) = w0 := ⟨_, rfl⟩
 have kq0 : Blk w0 w.heap.size 30 (e.cells A c).toArray := by rw [← hw0]; exact Blk.new _ _ _
 have hb0 : But p w w0 := by rw [← hw0]; exact (But.refl _ _).alloc _
 have kp0 : Blk w0 p 159 #[.int .i64 (k : Nat)] := by rw [← hw0]; exact hk.alloc _
 have HW := Lib.hid hw0
 clear hw0
 obtain ⟨x0, x1⟩ := kp0.one
 go_in
 go_upto_region 1 with fail
 rw [HW.out]
 go_upto_region 2 with fail
 refine wp_forget (fun wx => Blk wx p 159 #[.int .i64 ((k : Int) + 1)] ∧ Blk wx w.heap.size 30 (e.cells A c).toArray ∧ But p w wx) ⟨kp0.set_ 0 _, kq0.far (by show w.heap.size ≠ p; omega) _, hb0.set 0 _⟩ ?_
 clear HW kq0 hb0 kp0 x0 x1 w0
 rintro W ⟨kp, kq, hbw⟩
 have lpW := kp.lt
 have lqW := kq.lt
 have HSH : Hid (∀ w' : World, Below W.heap.size W w' → (w'.cell? ⟨p, 0, none⟩ = some (.int .i64 ((k : Int) + 1)) ∧ w'.cell? ⟨w.heap.size, 0, none⟩ = some (.string ⟨e.op.toArray⟩) ∧ w'.cell? ⟨w.heap.size, 5, none⟩ = some (.slice A e.l.length c))) :=
  fun w' h => ⟨(kp.below h lpW).one.1, (kq.below h lqW).six.1, (kq.below h lqW).six.2.2.2.2.2⟩
 by_cases h12 : 12 < d
 ·have HF : Hid (R = (false, k + 1)) := by show _ = _; rw [← HR.out]; unfold mayE; simp [h12]
  have b1 : (12 : Int) < (d : Int) := by omega
  refine rgn HSH fun hHeld => ?_
  refine tS [0, 1, 2] ?_
  iterate 3 (refine tC ?_; refine ap ?_)
  refine tN ?_
  refine tS [3, 4, 5, 6, 7] ?_
  iterate 5 (refine tX ?_; refine ap ?_)
  refine tN ?_
  refine tS [8, 9] ?_
  iterate 2 (refine tC ?_; refine ap ?_)
  refine tN ?_
  refine tS [10, 11, 12, 13, 14, 15, 16] ?_
  iterate 7 (refine tX ?_; refine ap ?_)
  refine tN ?_
  refine tS [17] (tC ?_)
  refine ap (tN ?_)
  refine wpAnyH_done (by kernel_rfl) ?_ _
  go_wp2_with fail
  go_ret
  exact ⟨by rw [HF.out]; rfl, by rw [HF.out]; exact kp, hbw.drew⟩
 have b1 : ¬ (12 : Int) < (d : Int) := by omega
 by_cases h60 : 60 < k + 1
 ·have HF : Hid (R = (false, k + 1)) := by show _ = _; rw [← HR.out]; unfold mayE; simp [h60]
  have b2 : (60 : Int) < (k : Int) + 1 := by omega
  refine rgn HSH fun hHeld => ?_
  refine tS [0, 1, 2, 3, 4, 5, 6, 7, 8, 9] ?_
  iterate 10 (refine tC ?_; refine ap ?_)
  refine tN ?_
  refine tS [10, 11, 12, 13, 14, 15, 16] ?_
  iterate 7 (refine tX ?_; refine ap ?_)
  refine tN ?_
  refine tS [17] (tC ?_)
  refine ap (tN ?_)
  refine wpAnyH_done (by kernel_rfl) ?_ _
  go_wp2_with fail
  go_ret
  exact ⟨by rw [HF.out]; rfl, by rw [HF.out]; exact kp, hbw.drew⟩
 have b2 : ¬ (60 : Int) < (k : Int) + 1 := by omega
 have HPT : Hid (∀ w1 : World, Calls Tryz.prog 192 #[.string ⟨e.op.toArray⟩] w1 fun en w' => en = .returned (.int .i64 (partsF e.op)) ∧ w1 = w') := fun w1 => parts_any e.op w1
 by_cases hpt : (e.l.length : Int) = partsF e.op
 ·obtain ⟨P, hP⟩ : ∃ P, partsF e.op = P := ⟨_, rfl⟩
  have HP := Lib.hid hP
  have bp : ((e.l.length : Int) != P) = false := by rw [← hP]; simp [hpt]
  have hR2 : (if e.op = opLit then (decide (e.s = []) && mayB e.v.k e.v.i e.v.s, k + 1)
    else if e.op = opCol then (isZero e.v && nameB e.s && !reserved e.s, k + 1)
    else if !isZero e.v || !decide (e.s = []) then (false, k + 1)
    else tailM n d (k + 1) e.l) = R := by
   rw [← HR.out]
   exact (mayE_eq n d k e h12 h60 hpt).symm
  have HR2 := Lib.hid hR2
  have hl2 : e.l.length ≤ 2 := by
   have : partsF e.op ≤ 2 := by unfold partsF; split <;> (try split) <;> (try split) <;> omega
   omega
  clear hR2 hpt hP
  refine rgn HSH fun hHeld => ?_
  refine tS [0, 1, 2, 3, 4, 5, 6, 7, 8, 9, 10, 11, 12, 13, 14] ?_
  iterate 15 (refine tC ?_; refine ap ?_)
  refine tN ?_
  refine rdy 15 fun K hK => ?_
  go_simp
  refine (HPT.out _).mono ?_ <;> rw [HP.out] <;> rintro en w7 ⟨rfl, rfl⟩
  go_wp2_with fail
  refine hK.out _ _ (HSH.out _ (by exact bl)) fun hHeld => ?_
  clear hK K
  refine ap ?_
  refine tS [16, 17] ?_
  iterate 2 (refine tC ?_; refine ap ?_)
  refine tN ?_
  refine wpAnyH_done (by kernel_rfl) ?_ _
  have kp1 : Blk W.drew p 159 #[.int .i64 ((k : Int) + 1)] := kp.drew
  have kq1 : Blk W.drew w.heap.size 30 (e.cells A c).toArray := kq.drew
  have hbw1 : But p w W.drew := hbw.drew
  clear HSH kp kq hbw lpW lqW
  generalize W.drew = W1 at *
  have lpW := kp1.lt
  have lqW := kq1.lt
  obtain ⟨q0, q1, q2, q3, q4, q5⟩ := kq1.six
  have hzv : veq ⟨e.v.k, e.v.i, e.v.s⟩ ⟨0, 0, []⟩ = isZero e.v := by unfold veq isZero; cases e.v.s <;> simp
  by_cases hL : e.op = opLit
  ·have eL : (e.op == [108, 105, 116]) = true := by rw [hL]; rfl
   have hR3 : (decide (e.s = []) && mayB e.v.k e.v.i e.v.s, k + 1) = R := by rw [← HR2.out, if_pos hL]
   have HR3 := Lib.hid hR3
   clear hR3 hL HR2 hzv
   by_cases hs0 : e.s = []
   ·have es : (e.s == []) = true := by simpa using hs0
    have HS := Lib.hid hs0
    clear hs0
    go_wp2_with fail
    refine (may_any e.v.k e.v.i e.v.s _).mono ?_
    rintro en w7 ⟨rfl, hb7⟩
    go_wp2_with fail
    go_ret
    exact ⟨by rw [← HR3.out, HS.out]; simp, by rw [← HR3.out]; exact kp1.below hb7 lpW, hbw1.after hb7⟩
   ·have es : (e.s == []) = false := by simpa using hs0
    have HS := Lib.hid hs0
    clear hs0
    go_wp2_with fail
    go_ret
    exact ⟨by rw [← HR3.out]; simp [HS.out], by rw [← HR3.out]; exact kp1, hbw1⟩
  have eL : (e.op == [108, 105, 116]) = false := by rw [beq_eq_false_iff_ne]; exact hL
  have hR3 := HR2.out
  rw [if_neg hL] at hR3
  clear HR2 hL
  by_cases hC : e.op = opCol
  ·have eC : (e.op == [99, 111, 108]) = true := by rw [hC]; rfl
   rw [if_pos hC] at hR3
   have HR3 := Lib.hid hR3
   clear hR3 hC
   cases hz : isZero e.v
   ·rw [hz] at hzv HR3
    clear hz
    go_wp2_with fail
    go_ret
    exact ⟨by rw [← HR3.out]; rfl, by rw [← HR3.out]; exact kp1, hbw1⟩
   ·rw [hz] at hzv HR3
    clear hz
    go_wp2_with fail
    refine (nameX_any e.s _ (by omega)).mono ?_
    rintro en w7 ⟨rfl, hb7⟩
    have kp7 := kp1.below hb7 lpW
    have kq7 := kq1.below hb7 lqW
    have hbw7 := hbw1.after hb7
    clear q0 q1 q2 q3 q4 q5
    obtain ⟨q0, q1, q2, q3, q4, q5⟩ := kq7.six
    cases hn : nameB e.s
    ·rw [hn] at HR3
     clear hn
     go_wp2_with fail
     go_ret
     exact ⟨by rw [← HR3.out]; rfl, by rw [← HR3.out]; exact kp7, hbw7⟩
    ·rw [hn] at HR3
     clear hn
     go_wp2_with fail
     refine (reserved_any e.s _).mono ?_
     rintro en w8 ⟨rfl, rfl⟩
     go_wp2_with fail
     go_ret
     exact ⟨by rw [← HR3.out]; simp, by rw [← HR3.out]; exact kp7, hbw7⟩
  have eC : (e.op == [99, 111, 108]) = false := by rw [beq_eq_false_iff_ne]; exact hC
  rw [if_neg hC] at hR3
  clear hC
  by_cases hzs : isZero e.v = true ∧ e.s = []
  ·have es : (e.s == []) = true := by simpa using hzs.2
   have es2 : (e.s != []) = false := by simp [hzs.2]
   rw [if_neg (by simp [hzs])] at hR3
   rw [hzs.1] at hzv
   have HR3 := Lib.hid hR3
   clear hR3 hzs
   have hA1 := HA.out.below n (hbw1.below (by omega))
   have HA1 := Lib.hid hA1
   clear hA1
   go_wp2_with fail
   go_loopw [75] (fun i wr => ∃ j k' : Nat, j ≤ e.l.length ∧ i = .int .i64 j ∧ k' ≤ 60 ∧ Blk wr p 159 #[.int .i64 (k' : Nat)] ∧ Blk wr w.heap.size 30 (e.cells A c).toArray ∧ But p W1 wr ∧ Hid (tailM n d k' (e.l.drop j) = R)) (fun i _ => e.l.length - (intOf i).toNat)
   case atStart => exact ⟨0, k + 1, by omega, rfl, by omega, kp1, kq1, But.refl _ _, HR3.out⟩
   case round =>
    obtain ⟨j, k', hj, rfl, hk', kpr, kqr, hbr, HJ⟩ := hrel
    have hzr := hbr.size
    have lpr := kpr.lt
    by_cases hlt : j < e.l.length
    ·have hA2 := HA1.out
     cases n with
     | zero => rw [show e.l = [] from hA2] at hlt; simp at hlt
     | succ m =>
      have hA3 : ExS 1000 (m + 1) wr p A e.l := hA2.below _ (hbr.below (by omega))
      obtain ⟨b1, o1, x, A', c', rfl, hbB1, hv, hfx, hxc, hxm, ⟨c0, c1, c2, c3, c4, c5⟩, hx⟩ := hA3.at_ hlt
      have hJ := HJ.out
      have hdr : e.l.drop j = x :: e.l.drop (j + 1) := by
       obtain ⟨hj', rfl⟩ := List.getElem?_eq_some_iff.1 hv
       exact List.drop_eq_getElem_cons hj'
      rw [hdr] at hJ
      unfold tailM at hJ
      simp only at hJ
      unfold mayFold at hJ
      have HJ2 := Lib.hid hJ
      have HFX := Lib.hid hfx
      have i1 : (0 : Int) ≤ (j : Int) := by omega
      have i2 : (j : Int) < (e.l.length : Int) := by omega
      clear hJ hdr hv HJ hA2 hA3 hfx hxm q0 q1 q2 q3 q4 q5
      obtain ⟨w2, hw2⟩ : ∃ w2, wr.alloc (.cells (x.cells A' c').toArray 30) = w2 := ⟨_, rfl⟩
      have kx2 : Blk w2 wr.heap.size 30 (x.cells A' c').toArray := by rw [← hw2]; exact Blk.new _ _ _
      have kp2 : Blk w2 p 159 #[.int .i64 (k' : Nat)] := by rw [← hw2]; exact kpr.alloc _
      have kq2 : Blk w2 w.heap.size 30 (e.cells (some ⟨b1, o1, none⟩) c).toArray := by rw [← hw2]; exact kqr.alloc _
      have hb2 : But p W1 w2 := by rw [← hw2]; exact hbr.alloc _
      have hx2 : ExS 1000 m w2 p A' x.l := by rw [← hw2]; exact hx.below _ ((Below.refl _ _).alloc (by omega) _)
      have HX2 := Lib.hid hx2
      have HW2 := Lib.hid hw2
      clear hw2 hx hx2
      have l2 := kx2.lt
      obtain ⟨y0, y1, y2, y3, y4, y5⟩ := kx2.six
      go_upto_region 14 with fail
      rw [show wr.alloc (.cells #[.string ⟨x.op.toArray⟩, .int .i64 x.v.k, .int .i64 x.v.i, .string ⟨x.v.s.toArray⟩, .string ⟨x.s.toArray⟩, .slice A' x.l.length c'] 30) = w2 from HW2.out]
      clear HW2 c0 c1 c2 c3 c4 c5
      go_wp2_with fail
      refine (HIH.out m rfl x A' c' p (d + 1) k' w2 HFX.out HX2.out kp2 (by omega) hk').mono ?_
      have hle := mayE_le m (d + 1) k' x
      obtain ⟨Q, hQ⟩ : ∃ Q, mayE m (d + 1) k' x = Q := ⟨_, rfl⟩
      rw [hQ] at HJ2 hle ⊢
      obtain ⟨Q1, Q2⟩ := Q
      rintro en w3 ⟨rfl, kp3, hb3⟩
      have kq3 := hb3.blk kq2 (by omega)
      have hb13 := hb2.trans hb3
      cases Q1
      ·have HF : Hid (R = (false, Q2)) := by show _ = _; rw [← HJ2.out]; rfl
       clear HJ2 hle
       go_wp2_with fail
       go_ret
       exact ⟨by rw [HF.out]; rfl, by rw [HF.out]; exact kp3, hbw1.trans hb13⟩
      ·have HF : Hid (mayFold (mayE m (d + 1)) Q2 (e.l.drop (j + 1)) = R) := by show _ = _; rw [← HJ2.out]; rfl
       have hq2 := hle rfl
       clear HJ2 hle
       go_wp2_with fail
       go_roundw
       case rel => exact ⟨j + 1, Q2, by omega, by go_num, hq2, kp3, kq3, hb13, HF.out⟩
       case measure => simp [intOf]; omega
    ·have HF : Hid (R = (true, k')) := by
      show _ = _
      rw [← HJ.out]
      cases n with
      | zero => rfl
      | succ m => unfold tailM; simp only; rw [List.drop_of_length_le (by omega)]; rfl
     obtain rfl : j = e.l.length := by omega
     have b0 : ¬ ((e.l.length : Int) < (e.l.length : Int)) := by omega
     clear HJ
     go_wp2_with fail
     go_ret
     exact ⟨by rw [HF.out]; rfl, by rw [HF.out]; exact kpr, hbw1.trans hbr⟩
  ·have hR4 : (false, k + 1) = R := by
    rw [← hR3, if_pos]
    by_cases h : isZero e.v = true
    ·have : ¬ e.s = [] := fun h2 => hzs ⟨h, h2⟩
     simp [this]
    ·simp [h]
   have HR3 := Lib.hid hR4
   clear hR3 hR4
   cases hz : isZero e.v
   ·rw [hz] at hzv
    clear hz hzs
    go_wp2_with fail
    go_ret
    exact ⟨by rw [← HR3.out]; rfl, by rw [← HR3.out]; exact kp1, hbw1⟩
   ·rw [hz] at hzv
    have es2 : (e.s != []) = true := by simp only [hz, true_and] at hzs; simpa using hzs
    have es : (e.s == []) = false := by simp only [hz, true_and] at hzs; simpa using hzs
    clear hz hzs
    go_wp2_with fail
    go_ret
    exact ⟨by rw [← HR3.out]; rfl, by rw [← HR3.out]; exact kp1, hbw1⟩
 ·have HF : Hid (R = (false, k + 1)) := by show _ = _; rw [← HR.out]; unfold mayE; simp [h12, h60, hpt]
  obtain ⟨P, hP⟩ : ∃ P, partsF e.op = P := ⟨_, rfl⟩
  have HP := Lib.hid hP
  have bp : ((e.l.length : Int) != P) = true := by rw [← hP]; simpa using hpt
  clear hpt hP
  refine rgn HSH fun hHeld => ?_
  refine tS [0, 1, 2, 3, 4, 5, 6, 7, 8, 9, 10, 11, 12, 13, 14] ?_
  iterate 15 (refine tC ?_; refine ap ?_)
  refine tN ?_
  refine rdy 15 fun K hK => ?_
  go_simp
  refine (HPT.out _).mono ?_ <;> rw [HP.out] <;> rintro en w7 ⟨rfl, rfl⟩
  go_wp2_with fail
  refine hK.out _ _ (HSH.out _ (by exact bl)) fun hHeld => ?_
  clear hK K
  refine ap ?_
  refine tS [16, 17] ?_
  iterate 2 (refine tC ?_; refine ap ?_)
  refine tN ?_
  refine wpAnyH_done (by kernel_rfl) ?_ _
  go_wp2_with fail
  go_ret
  exact ⟨by rw [HF.out]; rfl, by rw [HF.out]; exact kp, hbw.drew⟩
theorem mayE_any (n : Nat) : MayC n := by
 induction n with
 | zero => exact may_step 0 (fun m h => by omega)
 | succ n ih =>
  refine may_step (n + 1) (fun m h => ?_)
  obtain rfl : n = m := by omega
  exact ih
theorem mayX_any (n : Nat) (e : Ex) (A : Option Addr) (c : Nat) (w : World) (hf : e.fit 1000) (hA : ExS 1000 n w w.heap.size A e.l) :
  Calls Tryz.prog 79 #[.agg (e.cells A c).toArray] w (Ret (.bool (may n e)) w) := by
 obtain ⟨w0, hw0⟩ : ∃ w0, (w.alloc (.cells (e.cells A c).toArray 30)).alloc (.cells #[.int .i64 0] 159) = w0 := ⟨_, rfl⟩
 have kq0 : Blk w0 w.heap.size 30 (e.cells A c).toArray := by rw [← hw0]; exact (Blk.new _ _ _).alloc _
 have kp0 : Blk w0 (w.heap.size + 1) 159 #[.int .i64 ((0 : Nat) : Int)] := by rw [← hw0]; exact Blk.new' _ _ _ _ (by simp)
 have hb0 : Below w.heap.size w w0 := by rw [← hw0]; exact bl
 have HW := Lib.hid hw0
 have HA0 := Lib.hid ((hA.below n hb0).more (Nat.le_succ _) n)
 have HF := Lib.hid hf
 clear hw0 hA hf
 obtain ⟨q0, q1, q2, q3, q4, q5⟩ := kq0.six
 go_in
 go_upto_region 2 with fail
 rw [HW.out]
 go_wp2_with fail
 refine (mayE_any n e A c (w.heap.size + 1) 1 0 w0 HF.out HA0.out kp0 (by omega) (by omega)).mono ?_
 rintro en w1 ⟨rfl, _, hb1⟩
 go_wp2_with fail
 go_ret
 exact ⟨rfl, hb1.inside hb0 (by omega)⟩
end Go.Proofs.YtchilcchogcibaaGreatDoor
