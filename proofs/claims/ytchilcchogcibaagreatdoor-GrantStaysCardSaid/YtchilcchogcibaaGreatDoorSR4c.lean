/- The document's form, nodes and May of an expression, as plain functions; What may be, after the document's form and number of nodes, is what may be after the program's. -/
import Derived.IntWalk
import Derived.Test.YtchilcchogcibaaGreatDoorSCols
import Derived.Test.YtchilcchogcibaaGreatDoorSEnvL
import Derived.Test.YtchilcchogcibaaGreatDoorSRef3Name
namespace Go.Proofs.YtchilcchogcibaaGreatDoor
open Go.RowKit
attribute [local go_sem] ByteArray.extract_mk ba_get ba_append
attribute [local go_sem ↓] Go.wp_at_zero Go.wp_at_succ run_eql_V run_neq_V
def ex0 : Ex := .mk [] V.zero [] []
/-- Is each node as it must be, down to so deep? -/
def formE : Nat → Ex → Bool
 | 0, _ => false
 | d + 1, e =>
  if e.op = opLit then mayB e.v.k e.v.i e.v.s && ((e.s == []) && decide (e.l.length = 0))
  else if e.op = opCol then veq e.v V.zero && (nameB e.s && (!reserved e.s && decide (e.l.length = 0)))
  else if e.op = opNot ∨ e.op = opNull then veq e.v V.zero && ((e.s == []) && (decide (e.l.length = 1) && formE d (e.l.getD 0 ex0)))
  else if twoB e.op = true then veq e.v V.zero && ((e.s == []) && (decide (e.l.length = 2) && (formE d (e.l.getD 0 ex0) && formE d (e.l.getD 1 ex0))))
  else false
theorem six0 {K n : Nat} {w : World} {B : Nat} {A : Option Addr} {l : List Ex} (h : ExS K n w B A l) {j : Nat} (hj : j < l.length) :
  ∃ m b off e A' c', n = m + 1 ∧ A = some ⟨b, off, none⟩ ∧ b < B ∧ l[j]? = some e ∧ l.getD j ex0 = e ∧ e.fit K ∧ e.l.length ≤ c' ∧ c' ≤ maxLen ∧ Six w b (off + j * 6) e A' c' ∧ ExS K m w B A' e.l := by
 cases n with
 | zero => rw [show l = [] from h] at hj; simp at hj
 | succ m =>
  obtain ⟨b, off, e, A', c', h1, h2, h3, h4, h5, h6, h7, h8⟩ := h.at_ hj
  exact ⟨m, b, off, e, A', c', rfl, h1, h2, h3, by rw [List.getD_eq_getElem?_getD, h3]; rfl, h4, h5, h6, h7, h8⟩
set_option maxRecDepth 100000 in
set_option maxHeartbeats 4000000 in
theorem form_any : ∀ (d : Nat) (e : Ex) (A : Option Addr) (c n : Nat) (w : World), d ≤ 1000 → e.fit 1000 → ExS 1000 n w w.heap.size A e.l →
  Calls Tryz.prog 182 #[.agg (e.cells A c).toArray, .int .i64 d] w (Ret (.bool (formE d e)) w) := by
 intro d
 induction d with
 | zero =>
  intro e A c n w _ _ _
  go_enter Tryz.func182, Tryz.ntmps182
  go_wp2_with fail
  go_ret
  exact ⟨rfl, by exact bl⟩
 | succ d ih =>
  intro e A c n w hd hf hE
  obtain ⟨w0, hw0⟩ : ∃ w0, w.alloc (.cells (e.cells A c).toArray 30) = w0 := ⟨_, rfl⟩
  have kq0 : Blk w0 w.heap.size 30 (e.cells A c).toArray := by rw [← hw0]; exact Blk.new _ _ _
  have hb0 : Below w.heap.size w w0 := by rw [← hw0]; exact bl
  have HSH : Hid (∀ w' : World, Below w0.heap.size w0 w' → (w'.cell? ⟨w.heap.size, 0, none⟩ = some (.string ⟨e.op.toArray⟩) ∧ w'.cell? ⟨w.heap.size, 1, none⟩ = some (.int .i64 e.v.k) ∧ w'.cell? ⟨w.heap.size, 2, none⟩ = some (.int .i64 e.v.i) ∧ w'.cell? ⟨w.heap.size, 3, none⟩ = some (.string ⟨e.v.s.toArray⟩) ∧ w'.cell? ⟨w.heap.size, 4, none⟩ = some (.string ⟨e.s.toArray⟩) ∧ w'.cell? ⟨w.heap.size, 5, none⟩ = some (.slice A e.l.length c))) := fun w' h => (kq0.below h kq0.lt).six
  have HE : Hid (∀ Y : World, Below w0.heap.size w0 Y → ExS 1000 n Y Y.heap.size A e.l) := fun Y h => ((hE.below n (hb0.trans (h.mono hb0.size)))).more (Nat.le_trans hb0.size h.size) n
  have HW := Lib.hid hw0
  obtain ⟨D, hD⟩ : ∃ D, d + 1 = D := ⟨_, rfl⟩
  have hD0 : ((D : Int) == 0) = false := by rw [beq_eq_false_iff_ne]; omega
  have hD1 : IntKind.i64.wrap ((D : Int) - 1) = (d : Int) := by rw [IntWalk.i64_in _ (by omega)]; omega
  obtain ⟨R, hR⟩ : ∃ R, formE (d + 1) e = R := ⟨_, rfl⟩
  rw [hR]
  unfold formE at hR
  rw [hD]
  obtain ⟨Z, hZ⟩ : ∃ Z, veq e.v V.zero = Z := ⟨_, rfl⟩
  have hzv : veq ⟨e.v.k, e.v.i, e.v.s⟩ ⟨0, 0, []⟩ = Z := hZ
  rw [hZ] at hR
  obtain ⟨Sb, hS⟩ : ∃ b, (e.s == []) = b := ⟨_, rfl⟩
  have hS2 : e.s.isEmpty = Sb := by rw [← hS]; cases e.s <;> rfl
  rw [hS] at hR
  have HIH : Hid (∀ (x : Ex) (A' : Option Addr) (c' m : Nat) (Y : World), x.fit 1000 → ExS 1000 m Y Y.heap.size A' x.l → Calls Tryz.prog 182 #[.agg #[.string ⟨x.op.toArray⟩, .int .i64 x.v.k, .int .i64 x.v.i, .string ⟨x.v.s.toArray⟩, .string ⟨x.s.toArray⟩, .slice A' x.l.length c'], .int .i64 d] Y (Ret (.bool (formE d x)) Y)) := fun x A' c' m Y h1 h2 => ih x A' c' m Y (by omega) h1 h2
  have hvs : e.v.s.length ≤ 1000 := hf.2.2.2
  have hsl : e.s.length ≤ 1000 := hf.2.2.1
  have hbwx : ∀ Y : World, Below w0.heap.size w0 Y → Below w.heap.size w Y := fun Y h => hb0.trans (h.mono hb0.size)
  have HBW := Lib.hid hbwx
  clear ih hw0 hE hf hZ hD hd kq0 hb0 hbwx
  obtain ⟨q0, q1, q2, q3, q4, q5⟩ := HSH.out w0 (Below.refl _ _)
  go_enter Tryz.func182, Tryz.ntmps182
  go_upto_region 1 with fail
  rw [show w.alloc _ = w0 from HW.out]
  clear HW
  by_cases hLit : e.op = opLit
  ·rw [if_pos hLit] at hR
   have o1 : (e.op == [108, 105, 116]) = true := by rw [hLit]; rfl
   have HM := Lib.hid (rmay_any e.v.k e.v.i e.v.s w0 (by omega))
   obtain ⟨B, hB⟩ : ∃ B, mayB e.v.k e.v.i e.v.s = B := ⟨_, rfl⟩
   rw [hB] at HM hR
   obtain ⟨Lb, hL⟩ : ∃ b, decide (e.l.length = 0) = b := ⟨_, rfl⟩
   have hL2 : ((e.l.length : Int) == 0) = Lb := by rw [← hL, Bool.eq_iff_iff]; simp
   rw [hL] at hR
   have HK := Lib.hid hR
   clear hB hR hLit hL
   go_wp2_with fail
   refine HM.out.mono ?_
   rintro en w1 ⟨rfl, hb1⟩
   clear q0 q1 q2 q3 q4 q5 HM
   obtain ⟨q0, q1, q2, q3, q4, q5⟩ := HSH.out w1 hb1
   have hbw := HBW.out w1 hb1
   cases B
   ·go_wp2_with fail
    go_ret
    exact ⟨by rw [← HK.out]; rfl, hbw⟩
   ·cases Sb
    ·go_wp2_with fail
     go_ret
     exact ⟨by rw [← HK.out]; rfl, hbw⟩
    ·go_wp2_with fail
     go_ret
     exact ⟨by rw [← HK.out]; cases Lb <;> rfl, hbw⟩
  rw [if_neg hLit] at hR
  have o1 : (e.op == [108, 105, 116]) = false := by rw [beq_eq_false_iff_ne]; exact hLit
  clear hLit
  by_cases hCol : e.op = opCol
  ·rw [if_pos hCol] at hR
   have o2 : (e.op == [99, 111, 108]) = true := by rw [hCol]; rfl
   obtain ⟨Lb, hL⟩ : ∃ b, decide (e.l.length = 0) = b := ⟨_, rfl⟩
   have hL2 : ((e.l.length : Int) == 0) = Lb := by rw [← hL, Bool.eq_iff_iff]; simp
   rw [hL] at hR
   have HN : Hid (∀ Y, Calls Tryz.prog 70 #[.string ⟨e.s.toArray⟩] Y (RetB (nameB e.s) Y)) := fun Y => rname_any e.s Y (by omega)
   have HRV := Lib.hid (rreserved_any e.s)
   obtain ⟨nb, hn⟩ : ∃ b, nameB e.s = b := ⟨_, rfl⟩
   obtain ⟨rb, hr⟩ : ∃ b, reserved e.s = b := ⟨_, rfl⟩
   rw [hn, hr] at hR
   rw [hn] at HN
   rw [hr] at HRV
   have HK := Lib.hid hR
   clear hR hCol hL hn hr
   cases Z
   ·go_wp2_with fail
    go_ret
    exact ⟨by rw [← HK.out]; rfl, HBW.out _ (by exact bl)⟩
   ·go_wp2_with fail
    refine (HN.out _).mono ?_
    rintro en w1 ⟨rfl, rfl⟩
    cases nb
    ·go_wp2_with fail
     go_ret
     exact ⟨by rw [← HK.out]; rfl, HBW.out _ (by exact bl)⟩
    ·go_wp2_with fail
     refine (HRV.out _).mono ?_
     rintro en w2 ⟨rfl, hb2⟩
     clear q0 q1 q2 q3 q4 q5
     have hb02 : Below w0.heap.size w0 w2 := by exact bl
     obtain ⟨q0, q1, q2, q3, q4, q5⟩ := HSH.out w2 hb02
     have hbw := HBW.out w2 hb02
     cases rb
     ·go_wp2_with fail
      go_ret
      exact ⟨by rw [← HK.out]; cases Lb <;> rfl, hbw⟩
     ·go_wp2_with fail
      go_ret
      exact ⟨by rw [← HK.out]; rfl, hbw⟩
  rw [if_neg hCol] at hR
  have o2 : (e.op == [99, 111, 108]) = false := by rw [beq_eq_false_iff_ne]; exact hCol
  clear hCol
  by_cases hOne : e.op = opNot ∨ e.op = opNull
  ·rw [if_pos hOne] at hR
   obtain ⟨Lb, hL⟩ : ∃ b, decide (e.l.length = 1) = b := ⟨_, rfl⟩
   have hL2 : ((e.l.length : Int) == 1) = Lb := by rw [← hL, Bool.eq_iff_iff]; simp; omega
   have hL3 : Lb = true → 0 < e.l.length := fun h => by rw [h] at hL; simp at hL; omega
   rw [hL] at hR
   have HK := Lib.hid hR
   have HL3 := Lib.hid hL3
   clear hR hL hL3
   have ho : (e.op == [110, 111, 116]) = true ∨ ((e.op == [110, 111, 116]) = false ∧ (e.op == [110, 117, 108, 108]) = true) := by
    rcases hOne with h | h
    ·exact Or.inl (by rw [h]; rfl)
    ·exact Or.inr ⟨by rw [h]; rfl, by rw [h]; rfl⟩
   clear hOne
   cases Z
   ·rcases ho with o3 | ⟨o3, o4⟩
    all_goals
     go_wp2_with fail
     go_ret
     exact ⟨by rw [← HK.out]; rfl, HBW.out _ (by exact bl)⟩
   ·cases Sb
    ·rcases ho with o3 | ⟨o3, o4⟩
     all_goals
      go_wp2_with fail
      go_ret
      exact ⟨by rw [← HK.out]; rfl, HBW.out _ (by exact bl)⟩
    ·cases Lb
     ·rcases ho with o3 | ⟨o3, o4⟩
      all_goals
       go_wp2_with fail
       go_ret
       exact ⟨by rw [← HK.out]; rfl, HBW.out _ (by exact bl)⟩
     ·have hl := HL3.out rfl
      obtain ⟨m, b1, o1', x, A', c', rfl, rfl, hbB, _, hgd, hfx, hxc, hxm, ⟨c0, c1, c2, c3, c4, c5⟩, hx⟩ := six0 (HE.out w0 (Below.refl _ _)) hl
      have i2 : (0 : Int) < (e.l.length : Int) := by omega
      have hk := HK.out
      rw [hgd] at hk
      have HK2 := Lib.hid hk
      have HX : Hid (∀ Y : World, Below w0.heap.size w0 Y → ExS 1000 m Y Y.heap.size A' x.l) := fun Y h => (hx.below m h).more h.size m
      have HFX := Lib.hid hfx
      simp only [Nat.zero_mul, Nat.add_zero] at c0 c1 c2 c3 c4 c5
      clear hk HK hgd hfx hx hxm hxc
      rcases ho with o3 | ⟨o3, o4⟩
      all_goals
       go_wp2_with fail
       refine (HIH.out x A' c' m _ HFX.out (HX.out _ (by exact bl))).mono ?_
       rintro en w2 ⟨rfl, hb2⟩
       go_wp2_with fail
       go_ret
       exact ⟨by rw [← HK2.out]; cases formE d x <;> rfl, HBW.out w2 (by exact bl)⟩
  rw [if_neg hOne] at hR
  have o3 : (e.op == [110, 111, 116]) = false := by rw [beq_eq_false_iff_ne]; exact fun h => hOne (Or.inl h)
  have o4 : (e.op == [110, 117, 108, 108]) = false := by rw [beq_eq_false_iff_ne]; exact fun h => hOne (Or.inr h)
  have HTW := Lib.hid (two_any e.op)
  obtain ⟨tb, ht⟩ : ∃ b, twoB e.op = b := ⟨_, rfl⟩
  rw [ht] at HTW hR
  obtain ⟨Lb, hL⟩ : ∃ b, decide (e.l.length = 2) = b := ⟨_, rfl⟩
  have hL2 : ((e.l.length : Int) == 2) = Lb := by rw [← hL, Bool.eq_iff_iff]; simp; omega
  have hL3 : Lb = true → 0 < e.l.length ∧ 1 < e.l.length := fun h => by rw [h] at hL; simp at hL; omega
  rw [hL] at hR
  have HK := Lib.hid hR
  have HL3 := Lib.hid hL3
  clear hR hL hL3 ht hOne
  go_wp2_with fail
  refine (HTW.out _).mono ?_
  rintro en w1 ⟨rfl, hb1⟩
  clear q0 q1 q2 q3 q4 q5
  have hb01 : Below w0.heap.size w0 w1 := by exact bl
  obtain ⟨q0, q1, q2, q3, q4, q5⟩ := HSH.out w1 hb01
  cases tb
  ·go_wp2_with fail
   go_ret
   exact ⟨by rw [← HK.out]; rfl, HBW.out _ (by exact bl)⟩
  ·cases Z
   ·go_wp2_with fail
    go_ret
    exact ⟨by rw [← HK.out]; rfl, HBW.out _ (by exact bl)⟩
   ·cases Sb
    ·go_wp2_with fail
     go_ret
     exact ⟨by rw [← HK.out]; rfl, HBW.out _ (by exact bl)⟩
    ·cases Lb
     ·go_wp2_with fail
      go_ret
      exact ⟨by rw [← HK.out]; rfl, HBW.out _ (by exact bl)⟩
     ·obtain ⟨hl, hl'⟩ := HL3.out rfl
      have i2 : (0 : Int) < (e.l.length : Int) := by omega
      have i3 : (1 : Int) < (e.l.length : Int) := by omega
      obtain ⟨m, b1, o1', x, A', c', e1, e2, hbB, _, hgd, hfx, hxc, hxm, ⟨c0, c1, c2, c3, c4, c5⟩, hx⟩ := six0 (HE.out w1 hb01) hl
      obtain ⟨m', b2, o2', y, A2, c2', e1', e2', hbB', _, hgd', hfy, hyc, hym, hsix, hy⟩ := six0 (HE.out w1 hb01) hl'
      have em : m' = m := by omega
      subst em
      subst e2
      cases e2'
      obtain ⟨d0, d1, d2, d3, d4, d5⟩ := hsix
      have hk := HK.out
      rw [hgd, hgd'] at hk
      have HK2 := Lib.hid hk
      have HX := Lib.hid hx
      have HY : Hid (∀ Y : World, Below w1.heap.size w1 Y → ExS 1000 m' Y Y.heap.size A2 y.l) := fun Y h => (hy.below m' h).more h.size m'
      have HDS : Hid (∀ Y : World, Below w1.heap.size w1 Y → Six Y b1 (o1' + 6) y A2 c2') := fun Y h => Six.keep ⟨d0, d1, d2, d3, d4, d5⟩ fun o => h.cell (p := ⟨b1, o, none⟩) hbB'
      have HFX := Lib.hid hfx
      have HFY := Lib.hid hfy
      simp only [Nat.zero_mul, Nat.add_zero] at c0 c1 c2 c3 c4 c5
      clear hk HK hgd hgd' hfx hfy hx hy hxm hxc hym hyc e1 e1' d0 d1 d2 d3 d4 d5
      go_wp2_with fail
      refine (HIH.out x A' c' m' _ HFX.out (HX.out)).mono ?_
      rintro en w2 ⟨rfl, hb2⟩
      have hb02 : Below w0.heap.size w0 w2 := hb01.trans (hb2.mono hb01.size)
      clear q0 q1 q2 q3 q4 q5 c0 c1 c2 c3 c4 c5
      obtain ⟨q0, q1, q2, q3, q4, q5⟩ := HSH.out w2 hb02
      obtain ⟨d0, d1, d2, d3, d4, d5⟩ := HDS.out w2 hb2
      cases hfxx : formE d x
      ·rw [hfxx] at HK2
       clear hfxx
       go_wp2_with fail
       go_ret
       exact ⟨by rw [← HK2.out]; rfl, HBW.out w2 (by exact bl)⟩
      ·rw [hfxx] at HK2
       clear hfxx
       go_wp2_with fail
       refine (HIH.out y A2 c2' m' _ HFY.out (HY.out _ hb2)).mono ?_
       rintro en w3 ⟨rfl, hb3⟩
       have hb03 : Below w0.heap.size w0 w3 := hb02.trans (hb3.mono hb02.size)
       go_wp2_with fail
       go_ret
       exact ⟨by rw [← HK2.out]; cases formE d y <;> rfl, HBW.out w3 hb03⟩
end Go.Proofs.YtchilcchogcibaaGreatDoor
namespace Go.Proofs.YtchilcchogcibaaGreatDoor
def nodesE : Nat → Ex → Nat
 | 0, _ => 1
 | n + 1, e => 1 + ((e.l.map (nodesE n)).sum)
theorem nodes_pos : ∀ (n : Nat) (e : Ex), 1 ≤ nodesE n e
 | 0, _ => Nat.le_refl _
 | n + 1, e => by unfold nodesE; omega
theorem nodes_nil : ∀ (n : Nat) (e : Ex), e.l.length = 0 → nodesE n e = 1
 | 0, _, _ => rfl
 | n + 1, e, h => by
  have : e.l = [] := List.eq_nil_of_length_eq_zero h
  unfold nodesE
  rw [this]
  rfl
theorem nodes_one (n : Nat) (e : Ex) (h : e.l.length = 1) : nodesE (n + 1) e = 1 + nodesE n (e.l.getD 0 ex0) := by
 match hl : e.l, h with
 | [a], _ =>
  rw [nodesE, hl]
  simp
theorem nodes_two (n : Nat) (e : Ex) (h : e.l.length = 2) : nodesE (n + 1) e = 1 + (nodesE n (e.l.getD 0 ex0) + nodesE n (e.l.getD 1 ex0)) := by
 match hl : e.l, h with
 | [a, b], _ =>
  rw [nodesE, hl]
  simp
theorem zero_eq (v : V) : isZero v = veq v V.zero := by
 unfold isZero veq V.zero
 rw [Bool.eq_iff_iff]
 simp [and_assoc]
theorem twoB_iff (op : List UInt8) : twoB op = true ↔ (op = opAnd ∨ op = opOr ∨ op = opEq ∨ op = opLt ∨ op = opPlus ∨ op = opMinus) := by unfold twoB; simp
theorem parts_lit {op : List UInt8} (h : op = opLit ∨ op = opCol) : partsF op = 0 := by unfold partsF; rw [if_pos h]
theorem parts_one {op : List UInt8} (h : op = opNot ∨ op = opNull) : partsF op = 1 := by
 unfold partsF
 rcases h with rfl | rfl <;> rfl
theorem parts_two {op : List UInt8} (h : twoB op = true) : partsF op = 2 := by
 rw [twoB_iff] at h
 rcases h with rfl | rfl | rfl | rfl | rfl | rfl <;> rfl
theorem parts_no {op : List UInt8} (h1 : ¬ op = opLit) (h2 : ¬ op = opCol) (h3 : ¬ (op = opNot ∨ op = opNull)) (h4 : ¬ twoB op = true) : partsF op = -1 := by
 rw [twoB_iff] at h4
 unfold partsF
 rw [if_neg (by rintro (h | h); exact h1 h; exact h2 h), if_neg h3, if_neg h4]
theorem form_lit {d : Nat} {e : Ex} (h : e.op = opLit) : formE (d + 1) e = (mayB e.v.k e.v.i e.v.s && ((e.s == []) && decide (e.l.length = 0))) := by rw [formE, if_pos h]
theorem form_col {d : Nat} {e : Ex} (h0 : ¬ e.op = opLit) (h : e.op = opCol) : formE (d + 1) e = (veq e.v V.zero && (nameB e.s && (!reserved e.s && decide (e.l.length = 0)))) := by rw [formE, if_neg h0, if_pos h]
theorem form_one {d : Nat} {e : Ex} (h0 : ¬ e.op = opLit) (h1 : ¬ e.op = opCol) (h : e.op = opNot ∨ e.op = opNull) : formE (d + 1) e = (veq e.v V.zero && ((e.s == []) && (decide (e.l.length = 1) && formE d (e.l.getD 0 ex0)))) := by rw [formE, if_neg h0, if_neg h1, if_pos h]
theorem form_two {d : Nat} {e : Ex} (h0 : ¬ e.op = opLit) (h1 : ¬ e.op = opCol) (h2 : ¬ (e.op = opNot ∨ e.op = opNull)) (h : twoB e.op = true) : formE (d + 1) e = (veq e.v V.zero && ((e.s == []) && (decide (e.l.length = 2) && (formE d (e.l.getD 0 ex0) && formE d (e.l.getD 1 ex0))))) := by rw [formE, if_neg h0, if_neg h1, if_neg h2, if_pos h]
theorem form_no {d : Nat} {e : Ex} (h0 : ¬ e.op = opLit) (h1 : ¬ e.op = opCol) (h2 : ¬ (e.op = opNot ∨ e.op = opNull)) (h : ¬ twoB e.op = true) : formE (d + 1) e = false := by rw [formE, if_neg h0, if_neg h1, if_neg h2, if_neg h]
theorem may_succ {n d c : Nat} {e : Ex} (hd : d ≤ 12) (hc : c < 60) : mayE (n + 1) d c e = if ¬ ((e.l.length : Int) = partsF e.op) then (false, c + 1) else if e.op = opLit then (decide (e.s = []) && mayB e.v.k e.v.i e.v.s, c + 1)
  else if e.op = opCol then (veq e.v V.zero && nameB e.s && !reserved e.s, c + 1) else if ¬ (veq e.v V.zero = true ∧ e.s = []) then (false, c + 1) else mayFold (mayE n (d + 1)) (c + 1) e.l := by
 have h1 : decide (12 < d) = false := by simp; omega
 have h2 : decide (60 < c + 1) = false := by simp; omega
 rw [mayE, h1, h2, ← zero_eq]
 by_cases hp : (e.l.length : Int) = partsF e.op
 ·by_cases hz : isZero e.v = true <;> by_cases hs : e.s = [] <;> simp [hp, hz, hs]
 ·simp [hp]
theorem may_form : ∀ (n d c : Nat) (e : Ex), n + d = 13 → 1 ≤ d → ((mayE n d c e).1 = (formE n e && decide (c + nodesE n e ≤ 60))) ∧ ((mayE n d c e).1 = true → (mayE n d c e).2 = c + nodesE n e) := by
 intro n
 induction n with
 | zero =>
  intro d c e hd _
  have : decide (12 < d) = true := by simp; omega
  unfold mayE formE
  simp [this]
 | succ n ih =>
  intro d c e hd h1
  by_cases hc : 60 < c + 1
  ·have h2 := nodes_pos (n + 1) e
   have h3 : decide (c + nodesE (n + 1) e ≤ 60) = false := by simp; omega
   rw [h3]
   unfold mayE
   simp [hc]
  ·rw [may_succ (by omega) (by omega)]
   have hc1 : decide (c + 1 ≤ 60) = true := by simp; omega
   by_cases hLit : e.op = opLit
   ·rw [form_lit hLit, parts_lit (Or.inl hLit)]
    by_cases hl : e.l.length = 0
    ·rw [nodes_nil _ _ hl, hc1, if_neg (by rw [hl]; simp), if_pos hLit]
     by_cases hs : e.s = [] <;> cases hm : mayB e.v.k e.v.i e.v.s <;> simp [hs, hl]
    ·rw [if_pos (by omega)]
     simp [hl]
   ·by_cases hCol : e.op = opCol
    ·rw [form_col hLit hCol, parts_lit (Or.inr hCol)]
     by_cases hl : e.l.length = 0
     ·rw [nodes_nil _ _ hl, hc1, if_neg (by rw [hl]; simp), if_neg hLit, if_pos hCol]
      cases hz : veq e.v V.zero <;> cases hn : nameB e.s <;> cases hr : reserved e.s <;> simp [hl]
     ·rw [if_pos (by omega)]
      simp [hl]
    ·by_cases hOne : e.op = opNot ∨ e.op = opNull
     ·rw [form_one hLit hCol hOne, parts_one hOne]
      by_cases hl : e.l.length = 1
      ·rw [nodes_one _ _ hl, if_neg (by omega), if_neg hLit, if_neg hCol]
       obtain ⟨a, ha⟩ : ∃ a, e.l = [a] := by
        match he : e.l, hl with
        | [a], _ => exact ⟨a, rfl⟩
       have hi := ih (d + 1) (c + 1) a (by omega) (by omega)
       have e1 : c + (1 + nodesE n a) = c + 1 + nodesE n a := by omega
       rw [ha]
       simp only [List.length_cons, List.length_nil, List.getD_cons_zero, e1]
       by_cases hz : veq e.v V.zero = true ∧ e.s = []
       ·rw [if_neg (by simp [hz])]
        simp only [mayFold, hz]
        cases hm : (mayE n (d + 1) (c + 1) a).1
        ·rw [hm] at hi
         simpa using hi.1
        ·rw [hm] at hi
         have h2 := hi.1
         simp at h2
         simp [h2, hi.2 rfl]
       ·rw [if_pos hz]
        refine ⟨?_, by simp⟩
        cases hv : veq e.v V.zero
        ·rfl
        ·have : (e.s == []) = false := by rw [beq_eq_false_iff_ne]; exact fun h => hz ⟨hv, h⟩
         rw [this]; rfl
      ·rw [if_pos (by omega)]
       simp [hl]
     ·by_cases hTwo : twoB e.op = true
      ·rw [form_two hLit hCol hOne hTwo, parts_two hTwo]
       by_cases hl : e.l.length = 2
       ·rw [nodes_two _ _ hl, if_neg (by omega), if_neg hLit, if_neg hCol]
        obtain ⟨a, b, ha⟩ : ∃ a b, e.l = [a, b] := by
         match he : e.l, hl with
         | [a, b], _ => exact ⟨a, b, rfl⟩
        have hi := ih (d + 1) (c + 1) a (by omega) (by omega)
        have e1 : c + (1 + (nodesE n a + nodesE n b)) = c + 1 + nodesE n a + nodesE n b := by omega
        have hj := ih (d + 1) (c + 1 + nodesE n a) b (by omega) (by omega)
        rw [ha]
        simp only [List.length_cons, List.length_nil, List.getD_cons_zero, List.getD_cons_succ, e1]
        by_cases hz : veq e.v V.zero = true ∧ e.s = []
        ·rw [if_neg (by simp [hz])]
         simp only [mayFold, hz]
         cases hm : (mayE n (d + 1) (c + 1) a).1
         ·rw [hm] at hi
          have h2 := hi.1
          simp at h2
          simp
          intro hfa _
          have := h2 hfa
          omega
         ·rw [hm] at hi
          have h2 := hi.1
          simp at h2
          have h3 := hi.2 rfl
          rw [h3]
          cases hm2 : (mayE n (d + 1) (c + 1 + nodesE n a) b).1
          ·rw [hm2] at hj
           have h4 := hj.1
           simp at h4
           simp
           intro _ hfb
           exact h4 hfb
          ·rw [hm2] at hj
           have h4 := hj.1
           simp at h4
           simp [h2, h4, hj.2 rfl]
        ·rw [if_pos hz]
         refine ⟨?_, by simp⟩
         cases hv : veq e.v V.zero
         ·rfl
         ·have : (e.s == []) = false := by rw [beq_eq_false_iff_ne]; exact fun h => hz ⟨hv, h⟩
          rw [this]; rfl
       ·rw [if_pos (by omega)]
        simp [hl]
      ·rw [form_no hLit hCol hOne hTwo, parts_no hLit hCol hOne hTwo, if_pos (by omega)]
       simp
theorem form_hgt : ∀ (d : Nat) (e : Ex), formE (d + 1) e = true → Hgt d e.l := by
 intro d
 induction d with
 | zero =>
  intro e h
  unfold formE at h
  show e.l = []
  split at h
  ·simp at h; exact h.2.2
  ·split at h
   ·simp at h; exact h.2.2.2
   ·split at h
    ·simp [formE] at h
    ·split at h
     ·simp [formE] at h
     ·cases h
 | succ d ih =>
  intro e h
  unfold formE at h
  split at h
  ·simp at h; rw [h.2.2]; exact Hgt.nil _
  ·split at h
   ·simp at h; rw [h.2.2.2]; exact Hgt.nil _
   ·split at h
    ·simp at h
     match hl : e.l, h.2.2.1 with
     | [a], _ =>
      intro x hx
      simp only [List.mem_singleton] at hx
      subst hx
      rw [hl] at h
      exact ih x (by simpa using h.2.2.2)
    ·split at h
     ·simp at h
      match hl : e.l, h.2.2.1 with
      | [a, b], _ =>
       rw [hl] at h
       have h1 := ih a (by simpa using h.2.2.2.1)
       have h2 := ih b (by simpa using h.2.2.2.2)
       intro x hx
       simp only [List.mem_cons, List.not_mem_nil, or_false] at hx
       rcases hx with rfl | rfl
       ·exact h1
       ·exact h2
     ·cases h
theorem nodes_hgt : ∀ (n m : Nat) (e : Ex), Hgt n e.l → Hgt m e.l → nodesE n e = nodesE m e := by
 intro n
 induction n with
 | zero =>
  intro m e h _
  have hl : e.l.length = 0 := by rw [show e.l = [] from h]; rfl
  rw [nodes_nil m e hl]
  rfl
 | succ n ih =>
  intro m e h h'
  cases m with
  | zero =>
   have hl : e.l.length = 0 := by rw [show e.l = [] from h']; rfl
   rw [nodes_nil (n + 1) e hl]
   rfl
  | succ m =>
   unfold nodesE
   rw [List.map_congr_left fun x hx => ih m x (h x hx) (h' x hx)]
theorem nodes_form : ∀ (d n : Nat) (e : Ex), formE d e = true → nodesE n e + 1 ≤ 2 ^ d := by
 intro d
 induction d with
 | zero => intro n e h; simp [formE] at h
 | succ d ih =>
  intro n e h
  have hp : 1 ≤ 2 ^ d := Nat.one_le_two_pow
  have hpp : 2 ^ (d + 1) = 2 * 2 ^ d := by rw [Nat.pow_succ]; omega
  unfold formE at h
  split at h
  ·simp at h; rw [nodes_nil n e (by rw [h.2.2]; rfl)]; omega
  ·split at h
   ·simp at h; rw [nodes_nil n e (by rw [h.2.2.2]; rfl)]; omega
   ·split at h
    ·simp at h
     cases n with
     | zero => show 1 + 1 ≤ _; omega
     | succ n =>
      rw [nodes_one n e h.2.2.1]
      have := ih n (e.l.getD 0 ex0) (by simpa using h.2.2.2)
      omega
    ·split at h
     ·simp at h
      cases n with
      | zero => show 1 + 1 ≤ _; omega
      | succ n =>
       rw [nodes_two n e h.2.2.1]
       have h1 := ih n (e.l.getD 0 ex0) (by simpa using h.2.2.2.1)
       have h2 := ih n (e.l.getD 1 ex0) (by simpa using h.2.2.2.2)
       omega
     ·cases h
/-- Both say alike what may be. -/
theorem may_R (n : Nat) (e : Ex) (h : Hgt n e.l) : (formE 12 e && decide (nodesE n e ≤ 60)) = mayX e := by
 have h1 := (may_form 12 1 0 e (by omega) (by omega)).1
 show _ = (mayE 12 1 0 e).1
 rw [h1, Nat.zero_add]
 cases hf : formE 12 e
 ·rfl
 ·rw [nodes_hgt n 12 e h ((form_hgt 11 e hf).upTo 12 (by omega))]
end Go.Proofs.YtchilcchogcibaaGreatDoor
