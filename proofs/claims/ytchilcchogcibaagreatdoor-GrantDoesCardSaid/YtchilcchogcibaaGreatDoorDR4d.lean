/- What may be, after the document's form and number of nodes, is what may be after the program's; The document's number of nodes, May and Type of an expression, as plain functions. -/
import Derived.Test.YtchilcchogcibaaGreatDoorDR4b
set_option maxHeartbeats 2000000
namespace Go.Proofs.YtchilcchogcibaaGreatDoor
def nodesE : Nat → Ex → Nat
 | 0, _ => 1
 | n + 1, e => 1 + ((e.l.map (nodesE n)).sum)
theorem nodes_pos : ∀ (n : Nat) (e : Ex), 1 ≤ nodesE n e
 | 0, _ => Nat.le_refl _
 | n + 1, e => by unfold nodesE; omega
theorem nodes_nil : ∀ (n : Nat) (e : Ex), e.l.length = 0 → nodesE n e = 1
 | 0, _, _ => rfl
 | n + 1, e, h => by
  have : e.l = [] := List.eq_nil_of_length_eq_zero h
  unfold nodesE
  rw [this]
  rfl
theorem nodes_one (n : Nat) (e : Ex) (h : e.l.length = 1) : nodesE (n + 1) e = 1 + nodesE n (e.l.getD 0 ex0) := by
 match hl : e.l, h with
 | [a], _ =>
  rw [nodesE, hl]
  simp
theorem nodes_two (n : Nat) (e : Ex) (h : e.l.length = 2) : nodesE (n + 1) e = 1 + (nodesE n (e.l.getD 0 ex0) + nodesE n (e.l.getD 1 ex0)) := by
 match hl : e.l, h with
 | [a, b], _ =>
  rw [nodesE, hl]
  simp
theorem zero_eq (v : V) : isZero v = veq v V.zero := by
 unfold isZero veq V.zero
 rw [Bool.eq_iff_iff]
 simp [and_assoc]
theorem twoB_iff (op : List UInt8) : twoB op = true ↔ (op = opAnd ∨ op = opOr ∨ op = opEq ∨ op = opLt ∨ op = opPlus ∨ op = opMinus) := by unfold twoB; simp
theorem parts_lit {op : List UInt8} (h : op = opLit ∨ op = opCol) : partsF op = 0 := by unfold partsF; rw [if_pos h]
theorem parts_one {op : List UInt8} (h : op = opNot ∨ op = opNull) : partsF op = 1 := by
 unfold partsF
 rcases h with rfl | rfl <;> rfl
theorem parts_two {op : List UInt8} (h : twoB op = true) : partsF op = 2 := by
 rw [twoB_iff] at h
 rcases h with rfl | rfl | rfl | rfl | rfl | rfl <;> rfl
theorem parts_no {op : List UInt8} (h1 : ¬ op = opLit) (h2 : ¬ op = opCol) (h3 : ¬ (op = opNot ∨ op = opNull)) (h4 : ¬ twoB op = true) : partsF op = -1 := by
 rw [twoB_iff] at h4
 unfold partsF
 rw [if_neg (by rintro (h | h); exact h1 h; exact h2 h), if_neg h3, if_neg h4]
theorem form_lit {d : Nat} {e : Ex} (h : e.op = opLit) : formE (d + 1) e = (mayB e.v.k e.v.i e.v.s && ((e.s == []) && decide (e.l.length = 0))) := by rw [formE, if_pos h]
theorem form_col {d : Nat} {e : Ex} (h0 : ¬ e.op = opLit) (h : e.op = opCol) : formE (d + 1) e = (veq e.v V.zero && (nameB e.s && (!reserved e.s && decide (e.l.length = 0)))) := by rw [formE, if_neg h0, if_pos h]
theorem form_one {d : Nat} {e : Ex} (h0 : ¬ e.op = opLit) (h1 : ¬ e.op = opCol) (h : e.op = opNot ∨ e.op = opNull) : formE (d + 1) e = (veq e.v V.zero && ((e.s == []) && (decide (e.l.length = 1) && formE d (e.l.getD 0 ex0)))) := by rw [formE, if_neg h0, if_neg h1, if_pos h]
theorem form_two {d : Nat} {e : Ex} (h0 : ¬ e.op = opLit) (h1 : ¬ e.op = opCol) (h2 : ¬ (e.op = opNot ∨ e.op = opNull)) (h : twoB e.op = true) : formE (d + 1) e = (veq e.v V.zero && ((e.s == []) && (decide (e.l.length = 2) && (formE d (e.l.getD 0 ex0) && formE d (e.l.getD 1 ex0))))) := by rw [formE, if_neg h0, if_neg h1, if_neg h2, if_pos h]
theorem form_no {d : Nat} {e : Ex} (h0 : ¬ e.op = opLit) (h1 : ¬ e.op = opCol) (h2 : ¬ (e.op = opNot ∨ e.op = opNull)) (h : ¬ twoB e.op = true) : formE (d + 1) e = false := by rw [formE, if_neg h0, if_neg h1, if_neg h2, if_neg h]
theorem may_succ {n d c : Nat} {e : Ex} (hd : d ≤ 12) (hc : c < 60) : mayE (n + 1) d c e = if ¬ ((e.l.length : Int) = partsF e.op) then (false, c + 1) else if e.op = opLit then (decide (e.s = []) && mayB e.v.k e.v.i e.v.s, c + 1)
  else if e.op = opCol then (veq e.v V.zero && nameB e.s && !reserved e.s, c + 1) else if ¬ (veq e.v V.zero = true ∧ e.s = []) then (false, c + 1) else mayFold (mayE n (d + 1)) (c + 1) e.l := by
 have h1 : decide (12 < d) = false := by simp; omega
 have h2 : decide (60 < c + 1) = false := by simp; omega
 rw [mayE, h1, h2, ← zero_eq]
 by_cases hp : (e.l.length : Int) = partsF e.op
 ·by_cases hz : isZero e.v = true <;> by_cases hs : e.s = [] <;> simp [hp, hz, hs]
 ·simp [hp]
theorem may_form : ∀ (n d c : Nat) (e : Ex), n + d = 13 → 1 ≤ d → ((mayE n d c e).1 = (formE n e && decide (c + nodesE n e ≤ 60))) ∧ ((mayE n d c e).1 = true → (mayE n d c e).2 = c + nodesE n e) := by
 intro n
 induction n with
 | zero =>
  intro d c e hd _
  have : decide (12 < d) = true := by simp; omega
  unfold mayE formE
  simp [this]
 | succ n ih =>
  intro d c e hd h1
  by_cases hc : 60 < c + 1
  ·have h2 := nodes_pos (n + 1) e
   have h3 : decide (c + nodesE (n + 1) e ≤ 60) = false := by simp; omega
   rw [h3]
   unfold mayE
   simp [hc]
  ·rw [may_succ (by omega) (by omega)]
   have hc1 : decide (c + 1 ≤ 60) = true := by simp; omega
   by_cases hLit : e.op = opLit
   ·rw [form_lit hLit, parts_lit (Or.inl hLit)]
    by_cases hl : e.l.length = 0
    ·rw [nodes_nil _ _ hl, hc1, if_neg (by rw [hl]; simp), if_pos hLit]
     by_cases hs : e.s = [] <;> cases hm : mayB e.v.k e.v.i e.v.s <;> simp [hs, hl]
    ·rw [if_pos (by omega)]
     simp [hl]
   ·by_cases hCol : e.op = opCol
    ·rw [form_col hLit hCol, parts_lit (Or.inr hCol)]
     by_cases hl : e.l.length = 0
     ·rw [nodes_nil _ _ hl, hc1, if_neg (by rw [hl]; simp), if_neg hLit, if_pos hCol]
      cases hz : veq e.v V.zero <;> cases hn : nameB e.s <;> cases hr : reserved e.s <;> simp [hl]
     ·rw [if_pos (by omega)]
      simp [hl]
    ·by_cases hOne : e.op = opNot ∨ e.op = opNull
     ·rw [form_one hLit hCol hOne, parts_one hOne]
      by_cases hl : e.l.length = 1
      ·rw [nodes_one _ _ hl, if_neg (by omega), if_neg hLit, if_neg hCol]
       obtain ⟨a, ha⟩ : ∃ a, e.l = [a] := by
        match he : e.l, hl with
        | [a], _ => exact ⟨a, rfl⟩
       have hi := ih (d + 1) (c + 1) a (by omega) (by omega)
       have e1 : c + (1 + nodesE n a) = c + 1 + nodesE n a := by omega
       rw [ha]
       simp only [List.length_cons, List.length_nil, List.getD_cons_zero, e1]
       by_cases hz : veq e.v V.zero = true ∧ e.s = []
       ·rw [if_neg (by simp [hz])]
        simp only [mayFold, hz]
        cases hm : (mayE n (d + 1) (c + 1) a).1
        ·rw [hm] at hi
         simpa using hi.1
        ·rw [hm] at hi
         have h2 := hi.1
         simp at h2
         simp [h2, hi.2 rfl]
       ·rw [if_pos hz]
        refine ⟨?_, by simp⟩
        cases hv : veq e.v V.zero
        ·rfl
        ·have : (e.s == []) = false := by rw [beq_eq_false_iff_ne]; exact fun h => hz ⟨hv, h⟩
         rw [this]; rfl
      ·rw [if_pos (by omega)]
       simp [hl]
     ·by_cases hTwo : twoB e.op = true
      ·rw [form_two hLit hCol hOne hTwo, parts_two hTwo]
       by_cases hl : e.l.length = 2
       ·rw [nodes_two _ _ hl, if_neg (by omega), if_neg hLit, if_neg hCol]
        obtain ⟨a, b, ha⟩ : ∃ a b, e.l = [a, b] := by
         match he : e.l, hl with
         | [a, b], _ => exact ⟨a, b, rfl⟩
        have hi := ih (d + 1) (c + 1) a (by omega) (by omega)
        have e1 : c + (1 + (nodesE n a + nodesE n b)) = c + 1 + nodesE n a + nodesE n b := by omega
        have hj := ih (d + 1) (c + 1 + nodesE n a) b (by omega) (by omega)
        rw [ha]
        simp only [List.length_cons, List.length_nil, List.getD_cons_zero, List.getD_cons_succ, e1]
        by_cases hz : veq e.v V.zero = true ∧ e.s = []
        ·rw [if_neg (by simp [hz])]
         simp only [mayFold, hz]
         cases hm : (mayE n (d + 1) (c + 1) a).1
         ·rw [hm] at hi
          have h2 := hi.1
          simp at h2
          simp
          intro hfa _
          have := h2 hfa
          omega
         ·rw [hm] at hi
          have h2 := hi.1
          simp at h2
          have h3 := hi.2 rfl
          rw [h3]
          cases hm2 : (mayE n (d + 1) (c + 1 + nodesE n a) b).1
          ·rw [hm2] at hj
           have h4 := hj.1
           simp at h4
           simp
           intro _ hfb
           exact h4 hfb
          ·rw [hm2] at hj
           have h4 := hj.1
           simp at h4
           simp [h2, h4, hj.2 rfl]
        ·rw [if_pos hz]
         refine ⟨?_, by simp⟩
         cases hv : veq e.v V.zero
         ·rfl
         ·have : (e.s == []) = false := by rw [beq_eq_false_iff_ne]; exact fun h => hz ⟨hv, h⟩
          rw [this]; rfl
       ·rw [if_pos (by omega)]
        simp [hl]
      ·rw [form_no hLit hCol hOne hTwo, parts_no hLit hCol hOne hTwo, if_pos (by omega)]
       simp
theorem form_hgt : ∀ (d : Nat) (e : Ex), formE (d + 1) e = true → Hgt d e.l := by
 intro d
 induction d with
 | zero =>
  intro e h
  unfold formE at h
  show e.l = []
  split at h
  ·simp at h; exact h.2.2
  ·split at h
   ·simp at h; exact h.2.2.2
   ·split at h
    ·simp [formE] at h
    ·split at h
     ·simp [formE] at h
     ·cases h
 | succ d ih =>
  intro e h
  unfold formE at h
  split at h
  ·simp at h; rw [h.2.2]; exact Hgt.nil _
  ·split at h
   ·simp at h; rw [h.2.2.2]; exact Hgt.nil _
   ·split at h
    ·simp at h
     match hl : e.l, h.2.2.1 with
     | [a], _ =>
      intro x hx
      simp only [List.mem_singleton] at hx
      subst hx
      rw [hl] at h
      exact ih x (by simpa using h.2.2.2)
    ·split at h
     ·simp at h
      match hl : e.l, h.2.2.1 with
      | [a, b], _ =>
       rw [hl] at h
       have h1 := ih a (by simpa using h.2.2.2.1)
       have h2 := ih b (by simpa using h.2.2.2.2)
       intro x hx
       simp only [List.mem_cons, List.not_mem_nil, or_false] at hx
       rcases hx with rfl | rfl
       ·exact h1
       ·exact h2
     ·cases h
theorem nodes_hgt : ∀ (n m : Nat) (e : Ex), Hgt n e.l → Hgt m e.l → nodesE n e = nodesE m e := by
 intro n
 induction n with
 | zero =>
  intro m e h _
  have hl : e.l.length = 0 := by rw [show e.l = [] from h]; rfl
  rw [nodes_nil m e hl]
  rfl
 | succ n ih =>
  intro m e h h'
  cases m with
  | zero =>
   have hl : e.l.length = 0 := by rw [show e.l = [] from h']; rfl
   rw [nodes_nil (n + 1) e hl]
   rfl
  | succ m =>
   unfold nodesE
   rw [List.map_congr_left fun x hx => ih m x (h x hx) (h' x hx)]
theorem nodes_form : ∀ (d n : Nat) (e : Ex), formE d e = true → nodesE n e + 1 ≤ 2 ^ d := by
 intro d
 induction d with
 | zero => intro n e h; simp [formE] at h
 | succ d ih =>
  intro n e h
  have hp : 1 ≤ 2 ^ d := Nat.one_le_two_pow
  have hpp : 2 ^ (d + 1) = 2 * 2 ^ d := by rw [Nat.pow_succ]; omega
  unfold formE at h
  split at h
  ·simp at h; rw [nodes_nil n e (by rw [h.2.2]; rfl)]; omega
  ·split at h
   ·simp at h; rw [nodes_nil n e (by rw [h.2.2.2]; rfl)]; omega
   ·split at h
    ·simp at h
     cases n with
     | zero => show 1 + 1 ≤ _; omega
     | succ n =>
      rw [nodes_one n e h.2.2.1]
      have := ih n (e.l.getD 0 ex0) (by simpa using h.2.2.2)
      omega
    ·split at h
     ·simp at h
      cases n with
      | zero => show 1 + 1 ≤ _; omega
      | succ n =>
       rw [nodes_two n e h.2.2.1]
       have h1 := ih n (e.l.getD 0 ex0) (by simpa using h.2.2.2.1)
       have h2 := ih n (e.l.getD 1 ex0) (by simpa using h.2.2.2.2)
       omega
     ·cases h
theorem may_R (n : Nat) (e : Ex) (h : Hgt n e.l) : (formE 12 e && decide (nodesE n e ≤ 60)) = mayX e := by
 have h1 := (may_form 12 1 0 e (by omega) (by omega)).1
 show _ = (mayE 12 1 0 e).1
 rw [h1, Nat.zero_add]
 cases hf : formE 12 e
 ·rfl
 ·rw [nodes_hgt n 12 e h ((form_hgt 11 e hf).upTo 12 (by omega))]
end Go.Proofs.YtchilcchogcibaaGreatDoor
namespace Go.Proofs.YtchilcchogcibaaGreatDoor
open Go.RowKit
attribute [local go_sem] ByteArray.extract_mk ba_get ba_append
attribute [local go_sem ↓] Go.wp_at_zero Go.wp_at_succ run_eql_V run_neq_V
theorem sum_step (f : Ex → Nat) (l : List Ex) (j : Nat) (x : Ex) (h : l[j]? = some x) : ((l.take (j + 1)).map f).sum = ((l.take j).map f).sum + f x ∧ ((l.take j).map f).sum + f x ≤ (l.map f).sum := by
 obtain ⟨hj, rfl⟩ := List.getElem?_eq_some_iff.1 h
 have h1 : ((l.take (j + 1)).map f).sum = ((l.take j).map f).sum + f l[j] := by rw [List.take_succ_eq_append_getElem hj, List.map_append, List.sum_append]; simp
 refine ⟨h1, ?_⟩
 have h2 : (l.map f).sum = ((l.take (j + 1)).map f).sum + ((l.drop (j + 1)).map f).sum := by rw [← List.sum_append, ← List.map_append, List.take_append_drop]
 omega
theorem nodes_any : ∀ (n : Nat) (e : Ex) (A : Option Addr) (c : Nat) (w : World), nodesE n e ≤ 100000 → e.l.length ≤ 100000 → ExS 1000 n w w.heap.size A e.l →
  Calls Tryz.prog 183 #[.agg (e.cells A c).toArray] w (Ret (.int .i64 (nodesE n e)) w) := by
 intro n
 induction n with
 | zero =>
  intro e A c w _ _ hE
  have hl : e.l = [] := hE
  have b0 : ¬ ((0 : Int) < ((e.l.length : Nat) : Int)) := by rw [hl]; simp
  have q5 : (w.alloc (.cells (e.cells A c).toArray 30)).cell? ⟨w.heap.size, 5, none⟩ = some (.slice A e.l.length c) := (Blk.six (Blk.new w _ _)).2.2.2.2.2
  have hb0 : Below w.heap.size w (w.alloc (.cells (e.cells A c).toArray 30)) := by exact bl
  obtain ⟨w0, hw0⟩ : ∃ w0, w.alloc (.cells (e.cells A c).toArray 30) = w0 := ⟨_, rfl⟩
  rw [hw0] at q5 hb0
  have HW := Lib.hid hw0
  clear hw0 hE hl
  go_in
  go_upto_region 1 with fail
  rw [show w.alloc _ = w0 from HW.out]
  go_wp2_with fail
  go_loopw [3, 4] (fun s3 s4 wr => s3 = .int .i64 1 ∧ s4 = .int .i64 0 ∧ wr = w0) (fun _ _ _ => 0)
  case atStart => exact ⟨rfl, rfl, rfl⟩
  case round =>
   obtain ⟨rfl, rfl, rfl⟩ := hrel
   go_wp2_with fail
   go_ret
   exact ⟨rfl, hb0⟩
 | succ n ih =>
  intro e A c w hN hlen hE
  obtain ⟨w0, hw0⟩ : ∃ w0, w.alloc (.cells (e.cells A c).toArray 30) = w0 := ⟨_, rfl⟩
  have kq0 : Blk w0 w.heap.size 30 (e.cells A c).toArray := by rw [← hw0]; exact Blk.new _ _ _
  have hb0 : Below w.heap.size w w0 := by rw [← hw0]; exact bl
  have HSH : Hid (∀ w' : World, Below w0.heap.size w0 w' → (w'.cell? ⟨w.heap.size, 0, none⟩ = some (.string ⟨e.op.toArray⟩) ∧ w'.cell? ⟨w.heap.size, 1, none⟩ = some (.int .i64 e.v.k) ∧ w'.cell? ⟨w.heap.size, 2, none⟩ = some (.int .i64 e.v.i) ∧ w'.cell? ⟨w.heap.size, 3, none⟩ = some (.string ⟨e.v.s.toArray⟩) ∧ w'.cell? ⟨w.heap.size, 4, none⟩ = some (.string ⟨e.s.toArray⟩) ∧ w'.cell? ⟨w.heap.size, 5, none⟩ = some (.slice A e.l.length c))) := fun w' h => (kq0.below h kq0.lt).six
  have HE : Hid (∀ Y : World, Below w0.heap.size w0 Y → ExS 1000 (n + 1) Y Y.heap.size A e.l) := fun Y h => ((hE.below (n + 1) (hb0.trans (h.mono hb0.size)))).more (Nat.le_trans hb0.size h.size) (n + 1)
  have HW := Lib.hid hw0
  obtain ⟨R, hR⟩ : ∃ R, nodesE (n + 1) e = R := ⟨_, rfl⟩
  rw [hR] at hN ⊢
  have hR' : 1 + (e.l.map (nodesE n)).sum = R := hR
  have HR := Lib.hid hR'
  have HIH := Lib.hid ih
  clear ih hw0 hE kq0 hR hR'
  obtain ⟨q0, q1, q2, q3, q4, q5⟩ := HSH.out w0 (Below.refl _ _)
  go_in
  go_upto_region 1 with fail
  rw [show w.alloc _ = w0 from HW.out]
  clear HW
  go_wp2_with fail
  go_loopw [3, 4] (fun s3 s4 wr => ∃ j s : Nat, j ≤ e.l.length ∧ s3 = .int .i64 s ∧ s4 = .int .i64 j ∧ Hid (s = 1 + ((e.l.take j).map (nodesE n)).sum) ∧ Below w0.heap.size w0 wr) (fun _ i _ => e.l.length - (intOf i).toNat)
  case atStart => exact ⟨0, 1, by omega, rfl, rfl, rfl, Below.refl _ _⟩
  case round =>
   obtain ⟨j, s, hj, rfl, rfl, HS, hbr⟩ := hrel
   clear q0 q1 q2 q3 q4 q5
   obtain ⟨q0, q1, q2, q3, q4, q5⟩ := HSH.out wr hbr
   have hzr := hbr.size
   by_cases hlt : j < e.l.length
   ·obtain ⟨b1, o1, x, A', c', rfl, hbB, hv, hfx, hxc, hxm, ⟨c0, c1, c2, c3, c4, c5⟩, hx⟩ := (HE.out wr hbr).at_ hlt
    obtain ⟨hs1, hs2⟩ := sum_step (nodesE n) e.l j x hv
    have hs := HS.out
    have hr := HR.out
    obtain ⟨t, ht⟩ : ∃ t, nodesE n x = t := ⟨_, rfl⟩
    rw [ht] at hs1 hs2
    have hsl : x.l.length ≤ 100000 := by
     have h1 := ht
     cases n with
     | zero => rw [show x.l = [] from hx]; simp
     | succ n =>
      have h2 : 1 + (x.l.map (nodesE n)).sum = t := ht
      have h3 : x.l.length ≤ (x.l.map (nodesE n)).sum := by
       generalize x.l = l
       induction l with
       | nil => simp
       | cons a r ihh => have := nodes_pos n a; simp only [List.length_cons, List.map_cons, List.sum_cons]; omega
      omega
    have HX : Hid (Calls Tryz.prog 183 #[.agg #[.string ⟨x.op.toArray⟩, .int .i64 x.v.k, .int .i64 x.v.i, .string ⟨x.v.s.toArray⟩, .string ⟨x.s.toArray⟩, .slice A' x.l.length c']] wr (Ret (.int .i64 (t : Nat)) wr)) := by
     have := HIH.out x A' c' wr (by rw [ht]; omega) hsl hx
     rw [ht] at this
     exact this
    have i1 : (0 : Int) ≤ (j : Int) := by omega
    have i2 : (j : Int) < (e.l.length : Int) := by omega
    have i3 : IntKind.i64.wrap ((s : Int) + (t : Int)) = ((s + t : Nat) : Int) := by rw [IntWalk.i64_in _ (by omega)]; omega
    have HN : Hid (s + t = 1 + ((e.l.take (j + 1)).map (nodesE n)).sum) := by show _ = _; rw [hs1, hs]; omega
    clear hs hr hs1 hs2 hv hx hxm hxc hsl HS ht
    go_wp2_with fail
    refine HX.out.mono ?_
    rintro en w2 ⟨rfl, hb2⟩
    go_wp2_with fail
    go_roundw
    case rel => exact ⟨j + 1, s + t, by omega, by go_num, by go_num, HN, hbr.trans (hb2.mono hzr)⟩
    case measure => simp [intOf]; omega
   ·obtain rfl : j = e.l.length := by omega
    have hs := HS.out
    rw [List.take_length, HR.out] at hs
    subst hs
    have b0 : ¬ ((e.l.length : Int) < (e.l.length : Int)) := by omega
    clear HS
    go_wp2_with fail
    go_ret
    exact ⟨rfl, hb0.trans (hbr.mono hb0.size)⟩
theorem may4_any (n : Nat) (e : Ex) (A : Option Addr) (c : Nat) (w : World) (hf : e.fit 1000) (hE : ExS 1000 n w w.heap.size A e.l) :
  Calls Tryz.prog 112 #[.agg (e.cells A c).toArray] w (Ret (.bool (mayX e)) w) := by
 obtain ⟨w0, hw0⟩ : ∃ w0, w.alloc (.cells (e.cells A c).toArray 30) = w0 := ⟨_, rfl⟩
 have kq0 : Blk w0 w.heap.size 30 (e.cells A c).toArray := by rw [← hw0]; exact Blk.new _ _ _
 have hb0 : Below w.heap.size w w0 := by rw [← hw0]; exact bl
 have HSH : Hid (∀ w' : World, Below w0.heap.size w0 w' → (w'.cell? ⟨w.heap.size, 0, none⟩ = some (.string ⟨e.op.toArray⟩) ∧ w'.cell? ⟨w.heap.size, 1, none⟩ = some (.int .i64 e.v.k) ∧ w'.cell? ⟨w.heap.size, 2, none⟩ = some (.int .i64 e.v.i) ∧ w'.cell? ⟨w.heap.size, 3, none⟩ = some (.string ⟨e.v.s.toArray⟩) ∧ w'.cell? ⟨w.heap.size, 4, none⟩ = some (.string ⟨e.s.toArray⟩) ∧ w'.cell? ⟨w.heap.size, 5, none⟩ = some (.slice A e.l.length c))) := fun w' h => (kq0.below h kq0.lt).six
 have HE : Hid (∀ Y : World, Below w0.heap.size w0 Y → ExS 1000 n Y Y.heap.size A e.l) := fun Y h => ((hE.below n (hb0.trans (h.mono hb0.size)))).more (Nat.le_trans hb0.size h.size) n
 have hlaw := may_R n e (ExS.hgt n hE)
 obtain ⟨R, hR⟩ : ∃ R, mayX e = R := ⟨_, rfl⟩
 rw [hR] at hlaw ⊢
 have hfm := form_any 12 e A c n w0 (by omega) hf (HE.out w0 (Below.refl _ _))
 obtain ⟨F, hF⟩ : ∃ F, formE 12 e = F := ⟨_, rfl⟩
 have hnb : F = true → nodesE n e ≤ 100000 ∧ e.l.length ≤ 100000 := fun h => by
  have h1 := nodes_form 12 n e (by rw [hF, h])
  refine ⟨by omega, ?_⟩
  have h2 := nodes_form 12 1 e (by rw [hF, h])
  have h3 : 1 + (e.l.map (nodesE 0)).sum = nodesE 1 e := rfl
  have h4 : e.l.length ≤ (e.l.map (nodesE 0)).sum := by
   generalize e.l = l
   induction l with
   | nil => simp
   | cons a r ihh => have := nodes_pos 0 a; simp only [List.length_cons, List.map_cons, List.sum_cons]; omega
  omega
 rw [hF] at hfm hlaw
 have HFM := Lib.hid hfm
 have HL := Lib.hid hlaw
 have HNB := Lib.hid hnb
 have HW := Lib.hid hw0
 dsimp only [Ex.cells] at HFM
 clear hfm hlaw hnb hw0 hE kq0 hR hF
 obtain ⟨q0, q1, q2, q3, q4, q5⟩ := HSH.out w0 (Below.refl _ _)
 go_in
 go_upto_region 1 with fail
 rw [show w.alloc _ = w0 from HW.out]
 clear HW
 go_wp2_with fail
 refine HFM.out.mono ?_
 rintro en w1 ⟨rfl, hb1⟩
 clear q0 q1 q2 q3 q4 q5
 obtain ⟨q0, q1, q2, q3, q4, q5⟩ := HSH.out w1 hb1
 cases F
 ·go_wp2_with fail
  go_ret
  exact ⟨by rw [← HL.out]; rfl, hb0.trans (hb1.mono hb0.size)⟩
 ·have hno := nodes_any n e A c w1 (HNB.out rfl).1 (HNB.out rfl).2 (HE.out w1 hb1)
  obtain ⟨t, ht⟩ : ∃ t, nodesE n e = t := ⟨_, rfl⟩
  have hl := HL.out
  rw [ht] at hno hl
  have HNO := Lib.hid hno
  dsimp only [Ex.cells] at HNO
  have e1 : decide ((t : Int) ≤ 60) = R := by rw [← hl, Bool.eq_iff_iff]; simp; omega
  have HEE := Lib.hid e1
  clear hno hl ht HL e1
  go_wp2_with fail
  refine HNO.out.mono ?_
  rintro en w2 ⟨rfl, hb2⟩
  have he := HEE.out
  go_wp2_with fail
  go_ret
  exact ⟨rfl, hb0.trans ((hb1.trans (hb2.mono hb1.size)).mono hb0.size)⟩
end Go.Proofs.YtchilcchogcibaaGreatDoor
