/- Plain laws; Plain law; Plain laws; The document's Same of two expressions, Place and check, as plain functions; The parts that a statement's Op names, and whether two statements are the same, in plain words. -/
import Derived.Test.YtchilcchogcibaaGreatDoorEEnvL
import Derived.Test.YtchilcchogcibaaGreatDoorEParse9
set_option maxRecDepth 100000
set_option maxHeartbeats 8000000
namespace Go.Proofs.YtchilcchogcibaaGreatDoor
open Go.RowKit
def wd (s : List UInt8) : Tok := ⟨1, s⟩
def sg (c : UInt8) : Tok := ⟨4, [c]⟩
def valK (v : V) : List Tok :=
 if v.k = 1 then (if v.i < 0 then [sg 45, ⟨2, Lib.decDigits v.i.natAbs⟩] else [⟨2, Lib.decDigits v.i.toNat⟩])
 else if v.k = 2 then [⟨3, v.s⟩] else if v.k = 3 then (if v.i = 1 then [wd [84, 82, 85, 69]] else [wd [70, 65, 76, 83, 69]]) else [wd [78, 85, 76, 76]]
def opK (op : List UInt8) : Tok := if op = opAnd then wd [65, 78, 68] else if op = opOr then wd [79, 82] else ⟨4, op⟩
def tokX : Nat → Ex → List Tok
 | 0, _ => []
 | n + 1, e =>
  if e.op = opLit then valK e.v else if e.op = opCol then [wd e.s]
  else if e.op = opNot then sg 40 :: wd [78, 79, 84] :: (tokX n (e.l.getD 0 exZero) ++ [sg 41])
  else if e.op = opNull then sg 40 :: (tokX n (e.l.getD 0 exZero) ++ [wd [73, 83], wd [78, 85, 76, 76], sg 41])
  else sg 40 :: (tokX n (e.l.getD 0 exZero) ++ opK e.op :: (tokX n (e.l.getD 1 exZero) ++ [sg 41]))
def fitE : Nat → Ex → Prop
 | 0, e => fitI e.v.i
 | n + 1, e => fitI e.v.i ∧ ∀ x ∈ e.l, fitE n x
theorem fitE_v {n : Nat} {e : Ex} (h : fitE n e) : fitI e.v.i := by cases n with | zero => exact h | succ n => exact h.1
theorem dec_len : ∀ (k u : Nat), u < 10 ^ (k + 1) → (Lib.decDigits u).length ≤ k + 1
 | 0, u, h => by
  rw [Lib.decDigits_one (by omega)]
  simp
 | k + 1, u, h => by
  by_cases hu : u < 10
  ·rw [Lib.decDigits_one hu]; simp
  ·rw [Lib.decDigits, dif_neg hu, List.length_append]
   have := dec_len k (u / 10) (by rw [Nat.pow_succ] at h; omega)
   simp only [List.length_cons, List.length_nil]
   omega
theorem form_cases {n : Nat} {e : Ex} (h : formE (n + 1) e = true) :
  (e = .mk opLit e.v [] [] ∧ mayB e.v.k e.v.i e.v.s = true) ∨ (e = .mk opCol V.zero e.s [] ∧ nameB e.s = true ∧ reserved e.s = false) ∨
  (∃ a, e = .mk opNot V.zero [] [a] ∧ formE n a = true) ∨ (∃ a, e = .mk opNull V.zero [] [a] ∧ formE n a = true) ∨ ∃ op a b, e = .mk op V.zero [] [a, b] ∧ twoB op = true ∧ formE n a = true ∧ formE n b = true := by
 have hz : ∀ v : V, veq v V.zero = true → v = V.zero := fun v h => by
  obtain ⟨k, i, s⟩ := v
  simp only [veq, Bool.and_eq_true, beq_iff_eq, decide_eq_true_eq] at h
  obtain ⟨h1, h2, h3⟩ := h
  show V.mk k i s = V.mk 0 0 []
  rw [show k = 0 from h1, show i = 0 from h2, show s = [] from h3]
 by_cases hl : e.op = opLit
 ·rw [form_lit hl] at h
  simp only [Bool.and_eq_true, beq_iff_eq, decide_eq_true_eq] at h
  obtain ⟨h1, h2, h3⟩ := h
  refine .inl ⟨?_, h1⟩
  rw [← hl]
  conv => lhs; rw [Ex.eta e]
  rw [h2, List.eq_nil_of_length_eq_zero h3]
 ·by_cases hc : e.op = opCol
  ·rw [form_col hl hc] at h
   simp only [Bool.and_eq_true, Bool.not_eq_true', decide_eq_true_eq] at h
   obtain ⟨h1, h2, h3, h4⟩ := h
   refine .inr (.inl ⟨?_, h2, h3⟩)
   rw [← hc]
   conv => lhs; rw [Ex.eta e]
   rw [hz _ h1, List.eq_nil_of_length_eq_zero h4]
  ·by_cases ho : e.op = opNot ∨ e.op = opNull
   ·rw [form_one hl hc ho] at h
    obtain ⟨op, v, s, l⟩ := e
    simp only [Bool.and_eq_true, beq_iff_eq, Ex.v, Ex.s, Ex.l] at h
    obtain ⟨h1, h2, h3, h4⟩ := h
    match l, h3, h4 with
    | [a], _, h4 =>
     rcases ho with ho | ho
     ·exact .inr (.inr (.inl ⟨a, by rw [hz v h1, h2, show op = opNot from ho], h4⟩))
     ·exact .inr (.inr (.inr (.inl ⟨a, by rw [hz v h1, h2, show op = opNull from ho], h4⟩)))
   ·by_cases ht : twoB e.op = true
    ·rw [form_two hl hc ho ht] at h
     obtain ⟨op, v, s, l⟩ := e
     simp only [Bool.and_eq_true, beq_iff_eq, Ex.v, Ex.s, Ex.l] at h
     obtain ⟨h1, h2, h3, h4, h5⟩ := h
     match l, h3, h4, h5 with
     | [a, b], _, h4, h5 => exact .inr (.inr (.inr (.inr ⟨op, a, b, by rw [hz v h1, h2], ht, h4, h5⟩)))
    ·rw [form_no hl hc ho ht] at h
     cases h
theorem twoB_ne {op : List UInt8} (h : twoB op = true) : ¬ op = opLit ∧ ¬ op = opCol ∧ ¬ op = opNot ∧ ¬ op = opNull := by
 rw [twoB_iff] at h
 rcases h with rfl | rfl | rfl | rfl | rfl | rfl <;> decide
theorem mayX_form {e : Ex} (h : mayX e = true) : formE 12 e = true := by
 have := (may_form 12 1 0 e (by omega) (by omega)).1
 unfold mayX may at h
 rw [this] at h
 simp only [Bool.and_eq_true] at h
 exact h.1
theorem form_up : ∀ (n : Nat) (e : Ex), formE n e = true → formE (n + 1) e = true := by
 intro n
 induction n with
 | zero => intro e h; simp [formE] at h
 | succ n ih =>
  intro e h
  rcases form_cases h with ⟨he, hm⟩ | ⟨he, hn, hr⟩ | ⟨a, rfl, ha⟩ | ⟨a, rfl, ha⟩ | ⟨op, a, b, rfl, ho, ha, hb⟩
  ·have hop : e.op = opLit := by rw [he]; rfl
   rw [form_lit hop] at h ⊢
   exact h
  ·have hop : e.op = opCol := by rw [he]; rfl
   have hne : ¬ e.op = opLit := by rw [hop]; decide
   rw [form_col hne hop] at h ⊢
   exact h
  ·rw [form_one (e := .mk opNot V.zero [] [a]) (show ¬ opNot = opLit by decide) (show ¬ opNot = opCol by decide) (.inl rfl)] at h ⊢
   simp only [Bool.and_eq_true] at h ⊢
   exact ⟨h.1, h.2.1, h.2.2.1, ih _ h.2.2.2⟩
  ·rw [form_one (e := .mk opNull V.zero [] [a]) (show ¬ opNull = opLit by decide) (show ¬ opNull = opCol by decide) (.inr rfl)] at h ⊢
   simp only [Bool.and_eq_true] at h ⊢
   exact ⟨h.1, h.2.1, h.2.2.1, ih _ h.2.2.2⟩
  ·obtain ⟨n1, n2, n3, n4⟩ := twoB_ne ho
   rw [form_two (e := .mk op V.zero [] [a, b]) n1 n2 (by rintro (h | h); exact n3 h; exact n4 h) ho] at h ⊢
   simp only [Bool.and_eq_true] at h ⊢
   exact ⟨h.1, h.2.1, h.2.2.1, ih _ h.2.2.2.1, ih _ h.2.2.2.2⟩
theorem tokX_two {n : Nat} {op : List UInt8} {a b : Ex} (n1 : ¬ op = opLit) (n2 : ¬ op = opCol) (n3 : ¬ op = opNot) (n4 : ¬ op = opNull) : tokX (n + 1) (.mk op V.zero [] [a, b]) = sg 40 :: (tokX n a ++ opK op :: (tokX n b ++ [sg 41])) := by
 conv => lhs; unfold tokX
 rw [if_neg (c := (Ex.mk op V.zero [] [a, b]).op = opLit) n1, if_neg (c := (Ex.mk op V.zero [] [a, b]).op = opCol) n2, if_neg (c := (Ex.mk op V.zero [] [a, b]).op = opNot) n3, if_neg (c := (Ex.mk op V.zero [] [a, b]).op = opNull) n4]
 rfl
theorem textN_two {n : Nat} {op : List UInt8} {a b : Ex} (n1 : ¬ op = opLit) (n2 : ¬ op = opCol) (n3 : ¬ op = opNot) (n4 : ¬ op = opNull) : textN (n + 1) (.mk op V.zero [] [a, b]) = ((([40] ++ textN n a) ++ [32]) ++ upperB op) ++ [32] ++ textN n b ++ [41] := by
 conv => lhs; unfold textN
 rw [if_neg (c := (Ex.mk op V.zero [] [a, b]).op = opLit) n1, if_neg (c := (Ex.mk op V.zero [] [a, b]).op = opCol) n2, if_neg (c := (Ex.mk op V.zero [] [a, b]).op = opNot) n3, if_neg (c := (Ex.mk op V.zero [] [a, b]).op = opNull) n4]
 rfl
theorem tok_up : ∀ (n : Nat) (e : Ex), formE n e = true → tokX (n + 1) e = tokX n e ∧ textN (n + 1) e = textN n e := by
 intro n
 induction n with
 | zero => intro e h; simp [formE] at h
 | succ n ih =>
  intro e h
  rcases form_cases h with ⟨he, hm⟩ | ⟨he, hn, hr⟩ | ⟨a, rfl, ha⟩ | ⟨a, rfl, ha⟩ | ⟨op, a, b, rfl, ho, ha, hb⟩
  ·rw [he]; exact ⟨rfl, rfl⟩
  ·rw [he]; exact ⟨rfl, rfl⟩
  ·obtain ⟨h1, h2⟩ := ih a ha
   refine ⟨?_, ?_⟩
   ·show sg 40 :: wd [78, 79, 84] :: (tokX (n + 1) a ++ [sg 41]) = sg 40 :: wd [78, 79, 84] :: (tokX n a ++ [sg 41])
    rw [h1]
   ·show ([40, 78, 79, 84, 32] ++ textN (n + 1) a) ++ [41] = ([40, 78, 79, 84, 32] ++ textN n a) ++ [41]
    rw [h2]
  ·obtain ⟨h1, h2⟩ := ih a ha
   refine ⟨?_, ?_⟩
   ·show sg 40 :: (tokX (n + 1) a ++ [wd [73, 83], wd [78, 85, 76, 76], sg 41]) = sg 40 :: (tokX n a ++ [wd [73, 83], wd [78, 85, 76, 76], sg 41])
    rw [h1]
   ·show ([40] ++ textN (n + 1) a) ++ [32, 73, 83, 32, 78, 85, 76, 76, 41] = ([40] ++ textN n a) ++ [32, 73, 83, 32, 78, 85, 76, 76, 41]
    rw [h2]
  ·obtain ⟨h1, h2⟩ := ih a ha
   obtain ⟨h3, h4⟩ := ih b hb
   obtain ⟨n1, n2, n3, n4⟩ := twoB_ne ho
   refine ⟨?_, ?_⟩
   ·rw [tokX_two n1 n2 n3 n4, tokX_two n1 n2 n3 n4, h1, h3]
   ·rw [textN_two n1 n2 n3 n4, textN_two n1 n2 n3 n4, h2, h4]
theorem nameG_B {s : List UInt8} (h : nameG s = true) : nameB s = true := by unfold nameG at h; simp only [Bool.and_eq_true] at h; exact h.1
def fitS (s : St) : Prop := fitE 13 s.chk ∧ fitE 13 s.whr ∧ (∀ v ∈ s.row, fitI v.i) ∧ ∀ x ∈ s.sets, fitE 13 x.e
theorem many_all {α : Type} {l : List α} {lo hi : Nat} {p : α → Bool} (h : manyB l lo hi p = true) : lo ≤ l.length ∧ l.length ≤ hi ∧ ∀ x ∈ l, p x = true := by
 unfold manyB at h
 simp only [Bool.and_eq_true, decide_eq_true_eq, List.all_eq_true] at h
 exact ⟨h.1.1, h.1.2, h.2⟩
theorem getD_all {α : Type} {l : List α} {p : α → Bool} {d : α} (h : ∀ x ∈ l, p x = true) {k : Nat} (hk : k < l.length) : p (l.getD k d) = true := by
 have e : l.getD k d = l[k] := by simp [List.getD, List.getElem?_eq_getElem hk]
 rw [e]
 exact h _ (List.getElem_mem _)
end Go.Proofs.YtchilcchogcibaaGreatDoor
namespace Go.Proofs.YtchilcchogcibaaGreatDoor
open Go.RowKit
attribute [local go_sem] ByteArray.extract_mk ba_get ba_append
attribute [local go_sem ↓] Go.wp_at_zero Go.wp_at_succ run_eql_V run_neq_V
def sameE : Nat → Ex → Ex → Bool
 | n, a, b => (a.op == b.op) && ((veq a.v b.v) && ((a.s == b.s) && (decide (a.l.length = b.l.length) && match n with | 0 => true | n + 1 => (a.l.zip b.l).all fun p => sameE n p.1 p.2)))
def partsB : Nat → List (Ex × Ex) → Bool
 | 0, _ => true
 | n + 1, l => l.all fun p => sameE n p.1 p.2
theorem sameE_eq (n : Nat) (a b : Ex) : sameE n a b = ((a.op == b.op) && ((veq a.v b.v) && ((a.s == b.s) && (decide (a.l.length = b.l.length) && partsB n (a.l.zip b.l))))) := by
 cases n <;> (unfold sameE partsB; rfl)
theorem partsB_nil (n : Nat) : partsB n [] = true := by cases n <;> rfl
theorem sameE_self : ∀ (n : Nat) (e : Ex), sameE n e e = true
 | 0, e => by simp [sameE, veq]
 | n + 1, e => by
  rw [sameE]
  have h : (e.l.zip e.l).all (fun p => sameE n p.1 p.2) = true := by
   rw [List.all_eq_true]
   intro p hp
   have : p.1 = p.2 := by
    obtain ⟨i, hi, rfl⟩ := List.getElem_of_mem hp
    simp
   rw [this]
   exact sameE_self n p.2
  simp [h, veq]
theorem same4_step (n : Nat) (ih : ∀ m, n = m + 1 → ∀ (a b : Ex) (A B : Option Addr) (c d : Nat) (w : World), a.l.length ≤ maxLen → ExS 1000 m w w.heap.size A a.l → ExS 1000 m w w.heap.size B b.l →
   Calls Tryz.prog 56 #[.agg (a.cells A c).toArray, .agg (b.cells B d).toArray] w (Ret (.bool (sameE m a b)) w))
  (a b : Ex) (A B : Option Addr) (c d : Nat) (w : World) (hal : a.l.length ≤ maxLen) (hA : ExS 1000 n w w.heap.size A a.l) (hB : ExS 1000 n w w.heap.size B b.l) :
  Calls Tryz.prog 56 #[.agg (a.cells A c).toArray, .agg (b.cells B d).toArray] w (Ret (.bool (sameE n a b)) w) := by
 obtain ⟨w0, hw0⟩ : ∃ w0, (w.alloc (.cells (a.cells A c).toArray 30)).alloc (.cells (b.cells B d).toArray 30) = w0 := ⟨_, rfl⟩
 have ka0 : Blk w0 w.heap.size 30 (a.cells A c).toArray := by rw [← hw0]; exact (Blk.new _ _ _).alloc _
 have kb0 : Blk w0 (w.heap.size + 1) 30 (b.cells B d).toArray := by rw [← hw0]; exact Blk.new' _ _ _ _ (by simp)
 have hb0 : Below w.heap.size w w0 := by rw [← hw0]; exact bl
 have HSH : Hid (∀ w' : World, Below w0.heap.size w0 w' → (w'.cell? ⟨w.heap.size, 0, none⟩ = some (.string ⟨a.op.toArray⟩) ∧ w'.cell? ⟨w.heap.size, 1, none⟩ = some (.int .i64 a.v.k) ∧ w'.cell? ⟨w.heap.size, 2, none⟩ = some (.int .i64 a.v.i) ∧ w'.cell? ⟨w.heap.size, 3, none⟩ = some (.string ⟨a.v.s.toArray⟩) ∧ w'.cell? ⟨w.heap.size, 4, none⟩ = some (.string ⟨a.s.toArray⟩) ∧ w'.cell? ⟨w.heap.size, 5, none⟩ = some (.slice A a.l.length c) ∧ w'.cell? ⟨w.heap.size + 1, 0, none⟩ = some (.string ⟨b.op.toArray⟩) ∧ w'.cell? ⟨w.heap.size + 1, 1, none⟩ = some (.int .i64 b.v.k) ∧ w'.cell? ⟨w.heap.size + 1, 2, none⟩ = some (.int .i64 b.v.i) ∧ w'.cell? ⟨w.heap.size + 1, 3, none⟩ = some (.string ⟨b.v.s.toArray⟩) ∧ w'.cell? ⟨w.heap.size + 1, 4, none⟩ = some (.string ⟨b.s.toArray⟩) ∧ w'.cell? ⟨w.heap.size + 1, 5, none⟩ = some (.slice B b.l.length d))) := fun w' h => by
  obtain ⟨h0, h1, h2, h3, h4, h5⟩ := (ka0.below h ka0.lt).six
  obtain ⟨g0, g1, g2, g3, g4, g5⟩ := (kb0.below h kb0.lt).six
  exact ⟨h0, h1, h2, h3, h4, h5, g0, g1, g2, g3, g4, g5⟩
 have HA : Hid (∀ Y : World, Below w0.heap.size w0 Y → ExS 1000 n Y Y.heap.size A a.l) := fun Y h => ((hA.below n (hb0.trans (h.mono hb0.size)))).more (Nat.le_trans hb0.size h.size) n
 have HB : Hid (∀ Y : World, Below w0.heap.size w0 Y → ExS 1000 n Y Y.heap.size B b.l) := fun Y h => ((hB.below n (hb0.trans (h.mono hb0.size)))).more (Nat.le_trans hb0.size h.size) n
 have HW := Lib.hid hw0
 have HBW : Hid (∀ Y : World, Below w0.heap.size w0 Y → Below w.heap.size w Y) := fun Y h => hb0.trans (h.mono hb0.size)
 have hbr0 : Below w0.heap.size w0 w0 := Below.refl _ _
 have HIH := Lib.hid ih
 unfold maxLen at hal
 obtain ⟨R, hR⟩ : ∃ R, sameE n a b = R := ⟨_, rfl⟩
 rw [hR]
 rw [sameE_eq] at hR
 obtain ⟨ob, ho⟩ : ∃ x, (a.op == b.op) = x := ⟨_, rfl⟩
 obtain ⟨vb, hv⟩ : ∃ x, veq a.v b.v = x := ⟨_, rfl⟩
 obtain ⟨sb, hs⟩ : ∃ x, (a.s == b.s) = x := ⟨_, rfl⟩
 obtain ⟨lb, hl⟩ : ∃ x, decide (a.l.length = b.l.length) = x := ⟨_, rfl⟩
 rw [ho, hv, hs, hl] at hR
 have o1 : (a.op != b.op) = !ob := by rw [← ho]; rfl
 have v1 : veq ⟨a.v.k, a.v.i, a.v.s⟩ ⟨b.v.k, b.v.i, b.v.s⟩ = vb := hv
 have s1 : (a.s != b.s) = !sb := by rw [← hs]; rfl
 have l1 : ((a.l.length : Int) != (b.l.length : Int)) = !lb := by rw [← hl, Bool.eq_iff_iff]; simp; omega
 have hl2 : lb = true → a.l.length = b.l.length := fun h => by rw [h] at hl; simpa using hl
 have HL2 := Lib.hid hl2
 have HK := Lib.hid hR
 clear hw0 hA hB ka0 kb0 hb0 ih hR hv hl hl2
 obtain ⟨q0, q1, q2, q3, q4, q5, y0, y1, y2, y3, y4, y5⟩ := HSH.out w0 hbr0
 go_in
 go_upto_region 1 with fail
 rw [HW.out]
 clear HW
 cases ob
 ·have HF : Hid (R = false) := by show _ = _; rw [← HK.out]; rfl
  go_wp2_with fail
  go_ret
  exact ⟨by rw [HF.out]; rfl, HBW.out _ (by exact bl)⟩
 cases vb
 ·have HF : Hid (R = false) := by show _ = _; rw [← HK.out]; rfl
  go_wp2_with fail
  go_ret
  exact ⟨by rw [HF.out]; rfl, HBW.out _ (by exact bl)⟩
 cases sb
 ·have HF : Hid (R = false) := by show _ = _; rw [← HK.out]; rfl
  go_wp2_with fail
  go_ret
  exact ⟨by rw [HF.out]; rfl, HBW.out _ (by exact bl)⟩
 cases lb
 ·have HF : Hid (R = false) := by show _ = _; rw [← HK.out]; rfl
  go_wp2_with fail
  go_ret
  exact ⟨by rw [HF.out]; rfl, HBW.out _ (by exact bl)⟩
 have hlen := HL2.out rfl
 have HLN := Lib.hid hlen
 have HK2 : Hid (partsB n ((a.l.zip b.l).drop 0) = R) := by
  show _ = _
  rw [← HK.out]
  rfl
 clear HK HL2 hlen
 go_wp2_with fail
 go_loopw [5] (fun i wr => ∃ j : Nat, j ≤ a.l.length ∧ i = .int .i64 j ∧ Hid (partsB n ((a.l.zip b.l).drop j) = R) ∧ Below w0.heap.size w0 wr) (fun i _ => a.l.length - (intOf i).toNat)
 case atStart => exact ⟨0, by omega, rfl, HK2, hbr0⟩
 case round =>
  obtain ⟨j, hj, rfl, HJ, hbr⟩ := hrel
  clear q0 q1 q2 q3 q4 q5 y0 y1 y2 y3 y4 y5
  obtain ⟨W, rfl⟩ : ∃ W, W = wr := ⟨_, rfl⟩
  obtain ⟨q0, q1, q2, q3, q4, q5, y0, y1, y2, y3, y4, y5⟩ := HSH.out W hbr
  have hzr := hbr.size
  by_cases hlt : j < a.l.length
  ·obtain ⟨m, b1, o1', x, A', c', hnm, rfl, hbB, hvx, _, _, hxc, hxm, ⟨c0, c1, c2, c3, c4, c5⟩, hx⟩ := six0 (HA.out W hbr) hlt
   obtain ⟨m', b2, o2', y, B', d', hnm', rfl, hbB2, hvy, _, _, _, _, ⟨d0, d1, d2, d3, d4, d5⟩, hy⟩ := six0 (HB.out W hbr) (j := j) (by rw [← HLN.out]; exact hlt)
   subst hnm
   obtain rfl : m = m' := by omega
   have hJ := HJ.out
   have hz : (a.l.zip b.l)[j]? = some (x, y) := by rw [List.getElem?_zip_eq_some]; exact ⟨hvx, hvy⟩
   have hd : (a.l.zip b.l).drop j = (x, y) :: (a.l.zip b.l).drop (j + 1) := by
    obtain ⟨hj', e⟩ := List.getElem?_eq_some_iff.1 hz
    rw [← e]
    exact List.drop_eq_getElem_cons hj'
   rw [hd, partsB, List.all_cons] at hJ
   have HX : Hid (∀ Y : World, Below W.heap.size W Y → Calls Tryz.prog 56 #[.agg #[.string ⟨x.op.toArray⟩, .int .i64 x.v.k, .int .i64 x.v.i, .string ⟨x.v.s.toArray⟩, .string ⟨x.s.toArray⟩, .slice A' x.l.length c'], .agg #[.string ⟨y.op.toArray⟩, .int .i64 y.v.k, .int .i64 y.v.i, .string ⟨y.v.s.toArray⟩, .string ⟨y.s.toArray⟩, .slice B' y.l.length d']] Y (Ret (.bool (sameE m x y)) Y)) := fun Y h => HIH.out m rfl x y A' B' c' d' Y (Nat.le_trans hxc hxm) ((hx.below m h).more h.size m) ((hy.below m h).more h.size m)
   obtain ⟨T, hT⟩ : ∃ T, sameE m x y = T := ⟨_, rfl⟩
   rw [hT] at HX hJ
   have HJ2 := Lib.hid hJ
   have i1 : (0 : Int) ≤ (j : Int) := by omega
   have i2 : (j : Int) < (a.l.length : Int) := by omega
   have i3 : (j : Int) < (b.l.length : Int) := by have := HLN.out; omega
   have lw : w.heap.size + 1 < W.heap.size := Blk_lt_of_cell y0
   have HSK : Hid (∀ w' : World, Below W.heap.size W w' → (w'.cell? ⟨w.heap.size, 5, none⟩ = some (.slice (some ⟨b1, o1', none⟩) a.l.length c) ∧ w'.cell? ⟨w.heap.size + 1, 5, none⟩ = some (.slice (some ⟨b2, o2', none⟩) b.l.length d) ∧ (w'.cell? ⟨b1, o1' + j * 6, none⟩ = some (.string ⟨x.op.toArray⟩) ∧ w'.cell? ⟨b1, o1' + j * 6 + 1, none⟩ = some (.int .i64 x.v.k) ∧ w'.cell? ⟨b1, o1' + j * 6 + 2, none⟩ = some (.int .i64 x.v.i) ∧ w'.cell? ⟨b1, o1' + j * 6 + 3, none⟩ = some (.string ⟨x.v.s.toArray⟩) ∧ w'.cell? ⟨b1, o1' + j * 6 + 4, none⟩ = some (.string ⟨x.s.toArray⟩) ∧ w'.cell? ⟨b1, o1' + j * 6 + 5, none⟩ = some (.slice A' x.l.length c')) ∧ (w'.cell? ⟨b2, o2' + j * 6, none⟩ = some (.string ⟨y.op.toArray⟩) ∧ w'.cell? ⟨b2, o2' + j * 6 + 1, none⟩ = some (.int .i64 y.v.k) ∧ w'.cell? ⟨b2, o2' + j * 6 + 2, none⟩ = some (.int .i64 y.v.i) ∧ w'.cell? ⟨b2, o2' + j * 6 + 3, none⟩ = some (.string ⟨y.v.s.toArray⟩) ∧ w'.cell? ⟨b2, o2' + j * 6 + 4, none⟩ = some (.string ⟨y.s.toArray⟩) ∧ w'.cell? ⟨b2, o2' + j * 6 + 5, none⟩ = some (.slice B' y.l.length d')))) := fun w' h => by
    have f : ∀ o, w'.cell? ⟨w.heap.size, o, none⟩ = W.cell? ⟨w.heap.size, o, none⟩ := fun o => h.cell (p := ⟨w.heap.size, o, none⟩) (show w.heap.size < _ by omega)
    have f' : ∀ o, w'.cell? ⟨w.heap.size + 1, o, none⟩ = W.cell? ⟨w.heap.size + 1, o, none⟩ := fun o => h.cell (p := ⟨w.heap.size + 1, o, none⟩) lw
    have g : ∀ o, w'.cell? ⟨b1, o, none⟩ = W.cell? ⟨b1, o, none⟩ := fun o => h.cell (p := ⟨b1, o, none⟩) hbB
    have g' : ∀ o, w'.cell? ⟨b2, o, none⟩ = W.cell? ⟨b2, o, none⟩ := fun o => h.cell (p := ⟨b2, o, none⟩) hbB2
    exact ⟨(f _).trans q5, (f' _).trans y5, ⟨(g _).trans c0, (g _).trans c1, (g _).trans c2, (g _).trans c3, (g _).trans c4, (g _).trans c5⟩, ⟨(g' _).trans d0, (g' _).trans d1, (g' _).trans d2, (g' _).trans d3, (g' _).trans d4, (g' _).trans d5⟩⟩
   clear hJ hd hz hvx hvy HJ hx hy hT HIH hxc hxm
   go_wp2_with fail
   skip
   refine rgn HSK fun hHeld => ?_
   refine tS [0, 1, 2, 3, 4, 5, 6, 7, 8, 9] ?_
   iterate 10 (refine tC ?_; refine ap ?_)
   refine tN ?_
   refine rdy 10 fun K hK => ?_
   go_simp
   (refine (HX.out _ (by exact bl)).mono ?_) <;> rintro en w9 ⟨rfl, hb9⟩ <;> have hz9 := hb9.size <;> (try simp at hz9)
   go_wp2_with fail
   refine hK.out _ _ (HSK.out _ (by exact bl)) fun hHeld => ?_
   clear hK K
   refine ap ?_
   refine tS [11] (tC ?_)
   refine ap (tN ?_)
   refine wpAnyH_done (by kernel_rfl) ?_ _
   have hb09 : Below w0.heap.size w0 w9 := by exact bl
   cases T
   ·have HF : Hid (R = false) := by show _ = _; rw [← HJ2.out]; rfl
    go_wp2_with fail
    go_ret
    exact ⟨by rw [HF.out]; rfl, HBW.out _ (by exact bl)⟩
   ·have HN : Hid (partsB (m + 1) ((a.l.zip b.l).drop (j + 1)) = R) := by show _ = _; rw [← HJ2.out]; rfl
    go_wp2_with fail
    go_roundw
    case rel => exact ⟨j + 1, by omega, by go_num, HN, by exact bl⟩
    case measure => simp [intOf]; omega
  ·obtain rfl : j = a.l.length := by omega
   have HF : Hid (R = true) := by
    show _ = _
    rw [← HJ.out, List.drop_of_length_le (by rw [List.length_zip]; omega)]
    exact partsB_nil n
   have b0 : ¬ ((a.l.length : Int) < (a.l.length : Int)) := by omega
   clear HJ
   go_wp2_with fail
   go_ret
   exact ⟨by rw [HF.out]; rfl, HBW.out _ (by exact bl)⟩
theorem same4_any : ∀ (n : Nat) (a b : Ex) (A B : Option Addr) (c d : Nat) (w : World), a.l.length ≤ maxLen → ExS 1000 n w w.heap.size A a.l → ExS 1000 n w w.heap.size B b.l →
   Calls Tryz.prog 56 #[.agg (a.cells A c).toArray, .agg (b.cells B d).toArray] w (Ret (.bool (sameE n a b)) w) := by
 intro n
 induction n with
 | zero => exact same4_step 0 (fun m h => absurd h (by omega))
 | succ n ih =>
  refine same4_step (n + 1) (fun m h => ?_)
  obtain rfl : n = m := by omega
  exact ih
end Go.Proofs.YtchilcchogcibaaGreatDoor
namespace Go.Proofs.YtchilcchogcibaaGreatDoor
open Go.RowKit
def stZ (op tb : List UInt8) : St := ⟨op, tb, [], [], [], [], [], [], ex0, [], [], ex0, []⟩
def slZ : Sl := ⟨none, 0⟩
def stPZ : StP := ⟨slZ, slZ, slZ, slZ, slZ, slZ, slZ, slZ⟩
def listB {α : Type} (q : α → α → Bool) (a b : List α) : Bool := decide (a.length = b.length) && (a.zip b).all fun p => q p.1 p.2
def colEq (a b : Col) : Bool := a.n == b.n && (decide (a.t = b.t) && a.b == b.b)
def rfB (a b : Rf) : Bool := a.c == b.c && a.t == b.t
def seB (n : Nat) (a b : Se) : Bool := a.n == b.n && sameE n a.e b.e
def sameS (n : Nat) (a b : St) : Bool :=
 (a.op == b.op) && (a.tb == b.tb) && (a.ot == b.ot) && (a.key == b.key) && (a.role == b.role) && sameE n a.chk b.chk && sameE n a.whr b.whr &&
 listB (fun x y => x == y) a.names b.names && listB colEq a.cols b.cols && listB (fun x y => x == y) a.uniq b.uniq && listB rfB a.refs b.refs && listB veq a.row b.row && listB (seB n) a.sets b.sets
theorem listB_self {α : Type} {q : α → α → Bool} (hq : ∀ x, q x x = true) (l : List α) : listB q l l = true := by
 unfold listB
 simp only [decide_true, Bool.true_and, List.all_eq_true]
 intro p hp
 have : p.1 = p.2 := by
  obtain ⟨i, hi, rfl⟩ := List.getElem_of_mem hp
  simp
 rw [this]; exact hq p.2
theorem veq_self (v : V) : veq v v = true := by simp [veq]
theorem sameS_self (n : Nat) (s : St) : sameS n s s = true := by
 unfold sameS
 rw [sameE_self, sameE_self, listB_self (fun x => by simp), listB_self (fun x => by simp [colEq]), listB_self (fun x => by simp), listB_self (fun x => by simp [rfB]), listB_self veq_self, listB_self (fun x => by simp [seB, sameE_self])]
 simp
end Go.Proofs.YtchilcchogcibaaGreatDoor
