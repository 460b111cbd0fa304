/- caddislaw09.text, caddislaw05.text and names; What may be, after the document's form and number of nodes, is what may be after the program's; Plain laws; The document's reader of tokens. -/
import Derived.Deep.AppendLies
import Derived.BigQuiet
import Derived.Test.YtchilcchogcibaaGreatDoorSGot
import Derived.Test.YtchilcchogcibaaGreatDoorSOpenS
import Derived.Test.YtchilcchogcibaaGreatDoorSOpenSt
import Derived.Test.YtchilcchogcibaaGreatDoorSRCut
import Derived.Test.YtchilcchogcibaaGreatDoorSRef3May
namespace Go.Proofs.YtchilcchogcibaaGreatDoor
open Go.RowKit
attribute [local go_sem] ByteArray.extract_mk ba_get ba_append
attribute [local go_sem ↓] Go.wp_at_zero Go.wp_at_succ
theorem text9_any (s : List UInt8) (w : World) : Calls Tryz.prog 13 #[.string ⟨s.toArray⟩] w (Ret (.string ⟨(s.take 20).toArray⟩) w) := by
 by_cases hk : s.length ≤ 20
 ·have HT : Hid (s.take 20 = s) := List.take_of_length_le hk
  rw [HT.out]
  go_enter Tryz.func13, Tryz.ntmps13
  go_wp2_with fail
  go_ret
  exact ⟨rfl, Below.refl _ _⟩
 ·go_enter Tryz.func13, Tryz.ntmps13
  go_wp2_with fail
  go_ret
  exact ⟨rfl, Below.refl _ _⟩
theorem infoS5 : (Tryz.prog.info? 9).map (fun i => (i.zero, i.size, i.bytes)) = some (some (.string ⟨#[]⟩), 1, 16) := by kernel_rfl
def strW (s : List UInt8) : Value := .string ⟨s.toArray⟩
theorem SQ.own {w : World} {base : Nat} {e : TypeId} {sv : Value} {n : Nat} {l : List (List UInt8)} (h : w.ownsRow base e 1 sv n (l.map strW)) :
  ∃ A c, sv = .slice A l.length c ∧ l.length ≤ c ∧ c ≤ maxLen ∧ SQ l A (fun b => base ≤ b ∧ b < w.heap.size) w := by
 have hn : l.length = n := by have := h.1; rw [List.length_map] at this; omega
 rcases h.2 with ⟨rfl, h0⟩ | ⟨g, cap, cur, rfl, hb, hg, hnc, hcm, hcs, htk⟩
 ·exact ⟨none, 0, by rw [hn, h0], by omega, Nat.zero_le _, fun hl => absurd hl (by omega)⟩
 ·refine ⟨some ⟨g, 0, none⟩, cap, by rw [hn], by omega, hcm, fun _ => ⟨g, 0, rfl, ⟨hb, (Array.getElem?_eq_some_iff.1 hg).1⟩, fun i v hv => ?_⟩⟩
  have := h.cells (g := g) rfl i (strW v) (by rw [List.getElem?_map, hv]; rfl)
  rw [add_mid] at this
  exact this
theorem fewS_snoc (l : List (List UInt8)) (j : Nat) (v : List UInt8) (h : l[j]? = some v) : ((l.take (j + 1)).map fun s => s.take 20) = ((l.take j).map fun s => s.take 20) ++ [v.take 20] := by
 rw [List.take_add_one, h]; simp
end Go.Proofs.YtchilcchogcibaaGreatDoor
namespace Go.Proofs.YtchilcchogcibaaGreatDoor
def nodesE : Nat → Ex → Nat
 | 0, _ => 1
 | n + 1, e => 1 + ((e.l.map (nodesE n)).sum)
theorem nodes_pos : ∀ (n : Nat) (e : Ex), 1 ≤ nodesE n e
 | 0, _ => Nat.le_refl _
 | n + 1, e => by unfold nodesE; omega
theorem nodes_nil : ∀ (n : Nat) (e : Ex), e.l.length = 0 → nodesE n e = 1
 | 0, _, _ => rfl
 | n + 1, e, h => by
  have : e.l = [] := List.eq_nil_of_length_eq_zero h
  unfold nodesE
  rw [this]
  rfl
theorem nodes_one (n : Nat) (e : Ex) (h : e.l.length = 1) : nodesE (n + 1) e = 1 + nodesE n (e.l.getD 0 ex0) := by
 match hl : e.l, h with
 | [a], _ =>
  rw [nodesE, hl]
  simp
theorem nodes_two (n : Nat) (e : Ex) (h : e.l.length = 2) : nodesE (n + 1) e = 1 + (nodesE n (e.l.getD 0 ex0) + nodesE n (e.l.getD 1 ex0)) := by
 match hl : e.l, h with
 | [a, b], _ =>
  rw [nodesE, hl]
  simp
theorem zero_eq (v : V) : isZero v = veq v V.zero := by
 unfold isZero veq V.zero
 rw [Bool.eq_iff_iff]
 simp [and_assoc]
theorem twoB_iff (op : List UInt8) : twoB op = true ↔ (op = opAnd ∨ op = opOr ∨ op = opEq ∨ op = opLt ∨ op = opPlus ∨ op = opMinus) := by unfold twoB; simp
theorem parts_lit {op : List UInt8} (h : op = opLit ∨ op = opCol) : partsF op = 0 := by unfold partsF; rw [if_pos h]
theorem parts_one {op : List UInt8} (h : op = opNot ∨ op = opNull) : partsF op = 1 := by
 unfold partsF
 rcases h with rfl | rfl <;> rfl
theorem parts_two {op : List UInt8} (h : twoB op = true) : partsF op = 2 := by
 rw [twoB_iff] at h
 rcases h with rfl | rfl | rfl | rfl | rfl | rfl <;> rfl
theorem parts_no {op : List UInt8} (h1 : ¬ op = opLit) (h2 : ¬ op = opCol) (h3 : ¬ (op = opNot ∨ op = opNull)) (h4 : ¬ twoB op = true) : partsF op = -1 := by
 rw [twoB_iff] at h4
 unfold partsF
 rw [if_neg (by rintro (h | h); exact h1 h; exact h2 h), if_neg h3, if_neg h4]
theorem form_lit {d : Nat} {e : Ex} (h : e.op = opLit) : formE (d + 1) e = (mayB e.v.k e.v.i e.v.s && ((e.s == []) && decide (e.l.length = 0))) := by rw [formE, if_pos h]
theorem form_col {d : Nat} {e : Ex} (h0 : ¬ e.op = opLit) (h : e.op = opCol) : formE (d + 1) e = (veq e.v V.zero && (nameB e.s && (!reserved e.s && decide (e.l.length = 0)))) := by rw [formE, if_neg h0, if_pos h]
theorem form_one {d : Nat} {e : Ex} (h0 : ¬ e.op = opLit) (h1 : ¬ e.op = opCol) (h : e.op = opNot ∨ e.op = opNull) : formE (d + 1) e = (veq e.v V.zero && ((e.s == []) && (decide (e.l.length = 1) && formE d (e.l.getD 0 ex0)))) := by rw [formE, if_neg h0, if_neg h1, if_pos h]
theorem form_two {d : Nat} {e : Ex} (h0 : ¬ e.op = opLit) (h1 : ¬ e.op = opCol) (h2 : ¬ (e.op = opNot ∨ e.op = opNull)) (h : twoB e.op = true) : formE (d + 1) e = (veq e.v V.zero && ((e.s == []) && (decide (e.l.length = 2) && (formE d (e.l.getD 0 ex0) && formE d (e.l.getD 1 ex0))))) := by rw [formE, if_neg h0, if_neg h1, if_neg h2, if_pos h]
theorem form_no {d : Nat} {e : Ex} (h0 : ¬ e.op = opLit) (h1 : ¬ e.op = opCol) (h2 : ¬ (e.op = opNot ∨ e.op = opNull)) (h : ¬ twoB e.op = true) : formE (d + 1) e = false := by rw [formE, if_neg h0, if_neg h1, if_neg h2, if_neg h]
theorem may_succ {n d c : Nat} {e : Ex} (hd : d ≤ 12) (hc : c < 60) : mayE (n + 1) d c e = if ¬ ((e.l.length : Int) = partsF e.op) then (false, c + 1) else if e.op = opLit then (decide (e.s = []) && mayB e.v.k e.v.i e.v.s, c + 1)
  else if e.op = opCol then (veq e.v V.zero && nameB e.s && !reserved e.s, c + 1) else if ¬ (veq e.v V.zero = true ∧ e.s = []) then (false, c + 1) else mayFold (mayE n (d + 1)) (c + 1) e.l := by
 have h1 : decide (12 < d) = false := by simp; omega
 have h2 : decide (60 < c + 1) = false := by simp; omega
 rw [mayE, h1, h2, ← zero_eq]
 by_cases hp : (e.l.length : Int) = partsF e.op
 ·by_cases hz : isZero e.v = true <;> by_cases hs : e.s = [] <;> simp [hp, hz, hs]
 ·simp [hp]
theorem may_form : ∀ (n d c : Nat) (e : Ex), n + d = 13 → 1 ≤ d → ((mayE n d c e).1 = (formE n e && decide (c + nodesE n e ≤ 60))) ∧ ((mayE n d c e).1 = true → (mayE n d c e).2 = c + nodesE n e) := by
 intro n
 induction n with
 | zero =>
  intro d c e hd _
  have : decide (12 < d) = true := by simp; omega
  unfold mayE formE
  simp [this]
 | succ n ih =>
  intro d c e hd h1
  by_cases hc : 60 < c + 1
  ·have h2 := nodes_pos (n + 1) e
   have h3 : decide (c + nodesE (n + 1) e ≤ 60) = false := by simp; omega
   rw [h3]
   unfold mayE
   simp [hc]
  ·rw [may_succ (by omega) (by omega)]
   have hc1 : decide (c + 1 ≤ 60) = true := by simp; omega
   by_cases hLit : e.op = opLit
   ·rw [form_lit hLit, parts_lit (Or.inl hLit)]
    by_cases hl : e.l.length = 0
    ·rw [nodes_nil _ _ hl, hc1, if_neg (by rw [hl]; simp), if_pos hLit]
     by_cases hs : e.s = [] <;> cases hm : mayB e.v.k e.v.i e.v.s <;> simp [hs, hl]
    ·rw [if_pos (by omega)]
     simp [hl]
   ·by_cases hCol : e.op = opCol
    ·rw [form_col hLit hCol, parts_lit (Or.inr hCol)]
     by_cases hl : e.l.length = 0
     ·rw [nodes_nil _ _ hl, hc1, if_neg (by rw [hl]; simp), if_neg hLit, if_pos hCol]
      cases hz : veq e.v V.zero <;> cases hn : nameB e.s <;> cases hr : reserved e.s <;> simp [hl]
     ·rw [if_pos (by omega)]
      simp [hl]
    ·by_cases hOne : e.op = opNot ∨ e.op = opNull
     ·rw [form_one hLit hCol hOne, parts_one hOne]
      by_cases hl : e.l.length = 1
      ·rw [nodes_one _ _ hl, if_neg (by omega), if_neg hLit, if_neg hCol]
       obtain ⟨a, ha⟩ : ∃ a, e.l = [a] := by
        match he : e.l, hl with
        | [a], _ => exact ⟨a, rfl⟩
       have hi := ih (d + 1) (c + 1) a (by omega) (by omega)
       have e1 : c + (1 + nodesE n a) = c + 1 + nodesE n a := by omega
       rw [ha]
       simp only [List.length_cons, List.length_nil, List.getD_cons_zero, e1]
       by_cases hz : veq e.v V.zero = true ∧ e.s = []
       ·rw [if_neg (by simp [hz])]
        simp only [mayFold, hz]
        cases hm : (mayE n (d + 1) (c + 1) a).1
        ·rw [hm] at hi
         simpa using hi.1
        ·rw [hm] at hi
         have h2 := hi.1
         simp at h2
         simp [h2, hi.2 rfl]
       ·rw [if_pos hz]
        refine ⟨?_, by simp⟩
        cases hv : veq e.v V.zero
        ·rfl
        ·have : (e.s == []) = false := by rw [beq_eq_false_iff_ne]; exact fun h => hz ⟨hv, h⟩
         rw [this]; rfl
      ·rw [if_pos (by omega)]
       simp [hl]
     ·by_cases hTwo : twoB e.op = true
      ·rw [form_two hLit hCol hOne hTwo, parts_two hTwo]
       by_cases hl : e.l.length = 2
       ·rw [nodes_two _ _ hl, if_neg (by omega), if_neg hLit, if_neg hCol]
        obtain ⟨a, b, ha⟩ : ∃ a b, e.l = [a, b] := by
         match he : e.l, hl with
         | [a, b], _ => exact ⟨a, b, rfl⟩
        have hi := ih (d + 1) (c + 1) a (by omega) (by omega)
        have e1 : c + (1 + (nodesE n a + nodesE n b)) = c + 1 + nodesE n a + nodesE n b := by omega
        have hj := ih (d + 1) (c + 1 + nodesE n a) b (by omega) (by omega)
        rw [ha]
        simp only [List.length_cons, List.length_nil, List.getD_cons_zero, List.getD_cons_succ, e1]
        by_cases hz : veq e.v V.zero = true ∧ e.s = []
        ·rw [if_neg (by simp [hz])]
         simp only [mayFold, hz]
         cases hm : (mayE n (d + 1) (c + 1) a).1
         ·rw [hm] at hi
          have h2 := hi.1
          simp at h2
          simp
          intro hfa _
          have := h2 hfa
          omega
         ·rw [hm] at hi
          have h2 := hi.1
          simp at h2
          have h3 := hi.2 rfl
          rw [h3]
          cases hm2 : (mayE n (d + 1) (c + 1 + nodesE n a) b).1
          ·rw [hm2] at hj
           have h4 := hj.1
           simp at h4
           simp
           intro _ hfb
           exact h4 hfb
          ·rw [hm2] at hj
           have h4 := hj.1
           simp at h4
           simp [h2, h4, hj.2 rfl]
        ·rw [if_pos hz]
         refine ⟨?_, by simp⟩
         cases hv : veq e.v V.zero
         ·rfl
         ·have : (e.s == []) = false := by rw [beq_eq_false_iff_ne]; exact fun h => hz ⟨hv, h⟩
          rw [this]; rfl
       ·rw [if_pos (by omega)]
        simp [hl]
      ·rw [form_no hLit hCol hOne hTwo, parts_no hLit hCol hOne hTwo, if_pos (by omega)]
       simp
theorem form_hgt : ∀ (d : Nat) (e : Ex), formE (d + 1) e = true → Hgt d e.l := by
 intro d
 induction d with
 | zero =>
  intro e h
  unfold formE at h
  show e.l = []
  split at h
  ·simp at h; exact h.2.2
  ·split at h
   ·simp at h; exact h.2.2.2
   ·split at h
    ·simp [formE] at h
    ·split at h
     ·simp [formE] at h
     ·cases h
 | succ d ih =>
  intro e h
  unfold formE at h
  split at h
  ·simp at h; rw [h.2.2]; exact Hgt.nil _
  ·split at h
   ·simp at h; rw [h.2.2.2]; exact Hgt.nil _
   ·split at h
    ·simp at h
     match hl : e.l, h.2.2.1 with
     | [a], _ =>
      intro x hx
      simp only [List.mem_singleton] at hx
      subst hx
      rw [hl] at h
      exact ih x (by simpa using h.2.2.2)
    ·split at h
     ·simp at h
      match hl : e.l, h.2.2.1 with
      | [a, b], _ =>
       rw [hl] at h
       have h1 := ih a (by simpa using h.2.2.2.1)
       have h2 := ih b (by simpa using h.2.2.2.2)
       intro x hx
       simp only [List.mem_cons, List.not_mem_nil, or_false] at hx
       rcases hx with rfl | rfl
       ·exact h1
       ·exact h2
     ·cases h
theorem nodes_hgt : ∀ (n m : Nat) (e : Ex), Hgt n e.l → Hgt m e.l → nodesE n e = nodesE m e := by
 intro n
 induction n with
 | zero =>
  intro m e h _
  have hl : e.l.length = 0 := by rw [show e.l = [] from h]; rfl
  rw [nodes_nil m e hl]
  rfl
 | succ n ih =>
  intro m e h h'
  cases m with
  | zero =>
   have hl : e.l.length = 0 := by rw [show e.l = [] from h']; rfl
   rw [nodes_nil (n + 1) e hl]
   rfl
  | succ m =>
   unfold nodesE
   rw [List.map_congr_left fun x hx => ih m x (h x hx) (h' x hx)]
theorem nodes_form : ∀ (d n : Nat) (e : Ex), formE d e = true → nodesE n e + 1 ≤ 2 ^ d := by
 intro d
 induction d with
 | zero => intro n e h; simp [formE] at h
 | succ d ih =>
  intro n e h
  have hp : 1 ≤ 2 ^ d := Nat.one_le_two_pow
  have hpp : 2 ^ (d + 1) = 2 * 2 ^ d := by rw [Nat.pow_succ]; omega
  unfold formE at h
  split at h
  ·simp at h; rw [nodes_nil n e (by rw [h.2.2]; rfl)]; omega
  ·split at h
   ·simp at h; rw [nodes_nil n e (by rw [h.2.2.2]; rfl)]; omega
   ·split at h
    ·simp at h
     cases n with
     | zero => show 1 + 1 ≤ _; omega
     | succ n =>
      rw [nodes_one n e h.2.2.1]
      have := ih n (e.l.getD 0 ex0) (by simpa using h.2.2.2)
      omega
    ·split at h
     ·simp at h
      cases n with
      | zero => show 1 + 1 ≤ _; omega
      | succ n =>
       rw [nodes_two n e h.2.2.1]
       have h1 := ih n (e.l.getD 0 ex0) (by simpa using h.2.2.2.1)
       have h2 := ih n (e.l.getD 1 ex0) (by simpa using h.2.2.2.2)
       omega
     ·cases h
/-- Both say alike what may be. -/
theorem may_R (n : Nat) (e : Ex) (h : Hgt n e.l) : (formE 12 e && decide (nodesE n e ≤ 60)) = mayX e := by
 have h1 := (may_form 12 1 0 e (by omega) (by omega)).1
 show _ = (mayE 12 1 0 e).1
 rw [h1, Nat.zero_add]
 cases hf : formE 12 e
 ·rfl
 ·rw [nodes_hgt n 12 e h ((form_hgt 11 e hf).upTo 12 (by omega))]
end Go.Proofs.YtchilcchogcibaaGreatDoor
namespace Go.Proofs.YtchilcchogcibaaGreatDoor
open Go.RowKit
def wd (s : List UInt8) : Tok := ⟨1, s⟩
def sg (c : UInt8) : Tok := ⟨4, [c]⟩
/-- A value's tokens. -/
def valK (v : V) : List Tok :=
 if v.k = 1 then (if v.i < 0 then [sg 45, ⟨2, Lib.decDigits v.i.natAbs⟩] else [⟨2, Lib.decDigits v.i.toNat⟩])
 else if v.k = 2 then [⟨3, v.s⟩] else if v.k = 3 then (if v.i = 1 then [wd [84, 82, 85, 69]] else [wd [70, 65, 76, 83, 69]]) else [wd [78, 85, 76, 76]]
def opK (op : List UInt8) : Tok := if op = opAnd then wd [65, 78, 68] else if op = opOr then wd [79, 82] else ⟨4, op⟩
/-- An expression's tokens. -/
def tokX : Nat → Ex → List Tok
 | 0, _ => []
 | n + 1, e =>
  if e.op = opLit then valK e.v else if e.op = opCol then [wd e.s]
  else if e.op = opNot then sg 40 :: wd [78, 79, 84] :: (tokX n (e.l.getD 0 exZero) ++ [sg 41])
  else if e.op = opNull then sg 40 :: (tokX n (e.l.getD 0 exZero) ++ [wd [73, 83], wd [78, 85, 76, 76], sg 41])
  else sg 40 :: (tokX n (e.l.getD 0 exZero) ++ opK e.op :: (tokX n (e.l.getD 1 exZero) ++ [sg 41]))
/-- All its numbers fit. -/
def fitE : Nat → Ex → Prop
 | 0, e => fitI e.v.i
 | n + 1, e => fitI e.v.i ∧ ∀ x ∈ e.l, fitE n x
theorem fitE_v {n : Nat} {e : Ex} (h : fitE n e) : fitI e.v.i := by cases n with | zero => exact h | succ n => exact h.1
theorem dec_len : ∀ (k u : Nat), u < 10 ^ (k + 1) → (Lib.decDigits u).length ≤ k + 1
 | 0, u, h => by
  rw [Lib.decDigits_one (by omega)]
  simp
 | k + 1, u, h => by
  by_cases hu : u < 10
  ·rw [Lib.decDigits_one hu]; simp
  ·rw [Lib.decDigits, dif_neg hu, List.length_append]
   have := dec_len k (u / 10) (by rw [Nat.pow_succ] at h; omega)
   simp only [List.length_cons, List.length_nil]
   omega
/-- What an expression of a form is. -/
theorem form_cases {n : Nat} {e : Ex} (h : formE (n + 1) e = true) :
  (e = .mk opLit e.v [] [] ∧ mayB e.v.k e.v.i e.v.s = true) ∨ (e = .mk opCol V.zero e.s [] ∧ nameB e.s = true ∧ reserved e.s = false) ∨
  (∃ a, e = .mk opNot V.zero [] [a] ∧ formE n a = true) ∨ (∃ a, e = .mk opNull V.zero [] [a] ∧ formE n a = true) ∨ ∃ op a b, e = .mk op V.zero [] [a, b] ∧ twoB op = true ∧ formE n a = true ∧ formE n b = true := by
 have hz : ∀ v : V, veq v V.zero = true → v = V.zero := fun v h => by
  obtain ⟨k, i, s⟩ := v
  simp only [veq, Bool.and_eq_true, beq_iff_eq, decide_eq_true_eq] at h
  obtain ⟨h1, h2, h3⟩ := h
  show V.mk k i s = V.mk 0 0 []
  rw [show k = 0 from h1, show i = 0 from h2, show s = [] from h3]
 by_cases hl : e.op = opLit
 ·rw [form_lit hl] at h
  simp only [Bool.and_eq_true, beq_iff_eq, decide_eq_true_eq] at h
  obtain ⟨h1, h2, h3⟩ := h
  refine .inl ⟨?_, h1⟩
  rw [← hl]
  conv => lhs; rw [Ex.eta e]
  rw [h2, List.eq_nil_of_length_eq_zero h3]
 ·by_cases hc : e.op = opCol
  ·rw [form_col hl hc] at h
   simp only [Bool.and_eq_true, Bool.not_eq_true', decide_eq_true_eq] at h
   obtain ⟨h1, h2, h3, h4⟩ := h
   refine .inr (.inl ⟨?_, h2, h3⟩)
   rw [← hc]
   conv => lhs; rw [Ex.eta e]
   rw [hz _ h1, List.eq_nil_of_length_eq_zero h4]
  ·by_cases ho : e.op = opNot ∨ e.op = opNull
   ·rw [form_one hl hc ho] at h
    obtain ⟨op, v, s, l⟩ := e
    simp only [Bool.and_eq_true, beq_iff_eq, Ex.v, Ex.s, Ex.l] at h
    obtain ⟨h1, h2, h3, h4⟩ := h
    match l, h3, h4 with
    | [a], _, h4 =>
     rcases ho with ho | ho
     ·exact .inr (.inr (.inl ⟨a, by rw [hz v h1, h2, show op = opNot from ho], h4⟩))
     ·exact .inr (.inr (.inr (.inl ⟨a, by rw [hz v h1, h2, show op = opNull from ho], h4⟩)))
   ·by_cases ht : twoB e.op = true
    ·rw [form_two hl hc ho ht] at h
     obtain ⟨op, v, s, l⟩ := e
     simp only [Bool.and_eq_true, beq_iff_eq, Ex.v, Ex.s, Ex.l] at h
     obtain ⟨h1, h2, h3, h4, h5⟩ := h
     match l, h3, h4, h5 with
     | [a, b], _, h4, h5 => exact .inr (.inr (.inr (.inr ⟨op, a, b, by rw [hz v h1, h2], ht, h4, h5⟩)))
    ·rw [form_no hl hc ho ht] at h
     cases h
theorem twoB_ne {op : List UInt8} (h : twoB op = true) : ¬ op = opLit ∧ ¬ op = opCol ∧ ¬ op = opNot ∧ ¬ op = opNull := by
 rw [twoB_iff] at h
 rcases h with rfl | rfl | rfl | rfl | rfl | rfl <;> decide
theorem mayX_form {e : Ex} (h : mayX e = true) : formE 12 e = true := by
 have := (may_form 12 1 0 e (by omega) (by omega)).1
 unfold mayX may at h
 rw [this] at h
 simp only [Bool.and_eq_true] at h
 exact h.1
end Go.Proofs.YtchilcchogcibaaGreatDoor
namespace Go.Proofs.YtchilcchogcibaaGreatDoor
open Go.RowKit
attribute [local go_sem] ByteArray.extract_mk ba_get ba_append
attribute [local go_sem ↓] Go.wp_at_zero Go.wp_at_succ
/-- Is the token at a place that word, or sign? -/
def seeT (l : List Tok) (at_ : Nat) (s : List UInt8) : Bool := match l[at_]? with | none => false | some t => (t.k == 1 || t.k == 4) && t.s == s
/-- A reader's cells. -/
def RdC (w : World) (g : Nat) (A : Option Addr) (l : List Tok) (c : Nat) (at_ : Nat) (ok : Bool) : Prop := Blk w g 141 #[.slice A l.length c, .int .i64 at_, .bool ok]
set_option maxRecDepth 100000 in
set_option maxHeartbeats 2000000 in
theorem rsee_any (l : List Tok) (A : Option Addr) (c at_ g : Nat) (ok : Bool) (s : List UInt8) (w : World) (ha : at_ ≤ l.length) (hr : RdC w g A l c at_ ok) (ht : TkS w w.heap.size A l) :
  Calls Tryz.prog 127 #[.pointer (some ⟨g, 0, none⟩), .string ⟨s.toArray⟩] w (Ret (.bool (seeT l at_ s)) w) := by
 obtain ⟨⟨x0, x1, x2⟩, y0, y1, y2⟩ := Blk.three hr
 by_cases hlt : at_ < l.length
 ·obtain ⟨b, off, v, rfl, hb, hv, c0, c1⟩ := ht.at_ hlt
  have p0 : (at_ : Int) < l.length := by omega
  obtain ⟨R, hR⟩ : ∃ R, seeT l at_ s = R := ⟨_, rfl⟩
  have hR2 : R = ((v.k == 1 || v.k == 4) && v.s == s) := by rw [← hR]; unfold seeT; rw [hv]
  rw [hR]
  clear hR
  have HR := Lib.hid hR2
  clear hR2
  by_cases h1 : v.k = 1
  ·have e1 : (v.k == 1) = true := by simpa using h1
   have HR2 : Hid ((v.s == s) = R) := by show _ = _; rw [HR.out]; simp [h1]
   go_enter Tryz.func127, Tryz.ntmps127
   go_wp2_with fail
   go_quiet (fail)
   all_goals go_wp2_with fail
   all_goals go_ret
   all_goals rw [← HR2.out]
   all_goals exact ⟨rfl, by exact bl⟩
  ·have e1 : (v.k == 1) = false := by simpa using h1
   by_cases h4 : v.k = 4
   ·have e4 : (v.k == 4) = true := by simpa using h4
    have HR2 : Hid ((v.s == s) = R) := by show _ = _; rw [HR.out]; simp [h4]
    go_enter Tryz.func127, Tryz.ntmps127
    go_wp2_with fail
    go_quiet (fail)
    all_goals go_wp2_with fail
    all_goals go_ret
    all_goals rw [← HR2.out]
    all_goals exact ⟨rfl, by exact bl⟩
   ·have e4 : (v.k == 4) = false := by simpa using h4
    have HR2 : Hid (false = R) := by show _ = _; rw [HR.out]; simp [e1, e4]
    go_enter Tryz.func127, Tryz.ntmps127
    go_wp2_with fail
    go_quiet (fail)
    all_goals go_wp2_with fail
    all_goals go_ret
    all_goals rw [← HR2.out]
    all_goals exact ⟨rfl, by exact bl⟩
 ·have p0 : ¬ (at_ : Int) < l.length := by omega
  have e : seeT l at_ s = false := by unfold seeT; rw [List.getElem?_eq_none (by omega)]
  rw [e]
  go_enter Tryz.func127, Tryz.ntmps127
  go_wp2_with fail
  go_quiet (fail)
  all_goals go_wp2_with fail
  all_goals go_ret
  all_goals exact ⟨rfl, by exact bl⟩
/-- A reader's state: its cells, and the tokens, which lie below it. -/
def RdS (g : Nat) (A : Option Addr) (c : Nat) (l : List Tok) (a : Nat) (ok : Bool) (w : World) : Prop := RdC w g A l c a ok ∧ TkS w g A l
theorem RdS.but {g : Nat} {A : Option Addr} {c : Nat} {l : List Tok} {a : Nat} {ok : Bool} {w w' : World} (h : RdS g A c l a ok w) (hb : Below w.heap.size w w') : RdS g A c l a ok w' :=
 ⟨Blk.below h.1 hb (Blk.lt h.1), h.2.below ((But.of_below hb).below (Nat.le_of_lt (Blk.lt h.1)))⟩
theorem RdS.set {g : Nat} {A : Option Addr} {c : Nat} {l : List Tok} {a : Nat} {ok : Bool} {w : World} (h : RdS g A c l a ok w) (b : Nat) : RdS g A c l b ok (w.setCell ⟨g, 1, none⟩ (.int .i64 b)) :=
 ⟨Blk.set_ h.1 1 (.int .i64 b), h.2.below (bwS bwR (Nat.le_refl _))⟩
theorem RdS.bad {g : Nat} {A : Option Addr} {c : Nat} {l : List Tok} {a : Nat} {ok : Bool} {w : World} (h : RdS g A c l a ok w) : RdS g A c l a false (w.setCell ⟨g, 2, none⟩ (.bool false)) :=
 ⟨Blk.set_ h.1 2 (.bool false), h.2.below (bwS bwR (Nat.le_refl _))⟩
/-- What a reader's method leaves. -/
def RetRd (e0 : Ending) (g : Nat) (A : Option Addr) (c : Nat) (l : List Tok) (a : Nat) (ok : Bool) (w : World) (e : Ending) (w' : World) : Prop := e = e0 ∧ RdS g A c l a ok w' ∧ But g w w'
set_option maxRecDepth 100000 in
set_option maxHeartbeats 2000000 in
theorem rpass_any (l : List Tok) (A : Option Addr) (c a g : Nat) (ok : Bool) (s : List UInt8) (w : World) (hl : l.length ≤ 1000000) (ha : a ≤ l.length) (h : RdS g A c l a ok w) :
  Calls Tryz.prog 120 #[.pointer (some ⟨g, 0, none⟩), .string ⟨s.toArray⟩] w (RetRd (.returned (.bool (seeT l a s))) g A c l (if seeT l a s then a + 1 else a) ok w) := by
 have HSE := Lib.hid (rsee_any l A c a g ok s w ha h.1 (h.2.more (Nat.le_of_lt (Blk.lt h.1))))
 have HP := Lib.hid h
 obtain ⟨R, hR⟩ : ∃ R, seeT l a s = R := ⟨_, rfl⟩
 rw [hR] at HSE ⊢
 clear h hR
 go_enter Tryz.func120, Tryz.ntmps120
 go_upto_region 1 with fail
 go_wp2_with (go_at_call 127; refine HSE.out.mono ?_; rintro e w1 ⟨rfl, hb1⟩; have hP1 := HP.out.but hb1; obtain ⟨⟨x0, x1, x2⟩, y0, y1, y2⟩ := Blk.three hP1.1; cases R)
 all_goals go_wp2_with fail
 all_goals go_ret
 ·exact ⟨rfl, hP1, But.of_below hb1⟩
 ·exact ⟨rfl, hP1.set (a + 1), (But.of_below hb1).set 1 _⟩
set_option maxRecDepth 100000 in
set_option maxHeartbeats 2000000 in
theorem rmust_any (l : List Tok) (A : Option Addr) (c a g : Nat) (ok : Bool) (s : List UInt8) (w : World) (hl : l.length ≤ 1000000) (ha : a ≤ l.length) (h : RdS g A c l a ok w) :
  Calls Tryz.prog 122 #[.pointer (some ⟨g, 0, none⟩), .string ⟨s.toArray⟩] w (RetRd (.returned (.tuple #[])) g A c l (if seeT l a s then a + 1 else a) (ok && seeT l a s) w) := by
 have HSE := Lib.hid (rpass_any l A c a g ok s w hl ha h)
 obtain ⟨R, hR⟩ : ∃ R, seeT l a s = R := ⟨_, rfl⟩
 rw [hR] at HSE ⊢
 clear h hR
 go_enter Tryz.func122, Tryz.ntmps122
 go_wp2_with (go_at_call 120; refine HSE.out.mono ?_; rintro e w1 ⟨rfl, hP1, hb1⟩; obtain ⟨⟨x0, x1, x2⟩, y0, y1, y2⟩ := Blk.three hP1.1; cases R)
 all_goals go_wp2_with fail
 all_goals refine bodyPost_ret (v := .tuple #[]) (by simp [results, Tryz.results122, go_sem, *]) rfl ?_
 ·exact ⟨rfl, hP1.bad, hb1.set 2 _⟩
 ·exact ⟨rfl, hP1, hb1⟩
end Go.Proofs.YtchilcchogcibaaGreatDoor
