/- Grants as sets that rise; Contracts of the library at this dump, as the kit's tool writes them in plain words (lay-plain); grant.name, stmt.name, cmp.Or of two, grant.order as plain functions. -/
import Derived.Shelf.Small.Strs
import Derived.Shelf.LaysM
import Derived.Shelf.LaysC
import Derived.Test.YtchilcchogcibaaGreatDoorProg
import Derived.Deep.CutBlock
import Derived.Deep.DeepCutAuto
import Derived.IntWalk
import Derived.Test.YtchilcchogcibaaGreatDoorSLex1
import Derived.Test.YtchilcchogcibaaGreatDoorSOpenSt
import Derived.Test.YtchilcchogcibaaGreatDoorSRef3May
namespace Go.Proofs.YtchilcchogcibaaGreatDoor
open Go.RowKit
instance grDec : DecidableEq Gr := fun a b =>
 if h : a.r = b.r ∧ a.t = b.t ∧ a.w = b.w then isTrue (by cases a; cases b; simp_all) else isFalse (by rintro rfl; simp at h)
theorem lessTri : ∀ (s t : List UInt8), s = t ∨ (Op.bytesLess s t = true ∧ Op.bytesLess t s = false ∧ s ≠ t) ∨ (Op.bytesLess t s = true ∧ Op.bytesLess s t = false ∧ s ≠ t)
 | [], [] => .inl rfl
 | [], y :: t => .inr (.inl ⟨rfl, rfl, by simp⟩)
 | x :: s, [] => .inr (.inr ⟨rfl, rfl, by simp⟩)
 | x :: s, y :: t => by
  rcases Nat.lt_trichotomy x.toNat y.toNat with h | h | h
  ·have h1 : x < y := by rw [UInt8.lt_iff_toNat_lt]; exact h
   have h2 : ¬ y < x := by rw [UInt8.lt_iff_toNat_lt]; omega
   have h3 : ¬ y = x := by rintro rfl; omega
   have h4 : ¬ x = y := by rintro rfl; omega
   exact .inr (.inl ⟨by simp [Op.bytesLess, h1], by simp [Op.bytesLess, h2, h3], by simp [h4]⟩)
  ·have hxy : x = y := UInt8.toNat_inj.1 h
   subst hxy
   have hn : ¬ x < x := by rw [UInt8.lt_iff_toNat_lt]; omega
   rcases lessTri s t with rfl | ⟨h1, h2, h3⟩ | ⟨h1, h2, h3⟩
   ·exact .inl rfl
   ·exact .inr (.inl ⟨by simp [Op.bytesLess, h1], by simp [Op.bytesLess, h2, hn], by simp [h3]⟩)
   ·exact .inr (.inr ⟨by simp [Op.bytesLess, h1], by simp [Op.bytesLess, h2, hn], by simp [h3]⟩)
  ·have h1 : y < x := by rw [UInt8.lt_iff_toNat_lt]; exact h
   have h2 : ¬ x < y := by rw [UInt8.lt_iff_toNat_lt]; omega
   have h3 : ¬ x = y := by rintro rfl; omega
   exact .inr (.inr ⟨by simp [Op.bytesLess, h1], by simp [Op.bytesLess, h2, h3], by simp [h3]⟩)
theorem blessT : ∀ (a b c : List UInt8), Op.bytesLess a b = true → Op.bytesLess b c = true → Op.bytesLess a c = true
 | _, [], _, h, _ => by cases ‹List UInt8› <;> simp [Op.bytesLess] at h
 | _, _ :: _, [], _, h => by simp [Op.bytesLess] at h
 | [], _ :: _, _ :: _, _, _ => by simp [Op.bytesLess]
 | x :: a, y :: b, z :: c, h1, h2 => by
  simp only [Op.bytesLess, Bool.or_eq_true, decide_eq_true_eq, Bool.and_eq_true, beq_iff_eq] at h1 h2 ⊢
  rcases h1 with h1 | ⟨e1, h1⟩
  ·rcases h2 with h2 | ⟨e2, h2⟩
   ·exact .inl (UInt8.lt_trans h1 h2)
   ·subst e2; exact .inl h1
  ·subst e1
   rcases h2 with h2 | ⟨e2, h2⟩
   ·exact .inl h2
   ·exact .inr ⟨e2, blessT a b c h1 h2⟩
/-- Is one grant ahead of another one? -/
def glt (a b : Gr) : Bool := if a.r = b.r then (if a.t = b.t then !a.w && b.w else Op.bytesLess a.t b.t) else Op.bytesLess a.r b.r
/-- Two texts held against each other. -/
def cmpG (a b : List UInt8) : Int := if a = b then 0 else if Op.bytesLess a b then -1 else 1
/-- The order, as the code reckons it. -/
def gord (a b : Gr) : Int := if cmpG a.r b.r = 0 then (if cmpG a.t b.t = 0 then (if a.w = b.w then 0 else if b.w then -1 else 1) else cmpG a.t b.t) else cmpG a.r b.r
theorem cmpG_zero {a b : List UInt8} : cmpG a b = 0 ↔ a = b := by
 unfold cmpG
 by_cases h : a = b
 ·simp [h]
 ·simp only [h, if_false, iff_false]
  split <;> omega
theorem gord_tri (a b : Gr) : (gord a b = 0 ∧ a = b ∧ glt a b = false ∧ glt b a = false) ∨ (gord a b = -1 ∧ a ≠ b ∧ glt a b = true ∧ glt b a = false) ∨ (gord a b = 1 ∧ a ≠ b ∧ glt a b = false ∧ glt b a = true) := by
 obtain ⟨r, t, w⟩ := a
 obtain ⟨r', t', w'⟩ := b
 unfold gord glt
 simp only [cmpG_zero]
 rcases lessTri r r' with rfl | ⟨h1, h2, h3⟩ | ⟨h1, h2, h3⟩
 ·rcases lessTri t t' with rfl | ⟨g1, g2, g3⟩ | ⟨g1, g2, g3⟩
  ·cases w <;> cases w' <;> simp
  ·have g4 : ¬ t' = t := fun e => g3 e.symm
   simp [cmpG, g1, g2, g3, g4]
  ·have g4 : ¬ t' = t := fun e => g3 e.symm
   simp [cmpG, g1, g2, g3, g4]
 ·have h4 : ¬ r' = r := fun e => h3 e.symm
  simp [cmpG, h1, h2, h3, h4]
 ·have h4 : ¬ r' = r := fun e => h3 e.symm
  simp [cmpG, h1, h2, h3, h4]
theorem glt_self (a : Gr) : glt a a = false := by
 rcases gord_tri a a with ⟨_, _, h, _⟩ | ⟨_, h, _⟩ | ⟨_, h, _⟩
 ·exact h
 ·exact absurd rfl h
 ·exact absurd rfl h
theorem glt_asymm {a b : Gr} (h : glt a b = true) : glt b a = false := by
 rcases gord_tri a b with ⟨_, _, h1, _⟩ | ⟨_, _, _, h1⟩ | ⟨_, _, h1, _⟩
 ·rw [h] at h1; cases h1
 ·exact h1
 ·rw [h] at h1; cases h1
theorem glt_trans {a b c : Gr} (h1 : glt a b = true) (h2 : glt b c = true) : glt a c = true := by
 obtain ⟨r, t, w⟩ := a
 obtain ⟨r', t', w'⟩ := b
 obtain ⟨r'', t'', w''⟩ := c
 unfold glt at *
 simp only at *
 by_cases e1 : r = r'
 ·subst e1
  by_cases e2 : r = r''
  ·subst e2
   rw [if_pos rfl] at h1 h2 ⊢
   by_cases f1 : t = t'
   ·subst f1
    by_cases f2 : t = t''
    ·subst f2
     rw [if_pos rfl] at h1 h2 ⊢
     cases w <;> cases w' <;> cases w'' <;> simp_all
    ·rw [if_neg f2] at h2 ⊢; exact h2
   ·rw [if_neg f1] at h1
    by_cases f2 : t' = t''
    ·subst f2
     rw [if_neg f1]; exact h1
    ·rw [if_neg f2] at h2
     have h3 := blessT _ _ _ h1 h2
     by_cases f3 : t = t''
     ·subst f3
      rcases lessTri t t with _ | ⟨_, q, _⟩ | ⟨_, q, _⟩
      ·rcases lessTri t t' with e | ⟨_, q, _⟩ | ⟨_, q, _⟩
       ·exact absurd e f1
       ·rw [q] at h2; cases h2
       ·rw [q] at h1; cases h1
      ·rw [q] at h3; cases h3
      ·rw [q] at h3; cases h3
     ·rw [if_neg f3]; exact h3
  ·rw [if_neg e2] at h2 ⊢; exact h2
 ·rw [if_neg e1] at h1
  by_cases e2 : r' = r''
  ·subst e2
   rw [if_neg e1]; exact h1
  ·rw [if_neg e2] at h2
   have h3 := blessT _ _ _ h1 h2
   by_cases e3 : r = r''
   ·subst e3
    rcases lessTri r r' with e | ⟨_, q, _⟩ | ⟨_, q, _⟩
    ·exact absurd e e1
    ·rw [q] at h2; cases h2
    ·rw [q] at h1; cases h1
   ·rw [if_neg e3]; exact h3
def Ris (l : List Gr) : Prop := l.Pairwise fun x y => glt x y = true
def risB : List Gr → Bool
 | [] => true
 | [_] => true
 | a :: b :: r => glt a b && risB (b :: r)
theorem ris_of : ∀ {l : List Gr}, risB l = true → Ris l
 | [], _ => List.Pairwise.nil
 | [a], _ => List.pairwise_singleton _ _
 | a :: b :: r, h => by
  simp only [risB, Bool.and_eq_true] at h
  have ih := ris_of h.2
  refine List.pairwise_cons.2 ⟨fun y hy => ?_, ih⟩
  rcases List.mem_cons.1 hy with rfl | hy
  ·exact h.1
  ·exact glt_trans h.1 ((List.pairwise_cons.1 ih).1 y hy)
theorem of_ris : ∀ {l : List Gr}, Ris l → risB l = true
 | [], _ => rfl
 | [a], _ => rfl
 | a :: b :: r, h => by
  simp only [risB, Bool.and_eq_true]
  exact ⟨(List.pairwise_cons.1 h).1 b (by simp), of_ris (List.pairwise_cons.1 h).2⟩
/-- Grants with one more, as the code puts it in. -/
def addG (l : List Gr) (g : Gr) : List Gr := if g ∈ l then l else l.takeWhile (fun x => !decide (0 < gord x g)) ++ g :: l.dropWhile (fun x => !decide (0 < gord x g))
/-- .. and as the document says it. -/
def withG (l : List Gr) (g : Gr) : List Gr := l.filter (fun x => glt x g) ++ g :: l.filter (fun x => glt g x)
def delG (l : List Gr) (g : Gr) : List Gr := l.filter fun x => !decide (x = g)
theorem ris_withG {l : List Gr} (h : Ris l) (g : Gr) : Ris (withG l g) := by
 refine List.pairwise_append.2 ⟨h.sublist List.filter_sublist, List.pairwise_cons.2 ⟨fun y hy => (List.mem_filter.1 hy).2, h.sublist List.filter_sublist⟩, fun x hx y hy => ?_⟩
 have hx' := (List.mem_filter.1 hx).2
 rcases List.mem_cons.1 hy with rfl | hy
 ·exact hx'
 ·exact glt_trans hx' (List.mem_filter.1 hy).2
theorem filter_nil_of {p : Gr → Bool} {l : List Gr} (h : ∀ x ∈ l, p x = false) : l.filter p = [] := List.filter_eq_nil_iff.2 fun x hx => by rw [h x hx]; simp
theorem filter_all_of {p : Gr → Bool} {l : List Gr} (h : ∀ x ∈ l, p x = true) : l.filter p = l := List.filter_eq_self.2 h
theorem add_eq : ∀ {l : List Gr}, Ris l → ∀ g, addG l g = withG l g
 | [], _, g => by simp [addG, withG]
 | x :: r, h, g => by
  have h1 := (List.pairwise_cons.1 h).1
  have h2 := (List.pairwise_cons.1 h).2
  have ih := add_eq h2 g
  rcases gord_tri x g with ⟨e0, e, e1, e2⟩ | ⟨e0, e, e1, e2⟩ | ⟨e0, e, e1, e2⟩
  ·subst e
   unfold addG withG
   rw [if_pos (by simp), List.filter_cons, List.filter_cons, glt_self, filter_nil_of (p := fun y => glt y x) fun y hy => glt_asymm (h1 y hy), filter_all_of (p := fun y => glt x y) h1]
   simp
  ·have hw : withG (x :: r) g = x :: withG r g := by
    unfold withG
    rw [List.filter_cons, List.filter_cons, if_pos e1, if_neg (by rw [e2]; simp), List.cons_append]
   rw [hw, ← ih]
   unfold addG
   by_cases hm : g ∈ r
   ·rw [if_pos hm, if_pos (by simp [hm])]
   ·rw [if_neg hm, if_neg (by simp [hm, Ne.symm e]), List.takeWhile_cons, List.dropWhile_cons, e0]
    simp
  ·have hn : g ∉ x :: r := fun hm => by
    rcases List.mem_cons.1 hm with rfl | hm
    ·exact e rfl
    ·have := glt_asymm (h1 g hm); rw [e2] at this; cases this
   unfold addG withG
   rw [if_neg hn, List.takeWhile_cons, List.dropWhile_cons, e0, filter_nil_of (p := fun y => glt y g) (l := x :: r) fun y hy => ?_, filter_all_of (p := fun y => glt g y) (l := x :: r) fun y hy => ?_]
   ·simp
   ·rcases List.mem_cons.1 hy with rfl | hy
    ·exact e2
    ·exact glt_trans e2 (h1 y hy)
   ·rcases List.mem_cons.1 hy with rfl | hy
    ·exact e1
    ·exact glt_asymm (glt_trans e2 (h1 y hy))
end Go.Proofs.YtchilcchogcibaaGreatDoor
namespace Go.Proofs
open Go.Shelf
def Tryz.lays106_ren : Go.Shelf.Ren := ⟨fun | 106 => 69 | 213 => 119 | 265 => 184 | n => n, fun | 9 => 9 | 3 => 3 | n => n, fun | n => n⟩
theorem Tryz.lays106 : Go.Proofs.Lays.n106 Tryz.prog Tryz.lays106_ren := {
 mixed := by kernel_rfl
 f106 := Tryz.func69.trans (congrArg some (by kernel_rfl))
 f213 := Tryz.func119.trans (congrArg some (by kernel_rfl))
 f265 := Tryz.func184.trans (congrArg some (by kernel_rfl))
 t3 := Tryz.underlying3
 a3 := Tryz.isAgg3
 z3 := Tryz.sizeOf3
 v3 := Tryz.zeroValue3
 t9 := Tryz.underlying9
 a9 := Tryz.isAgg9
 z9 := Tryz.sizeOf9
 v9 := Tryz.zeroValue9 }
open Go.RowKit in
theorem Tryz.strings_Compare (a b : ByteArray) (w : World) :
  Calls Tryz.prog 69 #[.string a, .string b] w fun e w' => e = .returned (.int .i64 (Lib.compareBytes a.data.toList b.data.toList)) ∧ w' = w := Any.strings_Compare Tryz.lays106 a b w
end Go.Proofs
namespace Go.Proofs.YtchilcchogcibaaGreatDoor
open Go.RowKit
attribute [local go_sem] ByteArray.extract_mk ba_get ba_append
attribute [local go_sem ↓] Go.wp_at_zero Go.wp_at_succ run_eql_V run_neq_V
theorem nameGr_any (s : List UInt8) (w : World) (hs : s.length ≤ 1000000) : Calls Tryz.prog 45 #[.string ⟨s.toArray⟩] w (Ret (.bool (nameG s)) w) := by
 obtain ⟨B, hB⟩ : ∃ B, nameB s = B := ⟨_, rfl⟩
 obtain ⟨R, hR⟩ : ∃ R, reserved s = R := ⟨_, rfl⟩
 have HN : Hid (nameG s = (B && !R)) := by show _ = _; unfold nameG; rw [hB, hR]
 have h1 := nameX_any s w hs
 rw [hB] at h1
 have H1 := Lib.hid h1
 have H2 : Hid (∀ Z : World, Calls Tryz.prog 67 #[.string ⟨s.toArray⟩] Z (RetB R Z)) := fun Z => by have := reserved_any s Z; rw [hR] at this; exact this
 rw [HN.out]
 clear h1 hB hR
 cases B
 ·go_enter Tryz.func45, Tryz.ntmps45
  go_wp2_with fail
  refine H1.out.mono ?_
  rintro en w1 ⟨rfl, hb1⟩
  go_wp2_with fail
  go_ret
  exact ⟨rfl, hb1⟩
 ·go_enter Tryz.func45, Tryz.ntmps45
  go_wp2_with fail
  refine H1.out.mono ?_
  rintro en w1 ⟨rfl, hb1⟩
  go_wp2_with fail
  refine (H2.out _).mono ?_
  rintro en w2 ⟨rfl, rfl⟩
  go_wp2_with fail
  go_ret
  exact ⟨by cases R <;> rfl, hb1⟩
theorem nameSt_any (s : List UInt8) (w : World) (hs : s.length ≤ 1000000) : Calls Tryz.prog 74 #[.string ⟨s.toArray⟩] w (Ret (.bool (nameG s)) w) := by
 obtain ⟨B, hB⟩ : ∃ B, nameB s = B := ⟨_, rfl⟩
 obtain ⟨R, hR⟩ : ∃ R, reserved s = R := ⟨_, rfl⟩
 have HN : Hid (nameG s = (B && !R)) := by show _ = _; unfold nameG; rw [hB, hR]
 have h1 := nameX_any s w hs
 rw [hB] at h1
 have H1 := Lib.hid h1
 have H2 : Hid (∀ Z : World, Calls Tryz.prog 67 #[.string ⟨s.toArray⟩] Z (RetB R Z)) := fun Z => by have := reserved_any s Z; rw [hR] at this; exact this
 rw [HN.out]
 clear h1 hB hR
 cases B
 ·go_enter Tryz.func74, Tryz.ntmps74
  go_wp2_with fail
  refine H1.out.mono ?_
  rintro en w1 ⟨rfl, hb1⟩
  go_wp2_with fail
  go_ret
  exact ⟨rfl, hb1⟩
 ·go_enter Tryz.func74, Tryz.ntmps74
  go_wp2_with fail
  refine H1.out.mono ?_
  rintro en w1 ⟨rfl, hb1⟩
  go_wp2_with fail
  refine (H2.out _).mono ?_
  rintro en w2 ⟨rfl, rfl⟩
  go_wp2_with fail
  go_ret
  exact ⟨by cases R <;> rfl, hb1⟩
theorem cmpB_eq : ∀ (a b : List UInt8), Lib.compareBytes a b = cmpG a b
 | [], [] => by simp [Lib.compareBytes, cmpG]
 | [], y :: b => by simp [Lib.compareBytes, cmpG, Op.bytesLess]
 | x :: a, [] => by simp [Lib.compareBytes, cmpG, Op.bytesLess]
 | x :: a, y :: b => by
  have ih := cmpB_eq a b
  have e1 : Lib.compareBytes (x :: a) (y :: b) = if x < y then -1 else if y < x then 1 else Lib.compareBytes a b := rfl
  rw [e1]
  rcases Nat.lt_trichotomy x.toNat y.toNat with h | h | h
  ·have h1 : x < y := by rw [UInt8.lt_iff_toNat_lt]; exact h
   have h4 : ¬ x = y := by rintro rfl; omega
   simp [cmpG, Op.bytesLess, h1, h4]
  ·obtain rfl : x = y := UInt8.toNat_inj.1 h
   have hn : ¬ x < x := by rw [UInt8.lt_iff_toNat_lt]; omega
   rw [if_neg hn, if_neg hn, ih]
   simp [cmpG, Op.bytesLess, hn]
  ·have h1 : y < x := by rw [UInt8.lt_iff_toNat_lt]; exact h
   have h2 : ¬ x < y := by rw [UInt8.lt_iff_toNat_lt]; omega
   have h4 : ¬ x = y := by rintro rfl; omega
   simp [cmpG, Op.bytesLess, h1, h2, h4]
/-- cmp.Or of two numbers that lie in a block. -/
def or2 (x y : Int) : Int := if x = 0 then y else x
set_option maxHeartbeats 400000 in
theorem cmpOr2_any (g : Nat) (x y : Int) (w : World) (hx : w.cell? ⟨g, 0, none⟩ = some (.int .i64 x)) (hy : w.cell? ⟨g, 1, none⟩ = some (.int .i64 y)) :
  Calls Tryz.prog 68 #[.slice (some ⟨g, 0, none⟩) 2 2] w fun e w' => e = .returned (.int .i64 (or2 x y)) ∧ w = w' := by
 by_cases h1 : x = 0
 ·subst h1
  by_cases h2 : y = 0
  ·subst h2
   have e : or2 0 0 = 0 := rfl
   rw [e]
   clear e
   go_enter Tryz.func68, Tryz.ntmps68
   go_wp2
   refine wp_loop_rounds 3 ?_
   iterate 3 (rw [rounds_succ]; go_wp2)
   go_ret
   exact ⟨rfl, rfl⟩
  ·have e : or2 0 y = y := by simp [or2]
   rw [e]
   have h3' : (y != 0) = true := by simp [h2]
   clear e h2
   go_enter Tryz.func68, Tryz.ntmps68
   go_wp2
   refine wp_loop_rounds 2 ?_
   iterate 2 (rw [rounds_succ]; go_wp2)
   go_ret
   exact ⟨rfl, rfl⟩
 ·have e : or2 x y = x := by simp [or2, h1]
  rw [e]
  have h3' : (x != 0) = true := by simp [h1]
  clear e h1
  go_enter Tryz.func68, Tryz.ntmps68
  go_wp2
  refine wp_loop_rounds 1 ?_
  rw [rounds_succ]
  go_wp2
  go_ret
  exact ⟨rfl, rfl⟩
theorem gord_or (a b : Gr) : gord a b = if or2 (cmpG a.r b.r) (cmpG a.t b.t) = 0 then (if a.w = b.w then 0 else if b.w then -1 else 1) else or2 (cmpG a.r b.r) (cmpG a.t b.t) := by
 unfold gord or2
 by_cases h1 : cmpG a.r b.r = 0 <;> by_cases h2 : cmpG a.t b.t = 0 <;> simp [h1, h2]
set_option maxRecDepth 100000 in
set_option maxHeartbeats 4000000 in
theorem order_any (a b : Gr) (w : World) : Calls Tryz.prog 46 #[.agg #[.string ⟨a.r.toArray⟩, .string ⟨a.t.toArray⟩, .bool a.w], .agg #[.string ⟨b.r.toArray⟩, .string ⟨b.t.toArray⟩, .bool b.w]] w (Ret (.int .i64 (gord a b)) w) := by
 obtain ⟨r, t, u⟩ := a
 obtain ⟨r', t', u'⟩ := b
 rw [gord_or]
 obtain ⟨C1, hC1⟩ : ∃ C, cmpG r r' = C := ⟨_, rfl⟩
 obtain ⟨C2, hC2⟩ : ∃ C, cmpG t t' = C := ⟨_, rfl⟩
 have HC1 : Hid (∀ Z : World, Calls Tryz.prog 69 #[.string ⟨r.toArray⟩, .string ⟨r'.toArray⟩] Z fun e w' => e = .returned (.int .i64 C1) ∧ w' = Z) := fun Z => by
  have := Tryz.strings_Compare ⟨r.toArray⟩ ⟨r'.toArray⟩ Z
  rw [show Lib.compareBytes r.toArray.toList r'.toArray.toList = C1 by rw [cmpB_eq]; exact hC1] at this
  exact this
 have HC2 : Hid (∀ Z : World, Calls Tryz.prog 69 #[.string ⟨t.toArray⟩, .string ⟨t'.toArray⟩] Z fun e w' => e = .returned (.int .i64 C2) ∧ w' = Z) := fun Z => by
  have := Tryz.strings_Compare ⟨t.toArray⟩ ⟨t'.toArray⟩ Z
  rw [show Lib.compareBytes t.toArray.toList t'.toArray.toList = C2 by rw [cmpB_eq]; exact hC2] at this
  exact this
 simp only [hC1, hC2]
 clear hC1 hC2
 obtain ⟨O, hO⟩ : ∃ O, or2 C1 C2 = O := ⟨_, rfl⟩
 rw [hO]
 have HO : Hid (∀ (Z : World) (g : Nat), Z.cell? ⟨g, 0, none⟩ = some (.int .i64 C1) → Z.cell? ⟨g, 1, none⟩ = some (.int .i64 C2) → Calls Tryz.prog 68 #[.slice (some ⟨g, 0, none⟩) 2 2] Z fun e w' => e = .returned (.int .i64 O) ∧ Z = w') := fun Z g h1 h2 => by
  have := cmpOr2_any g C1 C2 Z h1 h2
  rw [hO] at this
  exact this
 clear hO
 obtain ⟨R, hR⟩ : ∃ R : Int, (if O = 0 then (if u = u' then 0 else if u' then -1 else 1) else O) = R := ⟨_, rfl⟩
 rw [hR]
 have HR := Lib.hid hR
 clear hR
 obtain ⟨w0, hw0⟩ : ∃ w0, (w.alloc (.cells #[.string ⟨r.toArray⟩, .string ⟨t.toArray⟩, .bool u] 54)).alloc (.cells #[.string ⟨r'.toArray⟩, .string ⟨t'.toArray⟩, .bool u'] 54) = w0 := ⟨_, rfl⟩
 have ka : Blk w0 w.heap.size 54 #[.string ⟨r.toArray⟩, .string ⟨t.toArray⟩, .bool u] := by rw [← hw0]; exact (Blk.new _ _ _).alloc _
 have kb : Blk w0 (w.heap.size + 1) 54 #[.string ⟨r'.toArray⟩, .string ⟨t'.toArray⟩, .bool u'] := by rw [← hw0]; exact Blk.new' _ _ _ _ (by simp)
 have hb0 : Below w.heap.size w w0 := by rw [← hw0]; exact bl
 have HW := Lib.hid hw0
 have hz0 := hb0.size
 have HSH : Hid (∀ Z : World, Below w0.heap.size w0 Z → Z.cell? ⟨w.heap.size, 0, none⟩ = some (.string ⟨r.toArray⟩) ∧ Z.cell? ⟨w.heap.size, 1, none⟩ = some (.string ⟨t.toArray⟩) ∧ Z.cell? ⟨w.heap.size, 2, none⟩ = some (.bool u) ∧ Z.cell? ⟨w.heap.size + 1, 0, none⟩ = some (.string ⟨r'.toArray⟩) ∧ Z.cell? ⟨w.heap.size + 1, 1, none⟩ = some (.string ⟨t'.toArray⟩) ∧ Z.cell? ⟨w.heap.size + 1, 2, none⟩ = some (.bool u')) := fun Z h => by
  have k := ka.below h ka.lt
  have q := kb.below h kb.lt
  exact ⟨k.cell 0, k.cell 1, k.cell 2, q.cell 0, q.cell 1, q.cell 2⟩
 have HBW : Hid (∀ Z : World, Below w0.heap.size w0 Z → Below w.heap.size w Z) := fun Z h => hb0.trans (h.mono hz0)
 clear hw0 ka kb hb0
 go_enter Tryz.func46, Tryz.ntmps46
 go_upto_region 1 with fail
 rw [HW.out]
 clear HW
 go_cut [5] (fun s wx => s = .int .i64 O ∧ Below w0.heap.size w0 wx)
 case first => as_aux_lemma =>
  refine wp_region_held_drew (S := (fun Z => Z.cell? ⟨w.heap.size, 0, none⟩ = some (.string ⟨r.toArray⟩) ∧ Z.cell? ⟨w.heap.size, 1, none⟩ = some (.string ⟨t.toArray⟩) ∧ Z.cell? ⟨w.heap.size, 2, none⟩ = some (.bool u) ∧ Z.cell? ⟨w.heap.size + 1, 0, none⟩ = some (.string ⟨r'.toArray⟩) ∧ Z.cell? ⟨w.heap.size + 1, 1, none⟩ = some (.string ⟨t'.toArray⟩) ∧ Z.cell? ⟨w.heap.size + 1, 2, none⟩ = some (.bool u'))) (by kernel_rfl) ?_ (fun hHeld => ?_)
  ·try dsimp only
   exact HSH.out _ (by exact bl)
  refine tS [0, 1, 2, 3, 5, 6, 7, 8] ?_
  iterate 8 (refine tC ?_; refine ap ?_)
  refine tN ?_
  refine rdy 4 fun K hK => ?_
  go_simp
  (refine (HC1.out _).mono ?_) <;> rintro en w4 ⟨rfl, rfl⟩
  go_wp2_with fail
  refine hK.out _ _ ?_ (fun hHeld => ?_)
  ·try dsimp only
   exact HSH.out _ (by exact bl)
  clear hK K
  refine ap ?_
  refine rdy 9 fun K hK => ?_
  go_simp
  (refine (HC2.out _).mono ?_) <;> rintro en w9 ⟨rfl, rfl⟩
  go_wp2_with fail
  refine hK.out _ _ ?_ (fun hHeld => ?_)
  ·try dsimp only
   exact HSH.out _ (by exact bl)
  clear hK K
  refine ap ?_
  refine rdy 10 fun K hK => ?_
  go_simp
  skip
  go_wp2_with fail
  refine hK.out _ _ ?_ (fun hHeld => ?_)
  ·try dsimp only
   exact HSH.out _ (by exact bl)
  clear hK K
  refine ap ?_
  refine rdy 11 fun K hK => ?_
  go_simp
  (refine (HO.out _ _ (by simp) (by simp)).mono ?_) <;> rintro en w11 ⟨rfl, rfl⟩
  go_wp2_with fail
  refine hK.out _ _ ?_ (fun hHeld => ?_)
  ·try dsimp only
   exact HSH.out _ (by exact bl)
  clear hK K
  refine ap ?_
  refine tS [12] (tC ?_)
  refine ap (tN ?_)
  refine wpAnyH_done (by kernel_rfl) ?_ _
  go_wp2_with fail
  go_meet
  exact ⟨rfl, by exact bl⟩
 obtain ⟨rfl, hb1⟩ := hcut
 obtain ⟨W, rfl⟩ : ∃ W, W = wc := ⟨_, rfl⟩
 obtain ⟨q0, q1, q2, q3, q4, q5⟩ := HSH.out W hb1
 have hbw := HBW.out W hb1
 by_cases h0 : O = 0
 ·subst h0
  have HF : Hid ((if u = u' then (0 : Int) else if u' then -1 else 1) = R) := by have := HR.out; rw [if_pos rfl] at this; exact this
  clear HR
  cases u <;> cases u'
  all_goals
   go_wp2_with fail
   go_ret
   exact ⟨by rw [← HF.out]; rfl, hbw⟩
 ·have e1 : (O != 0) = true := by simpa using h0
  have HF : Hid (O = R) := by have := HR.out; rw [if_neg h0] at this; exact this
  clear HR h0
  go_wp2_with fail
  go_ret
  exact ⟨by rw [HF.out]; rfl, hbw⟩
end Go.Proofs.YtchilcchogcibaaGreatDoor
