/- What may be, after the document's form and number of nodes, is what may be after the program's; What statements' texts want of the library's variables, and of the words of the types; Grants as sets that rise; grant.name, stmt.name, cmp.Or of two, grant.order as plain functions; caddislaw09.text, caddislaw05.text and names; How arguments of the laws are opened; The frame from a walk to a given statement whose row lists variables of the library; How arguments of the laws are opened; How arguments of the laws are opened. -/
import Derived.Shelf.Small.Strs
import Derived.Lib.SmallJoins
import Derived.OpenShut
import Derived.ShutString
import Derived.ChangeOld
import Derived.Test.YtchilcchogcibaaGreatDoorCards
import Derived.Test.YtchilcchogcibaaGreatDoorTie
import Derived.Lay
import Derived.PinnedBridge
import Derived.SevenTiedAt
import Derived.HandedShaped
import Derived.Shelf.Vars
import Derived.Lib.LaidTab
import Derived.Test.YtchilcchogcibaaGreatDoorEGot
set_option maxRecDepth 100000
namespace Go.Proofs.YtchilcchogcibaaGreatDoor
def nodesE : Nat → Ex → Nat
 | 0, _ => 1
 | n + 1, e => 1 + ((e.l.map (nodesE n)).sum)
theorem nodes_pos : ∀ (n : Nat) (e : Ex), 1 ≤ nodesE n e
 | 0, _ => Nat.le_refl _
 | n + 1, e => by unfold nodesE; omega
theorem nodes_nil : ∀ (n : Nat) (e : Ex), e.l.length = 0 → nodesE n e = 1
 | 0, _, _ => rfl
 | n + 1, e, h => by
  have : e.l = [] := List.eq_nil_of_length_eq_zero h
  unfold nodesE
  rw [this]
  rfl
theorem nodes_one (n : Nat) (e : Ex) (h : e.l.length = 1) : nodesE (n + 1) e = 1 + nodesE n (e.l.getD 0 ex0) := by
 match hl : e.l, h with
 | [a], _ =>
  rw [nodesE, hl]
  simp
theorem nodes_two (n : Nat) (e : Ex) (h : e.l.length = 2) : nodesE (n + 1) e = 1 + (nodesE n (e.l.getD 0 ex0) + nodesE n (e.l.getD 1 ex0)) := by
 match hl : e.l, h with
 | [a, b], _ =>
  rw [nodesE, hl]
  simp
theorem zero_eq (v : V) : isZero v = veq v V.zero := by
 unfold isZero veq V.zero
 rw [Bool.eq_iff_iff]
 simp [and_assoc]
theorem twoB_iff (op : List UInt8) : twoB op = true ↔ (op = opAnd ∨ op = opOr ∨ op = opEq ∨ op = opLt ∨ op = opPlus ∨ op = opMinus) := by unfold twoB; simp
theorem parts_lit {op : List UInt8} (h : op = opLit ∨ op = opCol) : partsF op = 0 := by unfold partsF; rw [if_pos h]
theorem parts_one {op : List UInt8} (h : op = opNot ∨ op = opNull) : partsF op = 1 := by
 unfold partsF
 rcases h with rfl | rfl <;> rfl
theorem parts_two {op : List UInt8} (h : twoB op = true) : partsF op = 2 := by
 rw [twoB_iff] at h
 rcases h with rfl | rfl | rfl | rfl | rfl | rfl <;> rfl
theorem parts_no {op : List UInt8} (h1 : ¬ op = opLit) (h2 : ¬ op = opCol) (h3 : ¬ (op = opNot ∨ op = opNull)) (h4 : ¬ twoB op = true) : partsF op = -1 := by
 rw [twoB_iff] at h4
 unfold partsF
 rw [if_neg (by rintro (h | h); exact h1 h; exact h2 h), if_neg h3, if_neg h4]
theorem form_lit {d : Nat} {e : Ex} (h : e.op = opLit) : formE (d + 1) e = (mayB e.v.k e.v.i e.v.s && ((e.s == []) && decide (e.l.length = 0))) := by rw [formE, if_pos h]
theorem form_col {d : Nat} {e : Ex} (h0 : ¬ e.op = opLit) (h : e.op = opCol) : formE (d + 1) e = (veq e.v V.zero && (nameB e.s && (!reserved e.s && decide (e.l.length = 0)))) := by rw [formE, if_neg h0, if_pos h]
theorem form_one {d : Nat} {e : Ex} (h0 : ¬ e.op = opLit) (h1 : ¬ e.op = opCol) (h : e.op = opNot ∨ e.op = opNull) : formE (d + 1) e = (veq e.v V.zero && ((e.s == []) && (decide (e.l.length = 1) && formE d (e.l.getD 0 ex0)))) := by rw [formE, if_neg h0, if_neg h1, if_pos h]
theorem form_two {d : Nat} {e : Ex} (h0 : ¬ e.op = opLit) (h1 : ¬ e.op = opCol) (h2 : ¬ (e.op = opNot ∨ e.op = opNull)) (h : twoB e.op = true) : formE (d + 1) e = (veq e.v V.zero && ((e.s == []) && (decide (e.l.length = 2) && (formE d (e.l.getD 0 ex0) && formE d (e.l.getD 1 ex0))))) := by rw [formE, if_neg h0, if_neg h1, if_neg h2, if_pos h]
theorem form_no {d : Nat} {e : Ex} (h0 : ¬ e.op = opLit) (h1 : ¬ e.op = opCol) (h2 : ¬ (e.op = opNot ∨ e.op = opNull)) (h : ¬ twoB e.op = true) : formE (d + 1) e = false := by rw [formE, if_neg h0, if_neg h1, if_neg h2, if_neg h]
theorem may_succ {n d c : Nat} {e : Ex} (hd : d ≤ 12) (hc : c < 60) : mayE (n + 1) d c e = if ¬ ((e.l.length : Int) = partsF e.op) then (false, c + 1) else if e.op = opLit then (decide (e.s = []) && mayB e.v.k e.v.i e.v.s, c + 1)
  else if e.op = opCol then (veq e.v V.zero && nameB e.s && !reserved e.s, c + 1) else if ¬ (veq e.v V.zero = true ∧ e.s = []) then (false, c + 1) else mayFold (mayE n (d + 1)) (c + 1) e.l := by
 have h1 : decide (12 < d) = false := by simp; omega
 have h2 : decide (60 < c + 1) = false := by simp; omega
 rw [mayE, h1, h2, ← zero_eq]
 by_cases hp : (e.l.length : Int) = partsF e.op
 ·by_cases hz : isZero e.v = true <;> by_cases hs : e.s = [] <;> simp [hp, hz, hs]
 ·simp [hp]
theorem may_form : ∀ (n d c : Nat) (e : Ex), n + d = 13 → 1 ≤ d → ((mayE n d c e).1 = (formE n e && decide (c + nodesE n e ≤ 60))) ∧ ((mayE n d c e).1 = true → (mayE n d c e).2 = c + nodesE n e) := by
 intro n
 induction n with
 | zero =>
  intro d c e hd _
  have : decide (12 < d) = true := by simp; omega
  unfold mayE formE
  simp [this]
 | succ n ih =>
  intro d c e hd h1
  by_cases hc : 60 < c + 1
  ·have h2 := nodes_pos (n + 1) e
   have h3 : decide (c + nodesE (n + 1) e ≤ 60) = false := by simp; omega
   rw [h3]
   unfold mayE
   simp [hc]
  ·rw [may_succ (by omega) (by omega)]
   have hc1 : decide (c + 1 ≤ 60) = true := by simp; omega
   by_cases hLit : e.op = opLit
   ·rw [form_lit hLit, parts_lit (Or.inl hLit)]
    by_cases hl : e.l.length = 0
    ·rw [nodes_nil _ _ hl, hc1, if_neg (by rw [hl]; simp), if_pos hLit]
     by_cases hs : e.s = [] <;> cases hm : mayB e.v.k e.v.i e.v.s <;> simp [hs, hl]
    ·rw [if_pos (by omega)]
     simp [hl]
   ·by_cases hCol : e.op = opCol
    ·rw [form_col hLit hCol, parts_lit (Or.inr hCol)]
     by_cases hl : e.l.length = 0
     ·rw [nodes_nil _ _ hl, hc1, if_neg (by rw [hl]; simp), if_neg hLit, if_pos hCol]
      cases hz : veq e.v V.zero <;> cases hn : nameB e.s <;> cases hr : reserved e.s <;> simp [hl]
     ·rw [if_pos (by omega)]
      simp [hl]
    ·by_cases hOne : e.op = opNot ∨ e.op = opNull
     ·rw [form_one hLit hCol hOne, parts_one hOne]
      by_cases hl : e.l.length = 1
      ·rw [nodes_one _ _ hl, if_neg (by omega), if_neg hLit, if_neg hCol]
       obtain ⟨a, ha⟩ : ∃ a, e.l = [a] := by
        match he : e.l, hl with
        | [a], _ => exact ⟨a, rfl⟩
       have hi := ih (d + 1) (c + 1) a (by omega) (by omega)
       have e1 : c + (1 + nodesE n a) = c + 1 + nodesE n a := by omega
       rw [ha]
       simp only [List.length_cons, List.length_nil, List.getD_cons_zero, e1]
       by_cases hz : veq e.v V.zero = true ∧ e.s = []
       ·rw [if_neg (by simp [hz])]
        simp only [mayFold, hz]
        cases hm : (mayE n (d + 1) (c + 1) a).1
        ·rw [hm] at hi
         simpa using hi.1
        ·rw [hm] at hi
         have h2 := hi.1
         simp at h2
         simp [h2, hi.2 rfl]
       ·rw [if_pos hz]
        refine ⟨?_, by simp⟩
        cases hv : veq e.v V.zero
        ·rfl
        ·have : (e.s == []) = false := by rw [beq_eq_false_iff_ne]; exact fun h => hz ⟨hv, h⟩
         rw [this]; rfl
      ·rw [if_pos (by omega)]
       simp [hl]
     ·by_cases hTwo : twoB e.op = true
      ·rw [form_two hLit hCol hOne hTwo, parts_two hTwo]
       by_cases hl : e.l.length = 2
       ·rw [nodes_two _ _ hl, if_neg (by omega), if_neg hLit, if_neg hCol]
        obtain ⟨a, b, ha⟩ : ∃ a b, e.l = [a, b] := by
         match he : e.l, hl with
         | [a, b], _ => exact ⟨a, b, rfl⟩
        have hi := ih (d + 1) (c + 1) a (by omega) (by omega)
        have e1 : c + (1 + (nodesE n a + nodesE n b)) = c + 1 + nodesE n a + nodesE n b := by omega
        have hj := ih (d + 1) (c + 1 + nodesE n a) b (by omega) (by omega)
        rw [ha]
        simp only [List.length_cons, List.length_nil, List.getD_cons_zero, List.getD_cons_succ, e1]
        by_cases hz : veq e.v V.zero = true ∧ e.s = []
        ·rw [if_neg (by simp [hz])]
         simp only [mayFold, hz]
         cases hm : (mayE n (d + 1) (c + 1) a).1
         ·rw [hm] at hi
          have h2 := hi.1
          simp at h2
          simp
          intro hfa _
          have := h2 hfa
          omega
         ·rw [hm] at hi
          have h2 := hi.1
          simp at h2
          have h3 := hi.2 rfl
          rw [h3]
          cases hm2 : (mayE n (d + 1) (c + 1 + nodesE n a) b).1
          ·rw [hm2] at hj
           have h4 := hj.1
           simp at h4
           simp
           intro _ hfb
           exact h4 hfb
          ·rw [hm2] at hj
           have h4 := hj.1
           simp at h4
           simp [h2, h4, hj.2 rfl]
        ·rw [if_pos hz]
         refine ⟨?_, by simp⟩
         cases hv : veq e.v V.zero
         ·rfl
         ·have : (e.s == []) = false := by rw [beq_eq_false_iff_ne]; exact fun h => hz ⟨hv, h⟩
          rw [this]; rfl
       ·rw [if_pos (by omega)]
        simp [hl]
      ·rw [form_no hLit hCol hOne hTwo, parts_no hLit hCol hOne hTwo, if_pos (by omega)]
       simp
end Go.Proofs.YtchilcchogcibaaGreatDoor
namespace Go.Proofs.YtchilcchogcibaaGreatDoor
open Go.RowKit
def TypT (w : World) : Prop := w.cell? ⟨0, 0, none⟩ = some (.string ⟨#[73, 78, 84]⟩) ∧ w.cell? ⟨0, 1, none⟩ = some (.string ⟨#[84, 69, 88, 84]⟩) ∧ w.cell? ⟨0, 2, none⟩ = some (.string ⟨#[66, 79, 79, 76]⟩)
theorem TypT.below {w w' : World} (h : TypT w) (hb : Below w.heap.size w w') : TypT w' := by
 obtain ⟨h0, h1, h2⟩ := h
 have hl := Blk_lt_of_cell h0
 exact ⟨(hb.cell (p := ⟨_, 0, none⟩) hl).trans h0, (hb.cell (p := ⟨_, 1, none⟩) hl).trans h1, (hb.cell (p := ⟨_, 2, none⟩) hl).trans h2⟩
def Env0 (w : World) : Prop := MaxL w ∧ Tab10 w ∧ TypT w
theorem Env0.below {w w' : World} (h : Env0 w) (hb : Below w.heap.size w w') : Env0 w' := ⟨h.1.below hb rfl, h.2.1.below hb rfl, h.2.2.below hb⟩
def EnvS (B : Nat) (w : World) : Prop := ∃ W0 : World, Env0 W0 ∧ W0.heap.size ≤ B ∧ Below W0.heap.size W0 w
theorem EnvS.below {B B' : Nat} {w w' : World} (h : EnvS B w) (hb : Below B' w w') (hB : B ≤ B') : EnvS B w' := by
 obtain ⟨W0, h1, h2, h3⟩ := h
 exact ⟨W0, h1, h2, h3.trans (hb.mono (Nat.le_trans h2 hB))⟩
theorem EnvS.out {B : Nat} {w : World} (h : EnvS B w) : Env0 w := by
 obtain ⟨W0, h1, h2, h3⟩ := h
 exact h1.below h3
theorem EnvS.of {w : World} (h : Env0 w) : EnvS w.heap.size w := ⟨w, h, Nat.le_refl _, Below.refl _ _⟩
theorem EnvS.more {B B' : Nat} {w : World} (h : EnvS B w) (hB : B ≤ B') : EnvS B' w := by
 obtain ⟨W0, h1, h2, h3⟩ := h
 exact ⟨W0, h1, Nat.le_trans h2 hB, h3⟩
instance grDec : DecidableEq Gr := fun a b =>
 if h : a.r = b.r ∧ a.t = b.t ∧ a.w = b.w then isTrue (by cases a; cases b; simp_all) else isFalse (by rintro rfl; simp at h)
end Go.Proofs.YtchilcchogcibaaGreatDoor
namespace Go.Proofs.YtchilcchogcibaaGreatDoor
open Go.RowKit
attribute [local go_sem] ByteArray.extract_mk ba_get ba_append
attribute [local go_sem ↓] Go.wp_at_zero Go.wp_at_succ run_eql_V run_neq_V
theorem nameSt_any (s : List UInt8) (w : World) (hs : s.length ≤ 1000000) : Calls Tryz.prog 74 #[.string ⟨s.toArray⟩] w (Ret (.bool (nameG s)) w) := by
 obtain ⟨B, hB⟩ : ∃ B, nameB s = B := ⟨_, rfl⟩
 obtain ⟨R, hR⟩ : ∃ R, reserved s = R := ⟨_, rfl⟩
 have HN : Hid (nameG s = (B && !R)) := by show _ = _; unfold nameG; rw [hB, hR]
 have h1 := nameX_any s w hs
 rw [hB] at h1
 have H1 := Lib.hid h1
 have H2 : Hid (∀ Z : World, Calls Tryz.prog 67 #[.string ⟨s.toArray⟩] Z (RetB R Z)) := fun Z => by have := reserved_any s Z; rw [hR] at this; exact this
 rw [HN.out]
 clear h1 hB hR
 cases B
 ·go_in
  go_wp2_with fail
  refine H1.out.mono ?_
  rintro en w1 ⟨rfl, hb1⟩
  go_wp2_with fail
  go_ret
  exact ⟨rfl, hb1⟩
 ·go_in
  go_wp2_with fail
  refine H1.out.mono ?_
  rintro en w1 ⟨rfl, hb1⟩
  go_wp2_with fail
  refine (H2.out _).mono ?_
  rintro en w2 ⟨rfl, rfl⟩
  go_wp2_with fail
  go_ret
  exact ⟨by cases R <;> rfl, hb1⟩
def Gr.val (g : Gr) : Value := .agg #[.string ⟨g.r.toArray⟩, .string ⟨g.t.toArray⟩, .bool g.w]
end Go.Proofs.YtchilcchogcibaaGreatDoor
namespace Go.Proofs.YtchilcchogcibaaGreatDoor
open Go.RowKit
attribute [local go_sem] ByteArray.extract_mk ba_get ba_append
attribute [local go_sem ↓] Go.wp_at_zero Go.wp_at_succ
theorem text5_any (s : List UInt8) (w : World) : Calls Tryz.prog 31 #[.string ⟨s.toArray⟩] w (Ret (.string ⟨(s.take 20).toArray⟩) w) := by
 by_cases hk : s.length ≤ 20
 ·have HT : Hid (s.take 20 = s) := List.take_of_length_le hk
  rw [HT.out]
  go_in
  go_wp2_with fail
  go_ret
  exact ⟨rfl, Below.refl _ _⟩
 ·go_in
  go_wp2_with fail
  go_ret
  exact ⟨rfl, Below.refl _ _⟩
def strW (s : List UInt8) : Value := .string ⟨s.toArray⟩
theorem SQ.own {w : World} {base : Nat} {e : TypeId} {sv : Value} {n : Nat} {l : List (List UInt8)} (h : w.ownsRow base e 1 sv n (l.map strW)) :
  ∃ A c, sv = .slice A l.length c ∧ l.length ≤ c ∧ c ≤ maxLen ∧ SQ l A (fun b => base ≤ b ∧ b < w.heap.size) w := by
 have hn : l.length = n := by have := h.1; rw [List.length_map] at this; omega
 rcases h.2 with ⟨rfl, h0⟩ | ⟨g, cap, cur, rfl, hb, hg, hnc, hcm, hcs, htk⟩
 ·exact ⟨none, 0, by rw [hn, h0], by omega, Nat.zero_le _, fun hl => absurd hl (by omega)⟩
 ·refine ⟨some ⟨g, 0, none⟩, cap, by rw [hn], by omega, hcm, fun _ => ⟨g, 0, rfl, ⟨hb, (Array.getElem?_eq_some_iff.1 hg).1⟩, fun i v hv => ?_⟩⟩
  have := h.cells (g := g) rfl i (strW v) (by rw [List.getElem?_map, hv]; rfl)
  rw [add_mid] at this
  exact this
end Go.Proofs.YtchilcchogcibaaGreatDoor
namespace Go.Proofs.YtchilcchogcibaaGreatDoor
open Go.ChangeShapes Go.WideShapes Go.ChangeAt Go.RowKit Go.Deep Go.Joins
theorem own : ownKnob Tryz.prog.godebug = none := by kernel_rfl
def V.ok (v : V) : Prop := (-9223372036854775808 ≤ v.k ∧ v.k ≤ 9223372036854775807) ∧ (-9223372036854775808 ≤ v.i ∧ v.i ≤ 9223372036854775807) ∧ v.s.length ≤ 9223372036854775807
end Go.Proofs.YtchilcchogcibaaGreatDoor
namespace Go.Proofs.YtchilcchogcibaaGreatDoor
open Go.ChangeShapes Go.WideShapes Go.ChangeAt Go.RowKit
theorem handed_and_shaped {H : Type} {enc : TypeId × Value → H} {a : Assume} {C : Checked} {os : Os} {f : FuncId} {fn : Func} {s : ChangeSpec} {conds : List PathCond} {apart fresh handsOn again : Bool} {X : World → Array Value → Prop}
  (hX : ∀ (w w' : World) (args : Array Value), w.heap = w'.heap → X w args → X w' args)
  (own : ownKnob C.prog.godebug = none) (started : os.Started) (noInit : C.prog.inits.idxOf? f = none) (hfn : C.prog.funcs[f]? = some fn)
  (witness : ∃ (w : World) (tape : Tape) (i : Input), w.os = os ∧ (w.forCall tape i).Shaped C.prog ∧ i.vars = [] ∧ Input.okWide C.prog (w.forCall tape i) .any w.heap.size f i ∧
   ((s.pre enc C.prog fn conds apart (w.forCall tape i).memory i.args ∧ X (w.forCall tape i).memory i.args) ∧ sizedMet enc C.prog fn (OpenSpec.ofChange s) apart (w.forCall tape i).memory i.args) ∧ a.holds C.prog (lone (Frame.enter C.prog f i.args .normal) [] (w.forCall tape i)))
  (contract : ∀ (W : World) (base : Nat) (args : Array Value) (ds gs : List (DataW H)) (before : List MemPlace),
   (∀ (j : Nat) t v, fn.params[j]? = some t → args[j]? = some v → Value.okWide C.prog W .any base t v) →
   DataW.Whole enc C.prog fn.params.toList s.vars apart W args.toList ds gs before →
   conds.all (PathCond.test C.prog ⟨fn.params.toList, ds, s.plain.varTypes C.prog, gs⟩) = true →
   (DataW.weightsEach C.prog (fn.params.toList ++ s.plain.varTypes C.prog) (ds ++ gs)).all (· ≤ reachBytes) = true → X W args → W.ShapedOpen C.prog →
   a.holds C.prog (lone (Frame.enter C.prog f args .normal) [] W) →
   Calls C.prog f args W fun e W' => ∃ v, e = .returned v ∧ s.post enc C.prog fn apart fresh handsOn again W args v W') :
  ReturnsInHanded a C os f .any (fun w args => (s.pre enc C.prog fn conds apart w args ∧ X w args) ∧ sizedMet enc C.prog fn (OpenSpec.ofChange s) apart w args) (s.post enc C.prog fn apart fresh handsOn again) := by
 refine returnsInHanded_of_calls own started noInit witness ?_
 intro w tape i _ hsh _ hok hpre hholds
 obtain ⟨_, _, _, fn', hfn', _, _, _, _, hval⟩ := hok
 have e : fn' = fn := Option.some.inj (hfn'.symm.trans hfn)
 subst e
 obtain ⟨⟨⟨ds, gs, before, hw, hc⟩, hx⟩, hz⟩ := hpre
 have hw' := DataW.Whole.of_heap (w' := w.forCall tape i) (by rfl) hw
 refine (contract (w.forCall tape i) w.heap.size i.args ds gs before hval hw' hc (hz.weights hw) (hX _ _ _ (by rfl) hx) hsh hholds).mono fun e W' ⟨v, he, hp⟩ => ?_
 subst he
 exact ChangeSpec.post_blind hp
theorem maxL_of {W : World} (h : W.ShapedOpen Tryz.prog) : MaxL W :=
 cell_of_shapedOpen_int (zero := #[.int .i64 0]) (t := 3) h (by decide +kernel) (by kernel_rfl) rfl (by kernel_rfl) (by kernel_rfl) Tryz.underlying3
end Go.Proofs.YtchilcchogcibaaGreatDoor
namespace Go.Proofs.YtchilcchogcibaaGreatDoor
open Go.RowKit Go.ChangeShapes Go.WideShapes Go.ChangeAt
theorem open_str {H : Type} {enc : TypeId × Value → H} {W : World} {base : Nat} {v : Value} {d : DataW H} {p : List MemPlace}
  (hv : Value.okWide Tryz.prog W .any base 9 v) (h : DataW.Trod enc Tryz.prog W 0 (fun _ => true) true 9 v d p) :
  ∃ l : List UInt8, v = .string ⟨l.toArray⟩ ∧ l.length ≤ maxLen := by
 obtain ⟨s, rfl⟩ := okWide_string Tryz.underlying9 hv
 obtain ⟨fuel, hf⟩ := h
 obtain ⟨s', e2, _, w2⟩ := DataW.trod_string Tryz.underlying9 hf
 simp [Value.cells] at e2
 subst e2
 exact ⟨s.data.toList, rfl, by rw [Array.length_toList]; exact w2⟩
end Go.Proofs.YtchilcchogcibaaGreatDoor
namespace Go.Proofs.YtchilcchogcibaaGreatDoor
open Go.ChangeShapes Go.WideShapes Go.ChangeAt Go.RowKit Go.Deep Go.Joins
def Se.cells (s : Se) (A : Option Addr) (c : Nat) : List Value := .string ⟨s.n.toArray⟩ :: s.e.cells A c
end Go.Proofs.YtchilcchogcibaaGreatDoor
