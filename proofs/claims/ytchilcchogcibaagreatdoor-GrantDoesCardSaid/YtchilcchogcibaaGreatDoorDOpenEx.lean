/- The document's May, good and Order, and the laws' Few, as plain functions; Values held against each other; value.known, and words on fields and worlds; cmp.Compare and cmp.Or as plain functions; value.Order, And, Or, Not, Equal, Less, Plus, Minus, IsNull as plain functions; value's inner functions (says, truth, whether) as plain functions; value.And, Or, Not, alike, Equal, Less, IsNull as plain functions; value.Plus and Minus as plain functions; Plain words for slices of numbers; A drawn region some of whose operations change memory and may come up in many orders; Words for a drawn region of calls and new variables; How arguments of the laws are opened; How arguments of the laws are opened. -/
import Derived.Deep.DrawnRows
import Derived.Deep.DeepCutAuto
import Derived.Lib.SmallJoins
import Derived.OpenShut
import Derived.ShutString
import Derived.ChangeOld
import Derived.Test.YtchilcchogcibaaGreatDoorDOwnRow
set_option maxRecDepth 100000
set_option maxHeartbeats 400000
namespace Go.Proofs.YtchilcchogcibaaGreatDoor
open Go.RowKit
attribute [local go_sem] ByteArray.extract_mk ba_get
theorem take_snoc (s : List UInt8) (k : Nat) (h : k < s.length) : s.take (k + 1) = s.take k ++ [s[k]] := by
 rw [List.take_succ_eq_append_getElem h]
theorem few1_any (k i : Int) (s : List UInt8) (w : World) :
  Calls Tryz.prog 59 #[.agg #[.int .i64 k, .int .i64 i, .string ⟨s.toArray⟩]] w fun e w' => e = .returned (.agg #[.int .i64 k, .int .i64 i, .string ⟨(s.take 60).toArray⟩]) ∧ Below w.heap.size w w' := by
 by_cases h : s.length ≤ 60
 ·go_in
  go_wp2
  refine bodyPost_ret (v := .agg #[.int .i64 k, .int .i64 i, .string ⟨s.toArray⟩]) (by simp [results, Tryz.results59, go_sem]) rfl ⟨?_, ?_⟩
  ·rw [List.take_of_length_le h]
  ·exact ((Below.refl _ _).alloc (Nat.le_refl _) _).alloc (by simp) _
 ·go_in
  go_wp2
  refine bodyPost_ret (v := .agg #[.int .i64 k, .int .i64 i, .string ⟨(s.take 60).toArray⟩]) (by simp [results, Tryz.results59, go_sem]) rfl ⟨?_, ?_⟩
  ·rfl
  ·exact ((Below.refl _ _).alloc (Nat.le_refl _) _).alloc (by simp) _
def restB (k i : Int) (s : List UInt8) : Bool :=
 if k = 0 then decide (i = 0) && s.isEmpty
 else if k = 1 then s.isEmpty
 else if k = 2 then decide (i = 0) && decide (s.length ≤ 40)
 else if k = 3 then (decide (i = 0) || decide (i = 1)) && s.isEmpty
 else false
theorem mayB_rest (k i : Int) (s : List UInt8) : mayB k i s = (!(s.any oddByte) && restB k i s) := by
 unfold mayB restB
 repeat' split
 all_goals (cases s <;> simp)
 all_goals (rw [Bool.eq_iff_iff]; simp; try grind)
theorem rmay_any (k i : Int) (s : List UInt8) (w : World) (hs : s.length ≤ 140737488351232) :
  Calls Tryz.prog 110 #[.agg #[.int .i64 k, .int .i64 i, .string ⟨s.toArray⟩]] w fun e w' => e = .returned (.bool (mayB k i s)) ∧ Below w.heap.size w w' := by
 have HM := Lib.hid (mayB_rest k i s)
 generalize mayB k i s = M at *
 go_in
 go_wp2
 go_loop [3] (fun t => ∃ j : Nat, j ≤ s.length ∧ t = .int .i64 j ∧ Hid ((s.take j).any oddByte = false)) (fun t => s.length - (intOf t).toNat)
 case atStart => exact ⟨0, by omega, rfl, rfl⟩
 case round =>
  obtain ⟨j, hj, rfl, hodd⟩ := hrel
  by_cases hlt : j < s.length
  ·by_cases hb : oddByte s[j] = true
   ·have hM : M = false := by
     rw [HM.out]
     have : s.any oddByte = true := List.any_eq_true.2 ⟨s[j], List.getElem_mem _, hb⟩
     simp [this]
    have HM2 := Lib.hid hM
    simp only [oddByte, oddB, Bool.or_eq_true, decide_eq_true_eq] at hb
    clear hM HM
    rcases hb with hb | hb
    all_goals
     go_wp2
     go_ret
     exact ⟨by rw [HM2.out]; rfl, (Below.refl _ _).alloc (Nat.le_refl _) _⟩
   ·have h1 : Hid ((s.take (j + 1)).any oddByte = false) := by
     show (s.take (j + 1)).any oddByte = false
     rw [take_snoc s j hlt, List.any_append, hodd.out]
     simpa using hb
    have hb' : oddByte s[j] = false := by simpa using hb
    simp only [oddByte, oddB, Bool.or_eq_false_iff, decide_eq_false_iff_not] at hb'
    obtain ⟨hb1, hb2⟩ := hb'
    clear hb hodd
    go_wp2
    go_round
    case rel => exact ⟨j + 1, by omega, by go_num, h1⟩
    case measure => simp [intOf]; omega
  ·have hM : M = restB k i s := by
    rw [HM.out]
    have e : s.take j = s := List.take_of_length_le (by omega)
    rw [← e, hodd.out, e]
    simp
   have HM2 := Lib.hid hM
   clear hM hodd
   go_wp2
   all_goals go_ret
   all_goals refine ⟨?_, (Below.refl _ _).alloc (Nat.le_refl _) _⟩
   all_goals go_light
   all_goals rw [HM2.out]
   all_goals simp_all [restB]
   all_goals omega
def goodV (k i : Int) (s : List UInt8) : V := if mayB k i s then ⟨k, i, s⟩ else ⟨0, 0, []⟩
end Go.Proofs.YtchilcchogcibaaGreatDoor
namespace Go.Proofs.YtchilcchogcibaaGreatDoor
open Go.RowKit
attribute [local go_sem] ByteArray.extract_mk ba_get
attribute [local go_sem ↓] Go.wp_at_zero Go.wp_at_succ
def Two (n : Nat) (a b : V) (w : World) : Prop :=
 (w.cell? ⟨n, 0, none⟩ = some (.int .i64 a.k) ∧ w.cell? ⟨n, 1, none⟩ = some (.int .i64 a.i) ∧ w.cell? ⟨n, 2, none⟩ = some (.string ⟨a.s.toArray⟩)) ∧
 (w.cell? ⟨n + 1, 0, none⟩ = some (.int .i64 b.k) ∧ w.cell? ⟨n + 1, 1, none⟩ = some (.int .i64 b.i) ∧ w.cell? ⟨n + 1, 2, none⟩ = some (.string ⟨b.s.toArray⟩))
def veq (a b : V) : Bool := decide (a.k = b.k) && (decide (a.i = b.i) && a.s == b.s)
theorem run_eql_V (k i : Int) (s : List UInt8) (k' i' : Int) (s' : List UInt8) (w : World) :
  (binOp .eql 27 (.agg #[.int .i64 k, .int .i64 i, .string ⟨s.toArray⟩]) (.agg #[.int .i64 k', .int .i64 i', .string ⟨s'.toArray⟩])).run Tryz.prog w = .ok (.bool (veq ⟨k, i, s⟩ ⟨k', i', s'⟩)) w := by
 by_cases h1 : k = k' <;> by_cases h2 : i = i' <;> by_cases h3 : s = s' <;> simp [go_sem, veq, h1, h2, h3, Tryz.underlying27, Tryz.underlying3, Tryz.underlying2, Tryz.underlying9]
theorem run_neq_V (k i : Int) (s : List UInt8) (k' i' : Int) (s' : List UInt8) (w : World) :
  (binOp .neq 27 (.agg #[.int .i64 k, .int .i64 i, .string ⟨s.toArray⟩]) (.agg #[.int .i64 k', .int .i64 i', .string ⟨s'.toArray⟩])).run Tryz.prog w = .ok (.bool (!veq ⟨k, i, s⟩ ⟨k', i', s'⟩)) w := by
 by_cases h1 : k = k' <;> by_cases h2 : i = i' <;> by_cases h3 : s = s' <;> simp [go_sem, veq, h1, h2, h3, Tryz.underlying27, Tryz.underlying3, Tryz.underlying2, Tryz.underlying9]
theorem wp_forget {P : Program} {c : Code} {Q : Exit → Act → World → Prop} {a : Act} {w : World} (R : World → Prop) (h : R w) (k : ∀ w', R w' → Code.wp P c Q a w') : Code.wp P c Q a w := k w h
theorem Blk_lt_of_cell {w : World} {b o : Nat} {v : Value} (h : w.cell? ⟨b, o, none⟩ = some v) : b < w.heap.size := by
 rcases Nat.lt_or_ge b w.heap.size with hlt | hge
 ·exact hlt
 ·simp [World.cell?, Array.getElem?_eq_none hge] at h
theorem run_field0 (k i : Int) (s : ByteArray) (w : World) : (Instr.field 27 (.agg #[.int .i64 k, .int .i64 i, .string s]) 0).run Tryz.prog w = .ok (.int .i64 k) w := by kernel_rfl
theorem run_field1 (k i : Int) (s : ByteArray) (w : World) : (Instr.field 27 (.agg #[.int .i64 k, .int .i64 i, .string s]) 1).run Tryz.prog w = .ok (.int .i64 i) w := by kernel_rfl
theorem run_field2 (k i : Int) (s : ByteArray) (w : World) : (Instr.field 27 (.agg #[.int .i64 k, .int .i64 i, .string s]) 2).run Tryz.prog w = .ok (.string s) w := by kernel_rfl
def V.agg (v : V) : Value := .agg #[.int .i64 v.k, .int .i64 v.i, .string ⟨v.s.toArray⟩]
def V.may (v : V) : Bool := mayB v.k v.i v.s
def V.good (v : V) : V := goodV v.k v.i v.s
def cmpI (a b : Int) : Int := if a < b then -1 else if b < a then 1 else 0
def cmpS (a b : List UInt8) : Int := if a = b then 0 else if Op.bytesLess a b then -1 else 1
def or3 (x y z : Int) : Int := if x = 0 then (if y = 0 then z else y) else x
def cord (a b : V) : Int := or3 (cmpI a.k b.k) (cmpI a.i b.i) (cmpS a.s b.s)
def saysF (k i : Int) (s : List UInt8) : Int := if k = 3 then (if mayB k i s then 1 + i else 0) else 0
theorem may3 {i : Int} {s : List UInt8} (h : mayB 3 i s = true) : (i = 0 ∨ i = 1) ∧ s = [] := by
 simp [mayB] at h; exact h
theorem says_any (k i : Int) (s : List UInt8) (w : World) :
  Calls Tryz.prog 154 #[.agg #[.int .i64 k, .int .i64 i, .string ⟨s.toArray⟩]] w (Ret (.int .i64 (saysF k i s)) w) := by
 by_cases hk : k = 3
 ·subst hk
  cases hm : mayB 3 i s
  ·have e : saysF 3 i s = 0 := by simp [saysF, hm]
   rw [e]
   clear e
   have HM := Lib.hid hm
   clear hm
   go_in
   go_wp2_with fail
   refine (may_any _ _ _ _).mono ?_
   rintro e w1 ⟨rfl, hb⟩
   rw [HM.out]
   go_wp2
   go_ret
   exact ⟨rfl, by exact bl⟩
  ·have e : saysF 3 i s = 1 + i := by simp [saysF, hm]
   rw [e]
   clear e
   have hi1 : 0 ≤ i := by rcases (may3 hm).1 with h | h <;> omega
   have hi2 : i ≤ 1 := by rcases (may3 hm).1 with h | h <;> omega
   have HM := Lib.hid hm
   clear hm
   go_in
   go_wp2_with fail
   refine (may_any _ _ _ _).mono ?_
   rintro e w1 ⟨rfl, hb⟩
   rw [HM.out]
   obtain ⟨hc, hf⟩ := bcell hb
   have hz := hb.size
   simp at hz hc hf
   go_wp2
   go_ret
   exact ⟨rfl, by exact bl⟩
 ·have e : saysF k i s = 0 := by simp [saysF, hk]
  rw [e]
  clear e
  have hk' : (k != 3) = true := by simp [hk]
  clear hk
  go_in
  go_wp2
  go_ret
  exact ⟨rfl, by exact bl⟩
def truthV (n : Int) : V := if n = 0 then V.zero else ⟨3, n - 1, []⟩
def bV (b : Bool) : V := ⟨3, if b then 1 else 0, []⟩
end Go.Proofs.YtchilcchogcibaaGreatDoor
namespace Go.Proofs.YtchilcchogcibaaGreatDoor
open Go.RowKit
attribute [local go_sem] ByteArray.extract_mk ba_get
attribute [local go_sem ↓] Go.wp_at_zero Go.wp_at_succ run_eql_V run_neq_V run_field0 run_field1 run_field2
def andN (x y : Int) : Int := if x = 1 ∨ y = 1 then 1 else if x = 2 ∧ y = 2 then 2 else 0
def orN (x y : Int) : Int := if x = 2 ∨ y = 2 then 2 else if x = 1 ∧ y = 1 then 1 else 0
def notN (x : Int) : Int := if x = 2 then 1 else if x = 1 then 2 else 0
def alikeB (a b : V) : Bool := !decide ((goodV a.k a.i a.s).k = 0) && decide ((goodV a.k a.i a.s).k = (goodV b.k b.i b.s).k)
def equalV (a b : V) : V := if alikeB a b then bV (veq a b) else V.zero
def lessV (a b : V) : V := if alikeB a b then bV (decide (cord (goodV a.k a.i a.s) (goodV b.k b.i b.s) < 0)) else V.zero
def fits (n : Int) : Bool := decide (-9223372036854775808 ≤ n) && decide (n ≤ 9223372036854775807)
def plusV (a b : V) : V := if alikeB a b && decide (a.k = 1) && fits (a.i + b.i) then ⟨1, a.i + b.i, []⟩ else V.zero
def minusV (a b : V) : V := if alikeB a b && decide (a.k = 1) && fits (a.i - b.i) then ⟨1, a.i - b.i, []⟩ else V.zero
end Go.Proofs.YtchilcchogcibaaGreatDoor
namespace Go.Proofs.YtchilcchogcibaaGreatDoor
open Go.RowKit
def IS (w : World) (B : Nat) (A : Option Addr) (l : List Int) : Prop := 0 < l.length → ∃ b off, A = some ⟨b, off, none⟩ ∧ b < B ∧ ∀ i x, l[i]? = some x → w.cell? ⟨b, off + i, none⟩ = some (.int .i64 x)
def IF (w : World) (lo hi : Nat) (A : Option Addr) (l : List Int) : Prop := 0 < l.length → ∃ b off, A = some ⟨b, off, none⟩ ∧ lo ≤ b ∧ b < hi ∧ ∀ i x, l[i]? = some x → w.cell? ⟨b, off + i, none⟩ = some (.int .i64 x)
theorem IF.s {w : World} {lo hi : Nat} {A : Option Addr} {l : List Int} (h : IF w lo hi A l) {B : Nat} (hB : hi ≤ B) : IS w B A l := fun hl => by
 obtain ⟨b, off, rfl, _, h2, h3⟩ := h hl
 exact ⟨b, off, rfl, by omega, h3⟩
theorem IF.keep {w w' : World} {lo hi lo' hi' : Nat} {A : Option Addr} {l : List Int} (h : IF w lo hi A l) (hk : ∀ b, lo ≤ b → b < hi → (lo' ≤ b ∧ b < hi') ∧ ∀ o, w'.cell? ⟨b, o, none⟩ = w.cell? ⟨b, o, none⟩) : IF w' lo' hi' A l := fun hl => by
 obtain ⟨b, off, rfl, h1, h2, h3⟩ := h hl
 exact ⟨b, off, rfl, (hk b h1 h2).1.1, (hk b h1 h2).1.2, fun i x hx => ((hk b h1 h2).2 _).trans (h3 i x hx)⟩
theorem IS.below {w w' : World} {B : Nat} {A : Option Addr} {l : List Int} (h : IS w B A l) (hb : Below B w w') : IS w' B A l := fun hl => by
 obtain ⟨b, off, rfl, hbB, hr⟩ := h hl
 exact ⟨b, off, rfl, hbB, fun i x hx => (hb.cell (p := ⟨b, off + i, none⟩) hbB).trans (hr i x hx)⟩
theorem IS.more {w : World} {B B' : Nat} {A : Option Addr} {l : List Int} (h : IS w B A l) (hB : B ≤ B') : IS w B' A l := fun hl => by
 obtain ⟨b, off, rfl, hbB, hr⟩ := h hl
 exact ⟨b, off, rfl, by omega, hr⟩
theorem IS.nil {w : World} {B : Nat} {A : Option Addr} : IS w B A [] := fun h => absurd h (by simp)
theorem IS.at_ {w : World} {B : Nat} {A : Option Addr} {l : List Int} (h : IS w B A l) {j : Nat} (hj : j < l.length) :
  ∃ b off x, A = some ⟨b, off, none⟩ ∧ b < B ∧ l[j]? = some x ∧ w.cell? ⟨b, off + j, none⟩ = some (.int .i64 x) := by
 obtain ⟨b, off, rfl, hb, hr⟩ := h (by omega)
 exact ⟨b, off, l[j], rfl, hb, List.getElem?_eq_getElem hj, hr j _ (List.getElem?_eq_getElem hj)⟩
theorem IF.own {w : World} {base : Nat} {e : TypeId} {sv : Value} {n : Nat} {l : List Int} (h : w.ownsRow base e 1 sv n (l.map fun x => (.int .i64 x : Value))) :
  ∃ A c, sv = .slice A l.length c ∧ l.length ≤ c ∧ c ≤ maxLen ∧ IF w base w.heap.size A l := by
 have hn : l.length = n := by have := h.1; rw [List.length_map] at this; omega
 rcases h.2 with ⟨rfl, h0⟩ | ⟨g, cap, cur, rfl, hb, hg, hnc, hcm, hcs, htk⟩
 ·refine ⟨none, 0, ?_, by omega, Nat.zero_le _, fun hl => absurd hl (by omega)⟩
  rw [hn, h0]
 ·refine ⟨some ⟨g, 0, none⟩, cap, by rw [hn], by omega, hcm, fun _ => ⟨g, 0, rfl, hb, (Array.getElem?_eq_some_iff.1 hg).1, fun i x hx => ?_⟩⟩
  have hc := h.cells (g := g) rfl i (.int .i64 x) (by rw [List.getElem?_map, hx]; rfl)
  rw [add_mid] at hc
  exact hc
def firstP {α : Type} (p : α → Bool) : List α → Nat → Int
 | [], _ => -1
 | x :: r, n => if p x then (n : Int) else firstP p r (n + 1)
theorem firstP_any {α : Type} (p : α → Bool) : ∀ (l : List α) (n : Nat), decide (0 ≤ firstP p l n) = l.any p
 | [], _ => by simp [firstP]
 | x :: r, n => by
  unfold firstP
  cases hp : p x
  ·simp only [Bool.false_eq_true, if_false, List.any_cons, hp, Bool.false_or]
   exact firstP_any p r (n + 1)
  ·simp [hp]
theorem firstP_cons {α : Type} (p : α → Bool) (x : α) (r : List α) (n : Nat) : firstP p (x :: r) n = if p x then (n : Int) else firstP p r (n + 1) := rfl
end Go.Proofs.YtchilcchogcibaaGreatDoor
namespace Go.Proofs.YtchilcchogcibaaGreatDoor
open Go
section
variable {P : Program} {ops : Array Oper} {Q : Exit → Act → World → Prop} {md : Region.Mode} {S : World → Prop}
theorem getD_put_same {L : Array Bool} {i : Nat} (d : Bool) (h : i < L.size) : (L.setIfInBounds i true).getD i d = true := by
 simp [Array.getD, h]
theorem getD_put_other {L : Array Bool} {i j : Nat} (d : Bool) (h : i ≠ j) : (L.setIfInBounds i true).getD j d = L.getD j d := by
 simp only [Array.getD, Array.size_setIfInBounds]
 split
 ·exact Array.getElem_setIfInBounds_ne _ h
 ·rfl
theorem wpOp_one {i : Nat} {o : Oper} {a : Act} {w : World} {K : Act → World → Prop} (ho : ops[i]? = some o)
  (h : ∀ K' : Act → World → Prop, Shut (∀ a w, K a w → K' a w) → if Region.wanted o (yielded ops a.tmps) = true then Oper.wp P o a w K' Q else K' (a.put o.dst undef) w) : wpOp P ops Q i K a w :=
 wpOp_step ho (fun K' hK => h K' (fun a w hk => hK a w hk))
end
end Go.Proofs.YtchilcchogcibaaGreatDoor
namespace Go.Proofs.YtchilcchogcibaaGreatDoor
open Go.RowKit
def Up (L : Array Bool) (i : Nat) : Prop := L.getD i true = true
instance (L : Array Bool) (i : Nat) : Decidable (Up L i) := inferInstanceAs (Decidable (_ = _))
def Slot (L : Array Bool) (i : Nat) (u v : Value) : Prop := Up L i → u = v
def Newv (L : Array Bool) (i : Nat) (B : Nat) (w : World) (u : Value) : Prop := Up L i → ∃ g, u = .pointer (some ⟨g, 0, none⟩) ∧ B ≤ g ∧ Blk w g 27 #[.int .i64 0, .int .i64 0, .string ⟨#[]⟩]
def Diff (L : Array Bool) (i j : Nat) (u v : Value) : Prop := Up L i → Up L j → u ≠ v
theorem Up.put {L : Array Bool} {i j : Nat} (h : Up (L.setIfInBounds i true) j) (hne : i ≠ j) : Up L j := by unfold Up at *; rwa [getD_put_other true hne] at h
theorem Up.more {L : Array Bool} {i j : Nat} (h : Up L j) : Up (L.setIfInBounds i true) j := by
 unfold Up at *
 by_cases e : i = j
 ·subst e
  by_cases hlt : i < L.size
  ·exact getD_put_same true hlt
  ·simp [Array.getD, hlt]
 ·rw [getD_put_other true e]; exact h
theorem Slot.put {L : Array Bool} {i j : Nat} {u v : Value} (h : Slot L j u v) (hne : i ≠ j) : Slot (L.setIfInBounds i true) j u v := fun hu => h (hu.put hne)
theorem Slot.new {L : Array Bool} {i : Nat} {v : Value} : Slot L i v v := fun _ => rfl
theorem Newv.put {L : Array Bool} {i j B : Nat} {w w' : World} {u : Value} (h : Newv L j B w u) (hne : i ≠ j) (hb : Below w.heap.size w w') : Newv (L.setIfInBounds i true) j B w' u := fun hu => by
 obtain ⟨g, e, h1, h2⟩ := h (hu.put hne)
 exact ⟨g, e, h1, h2.below hb h2.lt⟩
theorem Newv.new {L : Array Bool} {i B : Nat} {w : World} (hB : B ≤ w.heap.size) : Newv L i B (w.alloc (.cells #[.int .i64 0, .int .i64 0, .string ⟨#[]⟩] 27)) (.pointer (some ⟨w.heap.size, 0, none⟩)) :=
 fun _ => ⟨_, rfl, hB, Blk.new w _ _⟩
theorem Diff.put {L : Array Bool} {i j k : Nat} {u v : Value} (h : Diff L j k u v) (h1 : i ≠ j) (h2 : i ≠ k) : Diff (L.setIfInBounds i true) j k u v := fun a b => h (a.put h1) (b.put h2)
end Go.Proofs.YtchilcchogcibaaGreatDoor
namespace Go.Proofs.YtchilcchogcibaaGreatDoor
open Go.ChangeShapes Go.WideShapes Go.ChangeAt Go.RowKit Go.Deep Go.Joins
theorem own : ownKnob Tryz.prog.godebug = none := by kernel_rfl
theorem laidOut : laidOutB Tryz.prog = true := by kernel_rfl
section
variable {H : Type} {enc : TypeId × Value → H} {P : Program} {w : World} {base : Nat} {spare : Nat → Bool} {held : Bool}
theorem open_slice_fields {t e : TypeId} {fs : Array Field} {fuel : Nat} {cs : List Value} {x : DataW H × List MemPlace} (ht : P.underlying t = some (.slice e)) (he : P.underlying e = some (.struct fs))
  (hone : oneCellFields P fs = true) (hC : P.cellsOf e = fs.size) (h : DataW.trod enc P w base spare held fuel t cs = some x) :
  (cs = [.slice none 0 0] ∧ x = (.nil, [])) ∨
  ∃ (a : Addr) (len cap m : Nat) (D : Nat → DataW H) (Pl : Nat → List MemPlace), cs = [.slice (some a) len cap] ∧ base ≤ a.block ∧ len ≤ cap ∧ cap ≤ maxLen ∧ m = (if spare a.block then cap else len) ∧
   x = (.slice ((List.range len).map D) ((List.range (m - len)).map fun j => D (len + j)), MemPlace.row a (m * fs.size) ++ (List.range m).flatMap Pl) ∧
   ∀ i, i < m → ∃ (ys : List (DataW H × List MemPlace)) (n : Nat), D i = .agg (ys.map (·.1)) ∧ Pl i = ys.flatMap (·.2) ∧ ys.length = fs.size ∧
    ∀ (j : Nat) (f : Field), fs[j]? = some f → ∃ (v : Value) (y : DataW H × List MemPlace), w.cell? (a.add (i * fs.size + j)) = some v ∧ ys[j]? = some y ∧ DataW.trod enc P w base spare held n f.type [v] = some y := by
 rcases open_slice ht h with h0 | ⟨a, len, cap, m, n, D, Pl, hcs, hb, hl, hm, hmm, hx, hi⟩
 ·exact .inl h0
 ·refine .inr ⟨a, len, cap, m, D, Pl, hcs, hb, hl, hm, hmm, by rw [hC] at hx; exact hx, fun i him => ?_⟩
  obtain ⟨cs', hc, ht'⟩ := hi i him
  rw [hC] at hc
  obtain ⟨ys, n', hn', hy, hlen, hyl, hf⟩ := DataW.trod_struct he ht'
  obtain ⟨_, hcl, hat⟩ := World.cells?_some hc
  simp only [Prod.mk.injEq] at hy
  refine ⟨ys, n', hy.1, hy.2, hyl, fun j f hj => ?_⟩
  obtain ⟨ho, hk⟩ := hone_of hone j f hj
  have hjl : j < fs.size := (Array.getElem?_eq_some_iff.1 hj).1
  have hcell := hat j hjl
  have hv : cs'[j]? = some (cs'[j]'(by omega)) := List.getElem?_eq_getElem (by omega)
  have h1 := hf j f hj
  rw [ho, hk] at h1
  have hone' : (cs'.drop j).take 1 = [cs'[j]'(by omega)] := by
   rw [List.drop_eq_getElem_cons (by omega)]
   rfl
  rw [hone'] at h1
  have hys : ys[j]? = some (ys[j]'(by omega)) := List.getElem?_eq_getElem (by omega)
  refine ⟨_, _, ?_, hys, h1.trans hys⟩
  rw [← Go.Deep.add_add, hcell, hv]
end
def V.ok (v : V) : Prop := (-9223372036854775808 ≤ v.k ∧ v.k ≤ 9223372036854775807) ∧ (-9223372036854775808 ≤ v.i ∧ v.i ≤ 9223372036854775807) ∧ v.s.length ≤ 9223372036854775807
theorem i64_bounds {n : Int} (h : (Lit.int .i64 n).wf = true) : -9223372036854775808 ≤ n ∧ n ≤ 9223372036854775807 := by
 simpa [Lit.wf, IntKind.min, IntKind.max, IntKind.signed, IntKind.bits] using h
theorem open_val_t {H : Type} {enc : TypeId × Value → H} {W : World} {fuel : Nat} {c0 c1 c2 : Value} {x : DataW H × List MemPlace}
  (hf : DataW.trod enc Tryz.prog W 0 (fun _ => true) true fuel 27 [c0, c1, c2] = some x) :
  ∃ x : V, c0 = .int .i64 x.k ∧ c1 = .int .i64 x.i ∧ c2 = .string ⟨x.s.toArray⟩ ∧ x.ok := by
 obtain ⟨ys, n, _, _, _, hlen, hg⟩ := DataW.trod_struct Tryz.underlying27 hf
 match ys, hlen with
 | [y0, y1, y2], _ =>
  have s0 : Tryz.prog.cellsOf 3 = 1 := by kernel_rfl
  have s1 : Tryz.prog.cellsOf 2 = 1 := by kernel_rfl
  have s2 : Tryz.prog.cellsOf 9 = 1 := by kernel_rfl
  have t0 : DataW.trod enc Tryz.prog W 0 (fun _ => true) true n 3 (([c0, c1, c2].drop 0).take (Tryz.prog.cellsOf 3)) = some y0 := hg 0 _ rfl
  have t1 : DataW.trod enc Tryz.prog W 0 (fun _ => true) true n 2 (([c0, c1, c2].drop 1).take (Tryz.prog.cellsOf 2)) = some y1 := hg 1 _ rfl
  have t2 : DataW.trod enc Tryz.prog W 0 (fun _ => true) true n 9 (([c0, c1, c2].drop 2).take (Tryz.prog.cellsOf 9)) = some y2 := hg 2 _ rfl
  rw [s0] at t0
  rw [s1] at t1
  rw [s2] at t2
  obtain ⟨k, e0, _, w0⟩ := DataW.trod_int Tryz.underlying3 t0
  obtain ⟨j, e1, _, w1⟩ := DataW.trod_int Tryz.underlying2 t1
  obtain ⟨s, e2, _, w2⟩ := DataW.trod_string Tryz.underlying9 t2
  simp at e0 e1 e2
  subst e0 e1 e2
  refine ⟨⟨k, j, s.data.toList⟩, rfl, rfl, rfl, i64_bounds w0, i64_bounds w1, ?_⟩
  have hsz : s.data.toList.length = s.size := by rw [Array.length_toList]; rfl
  show s.data.toList.length ≤ 9223372036854775807
  unfold maxLen at w2
  omega
theorem six_of {α : Type} {cs : List α} (h : cs.length = 6) : ∃ a b c d e f, cs = [a, b, c, d, e, f] := by
 match cs, h with
 | [a, b, c, d, e, f], _ => exact ⟨a, b, c, d, e, f, rfl⟩
theorem cellsE : Tryz.prog.cellsOf 30 = 6 := by kernel_rfl
theorem cells1s : Tryz.prog.cellsOf 9 = 1 := by kernel_rfl
theorem cells1l : Tryz.prog.cellsOf 28 = 1 := by kernel_rfl
theorem cells3v : Tryz.prog.cellsOf 27 = 3 := by kernel_rfl
theorem str_len {s : ByteArray} (h : s.size ≤ maxLen) : s.data.toList.length ≤ maxLen := by
 have hsz : s.data.toList.length = s.size := by rw [Array.length_toList]; rfl
 omega
theorem open_ex_both {H : Type} {enc : TypeId × Value → H} {W : World} : ∀ fuel : Nat,
  (∀ (cs : List Value) (x : DataW H × List MemPlace), DataW.trod enc Tryz.prog W 0 (fun _ => true) true fuel 30 cs = some x →
   ∃ (e : Ex) (A : Option Addr) (c : Nat), cs = e.cells A c ∧ e.fit maxLen ∧ e.l.length ≤ c ∧ c ≤ maxLen ∧ ExS maxLen fuel W W.heap.size A e.l) ∧
  (∀ (cs : List Value) (x : DataW H × List MemPlace), DataW.trod enc Tryz.prog W 0 (fun _ => true) true fuel 28 cs = some x →
   ∃ (A : Option Addr) (l : List Ex) (c : Nat), cs = [.slice A l.length c] ∧ l.length ≤ c ∧ c ≤ maxLen ∧ ExS maxLen fuel W W.heap.size A l)
 | 0 => ⟨fun cs x h => by simp [DataW.trod] at h, fun cs x h => by simp [DataW.trod] at h⟩
 | n + 1 => by
  obtain ⟨ih1, ih2⟩ := open_ex_both (enc := enc) (W := W) n
  refine ⟨fun cs x h => ?_, fun cs x h => ?_⟩
  ·obtain ⟨ys, n', hn, _, hcl, hlen, hg⟩ := DataW.trod_struct Tryz.underlying30 h
   obtain rfl : n = n' := by omega
   rw [cellsE] at hcl
   obtain ⟨c0, c1, c2, c3, c4, c5, rfl⟩ := six_of hcl
   match ys, hlen with
   | [y0, y1, y2, y3], _ =>
    have t0 : DataW.trod enc Tryz.prog W 0 (fun _ => true) true n 9 (([c0, c1, c2, c3, c4, c5].drop 0).take (Tryz.prog.cellsOf 9)) = some y0 := hg 0 _ rfl
    have t1 : DataW.trod enc Tryz.prog W 0 (fun _ => true) true n 27 (([c0, c1, c2, c3, c4, c5].drop 1).take (Tryz.prog.cellsOf 27)) = some y1 := hg 1 _ rfl
    have t2 : DataW.trod enc Tryz.prog W 0 (fun _ => true) true n 9 (([c0, c1, c2, c3, c4, c5].drop 4).take (Tryz.prog.cellsOf 9)) = some y2 := hg 2 _ rfl
    have t3 : DataW.trod enc Tryz.prog W 0 (fun _ => true) true n 28 (([c0, c1, c2, c3, c4, c5].drop 5).take (Tryz.prog.cellsOf 28)) = some y3 := hg 3 _ rfl
    rw [cells1s] at t0 t2
    rw [cells3v] at t1
    rw [cells1l] at t3
    obtain ⟨o, e0, _, w0⟩ := DataW.trod_string Tryz.underlying9 t0
    obtain ⟨v, e1, e2, e3, hok⟩ := open_val_t t1
    obtain ⟨s, e4, _, w4⟩ := DataW.trod_string Tryz.underlying9 t2
    obtain ⟨A, l, c, e5, h1, h2, h3⟩ := ih2 _ _ t3
    simp at e0 e4 e5
    subst e0 e1 e2 e3 e4 e5
    exact ⟨.mk o.data.toList v s.data.toList l, A, c, rfl, ⟨hok.2.1, str_len w0, str_len w4, hok.2.2⟩, h1, h2, h3.up n⟩
  ·rcases DataW.trod_slice Tryz.underlying28 h with ⟨rfl, _⟩ | ⟨a, len, cap, elems, rest, n', hn, rfl, _, _, hl, hm, hlen, hel, _, _⟩
   ·exact ⟨none, [], 0, rfl, Nat.le_refl _, Nat.zero_le _, ExS.nil _⟩
   ·obtain rfl : n = n' := by omega
    rw [cellsE] at hel
    have key : ∀ i, i < len → ∃ (e : Ex) (A : Option Addr) (c : Nat), e.fit maxLen ∧ e.l.length ≤ c ∧ c ≤ maxLen ∧ ExS maxLen n W W.heap.size A e.l ∧ ∀ j, j < 6 → W.cell? ((a.add (i * 6)).add j) = (e.cells A c)[j]? := by
     intro i hi
     have hb := hel i hi
     rw [List.getElem?_eq_getElem (by omega)] at hb
     obtain ⟨cs', hc, ht⟩ := Option.bind_eq_some_iff.1 hb
     obtain ⟨_, _, hat⟩ := World.cells?_some hc
     obtain ⟨e, A, c, rfl, hf, h1, h2, h3⟩ := ih1 _ _ ht
     exact ⟨e, A, c, hf, h1, h2, h3, hat⟩
    have key2 : ∃ f : Nat → Ex, ∀ i, i < len → ∃ (A : Option Addr) (c : Nat), (f i).fit maxLen ∧ (f i).l.length ≤ c ∧ c ≤ maxLen ∧ ExS maxLen n W W.heap.size A (f i).l ∧ ∀ j, j < 6 → W.cell? ((a.add (i * 6)).add j) = ((f i).cells A c)[j]? := by
     refine ⟨fun i => if h : i < len then (key i h).choose else .mk [] V.zero [] [], fun i h => ?_⟩
     simp only [h, dite_true]
     exact (key i h).choose_spec
    obtain ⟨f, hfk⟩ := key2
    refine ⟨some a, (List.range len).map f, cap, by simp, by simpa using hl, hm, ?_⟩
    intro hpos
    obtain ⟨A0, c0, _, _, _, _, h0⟩ := hfk 0 (by simpa using hpos)
    have h00 := h0 0 (by omega)
    have hspot : a.spot = none := by simpa [Addr.add] using World.cell?_spot (h00.trans (show _ = some _ from rfl))
    obtain ⟨b, off, spot⟩ := a
    simp only at hspot
    subst hspot
    have hb : b < W.heap.size := by
     have := World.block_lt_of_cell? W _ (h00.trans (show _ = some _ from rfl))
     simpa [add_mid] using this
    refine ⟨b, off, rfl, hb, fun i x hx => ?_⟩
    rw [List.getElem?_map] at hx
    by_cases hil : i < len
    ·rw [List.getElem?_range hil] at hx
     simp at hx
     subst hx
     obtain ⟨A, c, hf, h1, h2, h3, hk⟩ := hfk i hil
     have hk' : ∀ j, j < 6 → W.cell? ⟨b, off + i * 6 + j, none⟩ = ((f i).cells A c)[j]? := fun j hj => by
      have := hk j hj
      rw [add_mid, add_mid] at this
      exact this
     exact ⟨A, c, hf, h1, h2, ⟨hk' 0 (by omega), hk' 1 (by omega), hk' 2 (by omega), hk' 3 (by omega), hk' 4 (by omega), hk' 5 (by omega)⟩, h3⟩
    ·rw [List.getElem?_eq_none (by simpa using hil)] at hx
     simp at hx
theorem open_cols_t {H : Type} {enc : TypeId × Value → H} {W : World} {fuel : Nat} {cs : List Value} {x : DataW H × List MemPlace}
  (hf : DataW.trod enc Tryz.prog W 0 (fun _ => true) true fuel 24 cs = some x) :
  ∃ (A : Option Addr) (l : List Col) (c : Nat), cs = [.slice A l.length c] ∧ l.length ≤ c ∧ c ≤ maxLen ∧ ColS W W.heap.size A l ∧ ∀ x ∈ l, x.n.length ≤ maxLen := by
 rcases open_slice_fields Tryz.underlying24 Tryz.underlying96 (by kernel_rfl) (by kernel_rfl) hf with ⟨hcs, _⟩ | ⟨a, len0, cap0, m, D, Pl, hcs, _, hl, hm, hmm, _, hi⟩
 ·exact ⟨none, [], 0, hcs, Nat.le_refl _, Nat.zero_le _, ColS.nil, fun x hx => by simp at hx⟩
 ·simp only [if_true] at hmm
  have key : ∀ i, i < len0 → ∃ x : Col, x.n.length ≤ maxLen ∧ W.cell? (a.add (i * 3 + 0)) = some (.string ⟨x.n.toArray⟩) ∧ W.cell? (a.add (i * 3 + 1)) = some (.int .i64 x.t) ∧ W.cell? (a.add (i * 3 + 2)) = some (.bool x.b) := by
   intro i hilt
   obtain ⟨ys, n, _, _, _, hfield⟩ := hi i (by omega)
   obtain ⟨c0, y0, hc0, _, t0⟩ := hfield 0 _ rfl
   obtain ⟨c1, y1, hc1, _, t1⟩ := hfield 1 _ rfl
   obtain ⟨c2, y2, hc2, _, t2⟩ := hfield 2 _ rfl
   obtain ⟨s, e0, _, w0⟩ := DataW.trod_string Tryz.underlying9 t0
   obtain ⟨k, e1, _, w1⟩ := DataW.trod_int Tryz.underlying3 t1
   obtain ⟨b, e2, _⟩ := DataW.trod_bool Tryz.underlying4 t2
   simp at e0 e1 e2
   subst e0 e1 e2
   exact ⟨⟨s.data.toList, k, b⟩, str_len w0, hc0, hc1, hc2⟩
  have key2 : ∃ f : Nat → Col, ∀ i, i < len0 → (f i).n.length ≤ maxLen ∧ W.cell? (a.add (i * 3 + 0)) = some (.string ⟨(f i).n.toArray⟩) ∧ W.cell? (a.add (i * 3 + 1)) = some (.int .i64 (f i).t) ∧ W.cell? (a.add (i * 3 + 2)) = some (.bool (f i).b) := by
   refine ⟨fun i => if h : i < len0 then (key i h).choose else ⟨[], 0, false⟩, fun i h => ?_⟩
   simp only [h, dite_true]
   exact (key i h).choose_spec
  obtain ⟨f, hfk⟩ := key2
  refine ⟨some a, (List.range len0).map f, cap0, by simpa using hcs, by simpa using hl, hm, ?_, ?_⟩
  ·intro hpos
   have h0 := (hfk 0 (by simpa using hpos)).2.1
   have hspot : a.spot = none := by simpa [Addr.add] using World.cell?_spot h0
   obtain ⟨b, off, spot⟩ := a
   simp only at hspot
   subst hspot
   have hb : b < W.heap.size := by
    have := World.block_lt_of_cell? W _ h0
    simpa [add_mid] using this
   refine ⟨b, off, rfl, hb, fun i x hx => ?_⟩
   rw [List.getElem?_map] at hx
   by_cases hil : i < len0
   ·rw [List.getElem?_range hil] at hx
    simp at hx
    subst hx
    have hk := (hfk i hil).2
    rw [add_mid, add_mid, add_mid] at hk
    exact hk
   ·rw [List.getElem?_eq_none (by simpa using hil)] at hx
    simp at hx
  ·intro x hx
   simp only [List.mem_map, List.mem_range] at hx
   obtain ⟨i, hi', rfl⟩ := hx
   exact (hfk i hi').1
end Go.Proofs.YtchilcchogcibaaGreatDoor
