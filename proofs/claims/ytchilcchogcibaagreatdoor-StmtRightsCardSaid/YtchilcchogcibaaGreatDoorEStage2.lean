/- value.May answers mayB, whatever value it is handed; so does the document's own May; The document's May, good and Order, and the laws' Few, as plain functions; Values held against each other; value.known, and words on fields and worlds; cmp.Compare and cmp.Or as plain functions; value.Order, And, Or, Not, Equal, Less, Plus, Minus, IsNull as plain functions; value's inner functions (says, truth, whether) as plain functions; value.And, Or, Not, alike, Equal, Less, IsNull as plain functions; value.Plus and Minus as plain functions; A drawn region some of whose operations change memory and may come up in many orders; Words for a drawn region of calls and new variables. -/
import Derived.Test.YtchilcchogcibaaGreatDoorRows
import Derived.Deep.RegionHeld3
import Derived.Deep.DrawnRows
import Derived.Deep.DeepCutAuto
import Derived.Test.YtchilcchogcibaaGreatDoorEBase
set_option maxHeartbeats 400000
namespace Go.Proofs.YtchilcchogcibaaGreatDoor
open Go.RowKit
def oddB (r : Int) : Bool := decide (r < 32) || decide (126 < r)
def oddByte (b : UInt8) : Bool := oddB (b.toNat : Int)
def oddFrom : List UInt8 → Nat → Int
 | [], _ => -1
 | b :: r, n => if oddByte b then (n : Int) else oddFrom r (n + 1)
theorem oddFrom_neg (l : List UInt8) : ∀ n, decide (oddFrom l n < 0) = !(l.any oddByte) := by
 induction l with
 | nil => intro n; simp [oddFrom]
 | cons b r ih =>
  intro n
  by_cases h : oddByte b = true
  ·simp [oddFrom, h]
  ·simp [oddFrom, h, ih]
theorem decode_good (s : ByteArray) (pos : Nat) (h : pos < s.size) (hb : oddByte s[pos] = false) : Utf8.decode s pos = (s[pos].toNat, 1) := by
 have e : s.get! pos = s[pos] := by
  show s.data[pos]! = s.data[pos]
  exact getElem!_pos s.data pos h
 simp only [oddByte, oddB, Bool.or_eq_false_iff, decide_eq_false_iff_not] at hb
 rw [Lib.decode_at, e]
 unfold Lib.decodeN
 rw [if_pos (by omega)]
theorem decode_odd (s : ByteArray) (pos : Nat) (h : pos < s.size) (hb : oddByte s[pos] = true) : oddB ((Utf8.decode s pos).1 : Int) = true := by
 have e : s.get! pos = s[pos] := by
  show s.data[pos]! = s.data[pos]
  exact getElem!_pos s.data pos h
 simp only [oddByte, oddB, Bool.or_eq_true, decide_eq_true_eq] at hb
 rw [Lib.decode_at, e]
 unfold Lib.decodeN
 have := UInt8.toNat_lt s[pos]
 simp only [oddB, Bool.or_eq_true, decide_eq_true_eq]
 repeat' split
 all_goals (simp only; try omega)
 all_goals (try simp_all; try omega)
theorem may1_any (r : Int) (w : World) :
  Calls Tryz.prog 136 #[.int .i32 r] w fun e w' => e = .returned (.bool (oddB r)) ∧ w = w' := by
 by_cases h1 : r < 32
 ·go_in
  go_wp2
  go_ret
  exact ⟨by simp [oddB, h1], rfl⟩
 ·by_cases h2 : 126 < r
  ·go_in
   go_wp2
   go_ret
   exact ⟨by simp [oddB, h2], rfl⟩
  ·go_in
   go_wp2
   go_ret
   exact ⟨by simp [oddB, h1, h2], rfl⟩
theorem indexFunc_any (s : ByteArray) (w : World) :
  Calls Tryz.prog 191 #[.string s, .func (.func 136) #[] #[], .bool true] w fun e w' => e = .returned (.int .i64 (oddFrom s.data.toList 0)) ∧ Below w.heap.size w w' := by
 go_in
 go_wp2
 go_loopg [] s.size (fun gf wx => ∃ pos : Nat, wx.heap[w.heap.size]? = some (.stringIter s pos) ∧ Below w.heap.size w wx ∧ Hid (oddFrom (s.data.toList.drop pos) pos = oddFrom s.data.toList 0) ∧ gf + pos = s.size)
 case atStart => exact ⟨0, World.iter_heap w s 0, (Below.refl _ w).alloc (Nat.le_refl _) _, rfl, by omega⟩
 case round =>
  obtain ⟨pos, hit, hbw, hleft, hfu⟩ := hrel
  by_cases hps : pos < s.size
  ·obtain ⟨g', rfl⟩ : ∃ g', gk = g' + 1 := ⟨gk - 1, by omega⟩
   have hnx : ∀ ty, (Instr.next (.pointer (some ⟨w.heap.size, 0, none⟩)) true ty).run Tryz.prog wr = _ := fun ty => Lib.run_next_any_at wr w.heap.size s pos ty hit hps
   by_cases hb : oddByte s[pos] = true
   ·have hd := decode_odd s pos hps hb
    obtain ⟨R, hR⟩ : ∃ R, (Utf8.decode s pos).1 = R := ⟨_, rfl⟩
    obtain ⟨K, hK⟩ : ∃ K, (Utf8.decode s pos).2 = K := ⟨_, rfl⟩
    rw [hR, hK] at hnx
    rw [hR] at hd
    have hbw2 := Lib.below_iterAt hbw (k := w.heap.size) (Nat.le_refl _) s (pos + K)
    have hl : oddFrom s.data.toList 0 = pos := by
     rw [← hleft.out, drop_cons s pos hps]; simp [oddFrom, hb]
    have HL := Lib.hid hl
    clear hl hleft hb hfu
    go_wp2_with (go_at_call 136; refine (may1_any _ _).mono ?_; rintro e w' ⟨rfl, rfl⟩)
    go_ret
    exact ⟨by rw [HL.out]; rfl, hbw2⟩
   ·have hb' : oddByte s[pos] = false := by simpa using hb
    have hd := decode_good s pos hps hb'
    rw [hd] at hnx
    have hbw2 := Lib.below_iterAt hbw (k := w.heap.size) (Nat.le_refl _) s (pos + 1)
    have hit2 := Lib.iterAt_heap wr w.heap.size s pos (pos + 1) hit
    have hl : oddFrom (s.data.toList.drop (pos + 1)) (pos + 1) = oddFrom s.data.toList 0 := by
     rw [← hleft.out, drop_cons s pos hps]; simp [oddFrom, hb']
    have HL := Lib.hid hl
    have HF := Lib.hid hfu
    have ho : oddB (s[pos].toNat : Int) = false := hb'
    clear hl hleft hb hfu hb' hd
    go_wp2_with (go_at_call 136; refine (may1_any _ _).mono ?_; rintro e w' ⟨rfl, rfl⟩)
    go_roundg g'
    case measure => omega
    case rel => exact ⟨pos + 1, hit2, hbw2, HL, by have := HF.out; omega⟩
  ·have hnx : ∀ ty, (Instr.next (.pointer (some ⟨w.heap.size, 0, none⟩)) true ty).run Tryz.prog wr = _ := fun ty => Lib.run_next_end_at wr w.heap.size s pos ty hit hps
   have hl : oddFrom s.data.toList 0 = -1 := by
     rw [← hleft.out, List.drop_of_length_le (by simp; omega)]; simp [oddFrom]
   have HL := Lib.hid hl
   clear hl hleft hfu
   go_wp2
   go_ret
   exact ⟨by rw [HL.out]; rfl, hbw⟩
theorem IndexFunc_any (s : List UInt8) (w : World) :
  Calls Tryz.prog 137 #[.string ⟨s.toArray⟩, .func (.func 136) #[] #[]] w fun e w' => e = .returned (.int .i64 (oddFrom s 0)) ∧ Below w.heap.size w w' := by
 go_in
 go_wp2_with (go_at_call 191; refine (indexFunc_any _ _).mono ?_; rintro e w' ⟨rfl, hb⟩)
 go_ret
 exact ⟨rfl, hb⟩
def mayB (k i : Int) (s : List UInt8) : Bool :=
 if k = 0 then decide (i = 0) && s.isEmpty
 else if k = 1 then s.isEmpty
 else if k = 2 then decide (i = 0) && decide (s.length ≤ 40) && !(s.any oddByte)
 else if k = 3 then (decide (i = 0) || decide (i = 1)) && s.isEmpty
 else false
theorem may_any (k i : Int) (s : List UInt8) (w : World) :
  Calls Tryz.prog 77 #[.agg #[.int .i64 k, .int .i64 i, .string ⟨s.toArray⟩]] w fun e w' => e = .returned (.bool (mayB k i s)) ∧ Below w.heap.size w w' := by
 go_in
 go_wp2_with (go_at_call 137; refine (IndexFunc_any _ _).mono ?_; rintro e w' ⟨rfl, hb⟩)
 all_goals go_ret
 all_goals refine ⟨?_, ?_⟩
 all_goals first
  | exact (Below.refl _ _).alloc (Nat.le_refl _) _
  | exact ((Below.refl _ _).alloc (Nat.le_refl _) _).trans (hb.mono (by simp))
  | skip
 all_goals go_light
 all_goals (simp_all [mayB, oddFrom_neg])
 all_goals omega
end Go.Proofs.YtchilcchogcibaaGreatDoor
namespace Go.Proofs.YtchilcchogcibaaGreatDoor
open Go.RowKit
attribute [local go_sem] ByteArray.extract_mk ba_get
theorem few1_any (k i : Int) (s : List UInt8) (w : World) :
  Calls Tryz.prog 59 #[.agg #[.int .i64 k, .int .i64 i, .string ⟨s.toArray⟩]] w fun e w' => e = .returned (.agg #[.int .i64 k, .int .i64 i, .string ⟨(s.take 60).toArray⟩]) ∧ Below w.heap.size w w' := by
 by_cases h : s.length ≤ 60
 ·go_in
  go_wp2
  refine bodyPost_ret (v := .agg #[.int .i64 k, .int .i64 i, .string ⟨s.toArray⟩]) (by simp [results, Tryz.results59, go_sem]) rfl ⟨?_, ?_⟩
  ·rw [List.take_of_length_le h]
  ·exact ((Below.refl _ _).alloc (Nat.le_refl _) _).alloc (by simp) _
 ·go_in
  go_wp2
  refine bodyPost_ret (v := .agg #[.int .i64 k, .int .i64 i, .string ⟨(s.take 60).toArray⟩]) (by simp [results, Tryz.results59, go_sem]) rfl ⟨?_, ?_⟩
  ·rfl
  ·exact ((Below.refl _ _).alloc (Nat.le_refl _) _).alloc (by simp) _
def restB (k i : Int) (s : List UInt8) : Bool :=
 if k = 0 then decide (i = 0) && s.isEmpty
 else if k = 1 then s.isEmpty
 else if k = 2 then decide (i = 0) && decide (s.length ≤ 40)
 else if k = 3 then (decide (i = 0) || decide (i = 1)) && s.isEmpty
 else false
theorem mayB_rest (k i : Int) (s : List UInt8) : mayB k i s = (!(s.any oddByte) && restB k i s) := by
 unfold mayB restB
 repeat' split
 all_goals (cases s <;> simp)
 all_goals (rw [Bool.eq_iff_iff]; simp; try grind)
def goodV (k i : Int) (s : List UInt8) : V := if mayB k i s then ⟨k, i, s⟩ else ⟨0, 0, []⟩
end Go.Proofs.YtchilcchogcibaaGreatDoor
namespace Go.Proofs.YtchilcchogcibaaGreatDoor
open Go.RowKit
attribute [local go_sem] ByteArray.extract_mk ba_get
attribute [local go_sem ↓] Go.wp_at_zero Go.wp_at_succ
def Two (n : Nat) (a b : V) (w : World) : Prop :=
 (w.cell? ⟨n, 0, none⟩ = some (.int .i64 a.k) ∧ w.cell? ⟨n, 1, none⟩ = some (.int .i64 a.i) ∧ w.cell? ⟨n, 2, none⟩ = some (.string ⟨a.s.toArray⟩)) ∧
 (w.cell? ⟨n + 1, 0, none⟩ = some (.int .i64 b.k) ∧ w.cell? ⟨n + 1, 1, none⟩ = some (.int .i64 b.i) ∧ w.cell? ⟨n + 1, 2, none⟩ = some (.string ⟨b.s.toArray⟩))
def veq (a b : V) : Bool := decide (a.k = b.k) && (decide (a.i = b.i) && a.s == b.s)
theorem run_eql_V (k i : Int) (s : List UInt8) (k' i' : Int) (s' : List UInt8) (w : World) :
  (binOp .eql 27 (.agg #[.int .i64 k, .int .i64 i, .string ⟨s.toArray⟩]) (.agg #[.int .i64 k', .int .i64 i', .string ⟨s'.toArray⟩])).run Tryz.prog w = .ok (.bool (veq ⟨k, i, s⟩ ⟨k', i', s'⟩)) w := by
 by_cases h1 : k = k' <;> by_cases h2 : i = i' <;> by_cases h3 : s = s' <;> simp [go_sem, veq, h1, h2, h3, Tryz.underlying27, Tryz.underlying3, Tryz.underlying2, Tryz.underlying9]
theorem run_neq_V (k i : Int) (s : List UInt8) (k' i' : Int) (s' : List UInt8) (w : World) :
  (binOp .neq 27 (.agg #[.int .i64 k, .int .i64 i, .string ⟨s.toArray⟩]) (.agg #[.int .i64 k', .int .i64 i', .string ⟨s'.toArray⟩])).run Tryz.prog w = .ok (.bool (!veq ⟨k, i, s⟩ ⟨k', i', s'⟩)) w := by
 by_cases h1 : k = k' <;> by_cases h2 : i = i' <;> by_cases h3 : s = s' <;> simp [go_sem, veq, h1, h2, h3, Tryz.underlying27, Tryz.underlying3, Tryz.underlying2, Tryz.underlying9]
theorem wp_forget {P : Program} {c : Code} {Q : Exit → Act → World → Prop} {a : Act} {w : World} (R : World → Prop) (h : R w) (k : ∀ w', R w' → Code.wp P c Q a w') : Code.wp P c Q a w := k w h
theorem Blk_lt_of_cell {w : World} {b o : Nat} {v : Value} (h : w.cell? ⟨b, o, none⟩ = some v) : b < w.heap.size := by
 rcases Nat.lt_or_ge b w.heap.size with hlt | hge
 ·exact hlt
 ·simp [World.cell?, Array.getElem?_eq_none hge] at h
theorem run_field0 (k i : Int) (s : ByteArray) (w : World) : (Instr.field 27 (.agg #[.int .i64 k, .int .i64 i, .string s]) 0).run Tryz.prog w = .ok (.int .i64 k) w := by kernel_rfl
theorem run_field1 (k i : Int) (s : ByteArray) (w : World) : (Instr.field 27 (.agg #[.int .i64 k, .int .i64 i, .string s]) 1).run Tryz.prog w = .ok (.int .i64 i) w := by kernel_rfl
theorem run_field2 (k i : Int) (s : ByteArray) (w : World) : (Instr.field 27 (.agg #[.int .i64 k, .int .i64 i, .string s]) 2).run Tryz.prog w = .ok (.string s) w := by kernel_rfl
def V.agg (v : V) : Value := .agg #[.int .i64 v.k, .int .i64 v.i, .string ⟨v.s.toArray⟩]
def V.may (v : V) : Bool := mayB v.k v.i v.s
def V.good (v : V) : V := goodV v.k v.i v.s
def cmpI (a b : Int) : Int := if a < b then -1 else if b < a then 1 else 0
def cmpS (a b : List UInt8) : Int := if a = b then 0 else if Op.bytesLess a b then -1 else 1
def or3 (x y z : Int) : Int := if x = 0 then (if y = 0 then z else y) else x
def cord (a b : V) : Int := or3 (cmpI a.k b.k) (cmpI a.i b.i) (cmpS a.s b.s)
def saysF (k i : Int) (s : List UInt8) : Int := if k = 3 then (if mayB k i s then 1 + i else 0) else 0
theorem may3 {i : Int} {s : List UInt8} (h : mayB 3 i s = true) : (i = 0 ∨ i = 1) ∧ s = [] := by
 simp [mayB] at h; exact h
theorem says_any (k i : Int) (s : List UInt8) (w : World) :
  Calls Tryz.prog 154 #[.agg #[.int .i64 k, .int .i64 i, .string ⟨s.toArray⟩]] w (Ret (.int .i64 (saysF k i s)) w) := by
 by_cases hk : k = 3
 ·subst hk
  cases hm : mayB 3 i s
  ·have e : saysF 3 i s = 0 := by simp [saysF, hm]
   rw [e]
   clear e
   have HM := Lib.hid hm
   clear hm
   go_in
   go_wp2_with fail
   refine (may_any _ _ _ _).mono ?_
   rintro e w1 ⟨rfl, hb⟩
   rw [HM.out]
   go_wp2
   go_ret
   exact ⟨rfl, by exact bl⟩
  ·have e : saysF 3 i s = 1 + i := by simp [saysF, hm]
   rw [e]
   clear e
   have hi1 : 0 ≤ i := by rcases (may3 hm).1 with h | h <;> omega
   have hi2 : i ≤ 1 := by rcases (may3 hm).1 with h | h <;> omega
   have HM := Lib.hid hm
   clear hm
   go_in
   go_wp2_with fail
   refine (may_any _ _ _ _).mono ?_
   rintro e w1 ⟨rfl, hb⟩
   rw [HM.out]
   obtain ⟨hc, hf⟩ := bcell hb
   have hz := hb.size
   simp at hz hc hf
   go_wp2
   go_ret
   exact ⟨rfl, by exact bl⟩
 ·have e : saysF k i s = 0 := by simp [saysF, hk]
  rw [e]
  clear e
  have hk' : (k != 3) = true := by simp [hk]
  clear hk
  go_in
  go_wp2
  go_ret
  exact ⟨rfl, by exact bl⟩
def truthV (n : Int) : V := if n = 0 then V.zero else ⟨3, n - 1, []⟩
theorem truth1_any (w : World) : Calls Tryz.prog 268 #[.int .i64 1] w (Ret (.agg #[.int .i64 3, .int .i64 0, .string ⟨#[]⟩]) w) := by
 go_in
 go_wp2
 refine bodyPost_ret (v := .agg #[.int .i64 3, .int .i64 0, .string ⟨#[]⟩]) (by simp [results, Tryz.results268, go_sem]) rfl ⟨rfl, ?_⟩
 exact bl
theorem truth2_any (w : World) : Calls Tryz.prog 268 #[.int .i64 2] w (Ret (.agg #[.int .i64 3, .int .i64 1, .string ⟨#[]⟩]) w) := by
 go_in
 go_wp2
 refine bodyPost_ret (v := .agg #[.int .i64 3, .int .i64 1, .string ⟨#[]⟩]) (by simp [results, Tryz.results268, go_sem]) rfl ⟨rfl, ?_⟩
 exact bl
def bV (b : Bool) : V := ⟨3, if b then 1 else 0, []⟩
end Go.Proofs.YtchilcchogcibaaGreatDoor
namespace Go.Proofs.YtchilcchogcibaaGreatDoor
open Go.RowKit
attribute [local go_sem] ByteArray.extract_mk ba_get
attribute [local go_sem ↓] Go.wp_at_zero Go.wp_at_succ run_eql_V run_neq_V run_field0 run_field1 run_field2
def andN (x y : Int) : Int := if x = 1 ∨ y = 1 then 1 else if x = 2 ∧ y = 2 then 2 else 0
def orN (x y : Int) : Int := if x = 2 ∨ y = 2 then 2 else if x = 1 ∧ y = 1 then 1 else 0
def notN (x : Int) : Int := if x = 2 then 1 else if x = 1 then 2 else 0
def alikeB (a b : V) : Bool := !decide ((goodV a.k a.i a.s).k = 0) && decide ((goodV a.k a.i a.s).k = (goodV b.k b.i b.s).k)
def equalV (a b : V) : V := if alikeB a b then bV (veq a b) else V.zero
def lessV (a b : V) : V := if alikeB a b then bV (decide (cord (goodV a.k a.i a.s) (goodV b.k b.i b.s) < 0)) else V.zero
def fits (n : Int) : Bool := decide (-9223372036854775808 ≤ n) && decide (n ≤ 9223372036854775807)
def plusV (a b : V) : V := if alikeB a b && decide (a.k = 1) && fits (a.i + b.i) then ⟨1, a.i + b.i, []⟩ else V.zero
def minusV (a b : V) : V := if alikeB a b && decide (a.k = 1) && fits (a.i - b.i) then ⟨1, a.i - b.i, []⟩ else V.zero
end Go.Proofs.YtchilcchogcibaaGreatDoor
namespace Go.Proofs.YtchilcchogcibaaGreatDoor
open Go
section
variable {P : Program} {ops : Array Oper} {Q : Exit → Act → World → Prop} {md : Region.Mode} {S : World → Prop}
theorem getD_put_same {L : Array Bool} {i : Nat} (d : Bool) (h : i < L.size) : (L.setIfInBounds i true).getD i d = true := by
 simp [Array.getD, h]
theorem getD_put_other {L : Array Bool} {i j : Nat} (d : Bool) (h : i ≠ j) : (L.setIfInBounds i true).getD j d = L.getD j d := by
 simp only [Array.getD, Array.size_setIfInBounds]
 split
 ·exact Array.getElem_setIfInBounds_ne _ h
 ·rfl
end
end Go.Proofs.YtchilcchogcibaaGreatDoor
namespace Go.Proofs.YtchilcchogcibaaGreatDoor
open Go.RowKit
def Up (L : Array Bool) (i : Nat) : Prop := L.getD i true = true
instance (L : Array Bool) (i : Nat) : Decidable (Up L i) := inferInstanceAs (Decidable (_ = _))
def Slot (L : Array Bool) (i : Nat) (u v : Value) : Prop := Up L i → u = v
def Newv (L : Array Bool) (i : Nat) (B : Nat) (w : World) (u : Value) : Prop := Up L i → ∃ g, u = .pointer (some ⟨g, 0, none⟩) ∧ B ≤ g ∧ Blk w g 27 #[.int .i64 0, .int .i64 0, .string ⟨#[]⟩]
def Diff (L : Array Bool) (i j : Nat) (u v : Value) : Prop := Up L i → Up L j → u ≠ v
theorem Up.put {L : Array Bool} {i j : Nat} (h : Up (L.setIfInBounds i true) j) (hne : i ≠ j) : Up L j := by unfold Up at *; rwa [getD_put_other true hne] at h
theorem Up.more {L : Array Bool} {i j : Nat} (h : Up L j) : Up (L.setIfInBounds i true) j := by
 unfold Up at *
 by_cases e : i = j
 ·subst e
  by_cases hlt : i < L.size
  ·exact getD_put_same true hlt
  ·simp [Array.getD, hlt]
 ·rw [getD_put_other true e]; exact h
theorem Slot.put {L : Array Bool} {i j : Nat} {u v : Value} (h : Slot L j u v) (hne : i ≠ j) : Slot (L.setIfInBounds i true) j u v := fun hu => h (hu.put hne)
theorem Slot.new {L : Array Bool} {i : Nat} {v : Value} : Slot L i v v := fun _ => rfl
theorem Newv.put {L : Array Bool} {i j B : Nat} {w w' : World} {u : Value} (h : Newv L j B w u) (hne : i ≠ j) (hb : Below w.heap.size w w') : Newv (L.setIfInBounds i true) j B w' u := fun hu => by
 obtain ⟨g, e, h1, h2⟩ := h (hu.put hne)
 exact ⟨g, e, h1, h2.below hb h2.lt⟩
theorem Newv.new {L : Array Bool} {i B : Nat} {w : World} (hB : B ≤ w.heap.size) : Newv L i B (w.alloc (.cells #[.int .i64 0, .int .i64 0, .string ⟨#[]⟩] 27)) (.pointer (some ⟨w.heap.size, 0, none⟩)) :=
 fun _ => ⟨_, rfl, hB, Blk.new w _ _⟩
theorem Diff.put {L : Array Bool} {i j k : Nat} {u v : Value} (h : Diff L j k u v) (h1 : i ≠ j) (h2 : i ≠ k) : Diff (L.setIfInBounds i true) j k u v := fun a b => h (a.put h1) (b.put h2)
end Go.Proofs.YtchilcchogcibaaGreatDoor
