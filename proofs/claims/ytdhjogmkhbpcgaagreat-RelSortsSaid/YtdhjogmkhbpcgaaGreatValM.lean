/- value.May answers mayB, whatever value it is handed; so does the document's own May. Condition: none. The document's May, good and Order, and the laws' Few, as plain functions. Condition: a text is no longer than memory reaches. Values held against each other: plain words, and the operator of the language. Nothing of the program stands here. cmp.Compare and cmp.Or as plain functions. Condition: none. value.known, and words on fields and worlds. Condition: none. value's inner functions (says, truth, whether) as plain functions. Condition: none. value.Order, And, Or, Not, Equal, Less, Plus, Minus, IsNull as plain functions. Condition: none. -/
import Derived.Test.YtdhjogmkhbpcgaaGreatRows
import Derived.Test.YtdhjogmkhbpcgaaGreatBase
import Derived.Deep.RegionHeld3
import Derived.Deep.DrawnRows
import Derived.Deep.DeepCutAuto
namespace Go.Proofs.YtdhjogmkhbpcgaaGreat
open Go.RowKit

def oddB (r : Int) : Bool := decide (r < 32) || decide (126 < r)
def oddByte (b : UInt8) : Bool := oddB (b.toNat : Int)
def oddFrom : List UInt8 → Nat → Int
  | [], _ => -1
  | b :: r, n => if oddByte b then (n : Int) else oddFrom r (n + 1)
theorem oddFrom_neg (l : List UInt8) : ∀ n, decide (oddFrom l n < 0) = !(l.any oddByte) := by
  induction l with
  | nil => intro n; simp [oddFrom]
  | cons b r ih =>
    intro n
    by_cases h : oddByte b = true
    · simp [oddFrom, h]
    · simp [oddFrom, h, ih]
theorem decode_good (s : ByteArray) (pos : Nat) (h : pos < s.size) (hb : oddByte s[pos] = false) : Utf8.decode s pos = (s[pos].toNat, 1) := by
  have e : s.get! pos = s[pos] := by
    show s.data[pos]! = s.data[pos]
    exact getElem!_pos s.data pos h
  simp only [oddByte, oddB, Bool.or_eq_false_iff, decide_eq_false_iff_not] at hb
  rw [Lib.decode_at, e]
  unfold Lib.decodeN
  rw [if_pos (by omega)]
theorem decode_odd (s : ByteArray) (pos : Nat) (h : pos < s.size) (hb : oddByte s[pos] = true) : oddB ((Utf8.decode s pos).1 : Int) = true := by
  have e : s.get! pos = s[pos] := by
    show s.data[pos]! = s.data[pos]
    exact getElem!_pos s.data pos h
  simp only [oddByte, oddB, Bool.or_eq_true, decide_eq_true_eq] at hb
  rw [Lib.decode_at, e]
  unfold Lib.decodeN
  have := UInt8.toNat_lt s[pos]
  simp only [oddB, Bool.or_eq_true, decide_eq_true_eq]
  repeat' split
  all_goals (simp only; try omega)
  all_goals (try simp_all; try omega)

set_option maxHeartbeats 400000 in
theorem may1_any (r : Int) (w : World) :
    Calls Tryz.prog 124 #[.int .i32 r] w fun e w' => e = .returned (.bool (oddB r)) ∧ w = w' := by
  by_cases h1 : r < 32
  · go_enter Tryz.func124, Tryz.ntmps124
    go_wp2
    go_ret
    exact ⟨by simp [oddB, h1], rfl⟩
  · by_cases h2 : 126 < r
    · go_enter Tryz.func124, Tryz.ntmps124
      go_wp2
      go_ret
      exact ⟨by simp [oddB, h2], rfl⟩
    · go_enter Tryz.func124, Tryz.ntmps124
      go_wp2
      go_ret
      exact ⟨by simp [oddB, h1, h2], rfl⟩

set_option maxHeartbeats 400000 in
theorem indexFunc_any (s : ByteArray) (w : World) :
    Calls Tryz.prog 135 #[.string s, .func (.func 124) #[] #[], .bool true] w fun e w' => e = .returned (.int .i64 (oddFrom s.data.toList 0)) ∧ Below w.heap.size w w' := by
  go_enter Tryz.func135, Tryz.ntmps135
  go_wp2
  go_loopg [] s.size (fun gf wx => ∃ pos : Nat, wx.heap[w.heap.size]? = some (.stringIter s pos) ∧ Below w.heap.size w wx ∧ Hid (oddFrom (s.data.toList.drop pos) pos = oddFrom s.data.toList 0) ∧ gf + pos = s.size)
  case atStart => exact ⟨0, World.iter_heap w s 0, (Below.refl _ w).alloc (Nat.le_refl _) _, rfl, by omega⟩
  case round =>
    obtain ⟨pos, hit, hbw, hleft, hfu⟩ := hrel
    by_cases hps : pos < s.size
    · obtain ⟨g', rfl⟩ : ∃ g', gk = g' + 1 := ⟨gk - 1, by omega⟩
      have hnx : ∀ ty, (Instr.next (.pointer (some ⟨w.heap.size, 0, none⟩)) true ty).run Tryz.prog wr = _ := fun ty => Lib.run_next_any_at wr w.heap.size s pos ty hit hps
      by_cases hb : oddByte s[pos] = true
      · have hd := decode_odd s pos hps hb
        obtain ⟨R, hR⟩ : ∃ R, (Utf8.decode s pos).1 = R := ⟨_, rfl⟩
        obtain ⟨K, hK⟩ : ∃ K, (Utf8.decode s pos).2 = K := ⟨_, rfl⟩
        rw [hR, hK] at hnx
        rw [hR] at hd
        have hbw2 := Lib.below_iterAt hbw (k := w.heap.size) (Nat.le_refl _) s (pos + K)
        have hl : oddFrom s.data.toList 0 = pos := by
          rw [← hleft.out, drop_cons s pos hps]; simp [oddFrom, hb]
        have HL := Lib.hid hl
        clear hl hleft hb hfu
        go_wp2_with (go_at_call 124; refine (may1_any _ _).mono ?_; rintro e w' ⟨rfl, rfl⟩)
        go_ret
        exact ⟨by rw [HL.out]; rfl, hbw2⟩
      · have hb' : oddByte s[pos] = false := by simpa using hb
        have hd := decode_good s pos hps hb'
        rw [hd] at hnx
        have hbw2 := Lib.below_iterAt hbw (k := w.heap.size) (Nat.le_refl _) s (pos + 1)
        have hit2 := Lib.iterAt_heap wr w.heap.size s pos (pos + 1) hit
        have hl : oddFrom (s.data.toList.drop (pos + 1)) (pos + 1) = oddFrom s.data.toList 0 := by
          rw [← hleft.out, drop_cons s pos hps]; simp [oddFrom, hb']
        have HL := Lib.hid hl
        have HF := Lib.hid hfu
        have ho : oddB (s[pos].toNat : Int) = false := hb'
        clear hl hleft hb hfu hb' hd
        go_wp2_with (go_at_call 124; refine (may1_any _ _).mono ?_; rintro e w' ⟨rfl, rfl⟩)
        go_roundg g'
        case measure => omega
        case rel => exact ⟨pos + 1, hit2, hbw2, HL, by have := HF.out; omega⟩
    · have hnx : ∀ ty, (Instr.next (.pointer (some ⟨w.heap.size, 0, none⟩)) true ty).run Tryz.prog wr = _ := fun ty => Lib.run_next_end_at wr w.heap.size s pos ty hit hps
      have hl : oddFrom s.data.toList 0 = -1 := by
          rw [← hleft.out, List.drop_of_length_le (by simp; omega)]; simp [oddFrom]
      have HL := Lib.hid hl
      clear hl hleft hfu
      go_wp2
      go_ret
      exact ⟨by rw [HL.out]; rfl, hbw⟩

theorem IndexFunc_any (s : List UInt8) (w : World) :
    Calls Tryz.prog 125 #[.string ⟨s.toArray⟩, .func (.func 124) #[] #[]] w fun e w' => e = .returned (.int .i64 (oddFrom s 0)) ∧ Below w.heap.size w w' := by
  go_enter Tryz.func125, Tryz.ntmps125
  go_wp2_with (go_at_call 135; refine (indexFunc_any _ _).mono ?_; rintro e w' ⟨rfl, hb⟩)
  go_ret
  exact ⟨rfl, hb⟩

def mayB (k i : Int) (s : List UInt8) : Bool :=
  if k = 0 then decide (i = 0) && s.isEmpty
  else if k = 1 then s.isEmpty
  else if k = 2 then decide (i = 0) && decide (s.length ≤ 40) && !(s.any oddByte)
  else if k = 3 then (decide (i = 0) || decide (i = 1)) && s.isEmpty
  else false

set_option maxHeartbeats 400000 in
theorem may_any (k i : Int) (s : List UInt8) (w : World) :
    Calls Tryz.prog 97 #[.agg #[.int .i64 k, .int .i64 i, .string ⟨s.toArray⟩]] w fun e w' => e = .returned (.bool (mayB k i s)) ∧ Below w.heap.size w w' := by
  go_enter Tryz.func97, Tryz.ntmps97
  go_wp2_with (go_at_call 125; refine (IndexFunc_any _ _).mono ?_; rintro e w' ⟨rfl, hb⟩)
  all_goals go_ret
  all_goals refine ⟨?_, ?_⟩
  all_goals first
    | exact (Below.refl _ _).alloc (Nat.le_refl _) _
    | exact ((Below.refl _ _).alloc (Nat.le_refl _) _).trans (hb.mono (by simp))
    | skip
  all_goals go_light
  all_goals (simp_all [mayB, oddFrom_neg])
  all_goals omega

end Go.Proofs.YtdhjogmkhbpcgaaGreat

namespace Go.Proofs.YtdhjogmkhbpcgaaGreat
open Go.RowKit

attribute [local go_sem] ByteArray.extract_mk ba_get

theorem take_snoc (s : List UInt8) (k : Nat) (h : k < s.length) : s.take (k + 1) = s.take k ++ [s[k]] := by
  rw [List.take_succ_eq_append_getElem h]

set_option maxHeartbeats 400000 in
theorem few1_any (k i : Int) (s : List UInt8) (w : World) :
    Calls Tryz.prog 47 #[.agg #[.int .i64 k, .int .i64 i, .string ⟨s.toArray⟩]] w fun e w' => e = .returned (.agg #[.int .i64 k, .int .i64 i, .string ⟨(s.take 60).toArray⟩]) ∧ Below w.heap.size w w' := by
  by_cases h : s.length ≤ 60
  · go_enter Tryz.func47, Tryz.ntmps47
    go_wp2
    refine bodyPost_ret (v := .agg #[.int .i64 k, .int .i64 i, .string ⟨s.toArray⟩]) (by simp [results, Tryz.results47, go_sem]) rfl ⟨?_, ?_⟩
    · rw [List.take_of_length_le h]
    · exact ((Below.refl _ _).alloc (Nat.le_refl _) _).alloc (by simp) _
  · go_enter Tryz.func47, Tryz.ntmps47
    go_wp2
    refine bodyPost_ret (v := .agg #[.int .i64 k, .int .i64 i, .string ⟨(s.take 60).toArray⟩]) (by simp [results, Tryz.results47, go_sem]) rfl ⟨?_, ?_⟩
    · rfl
    · exact ((Below.refl _ _).alloc (Nat.le_refl _) _).alloc (by simp) _

/-- The tail of the document's May, behind its loop. -/
def restB (k i : Int) (s : List UInt8) : Bool :=
  if k = 0 then decide (i = 0) && s.isEmpty
  else if k = 1 then s.isEmpty
  else if k = 2 then decide (i = 0) && decide (s.length ≤ 40)
  else if k = 3 then (decide (i = 0) || decide (i = 1)) && s.isEmpty
  else false
theorem mayB_rest (k i : Int) (s : List UInt8) : mayB k i s = (!(s.any oddByte) && restB k i s) := by
  unfold mayB restB
  repeat' split
  all_goals (cases s <;> simp)
  all_goals (rw [Bool.eq_iff_iff]; simp; try grind)

set_option maxHeartbeats 400000 in
theorem rmay_any (k i : Int) (s : List UInt8) (w : World) (hs : s.length ≤ 140737488351232) :
    Calls Tryz.prog 52 #[.agg #[.int .i64 k, .int .i64 i, .string ⟨s.toArray⟩]] w fun e w' => e = .returned (.bool (mayB k i s)) ∧ Below w.heap.size w w' := by
  have HM := Lib.hid (mayB_rest k i s)
  generalize mayB k i s = M at *
  go_enter Tryz.func52, Tryz.ntmps52
  go_wp2
  go_loop [3] (fun t => ∃ j : Nat, j ≤ s.length ∧ t = .int .i64 j ∧ Hid ((s.take j).any oddByte = false)) (fun t => s.length - (intOf t).toNat)
  case atStart => exact ⟨0, by omega, rfl, rfl⟩
  case round =>
    obtain ⟨j, hj, rfl, hodd⟩ := hrel
    by_cases hlt : j < s.length
    · by_cases hb : oddByte s[j] = true
      · have hM : M = false := by
          rw [HM.out]
          have : s.any oddByte = true := List.any_eq_true.2 ⟨s[j], List.getElem_mem _, hb⟩
          simp [this]
        have HM2 := Lib.hid hM
        simp only [oddByte, oddB, Bool.or_eq_true, decide_eq_true_eq] at hb
        clear hM HM
        rcases hb with hb | hb
        all_goals
          go_wp2
          go_ret
          exact ⟨by rw [HM2.out]; rfl, (Below.refl _ _).alloc (Nat.le_refl _) _⟩
      · have h1 : Hid ((s.take (j + 1)).any oddByte = false) := by
          show (s.take (j + 1)).any oddByte = false
          rw [take_snoc s j hlt, List.any_append, hodd.out]
          simpa using hb
        have hb' : oddByte s[j] = false := by simpa using hb
        simp only [oddByte, oddB, Bool.or_eq_false_iff, decide_eq_false_iff_not] at hb'
        obtain ⟨hb1, hb2⟩ := hb'
        clear hb hodd
        go_wp2
        go_round
        case rel => exact ⟨j + 1, by omega, by go_num, h1⟩
        case measure => simp [intOf]; omega
    · have hM : M = restB k i s := by
        rw [HM.out]
        have e : s.take j = s := List.take_of_length_le (by omega)
        rw [← e, hodd.out, e]
        simp
      have HM2 := Lib.hid hM
      clear hM hodd
      go_wp2
      all_goals go_ret
      all_goals refine ⟨?_, (Below.refl _ _).alloc (Nat.le_refl _) _⟩
      all_goals go_light
      all_goals rw [HM2.out]
      all_goals simp_all [restB]
      all_goals omega

def goodV (k i : Int) (s : List UInt8) : V := if mayB k i s then ⟨k, i, s⟩ else ⟨0, 0, []⟩

set_option maxHeartbeats 400000 in
theorem good_any (k i : Int) (s : List UInt8) (w : World) (hs : s.length ≤ 140737488351232) :
    Calls Tryz.prog 44 #[.agg #[.int .i64 k, .int .i64 i, .string ⟨s.toArray⟩]] w fun e w' => e = .returned (.agg #[.int .i64 (goodV k i s).k, .int .i64 (goodV k i s).i, .string ⟨(goodV k i s).s.toArray⟩]) ∧ Below w.heap.size w w' := by
  cases hm : mayB k i s
  · have e : goodV k i s = ⟨0, 0, []⟩ := by unfold goodV; rw [hm]; rfl
    rw [e]
    clear e
    have HM := Lib.hid hm
    clear hm
    go_enter Tryz.func44, Tryz.ntmps44
    go_wp2_with fail
    refine (rmay_any _ _ _ _ hs).mono ?_
    rintro e w1 ⟨rfl, hb⟩
    rw [HM.out]
    obtain ⟨hc, hf⟩ := bcell hb
    have hz := hb.size
    simp at hz hc hf
    go_wp2
    refine bodyPost_ret (v := .agg #[.int .i64 0, .int .i64 0, .string ⟨#[]⟩]) (by simp [results, Tryz.results44, go_sem, hc]) rfl ⟨rfl, ?_⟩
    exact bl
  · have e : goodV k i s = ⟨k, i, s⟩ := by unfold goodV; rw [hm]; rfl
    rw [e]
    clear e
    have HM := Lib.hid hm
    clear hm
    go_enter Tryz.func44, Tryz.ntmps44
    go_wp2_with fail
    refine (rmay_any _ _ _ _ hs).mono ?_
    rintro e w1 ⟨rfl, hb⟩
    rw [HM.out]
    obtain ⟨hc, hf⟩ := bcell hb
    have hz := hb.size
    simp at hz hc hf
    go_wp2
    refine bodyPost_ret (v := .agg #[.int .i64 k, .int .i64 i, .string ⟨s.toArray⟩]) (by simp [results, Tryz.results44, go_sem, hc]) rfl ⟨rfl, ?_⟩
    exact bl

end Go.Proofs.YtdhjogmkhbpcgaaGreat

namespace Go.Proofs.YtdhjogmkhbpcgaaGreat
open Go.RowKit

attribute [local go_sem] ByteArray.extract_mk ba_get
attribute [local go_sem ↓] Go.wp_at_zero Go.wp_at_succ

/-- Two values' cells lie in two new blocks. -/
def Two (n : Nat) (a b : V) (w : World) : Prop :=
  (w.cell? ⟨n, 0, none⟩ = some (.int .i64 a.k) ∧ w.cell? ⟨n, 1, none⟩ = some (.int .i64 a.i) ∧ w.cell? ⟨n, 2, none⟩ = some (.string ⟨a.s.toArray⟩)) ∧
  (w.cell? ⟨n + 1, 0, none⟩ = some (.int .i64 b.k) ∧ w.cell? ⟨n + 1, 1, none⟩ = some (.int .i64 b.i) ∧ w.cell? ⟨n + 1, 2, none⟩ = some (.string ⟨b.s.toArray⟩))

theorem two_set (w : World) (n : Nat) (a b : V) (x0 x1 x2 y0 y1 y2 : Value) (hx0 : w.cell? ⟨n, 0, none⟩ = some x0) (hx1 : w.cell? ⟨n, 1, none⟩ = some x1) (hx2 : w.cell? ⟨n, 2, none⟩ = some x2)
    (hy0 : w.cell? ⟨n + 1, 0, none⟩ = some y0) (hy1 : w.cell? ⟨n + 1, 1, none⟩ = some y1) (hy2 : w.cell? ⟨n + 1, 2, none⟩ = some y2) :
    Two n a b ((((((w.setCell ⟨n, 0, none⟩ (.int .i64 a.k)).setCell ⟨n, 1, none⟩ (.int .i64 a.i)).setCell ⟨n, 2, none⟩ (.string ⟨a.s.toArray⟩)).setCell ⟨n + 1, 0, none⟩ (.int .i64 b.k)).setCell ⟨n + 1, 1, none⟩ (.int .i64 b.i)).setCell ⟨n + 1, 2, none⟩ (.string ⟨b.s.toArray⟩)) := by
  unfold Two
  simp [go_sem, hx0, hx1, hx2, hy0, hy1, hy2]

def vlt (a b : V) : Bool := decide (a.k < b.k) || (decide (a.k = b.k) && (decide (a.i < b.i) || (decide (a.i = b.i) && Op.bytesLess a.s b.s)))
def veq (a b : V) : Bool := decide (a.k = b.k) && (decide (a.i = b.i) && a.s == b.s)
theorem run_eql_V (k i : Int) (s : List UInt8) (k' i' : Int) (s' : List UInt8) (w : World) :
    (binOp .eql 26 (.agg #[.int .i64 k, .int .i64 i, .string ⟨s.toArray⟩]) (.agg #[.int .i64 k', .int .i64 i', .string ⟨s'.toArray⟩])).run Tryz.prog w = .ok (.bool (veq ⟨k, i, s⟩ ⟨k', i', s'⟩)) w := by
  by_cases h1 : k = k' <;> by_cases h2 : i = i' <;> by_cases h3 : s = s' <;> simp [go_sem, veq, h1, h2, h3, Tryz.underlying26, Tryz.underlying3, Tryz.underlying2, Tryz.underlying9]
theorem run_neq_V (k i : Int) (s : List UInt8) (k' i' : Int) (s' : List UInt8) (w : World) :
    (binOp .neq 26 (.agg #[.int .i64 k, .int .i64 i, .string ⟨s.toArray⟩]) (.agg #[.int .i64 k', .int .i64 i', .string ⟨s'.toArray⟩])).run Tryz.prog w = .ok (.bool (!veq ⟨k, i, s⟩ ⟨k', i', s'⟩)) w := by
  by_cases h1 : k = k' <;> by_cases h2 : i = i' <;> by_cases h3 : s = s' <;> simp [go_sem, veq, h1, h2, h3, Tryz.underlying26, Tryz.underlying3, Tryz.underlying2, Tryz.underlying9]
def vord (a b : V) : Int := if veq a b then 0 else if vlt a b then -1 else 1

end Go.Proofs.YtdhjogmkhbpcgaaGreat

namespace Go.Proofs.YtdhjogmkhbpcgaaGreat
open Go.RowKit

attribute [local go_sem] ByteArray.extract_mk ba_get
attribute [local go_sem ↓] Go.wp_at_zero Go.wp_at_succ

def cmpI (a b : Int) : Int := if a < b then -1 else if b < a then 1 else 0
def cmpS (a b : List UInt8) : Int := if a = b then 0 else if Op.bytesLess a b then -1 else 1

theorem cmpI_any (a b : Int) (w : World) : Calls Tryz.prog 100 #[.int .i64 a, .int .i64 b] w fun e w' => e = .returned (.int .i64 (cmpI a b)) ∧ w = w' := by
  rcases Int.lt_trichotomy a b with h | h | h
  · have e : cmpI a b = -1 := by simp [cmpI, h]
    rw [e]
    clear e
    have n1 : (a != a) = false := by simp
    have n2 : (b != b) = false := by simp
    go_enter Tryz.func100, Tryz.ntmps100
    go_wp2
    go_ret
    exact ⟨rfl, rfl⟩
  · subst h
    have e : cmpI a a = 0 := by simp [cmpI]
    rw [e]
    clear e
    have n1 : (a != a) = false := by simp
    go_enter Tryz.func100, Tryz.ntmps100
    go_wp2
    go_ret
    exact ⟨rfl, rfl⟩
  · have e : cmpI a b = 1 := by simp [cmpI, h]; omega
    rw [e]
    clear e
    have n1 : (a != a) = false := by simp
    have n2 : (b != b) = false := by simp
    have n3 : ¬ a < b := by omega
    go_enter Tryz.func100, Tryz.ntmps100
    go_wp2
    go_ret
    exact ⟨rfl, rfl⟩

theorem cmpI64_any (a b : Int) (w : World) : Calls Tryz.prog 101 #[.int .i64 a, .int .i64 b] w fun e w' => e = .returned (.int .i64 (cmpI a b)) ∧ w = w' := by
  rcases Int.lt_trichotomy a b with h | h | h
  · have e : cmpI a b = -1 := by simp [cmpI, h]
    rw [e]
    clear e
    have n1 : (a != a) = false := by simp
    have n2 : (b != b) = false := by simp
    go_enter Tryz.func101, Tryz.ntmps101
    go_wp2
    go_ret
    exact ⟨rfl, rfl⟩
  · subst h
    have e : cmpI a a = 0 := by simp [cmpI]
    rw [e]
    clear e
    have n1 : (a != a) = false := by simp
    go_enter Tryz.func101, Tryz.ntmps101
    go_wp2
    go_ret
    exact ⟨rfl, rfl⟩
  · have e : cmpI a b = 1 := by simp [cmpI, h]; omega
    rw [e]
    clear e
    have n1 : (a != a) = false := by simp
    have n2 : (b != b) = false := by simp
    have n3 : ¬ a < b := by omega
    go_enter Tryz.func101, Tryz.ntmps101
    go_wp2
    go_ret
    exact ⟨rfl, rfl⟩

theorem bless_self (a : List UInt8) : Op.bytesLess a a = false := by
  induction a with
  | nil => rfl
  | cons c r ih => simpa [Op.bytesLess] using ih
theorem cmpS_any (a b : List UInt8) (w : World) : Calls Tryz.prog 102 #[.string ⟨a.toArray⟩, .string ⟨b.toArray⟩] w fun e w' => e = .returned (.int .i64 (cmpS a b)) ∧ w = w' := by
  have n1 : (a != a) = false := by simp
  have n2 : (b != b) = false := by simp
  by_cases hab : a = b
  · subst hab
    have h := bless_self a
    have e : cmpS a a = 0 := by simp [cmpS]
    rw [e]
    clear e
    have h0 : (!a == a) = false := by simp
    go_enter Tryz.func102, Tryz.ntmps102
    go_wp2
    go_ret
    exact ⟨rfl, rfl⟩
  · have h0 : (!a == b) = true := by simp [hab]
    cases h : Op.bytesLess a b
    · have e : cmpS a b = 1 := by simp [cmpS, h, hab]
      rw [e]
      clear e hab
      go_enter Tryz.func102, Tryz.ntmps102
      go_wp2
      go_ret
      exact ⟨rfl, rfl⟩
    · have e : cmpS a b = -1 := by simp [cmpS, h, hab]
      rw [e]
      clear e hab
      go_enter Tryz.func102, Tryz.ntmps102
      go_wp2
      go_ret
      exact ⟨rfl, rfl⟩

/-- cmp.Or of three numbers that lie in a block. -/
def or3 (x y z : Int) : Int := if x = 0 then (if y = 0 then z else y) else x
set_option maxHeartbeats 400000 in
theorem cmpOr_any (g : Nat) (x y z : Int) (w : World) (hx : w.cell? ⟨g, 0, none⟩ = some (.int .i64 x)) (hy : w.cell? ⟨g, 1, none⟩ = some (.int .i64 y)) (hz : w.cell? ⟨g, 2, none⟩ = some (.int .i64 z)) :
    Calls Tryz.prog 99 #[.slice (some ⟨g, 0, none⟩) 3 3] w fun e w' => e = .returned (.int .i64 (or3 x y z)) ∧ w = w' := by
  by_cases h1 : x = 0
  · subst h1
    by_cases h2 : y = 0
    · subst h2
      by_cases h3 : z = 0
      · subst h3
        have e : or3 0 0 0 = 0 := rfl
        rw [e]
        clear e
        go_enter Tryz.func99, Tryz.ntmps99
        go_wp2
        refine wp_loop_rounds 4 ?_
        iterate 4 (rw [rounds_succ]; go_wp2)
        go_ret
        exact ⟨rfl, rfl⟩
      · have e : or3 0 0 z = z := by simp [or3]
        rw [e]
        have h3' : (z != 0) = true := by simp [h3]
        clear e h3
        go_enter Tryz.func99, Tryz.ntmps99
        go_wp2
        refine wp_loop_rounds 3 ?_
        iterate 3 (rw [rounds_succ]; go_wp2)
        go_ret
        exact ⟨rfl, rfl⟩
    · have e : or3 0 y z = y := by simp [or3, h2]
      rw [e]
      have h3' : (y != 0) = true := by simp [h2]
      clear e h2
      go_enter Tryz.func99, Tryz.ntmps99
      go_wp2
      refine wp_loop_rounds 2 ?_
      iterate 2 (rw [rounds_succ]; go_wp2)
      go_ret
      exact ⟨rfl, rfl⟩
  · have e : or3 x y z = x := by simp [or3, h1]
    rw [e]
    have h3' : (x != 0) = true := by simp [h1]
    clear e h1
    go_enter Tryz.func99, Tryz.ntmps99
    go_wp2
    refine wp_loop_rounds 1 ?_
    rw [rounds_succ]
    go_wp2
    go_ret
    exact ⟨rfl, rfl⟩

end Go.Proofs.YtdhjogmkhbpcgaaGreat

namespace Go.Proofs.YtdhjogmkhbpcgaaGreat
open Go.RowKit

attribute [local go_sem] ByteArray.extract_mk ba_get
attribute [local go_sem ↓] Go.wp_at_zero Go.wp_at_succ

/-- The world at hand, but for what R says of it, is forgotten. -/
theorem wp_forget {P : Program} {c : Code} {Q : Exit → Act → World → Prop} {a : Act} {w : World} (R : World → Prop) (h : R w) (k : ∀ w', R w' → Code.wp P c Q a w') : Code.wp P c Q a w := k w h
theorem Blk_lt_of_cell {w : World} {b o : Nat} {v : Value} (h : w.cell? ⟨b, o, none⟩ = some v) : b < w.heap.size := by
  rcases Nat.lt_or_ge b w.heap.size with hlt | hge
  · exact hlt
  · simp [World.cell?, Array.getElem?_eq_none hge] at h
theorem run_field0 (k i : Int) (s : ByteArray) (w : World) : (Instr.field 26 (.agg #[.int .i64 k, .int .i64 i, .string s]) 0).run Tryz.prog w = .ok (.int .i64 k) w := by kernel_rfl
theorem run_field1 (k i : Int) (s : ByteArray) (w : World) : (Instr.field 26 (.agg #[.int .i64 k, .int .i64 i, .string s]) 1).run Tryz.prog w = .ok (.int .i64 i) w := by kernel_rfl
theorem run_field2 (k i : Int) (s : ByteArray) (w : World) : (Instr.field 26 (.agg #[.int .i64 k, .int .i64 i, .string s]) 2).run Tryz.prog w = .ok (.string s) w := by kernel_rfl
def V.agg (v : V) : Value := .agg #[.int .i64 v.k, .int .i64 v.i, .string ⟨v.s.toArray⟩]
def V.may (v : V) : Bool := mayB v.k v.i v.s
def V.good (v : V) : V := goodV v.k v.i v.s
theorem V.good_may {v : V} (h : v.may = true) : v.good = v := by unfold V.good goodV; unfold V.may at h; rw [h]; rfl
theorem V.good_not {v : V} (h : v.may = false) : v.good = V.zero := by unfold V.good goodV; unfold V.may at h; rw [h]; rfl

set_option maxHeartbeats 400000 in
theorem known_any (k i : Int) (s : List UInt8) (w : World) :
    Calls Tryz.prog 98 #[.agg #[.int .i64 k, .int .i64 i, .string ⟨s.toArray⟩]] w (Ret (.agg #[.int .i64 (goodV k i s).k, .int .i64 (goodV k i s).i, .string ⟨(goodV k i s).s.toArray⟩]) w) := by
  cases hm : mayB k i s
  · have e : goodV k i s = ⟨0, 0, []⟩ := by unfold goodV; rw [hm]; rfl
    rw [e]
    clear e
    have HM := Lib.hid hm
    clear hm
    go_enter Tryz.func98, Tryz.ntmps98
    go_wp2_with fail
    refine (may_any _ _ _ _).mono ?_
    rintro e w1 ⟨rfl, hb⟩
    rw [HM.out]
    obtain ⟨hc, hf⟩ := bcell hb
    have hz := hb.size
    simp at hz hc hf
    go_wp2
    refine bodyPost_ret (v := .agg #[.int .i64 0, .int .i64 0, .string ⟨#[]⟩]) (by simp [results, Tryz.results98, go_sem, hc]) rfl ⟨rfl, ?_⟩
    exact bl
  · have e : goodV k i s = ⟨k, i, s⟩ := by unfold goodV; rw [hm]; rfl
    rw [e]
    clear e
    have HM := Lib.hid hm
    clear hm
    go_enter Tryz.func98, Tryz.ntmps98
    go_wp2_with fail
    refine (may_any _ _ _ _).mono ?_
    rintro e w1 ⟨rfl, hb⟩
    rw [HM.out]
    obtain ⟨hc, hf⟩ := bcell hb
    have hz := hb.size
    simp at hz hc hf
    go_wp2
    refine bodyPost_ret (v := .agg #[.int .i64 k, .int .i64 i, .string ⟨s.toArray⟩]) (by simp [results, Tryz.results98, go_sem, hc]) rfl ⟨rfl, ?_⟩
    exact bl

end Go.Proofs.YtdhjogmkhbpcgaaGreat

namespace Go.Proofs.YtdhjogmkhbpcgaaGreat
open Go.RowKit

attribute [local go_sem] ByteArray.extract_mk ba_get
attribute [local go_sem ↓] Go.wp_at_zero Go.wp_at_succ

/-- What a value says: 0 nothing, 1 no, 2 yes. -/
def saysF (k i : Int) (s : List UInt8) : Int := if k = 3 then (if mayB k i s then 1 + i else 0) else 0
theorem may3 {i : Int} {s : List UInt8} (h : mayB 3 i s = true) : (i = 0 ∨ i = 1) ∧ s = [] := by
  simp [mayB] at h; exact h
theorem saysF_range (k i : Int) (s : List UInt8) : saysF k i s = 0 ∨ saysF k i s = 1 ∨ saysF k i s = 2 := by
  unfold saysF
  by_cases hk : k = 3
  · subst hk
    cases h : mayB 3 i s
    · simp
    · rcases (may3 h).1 with rfl | rfl <;> simp
  · simp [hk]

set_option maxHeartbeats 400000 in
theorem says_any (k i : Int) (s : List UInt8) (w : World) :
    Calls Tryz.prog 118 #[.agg #[.int .i64 k, .int .i64 i, .string ⟨s.toArray⟩]] w (Ret (.int .i64 (saysF k i s)) w) := by
  by_cases hk : k = 3
  · subst hk
    cases hm : mayB 3 i s
    · have e : saysF 3 i s = 0 := by simp [saysF, hm]
      rw [e]
      clear e
      have HM := Lib.hid hm
      clear hm
      go_enter Tryz.func118, Tryz.ntmps118
      go_wp2_with fail
      refine (may_any _ _ _ _).mono ?_
      rintro e w1 ⟨rfl, hb⟩
      rw [HM.out]
      go_wp2
      go_ret
      exact ⟨rfl, by exact bl⟩
    · have e : saysF 3 i s = 1 + i := by simp [saysF, hm]
      rw [e]
      clear e
      have hi1 : 0 ≤ i := by rcases (may3 hm).1 with h | h <;> omega
      have hi2 : i ≤ 1 := by rcases (may3 hm).1 with h | h <;> omega
      have HM := Lib.hid hm
      clear hm
      go_enter Tryz.func118, Tryz.ntmps118
      go_wp2_with fail
      refine (may_any _ _ _ _).mono ?_
      rintro e w1 ⟨rfl, hb⟩
      rw [HM.out]
      obtain ⟨hc, hf⟩ := bcell hb
      have hz := hb.size
      simp at hz hc hf
      go_wp2
      go_ret
      exact ⟨rfl, by exact bl⟩
  · have e : saysF k i s = 0 := by simp [saysF, hk]
    rw [e]
    clear e
    have hk' : (k != 3) = true := by simp [hk]
    clear hk
    go_enter Tryz.func118, Tryz.ntmps118
    go_wp2
    go_ret
    exact ⟨rfl, by exact bl⟩

def truthV (n : Int) : V := if n = 0 then V.zero else ⟨3, n - 1, []⟩

theorem truth0_any (w : World) : Calls Tryz.prog 119 #[.int .i64 0] w (Ret (.agg #[.int .i64 0, .int .i64 0, .string ⟨#[]⟩]) w) := by
  go_enter Tryz.func119, Tryz.ntmps119
  go_wp2
  refine bodyPost_ret (v := .agg #[.int .i64 0, .int .i64 0, .string ⟨#[]⟩]) (by simp [results, Tryz.results119, go_sem]) rfl ⟨rfl, ?_⟩
  exact bl
theorem truth1_any (w : World) : Calls Tryz.prog 119 #[.int .i64 1] w (Ret (.agg #[.int .i64 3, .int .i64 0, .string ⟨#[]⟩]) w) := by
  go_enter Tryz.func119, Tryz.ntmps119
  go_wp2
  refine bodyPost_ret (v := .agg #[.int .i64 3, .int .i64 0, .string ⟨#[]⟩]) (by simp [results, Tryz.results119, go_sem]) rfl ⟨rfl, ?_⟩
  exact bl
theorem truth2_any (w : World) : Calls Tryz.prog 119 #[.int .i64 2] w (Ret (.agg #[.int .i64 3, .int .i64 1, .string ⟨#[]⟩]) w) := by
  go_enter Tryz.func119, Tryz.ntmps119
  go_wp2
  refine bodyPost_ret (v := .agg #[.int .i64 3, .int .i64 1, .string ⟨#[]⟩]) (by simp [results, Tryz.results119, go_sem]) rfl ⟨rfl, ?_⟩
  exact bl

def bV (b : Bool) : V := ⟨3, if b then 1 else 0, []⟩
theorem whether_any (b : Bool) (w : World) : Calls Tryz.prog 121 #[.bool b] w (Ret (.agg #[.int .i64 (bV b).k, .int .i64 (bV b).i, .string ⟨(bV b).s.toArray⟩]) w) := by
  cases b
  · go_enter Tryz.func121, Tryz.ntmps121
    go_wp2_with fail
    refine (truth1_any _).mono ?_
    rintro e w1 ⟨rfl, hb⟩
    have hz := hb.size
    simp at hz
    obtain ⟨hc, hf⟩ := bcell hb
    simp at hc hf
    go_wp2
    refine bodyPost_ret (v := .agg #[.int .i64 3, .int .i64 0, .string ⟨#[]⟩]) (by simp [results, Tryz.results121, go_sem, hc]) rfl ⟨rfl, ?_⟩
    exact bl
  · go_enter Tryz.func121, Tryz.ntmps121
    go_wp2_with fail
    refine (truth2_any _).mono ?_
    rintro e w1 ⟨rfl, hb⟩
    have hz := hb.size
    simp at hz
    obtain ⟨hc, hf⟩ := bcell hb
    simp at hc hf
    go_wp2
    refine bodyPost_ret (v := .agg #[.int .i64 3, .int .i64 1, .string ⟨#[]⟩]) (by simp [results, Tryz.results121, go_sem, hc]) rfl ⟨rfl, ?_⟩
    exact bl

end Go.Proofs.YtdhjogmkhbpcgaaGreat

namespace Go.Proofs.YtdhjogmkhbpcgaaGreat
open Go.RowKit

attribute [local go_sem] ByteArray.extract_mk ba_get
attribute [local go_sem ↓] Go.wp_at_zero Go.wp_at_succ

/-- which of two values is first, as value.Order reckons it. -/
def cord (a b : V) : Int := or3 (cmpI a.k b.k) (cmpI a.i b.i) (cmpS a.s b.s)

set_option maxHeartbeats 1000000 in
theorem vorder_any (k i : Int) (s : List UInt8) (k' i' : Int) (s' : List UInt8) (w : World) :
    Calls Tryz.prog 59 #[.agg #[.int .i64 k, .int .i64 i, .string ⟨s.toArray⟩], .agg #[.int .i64 k', .int .i64 i', .string ⟨s'.toArray⟩]] w (Ret (.int .i64 (cord (goodV k i s) (goodV k' i' s'))) w) := by
  have l0 : w.heap.size < w.heap.size + 1 + 1 := by omega
  go_enter Tryz.func59, Tryz.ntmps59
  go_upto_region 1 with fail
  go_cut [] (fun wx => Two w.heap.size (goodV k i s) (goodV k' i' s') wx ∧ Below w.heap.size w wx)
  case first =>
    go_region_with (go_at_call 98; refine (known_any _ _ _ _).mono ?_; rintro e w1 ⟨rfl, hb⟩; obtain ⟨hc, hf⟩ := bcell hb; have hz := hb.size; (try simp at hz hc hf); have l1 : w.heap.size < w1.heap.size := (by omega); have l2 : w.heap.size + 1 < w1.heap.size := (by omega))
    all_goals (go_wp2_with fail; go_meet)
    all_goals refine ⟨two_set w1 _ _ _ (.int .i64 k) (.int .i64 i) (.string ⟨s.toArray⟩) (.int .i64 k') (.int .i64 i') (.string ⟨s'.toArray⟩) ?_ ?_ ?_ ?_ ?_ ?_, ?_⟩
    all_goals first | (simp [*, go_sem]; done) | exact bl
  case rest =>
    obtain ⟨hcu, hbw⟩ := hcut
    obtain ⟨a, ha⟩ : ∃ a, goodV k i s = a := ⟨_, rfl⟩
    obtain ⟨b, hb⟩ : ∃ b, goodV k' i' s' = b := ⟨_, rfl⟩
    rw [ha, hb] at hcu
    have HA := Lib.hid ha
    have HB := Lib.hid hb
    clear ha hb
    obtain ⟨⟨a0, a1, a2⟩, b0, b1, b2⟩ := hcu
    have lw := hbw.size
    have l1 : w.heap.size < wc.heap.size := (Blk_lt_of_cell a0)
    have l2 : w.heap.size + 1 < wc.heap.size := (Blk_lt_of_cell b0)
    have HSH : Hid (∀ w' : World, Below wc.heap.size wc w' → (w'.cell? ⟨w.heap.size, 0, none⟩ = some (.int .i64 a.k) ∧ w'.cell? ⟨w.heap.size, 1, none⟩ = some (.int .i64 a.i) ∧ w'.cell? ⟨w.heap.size, 2, none⟩ = some (.string ⟨a.s.toArray⟩) ∧ w'.cell? ⟨w.heap.size + 1, 0, none⟩ = some (.int .i64 b.k) ∧ w'.cell? ⟨w.heap.size + 1, 1, none⟩ = some (.int .i64 b.i) ∧ w'.cell? ⟨w.heap.size + 1, 2, none⟩ = some (.string ⟨b.s.toArray⟩))) :=
      fun w' h => ⟨(h.cell l1).trans a0, (h.cell l1).trans a1, (h.cell l1).trans a2, (h.cell l2).trans b0, (h.cell l2).trans b1, (h.cell l2).trans b2⟩
    clear a0 a1 a2 b0 b1 b2
    go_wp2_with fail
    go_region_held3 (fun w' => w'.cell? ⟨w.heap.size, 0, none⟩ = some (.int .i64 a.k) ∧ w'.cell? ⟨w.heap.size, 1, none⟩ = some (.int .i64 a.i) ∧ w'.cell? ⟨w.heap.size, 2, none⟩ = some (.string ⟨a.s.toArray⟩) ∧ w'.cell? ⟨w.heap.size + 1, 0, none⟩ = some (.int .i64 b.k) ∧ w'.cell? ⟨w.heap.size + 1, 1, none⟩ = some (.int .i64 b.i) ∧ w'.cell? ⟨w.heap.size + 1, 2, none⟩ = some (.string ⟨b.s.toArray⟩))
      (exact HSH.out _ (by exact bl))
      (first | (go_at_call 100; refine (cmpI_any _ _ _).mono ?_; rintro e w1 ⟨rfl, rfl⟩) | (go_at_call 101; refine (cmpI64_any _ _ _).mono ?_; rintro e w1 ⟨rfl, rfl⟩) | (go_at_call 102; refine (cmpS_any _ _ _).mono ?_; rintro e w1 ⟨rfl, rfl⟩) | (go_at_call 99; refine (cmpOr_any _ (cmpI a.k b.k) (cmpI a.i b.i) (cmpS a.s b.s) _ ?_ ?_ ?_).mono ?_; (simp [go_sem]); (simp [go_sem]); (simp [go_sem]); rintro e w1 ⟨rfl, rfl⟩))
    all_goals go_wp2
    all_goals go_ret
    all_goals refine ⟨by rw [HA.out, HB.out]; rfl, ?_⟩
    all_goals exact bl

end Go.Proofs.YtdhjogmkhbpcgaaGreat
