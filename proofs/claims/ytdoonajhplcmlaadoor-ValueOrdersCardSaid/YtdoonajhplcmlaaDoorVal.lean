/- value's inner functions (known, says, truth, whether), cmp.Compare and cmp.Or, value.Order, as plain functions. Condition: none. -/
import Derived.Test.YtdoonajhplcmlaaDoorRef1Order
namespace Go.Proofs.YtdoonajhplcmlaaDoor
open Go.RowKit

attribute [local go_sem] ByteArray.extract_mk ba_get
attribute [local go_sem ↓] Go.wp_at_zero Go.wp_at_succ

/-- The world at hand, but for what R says of it, is forgotten. -/
theorem wp_forget {P : Program} {c : Code} {Q : Exit → Act → World → Prop} {a : Act} {w : World} (R : World → Prop) (h : R w) (k : ∀ w', R w' → Code.wp P c Q a w') : Code.wp P c Q a w := k w h
theorem Blk_lt_of_cell {w : World} {b o : Nat} {v : Value} (h : w.cell? ⟨b, o, none⟩ = some v) : b < w.heap.size := by
  rcases Nat.lt_or_ge b w.heap.size with hlt | hge
  · exact hlt
  · simp [World.cell?, Array.getElem?_eq_none hge] at h
theorem run_field0 (k i : Int) (s : ByteArray) (w : World) : (Instr.field 23 (.agg #[.int .i64 k, .int .i64 i, .string s]) 0).run Tryd.prog w = .ok (.int .i64 k) w := by kernel_rfl
theorem run_field1 (k i : Int) (s : ByteArray) (w : World) : (Instr.field 23 (.agg #[.int .i64 k, .int .i64 i, .string s]) 1).run Tryd.prog w = .ok (.int .i64 i) w := by kernel_rfl
theorem run_field2 (k i : Int) (s : ByteArray) (w : World) : (Instr.field 23 (.agg #[.int .i64 k, .int .i64 i, .string s]) 2).run Tryd.prog w = .ok (.string s) w := by kernel_rfl
def V.agg (v : V) : Value := .agg #[.int .i64 v.k, .int .i64 v.i, .string ⟨v.s.toArray⟩]
def V.may (v : V) : Bool := mayB v.k v.i v.s
def V.good (v : V) : V := goodV v.k v.i v.s
theorem V.good_may {v : V} (h : v.may = true) : v.good = v := by unfold V.good goodV; unfold V.may at h; rw [h]; rfl
theorem V.good_not {v : V} (h : v.may = false) : v.good = V.zero := by unfold V.good goodV; unfold V.may at h; rw [h]; rfl

set_option maxHeartbeats 400000 in
theorem known_any (k i : Int) (s : List UInt8) (w : World) :
    Calls Tryd.prog 51 #[.agg #[.int .i64 k, .int .i64 i, .string ⟨s.toArray⟩]] w (Ret (.agg #[.int .i64 (goodV k i s).k, .int .i64 (goodV k i s).i, .string ⟨(goodV k i s).s.toArray⟩]) w) := by
  cases hm : mayB k i s
  · have e : goodV k i s = ⟨0, 0, []⟩ := by unfold goodV; rw [hm]; rfl
    rw [e]
    clear e
    have HM := Lib.hid hm
    clear hm
    go_enter Tryd.func51, Tryd.ntmps51
    go_wp2_with fail
    refine (may_any _ _ _ _).mono ?_
    rintro e w1 ⟨rfl, hb⟩
    rw [HM.out]
    obtain ⟨hc, hf⟩ := bcell hb
    have hz := hb.size
    simp at hz hc hf
    go_wp2
    refine bodyPost_ret (v := .agg #[.int .i64 0, .int .i64 0, .string ⟨#[]⟩]) (by simp [results, Tryd.results51, go_sem, hc]) rfl ⟨rfl, ?_⟩
    ((repeat' (first | with_reducible exact Below.refl _ _ | with_reducible assumption | with_reducible refine Below.drew ?_ | with_reducible refine below_drewN ?_ _ | with_reducible refine Below.setCell ?_ ?_ _ | with_reducible refine Below.alloc ?_ ?_ _ | with_reducible refine Below.trans ?_ (Below.mono (by assumption) ?_))) <;> (first | (simp; done) | (simp; omega) | omega))
  · have e : goodV k i s = ⟨k, i, s⟩ := by unfold goodV; rw [hm]; rfl
    rw [e]
    clear e
    have HM := Lib.hid hm
    clear hm
    go_enter Tryd.func51, Tryd.ntmps51
    go_wp2_with fail
    refine (may_any _ _ _ _).mono ?_
    rintro e w1 ⟨rfl, hb⟩
    rw [HM.out]
    obtain ⟨hc, hf⟩ := bcell hb
    have hz := hb.size
    simp at hz hc hf
    go_wp2
    refine bodyPost_ret (v := .agg #[.int .i64 k, .int .i64 i, .string ⟨s.toArray⟩]) (by simp [results, Tryd.results51, go_sem, hc]) rfl ⟨rfl, ?_⟩
    ((repeat' (first | with_reducible exact Below.refl _ _ | with_reducible assumption | with_reducible refine Below.drew ?_ | with_reducible refine below_drewN ?_ _ | with_reducible refine Below.setCell ?_ ?_ _ | with_reducible refine Below.alloc ?_ ?_ _ | with_reducible refine Below.trans ?_ (Below.mono (by assumption) ?_))) <;> (first | (simp; done) | (simp; omega) | omega))

/-- What a value says: 0 nothing, 1 no, 2 yes. -/
def saysF (k i : Int) (s : List UInt8) : Int := if k = 3 then (if mayB k i s then 1 + i else 0) else 0
theorem may3 {i : Int} {s : List UInt8} (h : mayB 3 i s = true) : (i = 0 ∨ i = 1) ∧ s = [] := by
  simp [mayB] at h; exact h
theorem saysF_range (k i : Int) (s : List UInt8) : saysF k i s = 0 ∨ saysF k i s = 1 ∨ saysF k i s = 2 := by
  unfold saysF
  by_cases hk : k = 3
  · subst hk
    cases h : mayB 3 i s
    · simp
    · rcases (may3 h).1 with rfl | rfl <;> simp
  · simp [hk]

set_option maxHeartbeats 400000 in
theorem says_any (k i : Int) (s : List UInt8) (w : World) :
    Calls Tryd.prog 50 #[.agg #[.int .i64 k, .int .i64 i, .string ⟨s.toArray⟩]] w (Ret (.int .i64 (saysF k i s)) w) := by
  by_cases hk : k = 3
  · subst hk
    cases hm : mayB 3 i s
    · have e : saysF 3 i s = 0 := by simp [saysF, hm]
      rw [e]
      clear e
      have HM := Lib.hid hm
      clear hm
      go_enter Tryd.func50, Tryd.ntmps50
      go_wp2_with fail
      refine (may_any _ _ _ _).mono ?_
      rintro e w1 ⟨rfl, hb⟩
      rw [HM.out]
      go_wp2
      go_ret
      exact ⟨rfl, by ((repeat' (first | with_reducible exact Below.refl _ _ | with_reducible assumption | with_reducible refine Below.drew ?_ | with_reducible refine below_drewN ?_ _ | with_reducible refine Below.setCell ?_ ?_ _ | with_reducible refine Below.alloc ?_ ?_ _ | with_reducible refine Below.trans ?_ (Below.mono (by assumption) ?_))) <;> (first | (simp; done) | (simp; omega) | omega))⟩
    · have e : saysF 3 i s = 1 + i := by simp [saysF, hm]
      rw [e]
      clear e
      have hi1 : 0 ≤ i := by rcases (may3 hm).1 with h | h <;> omega
      have hi2 : i ≤ 1 := by rcases (may3 hm).1 with h | h <;> omega
      have HM := Lib.hid hm
      clear hm
      go_enter Tryd.func50, Tryd.ntmps50
      go_wp2_with fail
      refine (may_any _ _ _ _).mono ?_
      rintro e w1 ⟨rfl, hb⟩
      rw [HM.out]
      obtain ⟨hc, hf⟩ := bcell hb
      have hz := hb.size
      simp at hz hc hf
      go_wp2
      go_ret
      exact ⟨rfl, by ((repeat' (first | with_reducible exact Below.refl _ _ | with_reducible assumption | with_reducible refine Below.drew ?_ | with_reducible refine below_drewN ?_ _ | with_reducible refine Below.setCell ?_ ?_ _ | with_reducible refine Below.alloc ?_ ?_ _ | with_reducible refine Below.trans ?_ (Below.mono (by assumption) ?_))) <;> (first | (simp; done) | (simp; omega) | omega))⟩
  · have e : saysF k i s = 0 := by simp [saysF, hk]
    rw [e]
    clear e
    have hk' : (k != 3) = true := by simp [hk]
    clear hk
    go_enter Tryd.func50, Tryd.ntmps50
    go_wp2
    go_ret
    exact ⟨rfl, by ((repeat' (first | with_reducible exact Below.refl _ _ | with_reducible assumption | with_reducible refine Below.drew ?_ | with_reducible refine below_drewN ?_ _ | with_reducible refine Below.setCell ?_ ?_ _ | with_reducible refine Below.alloc ?_ ?_ _ | with_reducible refine Below.trans ?_ (Below.mono (by assumption) ?_))) <;> (first | (simp; done) | (simp; omega) | omega))⟩

def truthV (n : Int) : V := if n = 0 then V.zero else ⟨3, n - 1, []⟩

theorem truth0_any (w : World) : Calls Tryd.prog 58 #[.int .i64 0] w (Ret (.agg #[.int .i64 0, .int .i64 0, .string ⟨#[]⟩]) w) := by
  go_enter Tryd.func58, Tryd.ntmps58
  go_wp2
  refine bodyPost_ret (v := .agg #[.int .i64 0, .int .i64 0, .string ⟨#[]⟩]) (by simp [results, Tryd.results58, go_sem]) rfl ⟨rfl, ?_⟩
  ((repeat' (first | with_reducible exact Below.refl _ _ | with_reducible assumption | with_reducible refine Below.drew ?_ | with_reducible refine below_drewN ?_ _ | with_reducible refine Below.setCell ?_ ?_ _ | with_reducible refine Below.alloc ?_ ?_ _ | with_reducible refine Below.trans ?_ (Below.mono (by assumption) ?_))) <;> (first | (simp; done) | (simp; omega) | omega))
theorem truth1_any (w : World) : Calls Tryd.prog 58 #[.int .i64 1] w (Ret (.agg #[.int .i64 3, .int .i64 0, .string ⟨#[]⟩]) w) := by
  go_enter Tryd.func58, Tryd.ntmps58
  go_wp2
  refine bodyPost_ret (v := .agg #[.int .i64 3, .int .i64 0, .string ⟨#[]⟩]) (by simp [results, Tryd.results58, go_sem]) rfl ⟨rfl, ?_⟩
  ((repeat' (first | with_reducible exact Below.refl _ _ | with_reducible assumption | with_reducible refine Below.drew ?_ | with_reducible refine below_drewN ?_ _ | with_reducible refine Below.setCell ?_ ?_ _ | with_reducible refine Below.alloc ?_ ?_ _ | with_reducible refine Below.trans ?_ (Below.mono (by assumption) ?_))) <;> (first | (simp; done) | (simp; omega) | omega))
theorem truth2_any (w : World) : Calls Tryd.prog 58 #[.int .i64 2] w (Ret (.agg #[.int .i64 3, .int .i64 1, .string ⟨#[]⟩]) w) := by
  go_enter Tryd.func58, Tryd.ntmps58
  go_wp2
  refine bodyPost_ret (v := .agg #[.int .i64 3, .int .i64 1, .string ⟨#[]⟩]) (by simp [results, Tryd.results58, go_sem]) rfl ⟨rfl, ?_⟩
  ((repeat' (first | with_reducible exact Below.refl _ _ | with_reducible assumption | with_reducible refine Below.drew ?_ | with_reducible refine below_drewN ?_ _ | with_reducible refine Below.setCell ?_ ?_ _ | with_reducible refine Below.alloc ?_ ?_ _ | with_reducible refine Below.trans ?_ (Below.mono (by assumption) ?_))) <;> (first | (simp; done) | (simp; omega) | omega))

def bV (b : Bool) : V := ⟨3, if b then 1 else 0, []⟩
theorem whether_any (b : Bool) (w : World) : Calls Tryd.prog 57 #[.bool b] w (Ret (.agg #[.int .i64 (bV b).k, .int .i64 (bV b).i, .string ⟨(bV b).s.toArray⟩]) w) := by
  cases b
  · go_enter Tryd.func57, Tryd.ntmps57
    go_wp2_with fail
    refine (truth1_any _).mono ?_
    rintro e w1 ⟨rfl, hb⟩
    have hz := hb.size
    simp at hz
    obtain ⟨hc, hf⟩ := bcell hb
    simp at hc hf
    go_wp2
    refine bodyPost_ret (v := .agg #[.int .i64 3, .int .i64 0, .string ⟨#[]⟩]) (by simp [results, Tryd.results57, go_sem, hc]) rfl ⟨rfl, ?_⟩
    ((repeat' (first | with_reducible exact Below.refl _ _ | with_reducible assumption | with_reducible refine Below.drew ?_ | with_reducible refine below_drewN ?_ _ | with_reducible refine Below.setCell ?_ ?_ _ | with_reducible refine Below.alloc ?_ ?_ _ | with_reducible refine Below.trans ?_ (Below.mono (by assumption) ?_))) <;> (first | (simp; done) | (simp; omega) | omega))
  · go_enter Tryd.func57, Tryd.ntmps57
    go_wp2_with fail
    refine (truth2_any _).mono ?_
    rintro e w1 ⟨rfl, hb⟩
    have hz := hb.size
    simp at hz
    obtain ⟨hc, hf⟩ := bcell hb
    simp at hc hf
    go_wp2
    refine bodyPost_ret (v := .agg #[.int .i64 3, .int .i64 1, .string ⟨#[]⟩]) (by simp [results, Tryd.results57, go_sem, hc]) rfl ⟨rfl, ?_⟩
    ((repeat' (first | with_reducible exact Below.refl _ _ | with_reducible assumption | with_reducible refine Below.drew ?_ | with_reducible refine below_drewN ?_ _ | with_reducible refine Below.setCell ?_ ?_ _ | with_reducible refine Below.alloc ?_ ?_ _ | with_reducible refine Below.trans ?_ (Below.mono (by assumption) ?_))) <;> (first | (simp; done) | (simp; omega) | omega))

def cmpI (a b : Int) : Int := if a < b then -1 else if b < a then 1 else 0
def cmpS (a b : List UInt8) : Int := if a = b then 0 else if Op.bytesLess a b then -1 else 1

theorem cmpI_any (a b : Int) (w : World) : Calls Tryd.prog 53 #[.int .i64 a, .int .i64 b] w fun e w' => e = .returned (.int .i64 (cmpI a b)) ∧ w = w' := by
  rcases Int.lt_trichotomy a b with h | h | h
  · have e : cmpI a b = -1 := by simp [cmpI, h]
    rw [e]
    clear e
    have n1 : (a != a) = false := by simp
    have n2 : (b != b) = false := by simp
    go_enter Tryd.func53, Tryd.ntmps53
    go_wp2
    go_ret
    exact ⟨rfl, rfl⟩
  · subst h
    have e : cmpI a a = 0 := by simp [cmpI]
    rw [e]
    clear e
    have n1 : (a != a) = false := by simp
    go_enter Tryd.func53, Tryd.ntmps53
    go_wp2
    go_ret
    exact ⟨rfl, rfl⟩
  · have e : cmpI a b = 1 := by simp [cmpI, h]; omega
    rw [e]
    clear e
    have n1 : (a != a) = false := by simp
    have n2 : (b != b) = false := by simp
    have n3 : ¬ a < b := by omega
    go_enter Tryd.func53, Tryd.ntmps53
    go_wp2
    go_ret
    exact ⟨rfl, rfl⟩

theorem cmpI64_any (a b : Int) (w : World) : Calls Tryd.prog 54 #[.int .i64 a, .int .i64 b] w fun e w' => e = .returned (.int .i64 (cmpI a b)) ∧ w = w' := by
  rcases Int.lt_trichotomy a b with h | h | h
  · have e : cmpI a b = -1 := by simp [cmpI, h]
    rw [e]
    clear e
    have n1 : (a != a) = false := by simp
    have n2 : (b != b) = false := by simp
    go_enter Tryd.func54, Tryd.ntmps54
    go_wp2
    go_ret
    exact ⟨rfl, rfl⟩
  · subst h
    have e : cmpI a a = 0 := by simp [cmpI]
    rw [e]
    clear e
    have n1 : (a != a) = false := by simp
    go_enter Tryd.func54, Tryd.ntmps54
    go_wp2
    go_ret
    exact ⟨rfl, rfl⟩
  · have e : cmpI a b = 1 := by simp [cmpI, h]; omega
    rw [e]
    clear e
    have n1 : (a != a) = false := by simp
    have n2 : (b != b) = false := by simp
    have n3 : ¬ a < b := by omega
    go_enter Tryd.func54, Tryd.ntmps54
    go_wp2
    go_ret
    exact ⟨rfl, rfl⟩

theorem bless_self (a : List UInt8) : Op.bytesLess a a = false := by
  induction a with
  | nil => rfl
  | cons c r ih => simpa [Op.bytesLess] using ih
theorem cmpS_any (a b : List UInt8) (w : World) : Calls Tryd.prog 55 #[.string ⟨a.toArray⟩, .string ⟨b.toArray⟩] w fun e w' => e = .returned (.int .i64 (cmpS a b)) ∧ w = w' := by
  have n1 : (a != a) = false := by simp
  have n2 : (b != b) = false := by simp
  by_cases hab : a = b
  · subst hab
    have h := bless_self a
    have e : cmpS a a = 0 := by simp [cmpS]
    rw [e]
    clear e
    have h0 : (!a == a) = false := by simp
    go_enter Tryd.func55, Tryd.ntmps55
    go_wp2
    go_ret
    exact ⟨rfl, rfl⟩
  · have h0 : (!a == b) = true := by simp [hab]
    cases h : Op.bytesLess a b
    · have e : cmpS a b = 1 := by simp [cmpS, h, hab]
      rw [e]
      clear e hab
      go_enter Tryd.func55, Tryd.ntmps55
      go_wp2
      go_ret
      exact ⟨rfl, rfl⟩
    · have e : cmpS a b = -1 := by simp [cmpS, h, hab]
      rw [e]
      clear e hab
      go_enter Tryd.func55, Tryd.ntmps55
      go_wp2
      go_ret
      exact ⟨rfl, rfl⟩

/-- cmp.Or of three numbers that lie in a block. -/
def or3 (x y z : Int) : Int := if x = 0 then (if y = 0 then z else y) else x
set_option maxHeartbeats 400000 in
theorem cmpOr_any (g : Nat) (x y z : Int) (w : World) (hx : w.cell? ⟨g, 0, none⟩ = some (.int .i64 x)) (hy : w.cell? ⟨g, 1, none⟩ = some (.int .i64 y)) (hz : w.cell? ⟨g, 2, none⟩ = some (.int .i64 z)) :
    Calls Tryd.prog 52 #[.slice (some ⟨g, 0, none⟩) 3 3] w fun e w' => e = .returned (.int .i64 (or3 x y z)) ∧ w = w' := by
  by_cases h1 : x = 0
  · subst h1
    by_cases h2 : y = 0
    · subst h2
      by_cases h3 : z = 0
      · subst h3
        have e : or3 0 0 0 = 0 := rfl
        rw [e]
        clear e
        go_enter Tryd.func52, Tryd.ntmps52
        go_wp2
        refine wp_loop_rounds 4 ?_
        iterate 4 (rw [rounds_succ]; go_wp2)
        go_ret
        exact ⟨rfl, rfl⟩
      · have e : or3 0 0 z = z := by simp [or3]
        rw [e]
        have h3' : (z != 0) = true := by simp [h3]
        clear e h3
        go_enter Tryd.func52, Tryd.ntmps52
        go_wp2
        refine wp_loop_rounds 3 ?_
        iterate 3 (rw [rounds_succ]; go_wp2)
        go_ret
        exact ⟨rfl, rfl⟩
    · have e : or3 0 y z = y := by simp [or3, h2]
      rw [e]
      have h3' : (y != 0) = true := by simp [h2]
      clear e h2
      go_enter Tryd.func52, Tryd.ntmps52
      go_wp2
      refine wp_loop_rounds 2 ?_
      iterate 2 (rw [rounds_succ]; go_wp2)
      go_ret
      exact ⟨rfl, rfl⟩
  · have e : or3 x y z = x := by simp [or3, h1]
    rw [e]
    have h3' : (x != 0) = true := by simp [h1]
    clear e h1
    go_enter Tryd.func52, Tryd.ntmps52
    go_wp2
    refine wp_loop_rounds 1 ?_
    rw [rounds_succ]
    go_wp2
    go_ret
    exact ⟨rfl, rfl⟩

end Go.Proofs.YtdoonajhplcmlaaDoor
