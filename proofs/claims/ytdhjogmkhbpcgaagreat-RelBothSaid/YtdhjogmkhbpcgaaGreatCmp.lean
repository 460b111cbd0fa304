/- cmp.Compare and cmp.Or as plain functions. Condition: none. -/
import Derived.Test.YtdhjogmkhbpcgaaGreatVeq
namespace Go.Proofs.YtdhjogmkhbpcgaaGreat
open Go.RowKit

attribute [local go_sem] ByteArray.extract_mk ba_get
attribute [local go_sem ↓] Go.wp_at_zero Go.wp_at_succ

def cmpI (a b : Int) : Int := if a < b then -1 else if b < a then 1 else 0
def cmpS (a b : List UInt8) : Int := if a = b then 0 else if Op.bytesLess a b then -1 else 1

theorem cmpI_any (a b : Int) (w : World) : Calls Tryz.prog 100 #[.int .i64 a, .int .i64 b] w fun e w' => e = .returned (.int .i64 (cmpI a b)) ∧ w = w' := by
  rcases Int.lt_trichotomy a b with h | h | h
  · have e : cmpI a b = -1 := by simp [cmpI, h]
    rw [e]
    clear e
    have n1 : (a != a) = false := by simp
    have n2 : (b != b) = false := by simp
    go_enter Tryz.func100, Tryz.ntmps100
    go_wp2
    go_ret
    exact ⟨rfl, rfl⟩
  · subst h
    have e : cmpI a a = 0 := by simp [cmpI]
    rw [e]
    clear e
    have n1 : (a != a) = false := by simp
    go_enter Tryz.func100, Tryz.ntmps100
    go_wp2
    go_ret
    exact ⟨rfl, rfl⟩
  · have e : cmpI a b = 1 := by simp [cmpI, h]; omega
    rw [e]
    clear e
    have n1 : (a != a) = false := by simp
    have n2 : (b != b) = false := by simp
    have n3 : ¬ a < b := by omega
    go_enter Tryz.func100, Tryz.ntmps100
    go_wp2
    go_ret
    exact ⟨rfl, rfl⟩

theorem cmpI64_any (a b : Int) (w : World) : Calls Tryz.prog 101 #[.int .i64 a, .int .i64 b] w fun e w' => e = .returned (.int .i64 (cmpI a b)) ∧ w = w' := by
  rcases Int.lt_trichotomy a b with h | h | h
  · have e : cmpI a b = -1 := by simp [cmpI, h]
    rw [e]
    clear e
    have n1 : (a != a) = false := by simp
    have n2 : (b != b) = false := by simp
    go_enter Tryz.func101, Tryz.ntmps101
    go_wp2
    go_ret
    exact ⟨rfl, rfl⟩
  · subst h
    have e : cmpI a a = 0 := by simp [cmpI]
    rw [e]
    clear e
    have n1 : (a != a) = false := by simp
    go_enter Tryz.func101, Tryz.ntmps101
    go_wp2
    go_ret
    exact ⟨rfl, rfl⟩
  · have e : cmpI a b = 1 := by simp [cmpI, h]; omega
    rw [e]
    clear e
    have n1 : (a != a) = false := by simp
    have n2 : (b != b) = false := by simp
    have n3 : ¬ a < b := by omega
    go_enter Tryz.func101, Tryz.ntmps101
    go_wp2
    go_ret
    exact ⟨rfl, rfl⟩

theorem bless_self (a : List UInt8) : Op.bytesLess a a = false := by
  induction a with
  | nil => rfl
  | cons c r ih => simpa [Op.bytesLess] using ih
theorem cmpS_any (a b : List UInt8) (w : World) : Calls Tryz.prog 102 #[.string ⟨a.toArray⟩, .string ⟨b.toArray⟩] w fun e w' => e = .returned (.int .i64 (cmpS a b)) ∧ w = w' := by
  have n1 : (a != a) = false := by simp
  have n2 : (b != b) = false := by simp
  by_cases hab : a = b
  · subst hab
    have h := bless_self a
    have e : cmpS a a = 0 := by simp [cmpS]
    rw [e]
    clear e
    have h0 : (!a == a) = false := by simp
    go_enter Tryz.func102, Tryz.ntmps102
    go_wp2
    go_ret
    exact ⟨rfl, rfl⟩
  · have h0 : (!a == b) = true := by simp [hab]
    cases h : Op.bytesLess a b
    · have e : cmpS a b = 1 := by simp [cmpS, h, hab]
      rw [e]
      clear e hab
      go_enter Tryz.func102, Tryz.ntmps102
      go_wp2
      go_ret
      exact ⟨rfl, rfl⟩
    · have e : cmpS a b = -1 := by simp [cmpS, h, hab]
      rw [e]
      clear e hab
      go_enter Tryz.func102, Tryz.ntmps102
      go_wp2
      go_ret
      exact ⟨rfl, rfl⟩

/-- cmp.Or of three numbers that lie in a block. -/
def or3 (x y z : Int) : Int := if x = 0 then (if y = 0 then z else y) else x
set_option maxHeartbeats 400000 in
theorem cmpOr_any (g : Nat) (x y z : Int) (w : World) (hx : w.cell? ⟨g, 0, none⟩ = some (.int .i64 x)) (hy : w.cell? ⟨g, 1, none⟩ = some (.int .i64 y)) (hz : w.cell? ⟨g, 2, none⟩ = some (.int .i64 z)) :
    Calls Tryz.prog 99 #[.slice (some ⟨g, 0, none⟩) 3 3] w fun e w' => e = .returned (.int .i64 (or3 x y z)) ∧ w = w' := by
  by_cases h1 : x = 0
  · subst h1
    by_cases h2 : y = 0
    · subst h2
      by_cases h3 : z = 0
      · subst h3
        have e : or3 0 0 0 = 0 := rfl
        rw [e]
        clear e
        go_enter Tryz.func99, Tryz.ntmps99
        go_wp2
        refine wp_loop_rounds 4 ?_
        iterate 4 (rw [rounds_succ]; go_wp2)
        go_ret
        exact ⟨rfl, rfl⟩
      · have e : or3 0 0 z = z := by simp [or3]
        rw [e]
        have h3' : (z != 0) = true := by simp [h3]
        clear e h3
        go_enter Tryz.func99, Tryz.ntmps99
        go_wp2
        refine wp_loop_rounds 3 ?_
        iterate 3 (rw [rounds_succ]; go_wp2)
        go_ret
        exact ⟨rfl, rfl⟩
    · have e : or3 0 y z = y := by simp [or3, h2]
      rw [e]
      have h3' : (y != 0) = true := by simp [h2]
      clear e h2
      go_enter Tryz.func99, Tryz.ntmps99
      go_wp2
      refine wp_loop_rounds 2 ?_
      iterate 2 (rw [rounds_succ]; go_wp2)
      go_ret
      exact ⟨rfl, rfl⟩
  · have e : or3 x y z = x := by simp [or3, h1]
    rw [e]
    have h3' : (x != 0) = true := by simp [h1]
    clear e h1
    go_enter Tryz.func99, Tryz.ntmps99
    go_wp2
    refine wp_loop_rounds 1 ?_
    rw [rounds_succ]
    go_wp2
    go_ret
    exact ⟨rfl, rfl⟩

end Go.Proofs.YtdhjogmkhbpcgaaGreat
