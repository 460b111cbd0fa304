/- value's inner functions (says, truth, whether) as plain functions. Condition: none. -/
import Derived.Test.YtdhjogmkhbpcgaaGreatKnown
import Derived.Test.YtdhjogmkhbpcgaaGreatCmp
namespace Go.Proofs.YtdhjogmkhbpcgaaGreat
open Go.RowKit

attribute [local go_sem] ByteArray.extract_mk ba_get
attribute [local go_sem ↓] Go.wp_at_zero Go.wp_at_succ

/-- What a value says: 0 nothing, 1 no, 2 yes. -/
def saysF (k i : Int) (s : List UInt8) : Int := if k = 3 then (if mayB k i s then 1 + i else 0) else 0
theorem may3 {i : Int} {s : List UInt8} (h : mayB 3 i s = true) : (i = 0 ∨ i = 1) ∧ s = [] := by
  simp [mayB] at h; exact h
theorem saysF_range (k i : Int) (s : List UInt8) : saysF k i s = 0 ∨ saysF k i s = 1 ∨ saysF k i s = 2 := by
  unfold saysF
  by_cases hk : k = 3
  · subst hk
    cases h : mayB 3 i s
    · simp
    · rcases (may3 h).1 with rfl | rfl <;> simp
  · simp [hk]

set_option maxHeartbeats 400000 in
theorem says_any (k i : Int) (s : List UInt8) (w : World) :
    Calls Tryz.prog 118 #[.agg #[.int .i64 k, .int .i64 i, .string ⟨s.toArray⟩]] w (Ret (.int .i64 (saysF k i s)) w) := by
  by_cases hk : k = 3
  · subst hk
    cases hm : mayB 3 i s
    · have e : saysF 3 i s = 0 := by simp [saysF, hm]
      rw [e]
      clear e
      have HM := Lib.hid hm
      clear hm
      go_enter Tryz.func118, Tryz.ntmps118
      go_wp2_with fail
      refine (may_any _ _ _ _).mono ?_
      rintro e w1 ⟨rfl, hb⟩
      rw [HM.out]
      go_wp2
      go_ret
      exact ⟨rfl, by ((with_reducible repeat' (first | exact Below.refl _ _ | assumption | refine Below.drew ?_ | refine below_drewN ?_ _ | refine Below.setCell ?_ ?_ _ | refine Below.alloc ?_ ?_ _ | refine Below.trans ?_ (Below.mono (by assumption) ?_))) <;> first | (simp; done) | (simp; omega) | omega)⟩
    · have e : saysF 3 i s = 1 + i := by simp [saysF, hm]
      rw [e]
      clear e
      have hi1 : 0 ≤ i := by rcases (may3 hm).1 with h | h <;> omega
      have hi2 : i ≤ 1 := by rcases (may3 hm).1 with h | h <;> omega
      have HM := Lib.hid hm
      clear hm
      go_enter Tryz.func118, Tryz.ntmps118
      go_wp2_with fail
      refine (may_any _ _ _ _).mono ?_
      rintro e w1 ⟨rfl, hb⟩
      rw [HM.out]
      obtain ⟨hc, hf⟩ := bcell hb
      have hz := hb.size
      simp at hz hc hf
      go_wp2
      go_ret
      exact ⟨rfl, by ((with_reducible repeat' (first | exact Below.refl _ _ | assumption | refine Below.drew ?_ | refine below_drewN ?_ _ | refine Below.setCell ?_ ?_ _ | refine Below.alloc ?_ ?_ _ | refine Below.trans ?_ (Below.mono (by assumption) ?_))) <;> first | (simp; done) | (simp; omega) | omega)⟩
  · have e : saysF k i s = 0 := by simp [saysF, hk]
    rw [e]
    clear e
    have hk' : (k != 3) = true := by simp [hk]
    clear hk
    go_enter Tryz.func118, Tryz.ntmps118
    go_wp2
    go_ret
    exact ⟨rfl, by ((with_reducible repeat' (first | exact Below.refl _ _ | assumption | refine Below.drew ?_ | refine below_drewN ?_ _ | refine Below.setCell ?_ ?_ _ | refine Below.alloc ?_ ?_ _ | refine Below.trans ?_ (Below.mono (by assumption) ?_))) <;> first | (simp; done) | (simp; omega) | omega)⟩

def truthV (n : Int) : V := if n = 0 then V.zero else ⟨3, n - 1, []⟩

theorem truth0_any (w : World) : Calls Tryz.prog 119 #[.int .i64 0] w (Ret (.agg #[.int .i64 0, .int .i64 0, .string ⟨#[]⟩]) w) := by
  go_enter Tryz.func119, Tryz.ntmps119
  go_wp2
  refine bodyPost_ret (v := .agg #[.int .i64 0, .int .i64 0, .string ⟨#[]⟩]) (by simp [results, Tryz.results119, go_sem]) rfl ⟨rfl, ?_⟩
  ((with_reducible repeat' (first | exact Below.refl _ _ | assumption | refine Below.drew ?_ | refine below_drewN ?_ _ | refine Below.setCell ?_ ?_ _ | refine Below.alloc ?_ ?_ _ | refine Below.trans ?_ (Below.mono (by assumption) ?_))) <;> first | (simp; done) | (simp; omega) | omega)
theorem truth1_any (w : World) : Calls Tryz.prog 119 #[.int .i64 1] w (Ret (.agg #[.int .i64 3, .int .i64 0, .string ⟨#[]⟩]) w) := by
  go_enter Tryz.func119, Tryz.ntmps119
  go_wp2
  refine bodyPost_ret (v := .agg #[.int .i64 3, .int .i64 0, .string ⟨#[]⟩]) (by simp [results, Tryz.results119, go_sem]) rfl ⟨rfl, ?_⟩
  ((with_reducible repeat' (first | exact Below.refl _ _ | assumption | refine Below.drew ?_ | refine below_drewN ?_ _ | refine Below.setCell ?_ ?_ _ | refine Below.alloc ?_ ?_ _ | refine Below.trans ?_ (Below.mono (by assumption) ?_))) <;> first | (simp; done) | (simp; omega) | omega)
theorem truth2_any (w : World) : Calls Tryz.prog 119 #[.int .i64 2] w (Ret (.agg #[.int .i64 3, .int .i64 1, .string ⟨#[]⟩]) w) := by
  go_enter Tryz.func119, Tryz.ntmps119
  go_wp2
  refine bodyPost_ret (v := .agg #[.int .i64 3, .int .i64 1, .string ⟨#[]⟩]) (by simp [results, Tryz.results119, go_sem]) rfl ⟨rfl, ?_⟩
  ((with_reducible repeat' (first | exact Below.refl _ _ | assumption | refine Below.drew ?_ | refine below_drewN ?_ _ | refine Below.setCell ?_ ?_ _ | refine Below.alloc ?_ ?_ _ | refine Below.trans ?_ (Below.mono (by assumption) ?_))) <;> first | (simp; done) | (simp; omega) | omega)

def bV (b : Bool) : V := ⟨3, if b then 1 else 0, []⟩
theorem whether_any (b : Bool) (w : World) : Calls Tryz.prog 121 #[.bool b] w (Ret (.agg #[.int .i64 (bV b).k, .int .i64 (bV b).i, .string ⟨(bV b).s.toArray⟩]) w) := by
  cases b
  · go_enter Tryz.func121, Tryz.ntmps121
    go_wp2_with fail
    refine (truth1_any _).mono ?_
    rintro e w1 ⟨rfl, hb⟩
    have hz := hb.size
    simp at hz
    obtain ⟨hc, hf⟩ := bcell hb
    simp at hc hf
    go_wp2
    refine bodyPost_ret (v := .agg #[.int .i64 3, .int .i64 0, .string ⟨#[]⟩]) (by simp [results, Tryz.results121, go_sem, hc]) rfl ⟨rfl, ?_⟩
    ((with_reducible repeat' (first | exact Below.refl _ _ | assumption | refine Below.drew ?_ | refine below_drewN ?_ _ | refine Below.setCell ?_ ?_ _ | refine Below.alloc ?_ ?_ _ | refine Below.trans ?_ (Below.mono (by assumption) ?_))) <;> first | (simp; done) | (simp; omega) | omega)
  · go_enter Tryz.func121, Tryz.ntmps121
    go_wp2_with fail
    refine (truth2_any _).mono ?_
    rintro e w1 ⟨rfl, hb⟩
    have hz := hb.size
    simp at hz
    obtain ⟨hc, hf⟩ := bcell hb
    simp at hc hf
    go_wp2
    refine bodyPost_ret (v := .agg #[.int .i64 3, .int .i64 1, .string ⟨#[]⟩]) (by simp [results, Tryz.results121, go_sem, hc]) rfl ⟨rfl, ?_⟩
    ((with_reducible repeat' (first | exact Below.refl _ _ | assumption | refine Below.drew ?_ | refine below_drewN ?_ _ | refine Below.setCell ?_ ?_ _ | refine Below.alloc ?_ ?_ _ | refine Below.trans ?_ (Below.mono (by assumption) ?_))) <;> first | (simp; done) | (simp; omega) | omega)

end Go.Proofs.YtdhjogmkhbpcgaaGreat
