/- value.Plus and Minus as plain functions. Condition: the numbers are of 64 bits. -/
import Derived.Test.YtdhjogmkhbpcgaaGreatVal3
namespace Go.Proofs.YtdhjogmkhbpcgaaGreat
open Go.RowKit

attribute [local go_sem] ByteArray.extract_mk ba_get
attribute [local go_sem ↓] Go.wp_at_zero Go.wp_at_succ run_eql_V run_neq_V run_field0 run_field1 run_field2

def fits (n : Int) : Bool := decide (-9223372036854775808 ≤ n) && decide (n ≤ 9223372036854775807)
def plusV (a b : V) : V := if alikeB a b && decide (a.k = 1) && fits (a.i + b.i) then ⟨1, a.i + b.i, []⟩ else V.zero
def minusV (a b : V) : V := if alikeB a b && decide (a.k = 1) && fits (a.i - b.i) then ⟨1, a.i - b.i, []⟩ else V.zero

theorem wrap_up (n : Int) (h1 : 9223372036854775807 < n) (h2 : n ≤ 18446744073709551615) : wrap64 n = n - 18446744073709551616 := by
  unfold wrap64; omega
theorem wrap_down (n : Int) (h1 : n < -9223372036854775808) (h2 : -18446744073709551616 ≤ n) : wrap64 n = n + 18446744073709551616 := by
  unfold wrap64; omega

set_option maxHeartbeats 1000000 in
theorem plus_no (k i : Int) (s : List UInt8) (k' i' : Int) (s' : List UInt8) (w : World) (h : alikeB ⟨k, i, s⟩ ⟨k', i', s'⟩ = false) :
    Calls Tryz.prog 89 #[.agg #[.int .i64 k, .int .i64 i, .string ⟨s.toArray⟩], .agg #[.int .i64 k', .int .i64 i', .string ⟨s'.toArray⟩]] w (Ret (.agg #[.int .i64 0, .int .i64 0, .string ⟨#[]⟩]) w) := by
    have H := Lib.hid h
    clear h
    go_enter Tryz.func89, Tryz.ntmps89
    go_wp2_with fail
    refine (alike_any _ _ _ _ _ _ _).mono ?_
    rintro e w0 ⟨rfl, hb0⟩
    rw [H.out]
    have hz0 := hb0.size
    obtain ⟨hc0, hf0⟩ := bcell hb0
    simp at hz0 hc0 hf0
    have l0 : w.heap.size + 1 + 1 < w0.heap.size := by omega
    have l1 : w.heap.size + 1 < w0.heap.size := by omega
    have l2 : w.heap.size < w0.heap.size := by omega
    go_wp2_with fail
    all_goals refine bodyPost_ret (v := .agg #[.int .i64 0, .int .i64 0, .string ⟨#[]⟩]) (by simp [results, Tryz.results89, go_sem, *]) rfl ⟨rfl, ?_⟩
    all_goals ((with_reducible repeat' (first | exact Below.refl _ _ | assumption | refine Below.drew ?_ | refine below_drewN ?_ _ | refine Below.setCell ?_ ?_ _ | refine Below.alloc ?_ ?_ _ | refine Below.trans ?_ (Below.mono (by assumption) ?_))) <;> first | (simp; done) | (simp; omega) | omega)
set_option maxHeartbeats 1000000 in
theorem plus_other (k i : Int) (s : List UInt8) (k' i' : Int) (s' : List UInt8) (w : World) (h : alikeB ⟨k, i, s⟩ ⟨k', i', s'⟩ = true) (hk : (k != 1) = true) :
    Calls Tryz.prog 89 #[.agg #[.int .i64 k, .int .i64 i, .string ⟨s.toArray⟩], .agg #[.int .i64 k', .int .i64 i', .string ⟨s'.toArray⟩]] w (Ret (.agg #[.int .i64 0, .int .i64 0, .string ⟨#[]⟩]) w) := by
    have H := Lib.hid h
    clear h
    go_enter Tryz.func89, Tryz.ntmps89
    go_wp2_with fail
    refine (alike_any _ _ _ _ _ _ _).mono ?_
    rintro e w0 ⟨rfl, hb0⟩
    rw [H.out]
    have hz0 := hb0.size
    obtain ⟨hc0, hf0⟩ := bcell hb0
    simp at hz0 hc0 hf0
    have l0 : w.heap.size + 1 + 1 < w0.heap.size := by omega
    have l1 : w.heap.size + 1 < w0.heap.size := by omega
    have l2 : w.heap.size < w0.heap.size := by omega
    go_wp2_with fail
    all_goals refine bodyPost_ret (v := .agg #[.int .i64 0, .int .i64 0, .string ⟨#[]⟩]) (by simp [results, Tryz.results89, go_sem, *]) rfl ⟨rfl, ?_⟩
    all_goals ((with_reducible repeat' (first | exact Below.refl _ _ | assumption | refine Below.drew ?_ | refine below_drewN ?_ _ | refine Below.setCell ?_ ?_ _ | refine Below.alloc ?_ ?_ _ | refine Below.trans ?_ (Below.mono (by assumption) ?_))) <;> first | (simp; done) | (simp; omega) | omega)
set_option maxHeartbeats 1000000 in
theorem plus_fits (i : Int) (s : List UInt8) (k' i' : Int) (s' : List UInt8) (w : World) (h : alikeB ⟨1, i, s⟩ ⟨k', i', s'⟩ = true) (h1 : -9223372036854775808 ≤ i + i') (h2 : i + i' ≤ 9223372036854775807) :
    Calls Tryz.prog 89 #[.agg #[.int .i64 1, .int .i64 i, .string ⟨s.toArray⟩], .agg #[.int .i64 k', .int .i64 i', .string ⟨s'.toArray⟩]] w (Ret (.agg #[.int .i64 1, .int .i64 (i + i'), .string ⟨#[]⟩]) w) := by
    have H := Lib.hid h
    clear h
    rcases Int.lt_trichotomy i' 0 with hs | hs | hs
    · have q1 : ¬ 0 < i' := by omega
      go_enter Tryz.func89, Tryz.ntmps89
      go_wp2_with fail
      refine (alike_any _ _ _ _ _ _ _).mono ?_
      rintro e w0 ⟨rfl, hb0⟩
      rw [H.out]
      have hz0 := hb0.size
      obtain ⟨hc0, hf0⟩ := bcell hb0
      simp at hz0 hc0 hf0
      have l0 : w.heap.size + 1 + 1 < w0.heap.size := by omega
      have l1 : w.heap.size + 1 < w0.heap.size := by omega
      have l2 : w.heap.size < w0.heap.size := by omega
      go_wp2_with fail
      all_goals refine bodyPost_ret (v := .agg #[.int .i64 1, .int .i64 (i + i'), .string ⟨#[]⟩]) (by simp [results, Tryz.results89, go_sem, *]) rfl ⟨rfl, ?_⟩
      all_goals ((with_reducible repeat' (first | exact Below.refl _ _ | assumption | refine Below.drew ?_ | refine below_drewN ?_ _ | refine Below.setCell ?_ ?_ _ | refine Below.alloc ?_ ?_ _ | refine Below.trans ?_ (Below.mono (by assumption) ?_))) <;> first | (simp; done) | (simp; omega) | omega)
    · have q1 : ¬ 0 < i' := by omega
      have q2 : ¬ i' < 0 := by omega
      clear hs
      go_enter Tryz.func89, Tryz.ntmps89
      go_wp2_with fail
      refine (alike_any _ _ _ _ _ _ _).mono ?_
      rintro e w0 ⟨rfl, hb0⟩
      rw [H.out]
      have hz0 := hb0.size
      obtain ⟨hc0, hf0⟩ := bcell hb0
      simp at hz0 hc0 hf0
      have l0 : w.heap.size + 1 + 1 < w0.heap.size := by omega
      have l1 : w.heap.size + 1 < w0.heap.size := by omega
      have l2 : w.heap.size < w0.heap.size := by omega
      go_wp2_with fail
      all_goals refine bodyPost_ret (v := .agg #[.int .i64 1, .int .i64 (i + i'), .string ⟨#[]⟩]) (by simp [results, Tryz.results89, go_sem, *]) rfl ⟨rfl, ?_⟩
      all_goals ((with_reducible repeat' (first | exact Below.refl _ _ | assumption | refine Below.drew ?_ | refine below_drewN ?_ _ | refine Below.setCell ?_ ?_ _ | refine Below.alloc ?_ ?_ _ | refine Below.trans ?_ (Below.mono (by assumption) ?_))) <;> first | (simp; done) | (simp; omega) | omega)
    · have q2 : ¬ i' < 0 := by omega
      go_enter Tryz.func89, Tryz.ntmps89
      go_wp2_with fail
      refine (alike_any _ _ _ _ _ _ _).mono ?_
      rintro e w0 ⟨rfl, hb0⟩
      rw [H.out]
      have hz0 := hb0.size
      obtain ⟨hc0, hf0⟩ := bcell hb0
      simp at hz0 hc0 hf0
      have l0 : w.heap.size + 1 + 1 < w0.heap.size := by omega
      have l1 : w.heap.size + 1 < w0.heap.size := by omega
      have l2 : w.heap.size < w0.heap.size := by omega
      go_wp2_with fail
      all_goals refine bodyPost_ret (v := .agg #[.int .i64 1, .int .i64 (i + i'), .string ⟨#[]⟩]) (by simp [results, Tryz.results89, go_sem, *]) rfl ⟨rfl, ?_⟩
      all_goals ((with_reducible repeat' (first | exact Below.refl _ _ | assumption | refine Below.drew ?_ | refine below_drewN ?_ _ | refine Below.setCell ?_ ?_ _ | refine Below.alloc ?_ ?_ _ | refine Below.trans ?_ (Below.mono (by assumption) ?_))) <;> first | (simp; done) | (simp; omega) | omega)
set_option maxHeartbeats 1000000 in
theorem plus_up (i : Int) (s : List UInt8) (k' i' : Int) (s' : List UInt8) (w : World) (h : alikeB ⟨1, i, s⟩ ⟨k', i', s'⟩ = true) (q : 0 < i' → wrap64 (i + i') < i) (q2 : i' ≤ 0 → i' < 0 ∧ i < wrap64 (i + i')) :
    Calls Tryz.prog 89 #[.agg #[.int .i64 1, .int .i64 i, .string ⟨s.toArray⟩], .agg #[.int .i64 k', .int .i64 i', .string ⟨s'.toArray⟩]] w (Ret (.agg #[.int .i64 0, .int .i64 0, .string ⟨#[]⟩]) w) := by
    have H := Lib.hid h
    clear h
    by_cases hs : 0 < i'
    · have q3 := q hs
      clear q q2
      go_enter Tryz.func89, Tryz.ntmps89
      go_wp2_with fail
      refine (alike_any _ _ _ _ _ _ _).mono ?_
      rintro e w0 ⟨rfl, hb0⟩
      rw [H.out]
      have hz0 := hb0.size
      obtain ⟨hc0, hf0⟩ := bcell hb0
      simp at hz0 hc0 hf0
      have l0 : w.heap.size + 1 + 1 < w0.heap.size := by omega
      have l1 : w.heap.size + 1 < w0.heap.size := by omega
      have l2 : w.heap.size < w0.heap.size := by omega
      go_wp2_with fail
      all_goals refine bodyPost_ret (v := .agg #[.int .i64 0, .int .i64 0, .string ⟨#[]⟩]) (by simp [results, Tryz.results89, go_sem, *]) rfl ⟨rfl, ?_⟩
      all_goals ((with_reducible repeat' (first | exact Below.refl _ _ | assumption | refine Below.drew ?_ | refine below_drewN ?_ _ | refine Below.setCell ?_ ?_ _ | refine Below.alloc ?_ ?_ _ | refine Below.trans ?_ (Below.mono (by assumption) ?_))) <;> first | (simp; done) | (simp; omega) | omega)
    · obtain ⟨q3, q4⟩ := q2 (by omega)
      have q5 : ¬ 0 < i' := by omega
      clear q q2
      go_enter Tryz.func89, Tryz.ntmps89
      go_wp2_with fail
      refine (alike_any _ _ _ _ _ _ _).mono ?_
      rintro e w0 ⟨rfl, hb0⟩
      rw [H.out]
      have hz0 := hb0.size
      obtain ⟨hc0, hf0⟩ := bcell hb0
      simp at hz0 hc0 hf0
      have l0 : w.heap.size + 1 + 1 < w0.heap.size := by omega
      have l1 : w.heap.size + 1 < w0.heap.size := by omega
      have l2 : w.heap.size < w0.heap.size := by omega
      go_wp2_with fail
      all_goals refine bodyPost_ret (v := .agg #[.int .i64 0, .int .i64 0, .string ⟨#[]⟩]) (by simp [results, Tryz.results89, go_sem, *]) rfl ⟨rfl, ?_⟩
      all_goals ((with_reducible repeat' (first | exact Below.refl _ _ | assumption | refine Below.drew ?_ | refine below_drewN ?_ _ | refine Below.setCell ?_ ?_ _ | refine Below.alloc ?_ ?_ _ | refine Below.trans ?_ (Below.mono (by assumption) ?_))) <;> first | (simp; done) | (simp; omega) | omega)
set_option maxHeartbeats 1000000 in
theorem minus_no (k i : Int) (s : List UInt8) (k' i' : Int) (s' : List UInt8) (w : World) (h : alikeB ⟨k, i, s⟩ ⟨k', i', s'⟩ = false) :
    Calls Tryz.prog 90 #[.agg #[.int .i64 k, .int .i64 i, .string ⟨s.toArray⟩], .agg #[.int .i64 k', .int .i64 i', .string ⟨s'.toArray⟩]] w (Ret (.agg #[.int .i64 0, .int .i64 0, .string ⟨#[]⟩]) w) := by
    have H := Lib.hid h
    clear h
    go_enter Tryz.func90, Tryz.ntmps90
    go_wp2_with fail
    refine (alike_any _ _ _ _ _ _ _).mono ?_
    rintro e w0 ⟨rfl, hb0⟩
    rw [H.out]
    have hz0 := hb0.size
    obtain ⟨hc0, hf0⟩ := bcell hb0
    simp at hz0 hc0 hf0
    have l0 : w.heap.size + 1 + 1 < w0.heap.size := by omega
    have l1 : w.heap.size + 1 < w0.heap.size := by omega
    have l2 : w.heap.size < w0.heap.size := by omega
    go_wp2_with fail
    all_goals refine bodyPost_ret (v := .agg #[.int .i64 0, .int .i64 0, .string ⟨#[]⟩]) (by simp [results, Tryz.results90, go_sem, *]) rfl ⟨rfl, ?_⟩
    all_goals ((with_reducible repeat' (first | exact Below.refl _ _ | assumption | refine Below.drew ?_ | refine below_drewN ?_ _ | refine Below.setCell ?_ ?_ _ | refine Below.alloc ?_ ?_ _ | refine Below.trans ?_ (Below.mono (by assumption) ?_))) <;> first | (simp; done) | (simp; omega) | omega)
set_option maxHeartbeats 1000000 in
theorem minus_other (k i : Int) (s : List UInt8) (k' i' : Int) (s' : List UInt8) (w : World) (h : alikeB ⟨k, i, s⟩ ⟨k', i', s'⟩ = true) (hk : (k != 1) = true) :
    Calls Tryz.prog 90 #[.agg #[.int .i64 k, .int .i64 i, .string ⟨s.toArray⟩], .agg #[.int .i64 k', .int .i64 i', .string ⟨s'.toArray⟩]] w (Ret (.agg #[.int .i64 0, .int .i64 0, .string ⟨#[]⟩]) w) := by
    have H := Lib.hid h
    clear h
    go_enter Tryz.func90, Tryz.ntmps90
    go_wp2_with fail
    refine (alike_any _ _ _ _ _ _ _).mono ?_
    rintro e w0 ⟨rfl, hb0⟩
    rw [H.out]
    have hz0 := hb0.size
    obtain ⟨hc0, hf0⟩ := bcell hb0
    simp at hz0 hc0 hf0
    have l0 : w.heap.size + 1 + 1 < w0.heap.size := by omega
    have l1 : w.heap.size + 1 < w0.heap.size := by omega
    have l2 : w.heap.size < w0.heap.size := by omega
    go_wp2_with fail
    all_goals refine bodyPost_ret (v := .agg #[.int .i64 0, .int .i64 0, .string ⟨#[]⟩]) (by simp [results, Tryz.results90, go_sem, *]) rfl ⟨rfl, ?_⟩
    all_goals ((with_reducible repeat' (first | exact Below.refl _ _ | assumption | refine Below.drew ?_ | refine below_drewN ?_ _ | refine Below.setCell ?_ ?_ _ | refine Below.alloc ?_ ?_ _ | refine Below.trans ?_ (Below.mono (by assumption) ?_))) <;> first | (simp; done) | (simp; omega) | omega)
set_option maxHeartbeats 1000000 in
theorem minus_fits (i : Int) (s : List UInt8) (k' i' : Int) (s' : List UInt8) (w : World) (h : alikeB ⟨1, i, s⟩ ⟨k', i', s'⟩ = true) (h1 : -9223372036854775808 ≤ i - i') (h2 : i - i' ≤ 9223372036854775807) :
    Calls Tryz.prog 90 #[.agg #[.int .i64 1, .int .i64 i, .string ⟨s.toArray⟩], .agg #[.int .i64 k', .int .i64 i', .string ⟨s'.toArray⟩]] w (Ret (.agg #[.int .i64 1, .int .i64 (i - i'), .string ⟨#[]⟩]) w) := by
    have H := Lib.hid h
    clear h
    rcases Int.lt_trichotomy i' 0 with hs | hs | hs
    · have q1 : ¬ 0 < i' := by omega
      go_enter Tryz.func90, Tryz.ntmps90
      go_wp2_with fail
      refine (alike_any _ _ _ _ _ _ _).mono ?_
      rintro e w0 ⟨rfl, hb0⟩
      rw [H.out]
      have hz0 := hb0.size
      obtain ⟨hc0, hf0⟩ := bcell hb0
      simp at hz0 hc0 hf0
      have l0 : w.heap.size + 1 + 1 < w0.heap.size := by omega
      have l1 : w.heap.size + 1 < w0.heap.size := by omega
      have l2 : w.heap.size < w0.heap.size := by omega
      go_wp2_with fail
      all_goals refine bodyPost_ret (v := .agg #[.int .i64 1, .int .i64 (i - i'), .string ⟨#[]⟩]) (by simp [results, Tryz.results90, go_sem, *]) rfl ⟨rfl, ?_⟩
      all_goals ((with_reducible repeat' (first | exact Below.refl _ _ | assumption | refine Below.drew ?_ | refine below_drewN ?_ _ | refine Below.setCell ?_ ?_ _ | refine Below.alloc ?_ ?_ _ | refine Below.trans ?_ (Below.mono (by assumption) ?_))) <;> first | (simp; done) | (simp; omega) | omega)
    · have q1 : ¬ 0 < i' := by omega
      have q2 : ¬ i' < 0 := by omega
      clear hs
      go_enter Tryz.func90, Tryz.ntmps90
      go_wp2_with fail
      refine (alike_any _ _ _ _ _ _ _).mono ?_
      rintro e w0 ⟨rfl, hb0⟩
      rw [H.out]
      have hz0 := hb0.size
      obtain ⟨hc0, hf0⟩ := bcell hb0
      simp at hz0 hc0 hf0
      have l0 : w.heap.size + 1 + 1 < w0.heap.size := by omega
      have l1 : w.heap.size + 1 < w0.heap.size := by omega
      have l2 : w.heap.size < w0.heap.size := by omega
      go_wp2_with fail
      all_goals refine bodyPost_ret (v := .agg #[.int .i64 1, .int .i64 (i - i'), .string ⟨#[]⟩]) (by simp [results, Tryz.results90, go_sem, *]) rfl ⟨rfl, ?_⟩
      all_goals ((with_reducible repeat' (first | exact Below.refl _ _ | assumption | refine Below.drew ?_ | refine below_drewN ?_ _ | refine Below.setCell ?_ ?_ _ | refine Below.alloc ?_ ?_ _ | refine Below.trans ?_ (Below.mono (by assumption) ?_))) <;> first | (simp; done) | (simp; omega) | omega)
    · have q2 : ¬ i' < 0 := by omega
      go_enter Tryz.func90, Tryz.ntmps90
      go_wp2_with fail
      refine (alike_any _ _ _ _ _ _ _).mono ?_
      rintro e w0 ⟨rfl, hb0⟩
      rw [H.out]
      have hz0 := hb0.size
      obtain ⟨hc0, hf0⟩ := bcell hb0
      simp at hz0 hc0 hf0
      have l0 : w.heap.size + 1 + 1 < w0.heap.size := by omega
      have l1 : w.heap.size + 1 < w0.heap.size := by omega
      have l2 : w.heap.size < w0.heap.size := by omega
      go_wp2_with fail
      all_goals refine bodyPost_ret (v := .agg #[.int .i64 1, .int .i64 (i - i'), .string ⟨#[]⟩]) (by simp [results, Tryz.results90, go_sem, *]) rfl ⟨rfl, ?_⟩
      all_goals ((with_reducible repeat' (first | exact Below.refl _ _ | assumption | refine Below.drew ?_ | refine below_drewN ?_ _ | refine Below.setCell ?_ ?_ _ | refine Below.alloc ?_ ?_ _ | refine Below.trans ?_ (Below.mono (by assumption) ?_))) <;> first | (simp; done) | (simp; omega) | omega)
set_option maxHeartbeats 1000000 in
theorem minus_up (i : Int) (s : List UInt8) (k' i' : Int) (s' : List UInt8) (w : World) (h : alikeB ⟨1, i, s⟩ ⟨k', i', s'⟩ = true) (q : 0 < i' → i < wrap64 (i - i')) (q2 : i' ≤ 0 → i' < 0 ∧ wrap64 (i - i') < i) :
    Calls Tryz.prog 90 #[.agg #[.int .i64 1, .int .i64 i, .string ⟨s.toArray⟩], .agg #[.int .i64 k', .int .i64 i', .string ⟨s'.toArray⟩]] w (Ret (.agg #[.int .i64 0, .int .i64 0, .string ⟨#[]⟩]) w) := by
    have H := Lib.hid h
    clear h
    by_cases hs : 0 < i'
    · have q3 := q hs
      clear q q2
      go_enter Tryz.func90, Tryz.ntmps90
      go_wp2_with fail
      refine (alike_any _ _ _ _ _ _ _).mono ?_
      rintro e w0 ⟨rfl, hb0⟩
      rw [H.out]
      have hz0 := hb0.size
      obtain ⟨hc0, hf0⟩ := bcell hb0
      simp at hz0 hc0 hf0
      have l0 : w.heap.size + 1 + 1 < w0.heap.size := by omega
      have l1 : w.heap.size + 1 < w0.heap.size := by omega
      have l2 : w.heap.size < w0.heap.size := by omega
      go_wp2_with fail
      all_goals refine bodyPost_ret (v := .agg #[.int .i64 0, .int .i64 0, .string ⟨#[]⟩]) (by simp [results, Tryz.results90, go_sem, *]) rfl ⟨rfl, ?_⟩
      all_goals ((with_reducible repeat' (first | exact Below.refl _ _ | assumption | refine Below.drew ?_ | refine below_drewN ?_ _ | refine Below.setCell ?_ ?_ _ | refine Below.alloc ?_ ?_ _ | refine Below.trans ?_ (Below.mono (by assumption) ?_))) <;> first | (simp; done) | (simp; omega) | omega)
    · obtain ⟨q3, q4⟩ := q2 (by omega)
      have q5 : ¬ 0 < i' := by omega
      clear q q2
      go_enter Tryz.func90, Tryz.ntmps90
      go_wp2_with fail
      refine (alike_any _ _ _ _ _ _ _).mono ?_
      rintro e w0 ⟨rfl, hb0⟩
      rw [H.out]
      have hz0 := hb0.size
      obtain ⟨hc0, hf0⟩ := bcell hb0
      simp at hz0 hc0 hf0
      have l0 : w.heap.size + 1 + 1 < w0.heap.size := by omega
      have l1 : w.heap.size + 1 < w0.heap.size := by omega
      have l2 : w.heap.size < w0.heap.size := by omega
      go_wp2_with fail
      all_goals refine bodyPost_ret (v := .agg #[.int .i64 0, .int .i64 0, .string ⟨#[]⟩]) (by simp [results, Tryz.results90, go_sem, *]) rfl ⟨rfl, ?_⟩
      all_goals ((with_reducible repeat' (first | exact Below.refl _ _ | assumption | refine Below.drew ?_ | refine below_drewN ?_ _ | refine Below.setCell ?_ ?_ _ | refine Below.alloc ?_ ?_ _ | refine Below.trans ?_ (Below.mono (by assumption) ?_))) <;> first | (simp; done) | (simp; omega) | omega)

theorem plus_any (k i : Int) (s : List UInt8) (k' i' : Int) (s' : List UInt8) (w : World) (h1 : -9223372036854775808 ≤ i ∧ i ≤ 9223372036854775807) (h2 : -9223372036854775808 ≤ i' ∧ i' ≤ 9223372036854775807) :
    Calls Tryz.prog 89 #[.agg #[.int .i64 k, .int .i64 i, .string ⟨s.toArray⟩], .agg #[.int .i64 k', .int .i64 i', .string ⟨s'.toArray⟩]] w (Ret (.agg #[.int .i64 (plusV ⟨k, i, s⟩ ⟨k', i', s'⟩).k, .int .i64 (plusV ⟨k, i, s⟩ ⟨k', i', s'⟩).i, .string ⟨(plusV ⟨k, i, s⟩ ⟨k', i', s'⟩).s.toArray⟩]) w) := by
  cases h : alikeB ⟨k, i, s⟩ ⟨k', i', s'⟩
  · have e : plusV ⟨k, i, s⟩ ⟨k', i', s'⟩ = ⟨0, 0, []⟩ := by unfold plusV; rw [h]; rfl
    rw [e]
    exact plus_no k i s k' i' s' w h
  · by_cases hk : k = 1
    · subst hk
      by_cases hf : -9223372036854775808 ≤ i + i' ∧ i + i' ≤ 9223372036854775807
      · have e : plusV ⟨1, i, s⟩ ⟨k', i', s'⟩ = ⟨1, i + i', []⟩ := by
          unfold plusV fits; rw [h, if_pos (by simp; exact hf)]
        rw [e]
        exact plus_fits i s k' i' s' w h hf.1 hf.2
      · have e : plusV ⟨1, i, s⟩ ⟨k', i', s'⟩ = ⟨0, 0, []⟩ := by
          unfold plusV fits; rw [h, if_neg (by simp; omega)]; rfl
        rw [e]
        refine plus_up i s k' i' s' w h (fun hs => ?_) (fun hs => ?_)
        · rw [wrap_up _ (by omega) (by omega)]; omega
        · rw [wrap_down _ (by omega) (by omega)]; omega
    · have e : plusV ⟨k, i, s⟩ ⟨k', i', s'⟩ = ⟨0, 0, []⟩ := by
        unfold plusV; rw [if_neg (by simp [hk])]; rfl
      rw [e]
      exact plus_other k i s k' i' s' w h (by simp [hk])

theorem minus_any (k i : Int) (s : List UInt8) (k' i' : Int) (s' : List UInt8) (w : World) (h1 : -9223372036854775808 ≤ i ∧ i ≤ 9223372036854775807) (h2 : -9223372036854775808 ≤ i' ∧ i' ≤ 9223372036854775807) :
    Calls Tryz.prog 90 #[.agg #[.int .i64 k, .int .i64 i, .string ⟨s.toArray⟩], .agg #[.int .i64 k', .int .i64 i', .string ⟨s'.toArray⟩]] w (Ret (.agg #[.int .i64 (minusV ⟨k, i, s⟩ ⟨k', i', s'⟩).k, .int .i64 (minusV ⟨k, i, s⟩ ⟨k', i', s'⟩).i, .string ⟨(minusV ⟨k, i, s⟩ ⟨k', i', s'⟩).s.toArray⟩]) w) := by
  cases h : alikeB ⟨k, i, s⟩ ⟨k', i', s'⟩
  · have e : minusV ⟨k, i, s⟩ ⟨k', i', s'⟩ = ⟨0, 0, []⟩ := by unfold minusV; rw [h]; rfl
    rw [e]
    exact minus_no k i s k' i' s' w h
  · by_cases hk : k = 1
    · subst hk
      by_cases hf : -9223372036854775808 ≤ i - i' ∧ i - i' ≤ 9223372036854775807
      · have e : minusV ⟨1, i, s⟩ ⟨k', i', s'⟩ = ⟨1, i - i', []⟩ := by
          unfold minusV fits; rw [h, if_pos (by simp; exact hf)]
        rw [e]
        exact minus_fits i s k' i' s' w h hf.1 hf.2
      · have e : minusV ⟨1, i, s⟩ ⟨k', i', s'⟩ = ⟨0, 0, []⟩ := by
          unfold minusV fits; rw [h, if_neg (by simp; omega)]; rfl
        rw [e]
        refine minus_up i s k' i' s' w h (fun hs => ?_) (fun hs => ?_)
        · rw [wrap_down _ (by omega) (by omega)]; omega
        · rw [wrap_up _ (by omega) (by omega)]; omega
    · have e : minusV ⟨k, i, s⟩ ⟨k', i', s'⟩ = ⟨0, 0, []⟩ := by
        unfold minusV; rw [if_neg (by simp [hk])]; rfl
      rw [e]
      exact minus_other k i s k' i' s' w h (by simp [hk])

end Go.Proofs.YtdhjogmkhbpcgaaGreat
