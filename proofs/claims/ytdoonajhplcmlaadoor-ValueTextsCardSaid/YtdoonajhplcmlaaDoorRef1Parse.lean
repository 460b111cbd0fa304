/- The document's Parse: the value of a text, and whether there is one. Condition: a text that memory reaches. -/
import Derived.Test.YtdoonajhplcmlaaDoorParseLaw
import Derived.Test.YtdoonajhplcmlaaDoorRef1Text
namespace Go.Proofs.YtdoonajhplcmlaaDoor
open Go.RowKit

attribute [local go_sem] ByteArray.extract_mk ba_get ba_append
attribute [local go_sem ↓] Go.wp_at_zero Go.wp_at_succ

/-- What the document's Parse answers: is there a value, and which. -/
def RetQ (s : List UInt8) (w : World) (e : Ending) (w' : World) : Prop :=
  ∃ X : V, e = .returned (.tuple #[.agg #[.int .i64 (X).k, .int .i64 (X).i, .string ⟨(X).s.toArray⟩], .bool (parseB s)]) ∧ (parseB s = true → X = parseV s) ∧ Below w.heap.size w w'
theorem retQ_yes {s : List UInt8} {v : V} {w w' : World} (h : parses s v) (hb : Below w.heap.size w w') : RetQ s w (.returned (.tuple #[.agg #[.int .i64 (v).k, .int .i64 (v).i, .string ⟨(v).s.toArray⟩], .bool true])) w' := by
  obtain ⟨h1, h2⟩ := parse_yes h
  exact ⟨v, by rw [h1], fun _ => h2.symm, hb⟩
theorem retQ_no {s : List UInt8} {v : V} {w w' : World} (h : ∀ x, ¬ parses s x) (hb : Below w.heap.size w w') : RetQ s w (.returned (.tuple #[.agg #[.int .i64 (v).k, .int .i64 (v).i, .string ⟨(v).s.toArray⟩], .bool false])) w' := by
  obtain ⟨h1, _⟩ := parse_no h
  exact ⟨v, by rw [h1], (fun e => by rw [h1] at e; cases e), hb⟩

theorem pn' : parses [78, 85, 76, 76] ⟨0, 0, []⟩ := by decide +kernel
theorem pt' : parses [84, 82, 85, 69] ⟨3, 1, []⟩ := by decide +kernel
theorem pf' : parses [70, 65, 76, 83, 69] ⟨3, 0, []⟩ := by decide +kernel

set_option maxRecDepth 100000 in
set_option maxHeartbeats 2000000 in
theorem rparse_null (w : World) : Calls Tryd.prog 39 #[.string ⟨#[78, 85, 76, 76]⟩] w (RetQ [78, 85, 76, 76] w) := by
  have l0 : w.heap.size < w.heap.size + 1 + 1 := by omega
  go_enter Tryd.func39, Tryd.ntmps39
  go_wp2_with fail
  refine wp_loop_rounds 1 ?_
  rw [rounds_succ]
  go_wp2_with fail
  refine (rtext0_any _).mono ?_
  rintro e w1 ⟨rfl, hb1⟩
  have hz1 := hb1.size
  obtain ⟨hc1, hf1⟩ := bcell hb1
  simp at hz1 hc1 hf1
  have l1 : w.heap.size < w1.heap.size := by omega
  have l2 : w.heap.size + 1 < w1.heap.size := by omega
  go_wp2_with fail
  refine bodyPost_ret (v := .tuple #[.agg #[.int .i64 ((⟨0, 0, []⟩ : V)).k, .int .i64 ((⟨0, 0, []⟩ : V)).i, .string ⟨((⟨0, 0, []⟩ : V)).s.toArray⟩], .bool true]) (by simp [results, Tryd.results39, go_sem, *]) rfl (retQ_yes pn' ?_)
  ((repeat' (first | with_reducible exact Below.refl _ _ | with_reducible assumption | with_reducible refine Below.drew ?_ | with_reducible refine below_drewN ?_ _ | with_reducible refine Below.setCell ?_ ?_ _ | with_reducible refine Below.alloc ?_ ?_ _ | with_reducible refine Below.trans ?_ (Below.mono (by assumption) ?_))) <;> (first | (simp; done) | (simp; omega) | omega))
set_option maxRecDepth 100000 in
set_option maxHeartbeats 2000000 in
theorem rparse_false (w : World) : Calls Tryd.prog 39 #[.string ⟨#[70, 65, 76, 83, 69]⟩] w (RetQ [70, 65, 76, 83, 69] w) := by
  have l0 : w.heap.size < w.heap.size + 1 + 1 := by omega
  go_enter Tryd.func39, Tryd.ntmps39
  go_wp2_with fail
  refine wp_loop_rounds 2 ?_
  rw [rounds_succ]
  go_wp2_with fail
  refine (rtext0_any _).mono ?_
  rintro e w1 ⟨rfl, hb1⟩
  have hz1 := hb1.size
  obtain ⟨hc1, hf1⟩ := bcell hb1
  simp at hz1 hc1 hf1
  have l1 : w.heap.size < w1.heap.size := by omega
  have l2 : w.heap.size + 1 < w1.heap.size := by omega
  go_wp2_with fail
  rw [rounds_succ]
  go_wp2_with fail
  refine (rtext3_any false _).mono ?_
  rintro e w2 ⟨rfl, hb2⟩
  have hz2 := hb2.size
  obtain ⟨hc2, hf2⟩ := bcell hb2
  have l3 : w.heap.size < w2.heap.size := by omega
  have l4 : w.heap.size + 1 < w2.heap.size := by omega
  go_wp2_with fail
  refine bodyPost_ret (v := .tuple #[.agg #[.int .i64 ((⟨3, 0, []⟩ : V)).k, .int .i64 ((⟨3, 0, []⟩ : V)).i, .string ⟨((⟨3, 0, []⟩ : V)).s.toArray⟩], .bool true]) (by simp [results, Tryd.results39, go_sem, *]) rfl (retQ_yes pf' ?_)
  ((repeat' (first | with_reducible exact Below.refl _ _ | with_reducible assumption | with_reducible refine Below.drew ?_ | with_reducible refine below_drewN ?_ _ | with_reducible refine Below.setCell ?_ ?_ _ | with_reducible refine Below.alloc ?_ ?_ _ | with_reducible refine Below.trans ?_ (Below.mono (by assumption) ?_))) <;> (first | (simp; done) | (simp; omega) | omega))
set_option maxRecDepth 100000 in
set_option maxHeartbeats 2000000 in
theorem rparse_true (w : World) : Calls Tryd.prog 39 #[.string ⟨#[84, 82, 85, 69]⟩] w (RetQ [84, 82, 85, 69] w) := by
  have l0 : w.heap.size < w.heap.size + 1 + 1 := by omega
  go_enter Tryd.func39, Tryd.ntmps39
  go_wp2_with fail
  refine wp_loop_rounds 3 ?_
  rw [rounds_succ]
  go_wp2_with fail
  refine (rtext0_any _).mono ?_
  rintro e w1 ⟨rfl, hb1⟩
  have hz1 := hb1.size
  obtain ⟨hc1, hf1⟩ := bcell hb1
  simp at hz1 hc1 hf1
  have l1 : w.heap.size < w1.heap.size := by omega
  have l2 : w.heap.size + 1 < w1.heap.size := by omega
  go_wp2_with fail
  rw [rounds_succ]
  go_wp2_with fail
  refine (rtext3_any false _).mono ?_
  rintro e w2 ⟨rfl, hb2⟩
  have hz2 := hb2.size
  obtain ⟨hc2, hf2⟩ := bcell hb2
  have l3 : w.heap.size < w2.heap.size := by omega
  have l4 : w.heap.size + 1 < w2.heap.size := by omega
  go_wp2_with fail
  rw [rounds_succ]
  go_wp2_with fail
  refine (rtext3_any true _).mono ?_
  rintro e w3 ⟨rfl, hb3⟩
  have hz3 := hb3.size
  obtain ⟨hc3, hf3⟩ := bcell hb3
  have l5 : w.heap.size < w3.heap.size := by omega
  have l6 : w.heap.size + 1 < w3.heap.size := by omega
  go_wp2_with fail
  refine bodyPost_ret (v := .tuple #[.agg #[.int .i64 ((⟨3, 1, []⟩ : V)).k, .int .i64 ((⟨3, 1, []⟩ : V)).i, .string ⟨((⟨3, 1, []⟩ : V)).s.toArray⟩], .bool true]) (by simp [results, Tryd.results39, go_sem, *]) rfl (retQ_yes pt' ?_)
  ((repeat' (first | with_reducible exact Below.refl _ _ | with_reducible assumption | with_reducible refine Below.drew ?_ | with_reducible refine below_drewN ?_ _ | with_reducible refine Below.setCell ?_ ?_ _ | with_reducible refine Below.alloc ?_ ?_ _ | with_reducible refine Below.trans ?_ (Below.mono (by assumption) ?_))) <;> (first | (simp; done) | (simp; omega) | omega))

end Go.Proofs.YtdoonajhplcmlaaDoor
