/- value.known, and words on fields and worlds. Condition: none. -/
import Derived.Test.YtdhjogmkhbpcgaaGreatVeq
namespace Go.Proofs.YtdhjogmkhbpcgaaGreat
open Go.RowKit

attribute [local go_sem] ByteArray.extract_mk ba_get
attribute [local go_sem ↓] Go.wp_at_zero Go.wp_at_succ

/-- The world at hand, but for what R says of it, is forgotten. -/
theorem wp_forget {P : Program} {c : Code} {Q : Exit → Act → World → Prop} {a : Act} {w : World} (R : World → Prop) (h : R w) (k : ∀ w', R w' → Code.wp P c Q a w') : Code.wp P c Q a w := k w h
theorem Blk_lt_of_cell {w : World} {b o : Nat} {v : Value} (h : w.cell? ⟨b, o, none⟩ = some v) : b < w.heap.size := by
  rcases Nat.lt_or_ge b w.heap.size with hlt | hge
  · exact hlt
  · simp [World.cell?, Array.getElem?_eq_none hge] at h
theorem run_field0 (k i : Int) (s : ByteArray) (w : World) : (Instr.field 26 (.agg #[.int .i64 k, .int .i64 i, .string s]) 0).run Tryz.prog w = .ok (.int .i64 k) w := by kernel_rfl
theorem run_field1 (k i : Int) (s : ByteArray) (w : World) : (Instr.field 26 (.agg #[.int .i64 k, .int .i64 i, .string s]) 1).run Tryz.prog w = .ok (.int .i64 i) w := by kernel_rfl
theorem run_field2 (k i : Int) (s : ByteArray) (w : World) : (Instr.field 26 (.agg #[.int .i64 k, .int .i64 i, .string s]) 2).run Tryz.prog w = .ok (.string s) w := by kernel_rfl
def V.agg (v : V) : Value := .agg #[.int .i64 v.k, .int .i64 v.i, .string ⟨v.s.toArray⟩]
def V.may (v : V) : Bool := mayB v.k v.i v.s
def V.good (v : V) : V := goodV v.k v.i v.s
theorem V.good_may {v : V} (h : v.may = true) : v.good = v := by unfold V.good goodV; unfold V.may at h; rw [h]; rfl
theorem V.good_not {v : V} (h : v.may = false) : v.good = V.zero := by unfold V.good goodV; unfold V.may at h; rw [h]; rfl

set_option maxHeartbeats 400000 in
theorem known_any (k i : Int) (s : List UInt8) (w : World) :
    Calls Tryz.prog 98 #[.agg #[.int .i64 k, .int .i64 i, .string ⟨s.toArray⟩]] w (Ret (.agg #[.int .i64 (goodV k i s).k, .int .i64 (goodV k i s).i, .string ⟨(goodV k i s).s.toArray⟩]) w) := by
  cases hm : mayB k i s
  · have e : goodV k i s = ⟨0, 0, []⟩ := by unfold goodV; rw [hm]; rfl
    rw [e]
    clear e
    have HM := Lib.hid hm
    clear hm
    go_enter Tryz.func98, Tryz.ntmps98
    go_wp2_with fail
    refine (may_any _ _ _ _).mono ?_
    rintro e w1 ⟨rfl, hb⟩
    rw [HM.out]
    obtain ⟨hc, hf⟩ := bcell hb
    have hz := hb.size
    simp at hz hc hf
    go_wp2
    refine bodyPost_ret (v := .agg #[.int .i64 0, .int .i64 0, .string ⟨#[]⟩]) (by simp [results, Tryz.results98, go_sem, hc]) rfl ⟨rfl, ?_⟩
    ((with_reducible repeat' (first | exact Below.refl _ _ | assumption | refine Below.drew ?_ | refine below_drewN ?_ _ | refine Below.setCell ?_ ?_ _ | refine Below.alloc ?_ ?_ _ | refine Below.trans ?_ (Below.mono (by assumption) ?_))) <;> first | (simp; done) | (simp; omega) | omega)
  · have e : goodV k i s = ⟨k, i, s⟩ := by unfold goodV; rw [hm]; rfl
    rw [e]
    clear e
    have HM := Lib.hid hm
    clear hm
    go_enter Tryz.func98, Tryz.ntmps98
    go_wp2_with fail
    refine (may_any _ _ _ _).mono ?_
    rintro e w1 ⟨rfl, hb⟩
    rw [HM.out]
    obtain ⟨hc, hf⟩ := bcell hb
    have hz := hb.size
    simp at hz hc hf
    go_wp2
    refine bodyPost_ret (v := .agg #[.int .i64 k, .int .i64 i, .string ⟨s.toArray⟩]) (by simp [results, Tryz.results98, go_sem, hc]) rfl ⟨rfl, ?_⟩
    ((with_reducible repeat' (first | exact Below.refl _ _ | assumption | refine Below.drew ?_ | refine below_drewN ?_ _ | refine Below.setCell ?_ ?_ _ | refine Below.alloc ?_ ?_ _ | refine Below.trans ?_ (Below.mono (by assumption) ?_))) <;> first | (simp; done) | (simp; omega) | omega)

end Go.Proofs.YtdhjogmkhbpcgaaGreat
