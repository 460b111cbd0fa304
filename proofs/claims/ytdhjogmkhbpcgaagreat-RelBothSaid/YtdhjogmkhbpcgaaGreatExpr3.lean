/- expr.place, expr.does as plain functions. Condition: columns that read as a list, no more than a million. -/
import Derived.Test.YtdhjogmkhbpcgaaGreatExpr2
import Derived.WideKeyEntry
import Derived.WideMake
import Derived.MapKept
import Derived.Laws.EntriesVeiled
namespace Go.Proofs.YtdhjogmkhbpcgaaGreat
open Go.RowKit Go.ChangeMaps

attribute [local go_sem] ByteArray.extract_mk ba_get ba_append
attribute [local go_sem ↓] Go.wp_at_zero Go.wp_at_succ run_eql_V run_neq_V

theorem dropC (l : List Col) (j : Nat) (v : Col) (h : l[j]? = some v) : l.drop j = v :: l.drop (j + 1) := by
  obtain ⟨hj, rfl⟩ := List.getElem?_eq_some_iff.1 h
  exact List.drop_eq_getElem_cons hj

set_option maxHeartbeats 400000 in
theorem placeC1_any (n : List UInt8) (t : Int) (b : Bool) (s : List UInt8) (g : Nat) (w : World) (h : w.cell? ⟨g, 0, none⟩ = some (.string ⟨s.toArray⟩)) :
    Calls Tryz.prog 115 #[.agg #[.string ⟨n.toArray⟩, .int .i64 t, .bool b], .pointer (some ⟨g, 0, none⟩)] w (Ret (.bool (n == s)) w) := by
  have hg : g < w.heap.size := Blk_lt_of_cell h
  go_enter Tryz.func115, Tryz.ntmps115
  go_wp2
  go_ret
  exact ⟨rfl, by ((with_reducible repeat' (first | exact Below.refl _ _ | assumption | refine Below.drew ?_ | refine below_drewN ?_ _ | refine Below.setCell ?_ ?_ _ | refine Below.alloc ?_ ?_ _ | refine Below.trans ?_ (Below.mono (by assumption) ?_))) <;> first | (simp; done) | (simp; omega) | omega)⟩

set_option maxHeartbeats 1000000 in
theorem indexFuncC_any (A : Option Addr) (c : Nat) (l : List Col) (s : List UInt8) (g : Nat) (w : World) (hl : l.length ≤ 1000000) (h : ColS w w.heap.size A l) (hu : w.cell? ⟨g, 0, none⟩ = some (.string ⟨s.toArray⟩)) :
    Calls Tryz.prog 114 #[.slice A l.length c, .func (.func 115) #[] #[.pointer (some ⟨g, 0, none⟩)]] w (Ret (.int .i64 (placeF l s)) w) := by
  obtain ⟨R, hR⟩ : ∃ R, placeF l s = R := ⟨_, rfl⟩
  rw [hR]
  have HR : Hid (placeFrom s (l.drop 0) 0 = R) := hR
  have HU := Lib.hid hu
  have hg : g < w.heap.size := Blk_lt_of_cell hu
  clear hR hu
  go_enter Tryz.func114, Tryz.ntmps114
  go_wp2
  go_loopw [8] (fun i wr => ∃ j : Nat, j ≤ l.length ∧ i = .int .i64 j ∧ Hid (placeFrom s (l.drop j) j = R) ∧ Below w.heap.size w wr) (fun i _ => l.length - (intOf i).toNat)
  case atStart => exact ⟨0, by omega, rfl, HR, Below.refl _ _⟩
  case round =>
    obtain ⟨j, hj, rfl, hrest, hbw⟩ := hrel
    by_cases hlt : j < l.length
    · obtain ⟨b, off, v, rfl, hbB, hv, c0, c1, c2⟩ := (h.below hbw).at_ hlt
      have hrest' := hrest.out
      rw [dropC l j v hv] at hrest'
      simp only [placeFrom] at hrest'
      have hzw := hbw.size
      have HW := Lib.hid ((hbw.cell (p := ⟨g, 0, none⟩) hg).trans HU.out)
      clear hv hrest
      obtain ⟨W, rfl⟩ : ∃ W, W = wr := ⟨_, rfl⟩
      by_cases hq : v.n = s
      · have HF : Hid ((j : Int) = R) := by
          show _ = _
          rw [← hrest', if_pos hq]
        have HQ : Hid ((v.n == s) = true) := by show _ = _; simpa using hq
        clear hrest' hq
        go_wp2_with fail
        refine (placeC1_any v.n v.t v.b s g W HW.out).mono ?_
        rintro e w1 ⟨rfl, hb1⟩
        rw [HQ.out]
        go_wp2_with fail
        go_ret
        exact ⟨by rw [← HF.out]; rfl, hbw.trans (hb1.mono hzw)⟩
      · have HF : Hid (placeFrom s (l.drop (j + 1)) (j + 1) = R) := by
          show _ = _
          rw [← hrest', if_neg hq]
        have HQ : Hid ((v.n == s) = false) := by show _ = _; simpa using hq
        clear hrest' hq
        go_wp2_with fail
        refine (placeC1_any v.n v.t v.b s g W HW.out).mono ?_
        rintro e w1 ⟨rfl, hb1⟩
        rw [HQ.out]
        go_wp2_with fail
        go_roundw
        case rel => exact ⟨j + 1, by omega, by go_num, HF, hbw.trans (hb1.mono hzw)⟩
        case measure => simp [intOf]; omega
    · have HF : Hid (R = -1) := by
        show _ = _
        rw [← hrest.out, List.drop_of_length_le (by omega)]
        rfl
      clear hrest
      go_wp2
      go_ret
      exact ⟨by rw [HF.out]; rfl, hbw⟩

set_option maxHeartbeats 400000 in
theorem placeC_any (A : Option Addr) (c : Nat) (l : List Col) (s : List UInt8) (w : World) (hl : l.length ≤ 1000000) (h : ColS w w.heap.size A l) :
    Calls Tryz.prog 81 #[.slice A l.length c, .string ⟨s.toArray⟩] w (Ret (.int .i64 (placeF l s)) w) := by
  obtain ⟨w0, hw0⟩ : ∃ w0, w.alloc (.cells #[.string ⟨s.toArray⟩] 9) = w0 := ⟨_, rfl⟩
  have hb0 : Below w.heap.size w w0 := by rw [← hw0]; ((with_reducible repeat' (first | exact Below.refl _ _ | assumption | refine Below.drew ?_ | refine below_drewN ?_ _ | refine Below.setCell ?_ ?_ _ | refine Below.alloc ?_ ?_ _ | refine Below.trans ?_ (Below.mono (by assumption) ?_))) <;> first | (simp; done) | (simp; omega) | omega)
  have k0 : Blk w0 w.heap.size 9 #[.string ⟨s.toArray⟩] := by rw [← hw0]; exact Blk.new _ _ _
  have h0 := (h.below hb0).more hb0.size
  have HW := Lib.hid hw0
  clear hw0 h
  go_enter Tryz.func81, Tryz.ntmps81
  go_wp2_with fail
  rw [HW.out]
  refine (indexFuncC_any A c l s w.heap.size w0 hl h0 k0.one.1).mono ?_
  rintro e w1 ⟨rfl, hb1⟩
  go_wp2_with fail
  go_ret
  exact ⟨rfl, hb0.trans (hb1.mono hb0.size)⟩

theorem updM {w : World} {b : Nat} {es : Array MapEntry} {clock : Nat} (s : List UInt8) (val : Value) (h : w.heap[b]? = some (.map es clock)) (hf : Instr.findNow .string (.string ⟨s.toArray⟩) es.toList 0 = some none) :
    ∃ w' : World, (Instr.mapUpdate 85 (.map (some b)) (.string ⟨s.toArray⟩) val).run Tryz.prog w = .ok () w' ∧ w'.heap[b]? = some (.map (es.push ⟨.string ⟨s.toArray⟩, val, clock⟩) (clock + 1)) ∧ w.grownBy w' (some b) := by
  have hlt : b < w.heap.size := (Array.getElem?_eq_some_iff.1 h).1
  have hc : (Instr.checkKey false 10000 9 (.string ⟨s.toArray⟩)).run Tryz.prog w = .ok () w := MapKept.run_checkKey (k := .string ⟨s.toArray⟩) Tryz.underlying9 (by simp [MapKept.IsKey]) false 9999
  refine ⟨setBlock w b (.map (es.push ⟨.string ⟨s.toArray⟩, val, clock⟩) (clock + 1)), ?_, by simp [setBlock, hlt], ⟨rfl, rfl, rfl, by simp [setBlock], fun k _ hne => ?_⟩⟩
  · simp [Instr.mapUpdate, run_underlying Tryz.underlying85, MapKept.run_getObj_map h, hc, MapKept.run_findKey Tryz.underlying9 hf, MapKept.run_setObj_map _ h, Result.andThen, setBlock]
  · have : k ≠ b := fun e => hne (by rw [e])
    simp [setBlock, Ne.symm this]
def doesE : Array MapEntry := #[]
  |>.push ⟨.string ⟨opAnd.toArray⟩, .func (.func 83) #[] #[], 0⟩
  |>.push ⟨.string ⟨opOr.toArray⟩, .func (.func 84) #[] #[], 1⟩
  |>.push ⟨.string ⟨opNot.toArray⟩, .func (.func 85) #[] #[], 2⟩
  |>.push ⟨.string ⟨opEq.toArray⟩, .func (.func 87) #[] #[], 3⟩
  |>.push ⟨.string ⟨opLt.toArray⟩, .func (.func 88) #[] #[], 4⟩
  |>.push ⟨.string ⟨opPlus.toArray⟩, .func (.func 89) #[] #[], 5⟩
  |>.push ⟨.string ⟨opMinus.toArray⟩, .func (.func 90) #[] #[], 6⟩
  |>.push ⟨.string ⟨opNull.toArray⟩, .func (.func 91) #[] #[], 7⟩
theorem lookM {w : World} {b i f : Nat} (op : List UInt8) (h : w.heap[b]? = some (.map doesE 8)) (hf : Instr.findNow .string (.string ⟨op.toArray⟩) doesE.toList 0 = some (some (i, .func (.func f) #[] #[]))) :
    (Instr.lookup 85 (.map (some b)) (.string ⟨op.toArray⟩) false).run Tryz.prog w = .ok (.func (.func f) #[] #[]) w := by
  have hc : ∀ e, (Instr.checkKey e 10000 9 (.string ⟨op.toArray⟩)).run Tryz.prog w = .ok () w := fun e => MapKept.run_checkKey (k := .string ⟨op.toArray⟩) Tryz.underlying9 (by simp [MapKept.IsKey]) e 9999
  simp [Instr.lookup, run_underlying Tryz.underlying85, MapKept.run_getObj_map h, hc, MapKept.run_findKey Tryz.underlying9 hf, Result.andThen]

set_option maxRecDepth 100000 in
set_option maxHeartbeats 1000000 in
theorem doesM_any (w : World) : Calls Tryz.prog 50 #[] w fun e w' => e = .returned (.map (some w.heap.size)) ∧ w'.heap[w.heap.size]? = some (.map doesE 8) ∧ Below w.heap.size w w' := by
  have m0 : (Instr.makeMap 85 none).run Tryz.prog w = .ok (.map (some w.heap.size)) (w.alloc (.map #[] 0)) := run_makeMap_plain w _
  have h0 : (w.alloc (.map #[] 0)).heap[w.heap.size]? = some (.map #[] 0) := heap_alloc_new w _
  have g0 : Below w.heap.size w (w.alloc (.map #[] 0)) := (Below.refl _ _).alloc (Nat.le_refl _) _
  generalize w.alloc (.map #[] 0) = w0 at *
  obtain ⟨w1, m1, h1, y1⟩ := updM opAnd (.func (.func 83) #[] #[]) h0 (by kernel_rfl)
  have g1 := g0.grown y1 g0.size (fun k hk => by cases hk; exact Nat.le_refl _)
  clear y1 h0 g0
  obtain ⟨w2, m2, h2, y2⟩ := updM opOr (.func (.func 84) #[] #[]) h1 (by kernel_rfl)
  have g2 := g1.grown y2 g1.size (fun k hk => by cases hk; exact Nat.le_refl _)
  clear y2 h1 g1
  obtain ⟨w3, m3, h3, y3⟩ := updM opNot (.func (.func 85) #[] #[]) h2 (by kernel_rfl)
  have g3 := g2.grown y3 g2.size (fun k hk => by cases hk; exact Nat.le_refl _)
  clear y3 h2 g2
  obtain ⟨w4, m4, h4, y4⟩ := updM opEq (.func (.func 87) #[] #[]) h3 (by kernel_rfl)
  have g4 := g3.grown y4 g3.size (fun k hk => by cases hk; exact Nat.le_refl _)
  clear y4 h3 g3
  obtain ⟨w5, m5, h5, y5⟩ := updM opLt (.func (.func 88) #[] #[]) h4 (by kernel_rfl)
  have g5 := g4.grown y5 g4.size (fun k hk => by cases hk; exact Nat.le_refl _)
  clear y5 h4 g4
  obtain ⟨w6, m6, h6, y6⟩ := updM opPlus (.func (.func 89) #[] #[]) h5 (by kernel_rfl)
  have g6 := g5.grown y6 g5.size (fun k hk => by cases hk; exact Nat.le_refl _)
  clear y6 h5 g5
  obtain ⟨w7, m7, h7, y7⟩ := updM opMinus (.func (.func 90) #[] #[]) h6 (by kernel_rfl)
  have g7 := g6.grown y7 g6.size (fun k hk => by cases hk; exact Nat.le_refl _)
  clear y7 h6 g6
  obtain ⟨w8, m8, h8, y8⟩ := updM opNull (.func (.func 91) #[] #[]) h7 (by kernel_rfl)
  have g8 := g7.grown y8 g7.size (fun k hk => by cases hk; exact Nat.le_refl _)
  clear y8 h7 g7
  have H8 : Hid (w8.heap[w.heap.size]? = some (.map doesE 8)) := h8
  clear h8
  unfold opAnd at m1
  unfold opOr at m2
  unfold opNot at m3
  unfold opEq at m4
  unfold opLt at m5
  unfold opPlus at m6
  unfold opMinus at m7
  unfold opNull at m8
  go_enter Tryz.func50, Tryz.ntmps50
  go_wp2
  go_ret
  exact ⟨rfl, H8.out, g8⟩

end Go.Proofs.YtdhjogmkhbpcgaaGreat
