/- expr.place, expr.does as plain functions. Condition: columns that read as a list, no more than a million. (expr.over).value and expr.Eval as plain functions. Condition: an expression that reads as a tree, texts no longer than a thousand; columns and a row that read as lists; numbers of 64 bits. Plain laws on expressions: what they may be, come to, and are of, without a measure of their height. No program in sight. Plain words for slices of numbers. Nothing of the program stands here. -/
import Derived.Test.YtdhjogmkhbpcgaaGreatExpr2
import Derived.WideKeyEntry
import Derived.WideMake
import Derived.MapKept
import Derived.Laws.EntriesVeiled
import Derived.Test.YtdhjogmkhbpcgaaGreatExAM
import Derived.Test.YtdhjogmkhbpcgaaGreatBase
namespace Go.Proofs.YtdhjogmkhbpcgaaGreat
open Go.RowKit Go.ChangeMaps

attribute [local go_sem] ByteArray.extract_mk ba_get ba_append
attribute [local go_sem ↓] Go.wp_at_zero Go.wp_at_succ run_eql_V run_neq_V

theorem dropC (l : List Col) (j : Nat) (v : Col) (h : l[j]? = some v) : l.drop j = v :: l.drop (j + 1) := by
  obtain ⟨hj, rfl⟩ := List.getElem?_eq_some_iff.1 h
  exact List.drop_eq_getElem_cons hj

set_option maxHeartbeats 400000 in
theorem placeC1_any (n : List UInt8) (t : Int) (b : Bool) (s : List UInt8) (g : Nat) (w : World) (h : w.cell? ⟨g, 0, none⟩ = some (.string ⟨s.toArray⟩)) :
    Calls Tryz.prog 115 #[.agg #[.string ⟨n.toArray⟩, .int .i64 t, .bool b], .pointer (some ⟨g, 0, none⟩)] w (Ret (.bool (n == s)) w) := by
  have hg : g < w.heap.size := Blk_lt_of_cell h
  go_enter Tryz.func115, Tryz.ntmps115
  go_wp2
  go_ret
  exact ⟨rfl, by exact bl⟩

set_option maxHeartbeats 1000000 in
theorem indexFuncC_any (A : Option Addr) (c : Nat) (l : List Col) (s : List UInt8) (g : Nat) (w : World) (hl : l.length ≤ 1000000) (h : ColS w w.heap.size A l) (hu : w.cell? ⟨g, 0, none⟩ = some (.string ⟨s.toArray⟩)) :
    Calls Tryz.prog 114 #[.slice A l.length c, .func (.func 115) #[] #[.pointer (some ⟨g, 0, none⟩)]] w (Ret (.int .i64 (placeF l s)) w) := by
  obtain ⟨R, hR⟩ : ∃ R, placeF l s = R := ⟨_, rfl⟩
  rw [hR]
  have HR : Hid (placeFrom s (l.drop 0) 0 = R) := hR
  have HU := Lib.hid hu
  have hg : g < w.heap.size := Blk_lt_of_cell hu
  clear hR hu
  go_enter Tryz.func114, Tryz.ntmps114
  go_wp2
  go_loopw [8] (fun i wr => ∃ j : Nat, j ≤ l.length ∧ i = .int .i64 j ∧ Hid (placeFrom s (l.drop j) j = R) ∧ Below w.heap.size w wr) (fun i _ => l.length - (intOf i).toNat)
  case atStart => exact ⟨0, by omega, rfl, HR, Below.refl _ _⟩
  case round =>
    obtain ⟨j, hj, rfl, hrest, hbw⟩ := hrel
    by_cases hlt : j < l.length
    · obtain ⟨b, off, v, rfl, hbB, hv, c0, c1, c2⟩ := (h.below hbw).at_ hlt
      have hrest' := hrest.out
      rw [dropC l j v hv] at hrest'
      simp only [placeFrom] at hrest'
      have hzw := hbw.size
      have HW := Lib.hid ((hbw.cell (p := ⟨g, 0, none⟩) hg).trans HU.out)
      clear hv hrest
      obtain ⟨W, rfl⟩ : ∃ W, W = wr := ⟨_, rfl⟩
      by_cases hq : v.n = s
      · have HF : Hid ((j : Int) = R) := by
          show _ = _
          rw [← hrest', if_pos hq]
        have HQ : Hid ((v.n == s) = true) := by show _ = _; simpa using hq
        clear hrest' hq
        go_wp2_with fail
        refine (placeC1_any v.n v.t v.b s g W HW.out).mono ?_
        rintro e w1 ⟨rfl, hb1⟩
        rw [HQ.out]
        go_wp2_with fail
        go_ret
        exact ⟨by rw [← HF.out]; rfl, hbw.trans (hb1.mono hzw)⟩
      · have HF : Hid (placeFrom s (l.drop (j + 1)) (j + 1) = R) := by
          show _ = _
          rw [← hrest', if_neg hq]
        have HQ : Hid ((v.n == s) = false) := by show _ = _; simpa using hq
        clear hrest' hq
        go_wp2_with fail
        refine (placeC1_any v.n v.t v.b s g W HW.out).mono ?_
        rintro e w1 ⟨rfl, hb1⟩
        rw [HQ.out]
        go_wp2_with fail
        go_roundw
        case rel => exact ⟨j + 1, by omega, by go_num, HF, hbw.trans (hb1.mono hzw)⟩
        case measure => simp [intOf]; omega
    · have HF : Hid (R = -1) := by
        show _ = _
        rw [← hrest.out, List.drop_of_length_le (by omega)]
        rfl
      clear hrest
      go_wp2
      go_ret
      exact ⟨by rw [HF.out]; rfl, hbw⟩

set_option maxHeartbeats 400000 in
theorem placeC_any (A : Option Addr) (c : Nat) (l : List Col) (s : List UInt8) (w : World) (hl : l.length ≤ 1000000) (h : ColS w w.heap.size A l) :
    Calls Tryz.prog 81 #[.slice A l.length c, .string ⟨s.toArray⟩] w (Ret (.int .i64 (placeF l s)) w) := by
  obtain ⟨w0, hw0⟩ : ∃ w0, w.alloc (.cells #[.string ⟨s.toArray⟩] 9) = w0 := ⟨_, rfl⟩
  have hb0 : Below w.heap.size w w0 := by rw [← hw0]; exact bl
  have k0 : Blk w0 w.heap.size 9 #[.string ⟨s.toArray⟩] := by rw [← hw0]; exact Blk.new _ _ _
  have h0 := (h.below hb0).more hb0.size
  have HW := Lib.hid hw0
  clear hw0 h
  go_enter Tryz.func81, Tryz.ntmps81
  go_wp2_with fail
  rw [HW.out]
  refine (indexFuncC_any A c l s w.heap.size w0 hl h0 k0.one.1).mono ?_
  rintro e w1 ⟨rfl, hb1⟩
  go_wp2_with fail
  go_ret
  exact ⟨rfl, hb0.trans (hb1.mono hb0.size)⟩

theorem updM {w : World} {b : Nat} {es : Array MapEntry} {clock : Nat} (s : List UInt8) (val : Value) (h : w.heap[b]? = some (.map es clock)) (hf : Instr.findNow .string (.string ⟨s.toArray⟩) es.toList 0 = some none) :
    ∃ w' : World, (Instr.mapUpdate 85 (.map (some b)) (.string ⟨s.toArray⟩) val).run Tryz.prog w = .ok () w' ∧ w'.heap[b]? = some (.map (es.push ⟨.string ⟨s.toArray⟩, val, clock⟩) (clock + 1)) ∧ w.grownBy w' (some b) := by
  have hlt : b < w.heap.size := (Array.getElem?_eq_some_iff.1 h).1
  have hc : (Instr.checkKey false 10000 9 (.string ⟨s.toArray⟩)).run Tryz.prog w = .ok () w := MapKept.run_checkKey (k := .string ⟨s.toArray⟩) Tryz.underlying9 (by simp [MapKept.IsKey]) false 9999
  refine ⟨setBlock w b (.map (es.push ⟨.string ⟨s.toArray⟩, val, clock⟩) (clock + 1)), ?_, by simp [setBlock, hlt], ⟨rfl, rfl, rfl, by simp [setBlock], fun k _ hne => ?_⟩⟩
  · simp [Instr.mapUpdate, run_underlying Tryz.underlying85, MapKept.run_getObj_map h, hc, MapKept.run_findKey Tryz.underlying9 hf, MapKept.run_setObj_map _ h, Result.andThen, setBlock]
  · have : k ≠ b := fun e => hne (by rw [e])
    simp [setBlock, Ne.symm this]
def doesE : Array MapEntry := #[]
  |>.push ⟨.string ⟨opAnd.toArray⟩, .func (.func 83) #[] #[], 0⟩
  |>.push ⟨.string ⟨opOr.toArray⟩, .func (.func 84) #[] #[], 1⟩
  |>.push ⟨.string ⟨opNot.toArray⟩, .func (.func 85) #[] #[], 2⟩
  |>.push ⟨.string ⟨opEq.toArray⟩, .func (.func 87) #[] #[], 3⟩
  |>.push ⟨.string ⟨opLt.toArray⟩, .func (.func 88) #[] #[], 4⟩
  |>.push ⟨.string ⟨opPlus.toArray⟩, .func (.func 89) #[] #[], 5⟩
  |>.push ⟨.string ⟨opMinus.toArray⟩, .func (.func 90) #[] #[], 6⟩
  |>.push ⟨.string ⟨opNull.toArray⟩, .func (.func 91) #[] #[], 7⟩
theorem lookM {w : World} {b i f : Nat} (op : List UInt8) (h : w.heap[b]? = some (.map doesE 8)) (hf : Instr.findNow .string (.string ⟨op.toArray⟩) doesE.toList 0 = some (some (i, .func (.func f) #[] #[]))) :
    (Instr.lookup 85 (.map (some b)) (.string ⟨op.toArray⟩) false).run Tryz.prog w = .ok (.func (.func f) #[] #[]) w := by
  have hc : ∀ e, (Instr.checkKey e 10000 9 (.string ⟨op.toArray⟩)).run Tryz.prog w = .ok () w := fun e => MapKept.run_checkKey (k := .string ⟨op.toArray⟩) Tryz.underlying9 (by simp [MapKept.IsKey]) e 9999
  simp [Instr.lookup, run_underlying Tryz.underlying85, MapKept.run_getObj_map h, hc, MapKept.run_findKey Tryz.underlying9 hf, Result.andThen]

set_option maxRecDepth 100000 in
set_option maxHeartbeats 1000000 in
theorem doesM_any (w : World) : Calls Tryz.prog 50 #[] w fun e w' => e = .returned (.map (some w.heap.size)) ∧ w'.heap[w.heap.size]? = some (.map doesE 8) ∧ Below w.heap.size w w' := by
  have m0 : (Instr.makeMap 85 none).run Tryz.prog w = .ok (.map (some w.heap.size)) (w.alloc (.map #[] 0)) := run_makeMap_plain w _
  have h0 : (w.alloc (.map #[] 0)).heap[w.heap.size]? = some (.map #[] 0) := heap_alloc_new w _
  have g0 : Below w.heap.size w (w.alloc (.map #[] 0)) := (Below.refl _ _).alloc (Nat.le_refl _) _
  generalize w.alloc (.map #[] 0) = w0 at *
  obtain ⟨w1, m1, h1, y1⟩ := updM opAnd (.func (.func 83) #[] #[]) h0 (by kernel_rfl)
  have g1 := g0.grown y1 g0.size (fun k hk => by cases hk; exact Nat.le_refl _)
  clear y1 h0 g0
  obtain ⟨w2, m2, h2, y2⟩ := updM opOr (.func (.func 84) #[] #[]) h1 (by kernel_rfl)
  have g2 := g1.grown y2 g1.size (fun k hk => by cases hk; exact Nat.le_refl _)
  clear y2 h1 g1
  obtain ⟨w3, m3, h3, y3⟩ := updM opNot (.func (.func 85) #[] #[]) h2 (by kernel_rfl)
  have g3 := g2.grown y3 g2.size (fun k hk => by cases hk; exact Nat.le_refl _)
  clear y3 h2 g2
  obtain ⟨w4, m4, h4, y4⟩ := updM opEq (.func (.func 87) #[] #[]) h3 (by kernel_rfl)
  have g4 := g3.grown y4 g3.size (fun k hk => by cases hk; exact Nat.le_refl _)
  clear y4 h3 g3
  obtain ⟨w5, m5, h5, y5⟩ := updM opLt (.func (.func 88) #[] #[]) h4 (by kernel_rfl)
  have g5 := g4.grown y5 g4.size (fun k hk => by cases hk; exact Nat.le_refl _)
  clear y5 h4 g4
  obtain ⟨w6, m6, h6, y6⟩ := updM opPlus (.func (.func 89) #[] #[]) h5 (by kernel_rfl)
  have g6 := g5.grown y6 g5.size (fun k hk => by cases hk; exact Nat.le_refl _)
  clear y6 h5 g5
  obtain ⟨w7, m7, h7, y7⟩ := updM opMinus (.func (.func 90) #[] #[]) h6 (by kernel_rfl)
  have g7 := g6.grown y7 g6.size (fun k hk => by cases hk; exact Nat.le_refl _)
  clear y7 h6 g6
  obtain ⟨w8, m8, h8, y8⟩ := updM opNull (.func (.func 91) #[] #[]) h7 (by kernel_rfl)
  have g8 := g7.grown y8 g7.size (fun k hk => by cases hk; exact Nat.le_refl _)
  clear y8 h7 g7
  have H8 : Hid (w8.heap[w.heap.size]? = some (.map doesE 8)) := h8
  clear h8
  unfold opAnd at m1
  unfold opOr at m2
  unfold opNot at m3
  unfold opEq at m4
  unfold opLt at m5
  unfold opPlus at m6
  unfold opMinus at m7
  unfold opNull at m8
  go_enter Tryz.func50, Tryz.ntmps50
  go_wp2
  go_ret
  exact ⟨rfl, H8.out, g8⟩

end Go.Proofs.YtdhjogmkhbpcgaaGreat

namespace Go.Proofs.YtdhjogmkhbpcgaaGreat
open Go.RowKit Go.ChangeMaps

attribute [local go_sem] ByteArray.extract_mk ba_get ba_append
attribute [local go_sem ↓] Go.wp_at_zero Go.wp_at_succ run_eql_V run_neq_V

set_option maxHeartbeats 400000 in
theorem doNot_any (k i : Int) (s : List UInt8) (k' i' : Int) (s' : List UInt8) (w : World) :
    Calls Tryz.prog 85 #[.agg #[.int .i64 k, .int .i64 i, .string ⟨s.toArray⟩], .agg #[.int .i64 k', .int .i64 i', .string ⟨s'.toArray⟩]] w (Ret (.agg #[.int .i64 (notV ⟨k, i, s⟩).k, .int .i64 (notV ⟨k, i, s⟩).i, .string ⟨(notV ⟨k, i, s⟩).s.toArray⟩]) w) := by
  obtain ⟨w0, hw0⟩ : ∃ w0, ((w.alloc (.cells #[.int .i64 k, .int .i64 i, .string ⟨s.toArray⟩] 26)).alloc (.cells #[.int .i64 k', .int .i64 i', .string ⟨s'.toArray⟩] 26)).alloc (.cells #[.int .i64 0, .int .i64 0, .string ⟨#[]⟩] 26) = w0 := ⟨_, rfl⟩
  have ka : Blk w0 w.heap.size 26 #[.int .i64 k, .int .i64 i, .string ⟨s.toArray⟩] := by rw [← hw0]; ((repeat' (first | with_reducible assumption | with_reducible refine Blk.drew ?_ | with_reducible refine Blk.drewN ?_ _ | with_reducible refine Blk.set3 ?_ _ _ _ | with_reducible refine Blk.far ?_ ?_ _ | ((with_reducible refine Blk.new' _ _ _ _ ?_) <;> (first | (simp; done) | (simp; omega) | omega) <;> done) | with_reducible refine Blk.alloc ?_ _ | with_reducible refine Blk3.drew ?_ | with_reducible refine Blk3.drewN ?_ _ | ((with_reducible refine Blk3.new' _ _ _ _ _ _ ?_) <;> (first | (simp; done) | (simp; omega) | omega) <;> done) | with_reducible refine Blk3.alloc ?_ _ | with_reducible refine Blk3.far ?_ ?_ _ | with_reducible refine Blk3.below ?_ (by assumption) ?_ | with_reducible refine Blk.below ?_ (by assumption) ?_)) <;> (first | (simp; done) | (simp; omega) | omega))
  have kr : Blk w0 (w.heap.size + 1 + 1) 26 #[.int .i64 0, .int .i64 0, .string ⟨#[]⟩] := by rw [← hw0]; ((repeat' (first | with_reducible assumption | with_reducible refine Blk.drew ?_ | with_reducible refine Blk.drewN ?_ _ | with_reducible refine Blk.set3 ?_ _ _ _ | with_reducible refine Blk.far ?_ ?_ _ | ((with_reducible refine Blk.new' _ _ _ _ ?_) <;> (first | (simp; done) | (simp; omega) | omega) <;> done) | with_reducible refine Blk.alloc ?_ _ | with_reducible refine Blk3.drew ?_ | with_reducible refine Blk3.drewN ?_ _ | ((with_reducible refine Blk3.new' _ _ _ _ _ _ ?_) <;> (first | (simp; done) | (simp; omega) | omega) <;> done) | with_reducible refine Blk3.alloc ?_ _ | with_reducible refine Blk3.far ?_ ?_ _ | with_reducible refine Blk3.below ?_ (by assumption) ?_ | with_reducible refine Blk.below ?_ (by assumption) ?_)) <;> (first | (simp; done) | (simp; omega) | omega))
  have hb0 : Below w.heap.size w w0 := by rw [← hw0]; exact bl
  have HW := Lib.hid hw0
  clear hw0
  obtain ⟨⟨x0, x1, x2⟩, _⟩ := ka.three
  have hz0 := hb0.size
  obtain ⟨X, hX⟩ : ∃ X, notV ⟨k, i, s⟩ = X := ⟨_, rfl⟩
  rw [hX]
  have HX := Lib.hid hX
  clear hX
  go_enter Tryz.func85, Tryz.ntmps85
  go_upto_region 1 with fail
  rw [HW.out]
  go_wp2_with fail
  refine (not_any k i s w0).mono ?_
  rintro e w1 ⟨rfl, hb1⟩
  have kr1 := kr.below hb1 kr.lt
  have lr1 := kr1.lt
  have hbw1 := hb0.trans (hb1.mono hz0)
  obtain ⟨⟨y0, y1, y2⟩, z0, z1, z2⟩ := kr1.three
  go_wp2_with fail
  refine bodyPost_ret (v := .agg #[.int .i64 (X).k, .int .i64 (X).i, .string ⟨(X).s.toArray⟩]) (by rw [← HX.out]; simp [results, Tryz.results85, go_sem, *]; exact ⟨rfl, rfl, rfl⟩) rfl ⟨rfl, ?_⟩
  exact bl
set_option maxHeartbeats 400000 in
theorem doNull_any (k i : Int) (s : List UInt8) (k' i' : Int) (s' : List UInt8) (w : World) :
    Calls Tryz.prog 91 #[.agg #[.int .i64 k, .int .i64 i, .string ⟨s.toArray⟩], .agg #[.int .i64 k', .int .i64 i', .string ⟨s'.toArray⟩]] w (Ret (.agg #[.int .i64 (nullV ⟨k, i, s⟩).k, .int .i64 (nullV ⟨k, i, s⟩).i, .string ⟨(nullV ⟨k, i, s⟩).s.toArray⟩]) w) := by
  obtain ⟨w0, hw0⟩ : ∃ w0, ((w.alloc (.cells #[.int .i64 k, .int .i64 i, .string ⟨s.toArray⟩] 26)).alloc (.cells #[.int .i64 k', .int .i64 i', .string ⟨s'.toArray⟩] 26)).alloc (.cells #[.int .i64 0, .int .i64 0, .string ⟨#[]⟩] 26) = w0 := ⟨_, rfl⟩
  have ka : Blk w0 w.heap.size 26 #[.int .i64 k, .int .i64 i, .string ⟨s.toArray⟩] := by rw [← hw0]; ((repeat' (first | with_reducible assumption | with_reducible refine Blk.drew ?_ | with_reducible refine Blk.drewN ?_ _ | with_reducible refine Blk.set3 ?_ _ _ _ | with_reducible refine Blk.far ?_ ?_ _ | ((with_reducible refine Blk.new' _ _ _ _ ?_) <;> (first | (simp; done) | (simp; omega) | omega) <;> done) | with_reducible refine Blk.alloc ?_ _ | with_reducible refine Blk3.drew ?_ | with_reducible refine Blk3.drewN ?_ _ | ((with_reducible refine Blk3.new' _ _ _ _ _ _ ?_) <;> (first | (simp; done) | (simp; omega) | omega) <;> done) | with_reducible refine Blk3.alloc ?_ _ | with_reducible refine Blk3.far ?_ ?_ _ | with_reducible refine Blk3.below ?_ (by assumption) ?_ | with_reducible refine Blk.below ?_ (by assumption) ?_)) <;> (first | (simp; done) | (simp; omega) | omega))
  have kr : Blk w0 (w.heap.size + 1 + 1) 26 #[.int .i64 0, .int .i64 0, .string ⟨#[]⟩] := by rw [← hw0]; ((repeat' (first | with_reducible assumption | with_reducible refine Blk.drew ?_ | with_reducible refine Blk.drewN ?_ _ | with_reducible refine Blk.set3 ?_ _ _ _ | with_reducible refine Blk.far ?_ ?_ _ | ((with_reducible refine Blk.new' _ _ _ _ ?_) <;> (first | (simp; done) | (simp; omega) | omega) <;> done) | with_reducible refine Blk.alloc ?_ _ | with_reducible refine Blk3.drew ?_ | with_reducible refine Blk3.drewN ?_ _ | ((with_reducible refine Blk3.new' _ _ _ _ _ _ ?_) <;> (first | (simp; done) | (simp; omega) | omega) <;> done) | with_reducible refine Blk3.alloc ?_ _ | with_reducible refine Blk3.far ?_ ?_ _ | with_reducible refine Blk3.below ?_ (by assumption) ?_ | with_reducible refine Blk.below ?_ (by assumption) ?_)) <;> (first | (simp; done) | (simp; omega) | omega))
  have hb0 : Below w.heap.size w w0 := by rw [← hw0]; exact bl
  have HW := Lib.hid hw0
  clear hw0
  obtain ⟨⟨x0, x1, x2⟩, _⟩ := ka.three
  have hz0 := hb0.size
  obtain ⟨X, hX⟩ : ∃ X, nullV ⟨k, i, s⟩ = X := ⟨_, rfl⟩
  rw [hX]
  have HX := Lib.hid hX
  clear hX
  go_enter Tryz.func91, Tryz.ntmps91
  go_upto_region 1 with fail
  rw [HW.out]
  go_wp2_with fail
  refine (isNull_any k i s w0).mono ?_
  rintro e w1 ⟨rfl, hb1⟩
  have kr1 := kr.below hb1 kr.lt
  have lr1 := kr1.lt
  have hbw1 := hb0.trans (hb1.mono hz0)
  obtain ⟨⟨y0, y1, y2⟩, z0, z1, z2⟩ := kr1.three
  go_wp2_with fail
  refine bodyPost_ret (v := .agg #[.int .i64 (X).k, .int .i64 (X).i, .string ⟨(X).s.toArray⟩]) (by rw [← HX.out]; simp [results, Tryz.results91, go_sem, *]; exact ⟨rfl, rfl, rfl⟩) rfl ⟨rfl, ?_⟩
  exact bl

def ValC (n : Nat) : Prop := ∀ (e : Ex) (A : Option Addr) (c : Nat) (A1 A2 : Option Addr) (c1 c2 m : Nat) (cols : List Col) (row : List V) (w : World), e.fit 1000 → okE n e → ExS 1000 n w w.heap.size A e.l →
    cols.length ≤ 1000000 → row.length ≤ 1000000 → ColS w w.heap.size A1 cols → VS w w.heap.size A2 row → (∀ x ∈ row, fitI x.i) → w.heap[m]? = some (.map doesE 8) →
    Calls Tryz.prog 51 #[.agg #[.slice A1 cols.length c1, .slice A2 row.length c2, .map (some m)], .agg (e.cells A c).toArray] w (Ret (.agg #[.int .i64 (evalE n cols row e).k, .int .i64 (evalE n cols row e).i, .string ⟨(evalE n cols row e).s.toArray⟩]) w)

theorem ops_of {e : Ex} (h : (e.l.length : Int) = partsF e.op) (hL : ¬ e.op = opLit) (hC : ¬ e.op = opCol) : (e.l.length = 1 ∧ (e.op = opNot ∨ e.op = opNull)) ∨ (e.l.length = 2 ∧ (e.op = opAnd ∨ e.op = opOr ∨ e.op = opEq ∨ e.op = opLt ∨ e.op = opPlus ∨ e.op = opMinus)) := by
  unfold partsF at h
  rw [if_neg (by simp [hL, hC])] at h
  split at h
  · left; exact ⟨by omega, by assumption⟩
  · split at h
    · right; exact ⟨by omega, by assumption⟩
    · omega


set_option maxRecDepth 100000 in
set_option maxHeartbeats 8000000 in
theorem val_step (n : Nat) (ih : ∀ m, n = m + 1 → ValC m) : ValC n := by
  intro e A c A1 A2 c1 c2 m cols row w hf hok hA hcl hrl hC hV hri hm
  have HA := Lib.hid hA
  have HIH := Lib.hid ih
  have HRI := Lib.hid hri
  have lm : m < w.heap.size := (Array.getElem?_eq_some_iff.1 hm).1
  have HM := Lib.hid hm
  obtain ⟨hfi, hf1, hf2, hf3⟩ := hf
  have HFI := Lib.hid hfi
  have HOK := Lib.hid hok
  obtain ⟨R, hR⟩ : ∃ R, evalE n cols row e = R := ⟨_, rfl⟩
  rw [hR]
  have HR := Lib.hid hR
  clear hA ih hR hfi hok hri hm
  obtain ⟨w0, hw0⟩ : ∃ w0, ((w.alloc (.cells #[.slice A1 cols.length c1, .slice A2 row.length c2, .map (some m)] 88)).alloc (.cells (e.cells A c).toArray 29)).alloc (.cells #[.int .i64 0, .int .i64 0, .string ⟨#[]⟩] 26) = w0 := ⟨_, rfl⟩
  have ko : Blk w0 w.heap.size 88 #[.slice A1 cols.length c1, .slice A2 row.length c2, .map (some m)] := by rw [← hw0]; ((repeat' (first | with_reducible assumption | with_reducible refine Blk.drew ?_ | with_reducible refine Blk.drewN ?_ _ | with_reducible refine Blk.set3 ?_ _ _ _ | with_reducible refine Blk.far ?_ ?_ _ | ((with_reducible refine Blk.new' _ _ _ _ ?_) <;> (first | (simp; done) | (simp; omega) | omega) <;> done) | with_reducible refine Blk.alloc ?_ _ | with_reducible refine Blk3.drew ?_ | with_reducible refine Blk3.drewN ?_ _ | ((with_reducible refine Blk3.new' _ _ _ _ _ _ ?_) <;> (first | (simp; done) | (simp; omega) | omega) <;> done) | with_reducible refine Blk3.alloc ?_ _ | with_reducible refine Blk3.far ?_ ?_ _ | with_reducible refine Blk3.below ?_ (by assumption) ?_ | with_reducible refine Blk.below ?_ (by assumption) ?_)) <;> (first | (simp; done) | (simp; omega) | omega))
  have ke : Blk w0 (w.heap.size + 1) 29 (e.cells A c).toArray := by rw [← hw0]; exact (Blk.new' _ _ _ _ (by simp)).alloc _
  have kr : Blk w0 (w.heap.size + 1 + 1) 26 #[.int .i64 0, .int .i64 0, .string ⟨#[]⟩] := by rw [← hw0]; exact Blk.new' _ _ _ _ (by simp)
  have hb0 : Below w.heap.size w w0 := by rw [← hw0]; exact bl
  have HW := Lib.hid hw0
  clear hw0
  have hz0 := hb0.size
  have lr := kr.lt
  have hC0 := (hC.below hb0).more hz0
  have hV0 := (hV.below hb0).more hz0
  have HA0 := Lib.hid ((HA.out.below n hb0).more hz0 n)
  have HM0 := Lib.hid ((hb0.block m lm).trans HM.out)
  clear hC hV HA HM
  obtain ⟨q0, q1, q2, q3, q4, q5⟩ := ke.six
  obtain ⟨⟨o0, o1, o2⟩, _⟩ := ko.three
  obtain ⟨⟨r0, r1, r2⟩, t0, t1, t2⟩ := kr.three
  go_enter Tryz.func51, Tryz.ntmps51
  go_upto_region 1 with fail
  rw [HW.out]
  clear HW
  by_cases hL : e.op = opLit
  · have eL : (e.op == [108, 105, 116]) = true := by rw [hL]; rfl
    have HF : Hid (R = e.v) := by show _ = _; rw [← HR.out]; unfold evalE; rw [if_pos hL]
    clear hL
    go_wp2_with fail
    refine bodyPost_ret (v := .agg #[.int .i64 (R).k, .int .i64 (R).i, .string ⟨(R).s.toArray⟩]) (by rw [HF.out]; simp [results, Tryz.results51, go_sem, *]) rfl ⟨rfl, ?_⟩
    exact bl
  have eL : (e.op == [108, 105, 116]) = false := by rw [beq_eq_false_iff_ne]; exact hL
  by_cases hCo : e.op = opCol
  · have eC : (e.op == [99, 111, 108]) = true := by rw [hCo]; rfl
    have hR1 : (if placeF cols e.s < 0 then V.zero else row.getD (placeF cols e.s).toNat V.zero) = R := by rw [← HR.out]; unfold evalE; rw [if_neg hL, if_pos hCo]
    have HR1 := Lib.hid hR1
    clear hL hCo hR1
    go_wp2_with fail
    refine (placeC_any A1 c1 cols e.s w0 hcl hC0).mono ?_
    rintro en w1 ⟨rfl, hb1⟩
    have hbw1 := hb0.trans (hb1.mono hz0)
    have hz1 := hbw1.size
    have hV1 := (hV0.below hb1).more hb1.size
    have kr1 := kr.below hb1 kr.lt
    have ko1 := ko.below hb1 ko.lt
    have lr1 := kr1.lt
    clear q0 q1 q2 q3 q4 q5 o0 o1 o2 r0 r1 r2 t0 t1 t2
    obtain ⟨⟨o0, o1, o2⟩, _⟩ := ko1.three
    obtain ⟨⟨r0, r1, r2⟩, t0, t1, t2⟩ := kr1.three
    obtain ⟨P, hP⟩ : ∃ P, placeF cols e.s = P := ⟨_, rfl⟩
    rw [hP] at HR1 ⊢
    clear hP
    by_cases hneg : P < 0
    · have HF : Hid (R = V.zero) := by show _ = _; rw [← HR1.out, if_pos hneg]
      go_wp2_with fail
      refine bodyPost_ret (v := .agg #[.int .i64 (R).k, .int .i64 (R).i, .string ⟨(R).s.toArray⟩]) (by rw [HF.out]; simp [results, Tryz.results51, go_sem, *, V.zero]) rfl ⟨rfl, ?_⟩
      exact bl
    · obtain ⟨N, rfl⟩ : ∃ N : Nat, P = N := ⟨P.toNat, by omega⟩
      have hR2 : row.getD N V.zero = R := by rw [← HR1.out, if_neg hneg]; rfl
      by_cases hge : row.length ≤ N
      · have b2 : (row.length : Int) ≤ (N : Int) := by omega
        have HF : Hid (R = V.zero) := by show _ = _; rw [← hR2, List.getD_eq_getElem?_getD, List.getElem?_eq_none hge]; rfl
        clear hR2
        go_wp2_with fail
        refine bodyPost_ret (v := .agg #[.int .i64 (R).k, .int .i64 (R).i, .string ⟨(R).s.toArray⟩]) (by rw [HF.out]; simp [results, Tryz.results51, go_sem, *, V.zero]) rfl ⟨rfl, ?_⟩
        exact bl
      · have b2 : ¬ (row.length : Int) ≤ (N : Int) := by omega
        have i1 : (0 : Int) ≤ (N : Int) := by omega
        have i2 : (N : Int) < (row.length : Int) := by omega
        obtain ⟨b1, o, x, rfl, hbB, hv, d0, d1, d2⟩ := hV1.at_ (j := N) (by omega)
        have HF : Hid (R = x) := by show _ = _; rw [← hR2, List.getD_eq_getElem?_getD, hv]; rfl
        clear hR2 hv
        go_wp2_with fail
        refine bodyPost_ret (v := .agg #[.int .i64 (R).k, .int .i64 (R).i, .string ⟨(R).s.toArray⟩]) (by rw [HF.out]; simp [results, Tryz.results51, go_sem, *]) rfl ⟨rfl, ?_⟩
        exact bl
  have eC : (e.op == [99, 111, 108]) = false := by rw [beq_eq_false_iff_ne]; exact hCo
  have hops := ops_of (by have := HOK.out; unfold okE at this; exact this.1) hL hCo
  have HOPS := Lib.hid hops
  have hl2 : e.l.length ≤ 2 := by omega
  have hl1 : 1 ≤ e.l.length := by omega
  clear hops
  cases n with
  | zero => rw [show e.l = [] from HA0.out] at hl1; simp at hl1
  | succ n =>
    have hall : ∀ x ∈ e.l, okE n x := by
      have := HOK.out
      unfold okE at this
      rcases this.2 with h | h | h
      · exact absurd h hL
      · exact absurd h hCo
      · exact h
    have HALL := Lib.hid hall
    have hR4 : doF e.op ((e.l.map (evalE n cols row)).getD 0 V.zero) ((e.l.map (evalE n cols row)).getD 1 V.zero) = R := by rw [← HR.out]; conv => rhs; unfold evalE; rw [if_neg hL, if_neg hCo]
    have HR4 := Lib.hid hR4
    clear hall hR4 HR hL hCo HOK
    obtain ⟨w1, hw1⟩ : ∃ w1, w0.alloc (.cells #[.int .i64 0, .int .i64 0, .string ⟨#[]⟩, .int .i64 0, .int .i64 0, .string ⟨#[]⟩] 112) = w1 := ⟨_, rfl⟩
    have kf : Blk w1 w0.heap.size 112 #[.int .i64 0, .int .i64 0, .string ⟨#[]⟩, .int .i64 0, .int .i64 0, .string ⟨#[]⟩] := by rw [← hw1]; exact Blk.new _ _ _
    have hb1 : Below w0.heap.size w0 w1 := by rw [← hw1]; exact bl
    have HW1 := Lib.hid hw1
    clear hw1
    have ko1 := ko.below hb1 ko.lt
    have ke1 := ke.below hb1 ke.lt
    have kr1 := kr.below hb1 kr.lt
    have lf1 := kf.lt
    clear r0 r1 r2 t0 t1 t2
    go_upto_region 10 with fail
    rw [HW1.out]
    clear HW1 q0 q1 q2 q3 q4 q5 o0 o1 o2
    obtain ⟨q0, q1, q2, q3, q4, q5⟩ := ke1.six
    go_wp2_with fail
    go_loopw [40] (fun i wr => ∃ (j : Nat) (va vb : V), j ≤ e.l.length ∧ i = .int .i64 j ∧ Blk wr w0.heap.size 112 #[.int .i64 va.k, .int .i64 va.i, .string ⟨va.s.toArray⟩, .int .i64 vb.k, .int .i64 vb.i, .string ⟨vb.s.toArray⟩] ∧ fitI va.i ∧ fitI vb.i ∧ Below w0.heap.size w0 wr ∧
      Hid (va = ((e.l.take j).map (evalE n cols row)).getD 0 V.zero ∧ vb = ((e.l.take j).map (evalE n cols row)).getD 1 V.zero)) (fun i _ => e.l.length - (intOf i).toNat)
    case atStart => exact ⟨0, V.zero, V.zero, by omega, rfl, kf, zero_in, zero_in, hb1, ⟨rfl, rfl⟩⟩
    case round =>
      obtain ⟨j, va, vb, hj, rfl, kfr, hva, hvb, hb0r, HJ⟩ := hrel
      have hbr : Below w.heap.size w wr := hb0.trans (hb0r.mono hz0)
      have hzr := hbr.size
      have koR := ko.below hb0r ko.lt
      have keR := ke.below hb0r ke.lt
      have krr := kr.below hb0r kr.lt
      have lfr := kfr.lt
      clear q0 q1 q2 q3 q4 q5
      obtain ⟨q0, q1, q2, q3, q4, q5⟩ := keR.six
      obtain ⟨⟨p0, p1, p2⟩, _⟩ := koR.three
      by_cases hlt : j < e.l.length
      · have hA3 : ExS 1000 (n + 1) wr w0.heap.size A e.l := HA0.out.below _ hb0r
        obtain ⟨b1, o1, x, A', c', rfl, hbB1, hv, hfx, hxc, hxm, ⟨d0, d1, d2, d3, d4, d5⟩, hx⟩ := hA3.at_ hlt
        have HFX := Lib.hid hfx
        have HOX := Lib.hid (HALL.out x (List.mem_of_getElem? hv))
        have hin : fitI (evalE n cols row x).i := evalE_in n cols row x hfx.1 HRI.out
        have i1 : (0 : Int) ≤ (j : Int) := by omega
        have i2 : (j : Int) < (e.l.length : Int) := by omega
        have HTK : Hid ((e.l.take (j + 1)).map (evalE n cols row) = (e.l.take j).map (evalE n cols row) ++ [evalE n cols row x]) := by
          show _ = _
          obtain ⟨hj', rfl⟩ := List.getElem?_eq_some_iff.1 hv
          rw [List.take_succ_eq_append_getElem hj', List.map_append]
          rfl
        have hlen : ((e.l.take j).map (evalE n cols row)).length = j := by rw [List.length_map, List.length_take]; omega
        have HLEN := Lib.hid hlen
        clear hv hA3 hfx hxm hlen
        obtain ⟨w2, hw2⟩ : ∃ w2, wr.alloc (.cells (x.cells A' c').toArray 29) = w2 := ⟨_, rfl⟩
        have kx2 : Blk w2 wr.heap.size 29 (x.cells A' c').toArray := by rw [← hw2]; exact Blk.new _ _ _
        have hb2 : Below wr.heap.size wr w2 := by rw [← hw2]; exact bl
        have HW2 := Lib.hid hw2
        clear hw2
        have hb02 : Below w0.heap.size w0 w2 := hb0r.trans (hb2.mono hb0r.size)
        have HX2 := Lib.hid (((hx.below _ (hb2.mono hb0r.size)).more (show w0.heap.size ≤ w2.heap.size by have := hb02.size; omega) n))
        have hC2 := (hC0.below hb02).more hb02.size
        have hV2 := (hV0.below hb02).more hb02.size
        have HM2 := Lib.hid ((hb02.block m (by omega)).trans HM0.out)
        have koW := ko.below hb02 ko.lt
        have kfW := kfr.below hb2 lfr
        have l2 := kx2.lt
        have hz2 := hb2.size
        clear hx
        obtain ⟨y0, y1, y2, y3, y4, y5⟩ := kx2.six
        go_upto_region 13 with fail
        rw [show wr.alloc (.cells #[.string ⟨x.op.toArray⟩, .int .i64 x.v.k, .int .i64 x.v.i, .string ⟨x.v.s.toArray⟩, .string ⟨x.s.toArray⟩, .slice A' x.l.length c'] 29) = w2 from HW2.out]
        clear HW2 d0 d1 d2 d3 d4 d5 p0 p1 p2 q0 q1 q2 q3 q4 q5
        obtain ⟨⟨p0, p1, p2⟩, _⟩ := koW.three
        go_wp2_with fail
        refine (HIH.out n rfl x A' c' A1 A2 c1 c2 m cols row w2 HFX.out HOX.out HX2.out hcl hrl hC2 hV2 HRI.out HM2.out).mono ?_
        obtain ⟨X, hX⟩ : ∃ X, evalE n cols row x = X := ⟨_, rfl⟩
        rw [hX] at HTK hin ⊢
        clear hX
        rintro en w4 ⟨rfl, hb4⟩
        have kf4 := kfW.below hb4 kfW.lt
        have hb04 : Below w0.heap.size w0 w4 := hb02.trans (hb4.mono hb02.size)
        have lf4 := kf4.lt
        have hj01 : j = 0 ∨ j = 1 := by omega
        have u0 : w4.cell? ⟨w0.heap.size, 0, none⟩ = some (.int .i64 va.k) := kf4.cell 0
        have z0 : w4.frozen? ⟨w0.heap.size, 0, none⟩ = false := kf4.frozen 0
        have u1 : w4.cell? ⟨w0.heap.size, 1, none⟩ = some (.int .i64 va.i) := kf4.cell 1
        have z1 : w4.frozen? ⟨w0.heap.size, 1, none⟩ = false := kf4.frozen 1
        have u2 : w4.cell? ⟨w0.heap.size, 2, none⟩ = some (.string ⟨va.s.toArray⟩) := kf4.cell 2
        have z2 : w4.frozen? ⟨w0.heap.size, 2, none⟩ = false := kf4.frozen 2
        have u3 : w4.cell? ⟨w0.heap.size, 3, none⟩ = some (.int .i64 vb.k) := kf4.cell 3
        have z3 : w4.frozen? ⟨w0.heap.size, 3, none⟩ = false := kf4.frozen 3
        have u4 : w4.cell? ⟨w0.heap.size, 4, none⟩ = some (.int .i64 vb.i) := kf4.cell 4
        have z4 : w4.frozen? ⟨w0.heap.size, 4, none⟩ = false := kf4.frozen 4
        have u5 : w4.cell? ⟨w0.heap.size, 5, none⟩ = some (.string ⟨vb.s.toArray⟩) := kf4.cell 5
        have z5 : w4.frozen? ⟨w0.heap.size, 5, none⟩ = false := kf4.frozen 5
        rcases hj01 with rfl | rfl
        · go_wp2_with fail
          go_roundw
          case rel =>
            refine ⟨1, X, vb, by omega, rfl, ((kf4.set_ 0 _).set_ 1 _).set_ 2 _, hin, hvb, by exact bl, ?_⟩
            rw [HTK.out]
            exact ⟨rfl, HJ.out.2⟩
          case measure => simp [intOf]; omega
        · go_wp2_with fail
          go_roundw
          case rel =>
            refine ⟨2, va, X, by omega, rfl, ((kf4.set_ 3 _).set_ 4 _).set_ 5 _, hva, hin, by exact bl, ?_⟩
            rw [HTK.out]
            have h1 := HJ.out.1
            have h2 := HLEN.out
            generalize (e.l.take 1).map (evalE n cols row) = L at *
            match L, h2 with
            | [y], _ => exact ⟨h1, rfl⟩
          case measure => simp [intOf]; omega
      · obtain rfl : j = e.l.length := by omega
        have b0 : ¬ ((e.l.length : Int) < (e.l.length : Int)) := by omega
        have hmr := (hb0r.block m (by omega)).trans HM0.out
        have hJ := HJ.out
        rw [List.take_length] at hJ
        rw [← hJ.1, ← hJ.2] at HR4
        have f0 : wr.cell? ⟨w0.heap.size, 0, none⟩ = some (.int .i64 va.k) := kfr.cell 0
        have f1 : wr.cell? ⟨w0.heap.size, 1, none⟩ = some (.int .i64 va.i) := kfr.cell 1
        have f2 : wr.cell? ⟨w0.heap.size, 2, none⟩ = some (.string ⟨va.s.toArray⟩) := kfr.cell 2
        have f3 : wr.cell? ⟨w0.heap.size, 3, none⟩ = some (.int .i64 vb.k) := kfr.cell 3
        have f4 : wr.cell? ⟨w0.heap.size, 4, none⟩ = some (.int .i64 vb.i) := kfr.cell 4
        have f5 : wr.cell? ⟨w0.heap.size, 5, none⟩ = some (.string ⟨vb.s.toArray⟩) := kfr.cell 5
        have hops := HOPS.out
        clear HJ hJ HOPS HA0 HIH
        rcases hops with ⟨_, hop | hop⟩ | ⟨_, hop | hop | hop | hop | hop | hop⟩
        ·
          have HOP : Hid (doF e.op va vb = notV va) := by show _ = _; rw [hop]; rfl
          have hlk := lookM (w := wr) (b := m) (f := 85) opNot hmr (i := 2) (by kernel_rfl)
          rw [← hop] at hlk
          have HLK := Lib.hid hop
          clear hop
          go_wp2_with fail
          refine (doNot_any va.k va.i va.s vb.k vb.i vb.s wr).mono ?_
          rintro en w7 ⟨rfl, hb7⟩
          have kr7 := krr.below hb7 krr.lt
          have lr7 := kr7.lt
          have hbw7 := hbr.trans (hb7.mono hzr)
          obtain ⟨⟨y0, y1, y2⟩, z0, z1, z2⟩ := kr7.three
          go_wp2_with fail
          refine bodyPost_ret (v := .agg #[.int .i64 (R).k, .int .i64 (R).i, .string ⟨(R).s.toArray⟩]) (by rw [← HR4.out, HOP.out]; simp [results, Tryz.results51, go_sem, *]; first | done | exact ⟨rfl, rfl, rfl⟩) rfl ⟨rfl, ?_⟩
          exact bl
        ·
          have HOP : Hid (doF e.op va vb = nullV va) := by show _ = _; rw [hop]; rfl
          have hlk := lookM (w := wr) (b := m) (f := 91) opNull hmr (i := 7) (by kernel_rfl)
          rw [← hop] at hlk
          have HLK := Lib.hid hop
          clear hop
          go_wp2_with fail
          refine (doNull_any va.k va.i va.s vb.k vb.i vb.s wr).mono ?_
          rintro en w7 ⟨rfl, hb7⟩
          have kr7 := krr.below hb7 krr.lt
          have lr7 := kr7.lt
          have hbw7 := hbr.trans (hb7.mono hzr)
          obtain ⟨⟨y0, y1, y2⟩, z0, z1, z2⟩ := kr7.three
          go_wp2_with fail
          refine bodyPost_ret (v := .agg #[.int .i64 (R).k, .int .i64 (R).i, .string ⟨(R).s.toArray⟩]) (by rw [← HR4.out, HOP.out]; simp [results, Tryz.results51, go_sem, *]; first | done | exact ⟨rfl, rfl, rfl⟩) rfl ⟨rfl, ?_⟩
          exact bl
        ·
          have HOP : Hid (doF e.op va vb = andV va vb) := by show _ = _; rw [hop]; rfl
          have hlk := lookM (w := wr) (b := m) (f := 83) opAnd hmr (i := 0) (by kernel_rfl)
          rw [← hop] at hlk
          have HLK := Lib.hid hop
          clear hop
          go_wp2_with fail
          refine (and_any va.k va.i va.s vb.k vb.i vb.s wr).mono ?_
          rintro en w7 ⟨rfl, hb7⟩
          have kr7 := krr.below hb7 krr.lt
          have lr7 := kr7.lt
          have hbw7 := hbr.trans (hb7.mono hzr)
          obtain ⟨⟨y0, y1, y2⟩, z0, z1, z2⟩ := kr7.three
          go_wp2_with fail
          refine bodyPost_ret (v := .agg #[.int .i64 (R).k, .int .i64 (R).i, .string ⟨(R).s.toArray⟩]) (by rw [← HR4.out, HOP.out]; simp [results, Tryz.results51, go_sem, *]; first | done | exact ⟨rfl, rfl, rfl⟩) rfl ⟨rfl, ?_⟩
          exact bl
        ·
          have HOP : Hid (doF e.op va vb = orV va vb) := by show _ = _; rw [hop]; rfl
          have hlk := lookM (w := wr) (b := m) (f := 84) opOr hmr (i := 1) (by kernel_rfl)
          rw [← hop] at hlk
          have HLK := Lib.hid hop
          clear hop
          go_wp2_with fail
          refine (or_any va.k va.i va.s vb.k vb.i vb.s wr).mono ?_
          rintro en w7 ⟨rfl, hb7⟩
          have kr7 := krr.below hb7 krr.lt
          have lr7 := kr7.lt
          have hbw7 := hbr.trans (hb7.mono hzr)
          obtain ⟨⟨y0, y1, y2⟩, z0, z1, z2⟩ := kr7.three
          go_wp2_with fail
          refine bodyPost_ret (v := .agg #[.int .i64 (R).k, .int .i64 (R).i, .string ⟨(R).s.toArray⟩]) (by rw [← HR4.out, HOP.out]; simp [results, Tryz.results51, go_sem, *]; first | done | exact ⟨rfl, rfl, rfl⟩) rfl ⟨rfl, ?_⟩
          exact bl
        ·
          have HOP : Hid (doF e.op va vb = equalV va vb) := by show _ = _; rw [hop]; rfl
          have hlk := lookM (w := wr) (b := m) (f := 87) opEq hmr (i := 3) (by kernel_rfl)
          rw [← hop] at hlk
          have HLK := Lib.hid hop
          clear hop
          go_wp2_with fail
          refine (equal_any va.k va.i va.s vb.k vb.i vb.s wr).mono ?_
          rintro en w7 ⟨rfl, hb7⟩
          have kr7 := krr.below hb7 krr.lt
          have lr7 := kr7.lt
          have hbw7 := hbr.trans (hb7.mono hzr)
          obtain ⟨⟨y0, y1, y2⟩, z0, z1, z2⟩ := kr7.three
          go_wp2_with fail
          refine bodyPost_ret (v := .agg #[.int .i64 (R).k, .int .i64 (R).i, .string ⟨(R).s.toArray⟩]) (by rw [← HR4.out, HOP.out]; simp [results, Tryz.results51, go_sem, *]; first | done | exact ⟨rfl, rfl, rfl⟩) rfl ⟨rfl, ?_⟩
          exact bl
        ·
          have HOP : Hid (doF e.op va vb = lessV va vb) := by show _ = _; rw [hop]; rfl
          have hlk := lookM (w := wr) (b := m) (f := 88) opLt hmr (i := 4) (by kernel_rfl)
          rw [← hop] at hlk
          have HLK := Lib.hid hop
          clear hop
          go_wp2_with fail
          refine (less_any va.k va.i va.s vb.k vb.i vb.s wr).mono ?_
          rintro en w7 ⟨rfl, hb7⟩
          have kr7 := krr.below hb7 krr.lt
          have lr7 := kr7.lt
          have hbw7 := hbr.trans (hb7.mono hzr)
          obtain ⟨⟨y0, y1, y2⟩, z0, z1, z2⟩ := kr7.three
          go_wp2_with fail
          refine bodyPost_ret (v := .agg #[.int .i64 (R).k, .int .i64 (R).i, .string ⟨(R).s.toArray⟩]) (by rw [← HR4.out, HOP.out]; simp [results, Tryz.results51, go_sem, *]; first | done | exact ⟨rfl, rfl, rfl⟩) rfl ⟨rfl, ?_⟩
          exact bl
        ·
          have HOP : Hid (doF e.op va vb = plusV va vb) := by show _ = _; rw [hop]; rfl
          have hlk := lookM (w := wr) (b := m) (f := 89) opPlus hmr (i := 5) (by kernel_rfl)
          rw [← hop] at hlk
          have HLK := Lib.hid hop
          clear hop
          go_wp2_with fail
          refine (plus_any va.k va.i va.s vb.k vb.i vb.s wr hva hvb).mono ?_
          rintro en w7 ⟨rfl, hb7⟩
          have kr7 := krr.below hb7 krr.lt
          have lr7 := kr7.lt
          have hbw7 := hbr.trans (hb7.mono hzr)
          obtain ⟨⟨y0, y1, y2⟩, z0, z1, z2⟩ := kr7.three
          go_wp2_with fail
          refine bodyPost_ret (v := .agg #[.int .i64 (R).k, .int .i64 (R).i, .string ⟨(R).s.toArray⟩]) (by rw [← HR4.out, HOP.out]; simp [results, Tryz.results51, go_sem, *]; first | done | exact ⟨rfl, rfl, rfl⟩) rfl ⟨rfl, ?_⟩
          exact bl
        ·
          have HOP : Hid (doF e.op va vb = minusV va vb) := by show _ = _; rw [hop]; rfl
          have hlk := lookM (w := wr) (b := m) (f := 90) opMinus hmr (i := 6) (by kernel_rfl)
          rw [← hop] at hlk
          have HLK := Lib.hid hop
          clear hop
          go_wp2_with fail
          refine (minus_any va.k va.i va.s vb.k vb.i vb.s wr hva hvb).mono ?_
          rintro en w7 ⟨rfl, hb7⟩
          have kr7 := krr.below hb7 krr.lt
          have lr7 := kr7.lt
          have hbw7 := hbr.trans (hb7.mono hzr)
          obtain ⟨⟨y0, y1, y2⟩, z0, z1, z2⟩ := kr7.three
          go_wp2_with fail
          refine bodyPost_ret (v := .agg #[.int .i64 (R).k, .int .i64 (R).i, .string ⟨(R).s.toArray⟩]) (by rw [← HR4.out, HOP.out]; simp [results, Tryz.results51, go_sem, *]; first | done | exact ⟨rfl, rfl, rfl⟩) rfl ⟨rfl, ?_⟩
          exact bl

theorem valE_any (n : Nat) : ValC n := by
  induction n with
  | zero => exact val_step 0 (fun m h => by omega)
  | succ n ih =>
    refine val_step (n + 1) (fun m h => ?_)
    obtain rfl : n = m := by omega
    exact ih

end Go.Proofs.YtdhjogmkhbpcgaaGreat

namespace Go.Proofs.YtdhjogmkhbpcgaaGreat
open Go.RowKit

theorem mayFold_congr {f g : Nat → Ex → Bool × Nat} : ∀ (l : List Ex) (c : Nat), (∀ x ∈ l, ∀ c, f c x = g c x) → mayFold f c l = mayFold g c l
  | [], _, _ => rfl
  | x :: r, c, h => by
    unfold mayFold
    rw [h x (by simp) c, mayFold_congr r _ (fun y hy => h y (by simp [hy]))]
theorem mayE_fuel : ∀ (n m d c : Nat) (e : Ex), 13 ≤ n + d → 13 ≤ m + d → mayE n d c e = mayE m d c e := by
  intro n
  induction n with
  | zero =>
    intro m d c e h1 h2
    unfold mayE
    simp [show 12 < d by omega]
  | succ n ih =>
    intro m d c e h1 h2
    by_cases hd : 12 < d
    · unfold mayE
      simp [hd]
    · cases m with
      | zero => omega
      | succ m =>
        unfold mayE
        simp only [mayFold_congr e.l (c + 1) (fun x _ c' => ih m (d + 1) c' x (by omega) (by omega))]
theorem mayE_up : ∀ (n d c : Nat) (e : Ex), Hgt n e.l → mayE (n + 1) d c e = mayE n d c e := by
  intro n
  induction n with
  | zero =>
    intro d c e h
    have hl : e.l = [] := h
    unfold mayE
    rw [hl]
    rfl
  | succ n ih =>
    intro d c e h
    unfold mayE
    simp only [mayFold_congr e.l (c + 1) (fun x hx c' => ih (d + 1) c' x (h x hx))]
theorem Hgt.upTo {n : Nat} {l : List Ex} (h : Hgt n l) : ∀ m, n ≤ m → Hgt m l
  | 0, hm => by
    have : n = 0 := by omega
    subst this; exact h
  | m + 1, hm => by
    by_cases he : n = m + 1
    · subst he; exact h
    · exact (h.upTo m (by omega)).up m
theorem mayE_ups (d c : Nat) (e : Ex) (n : Nat) (h : Hgt n e.l) : ∀ m, n ≤ m → mayE m d c e = mayE n d c e
  | 0, hm => by
    have : n = 0 := by omega
    subst this; rfl
  | m + 1, hm => by
    by_cases he : n = m + 1
    · subst he; rfl
    · rw [mayE_up m d c e (h.upTo m (by omega)), mayE_ups d c e n h m (by omega)]
def mayX (e : Ex) : Bool := may 12 e
theorem may_X (n : Nat) (e : Ex) (h : Hgt n e.l) : may n e = mayX e := by
  unfold may mayX may
  rw [← mayE_ups 1 0 e n h (max n 12) (Nat.le_max_left _ _), mayE_fuel (max n 12) 12 1 0 e (by omega) (by omega)]
theorem mayE_hgt : ∀ (n d c : Nat) (e : Ex), 13 ≤ n + d → 1 ≤ d → (mayE n d c e).1 = true → d ≤ 12 ∧ Hgt (12 - d) e.l := by
  intro n
  induction n with
  | zero =>
    intro d c e h1 h2 h
    unfold mayE at h
    simp [show 12 < d by omega] at h
  | succ n ih =>
    intro d c e h1 h2 h
    unfold mayE at h
    split at h
    · cases h
    · rename_i h0
      simp only [Bool.or_eq_true, Bool.not_eq_true', decide_eq_true_eq, decide_eq_false_iff_not, not_or, Decidable.not_not] at h0
      refine ⟨by omega, ?_⟩
      have hn : ∀ op : List UInt8, partsF op = 0 → e.op = op → Hgt (12 - d) e.l := fun op hp he => by
        have : e.l.length = 0 := by rw [he] at h0; omega
        rw [List.eq_nil_of_length_eq_zero this]
        exact Hgt.nil _
      split at h
      · rename_i hL; exact hn opLit (by decide) hL
      · split at h
        · rename_i hC; exact hn opCol (by decide) hC
        · split at h
          · cases h
          · cases hk : 12 - d with
            | zero =>
              have hd : d = 12 := by omega
              show e.l = []
              cases hl : e.l with
              | nil => rfl
              | cons x r =>
                obtain ⟨c', hc⟩ := fold_all _ _ _ h x (by rw [hl]; simp)
                have := (ih _ _ x (by omega) (by omega) hc).1
                omega
            | succ k =>
              intro x hx
              obtain ⟨c', hc⟩ := fold_all _ _ _ h x hx
              have := (ih _ _ x (by omega) (by omega) hc).2
              rw [show 12 - (d + 1) = k by omega] at this
              exact this
theorem mayX_hgt {e : Ex} (h : mayX e = true) : Hgt 12 e.l := ((mayE_hgt 12 1 0 e (by omega) (by omega) h).2).upTo 12 (by omega)
theorem mayX_ok {e : Ex} (h : mayX e = true) : okE 12 e := mayE_ok 12 1 0 e h
/-- What an expression comes to; NULL, if it may not be. -/
def evalX (cols : List Col) (row : List V) (e : Ex) : V := if mayX e then evalE 12 cols row e else V.zero
theorem eval_X (n : Nat) (cols : List Col) (row : List V) (e : Ex) (h : Hgt n e.l) : eval n cols row e = evalX cols row e := by
  unfold eval evalX
  rw [may_X n e h]
  cases hm : mayX e
  · rfl
  · simp only [if_true]
    rw [← evalE_ups cols row n e h (max n 12) (Nat.le_max_left _ _), ← evalE_ups cols row 12 e (mayX_hgt hm) (max n 12) (Nat.le_max_right _ _)]
theorem tyFold_congr {f g : Ex → Int × Int} : ∀ (l : List Ex) (a : List Int), (∀ x ∈ l, f x = g x) → tyFold f l a = tyFold g l a
  | [], _, _ => rfl
  | x :: r, a, h => by
    unfold tyFold
    rw [h x (by simp), tyFold_congr r _ (fun y hy => h y (by simp [hy]))]
theorem typedE_up (cols : List Col) : ∀ (n : Nat) (e : Ex), Hgt n e.l → typedE (n + 1) cols e = typedE n cols e := by
  intro n
  induction n with
  | zero =>
    intro e h
    have hl : e.l = [] := h
    unfold typedE
    rw [hl]
    rfl
  | succ n ih =>
    intro e h
    unfold typedE
    simp only [tyFold_congr e.l [] (fun x hx => ih x (h x hx))]
theorem typedE_ups (cols : List Col) (e : Ex) (n : Nat) (h : Hgt n e.l) : ∀ m, n ≤ m → typedE m cols e = typedE n cols e
  | 0, hm => by
    have : n = 0 := by omega
    subst this; rfl
  | m + 1, hm => by
    by_cases he : n = m + 1
    · subst he; rfl
    · rw [typedE_up cols m e (h.upTo m (by omega)), typedE_ups cols e n h m (by omega)]
/-- An expression's type, and the error's number. -/
def typeX (cols : List Col) (e : Ex) : Int × Int := if mayX e then typedE 12 cols e else (0, 1)
theorem type_X (n : Nat) (cols : List Col) (e : Ex) (h : Hgt n e.l) : typeF n cols e = typeX cols e := by
  unfold typeF typeX
  rw [may_X n e h]
  cases hm : mayX e
  · rfl
  · simp only [if_true]
    rw [← typedE_ups cols e n h (max n 12) (Nat.le_max_left _ _), ← typedE_ups cols e 12 (mayX_hgt hm) (max n 12) (Nat.le_max_right _ _)]

end Go.Proofs.YtdhjogmkhbpcgaaGreat

namespace Go.Proofs.YtdhjogmkhbpcgaaGreat
open Go.RowKit

/-- The slice value '.slice A l.length c' reads as the numbers l, and lies below block B. -/
def IS (w : World) (B : Nat) (A : Option Addr) (l : List Int) : Prop := 0 < l.length → ∃ b off, A = some ⟨b, off, none⟩ ∧ b < B ∧ ∀ i x, l[i]? = some x → w.cell? ⟨b, off + i, none⟩ = some (.int .i64 x)
/-- As IS, with bounds on the block. -/
def IF (w : World) (lo hi : Nat) (A : Option Addr) (l : List Int) : Prop := 0 < l.length → ∃ b off, A = some ⟨b, off, none⟩ ∧ lo ≤ b ∧ b < hi ∧ ∀ i x, l[i]? = some x → w.cell? ⟨b, off + i, none⟩ = some (.int .i64 x)
theorem IF.s {w : World} {lo hi : Nat} {A : Option Addr} {l : List Int} (h : IF w lo hi A l) {B : Nat} (hB : hi ≤ B) : IS w B A l := fun hl => by
  obtain ⟨b, off, rfl, _, h2, h3⟩ := h hl
  exact ⟨b, off, rfl, by omega, h3⟩
theorem IF.keep {w w' : World} {lo hi lo' hi' : Nat} {A : Option Addr} {l : List Int} (h : IF w lo hi A l) (hk : ∀ b, lo ≤ b → b < hi → (lo' ≤ b ∧ b < hi') ∧ ∀ o, w'.cell? ⟨b, o, none⟩ = w.cell? ⟨b, o, none⟩) : IF w' lo' hi' A l := fun hl => by
  obtain ⟨b, off, rfl, h1, h2, h3⟩ := h hl
  exact ⟨b, off, rfl, (hk b h1 h2).1.1, (hk b h1 h2).1.2, fun i x hx => ((hk b h1 h2).2 _).trans (h3 i x hx)⟩
theorem IS.below {w w' : World} {B : Nat} {A : Option Addr} {l : List Int} (h : IS w B A l) (hb : Below B w w') : IS w' B A l := fun hl => by
  obtain ⟨b, off, rfl, hbB, hr⟩ := h hl
  exact ⟨b, off, rfl, hbB, fun i x hx => (hb.cell (p := ⟨b, off + i, none⟩) hbB).trans (hr i x hx)⟩
theorem IS.more {w : World} {B B' : Nat} {A : Option Addr} {l : List Int} (h : IS w B A l) (hB : B ≤ B') : IS w B' A l := fun hl => by
  obtain ⟨b, off, rfl, hbB, hr⟩ := h hl
  exact ⟨b, off, rfl, by omega, hr⟩
theorem IS.nil {w : World} {B : Nat} {A : Option Addr} : IS w B A [] := fun h => absurd h (by simp)
theorem IS.at_ {w : World} {B : Nat} {A : Option Addr} {l : List Int} (h : IS w B A l) {j : Nat} (hj : j < l.length) :
    ∃ b off x, A = some ⟨b, off, none⟩ ∧ b < B ∧ l[j]? = some x ∧ w.cell? ⟨b, off + j, none⟩ = some (.int .i64 x) := by
  obtain ⟨b, off, rfl, hb, hr⟩ := h (by omega)
  exact ⟨b, off, l[j], rfl, hb, List.getElem?_eq_getElem hj, hr j _ (List.getElem?_eq_getElem hj)⟩
theorem int_one (l : List Int) : ∀ u ∈ l.map (fun x => (.int .i64 x : Value)), u.oneCell' = true := by
  intro u hu
  rw [List.mem_map] at hu
  obtain ⟨x, _, rfl⟩ := hu
  rfl
theorem IF.own {w : World} {base : Nat} {e : TypeId} {sv : Value} {n : Nat} {l : List Int} (h : w.ownsRow base e 1 sv n (l.map fun x => (.int .i64 x : Value))) :
    ∃ A c, sv = .slice A l.length c ∧ l.length ≤ c ∧ c ≤ maxLen ∧ IF w base w.heap.size A l := by
  have hn : l.length = n := by have := h.1; rw [List.length_map] at this; omega
  rcases h.2 with ⟨rfl, h0⟩ | ⟨g, cap, cur, rfl, hb, hg, hnc, hcm, hcs, htk⟩
  · refine ⟨none, 0, ?_, by omega, Nat.zero_le _, fun hl => absurd hl (by omega)⟩
    rw [hn, h0]
  · refine ⟨some ⟨g, 0, none⟩, cap, by rw [hn], by omega, hcm, fun _ => ⟨g, 0, rfl, hb, (Array.getElem?_eq_some_iff.1 hg).1, fun i x hx => ?_⟩⟩
    have hc := h.cells (g := g) rfl i (.int .i64 x) (by rw [List.getElem?_map, hx]; rfl)
    rw [add_mid] at hc
    exact hc

/-- The first place, from n on, where a thing is of a kind; -1: there is none. -/
def firstP {α : Type} (p : α → Bool) : List α → Nat → Int
  | [], _ => -1
  | x :: r, n => if p x then (n : Int) else firstP p r (n + 1)
theorem firstP_any {α : Type} (p : α → Bool) : ∀ (l : List α) (n : Nat), decide (0 ≤ firstP p l n) = l.any p
  | [], _ => by simp [firstP]
  | x :: r, n => by
    unfold firstP
    cases hp : p x
    · simp only [Bool.false_eq_true, if_false, List.any_cons, hp, Bool.false_or]
      exact firstP_any p r (n + 1)
    · simp [hp]
theorem firstP_cons {α : Type} (p : α → Bool) (x : α) (r : List α) (n : Nat) : firstP p (x :: r) n = if p x then (n : Int) else firstP p r (n + 1) := rfl
theorem firstP_le {α : Type} (p : α → Bool) : ∀ (l : List α) (n : Nat), firstP p l n < n + l.length ∨ firstP p l n = -1
  | [], _ => Or.inr rfl
  | x :: r, n => by
    unfold firstP
    split
    · left; simp only [List.length_cons]; omega
    · rcases firstP_le p r (n + 1) with h | h
      · left; simp only [List.length_cons]; omega
      · right; exact h

end Go.Proofs.YtdhjogmkhbpcgaaGreat
