/- schema.name, Place, check as plain functions; expr.Same against none. Condition: a table, an expression that read as ones. schema.May as a plain function. Condition: a table that reads as one, of the sizes that are looked at. -/
import Derived.Test.YtdhjogmkhbpcgaaGreatExpr5M
import Derived.Test.YtdhjogmkhbpcgaaGreatExprM
import Derived.Test.YtdhjogmkhbpcgaaGreatExpr34M
import Derived.Deep.CutBlock
import Derived.Deep.DeepCutAuto
namespace Go.Proofs.YtdhjogmkhbpcgaaGreat
open Go.RowKit Go.ChangeMaps

attribute [local go_sem] ByteArray.extract_mk ba_get ba_append
attribute [local go_sem ↓] Go.wp_at_zero Go.wp_at_succ run_eql_V run_neq_V

/-- May a text be a name that is no word of the language? -/
def nameR (s : List UInt8) : Bool := nameB s && !reserved s
theorem nameS_any (s : List UInt8) (w : World) (hs : s.length ≤ 1000000) : Calls Tryz.prog 93 #[.string ⟨s.toArray⟩] w (Ret (.bool (nameR s)) w) := by
  obtain ⟨B, hB⟩ : ∃ B, nameB s = B := ⟨_, rfl⟩
  obtain ⟨R, hR⟩ : ∃ R, reserved s = R := ⟨_, rfl⟩
  have HN : Hid (nameR s = (B && !R)) := by show _ = _; unfold nameR; rw [hB, hR]
  have h1 := nameX_any s w hs
  rw [hB] at h1
  have H1 := Lib.hid h1
  have H2 : Hid (∀ Z : World, Calls Tryz.prog 113 #[.string ⟨s.toArray⟩] Z (RetB R Z)) := fun Z => by have := reserved_any s Z; rw [hR] at this; exact this
  rw [HN.out]
  clear h1 hB hR
  cases B
  · go_enter Tryz.func93, Tryz.ntmps93
    go_wp2_with fail
    refine H1.out.mono ?_
    rintro en w1 ⟨rfl, hb1⟩
    go_wp2_with fail
    go_ret
    exact ⟨rfl, hb1⟩
  · go_enter Tryz.func93, Tryz.ntmps93
    go_wp2_with fail
    refine H1.out.mono ?_
    rintro en w1 ⟨rfl, hb1⟩
    go_wp2_with fail
    refine (H2.out _).mono ?_
    rintro en w2 ⟨rfl, rfl⟩
    go_wp2_with fail
    go_ret
    exact ⟨by cases R <;> rfl, hb1⟩

set_option maxHeartbeats 400000 in
theorem placeS1_any (n : List UInt8) (t : Int) (b : Bool) (s : List UInt8) (g : Nat) (w : World) (h : w.cell? ⟨g, 0, none⟩ = some (.string ⟨s.toArray⟩)) :
    Calls Tryz.prog 122 #[.agg #[.string ⟨n.toArray⟩, .int .i64 t, .bool b], .pointer (some ⟨g, 0, none⟩)] w (Ret (.bool (n == s)) w) := by
  have hg : g < w.heap.size := Blk_lt_of_cell h
  go_enter Tryz.func122, Tryz.ntmps122
  go_wp2
  go_ret
  exact ⟨rfl, by exact bl⟩

set_option maxHeartbeats 1000000 in
theorem indexFuncS_any (A : Option Addr) (c : Nat) (l : List Col) (s : List UInt8) (g : Nat) (w : World) (hl : l.length ≤ 1000000) (h : ColS w w.heap.size A l) (hu : w.cell? ⟨g, 0, none⟩ = some (.string ⟨s.toArray⟩)) :
    Calls Tryz.prog 114 #[.slice A l.length c, .func (.func 122) #[] #[.pointer (some ⟨g, 0, none⟩)]] w (Ret (.int .i64 (placeF l s)) w) := by
  obtain ⟨R, hR⟩ : ∃ R, placeF l s = R := ⟨_, rfl⟩
  rw [hR]
  have HR : Hid (placeFrom s (l.drop 0) 0 = R) := hR
  have HU := Lib.hid hu
  have hg : g < w.heap.size := Blk_lt_of_cell hu
  clear hR hu
  go_enter Tryz.func114, Tryz.ntmps114
  go_wp2
  go_loopw [8] (fun i wr => ∃ j : Nat, j ≤ l.length ∧ i = .int .i64 j ∧ Hid (placeFrom s (l.drop j) j = R) ∧ Below w.heap.size w wr) (fun i _ => l.length - (intOf i).toNat)
  case atStart => exact ⟨0, by omega, rfl, HR, Below.refl _ _⟩
  case round =>
    obtain ⟨j, hj, rfl, hrest, hbw⟩ := hrel
    by_cases hlt : j < l.length
    · obtain ⟨b, off, v, rfl, hbB, hv, c0, c1, c2⟩ := (h.below hbw).at_ hlt
      have hrest' := hrest.out
      rw [dropC l j v hv] at hrest'
      simp only [placeFrom] at hrest'
      have hzw := hbw.size
      have HW := Lib.hid ((hbw.cell (p := ⟨g, 0, none⟩) hg).trans HU.out)
      clear hv hrest
      obtain ⟨W, rfl⟩ : ∃ W, W = wr := ⟨_, rfl⟩
      by_cases hq : v.n = s
      · have HF : Hid ((j : Int) = R) := by
          show _ = _
          rw [← hrest', if_pos hq]
        have HQ : Hid ((v.n == s) = true) := by show _ = _; simpa using hq
        clear hrest' hq
        go_wp2_with fail
        refine (placeS1_any v.n v.t v.b s g W HW.out).mono ?_
        rintro e w1 ⟨rfl, hb1⟩
        rw [HQ.out]
        go_wp2_with fail
        go_ret
        exact ⟨by rw [← HF.out]; rfl, hbw.trans (hb1.mono hzw)⟩
      · have HF : Hid (placeFrom s (l.drop (j + 1)) (j + 1) = R) := by
          show _ = _
          rw [← hrest', if_neg hq]
        have HQ : Hid ((v.n == s) = false) := by show _ = _; simpa using hq
        clear hrest' hq
        go_wp2_with fail
        refine (placeS1_any v.n v.t v.b s g W HW.out).mono ?_
        rintro e w1 ⟨rfl, hb1⟩
        rw [HQ.out]
        go_wp2_with fail
        go_roundw
        case rel => exact ⟨j + 1, by omega, by go_num, HF, hbw.trans (hb1.mono hzw)⟩
        case measure => simp [intOf]; omega
    · have HF : Hid (R = -1) := by
        show _ = _
        rw [← hrest.out, List.drop_of_length_le (by omega)]
        rfl
      clear hrest
      go_wp2
      go_ret
      exact ⟨by rw [HF.out]; rfl, hbw⟩


set_option maxHeartbeats 400000 in
theorem placeS_any (t : Tb) (p : TbP) (s : List UInt8) (w : World) (hl : t.cols.length ≤ 1000000) (h : CQ t.cols p.cols.a (Old w.heap.size) w) :
    Calls Tryz.prog 94 #[.agg (t.cells p).toArray, .string ⟨s.toArray⟩] w (Ret (.int .i64 (placeF t.cols s)) w) := by
  obtain ⟨⟨a1, k1⟩, ⟨a2, k2⟩, ⟨a3, k3⟩, ⟨a4, k4⟩⟩ := p
  obtain ⟨w0, hw0⟩ : ∃ w0, (w.alloc (.cells (t.cells ⟨⟨a1, k1⟩, ⟨a2, k2⟩, ⟨a3, k3⟩, ⟨a4, k4⟩⟩).toArray 31)).alloc (.cells #[.string ⟨s.toArray⟩] 9) = w0 := ⟨_, rfl⟩
  have hb0 : Below w.heap.size w w0 := by rw [← hw0]; exact bl
  have k0 : Blk w0 (w.heap.size + 1) 9 #[.string ⟨s.toArray⟩] := by rw [← hw0]; exact Blk.new' _ _ _ _ (by simp)
  have kt : Blk w0 w.heap.size 31 (t.cells ⟨⟨a1, k1⟩, ⟨a2, k2⟩, ⟨a3, k3⟩, ⟨a4, k4⟩⟩).toArray := by rw [← hw0]; exact (Blk.new _ _ _).alloc _
  have h0 : ColS w0 w0.heap.size a1 t.cols := (h.keep (old_keep hb0 hb0.size)).s (fun b h => h)
  have t1 : w0.cell? ⟨w.heap.size, 1, none⟩ = some (.slice a1 t.cols.length k1) := kt.cell 1
  have HW := Lib.hid hw0
  clear hw0 h
  go_enter Tryz.func94, Tryz.ntmps94
  go_upto_region 1 with fail
  rw [HW.out]
  go_wp2_with fail
  refine (indexFuncS_any a1 k1 t.cols s (w.heap.size + 1) w0 hl h0 k0.one.1).mono ?_
  rintro e w1 ⟨rfl, hb1⟩
  go_wp2_with fail
  go_ret
  exact ⟨rfl, hb0.trans (hb1.mono hb0.size)⟩

/-- Is an expression none at all? -/
def same0 (e : Ex) : Bool := e.op == [] && (veq e.v V.zero && (e.s == [] && decide (e.l.length = 0)))
set_option maxHeartbeats 1000000 in
theorem equalFunc0_any (A : Option Addr) (c : Nat) (l : List Ex) (w : World) (hl : l.length ≤ maxLen) :
    Calls Tryz.prog 134 #[.slice A l.length c, .slice none 0 0, .func (.func 123) #[] #[]] w (Ret (.bool (decide (l.length = 0))) w) := by
  unfold maxLen at hl
  by_cases h : l.length = 0
  · have HD : Hid (decide (l.length = 0) = true) := by show _ = _; simpa using h
    have hne : ((l.length : Int) != 0) = false := by simp [h]
    have hlt : ¬ ((0 : Int) < (l.length : Int)) := by omega
    rw [HD.out]
    have HL : l = [] := List.eq_nil_of_length_eq_zero h
    subst HL
    go_enter Tryz.func134, Tryz.ntmps134
    go_wp2_with fail
    refine wp_loop_rounds 1 ?_
    rw [rounds_succ]
    go_wp2_with fail
    go_ret
    exact ⟨rfl, Below.refl _ _⟩
  · have HD : Hid (decide (l.length = 0) = false) := by show _ = _; simpa using h
    have hne : ((l.length : Int) != 0) = true := by rw [bne_iff_ne]; omega
    rw [HD.out]
    clear h
    go_enter Tryz.func134, Tryz.ntmps134
    go_wp2_with fail
    go_ret
    exact ⟨rfl, Below.refl _ _⟩

set_option maxHeartbeats 2000000 in
theorem same0_any (e : Ex) (A : Option Addr) (c : Nat) (w : World) (hl : e.l.length ≤ maxLen) :
    Calls Tryz.prog 123 #[.agg (e.cells A c).toArray, .agg #[.string ⟨#[]⟩, .int .i64 0, .int .i64 0, .string ⟨#[]⟩, .string ⟨#[]⟩, .slice none 0 0]] w (Ret (.bool (same0 e)) w) := by
  obtain ⟨w0, hw0⟩ : ∃ w0, (w.alloc (.cells (e.cells A c).toArray 29)).alloc (.cells #[.string ⟨#[]⟩, .int .i64 0, .int .i64 0, .string ⟨#[]⟩, .string ⟨#[]⟩, .slice none 0 0] 29) = w0 := ⟨_, rfl⟩
  have ke : Blk w0 w.heap.size 29 (e.cells A c).toArray := by rw [← hw0]; exact (Blk.new _ _ _).alloc _
  have kz : Blk w0 (w.heap.size + 1) 29 (exZero.cells none 0).toArray := by rw [← hw0]; exact Blk.new' _ _ _ _ (by simp)
  have hb0 : Below w.heap.size w w0 := by rw [← hw0]; exact bl
  obtain ⟨D, hD⟩ : ∃ D, decide (e.l.length = 0) = D := ⟨_, rfl⟩
  have hq0 := equalFunc0_any A c e.l w0 hl
  rw [hD] at hq0
  have HQ := Lib.hid hq0
  obtain ⟨x0, x1, x2, x3, x4, x5⟩ := ke.six
  obtain ⟨z0, z1, z2, z3, z4, z5⟩ := kz.six
  dsimp only [exZero, V.zero, Ex.op, Ex.v, Ex.s, Ex.l, List.length_nil] at z0 z1 z2 z3 z4 z5
  have HW := Lib.hid hw0
  clear hw0
  obtain ⟨R, hR⟩ : ∃ R, same0 e = R := ⟨_, rfl⟩
  rw [hR]
  unfold same0 at hR
  rw [hD] at hR
  clear hD hq0
  by_cases h1 : e.op = []
  · have o1 : (e.op == []) = true := by rw [h1]; rfl
    have o2 : e.op.isEmpty = true := by rw [h1]; rfl
    by_cases h2 : veq ⟨e.v.k, e.v.i, e.v.s⟩ ⟨0, 0, []⟩ = true
    · by_cases h3 : e.s = []
      · have p1 : (e.s == []) = true := by rw [h3]; rfl
        have p2 : e.s.isEmpty = true := by rw [h3]; rfl
        have HF : Hid (R = D) := by show _ = _; rw [← hR, o1, show veq e.v V.zero = true from h2, p1]; rfl
        clear hR h1 h3
        go_enter Tryz.func123, Tryz.ntmps123
        go_upto_region 1 with fail
        rw [HW.out]
        go_wp2_with fail
        refine HQ.out.mono ?_
        rintro en w1 ⟨rfl, hb1⟩
        go_wp2_with fail
        go_ret
        exact ⟨by rw [HF.out]; rfl, hb0.trans (hb1.mono hb0.size)⟩
      · have p1 : (e.s == []) = false := by rw [beq_eq_false_iff_ne]; exact h3
        have p2 : e.s.isEmpty = false := by cases he : e.s with | nil => exact absurd he h3 | cons _ _ => rfl
        have HF : Hid (R = false) := by show _ = _; rw [← hR, o1, show veq e.v V.zero = true from h2, p1]; rfl
        clear hR h1 h3
        go_enter Tryz.func123, Tryz.ntmps123
        go_upto_region 1 with fail
        rw [HW.out]
        go_wp2_with fail
        go_ret
        exact ⟨by rw [HF.out]; rfl, hb0⟩
    · have h2f : veq ⟨e.v.k, e.v.i, e.v.s⟩ ⟨0, 0, []⟩ = false := by cases hq : veq ⟨e.v.k, e.v.i, e.v.s⟩ ⟨0, 0, []⟩ with | true => exact absurd hq h2 | false => rfl
      have HF : Hid (R = false) := by show _ = _; rw [← hR, o1, show veq e.v V.zero = false from h2f]; rfl
      clear hR h1 h2
      go_enter Tryz.func123, Tryz.ntmps123
      go_upto_region 1 with fail
      rw [HW.out]
      go_wp2_with fail
      go_ret
      exact ⟨by rw [HF.out]; rfl, hb0⟩
  · have o1 : (e.op == []) = false := by rw [beq_eq_false_iff_ne]; exact h1
    have o2 : e.op.isEmpty = false := by cases he : e.op with | nil => exact absurd he h1 | cons _ _ => rfl
    have HF : Hid (R = false) := by show _ = _; rw [← hR, o1]; rfl
    clear hR h1
    go_enter Tryz.func123, Tryz.ntmps123
    go_upto_region 1 with fail
    rw [HW.out]
    go_wp2_with fail
    go_ret
    exact ⟨by rw [HF.out]; rfl, hb0⟩

/-- What is wrong with a check over columns: the error's number. -/
def checkX (cols : List Col) (e : Ex) : Int := if same0 e then 0 else if ¬ (typeX cols e).2 = 0 then (typeX cols e).2 else if ¬ (typeX cols e).1 = 3 ∧ ¬ (typeX cols e).1 = 0 then 5 else 0
set_option maxHeartbeats 2000000 in
theorem check_any6 (e : Ex) (A : Option Addr) (c n : Nat) (A1 : Option Addr) (c1 : Nat) (cols : List Col) (w : World) (hf : e.fit 1000) (hl : e.l.length ≤ maxLen) (hE : ExS 1000 n w w.heap.size A e.l) (hcl : cols.length ≤ 1000000) (hC : ColS w w.heap.size A1 cols) :
    Calls Tryz.prog 96 #[.agg (e.cells A c).toArray, .slice A1 cols.length c1] w (Ret (.int .i64 (checkX cols e)) w) := by
  obtain ⟨w0, hw0⟩ : ∃ w0, w.alloc (.cells (e.cells A c).toArray 29) = w0 := ⟨_, rfl⟩
  have ke : Blk w0 w.heap.size 29 (e.cells A c).toArray := by rw [← hw0]; exact Blk.new _ _ _
  have hb0 : Below w.heap.size w w0 := by rw [← hw0]; exact bl
  have HS := Lib.hid (same0_any e A c w0 hl)
  have hty : ∀ Z : World, Below w.heap.size w Z → Calls Tryz.prog 23 #[.agg (e.cells A c).toArray, .slice A1 cols.length c1] Z (RetTy (typeX cols e) Z) := fun Z h => typeX_any n e A c A1 c1 cols Z hf ((hE.below n h).more h.size n) hcl ((hC.below h).more h.size)
  obtain ⟨R, hR⟩ : ∃ R, checkX cols e = R := ⟨_, rfl⟩
  rw [hR]
  unfold checkX at hR
  obtain ⟨S, hS⟩ : ∃ S, same0 e = S := ⟨_, rfl⟩
  rw [hS] at HS hR
  obtain ⟨T, hT⟩ : ∃ T, typeX cols e = T := ⟨_, rfl⟩
  rw [hT] at hty hR
  obtain ⟨ty, er⟩ := T
  have HT := Lib.hid hty
  dsimp only [Ex.cells] at HT HS
  obtain ⟨x0, x1, x2, x3, x4, x5⟩ := ke.six
  have HW := Lib.hid hw0
  clear hw0 hS hT hty hE hC
  simp only at hR
  cases S
  · simp only [Bool.false_eq_true, if_false] at hR
    have HRR := Lib.hid hR
    clear hR
    go_enter Tryz.func96, Tryz.ntmps96
    go_upto_region 1 with fail
    rw [HW.out]
    dsimp only [Ex.cells]
    go_wp2_with fail
    refine HS.out.mono ?_
    rintro en w1 ⟨rfl, hb1⟩
    have hbw1 := hb0.trans (hb1.mono hb0.size)
    have ke1 := ke.below hb1 ke.lt
    clear x0 x1 x2 x3 x4 x5
    obtain ⟨x0, x1, x2, x3, x4, x5⟩ := ke1.six
    go_wp2_with fail
    refine (HT.out w1 hbw1).mono ?_
    rintro en w2 ⟨rfl, hb2⟩
    have hbw2 := hbw1.trans (hb2.mono hbw1.size)
    by_cases her : er = 0
    · subst her
      by_cases hbad : ¬ ty = 3 ∧ ¬ ty = 0
      · have HF : Hid (R = 5) := by show _ = _; rw [← HRR.out, if_neg (by simp), if_pos hbad]
        obtain ⟨hb3, hb00⟩ := hbad
        have t3 : (ty != 3) = true := by simpa using hb3
        have t0 : (ty != 0) = true := by simpa using hb00
        go_wp2_with fail
        go_ret
        exact ⟨by rw [HF.out]; rfl, hbw2⟩
      · have HF : Hid (R = 0) := by show _ = _; rw [← HRR.out, if_neg (by simp), if_neg hbad]
        have ht : ty = 3 ∨ ty = 0 := by omega
        clear hbad
        rcases ht with rfl | rfl
        all_goals
          go_wp2_with fail
          go_ret
          exact ⟨by rw [HF.out]; rfl, hbw2⟩
    · have HF : Hid (R = er) := by show _ = _; rw [← HRR.out, if_pos her]
      have e1 : (er == 0) = false := by simpa using her
      go_wp2_with fail
      go_ret
      exact ⟨by rw [HF.out]; rfl, hbw2⟩
  · have HF : Hid (R = 0) := by show _ = _; rw [← hR]; rfl
    clear hR
    go_enter Tryz.func96, Tryz.ntmps96
    go_upto_region 1 with fail
    rw [HW.out]
    dsimp only [Ex.cells]
    go_wp2_with fail
    refine HS.out.mono ?_
    rintro en w1 ⟨rfl, hb1⟩
    go_wp2_with fail
    go_ret
    exact ⟨by rw [HF.out]; rfl, hb0.trans (hb1.mono hb0.size)⟩

end Go.Proofs.YtdhjogmkhbpcgaaGreat

namespace Go.Proofs.YtdhjogmkhbpcgaaGreat
open Go.RowKit

attribute [local go_sem] ByteArray.extract_mk ba_get ba_append
attribute [local go_sem ↓] Go.wp_at_zero Go.wp_at_succ run_eql_V run_neq_V

def inB (n : Nat) (a : Int) : Bool := decide (0 ≤ a) && decide (a < n)
def colB (cols : List Col) (i : Nat) (c : Col) : Bool := nameR c.n && (decide (1 ≤ c.t) && (decide (c.t ≤ 3) && decide (placeF cols c.n = i)))
def colsFrom (cols : List Col) : List Col → Nat → Bool
  | [], _ => true
  | c :: r, i => colB cols i c && colsFrom cols r (i + 1)
def refB (n : Nat) (f : Fr) : Bool := inB n f.c && nameR f.t
def lastB (t : Tb) : Bool := inB t.cols.length t.key && ((t.cols.getD t.key.toNat ⟨[], 0, false⟩).b && decide (checkX t.cols t.chk = 0))
/-- May a table be? -/
def mayTb (t : Tb) : Bool := nameR t.n && (decide (1 ≤ t.cols.length) && (decide (t.cols.length ≤ 8) && (colsFrom t.cols t.cols 0 && (t.uniq.all (inB t.cols.length) && (t.refs.all (refB t.cols.length) && lastB t)))))
/-- The sizes of a table that is looked at. -/
def Tb.small (t : Tb) : Prop := t.n.length ≤ 1000 ∧ t.cols.length ≤ 1000 ∧ (∀ c ∈ t.cols, c.n.length ≤ 1000) ∧ t.uniq.length ≤ 1000 ∧ t.refs.length ≤ 1000 ∧ (∀ r ∈ t.refs, r.t.length ≤ 1000) ∧ t.chk.fit 1000 ∧ t.chk.l.length ≤ maxLen

set_option maxHeartbeats 400000 in
theorem there_any (a : Int) (g : Nat) (n c : Nat) (A : Option Addr) (w : World) (h : w.cell? ⟨g, 1, none⟩ = some (.slice A n c)) :
    Calls Tryz.prog 95 #[.int .i64 a, .pointer (some ⟨g, 0, none⟩)] w (Ret (.bool (inB n a)) w) := by
  have hg : g < w.heap.size := Blk_lt_of_cell h
  by_cases h1 : 0 ≤ a
  · by_cases h2 : a < n
    · have HB : Hid (inB n a = true) := by show _ = _; unfold inB; simp [h1, h2]
      rw [HB.out]
      go_enter Tryz.func95, Tryz.ntmps95
      go_wp2_with fail
      go_ret
      exact ⟨rfl, by exact bl⟩
    · have HB : Hid (inB n a = false) := by show _ = _; unfold inB; simp [h2]
      rw [HB.out]
      go_enter Tryz.func95, Tryz.ntmps95
      go_wp2_with fail
      go_ret
      exact ⟨rfl, by exact bl⟩
  · have HB : Hid (inB n a = false) := by show _ = _; unfold inB; simp [h1]
    rw [HB.out]
    go_enter Tryz.func95, Tryz.ntmps95
    go_wp2_with fail
    go_ret
    exact ⟨rfl, by exact bl⟩

theorem dropI (l : List Int) (j : Nat) (v : Int) (h : l[j]? = some v) : l.drop j = v :: l.drop (j + 1) := by
  obtain ⟨hj, rfl⟩ := List.getElem?_eq_some_iff.1 h
  exact List.drop_eq_getElem_cons hj
theorem dropF (l : List Fr) (j : Nat) (v : Fr) (h : l[j]? = some v) : l.drop j = v :: l.drop (j + 1) := by
  obtain ⟨hj, rfl⟩ := List.getElem?_eq_some_iff.1 h
  exact List.drop_eq_getElem_cons hj

set_option maxRecDepth 100000 in
set_option maxHeartbeats 8000000 in
theorem mayTb_any (t : Tb) (p : TbP) (w : World) (hs : t.small) (hQ : TbQ 1000 t p (Old w.heap.size) w) : Calls Tryz.prog 56 #[.agg (t.cells p).toArray] w (Ret (.bool (mayTb t)) w) := by
  obtain ⟨hn, hcl, hcn, hul, hrl, hrt, hcf, hck⟩ := hs
  obtain ⟨⟨a1, k1⟩, ⟨a2, k2⟩, ⟨a3, k3⟩, ⟨a4, k4⟩⟩ := p
  obtain ⟨hC, hU, hR, n, hE⟩ := hQ
  obtain ⟨w0, hw0⟩ : ∃ w0, w.alloc (.cells (t.cells ⟨⟨a1, k1⟩, ⟨a2, k2⟩, ⟨a3, k3⟩, ⟨a4, k4⟩⟩).toArray 31) = w0 := ⟨_, rfl⟩
  have kt0 : Blk w0 w.heap.size 31 (t.cells ⟨⟨a1, k1⟩, ⟨a2, k2⟩, ⟨a3, k3⟩, ⟨a4, k4⟩⟩).toArray := by rw [← hw0]; exact Blk.new _ _ _
  have hb0 : Below w.heap.size w w0 := by rw [← hw0]; exact bl
  have hz0 := hb0.size
  have lt0 := kt0.lt
  have HSH : Hid (∀ w' : World, Below w0.heap.size w0 w' → (w'.cell? ⟨w.heap.size, 0, none⟩ = some (.string ⟨t.n.toArray⟩) ∧ w'.cell? ⟨w.heap.size, 1, none⟩ = some (.slice a1 t.cols.length k1) ∧ w'.cell? ⟨w.heap.size, 2, none⟩ = some (.int .i64 t.key) ∧ w'.cell? ⟨w.heap.size, 3, none⟩ = some (.slice a2 t.uniq.length k2) ∧ w'.cell? ⟨w.heap.size, 4, none⟩ = some (.slice a3 t.refs.length k3) ∧ w'.cell? ⟨w.heap.size, 5, none⟩ = some (.string ⟨t.chk.op.toArray⟩) ∧ w'.cell? ⟨w.heap.size, 6, none⟩ = some (.int .i64 t.chk.v.k) ∧ w'.cell? ⟨w.heap.size, 7, none⟩ = some (.int .i64 t.chk.v.i) ∧ w'.cell? ⟨w.heap.size, 8, none⟩ = some (.string ⟨t.chk.v.s.toArray⟩) ∧ w'.cell? ⟨w.heap.size, 9, none⟩ = some (.string ⟨t.chk.s.toArray⟩) ∧ w'.cell? ⟨w.heap.size, 10, none⟩ = some (.slice a4 t.chk.l.length k4))) := fun w' h => by
    have k := kt0.below h lt0
    exact ⟨k.cell 0, k.cell 1, k.cell 2, k.cell 3, k.cell 4, k.cell 5, k.cell 6, k.cell 7, k.cell 8, k.cell 9, k.cell 10⟩
  have hwx : ∀ Y : World, Below w0.heap.size w0 Y → Below w.heap.size w Y := fun Y h => hb0.trans (h.mono hb0.size)
  have HC : Hid (∀ Y : World, Below w0.heap.size w0 Y → CQ t.cols a1 (Old Y.heap.size) Y) := fun Y h => hC.keep (old_keep (hwx Y h) (hwx Y h).size)
  have HU : Hid (∀ Y : World, Below w0.heap.size w0 Y → IQ t.uniq a2 (Old Y.heap.size) Y) := fun Y h => hU.keep (old_keep (hwx Y h) (hwx Y h).size)
  have HR : Hid (∀ Y : World, Below w0.heap.size w0 Y → FQ t.refs a3 (Old Y.heap.size) Y) := fun Y h => hR.keep (old_keep (hwx Y h) (hwx Y h).size)
  have HE : Hid (∀ Y : World, Below w0.heap.size w0 Y → ExS 1000 n Y Y.heap.size a4 t.chk.l) := fun Y h => (hE.keep (old_keep (hwx Y h) (hwx Y h).size) n).toS (fun b h => h) n
  have HCN := Lib.hid hcn
  have HRT := Lib.hid hrt
  have HCF := Lib.hid hcf
  have HW := Lib.hid hw0
  obtain ⟨R, hRR⟩ : ∃ R, mayTb t = R := ⟨_, rfl⟩
  rw [hRR]
  unfold mayTb at hRR
  obtain ⟨N, hN⟩ : ∃ N, nameR t.n = N := ⟨_, rfl⟩
  have hnm := nameS_any t.n w0 (by omega)
  rw [hN] at hnm hRR
  have HNM := Lib.hid hnm
  have HRR := Lib.hid hRR
  obtain ⟨R3, hR3⟩ : ∃ r, lastB t = r := ⟨_, rfl⟩
  have HR3 := Lib.hid hR3
  clear hw0 hC hU hR hE hwx hcn hrt hcf hnm hN hRR hR3
  obtain ⟨x0, x1, x2, x3, x4, x5, x6, x7, x8, x9, x10⟩ := HSH.out w0 (Below.refl _ _)
  go_enter Tryz.func56, Tryz.ntmps56
  go_upto_region 1 with fail
  rw [HW.out]
  clear HW
  cases N
  · have HF : Hid (R = false) := by show _ = _; rw [← HRR.out]; rfl
    go_wp2_with fail
    refine HNM.out.mono ?_
    rintro en w1 ⟨rfl, hb1⟩
    go_wp2_with fail
    go_ret
    exact ⟨by rw [HF.out]; rfl, hb0.trans (hb1.mono hz0)⟩
  by_cases hl1 : 1 ≤ t.cols.length
  case neg =>
    have HF : Hid (R = false) := by show _ = _; rw [← HRR.out]; simp [hl1]
    have i1 : (t.cols.length : Int) < 1 := by omega
    go_wp2_with fail
    refine HNM.out.mono ?_
    rintro en w1 ⟨rfl, hb1⟩
    clear x0 x1 x2 x3 x4 x5 x6 x7 x8 x9 x10
    obtain ⟨x0, x1, x2, x3, x4, x5, x6, x7, x8, x9, x10⟩ := HSH.out w1 hb1
    go_wp2_with fail
    go_ret
    exact ⟨by rw [HF.out]; rfl, hb0.trans (hb1.mono hz0)⟩
  by_cases hl8 : t.cols.length ≤ 8
  case neg =>
    have HF : Hid (R = false) := by show _ = _; rw [← HRR.out]; simp [hl8]
    have i1 : ¬ (t.cols.length : Int) < 1 := by omega
    have i2 : (8 : Int) < (t.cols.length : Int) := by omega
    go_wp2_with fail
    refine HNM.out.mono ?_
    rintro en w1 ⟨rfl, hb1⟩
    clear x0 x1 x2 x3 x4 x5 x6 x7 x8 x9 x10
    obtain ⟨x0, x1, x2, x3, x4, x5, x6, x7, x8, x9, x10⟩ := HSH.out w1 hb1
    go_wp2_with fail
    go_ret
    exact ⟨by rw [HF.out]; rfl, hb0.trans (hb1.mono hz0)⟩
  have i1 : ¬ (t.cols.length : Int) < 1 := by omega
  have i2 : ¬ (8 : Int) < (t.cols.length : Int) := by omega
  have HRR2 : Hid ((colsFrom t.cols t.cols 0 && (t.uniq.all (inB t.cols.length) && (t.refs.all (refB t.cols.length) && R3))) = R) := by show _ = _; rw [← HRR.out, HR3.out]; simp [hl1, hl8]
  clear HRR
  obtain ⟨R1, hR1⟩ : ∃ r, (t.uniq.all (inB t.cols.length) && (t.refs.all (refB t.cols.length) && R3)) = r := ⟨_, rfl⟩
  rw [hR1] at HRR2
  have HR1 := Lib.hid hR1
  clear hR1
  go_wp2_with fail
  refine HNM.out.mono ?_
  rintro en w1 ⟨rfl, hb1⟩
  clear HNM x0 x1 x2 x3 x4 x5 x6 x7 x8 x9 x10
  obtain ⟨x0, x1, x2, x3, x4, x5, x6, x7, x8, x9, x10⟩ := HSH.out w1 hb1
  go_wp2_with fail
  go_loopw [29] (fun i wr => ∃ j : Nat, j ≤ t.cols.length ∧ i = .int .i64 j ∧ Hid ((colsFrom t.cols (t.cols.drop j) j && R1) = R) ∧ Below w0.heap.size w0 wr) (fun i _ => t.cols.length - (intOf i).toNat)
  case atStart => exact ⟨0, by omega, rfl, HRR2, hb1⟩
  case round =>
    obtain ⟨j, hj, rfl, hrest, hbr⟩ := hrel
    clear x0 x1 x2 x3 x4 x5 x6 x7 x8 x9 x10
    obtain ⟨x0, x1, x2, x3, x4, x5, x6, x7, x8, x9, x10⟩ := HSH.out wr hbr
    obtain ⟨W, rfl⟩ : ∃ W, W = wr := ⟨_, rfl⟩
    have hzr := hbr.size
    by_cases hlt : j < t.cols.length
    · obtain ⟨b, off, c, rfl, hbB, hv, c0, c1, c2⟩ := ((HC.out W hbr).s (fun b h => h)).at_ hlt
      have hcn := HCN.out c (List.mem_of_getElem? hv)
      have hrest' := hrest.out
      rw [dropC t.cols j c hv] at hrest'
      simp only [colsFrom] at hrest'
      unfold colB at hrest'
      have i3 : (0 : Int) ≤ (j : Int) := by omega
      have i4 : (j : Int) < (t.cols.length : Int) := by omega
      obtain ⟨W6, hw6⟩ : ∃ W6, W.alloc (.cells #[.string ⟨c.n.toArray⟩, .int .i64 c.t, .bool c.b] 77) = W6 := ⟨_, rfl⟩
      have kc6 : Blk W6 W.heap.size 77 #[.string ⟨c.n.toArray⟩, .int .i64 c.t, .bool c.b] := by rw [← hw6]; exact Blk.new _ _ _
      have hb6 : Below W.heap.size W W6 := by rw [← hw6]; exact bl
      have hb06 : Below w0.heap.size w0 W6 := hbr.trans (hb6.mono hzr)
      have hbw6 := hb0.trans (hb06.mono hz0)
      have HW6 := Lib.hid hw6
      obtain ⟨B, hB⟩ : ∃ B, nameR c.n = B := ⟨_, rfl⟩
      have hnm := nameS_any c.n W6 (by omega)
      rw [hB] at hnm hrest'
      have HNM := Lib.hid hnm
      obtain ⟨PL, hPL⟩ : ∃ P, placeF t.cols c.n = P := ⟨_, rfl⟩
      have hpl : ∀ Z : World, Below w0.heap.size w0 Z → Calls Tryz.prog 94 #[.agg (t.cells ⟨⟨some ⟨b, off, none⟩, k1⟩, ⟨a2, k2⟩, ⟨a3, k3⟩, ⟨a4, k4⟩⟩).toArray, .string ⟨c.n.toArray⟩] Z (Ret (.int .i64 PL) Z) := fun Z h => by have := placeS_any t ⟨⟨some ⟨b, off, none⟩, k1⟩, ⟨a2, k2⟩, ⟨a3, k3⟩, ⟨a4, k4⟩⟩ c.n Z (by omega) (HC.out Z h); rw [hPL] at this; exact this
      rw [hPL] at hrest'
      have HPL := Lib.hid hpl
      dsimp only [Tb.cells] at HPL
      have HV := Lib.hid hrest'
      clear hw6 hv hcn hrest hrest' hB hnm hPL hpl
      go_upto_region 6 with fail
      rw [HW6.out]
      clear HW6 c0 c1 c2 x0 x1 x2 x3 x4 x5 x6 x7 x8 x9 x10
      obtain ⟨⟨c0, c1, c2⟩, _⟩ := kc6.three
      cases B
      · have HF : Hid (R = false) := by show _ = _; rw [← HV.out]; rfl
        go_wp2_with fail
        refine HNM.out.mono ?_
        rintro en w7 ⟨rfl, hb7⟩
        go_wp2_with fail
        go_ret
        exact ⟨by rw [HF.out]; rfl, hbw6.trans (hb7.mono hbw6.size)⟩
      go_wp2_with fail
      refine HNM.out.mono ?_
      rintro en w7 ⟨rfl, hb7⟩
      have kc7 := kc6.below hb7 kc6.lt
      have hb07 := hb06.trans (hb7.mono hb06.size)
      have hbw7 := hb0.trans (hb07.mono hz0)
      clear c0 c1 c2
      obtain ⟨⟨c0, c1, c2⟩, _⟩ := kc7.three
      obtain ⟨x0, x1, x2, x3, x4, x5, x6, x7, x8, x9, x10⟩ := HSH.out w7 hb07
      by_cases g1 : c.t < 1
      · have HF : Hid (R = false) := by show _ = _; rw [← HV.out]; simp [show ¬ 1 ≤ c.t by omega]
        go_wp2_with fail
        go_ret
        exact ⟨by rw [HF.out]; rfl, hbw7⟩
      by_cases g3 : 3 < c.t
      · have HF : Hid (R = false) := by show _ = _; rw [← HV.out]; simp [show ¬ c.t ≤ 3 by omega]
        go_wp2_with fail
        go_ret
        exact ⟨by rw [HF.out]; rfl, hbw7⟩
      go_wp2_with fail
      refine (HPL.out w7 hb07).mono ?_
      rintro en w8 ⟨rfl, hb8⟩
      have hb08 := hb07.trans (hb8.mono hb07.size)
      have hbw8 := hb0.trans (hb08.mono hz0)
      by_cases gp : PL = j
      · have e1 : (PL != (j : Int)) = false := by simpa using gp
        have HN2 : Hid ((colsFrom t.cols (t.cols.drop (j + 1)) (j + 1) && R1) = R) := by show _ = _; rw [← HV.out]; simp [gp, show 1 ≤ c.t by omega, show c.t ≤ 3 by omega]
        clear gp
        go_wp2_with fail
        go_roundw
        case rel => exact ⟨j + 1, by omega, by go_num, HN2, hb08⟩
        case measure => simp [intOf]; omega
      · have e1 : (PL != (j : Int)) = true := by simpa using gp
        have HF : Hid (R = false) := by show _ = _; rw [← HV.out]; simp [gp]
        clear gp
        go_wp2_with fail
        go_ret
        exact ⟨by rw [HF.out]; rfl, hbw8⟩
    · obtain rfl : j = t.cols.length := by omega
      have HR1R : Hid (R1 = R) := by show _ = _; rw [← hrest.out, List.drop_of_length_le (Nat.le_refl _)]; rfl
      have b0 : ¬ ((t.cols.length : Int) < (t.cols.length : Int)) := by omega
      clear hrest
      obtain ⟨R2, hR2⟩ : ∃ r, (t.refs.all (refB t.cols.length) && R3) = r := ⟨_, rfl⟩
      have hr1 := HR1.out
      rw [hR2] at hr1
      have HU1 : Hid (((t.uniq.drop 0).all (inB t.cols.length) && R2) = R) := by show _ = _; rw [List.drop_zero, hr1]; exact HR1R.out
      have HR2 := Lib.hid hR2
      clear hr1 hR2 HR1R HR1
      go_wp2_with fail
      go_loopw [61] (fun i wr => ∃ j : Nat, j ≤ t.uniq.length ∧ i = .int .i64 j ∧ Hid (((t.uniq.drop j).all (inB t.cols.length) && R2) = R) ∧ Below w0.heap.size w0 wr) (fun i _ => t.uniq.length - (intOf i).toNat)
      case atStart => exact ⟨0, by omega, rfl, HU1, hbr⟩
      case round =>
        obtain ⟨j, hj, rfl, hrest, hbu⟩ := hrel
        clear x0 x1 x2 x3 x4 x5 x6 x7 x8 x9 x10
        obtain ⟨x0, x1, x2, x3, x4, x5, x6, x7, x8, x9, x10⟩ := HSH.out wr hbu
        obtain ⟨WU, rfl⟩ : ∃ W, W = wr := ⟨_, rfl⟩
        have hzu := hbu.size
        have hbwu := hb0.trans (hbu.mono hz0)
        by_cases hlt : j < t.uniq.length
        · obtain ⟨b, off, x, rfl, hbB, hv, c0⟩ := (HU.out WU hbu).at_ hlt
          have hrest' := hrest.out
          rw [dropI t.uniq j x hv] at hrest'
          simp only [List.all_cons] at hrest'
          have i3 : (0 : Int) ≤ (j : Int) := by omega
          have i4 : (j : Int) < (t.uniq.length : Int) := by omega
          obtain ⟨B, hB⟩ : ∃ B, inB t.cols.length x = B := ⟨_, rfl⟩
          have hth := there_any x w.heap.size t.cols.length k1 a1 WU x1
          rw [hB] at hth hrest'
          have HTH := Lib.hid hth
          have HV := Lib.hid hrest'
          clear hrest hrest' hv hB hth
          cases B
          · have HF : Hid (R = false) := by show _ = _; rw [← HV.out]; rfl
            go_wp2_with fail
            refine HTH.out.mono ?_
            rintro en w7 ⟨rfl, hb7⟩
            go_wp2_with fail
            go_ret
            exact ⟨by rw [HF.out]; rfl, hbwu.trans (hb7.mono hbwu.size)⟩
          · have HN2 : Hid (((t.uniq.drop (j + 1)).all (inB t.cols.length) && R2) = R) := by show _ = _; rw [← HV.out]; simp
            go_wp2_with fail
            refine HTH.out.mono ?_
            rintro en w7 ⟨rfl, hb7⟩
            go_wp2_with fail
            go_roundw
            case rel => exact ⟨j + 1, by omega, by go_num, HN2, hbu.trans (hb7.mono hzu)⟩
            case measure => simp [intOf]; omega
        · obtain rfl : j = t.uniq.length := by omega
          have HR2R : Hid (R2 = R) := by show _ = _; rw [← hrest.out, List.drop_of_length_le (Nat.le_refl _)]; rfl
          have b1 : ¬ ((t.uniq.length : Int) < (t.uniq.length : Int)) := by omega
          clear hrest
          have HF1 : Hid (((t.refs.drop 0).all (refB t.cols.length) && R3) = R) := by show _ = _; rw [List.drop_zero, HR2.out]; exact HR2R.out
          clear HR2 HR2R
          go_wp2_with fail
          go_loopw [73] (fun i wr => ∃ j : Nat, j ≤ t.refs.length ∧ i = .int .i64 j ∧ Hid (((t.refs.drop j).all (refB t.cols.length) && R3) = R) ∧ Below w0.heap.size w0 wr) (fun i _ => t.refs.length - (intOf i).toNat)
          case atStart => exact ⟨0, by omega, rfl, HF1, hbu⟩
          case round =>
            obtain ⟨j, hj, rfl, hrest, hbf⟩ := hrel
            clear x0 x1 x2 x3 x4 x5 x6 x7 x8 x9 x10
            obtain ⟨x0, x1, x2, x3, x4, x5, x6, x7, x8, x9, x10⟩ := HSH.out wr hbf
            obtain ⟨WF, rfl⟩ : ∃ W, W = wr := ⟨_, rfl⟩
            have hzf := hbf.size
            have hbwf := hb0.trans (hbf.mono hz0)
            by_cases hlt : j < t.refs.length
            · obtain ⟨b, off, f, rfl, hbB, hv, c0, c1⟩ := (HR.out WF hbf).at_ hlt
              have hft := HRT.out f (List.mem_of_getElem? hv)
              have hrest' := hrest.out
              rw [dropF t.refs j f hv] at hrest'
              simp only [List.all_cons] at hrest'
              unfold refB at hrest'
              have i3 : (0 : Int) ≤ (j : Int) := by omega
              have i4 : (j : Int) < (t.refs.length : Int) := by omega
              obtain ⟨W6, hw6⟩ : ∃ W6, WF.alloc (.cells #[.int .i64 f.c, .string ⟨f.t.toArray⟩] 80) = W6 := ⟨_, rfl⟩
              have kc6 : Blk W6 WF.heap.size 80 #[.int .i64 f.c, .string ⟨f.t.toArray⟩] := by rw [← hw6]; exact Blk.new _ _ _
              have hb6 : Below WF.heap.size WF W6 := by rw [← hw6]; exact bl
              have hb06 : Below w0.heap.size w0 W6 := hbf.trans (hb6.mono hzf)
              have hbw6 := hb0.trans (hb06.mono hz0)
              have HW6 := Lib.hid hw6
              obtain ⟨B, hB⟩ : ∃ B, inB t.cols.length f.c = B := ⟨_, rfl⟩
              have x1' := (HSH.out W6 hb06).2.1
              have hth := there_any f.c w.heap.size t.cols.length k1 a1 W6 x1'
              rw [hB] at hth
              have HTH := Lib.hid hth
              obtain ⟨NB, hNB⟩ : ∃ B, nameR f.t = B := ⟨_, rfl⟩
              have HNM : Hid (∀ Z : World, Calls Tryz.prog 93 #[.string ⟨f.t.toArray⟩] Z (Ret (.bool NB) Z)) := fun Z => by have := nameS_any f.t Z (by omega); rw [hNB] at this; exact this
              have hrest2 : (((B && NB) && (t.refs.drop (j + 1)).all (refB t.cols.length)) && R3) = R := by rw [← hB, ← hNB, ← hrest']; rfl
              have HV := Lib.hid hrest2
              clear hrest hrest' hv hB hNB hth hw6 hft hrest2 x1'
              go_upto_region 19 with fail
              rw [HW6.out]
              clear HW6 c0 c1 x0 x1 x2 x3 x4 x5 x6 x7 x8 x9 x10
              obtain ⟨⟨c0, c1⟩, _⟩ := kc6.two
              cases B
              · have HF : Hid (R = false) := by show _ = _; rw [← HV.out]; rfl
                go_wp2_with fail
                refine HTH.out.mono ?_
                rintro en w7 ⟨rfl, hb7⟩
                go_wp2_with fail
                go_ret
                exact ⟨by rw [HF.out]; rfl, hbw6.trans (hb7.mono hbw6.size)⟩
              go_wp2_with fail
              refine HTH.out.mono ?_
              rintro en w7 ⟨rfl, hb7⟩
              have kc7 := kc6.below hb7 kc6.lt
              clear c0 c1
              obtain ⟨⟨c0, c1⟩, _⟩ := kc7.two
              have hb07 := hb06.trans (hb7.mono hb06.size)
              have hbw7 := hb0.trans (hb07.mono hz0)
              go_wp2_with fail
              refine (HNM.out w7).mono ?_
              rintro en w8 ⟨rfl, hb8⟩
              have hb08 := hb07.trans (hb8.mono hb07.size)
              have hbw8 := hb0.trans (hb08.mono hz0)
              cases NB
              · have HF : Hid (R = false) := by show _ = _; rw [← HV.out]; rfl
                go_wp2_with fail
                go_ret
                exact ⟨by rw [HF.out]; rfl, hbw8⟩
              · have HN2 : Hid (((t.refs.drop (j + 1)).all (refB t.cols.length) && R3) = R) := by show _ = _; rw [← HV.out]; simp
                go_wp2_with fail
                go_roundw
                case rel => exact ⟨j + 1, by omega, by go_num, HN2, hb08⟩
                case measure => simp [intOf]; omega
            · obtain rfl : j = t.refs.length := by omega
              have HR3R : Hid (lastB t = R) := by show _ = _; rw [HR3.out, ← hrest.out, List.drop_of_length_le (Nat.le_refl _)]; rfl
              have b2 : ¬ ((t.refs.length : Int) < (t.refs.length : Int)) := by omega
              clear hrest
              obtain ⟨B, hB⟩ : ∃ B, inB t.cols.length t.key = B := ⟨_, rfl⟩
              have hr3 := HR3R.out
              unfold lastB at hr3
              rw [hB] at hr3
              have hth := there_any t.key w.heap.size t.cols.length k1 a1 WF x1
              rw [hB] at hth
              have HTH := Lib.hid hth
              have HV := Lib.hid hr3
              clear hth hr3 HR3R
              cases B
              · have HF : Hid (R = false) := by show _ = _; rw [← HV.out]; rfl
                clear hB
                go_wp2_with fail
                refine HTH.out.mono ?_
                rintro en w7 ⟨rfl, hb7⟩
                go_wp2_with fail
                go_ret
                exact ⟨by rw [HF.out]; rfl, hbwf.trans (hb7.mono hbwf.size)⟩
              have hkey : 0 ≤ t.key ∧ t.key < t.cols.length := by unfold inB at hB; simpa using hB
              obtain ⟨i5, i6⟩ := hkey
              obtain ⟨b, off, c, rfl, hbB, hv, d0, d1, d2⟩ := ((HC.out WF hbf).s (fun b h => h)).at_ (j := t.key.toNat) (by omega)
              have hbB' : b < WF.heap.size := hbB
              have hgd : (t.cols.getD t.key.toNat ⟨[], 0, false⟩) = c := by rw [List.getD_eq_getElem?_getD, hv]; rfl
              have hv2 := HV.out
              rw [hgd] at hv2
              have HV2 := Lib.hid hv2
              have HD2 := Lib.hid d2
              clear hv2 hgd hv HV hB d0 d1
              go_wp2_with fail
              refine HTH.out.mono ?_
              rintro en w7 ⟨rfl, hb7⟩
              have hb07 := hbf.trans (hb7.mono hzf)
              have hbw7 := hb0.trans (hb07.mono hz0)
              clear x0 x1 x2 x3 x4 x5 x6 x7 x8 x9 x10 d2
              obtain ⟨x0, x1, x2, x3, x4, x5, x6, x7, x8, x9, x10⟩ := HSH.out w7 hb07
              have d2 : w7.cell? ⟨b, off + t.key.toNat * 3 + 2, none⟩ = some (.bool c.b) := (hb7.cell (p := ⟨b, off + t.key.toNat * 3 + 2, none⟩) hbB').trans HD2.out
              obtain ⟨cb, hcb⟩ : ∃ x, c.b = x := ⟨_, rfl⟩
              rw [hcb] at d2 HV2
              obtain ⟨CH, hCH⟩ : ∃ x, checkX t.cols t.chk = x := ⟨_, rfl⟩
              have hchk := check_any6 t.chk a4 k4 n (some ⟨b, off, none⟩) k1 t.cols w7 HCF.out hck (HE.out w7 hb07) (by omega) ((HC.out w7 hb07).s (fun b h => h))
              rw [hCH] at hchk HV2
              have HCK := Lib.hid hchk
              dsimp only [Ex.cells] at HCK
              clear hchk hCH hcb
              cases cb
              · have HF : Hid (R = false) := by show _ = _; rw [← HV2.out]; rfl
                go_wp2_with fail
                go_ret
                exact ⟨by rw [HF.out]; rfl, hbw7⟩
              go_wp2_with fail
              refine HCK.out.mono ?_
              rintro en w8 ⟨rfl, hb8⟩
              have hbw8 := hbw7.trans (hb8.mono hbw7.size)
              by_cases hc0 : CH = 0
              · have HF : Hid (R = true) := by show _ = _; rw [← HV2.out]; simp [hc0]
                have e1 : (CH == 0) = true := by simpa using hc0
                clear hc0
                go_wp2_with fail
                go_ret
                exact ⟨by rw [HF.out]; rfl, hbw8⟩
              · have HF : Hid (R = false) := by show _ = _; rw [← HV2.out]; simp [hc0]
                have e1 : (CH == 0) = false := by simpa using hc0
                clear hc0
                go_wp2_with fail
                go_ret
                exact ⟨by rw [HF.out]; rfl, hbw8⟩

end Go.Proofs.YtdhjogmkhbpcgaaGreat
