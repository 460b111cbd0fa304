/- schema.name, Place, check as plain functions; expr.Same against none. Condition: a table, an expression that read as ones. -/
import Derived.Test.YtdhjogmkhbpcgaaRelW
import Derived.Test.YtdhjogmkhbpcgaaExprM
import Derived.Test.YtdhjogmkhbpcgaaExpr3
namespace Go.Proofs.Ytdhjogmkhbpcgaa
open Go.RowKit Go.ChangeMaps

attribute [local go_sem] ByteArray.extract_mk ba_get ba_append
attribute [local go_sem ↓] Go.wp_at_zero Go.wp_at_succ run_eql_V run_neq_V

/-- May a text be a name that is no word of the language? -/
def nameR (s : List UInt8) : Bool := nameB s && !reserved s
theorem nameS_any (s : List UInt8) (w : World) (hs : s.length ≤ 1000000) : Calls Try.prog 48 #[.string ⟨s.toArray⟩] w (Ret (.bool (nameR s)) w) := by
  obtain ⟨B, hB⟩ : ∃ B, nameB s = B := ⟨_, rfl⟩
  obtain ⟨R, hR⟩ : ∃ R, reserved s = R := ⟨_, rfl⟩
  have HN : Hid (nameR s = (B && !R)) := by show _ = _; unfold nameR; rw [hB, hR]
  have h1 := nameX_any s w hs
  rw [hB] at h1
  have H1 := Lib.hid h1
  have H2 : Hid (∀ Z : World, Calls Try.prog 60 #[.string ⟨s.toArray⟩] Z (RetB R Z)) := fun Z => by have := reserved_any s Z; rw [hR] at this; exact this
  rw [HN.out]
  clear h1 hB hR
  cases B
  · go_enter Try.func48, Try.ntmps48
    go_wp2_with fail
    refine H1.out.mono ?_
    rintro en w1 ⟨rfl, hb1⟩
    go_wp2_with fail
    go_ret
    exact ⟨rfl, hb1⟩
  · go_enter Try.func48, Try.ntmps48
    go_wp2_with fail
    refine H1.out.mono ?_
    rintro en w1 ⟨rfl, hb1⟩
    go_wp2_with fail
    refine (H2.out _).mono ?_
    rintro en w2 ⟨rfl, rfl⟩
    go_wp2_with fail
    go_ret
    exact ⟨by cases R <;> rfl, hb1⟩

set_option maxHeartbeats 400000 in
theorem placeS1_any (n : List UInt8) (t : Int) (b : Bool) (s : List UInt8) (g : Nat) (w : World) (h : w.cell? ⟨g, 0, none⟩ = some (.string ⟨s.toArray⟩)) :
    Calls Try.prog 69 #[.agg #[.string ⟨n.toArray⟩, .int .i64 t, .bool b], .pointer (some ⟨g, 0, none⟩)] w (Ret (.bool (n == s)) w) := by
  have hg : g < w.heap.size := Blk_lt_of_cell h
  go_enter Try.func69, Try.ntmps69
  go_wp2
  go_ret
  exact ⟨rfl, by ((repeat' (first | with_reducible exact Below.refl _ _ | with_reducible assumption | with_reducible refine Below.drew ?_ | with_reducible refine below_drewN ?_ _ | with_reducible refine Below.setCell ?_ ?_ _ | with_reducible refine Below.alloc ?_ ?_ _ | with_reducible refine Below.trans ?_ (Below.mono (by assumption) ?_))) <;> (first | (simp; done) | (simp; omega) | omega))⟩

set_option maxHeartbeats 1000000 in
theorem indexFuncS_any (A : Option Addr) (c : Nat) (l : List Col) (s : List UInt8) (g : Nat) (w : World) (hl : l.length ≤ 1000000) (h : ColS w w.heap.size A l) (hu : w.cell? ⟨g, 0, none⟩ = some (.string ⟨s.toArray⟩)) :
    Calls Try.prog 61 #[.slice A l.length c, .func (.func 69) #[] #[.pointer (some ⟨g, 0, none⟩)]] w (Ret (.int .i64 (placeF l s)) w) := by
  obtain ⟨R, hR⟩ : ∃ R, placeF l s = R := ⟨_, rfl⟩
  rw [hR]
  have HR : Hid (placeFrom s (l.drop 0) 0 = R) := hR
  have HU := Lib.hid hu
  have hg : g < w.heap.size := Blk_lt_of_cell hu
  clear hR hu
  go_enter Try.func61, Try.ntmps61
  go_wp2
  go_loopw [8] (fun i wr => ∃ j : Nat, j ≤ l.length ∧ i = .int .i64 j ∧ Hid (placeFrom s (l.drop j) j = R) ∧ Below w.heap.size w wr) (fun i _ => l.length - (intOf i).toNat)
  case atStart => exact ⟨0, by omega, rfl, HR, Below.refl _ _⟩
  case round =>
    obtain ⟨j, hj, rfl, hrest, hbw⟩ := hrel
    by_cases hlt : j < l.length
    · obtain ⟨b, off, v, rfl, hbB, hv, c0, c1, c2⟩ := (h.below hbw).at_ hlt
      have hrest' := hrest.out
      rw [dropC l j v hv] at hrest'
      simp only [placeFrom] at hrest'
      have hzw := hbw.size
      have HW := Lib.hid ((hbw.cell (p := ⟨g, 0, none⟩) hg).trans HU.out)
      clear hv hrest
      obtain ⟨W, rfl⟩ : ∃ W, W = wr := ⟨_, rfl⟩
      by_cases hq : v.n = s
      · have HF : Hid ((j : Int) = R) := by
          show _ = _
          rw [← hrest', if_pos hq]
        have HQ : Hid ((v.n == s) = true) := by show _ = _; simpa using hq
        clear hrest' hq
        go_wp2_with fail
        refine (placeS1_any v.n v.t v.b s g W HW.out).mono ?_
        rintro e w1 ⟨rfl, hb1⟩
        rw [HQ.out]
        go_wp2_with fail
        go_ret
        exact ⟨by rw [← HF.out]; rfl, hbw.trans (hb1.mono hzw)⟩
      · have HF : Hid (placeFrom s (l.drop (j + 1)) (j + 1) = R) := by
          show _ = _
          rw [← hrest', if_neg hq]
        have HQ : Hid ((v.n == s) = false) := by show _ = _; simpa using hq
        clear hrest' hq
        go_wp2_with fail
        refine (placeS1_any v.n v.t v.b s g W HW.out).mono ?_
        rintro e w1 ⟨rfl, hb1⟩
        rw [HQ.out]
        go_wp2_with fail
        go_roundw
        case rel => exact ⟨j + 1, by omega, by go_num, HF, hbw.trans (hb1.mono hzw)⟩
        case measure => simp [intOf]; omega
    · have HF : Hid (R = -1) := by
        show _ = _
        rw [← hrest.out, List.drop_of_length_le (by omega)]
        rfl
      clear hrest
      go_wp2
      go_ret
      exact ⟨by rw [HF.out]; rfl, hbw⟩


set_option maxHeartbeats 400000 in
theorem placeS_any (t : Tb) (p : TbP) (s : List UInt8) (w : World) (hl : t.cols.length ≤ 1000000) (h : CQ t.cols p.cols.a (Old w.heap.size) w) :
    Calls Try.prog 49 #[.agg (t.cells p).toArray, .string ⟨s.toArray⟩] w (Ret (.int .i64 (placeF t.cols s)) w) := by
  obtain ⟨⟨a1, k1⟩, ⟨a2, k2⟩, ⟨a3, k3⟩, ⟨a4, k4⟩⟩ := p
  obtain ⟨w0, hw0⟩ : ∃ w0, (w.alloc (.cells (t.cells ⟨⟨a1, k1⟩, ⟨a2, k2⟩, ⟨a3, k3⟩, ⟨a4, k4⟩⟩).toArray 31)).alloc (.cells #[.string ⟨s.toArray⟩] 9) = w0 := ⟨_, rfl⟩
  have hb0 : Below w.heap.size w w0 := by rw [← hw0]; ((repeat' (first | with_reducible exact Below.refl _ _ | with_reducible assumption | with_reducible refine Below.drew ?_ | with_reducible refine below_drewN ?_ _ | with_reducible refine Below.setCell ?_ ?_ _ | with_reducible refine Below.alloc ?_ ?_ _ | with_reducible refine Below.trans ?_ (Below.mono (by assumption) ?_))) <;> (first | (simp; done) | (simp; omega) | omega))
  have k0 : Blk w0 (w.heap.size + 1) 9 #[.string ⟨s.toArray⟩] := by rw [← hw0]; exact Blk.new' _ _ _ _ (by simp)
  have kt : Blk w0 w.heap.size 31 (t.cells ⟨⟨a1, k1⟩, ⟨a2, k2⟩, ⟨a3, k3⟩, ⟨a4, k4⟩⟩).toArray := by rw [← hw0]; exact (Blk.new _ _ _).alloc _
  have h0 : ColS w0 w0.heap.size a1 t.cols := (h.keep (old_keep hb0 hb0.size)).s (fun b h => h)
  have t1 : w0.cell? ⟨w.heap.size, 1, none⟩ = some (.slice a1 t.cols.length k1) := kt.cell 1
  have HW := Lib.hid hw0
  clear hw0 h
  go_enter Try.func49, Try.ntmps49
  go_upto_region 1 with fail
  rw [HW.out]
  go_wp2_with fail
  refine (indexFuncS_any a1 k1 t.cols s (w.heap.size + 1) w0 hl h0 k0.one.1).mono ?_
  rintro e w1 ⟨rfl, hb1⟩
  go_wp2_with fail
  go_ret
  exact ⟨rfl, hb0.trans (hb1.mono hb0.size)⟩

/-- Is an expression none at all? -/
def same0 (e : Ex) : Bool := e.op == [] && (veq e.v V.zero && (e.s == [] && decide (e.l.length = 0)))
set_option maxHeartbeats 1000000 in
theorem equalFunc0_any (A : Option Addr) (c : Nat) (l : List Ex) (w : World) (hl : l.length ≤ maxLen) :
    Calls Try.prog 78 #[.slice A l.length c, .slice none 0 0, .func (.func 70) #[] #[]] w (Ret (.bool (decide (l.length = 0))) w) := by
  unfold maxLen at hl
  by_cases h : l.length = 0
  · have HD : Hid (decide (l.length = 0) = true) := by show _ = _; simpa using h
    have hne : ((l.length : Int) != 0) = false := by simp [h]
    have hlt : ¬ ((0 : Int) < (l.length : Int)) := by omega
    rw [HD.out]
    have HL : l = [] := List.eq_nil_of_length_eq_zero h
    subst HL
    go_enter Try.func78, Try.ntmps78
    go_wp2_with fail
    refine wp_loop_rounds 1 ?_
    rw [rounds_succ]
    go_wp2_with fail
    go_ret
    exact ⟨rfl, Below.refl _ _⟩
  · have HD : Hid (decide (l.length = 0) = false) := by show _ = _; simpa using h
    have hne : ((l.length : Int) != 0) = true := by rw [bne_iff_ne]; omega
    rw [HD.out]
    clear h
    go_enter Try.func78, Try.ntmps78
    go_wp2_with fail
    go_ret
    exact ⟨rfl, Below.refl _ _⟩

set_option maxHeartbeats 2000000 in
theorem same0_any (e : Ex) (A : Option Addr) (c : Nat) (w : World) (hl : e.l.length ≤ maxLen) :
    Calls Try.prog 70 #[.agg (e.cells A c).toArray, .agg #[.string ⟨#[]⟩, .int .i64 0, .int .i64 0, .string ⟨#[]⟩, .string ⟨#[]⟩, .slice none 0 0]] w (Ret (.bool (same0 e)) w) := by
  obtain ⟨w0, hw0⟩ : ∃ w0, (w.alloc (.cells (e.cells A c).toArray 29)).alloc (.cells #[.string ⟨#[]⟩, .int .i64 0, .int .i64 0, .string ⟨#[]⟩, .string ⟨#[]⟩, .slice none 0 0] 29) = w0 := ⟨_, rfl⟩
  have ke : Blk w0 w.heap.size 29 (e.cells A c).toArray := by rw [← hw0]; exact (Blk.new _ _ _).alloc _
  have kz : Blk w0 (w.heap.size + 1) 29 (exZero.cells none 0).toArray := by rw [← hw0]; exact Blk.new' _ _ _ _ (by simp)
  have hb0 : Below w.heap.size w w0 := by rw [← hw0]; ((repeat' (first | with_reducible exact Below.refl _ _ | with_reducible assumption | with_reducible refine Below.drew ?_ | with_reducible refine below_drewN ?_ _ | with_reducible refine Below.setCell ?_ ?_ _ | with_reducible refine Below.alloc ?_ ?_ _ | with_reducible refine Below.trans ?_ (Below.mono (by assumption) ?_))) <;> (first | (simp; done) | (simp; omega) | omega))
  obtain ⟨D, hD⟩ : ∃ D, decide (e.l.length = 0) = D := ⟨_, rfl⟩
  have hq0 := equalFunc0_any A c e.l w0 hl
  rw [hD] at hq0
  have HQ := Lib.hid hq0
  obtain ⟨x0, x1, x2, x3, x4, x5⟩ := ke.six
  obtain ⟨z0, z1, z2, z3, z4, z5⟩ := kz.six
  dsimp only [exZero, V.zero, Ex.op, Ex.v, Ex.s, Ex.l, List.length_nil] at z0 z1 z2 z3 z4 z5
  have HW := Lib.hid hw0
  clear hw0
  obtain ⟨R, hR⟩ : ∃ R, same0 e = R := ⟨_, rfl⟩
  rw [hR]
  unfold same0 at hR
  rw [hD] at hR
  clear hD hq0
  by_cases h1 : e.op = []
  · have o1 : (e.op == []) = true := by rw [h1]; rfl
    have o2 : e.op.isEmpty = true := by rw [h1]; rfl
    by_cases h2 : veq ⟨e.v.k, e.v.i, e.v.s⟩ ⟨0, 0, []⟩ = true
    · by_cases h3 : e.s = []
      · have p1 : (e.s == []) = true := by rw [h3]; rfl
        have p2 : e.s.isEmpty = true := by rw [h3]; rfl
        have HF : Hid (R = D) := by show _ = _; rw [← hR, o1, show veq e.v V.zero = true from h2, p1]; rfl
        clear hR h1 h3
        go_enter Try.func70, Try.ntmps70
        go_upto_region 1 with fail
        rw [HW.out]
        go_wp2_with fail
        refine HQ.out.mono ?_
        rintro en w1 ⟨rfl, hb1⟩
        go_wp2_with fail
        go_ret
        exact ⟨by rw [HF.out]; rfl, hb0.trans (hb1.mono hb0.size)⟩
      · have p1 : (e.s == []) = false := by rw [beq_eq_false_iff_ne]; exact h3
        have p2 : e.s.isEmpty = false := by cases he : e.s with | nil => exact absurd he h3 | cons _ _ => rfl
        have HF : Hid (R = false) := by show _ = _; rw [← hR, o1, show veq e.v V.zero = true from h2, p1]; rfl
        clear hR h1 h3
        go_enter Try.func70, Try.ntmps70
        go_upto_region 1 with fail
        rw [HW.out]
        go_wp2_with fail
        go_ret
        exact ⟨by rw [HF.out]; rfl, hb0⟩
    · have h2f : veq ⟨e.v.k, e.v.i, e.v.s⟩ ⟨0, 0, []⟩ = false := by cases hq : veq ⟨e.v.k, e.v.i, e.v.s⟩ ⟨0, 0, []⟩ with | true => exact absurd hq h2 | false => rfl
      have HF : Hid (R = false) := by show _ = _; rw [← hR, o1, show veq e.v V.zero = false from h2f]; rfl
      clear hR h1 h2
      go_enter Try.func70, Try.ntmps70
      go_upto_region 1 with fail
      rw [HW.out]
      go_wp2_with fail
      go_ret
      exact ⟨by rw [HF.out]; rfl, hb0⟩
  · have o1 : (e.op == []) = false := by rw [beq_eq_false_iff_ne]; exact h1
    have o2 : e.op.isEmpty = false := by cases he : e.op with | nil => exact absurd he h1 | cons _ _ => rfl
    have HF : Hid (R = false) := by show _ = _; rw [← hR, o1]; rfl
    clear hR h1
    go_enter Try.func70, Try.ntmps70
    go_upto_region 1 with fail
    rw [HW.out]
    go_wp2_with fail
    go_ret
    exact ⟨by rw [HF.out]; rfl, hb0⟩

/-- What is wrong with a check over columns: the error's number. -/
def checkX (cols : List Col) (e : Ex) : Int := if same0 e then 0 else if ¬ (typeX cols e).2 = 0 then (typeX cols e).2 else if ¬ (typeX cols e).1 = 3 ∧ ¬ (typeX cols e).1 = 0 then 5 else 0
set_option maxHeartbeats 2000000 in
theorem check_any6 (e : Ex) (A : Option Addr) (c n : Nat) (A1 : Option Addr) (c1 : Nat) (cols : List Col) (w : World) (hf : e.fit 1000) (hl : e.l.length ≤ maxLen) (hE : ExS 1000 n w w.heap.size A e.l) (hcl : cols.length ≤ 1000000) (hC : ColS w w.heap.size A1 cols) :
    Calls Try.prog 51 #[.agg (e.cells A c).toArray, .slice A1 cols.length c1] w (Ret (.int .i64 (checkX cols e)) w) := by
  obtain ⟨w0, hw0⟩ : ∃ w0, w.alloc (.cells (e.cells A c).toArray 29) = w0 := ⟨_, rfl⟩
  have ke : Blk w0 w.heap.size 29 (e.cells A c).toArray := by rw [← hw0]; exact Blk.new _ _ _
  have hb0 : Below w.heap.size w w0 := by rw [← hw0]; ((repeat' (first | with_reducible exact Below.refl _ _ | with_reducible assumption | with_reducible refine Below.drew ?_ | with_reducible refine below_drewN ?_ _ | with_reducible refine Below.setCell ?_ ?_ _ | with_reducible refine Below.alloc ?_ ?_ _ | with_reducible refine Below.trans ?_ (Below.mono (by assumption) ?_))) <;> (first | (simp; done) | (simp; omega) | omega))
  have HS := Lib.hid (same0_any e A c w0 hl)
  have hty : ∀ Z : World, Below w.heap.size w Z → Calls Try.prog 11 #[.agg (e.cells A c).toArray, .slice A1 cols.length c1] Z (RetTy (typeX cols e) Z) := fun Z h => typeX_any n e A c A1 c1 cols Z hf ((hE.below n h).more h.size n) hcl ((hC.below h).more h.size)
  obtain ⟨R, hR⟩ : ∃ R, checkX cols e = R := ⟨_, rfl⟩
  rw [hR]
  unfold checkX at hR
  obtain ⟨S, hS⟩ : ∃ S, same0 e = S := ⟨_, rfl⟩
  rw [hS] at HS hR
  obtain ⟨T, hT⟩ : ∃ T, typeX cols e = T := ⟨_, rfl⟩
  rw [hT] at hty hR
  obtain ⟨ty, er⟩ := T
  have HT := Lib.hid hty
  dsimp only [Ex.cells] at HT HS
  obtain ⟨x0, x1, x2, x3, x4, x5⟩ := ke.six
  have HW := Lib.hid hw0
  clear hw0 hS hT hty hE hC
  simp only at hR
  cases S
  · simp only [Bool.false_eq_true, if_false] at hR
    have HRR := Lib.hid hR
    clear hR
    go_enter Try.func51, Try.ntmps51
    go_upto_region 1 with fail
    rw [HW.out]
    dsimp only [Ex.cells]
    go_wp2_with fail
    refine HS.out.mono ?_
    rintro en w1 ⟨rfl, hb1⟩
    have hbw1 := hb0.trans (hb1.mono hb0.size)
    have ke1 := ke.below hb1 ke.lt
    clear x0 x1 x2 x3 x4 x5
    obtain ⟨x0, x1, x2, x3, x4, x5⟩ := ke1.six
    go_wp2_with fail
    refine (HT.out w1 hbw1).mono ?_
    rintro en w2 ⟨rfl, hb2⟩
    have hbw2 := hbw1.trans (hb2.mono hbw1.size)
    by_cases her : er = 0
    · subst her
      by_cases hbad : ¬ ty = 3 ∧ ¬ ty = 0
      · have HF : Hid (R = 5) := by show _ = _; rw [← HRR.out, if_neg (by simp), if_pos hbad]
        obtain ⟨hb3, hb00⟩ := hbad
        have t3 : (ty != 3) = true := by simpa using hb3
        have t0 : (ty != 0) = true := by simpa using hb00
        go_wp2_with fail
        go_ret
        exact ⟨by rw [HF.out]; rfl, hbw2⟩
      · have HF : Hid (R = 0) := by show _ = _; rw [← HRR.out, if_neg (by simp), if_neg hbad]
        have ht : ty = 3 ∨ ty = 0 := by omega
        clear hbad
        rcases ht with rfl | rfl
        all_goals
          go_wp2_with fail
          go_ret
          exact ⟨by rw [HF.out]; rfl, hbw2⟩
    · have HF : Hid (R = er) := by show _ = _; rw [← HRR.out, if_pos her]
      have e1 : (er == 0) = false := by simpa using her
      go_wp2_with fail
      go_ret
      exact ⟨by rw [HF.out]; rfl, hbw2⟩
  · have HF : Hid (R = 0) := by show _ = _; rw [← hR]; rfl
    clear hR
    go_enter Try.func51, Try.ntmps51
    go_upto_region 1 with fail
    rw [HW.out]
    dsimp only [Ex.cells]
    go_wp2_with fail
    refine HS.out.mono ?_
    rintro en w1 ⟨rfl, hb1⟩
    go_wp2_with fail
    go_ret
    exact ⟨by rw [HF.out]; rfl, hb0.trans (hb1.mono hb0.size)⟩

end Go.Proofs.Ytdhjogmkhbpcgaa
