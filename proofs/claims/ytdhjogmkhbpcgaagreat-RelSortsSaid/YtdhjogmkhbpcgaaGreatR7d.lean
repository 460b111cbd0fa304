/- The document's Cond and Where, as plain functions. Condition: a table with rows and an expression that read as such, of the sizes that are looked at. -/
import Derived.Test.YtdhjogmkhbpcgaaGreatTake
import Derived.Test.YtdhjogmkhbpcgaaGreatR6M
import Derived.Test.YtdhjogmkhbpcgaaGreatR4f
import Derived.Test.YtdhjogmkhbpcgaaGreatWhere
import Derived.Deep.CutBlock
import Derived.Deep.DeepCutAuto
import Derived.IntWalk
namespace Go.Proofs.YtdhjogmkhbpcgaaGreat
open Go.RowKit

attribute [local go_sem] ByteArray.extract_mk ba_get ba_append
attribute [local go_sem ↓] Go.wp_at_zero Go.wp_at_succ run_eql_V run_neq_V

/-- What is wrong with a condition: the error's number. -/
def condX (cols : List Col) (e : Ex) : Int := if e.op = [] then 0 else if ¬ (typeX cols e).2 = 0 then (typeX cols e).2 else if ¬ (typeX cols e).1 = 3 ∧ ¬ (typeX cols e).1 = 0 then 5 else 0
theorem where_cond (cols : List Col) (rows : List (List V)) (e : Ex) : whereX cols rows e = if ¬ condX cols e = 0 then ([], condX cols e) else (rows.filter (fun r => e.op == [] || trueB cols e r), 0) := by
  unfold whereX condX
  by_cases h0 : e.op = []
  · simp only [h0, beq_self_eq_true, Bool.true_or, if_true, not_true, if_false]
    rw [List.filter_eq_self.2 fun _ _ => rfl]
  · have h4 : (fun r => e.op == [] || trueB cols e r) = trueB cols e := by funext r; rw [show (e.op == []) = false from by rw [beq_eq_false_iff_ne]; exact h0]; rfl
    rw [h4]
    by_cases h1 : (typeX cols e).2 = 0
    · by_cases h2 : (typeX cols e).1 = 3 <;> by_cases h3 : (typeX cols e).1 = 0 <;> simp [h0, h1, h2, h3]
    · simp [h0, h1]
theorem cond_may {cols : List Col} {e : Ex} (h : condX cols e = 0) (ho : ¬ e.op = []) : mayX e = true := by
  unfold condX at h
  rw [if_neg ho] at h
  cases hm : mayX e
  · have : typeX cols e = (0, 1) := by unfold typeX; rw [hm]; rfl
    rw [this] at h
    simp at h
  · rfl
set_option maxRecDepth 100000 in
set_option maxHeartbeats 4000000 in
theorem cond7_any (n : Nat) (e : Ex) (A A1 : Option Addr) (c c1 : Nat) (cols : List Col) (w : World) (hf : e.fit 1000) (hE : ExS 1000 n w w.heap.size A e.l) (hcl : cols.length ≤ 1000) (hC : ColS w w.heap.size A1 cols) :
    Calls Tryz.prog 38 #[.agg (e.cells A c).toArray, .slice A1 cols.length c1] w (Ret (.int .i64 (condX cols e)) w) := by
  obtain ⟨w0, hw0⟩ : ∃ w0, w.alloc (.cells (e.cells A c).toArray 29) = w0 := ⟨_, rfl⟩
  have kq0 : Blk w0 w.heap.size 29 (e.cells A c).toArray := by rw [← hw0]; exact Blk.new _ _ _
  have hb0 : Below w.heap.size w w0 := by rw [← hw0]; exact bl
  have HSH : Hid (∀ w' : World, Below w0.heap.size w0 w' → (w'.cell? ⟨w.heap.size, 0, none⟩ = some (.string ⟨e.op.toArray⟩) ∧ w'.cell? ⟨w.heap.size, 1, none⟩ = some (.int .i64 e.v.k) ∧ w'.cell? ⟨w.heap.size, 2, none⟩ = some (.int .i64 e.v.i) ∧ w'.cell? ⟨w.heap.size, 3, none⟩ = some (.string ⟨e.v.s.toArray⟩) ∧ w'.cell? ⟨w.heap.size, 4, none⟩ = some (.string ⟨e.s.toArray⟩) ∧ w'.cell? ⟨w.heap.size, 5, none⟩ = some (.slice A e.l.length c))) := fun w' h => (kq0.below h kq0.lt).six
  have hEY : ∀ Y : World, Below w0.heap.size w0 Y → ExS 1000 n Y Y.heap.size A e.l := fun Y h => ((hE.below n (hb0.trans (h.mono hb0.size)))).more (Nat.le_trans hb0.size h.size) n
  have HW := Lib.hid hw0
  have HBW : Hid (∀ Y : World, Below w0.heap.size w0 Y → Below w.heap.size w Y) := fun Y h => hb0.trans (h.mono hb0.size)
  have hbr0 : Below w0.heap.size w0 w0 := Below.refl _ _
  have hCY : ∀ Y : World, Below w0.heap.size w0 Y → ColS Y Y.heap.size A1 cols := fun Y h hl => by
    obtain ⟨b, off, h1, h2, h3⟩ := hC hl
    have hb := hb0.trans (h.mono hb0.size)
    refine ⟨b, off, h1, Nat.lt_of_lt_of_le h2 hb.size, fun i v hv => ?_⟩
    obtain ⟨u0, u1, u2⟩ := h3 i v hv
    exact ⟨(hb.cell (p := ⟨b, off + i * 3, none⟩) h2).trans u0, (hb.cell (p := ⟨b, off + i * 3 + 1, none⟩) h2).trans u1, (hb.cell (p := ⟨b, off + i * 3 + 2, none⟩) h2).trans u2⟩
  obtain ⟨R, hR⟩ : ∃ R, condX cols e = R := ⟨_, rfl⟩
  rw [hR]
  unfold condX at hR
  have hgt := ExS.hgt n hE
  by_cases ho : e.op = []
  · have o1 : (e.op == []) = true := by rw [ho]; rfl
    have o2 : e.op.isEmpty = true := by rw [ho]; rfl
    rw [if_pos ho] at hR
    have HF : Hid (0 = R) := hR
    clear hw0 hE kq0 hb0 hC hR ho hEY hCY hgt hf
    obtain ⟨q0, q1, q2, q3, q4, q5⟩ := HSH.out w0 hbr0
    go_enter Tryz.func38, Tryz.ntmps38
    go_upto_region 1 with fail
    rw [show w.alloc _ = w0 from HW.out]
    clear HW
    go_wp2_with fail
    go_ret
    exact ⟨by rw [← HF.out]; rfl, HBW.out _ (by exact bl)⟩
  · have o1 : (e.op == []) = false := by rw [beq_eq_false_iff_ne]; exact ho
    have o2 : e.op.isEmpty = false := by cases he : e.op with | nil => exact absurd he ho | cons _ _ => rfl
    rw [if_neg ho] at hR
    have hmy := may4_any n e A c w0 hf (hEY w0 hbr0)
    obtain ⟨M, hM⟩ : ∃ M, mayX e = M := ⟨_, rfl⟩
    rw [hM] at hmy
    have HMY : Hid (Calls Tryz.prog 68 #[.agg #[.string ⟨e.op.toArray⟩, .int .i64 e.v.k, .int .i64 e.v.i, .string ⟨e.v.s.toArray⟩, .string ⟨e.s.toArray⟩, .slice A e.l.length c]] w0 (Ret (.bool M) w0)) := hmy
    have HTY : Hid (M = true → ∀ Y : World, Below w0.heap.size w0 Y → Calls Tryz.prog 69 #[.agg #[.string ⟨e.op.toArray⟩, .int .i64 e.v.k, .int .i64 e.v.i, .string ⟨e.v.s.toArray⟩, .string ⟨e.s.toArray⟩, .slice A e.l.length c], .slice A1 cols.length c1] Y (Ret (.tuple #[.int .i64 (typeX cols e).1, .int .i64 (typeX cols e).2]) Y)) := fun hm Y h => by
      rw [hm] at hM
      have := type4_any n 12 e A A1 c c1 cols Y (may_formE hM) hf (hEY Y h) hcl (hCY Y h)
      rw [typed_X n cols e hgt hM] at this
      exact this
    have hT0 : M = false → typeX cols e = (0, 1) := fun h => by unfold typeX; rw [hM, h]; rfl
    have HT0 := Lib.hid hT0
    obtain ⟨T, hT⟩ : ∃ T, typeX cols e = T := ⟨_, rfl⟩
    rw [hT] at hR HTY HT0
    obtain ⟨t, f⟩ := T
    have HK := Lib.hid hR
    clear hw0 hE kq0 hb0 hC hR hmy hM ho hEY hCY hgt hf hT hT0
    obtain ⟨q0, q1, q2, q3, q4, q5⟩ := HSH.out w0 hbr0
    go_enter Tryz.func38, Tryz.ntmps38
    go_upto_region 1 with fail
    rw [show w.alloc _ = w0 from HW.out]
    clear HW
    cases M
    · have HF : Hid (R = 1) := by show _ = _; rw [← HK.out, (Prod.mk.inj (HT0.out rfl)).2]; rfl
      go_wp2_with fail
      refine HMY.out.mono ?_
      rintro en w1 ⟨rfl, hb1⟩
      go_wp2_with fail
      go_ret
      exact ⟨by rw [HF.out]; rfl, HBW.out _ (by exact bl)⟩
    · go_wp2_with fail
      refine HMY.out.mono ?_
      rintro en w1 ⟨rfl, hb1⟩
      clear q0 q1 q2 q3 q4 q5 HMY
      obtain ⟨q0, q1, q2, q3, q4, q5⟩ := HSH.out w1 hb1
      go_wp2_with fail
      refine (HTY.out trivial w1 hb1).mono ?_
      rintro en w2 ⟨rfl, hb2⟩
      have hb02 : Below w0.heap.size w0 w2 := hb1.trans (hb2.mono hb1.size)
      clear q0 q1 q2 q3 q4 q5 HTY
      obtain ⟨fb, hfb⟩ : ∃ b, (f == 0) = b := ⟨_, rfl⟩
      obtain ⟨t0, ht0⟩ : ∃ b, (t != 0) = b := ⟨_, rfl⟩
      obtain ⟨t3, ht3⟩ : ∃ b, (t != 3) = b := ⟨_, rfl⟩
      have hk : (if fb = false then f else if t0 = true ∧ t3 = true then (5 : Int) else 0) = R := by
        rw [← HK.out, ← hfb, ← ht0, ← ht3]
        by_cases h1 : f = 0 <;> by_cases h2 : t = 0 <;> by_cases h3 : t = 3 <;> simp [h1, h2, h3]
      have hf0 : fb = true → f = 0 := fun h => by rw [h] at hfb; simpa using hfb
      have HF0 := Lib.hid hf0
      have HK2 := Lib.hid hk
      clear hk HK hf0
      cases fb
      · have HF : Hid (R = f) := by show _ = _; rw [← HK2.out]; rfl
        go_wp2_with fail
        go_ret
        exact ⟨by rw [HF.out]; rfl, HBW.out _ hb02⟩
      · cases t0
        · have HF : Hid (R = f) := by show _ = _; rw [← HK2.out, HF0.out rfl]; rfl
          go_wp2_with fail
          go_ret
          exact ⟨by rw [HF.out]; rfl, HBW.out _ hb02⟩
        · cases t3
          · have HF : Hid (R = f) := by show _ = _; rw [← HK2.out, HF0.out rfl]; rfl
            go_wp2_with fail
            go_ret
            exact ⟨by rw [HF.out]; rfl, HBW.out _ hb02⟩
          · have HF : Hid (R = 5) := by show _ = _; rw [← HK2.out]; rfl
            go_wp2_with fail
            go_ret
            exact ⟨by rw [HF.out]; rfl, HBW.out _ hb02⟩

theorem info7R : (Tryz.prog.info? 43).map (fun i => (i.zero, i.size, i.bytes)) = some (some (.slice none 0 0), 1, 24) := by kernel_rfl
theorem info7V : (Tryz.prog.info? 26).map (fun i => (i.zero, i.size, i.bytes)) = some (some (.agg #[.int .i64 0, .int .i64 0, .string ⟨#[]⟩]), 3, 32) := by kernel_rfl
set_option maxRecDepth 100000 in
set_option maxHeartbeats 16000000 in
theorem where7_any (x : Rl) (p : RlP) (e : Ex) (A : Option Addr) (c n : Nat) (w : World) (hs : x.small) (hrw : ∀ r ∈ x.rows, ∀ v ∈ r, v.s.length ≤ 1000) (hQ : RlQ 1000 x p (Old w.heap.size) w) (hf : e.fit 1000) (hE : ExS 1000 n w w.heap.size A e.l) :
    Calls Tryz.prog 17 #[.agg (x.cells p).toArray, .agg (e.cells A c).toArray] w (RetRows (whereX x.t.cols x.rows e) w) := by
  obtain ⟨i0, hi0, zi0, zi1, zi2⟩ := info_parts info7R
  obtain ⟨j0, hj0, zj0, zj1, zj2⟩ := info_parts info7V
  obtain ⟨hcl, hxl, hrs⟩ := hs
  obtain ⟨⟨⟨a1, k1⟩, ⟨a2, k2⟩, ⟨a3, k3⟩, ⟨a4, k4⟩⟩, ⟨a5, k5⟩⟩ := p
  obtain ⟨N, hN⟩ : ∃ N, x.rows.length = N := ⟨_, rfl⟩
  obtain ⟨w0, hw0⟩ : ∃ w0, (w.alloc (.cells #[.string ⟨x.t.n.toArray⟩, .slice a1 x.t.cols.length k1, .int .i64 x.t.key, .slice a2 x.t.uniq.length k2, .slice a3 x.t.refs.length k3, .string ⟨x.t.chk.op.toArray⟩, .int .i64 x.t.chk.v.k, .int .i64 x.t.chk.v.i, .string ⟨x.t.chk.v.s.toArray⟩, .string ⟨x.t.chk.s.toArray⟩, .slice a4 x.t.chk.l.length k4, .slice a5 N k5] 34)).alloc (.cells #[.string ⟨e.op.toArray⟩, .int .i64 e.v.k, .int .i64 e.v.i, .string ⟨e.v.s.toArray⟩, .string ⟨e.s.toArray⟩, .slice A e.l.length c] 29) = w0 := ⟨_, rfl⟩
  have kx0 : Blk w0 w.heap.size 34 #[.string ⟨x.t.n.toArray⟩, .slice a1 x.t.cols.length k1, .int .i64 x.t.key, .slice a2 x.t.uniq.length k2, .slice a3 x.t.refs.length k3, .string ⟨x.t.chk.op.toArray⟩, .int .i64 x.t.chk.v.k, .int .i64 x.t.chk.v.i, .string ⟨x.t.chk.v.s.toArray⟩, .string ⟨x.t.chk.s.toArray⟩, .slice a4 x.t.chk.l.length k4, .slice a5 N k5] := by rw [← hw0]; exact (Blk.new _ _ _).alloc _
  have ke0 : Blk w0 (w.heap.size + 1) 29 #[.string ⟨e.op.toArray⟩, .int .i64 e.v.k, .int .i64 e.v.i, .string ⟨e.v.s.toArray⟩, .string ⟨e.s.toArray⟩, .slice A e.l.length c] := by rw [← hw0]; exact Blk.new' _ _ _ _ (by simp)
  have hb0 : Below w.heap.size w w0 := by rw [← hw0]; exact bl
  have hz0 := hb0.size
  have HZ2 : Hid (w0.heap.size = w.heap.size + 2) := by show _ = _; rw [← hw0]; simp
  have HBW : Hid (∀ Z : World, Below w0.heap.size w0 Z → Below w.heap.size w Z) := fun Z h => hb0.trans (h.mono hz0)
  have HC0 : Hid (∀ Z : World, Below w0.heap.size w0 Z → ColS Z Z.heap.size a1 x.t.cols) := fun Z h => (hQ.1.1.keep (old_keep (hb0.trans (h.mono hz0)) (hb0.trans (h.mono hz0)).size)).s (fun b h => h)
  have HR0 : Hid (∀ Z : World, Below w0.heap.size w0 Z → RQ x.rows a5 (Old w.heap.size) Z) := fun Z h => hQ.2.keep fun b hb => ⟨hb, fun o => (hb0.trans (h.mono hz0)).cell (p := ⟨b, o, none⟩) hb⟩
  have HE0 : Hid (∀ Z : World, Below w0.heap.size w0 Z → ExS 1000 n Z Z.heap.size A e.l) := fun Z h => ((hE.below n (hb0.trans (h.mono hz0)))).more (hb0.trans (h.mono hz0)).size n
  have HS : Hid (∀ Z : World, Below w0.heap.size w0 Z → (Z.cell? ⟨w.heap.size, 1, none⟩ = some (.slice a1 x.t.cols.length k1) ∧ Z.cell? ⟨w.heap.size, 11, none⟩ = some (.slice a5 N k5)) ∧ Z.cell? ⟨w.heap.size + 1, 0, none⟩ = some (.string ⟨e.op.toArray⟩) ∧ Z.cell? ⟨w.heap.size + 1, 1, none⟩ = some (.int .i64 e.v.k) ∧ Z.cell? ⟨w.heap.size + 1, 2, none⟩ = some (.int .i64 e.v.i) ∧ Z.cell? ⟨w.heap.size + 1, 3, none⟩ = some (.string ⟨e.v.s.toArray⟩) ∧ Z.cell? ⟨w.heap.size + 1, 4, none⟩ = some (.string ⟨e.s.toArray⟩) ∧ Z.cell? ⟨w.heap.size + 1, 5, none⟩ = some (.slice A e.l.length c)) := fun Z h => by
    have kx := kx0.below h kx0.lt
    have ke := ke0.below h ke0.lt
    exact ⟨⟨kx.cell 1, kx.cell 11⟩, ke.cell 0, ke.cell 1, ke.cell 2, ke.cell 3, ke.cell 4, ke.cell 5⟩
  have hcd := fun (Z : World) (h : Below w0.heap.size w0 Z) => cond7_any n e A a1 c k1 x.t.cols Z hf (HE0.out Z h) hcl (HC0.out Z h)
  obtain ⟨CN, hCN⟩ : ∃ k, condX x.t.cols e = k := ⟨_, rfl⟩
  obtain ⟨R, hR⟩ : ∃ R, whereX x.t.cols x.rows e = R := ⟨_, rfl⟩
  rw [hR]
  rw [where_cond, hCN] at hR
  rw [hCN] at hcd
  dsimp only [Ex.cells] at hcd
  have HCD := Lib.hid (hcd w0 (Below.refl _ _))
  have HRE := Lib.hid hR
  have HCN := Lib.hid hCN
  have HRS : Hid (∀ r ∈ x.rows, r.length ≤ 1000 ∧ ∀ v ∈ r, fitI v.i ∧ v.s.length ≤ 1000) := fun r hr => ⟨(hrs r hr).1, fun v hv => ⟨(hrs r hr).2 v hv, hrw r hr v hv⟩⟩
  have HF := Lib.hid hf
  have HW := Lib.hid hw0
  have HGT := Lib.hid (ExS.hgt n hE)
  have HN := Lib.hid hN
  rw [hN] at hxl
  have HXL := Lib.hid hxl
  have HCL := Lib.hid hcl
  obtain ⟨⟨q1, q11⟩, y0, y1, y2, y3, y4, y5⟩ := HS.out w0 (Below.refl _ _)
  dsimp only [Rl.cells, Ex.cells]
  rw [hN]
  clear hw0 kx0 ke0 hQ hE hrw hrs hcd hR hCN hf hb0 hN
  go_enter Tryz.func17, Tryz.ntmps17
  go_upto_region 1 with fail
  rw [HW.out]
  clear HW
  go_wp2_with fail
  refine HCD.out.mono ?_
  rintro en w1 ⟨rfl, hb1⟩
  by_cases hc0 : CN = 0
  · subst hc0
    have HF0 : Hid (R = (x.rows.filter (fun r => e.op == [] || trueB x.t.cols e r), 0)) := by show _ = _; rw [← HRE.out, if_neg (by simp)]
    clear HRE HCD q1 q11 y0 y1 y2 y3 y4 y5
    obtain ⟨⟨q1, q11⟩, y0, y1, y2, y3, y4, y5⟩ := HS.out w1 hb1
    have HB1 := Lib.hid hb1
    go_wp2_with fail
    go_loopw [7, 8] (fun s8' i wr => ∃ (s8 : Value) (j M : Nat) (L : List (List V)), s8 = s8' ∧ j ≤ N ∧ M ≤ j ∧ i = .int .i64 j ∧ Hid (M = L.length) ∧ Hid (L = (x.rows.take j).filter (fun r => e.op == [] || trueB x.t.cols e r)) ∧ RowsOwn wr 43 w0.heap.size s8 L ∧ Below w0.heap.size w0 wr) (fun _ i _ => N - (intOf i).toNat)
    case atStart => exact ⟨_, 0, 0, [], rfl, by omega, by omega, rfl, rfl, rfl, RowsOwn.nil, HB1.out⟩
    case round =>
      obtain ⟨s8, j, M, L, rfl, hj, hM, rfl, HM, HL, hro, hb0r⟩ := hrel
      obtain ⟨W, rfl⟩ : ∃ W, W = wr := ⟨_, rfl⟩
      have hzr := hb0r.size
      clear q1 q11 y0 y1 y2 y3 y4 y5
      obtain ⟨⟨q1, q11⟩, y0, y1, y2, y3, y4, y5⟩ := HS.out W hb0r
      by_cases hlt : j < N
      · obtain ⟨b, off, r, A', c', ha5, hbB, hv, cr, hWr⟩ := (HR0.out W hb0r).at_ (j := j) (by rw [HN.out]; exact hlt)
        have hbw : b < w.heap.size := hbB
        obtain ⟨hrl, hri⟩ := HRS.out r (List.mem_of_getElem? hv)
        have i1 : (0 : Int) ≤ (j : Int) := by omega
        have i2 : (j : Int) < (N : Int) := by omega
        have HTK : Hid (x.rows.take (j + 1) = x.rows.take j ++ [r]) := by show _ = _; rw [List.take_add_one, hv]; rfl
        obtain ⟨recs, hrl0, hown, hrec⟩ := hro
        have HOL := Lib.hid hown.lt
        rw [← HM.out] at hown
        have HRL := Lib.hid hrl0
        have HREC := Lib.hid hrec
        have HOWN := Lib.hid hown
        have HWR : Hid (∀ Z : World, Below W.heap.size W Z → VS Z W.heap.size A' r) := fun Z h => (hWr.keep fun b hb => ⟨hb, fun o => h.cell (p := ⟨b, o, none⟩) (by have : b < w.heap.size := hb; show b < _; omega)⟩).s (fun b (hb : b < w.heap.size) => by omega)
        have HSC : Hid (∀ Z : World, Below W.heap.size W Z → ((Z.cell? ⟨w.heap.size, 1, none⟩ = some (.slice a1 x.t.cols.length k1) ∧ Z.cell? ⟨w.heap.size, 11, none⟩ = some (.slice a5 N k5)) ∧ Z.cell? ⟨w.heap.size + 1, 0, none⟩ = some (.string ⟨e.op.toArray⟩) ∧ Z.cell? ⟨w.heap.size + 1, 1, none⟩ = some (.int .i64 e.v.k) ∧ Z.cell? ⟨w.heap.size + 1, 2, none⟩ = some (.int .i64 e.v.i) ∧ Z.cell? ⟨w.heap.size + 1, 3, none⟩ = some (.string ⟨e.v.s.toArray⟩) ∧ Z.cell? ⟨w.heap.size + 1, 4, none⟩ = some (.string ⟨e.s.toArray⟩) ∧ Z.cell? ⟨w.heap.size + 1, 5, none⟩ = some (.slice A e.l.length c)) ∧ Z.cell? ⟨b, off + j, none⟩ = some (.slice A' r.length c')) := fun Z h => ⟨HS.out Z (hb0r.trans (h.mono hzr)), (h.cell (p := ⟨b, off + j, none⟩) (show b < _ by omega)).trans cr⟩
        have HEV : Hid (¬ e.op = [] → ∀ Z : World, Below W.heap.size W Z → Calls Tryz.prog 40 #[.agg #[.string ⟨e.op.toArray⟩, .int .i64 e.v.k, .int .i64 e.v.i, .string ⟨e.v.s.toArray⟩, .string ⟨e.s.toArray⟩, .slice A e.l.length c], .slice a1 x.t.cols.length k1, .slice A' r.length c'] Z (Ret (.agg #[.int .i64 (evalX x.t.cols r e).k, .int .i64 (evalX x.t.cols r e).i, .string ⟨(evalX x.t.cols r e).s.toArray⟩]) Z)) := fun ho Z h => by
          have hm := cond_may HCN.out ho
          have h0 := hb0r.trans (h.mono hzr)
          have := eval4_any n 12 e A a1 A' c k1 c' x.t.cols r Z (may_formE hm) HF.out (HE0.out Z h0) HCL.out hrl hri (HC0.out Z h0) ((HWR.out Z h).more h.size)
          have he := eval_X n x.t.cols r e HGT.out
          unfold eval at he
          rw [may_X n e HGT.out, hm] at he
          rw [show evalE n x.t.cols r e = evalX x.t.cols r e from he] at this
          exact this
        obtain ⟨va, hva⟩ : ∃ v, evalX x.t.cols r e = v := ⟨_, rfl⟩
        rw [hva] at HEV
        obtain ⟨B, hB⟩ : ∃ B, (e.op == [] || trueB x.t.cols e r) = B := ⟨_, rfl⟩
        have HB := Lib.hid hB
        subst ha5
        have HIS : Hid (¬ e.op = [] → ∀ Z : World, Calls Tryz.prog 39 #[.agg #[.int .i64 (va).k, .int .i64 (va).i, .string ⟨(va).s.toArray⟩], .bool true] Z (Ret (.bool B) Z)) := fun ho Z => by
          have := is_any va.k va.i va.s true Z
          have o1 : (e.op == []) = false := by rw [beq_eq_false_iff_ne]; exact ho
          rw [o1, Bool.false_or] at hB
          unfold trueB at hB
          rw [hva] at hB
          rw [show veq ⟨va.k, va.i, va.s⟩ (bV true) = B from hB] at this
          exact this
        clear hbB hv hWr hri hrl hrl0 hown hrec hva hB
        go_upto_region 8 with fail
        go_cut [39] (fun s wx => s = .bool B ∧ Below W.heap.size W wx)
        case first => as_aux_lemma =>
          by_cases ho : e.op = []
          · have o1 : (e.op == []) = true := by rw [ho]; rfl
            have o2 : e.op.isEmpty = true := by rw [ho]; rfl
            have hBt : B = true := by rw [← HB.out, o1]; rfl
            subst hBt
            clear HEV HIS ho
            refine wp_region_held_drew (S := (fun Z => ((Z.cell? ⟨w.heap.size, 1, none⟩ = some (.slice a1 x.t.cols.length k1) ∧ Z.cell? ⟨w.heap.size, 11, none⟩ = some (.slice (some ⟨b, off, none⟩) N k5)) ∧ Z.cell? ⟨w.heap.size + 1, 0, none⟩ = some (.string ⟨e.op.toArray⟩) ∧ Z.cell? ⟨w.heap.size + 1, 1, none⟩ = some (.int .i64 e.v.k) ∧ Z.cell? ⟨w.heap.size + 1, 2, none⟩ = some (.int .i64 e.v.i) ∧ Z.cell? ⟨w.heap.size + 1, 3, none⟩ = some (.string ⟨e.v.s.toArray⟩) ∧ Z.cell? ⟨w.heap.size + 1, 4, none⟩ = some (.string ⟨e.s.toArray⟩) ∧ Z.cell? ⟨w.heap.size + 1, 5, none⟩ = some (.slice A e.l.length c)) ∧ Z.cell? ⟨b, off + j, none⟩ = some (.slice A' r.length c'))) (by kernel_rfl) ?_ (fun hHeld => ?_)
            · try dsimp only
              exact HSC.out _ (by exact bl)
            refine wpAnyT_start [0, 1, 2, 3] ?_
            iterate 4
              refine wpAnyT_cons (v := ?_) rfl (by kernel_rfl) (by kernel_rfl) (by kernel_rfl) (fun _ _ _ h => h) (Or.inl ⟨by rfl, ?_⟩) (by assumption) ?_
              rotate_left
              · intro wq hSw
                try dsimp only at hSw
                go_simp
                try with_reducible rfl
              try simp only [Act.put, List.getElem_toArray, List.getElem_cons_zero, List.getElem_cons_succ, List.setIfInBounds_toArray, List.set_cons_zero, List.set_cons_succ]
            refine wpAnyT_nil ?_
            refine wpAnyT_start [4, 5, 6, 7, 8, 9, 10, 11, 12, 13, 14] ?_
            iterate 11
              refine wpAnyT_cons (v := undef) rfl (by kernel_rfl) (by kernel_rfl) (by kernel_rfl) (fun _ _ _ h => h) (Or.inr ⟨by rfl, rfl⟩) (by assumption) ?_
              try simp only [Act.put, List.getElem_toArray, List.getElem_cons_zero, List.getElem_cons_succ, List.setIfInBounds_toArray, List.set_cons_zero, List.set_cons_succ]
            refine wpAnyT_nil ?_
            refine wpAnyH_take (i := 15) (v := ?_) rfl (by kernel_rfl) (by kernel_rfl) (by kernel_rfl) (fun _ _ _ h => h) (Or.inl ⟨by rfl, ?_⟩) (by assumption) ?_
            rotate_left
            · intro wq hSw
              try dsimp only at hSw
              go_simp
              try with_reducible rfl
            try simp only [Act.put, List.getElem_toArray, List.getElem_cons_zero, List.getElem_cons_succ, List.setIfInBounds_toArray, List.set_cons_zero, List.set_cons_succ]
            refine wpAnyH_done (by kernel_rfl) ?_ _
            go_wp2_with fail
            go_meet
            exact ⟨rfl, by exact bl⟩
          · have o1 : (e.op == []) = false := by rw [beq_eq_false_iff_ne]; exact ho
            have o2 : e.op.isEmpty = false := by cases he : e.op with | nil => exact absurd he ho | cons _ _ => rfl
            have HEV2 := Lib.hid (HEV.out ho)
            have HIS2 := Lib.hid (HIS.out ho)
            clear HEV HIS ho
            refine wp_region_held_drew (S := (fun Z => ((Z.cell? ⟨w.heap.size, 1, none⟩ = some (.slice a1 x.t.cols.length k1) ∧ Z.cell? ⟨w.heap.size, 11, none⟩ = some (.slice (some ⟨b, off, none⟩) N k5)) ∧ Z.cell? ⟨w.heap.size + 1, 0, none⟩ = some (.string ⟨e.op.toArray⟩) ∧ Z.cell? ⟨w.heap.size + 1, 1, none⟩ = some (.int .i64 e.v.k) ∧ Z.cell? ⟨w.heap.size + 1, 2, none⟩ = some (.int .i64 e.v.i) ∧ Z.cell? ⟨w.heap.size + 1, 3, none⟩ = some (.string ⟨e.v.s.toArray⟩) ∧ Z.cell? ⟨w.heap.size + 1, 4, none⟩ = some (.string ⟨e.s.toArray⟩) ∧ Z.cell? ⟨w.heap.size + 1, 5, none⟩ = some (.slice A e.l.length c)) ∧ Z.cell? ⟨b, off + j, none⟩ = some (.slice A' r.length c'))) (by kernel_rfl) ?_ (fun hHeld => ?_)
            · try dsimp only
              exact HSC.out _ (by exact bl)
            refine wpAnyT_start [0, 1, 2, 3, 4, 5, 6, 7, 8, 9, 10, 11, 12] ?_
            iterate 13
              refine wpAnyT_cons (v := ?_) rfl (by kernel_rfl) (by kernel_rfl) (by kernel_rfl) (fun _ _ _ h => h) (Or.inl ⟨by rfl, ?_⟩) (by assumption) ?_
              rotate_left
              · intro wq hSw
                try dsimp only at hSw
                go_simp
                try with_reducible rfl
              try simp only [Act.put, List.getElem_toArray, List.getElem_cons_zero, List.getElem_cons_succ, List.setIfInBounds_toArray, List.set_cons_zero, List.set_cons_succ]
            refine wpAnyT_nil ?_
            refine wpAnyH_ready (rs := [13]) (by kernel_rfl) (by simp) ?_
            refine AllReadyH.cons rfl (fun K hK => ?_) AllReadyH.nil
            go_simp
            (refine (HEV2.out _ (by exact bl)).mono ?_) <;> rintro en w13 ⟨rfl, hb13⟩ <;> have hz13 := hb13.size <;> (try simp at hz13)
            go_wp2_with fail
            refine hK.out _ _ ?_ (fun hHeld => ?_)
            · try dsimp only
              exact HSC.out _ (by exact bl)
            clear hK K
            try simp only [Act.put, List.getElem_toArray, List.getElem_cons_zero, List.getElem_cons_succ, List.setIfInBounds_toArray, List.set_cons_zero, List.set_cons_succ]
            refine wpAnyH_ready (rs := [14]) (by kernel_rfl) (by simp) ?_
            refine AllReadyH.cons rfl (fun K hK => ?_) AllReadyH.nil
            go_simp
            (refine (HIS2.out _).mono ?_) <;> rintro en w14 ⟨rfl, hb14⟩ <;> have hz14 := hb14.size <;> (try simp at hz14)
            go_wp2_with fail
            refine hK.out _ _ ?_ (fun hHeld => ?_)
            · try dsimp only
              exact HSC.out _ (by exact bl)
            clear hK K
            try simp only [Act.put, List.getElem_toArray, List.getElem_cons_zero, List.getElem_cons_succ, List.setIfInBounds_toArray, List.set_cons_zero, List.set_cons_succ]
            refine wpAnyH_take (i := 15) (v := ?_) rfl (by kernel_rfl) (by kernel_rfl) (by kernel_rfl) (fun _ _ _ h => h) (Or.inl ⟨by rfl, ?_⟩) (by assumption) ?_
            rotate_left
            · intro wq hSw
              try dsimp only at hSw
              go_simp
              try with_reducible rfl
            try simp only [Act.put, List.getElem_toArray, List.getElem_cons_zero, List.getElem_cons_succ, List.setIfInBounds_toArray, List.set_cons_zero, List.set_cons_succ]
            refine wpAnyH_done (by kernel_rfl) ?_ _
            go_wp2_with fail
            go_meet
            exact ⟨rfl, by exact bl⟩
        obtain ⟨rfl, hbc⟩ := hcut
        obtain ⟨Y, rfl⟩ : ∃ W, W = wc := ⟨_, rfl⟩
        have hb0y := hb0r.trans (hbc.mono hzr)
        have hzy := hbc.size
        obtain ⟨⟨⟨p1, p11⟩, _⟩, pr⟩ := HSC.out Y hbc
        have hroy : RowsOwn Y 43 w0.heap.size s8 L := (show RowsOwn W 43 w0.heap.size s8 L from ⟨recs, HRL.out, by rw [← HM.out]; exact HOWN.out, HREC.out⟩).below hbc
        have HROY := Lib.hid hroy
        clear hroy q1 q11 y0 y1 y2 y3 y4 y5 cr HSC HEV HIS
        cases B with
        | false => as_aux_lemma =>
          have HNO : Hid (L = (x.rows.take (j + 1)).filter (fun r => e.op == [] || trueB x.t.cols e r)) := by
            have := HL.out
            rw [HTK.out]
            exact this.trans (filter_no (p := fun r => e.op == [] || trueB x.t.cols e r) HB.out)
          go_wp2_with fail
          go_roundw
          case rel => exact ⟨_, j + 1, M, L, rfl, by omega, by omega, by go_num, HM, HNO, HROY.out, hb0y⟩
          case measure => simp [intOf]; omega
        | true => as_aux_lemma =>
          have HYES : Hid (L ++ [r] = (x.rows.take (j + 1)).filter (fun r => e.op == [] || trueB x.t.cols e r)) := by
            show _ = _
            rw [HTK.out, HL.out]
            exact filter_yes (p := fun r => e.op == [] || trueB x.t.cols e r) HB.out
          obtain ⟨rc2, hrl2, hown2, hrec2⟩ := HROY.out
          have HOL2 := Lib.hid hown2.lt
          rw [← HM.out] at hown2
          have hzW : W.heap.size ≤ Y.heap.size := hzy
          have hY8 : Below W.heap.size W (Y.alloc (.cells #[] 26)) := hbc.trans (((Below.refl _ _).alloc (Nat.le_refl _) _).mono hzW)
          have hown8 : (Y.alloc (.cells #[] 26)).ownsRow Y.heap.size 26 3 (.slice (some ⟨Y.heap.size, 0, none⟩) 0 0) 0 [] := World.ownsRow_lit Y #[] 0 (by omega) (by unfold maxLen; omega) rfl
          have HRD : Hid (Reads (Y.alloc (.cells #[] 26)) W.heap.size 3 A' r.length (r.flatMap V.cells)) := (HWR.out _ hY8).reads
          have p11' : (Y.alloc (.cells #[] 26)).cell? ⟨w.heap.size, 11, none⟩ = some (.slice (some ⟨b, off, none⟩) N k5) := (((Below.refl Y.heap.size Y).alloc (Nat.le_refl _) _).cell (p := ⟨w.heap.size, 11, none⟩) (show w.heap.size < _ by have := HZ2.out; omega)).trans p11
          have pr' : (Y.alloc (.cells #[] 26)).cell? ⟨b, off + j, none⟩ = some (.slice A' r.length c') := (((Below.refl Y.heap.size Y).alloc (Nat.le_refl _) _).cell (p := ⟨b, off + j, none⟩) (show b < _ by omega)).trans pr
          have HOW8 := Lib.hid hown8
          have HRL2 := Lib.hid hrl2
          have HREC2 := Lib.hid hrec2
          have HOWN2 := Lib.hid hown2
          have hrn : r.length ≤ 1000 := (HRS.out r (List.mem_of_mem_take (i := j + 1) (by rw [HTK.out]; simp))).1
          clear hown8 hrl2 hrec2 hown2 hY8
          go_wp2_with (at_builtin; refine wpList_append_any _ rfl (.tmp 41) (.tmp 46) 43 rfl Y.heap.size 26 j0 _ 3 32 Tryz.underlying43 hj0 zj0 zj1 zj2 rfl (by decide) _ _ _ rfl HOW8.out W.heap.size A' r.length c' _ rfl HRD.out (cells_one r) ?c1 ?c2 ?c3 ?_)
          case c1 => unfold maxLen; omega
          case c2 => omega
          case c3 => simp
          intro v9 w9 hown9 hgr9 hor9
          obtain ⟨A5, c5, rfl, hc51, hc52, hV5⟩ := VS.own (l := r) hown9
          have hb5 : Below Y.heap.size Y w9 := ((Below.refl _ _).alloc (Nat.le_refl _) _).grown hgr9 (by simp) (by simp [Value.ownBlock])
          have hz5 := hb5.size
          have hwn : ∀ b, Y.heap.size ≤ b → b < w9.heap.size → (w0.heap.size ≤ b ∧ b < w9.heap.size ∧ some b ≠ s8.ownBlock) := fun b h1 h2 => ⟨by omega, h2, fun e1 => by have := (HOL2.out b e1.symm).2; omega⟩
          have hWQ : WQ r A5 (fun b => w0.heap.size ≤ b ∧ b < w9.heap.size ∧ some b ≠ s8.ownBlock) w9 := WQ.ofF hV5 hwn
          have hown5 := own_below HOWN2.out hb5
          have hrec5 : ∀ q ∈ rc2, WQ q.r q.s.a (fun b => w0.heap.size ≤ b ∧ b < w9.heap.size ∧ some b ≠ s8.ownBlock) w9 := fun q hq => (HREC2.out q hq).keep fun b hb' => ⟨⟨hb'.1, Nat.lt_of_lt_of_le hb'.2.1 hb5.size, hb'.2.2⟩, fun o => hb5.cell (p := ⟨b, o, none⟩) hb'.2.1⟩
          have HWQ := Lib.hid hWQ
          have HREC5 := Lib.hid hrec5
          have hnews : ∀ j x, ([.slice A5 r.length c5] : List Value)[j]? = some x → (w9.alloc (.cells #[.slice A5 r.length c5] 43)).cell? ((⟨w9.heap.size, 0, none⟩ : Addr).add j) = some x := World.news_of_block (cs := #[.slice A5 r.length c5]) (t := 43) (fr := (0, 0)) (heap_alloc_new w9 _)
          have hown6 : (w9.alloc (.cells #[.slice A5 r.length c5] 43)).ownsRow w0.heap.size 43 1 s8 M (rc2.map Rc.cell) := hown5.alloc _
          have HNE := Lib.hid hnews
          have HOW6 := Lib.hid hown6
          have hbx := hb0y.trans (hb5.mono hb0y.size)
          have hzx := hbx.size
          clear hWQ hrec5 hnews hown6 hown5 hwn hV5 hown9 hgr9 hor9 HOW8 HRD
          go_wp2_with (at_builtin; refine wpList_append_lies _ rfl (.tmp 40) (.tmp 48) 32 rfl w0.heap.size 43 i0 _ 1 24 Tryz.underlying32 hi0 zi0 zi1 zi2 rfl (by decide) s8 M (rc2.map Rc.cell) rfl HOW6.out ⟨w9.heap.size, 0, none⟩ 1 1 [.slice A5 r.length c5] rfl rfl HNE.out (by simp [Value.oneCell']) (by decide) (by unfold maxLen; omega) (by omega) (by simp; omega) (w9.heap.size + 1) (by simp) ?_)
          intro g cap wz ho8 hg8 hor8 hl8
          have hb56 : Below w9.heap.size w9 (w9.alloc (.cells #[.slice A5 r.length c5] 43)) := by exact bl
          have hst := RowsOwn.step (l := L) HRL2.out HREC5.out HWQ.out HM.out ho8 hb56 hg8 (by simpa using hor8)
          have hb8 : Below w0.heap.size w0 wz := (hbx.alloc hzx _).grown hg8 (by simp; omega) (fun k hk => (HOL2.out k hk).1)
          have HST := Lib.hid hst
          clear hst ho8 hg8 hor8 hl8 HNE HOW6
          go_wp2_with fail
          go_roundw
          case rel => exact ⟨_, j + 1, M + 1, L ++ [r], rfl, by omega, by omega, by go_num, by rw [List.length_append, ← HM.out]; rfl, HYES, HST.out, hb8⟩
          case measure => simp [intOf]; omega
      · obtain rfl : j = N := by omega
        obtain ⟨A8, c8, rfl, hc81, hc82, hRQ⟩ := hro.out
        have hLL : L = x.rows.filter (fun r => e.op == [] || trueB x.t.cols e r) := by rw [HL.out, ← HN.out, List.take_length]
        have HRQ := Lib.hid hRQ
        have HLL := Lib.hid hLL
        have hbw := HBW.out _ hb0r
        have HZ0 := Lib.hid hz0
        have b0 : ¬ ((j : Int) < (j : Int)) := by omega
        clear hRQ hLL HL HM hro
        go_wp2_with fail
        go_ret2
        rw [HF0.out]
        refine ⟨A8, c8, by rw [HLL.out]; rfl, by rw [← HLL.out]; exact hc81, hc82, ?_, hbw⟩
        rw [← HLL.out]
        exact HRQ.out.keep fun b hb => ⟨⟨by have := HZ0.out; omega, hb.2⟩, fun _ => rfl⟩
  · have HF0 : Hid (R = ([], CN)) := by show _ = _; rw [← HRE.out, if_pos hc0]
    have e1 : (CN == 0) = false := by simpa using hc0
    have e2 : (CN != 0) = true := by simpa using hc0
    clear HRE HCD q1 q11 y0 y1 y2 y3 y4 y5
    go_wp2_with fail
    go_ret2
    rw [HF0.out]
    exact ⟨none, 0, rfl, Nat.le_refl _, Nat.zero_le _, RQ.nil, HBW.out _ hb1⟩

end Go.Proofs.YtdhjogmkhbpcgaaGreat
