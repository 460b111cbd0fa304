/- schema.Fits as a plain function. Condition: a table and a row that read as ones, of the sizes that are looked at. -/
import Derived.Test.YtdhjogmkhbpcgaaSchema2
import Derived.Test.YtdhjogmkhbpcgaaExpr5
namespace Go.Proofs.Ytdhjogmkhbpcgaa
open Go.RowKit

attribute [local go_sem] ByteArray.extract_mk ba_get ba_append
attribute [local go_sem ↓] Go.wp_at_zero Go.wp_at_succ run_eql_V run_neq_V

/-- What is wrong with a value in a column: the error's number. -/
def fitV (c : Col) (v : V) : Int := if v.k = 0 ∧ c.b = true then 8 else if ¬ v.k = 0 ∧ ¬ v.k = c.t then 5 else 0
def fitsFrom (cols : List Col) : List V → Nat → Int
  | [], _ => 0
  | v :: r, i => if fitV (cols.getD i ⟨[], 0, false⟩) v = 0 then fitsFrom cols r (i + 1) else fitV (cols.getD i ⟨[], 0, false⟩) v
def V.mayB (v : V) : Bool := Go.Proofs.Ytdhjogmkhbpcgaa.mayB v.k v.i v.s
def orI (x y : Int) : Int := if x = 0 then y else x
/-- What is wrong with a row: the error's number. -/
def fitsX (t : Tb) (row : List V) : Int :=
  if ¬ (mayTb t = true ∧ row.length = t.cols.length) then 1
  else if ¬ (row.all V.mayB = true) then 1
  else if ¬ fitsFrom t.cols row 0 = 0 then fitsFrom t.cols row 0
  else if veq (evalX t.cols row t.chk) ⟨3, 0, []⟩ = true then 9 else 0

theorem dropVr (l : List V) (j : Nat) (v : V) (h : l[j]? = some v) : l.drop j = v :: l.drop (j + 1) := by
  obtain ⟨hj, rfl⟩ := List.getElem?_eq_some_iff.1 h
  exact List.drop_eq_getElem_cons hj
set_option maxRecDepth 100000 in
set_option maxHeartbeats 8000000 in
theorem fits_any (t : Tb) (p : TbP) (row : List V) (A : Option Addr) (c : Nat) (w : World) (hs : t.small) (hQ : TbQ 1000 t p (Old w.heap.size) w) (hrw : row.length ≤ 1000) (hri : ∀ v ∈ row, fitI v.i) (hV : WQ row A (Old w.heap.size) w) :
    Calls Try.prog 31 #[.agg (t.cells p).toArray, .slice A row.length c] w (Ret (.int .i64 (fitsX t row)) w) := by
  have hs' := hs
  obtain ⟨_, hcl, _, _, _, _, hcf, hck⟩ := hs'
  obtain ⟨⟨a1, k1⟩, ⟨a2, k2⟩, ⟨a3, k3⟩, ⟨a4, k4⟩⟩ := p
  have hQ' := hQ
  obtain ⟨hC, _, _, n, hE⟩ := hQ'
  obtain ⟨w0, hw0⟩ : ∃ w0, w.alloc (.cells (t.cells ⟨⟨a1, k1⟩, ⟨a2, k2⟩, ⟨a3, k3⟩, ⟨a4, k4⟩⟩).toArray 31) = w0 := ⟨_, rfl⟩
  have kt0 : Blk w0 w.heap.size 31 (t.cells ⟨⟨a1, k1⟩, ⟨a2, k2⟩, ⟨a3, k3⟩, ⟨a4, k4⟩⟩).toArray := by rw [← hw0]; exact Blk.new _ _ _
  have hb0 : Below w.heap.size w w0 := by rw [← hw0]; ((repeat' (first | with_reducible exact Below.refl _ _ | with_reducible assumption | with_reducible refine Below.drew ?_ | with_reducible refine below_drewN ?_ _ | with_reducible refine Below.setCell ?_ ?_ _ | with_reducible refine Below.alloc ?_ ?_ _ | with_reducible refine Below.trans ?_ (Below.mono (by assumption) ?_))) <;> (first | (simp; done) | (simp; omega) | omega))
  have hz0 := hb0.size
  have lt0 := kt0.lt
  have HSH : Hid (∀ w' : World, Below w0.heap.size w0 w' → (w'.cell? ⟨w.heap.size, 0, none⟩ = some (.string ⟨t.n.toArray⟩) ∧ w'.cell? ⟨w.heap.size, 1, none⟩ = some (.slice a1 t.cols.length k1) ∧ w'.cell? ⟨w.heap.size, 2, none⟩ = some (.int .i64 t.key) ∧ w'.cell? ⟨w.heap.size, 3, none⟩ = some (.slice a2 t.uniq.length k2) ∧ w'.cell? ⟨w.heap.size, 4, none⟩ = some (.slice a3 t.refs.length k3) ∧ w'.cell? ⟨w.heap.size, 5, none⟩ = some (.string ⟨t.chk.op.toArray⟩) ∧ w'.cell? ⟨w.heap.size, 6, none⟩ = some (.int .i64 t.chk.v.k) ∧ w'.cell? ⟨w.heap.size, 7, none⟩ = some (.int .i64 t.chk.v.i) ∧ w'.cell? ⟨w.heap.size, 8, none⟩ = some (.string ⟨t.chk.v.s.toArray⟩) ∧ w'.cell? ⟨w.heap.size, 9, none⟩ = some (.string ⟨t.chk.s.toArray⟩) ∧ w'.cell? ⟨w.heap.size, 10, none⟩ = some (.slice a4 t.chk.l.length k4))) := fun w' h => by
    have k := kt0.below h lt0
    exact ⟨k.cell 0, k.cell 1, k.cell 2, k.cell 3, k.cell 4, k.cell 5, k.cell 6, k.cell 7, k.cell 8, k.cell 9, k.cell 10⟩
  have hwx : ∀ Y : World, Below w0.heap.size w0 Y → Below w.heap.size w Y := fun Y h => hb0.trans (h.mono hb0.size)
  have HC : Hid (∀ Y : World, Below w0.heap.size w0 Y → ColS Y Y.heap.size a1 t.cols) := fun Y h => (hC.keep (old_keep (hwx Y h) (hwx Y h).size)).s (fun b h => h)
  have HV : Hid (∀ Y : World, Below w0.heap.size w0 Y → VS Y Y.heap.size A row) := fun Y h => (hV.keep (old_keep (hwx Y h) (hwx Y h).size)).s (fun b h => h)
  have hev : ∀ Y : World, Below w0.heap.size w0 Y → Calls Try.prog 12 #[.agg (t.chk.cells a4 k4).toArray, .slice a1 t.cols.length k1, .slice A row.length c] Y (Ret (.agg #[.int .i64 (evalX t.cols row t.chk).k, .int .i64 (evalX t.cols row t.chk).i, .string ⟨(evalX t.cols row t.chk).s.toArray⟩]) Y) := fun Y h => by
    have hE' := (hE.keep (old_keep (hwx Y h) (hwx Y h).size) n).toS (B := Y.heap.size) (fun b h => h) n
    rw [← eval_X n t.cols row t.chk (ExS.hgt n hE')]
    exact evalX_any n t.chk a4 k4 a1 A k1 c t.cols row Y hcf hE' (by omega) (by omega) ((hC.keep (old_keep (hwx Y h) (hwx Y h).size)).s (fun b h => h)) ((hV.keep (old_keep (hwx Y h) (hwx Y h).size)).s (fun b h => h)) hri
  have hmy := mayTb_any t ⟨⟨a1, k1⟩, ⟨a2, k2⟩, ⟨a3, k3⟩, ⟨a4, k4⟩⟩ w0 hs (hQ.keep (old_keep hb0 hb0.size))
  obtain ⟨M, hM⟩ : ∃ M, mayTb t = M := ⟨_, rfl⟩
  obtain ⟨va, hva⟩ : ∃ v, evalX t.cols row t.chk = v := ⟨_, rfl⟩
  obtain ⟨R, hR⟩ : ∃ R, fitsX t row = R := ⟨_, rfl⟩
  rw [hR]
  unfold fitsX at hR
  rw [hM] at hmy hR
  rw [hva] at hev hR
  have HMY := Lib.hid hmy
  have HEV := Lib.hid hev
  have HR := Lib.hid hR
  have HW := Lib.hid hw0
  dsimp only [Tb.cells] at HMY
  dsimp only [Ex.cells] at HEV
  clear hw0 hC hE hQ hV hri hev hmy hM hva hR hwx hcf hs
  obtain ⟨x0, x1, x2, x3, x4, x5, x6, x7, x8, x9, x10⟩ := HSH.out w0 (Below.refl _ _)
  go_enter Try.func31, Try.ntmps31
  go_upto_region 1 with fail
  rw [HW.out]
  dsimp only [Tb.cells]
  clear HW
  cases M
  · have HF : Hid (R = 1) := by show _ = _; rw [← HR.out]; simp
    go_wp2_with fail
    refine HMY.out.mono ?_
    rintro en w1 ⟨rfl, hb1⟩
    go_wp2_with fail
    go_ret
    exact ⟨by rw [HF.out]; rfl, hb0.trans (hb1.mono hz0)⟩
  go_wp2_with fail
  refine HMY.out.mono ?_
  rintro en w1 ⟨rfl, hb1⟩
  clear HMY x0 x1 x2 x3 x4 x5 x6 x7 x8 x9 x10
  obtain ⟨x0, x1, x2, x3, x4, x5, x6, x7, x8, x9, x10⟩ := HSH.out w1 hb1
  by_cases hlen : row.length = t.cols.length
  case neg =>
    have HF : Hid (R = 1) := by show _ = _; rw [← HR.out]; simp [hlen]
    have e1 : ((row.length : Int) != (t.cols.length : Int)) = true := by rw [bne_iff_ne]; omega
    clear hlen
    go_wp2_with fail
    go_ret
    exact ⟨by rw [HF.out]; rfl, hb0.trans (hb1.mono hz0)⟩
  have e1 : ((row.length : Int) != (t.cols.length : Int)) = false := by rw [bne_eq_false_iff_eq]; omega
  have hle : row.length ≤ t.cols.length := by omega
  have HLEN := Lib.hid hlen
  obtain ⟨R1, hR1⟩ : ∃ r : Int, (if ¬ fitsFrom t.cols row 0 = 0 then fitsFrom t.cols row 0 else if veq va ⟨3, 0, []⟩ = true then 9 else 0) = r := ⟨_, rfl⟩
  have HR1 := Lib.hid hR1
  have HA0 : Hid (cond ((row.drop 0).all V.mayB) R1 1 = R) := by
    show _ = _
    rw [← HR.out, hR1, List.drop_zero]
    cases h : row.all V.mayB
    · simp [hlen]
    · simp [hlen]
  clear hlen hR1 HR
  go_wp2_with fail
  go_loopw [21] (fun i wr => ∃ j : Nat, j ≤ row.length ∧ i = .int .i64 j ∧ Hid (cond ((row.drop j).all V.mayB) R1 1 = R) ∧ Below w0.heap.size w0 wr) (fun i _ => row.length - (intOf i).toNat)
  case atStart => exact ⟨0, by omega, rfl, HA0, hb1⟩
  case round =>
    obtain ⟨j, hj, rfl, hrest, hbr⟩ := hrel
    clear x0 x1 x2 x3 x4 x5 x6 x7 x8 x9 x10
    obtain ⟨x0, x1, x2, x3, x4, x5, x6, x7, x8, x9, x10⟩ := HSH.out wr hbr
    obtain ⟨W, rfl⟩ : ∃ W, W = wr := ⟨_, rfl⟩
    have hzr := hbr.size
    have hbwr := hb0.trans (hbr.mono hz0)
    by_cases hlt : j < row.length
    · obtain ⟨b, off, v, rfl, hbB, hv, c0, c1, c2⟩ := (HV.out W hbr).at_ hlt
      have hrest' := hrest.out
      rw [dropVr row j v hv] at hrest'
      simp only [List.all_cons] at hrest'
      have i3 : (0 : Int) ≤ (j : Int) := by omega
      have i4 : (j : Int) < (row.length : Int) := by omega
      obtain ⟨B, hB⟩ : ∃ B, mayB v.k v.i v.s = B := ⟨_, rfl⟩
      have hB' : V.mayB v = B := hB
      rw [hB'] at hrest'
      have HMV : Hid (∀ Z : World, Calls Try.prog 52 #[.agg #[.int .i64 (v).k, .int .i64 (v).i, .string ⟨(v).s.toArray⟩]] Z (Ret (.bool B) Z)) := fun Z => by have := may_any v.k v.i v.s Z; rw [hB] at this; exact this
      have HVV := Lib.hid hrest'
      clear hrest hrest' hv hB hB'
      cases B
      · have HF : Hid (R = 1) := by show _ = _; rw [← HVV.out]; simp
        go_wp2_with fail
        refine (HMV.out _).mono ?_
        rintro en w7 ⟨rfl, hb7⟩
        go_wp2_with fail
        go_ret
        refine ⟨by rw [HF.out]; rfl, ?_⟩
        have hz7 := hb7.size
        ((repeat' (first | with_reducible exact Below.refl _ _ | with_reducible assumption | with_reducible refine Below.drew ?_ | with_reducible refine below_drewN ?_ _ | with_reducible refine Below.setCell ?_ ?_ _ | with_reducible refine Below.alloc ?_ ?_ _ | with_reducible refine Below.trans ?_ (Below.mono (by assumption) ?_))) <;> (first | (simp; done) | (simp; omega) | omega))
      · have HN2 : Hid (cond ((row.drop (j + 1)).all V.mayB) R1 1 = R) := by show _ = _; rw [← HVV.out]; simp
        go_wp2_with fail
        refine (HMV.out _).mono ?_
        rintro en w7 ⟨rfl, hb7⟩
        have hz7 := hb7.size
        go_wp2_with fail
        go_roundw
        case rel => exact ⟨j + 1, by omega, by go_num, HN2, by ((repeat' (first | with_reducible exact Below.refl _ _ | with_reducible assumption | with_reducible refine Below.drew ?_ | with_reducible refine below_drewN ?_ _ | with_reducible refine Below.setCell ?_ ?_ _ | with_reducible refine Below.alloc ?_ ?_ _ | with_reducible refine Below.trans ?_ (Below.mono (by assumption) ?_))) <;> (first | (simp; done) | (simp; omega) | omega))⟩
        case measure => simp [intOf]; omega
    · obtain rfl : j = row.length := by omega
      have HRR : Hid (R1 = R) := by show _ = _; rw [← hrest.out, List.drop_of_length_le (Nat.le_refl _)]; simp
      have b0 : ¬ ((row.length : Int) < (row.length : Int)) := by omega
      clear hrest
      obtain ⟨R2, hR2⟩ : ∃ r : Int, (if veq va ⟨3, 0, []⟩ = true then 9 else 0) = r := ⟨_, rfl⟩
      have HR2 := Lib.hid hR2
      have HB0 : Hid (orI (fitsFrom t.cols (row.drop 0) 0) R2 = R) := by
        show _ = _
        rw [← HRR.out, ← HR1.out, hR2, List.drop_zero]
        unfold orI
        by_cases h : fitsFrom t.cols row 0 = 0
        · rw [if_pos h, if_neg (by simpa using h)]
        · rw [if_neg h, if_pos h]
      clear hR2 HRR HR1
      go_wp2_with fail
      go_loopw [31] (fun i wr => ∃ j : Nat, j ≤ row.length ∧ i = .int .i64 j ∧ Hid (orI (fitsFrom t.cols (row.drop j) j) R2 = R) ∧ Below w0.heap.size w0 wr) (fun i _ => row.length - (intOf i).toNat)
      case atStart => exact ⟨0, by omega, rfl, HB0, hbr⟩
      case round =>
        obtain ⟨j, hj, rfl, hrest, hbq⟩ := hrel
        clear x0 x1 x2 x3 x4 x5 x6 x7 x8 x9 x10
        obtain ⟨x0, x1, x2, x3, x4, x5, x6, x7, x8, x9, x10⟩ := HSH.out wr hbq
        obtain ⟨WQ1, rfl⟩ : ∃ W, W = wr := ⟨_, rfl⟩
        have hzq := hbq.size
        have hbwq := hb0.trans (hbq.mono hz0)
        by_cases hlt : j < row.length
        · obtain ⟨b, off, v, rfl, hbB, hv, c0, c1, c2⟩ := (HV.out WQ1 hbq).at_ hlt
          obtain ⟨b', off', cc, rfl, hbB', hv', d0, d1, d2⟩ := (HC.out WQ1 hbq).at_ (j := j) (by omega)
          have hrest' := hrest.out
          rw [dropVr row j v hv] at hrest'
          simp only [fitsFrom] at hrest'
          have hgd : t.cols.getD j ⟨[], 0, false⟩ = cc := by rw [List.getD_eq_getElem?_getD, hv']; rfl
          rw [hgd] at hrest'
          have hn : fitV cc v = 0 → orI (fitsFrom t.cols (row.drop (j + 1)) (j + 1)) R2 = R := fun h => by rw [if_pos h] at hrest'; exact hrest'
          have hx : ∀ k, fitV cc v = k → ¬ k = 0 → k = R := fun k h h0 => by rw [if_neg (by rw [h]; exact h0), h] at hrest'; unfold orI at hrest'; rw [if_neg h0] at hrest'; exact hrest'
          have HN := Lib.hid hn
          have HX := Lib.hid hx
          have i3 : (0 : Int) ≤ (j : Int) := by omega
          have i4 : (j : Int) < (row.length : Int) := by omega
          have i5 : (j : Int) < (t.cols.length : Int) := by omega
          clear hrest hrest' hv hv' hgd hn hx
          obtain ⟨vk, hvk⟩ : ∃ x, v.k = x := ⟨_, rfl⟩
          obtain ⟨ct, hct⟩ : ∃ x, cc.t = x := ⟨_, rfl⟩
          obtain ⟨cb, hcb⟩ : ∃ x, cc.b = x := ⟨_, rfl⟩
          rw [hvk] at c0
          rw [hct] at d1
          rw [hcb] at d2
          by_cases hk0 : vk = 0
          · subst hk0
            cases cb
            · have HN2 : Hid (orI (fitsFrom t.cols (row.drop (j + 1)) (j + 1)) R2 = R) := HN.out (by unfold fitV; simp [hvk, hcb])
              clear hvk hct hcb
              go_wp2_with fail
              go_quiet (fail)
              go_wp2_with fail
              go_roundw
              case rel => exact ⟨j + 1, by omega, by go_num, HN2, below_drewN hbq _⟩
              case measure => simp [intOf]; omega
            · have HF : Hid (8 = R) := HX.out 8 (by unfold fitV; simp [hvk, hcb]) (by decide)
              clear hvk hct hcb
              go_wp2_with fail
              go_ret
              exact ⟨by rw [← HF.out]; rfl, hbwq⟩
          · have e2 : (vk == 0) = false := by simpa using hk0
            have e3 : (vk != 0) = true := by simpa using hk0
            by_cases hkt : vk = ct
            · have e4 : (vk != ct) = false := by simpa using hkt
              have HN2 : Hid (orI (fitsFrom t.cols (row.drop (j + 1)) (j + 1)) R2 = R) := HN.out (by unfold fitV; rw [hvk, hct, if_neg (fun h => hk0 h.1), if_neg (fun h => h.2 hkt)])
              clear hvk hct hcb hk0 hkt
              go_wp2_with fail
              go_quiet (fail)
              go_wp2_with fail
              go_roundw
              case rel => exact ⟨j + 1, by omega, by go_num, HN2, below_drewN hbq _⟩
              case measure => simp [intOf]; omega
            · have e4 : (vk != ct) = true := by simpa using hkt
              have HF : Hid (5 = R) := HX.out 5 (by unfold fitV; rw [hvk, hct]; simp [hk0, hkt]) (by decide)
              clear hvk hct hcb hk0 hkt
              go_wp2_with fail
              go_quiet (fail)
              go_wp2_with fail
              go_ret
              exact ⟨by rw [← HF.out]; rfl, below_drewN hbwq _⟩
        · obtain rfl : j = row.length := by omega
          have HRR2 : Hid (R2 = R) := by show _ = _; rw [← hrest.out, List.drop_of_length_le (Nat.le_refl _)]; rfl
          have b1 : ¬ ((row.length : Int) < (row.length : Int)) := by omega
          clear hrest
          obtain ⟨q, hq⟩ : ∃ q, veq ⟨va.k, va.i, va.s⟩ ⟨3, 0, []⟩ = q := ⟨_, rfl⟩
          have hr2 := HR2.out
          rw [show veq va ⟨3, 0, []⟩ = q from hq] at hr2
          have HR3 := Lib.hid hr2
          have HQQ := Lib.hid hq
          clear hr2 hq HR2
          go_wp2_with fail
          refine (HEV.out WQ1 hbq).mono ?_
          rintro en w9 ⟨rfl, hb9⟩
          have hbw9 := hbwq.trans (hb9.mono hbwq.size)
          have q1 := HQQ.out
          cases q
          · have HF : Hid (0 = R) := by show _ = _; rw [← HRR2.out, ← HR3.out]; simp
            go_wp2_with fail
            go_ret
            exact ⟨by rw [← HF.out]; rfl, hbw9⟩
          · have HF : Hid (9 = R) := by show _ = _; rw [← HRR2.out, ← HR3.out]; simp
            go_wp2_with fail
            go_ret
            exact ⟨by rw [← HF.out]; rfl, hbw9⟩

end Go.Proofs.Ytdhjogmkhbpcgaa
