/- The document's Fits of a row is the program's. Condition: a table and a row that read as such, of the sizes that are looked at. -/
import Derived.Test.YtdhjogmkhbpcgaaGreatR4f
import Derived.Test.YtdhjogmkhbpcgaaGreatR6M
import Derived.Test.YtdhjogmkhbpcgaaGreatFitM
namespace Go.Proofs.YtdhjogmkhbpcgaaGreat
open Go.RowKit

attribute [local go_sem] ByteArray.extract_mk ba_get ba_append
attribute [local go_sem ↓] Go.wp_at_zero Go.wp_at_succ run_eql_V run_neq_V

set_option maxRecDepth 100000 in
set_option maxHeartbeats 8000000 in
theorem fits6_any (t : Tb) (p : TbP) (row : List V) (A : Option Addr) (c : Nat) (w : World) (hs : t.small) (hQ : TbQ 1000 t p (Old w.heap.size) w) (hrw : row.length ≤ 1000) (hri : ∀ v ∈ row, fitI v.i ∧ v.s.length ≤ 1000) (hV : WQ row A (Old w.heap.size) w) :
    Calls Tryz.prog 26 #[.agg (t.cells p).toArray, .slice A row.length c] w (Ret (.int .i64 (fitsX t row)) w) := by
  have hs' := hs
  obtain ⟨_, hcl, _, _, _, _, hcf, hck⟩ := hs'
  obtain ⟨⟨a1, k1⟩, ⟨a2, k2⟩, ⟨a3, k3⟩, ⟨a4, k4⟩⟩ := p
  obtain ⟨w0, hw0⟩ : ∃ w0, w.alloc (.cells #[.string ⟨t.n.toArray⟩, .slice a1 t.cols.length k1, .int .i64 t.key, .slice a2 t.uniq.length k2, .slice a3 t.refs.length k3, .string ⟨t.chk.op.toArray⟩, .int .i64 t.chk.v.k, .int .i64 t.chk.v.i, .string ⟨t.chk.v.s.toArray⟩, .string ⟨t.chk.s.toArray⟩, .slice a4 t.chk.l.length k4] 31) = w0 := ⟨_, rfl⟩
  have kt0 : Blk w0 w.heap.size 31 #[.string ⟨t.n.toArray⟩, .slice a1 t.cols.length k1, .int .i64 t.key, .slice a2 t.uniq.length k2, .slice a3 t.refs.length k3, .string ⟨t.chk.op.toArray⟩, .int .i64 t.chk.v.k, .int .i64 t.chk.v.i, .string ⟨t.chk.v.s.toArray⟩, .string ⟨t.chk.s.toArray⟩, .slice a4 t.chk.l.length k4] := by rw [← hw0]; exact Blk.new _ _ _
  have hb0 : Below w.heap.size w w0 := by rw [← hw0]; exact bl
  have hz0 := hb0.size
  have HSH : Hid (∀ w' : World, Below w0.heap.size w0 w' → (w'.cell? ⟨w.heap.size, 0, none⟩ = some (.string ⟨t.n.toArray⟩) ∧ w'.cell? ⟨w.heap.size, 1, none⟩ = some (.slice a1 t.cols.length k1) ∧ w'.cell? ⟨w.heap.size, 2, none⟩ = some (.int .i64 t.key) ∧ w'.cell? ⟨w.heap.size, 3, none⟩ = some (.slice a2 t.uniq.length k2) ∧ w'.cell? ⟨w.heap.size, 4, none⟩ = some (.slice a3 t.refs.length k3) ∧ w'.cell? ⟨w.heap.size, 5, none⟩ = some (.string ⟨t.chk.op.toArray⟩) ∧ w'.cell? ⟨w.heap.size, 6, none⟩ = some (.int .i64 t.chk.v.k) ∧ w'.cell? ⟨w.heap.size, 7, none⟩ = some (.int .i64 t.chk.v.i) ∧ w'.cell? ⟨w.heap.size, 8, none⟩ = some (.string ⟨t.chk.v.s.toArray⟩) ∧ w'.cell? ⟨w.heap.size, 9, none⟩ = some (.string ⟨t.chk.s.toArray⟩) ∧ w'.cell? ⟨w.heap.size, 10, none⟩ = some (.slice a4 t.chk.l.length k4))) := fun w' h => by
    have k := kt0.below h kt0.lt
    exact ⟨k.cell 0, k.cell 1, k.cell 2, k.cell 3, k.cell 4, k.cell 5, k.cell 6, k.cell 7, k.cell 8, k.cell 9, k.cell 10⟩
  have hQY : ∀ Y : World, Below w0.heap.size w0 Y → TbQ 1000 t ⟨⟨a1, k1⟩, ⟨a2, k2⟩, ⟨a3, k3⟩, ⟨a4, k4⟩⟩ (Old Y.heap.size) Y := fun Y h => hQ.keep (old_keep (hb0.trans (h.mono hz0)) (hb0.trans (h.mono hz0)).size)
  have HC : Hid (∀ Y : World, Below w0.heap.size w0 Y → ColS Y Y.heap.size a1 t.cols) := fun Y h => (hQY Y h).1.s (fun b h => h)
  have HV : Hid (∀ Y : World, Below w0.heap.size w0 Y → VS Y Y.heap.size A row) := fun Y h => (hV.keep (old_keep (hb0.trans (h.mono hz0)) (hb0.trans (h.mono hz0)).size)).s (fun b h => h)
  have hmy := may6_any t ⟨⟨a1, k1⟩, ⟨a2, k2⟩, ⟨a3, k3⟩, ⟨a4, k4⟩⟩ w0 hs (hQY w0 (Below.refl _ _))
  obtain ⟨M, hM⟩ : ∃ M, mayTb t = M := ⟨_, rfl⟩
  rw [hM] at hmy
  have HMY := Lib.hid hmy
  dsimp only [Tb.cells] at HMY
  have hchk : M = true → ¬ t.chk.op = [] → mayX t.chk = true := fun h ho => by
    rw [h] at hM
    unfold mayTb lastB at hM
    simp only [Bool.and_eq_true, decide_eq_true_eq] at hM
    have h0 := hM.2.2.2.2.2.2.2.2
    unfold checkX at h0
    have hs0 : same0 t.chk = false := by unfold same0; rw [show (t.chk.op == []) = false from by rw [beq_eq_false_iff_ne]; exact ho]; rfl
    rw [hs0] at h0
    cases hm : mayX t.chk
    · exfalso
      have : typeX t.cols t.chk = (0, 1) := by unfold typeX; rw [hm]; rfl
      rw [this] at h0
      simp at h0
    · rfl
  have HEV : Hid (M = true → ¬ t.chk.op = [] → ∀ Y : World, Below w0.heap.size w0 Y → Calls Tryz.prog 40 #[.agg #[.string ⟨t.chk.op.toArray⟩, .int .i64 t.chk.v.k, .int .i64 t.chk.v.i, .string ⟨t.chk.v.s.toArray⟩, .string ⟨t.chk.s.toArray⟩, .slice a4 t.chk.l.length k4], .slice a1 t.cols.length k1, .slice A row.length c] Y (Ret (.agg #[.int .i64 (evalX t.cols row t.chk).k, .int .i64 (evalX t.cols row t.chk).i, .string ⟨(evalX t.cols row t.chk).s.toArray⟩]) Y)) := fun h1 h2 Y h => by
    obtain ⟨_, _, _, n, hE⟩ := hQY Y h
    have hm := hchk h1 h2
    have hES := hE.toS (B := Y.heap.size) (fun b h => h) n
    have := eval4_any n 12 t.chk a4 a1 A k4 k1 c t.cols row Y (may_formE hm) hcf hES hcl hrw hri (HC.out Y h) (HV.out Y h)
    have he := eval_X n t.cols row t.chk (ExS.hgt n hES)
    unfold eval at he
    rw [may_X n t.chk (ExS.hgt n hES), hm] at he
    rw [show evalE n t.cols row t.chk = evalX t.cols row t.chk from he] at this
    exact this
  have hev0 : t.chk.op = [] → veq (evalX t.cols row t.chk) ⟨3, 0, []⟩ = false := fun ho => by
    have : mayX t.chk = false := by
      cases hm : mayX t.chk
      · rfl
      · have := form_parts (may_formE hm)
        rw [ho] at this
        rcases this with ⟨h, _⟩ | ⟨h, _⟩ | ⟨h | h, _⟩ | ⟨h | h | h | h | h | h, _⟩ <;> cases h
    unfold evalX
    rw [this]
    rfl
  obtain ⟨va, hva⟩ : ∃ v, evalX t.cols row t.chk = v := ⟨_, rfl⟩
  obtain ⟨R, hR⟩ : ∃ R, fitsX t row = R := ⟨_, rfl⟩
  rw [hR]
  unfold fitsX at hR
  rw [hM, hva] at hR
  rw [hva] at HEV hev0
  have HEV0 := Lib.hid hev0
  have HR := Lib.hid hR
  have HW := Lib.hid hw0
  have HRI := Lib.hid hri
  have HBW : Hid (∀ Y : World, Below w0.heap.size w0 Y → Below w.heap.size w Y) := fun Y h => hb0.trans (h.mono hz0)
  have hbr0 : Below w0.heap.size w0 w0 := Below.refl _ _
  dsimp only [Tb.cells]
  clear hw0 hQ hV hri hmy hM hva hR hcf hck hs hb0 kt0 hQY hchk hev0
  obtain ⟨x0, x1, x2, x3, x4, x5, x6, x7, x8, x9, x10⟩ := HSH.out w0 hbr0
  go_enter Tryz.func26, Tryz.ntmps26
  go_upto_region 1 with fail
  rw [HW.out]
  clear HW
  cases M
  · have HF : Hid (R = 1) := by show _ = _; rw [← HR.out]; simp
    go_wp2_with fail
    refine HMY.out.mono ?_
    rintro en w1 ⟨rfl, hb1⟩
    go_wp2_with fail
    go_ret
    exact ⟨by rw [HF.out]; rfl, HBW.out _ (by exact bl)⟩
  go_wp2_with fail
  refine HMY.out.mono ?_
  rintro en w1 ⟨rfl, hb1⟩
  clear HMY x0 x1 x2 x3 x4 x5 x6 x7 x8 x9 x10
  obtain ⟨x0, x1, x2, x3, x4, x5, x6, x7, x8, x9, x10⟩ := HSH.out w1 hb1
  by_cases hlen : row.length = t.cols.length
  case neg =>
    have HF : Hid (R = 1) := by show _ = _; rw [← HR.out]; simp [hlen]
    have e1 : ((row.length : Int) != (t.cols.length : Int)) = true := by rw [bne_iff_ne]; omega
    clear hlen
    go_wp2_with fail
    go_ret
    exact ⟨by rw [HF.out]; rfl, HBW.out _ (by exact bl)⟩
  have e1 : ((row.length : Int) != (t.cols.length : Int)) = false := by rw [bne_eq_false_iff_eq]; omega
  have hle : row.length ≤ t.cols.length := by omega
  obtain ⟨R1, hR1⟩ : ∃ r : Int, (if ¬ fitsFrom t.cols row 0 = 0 then fitsFrom t.cols row 0 else if veq va ⟨3, 0, []⟩ = true then 9 else 0) = r := ⟨_, rfl⟩
  have HR1 := Lib.hid hR1
  have HA0 : Hid (cond ((row.drop 0).all V.mayB) R1 1 = R) := by
    show _ = _
    rw [← HR.out, hR1, List.drop_zero]
    cases h : row.all V.mayB
    · simp [hlen]
    · simp [hlen]
  clear hlen hR1 HR
  go_wp2_with fail
  go_loopw [5] (fun i wr => ∃ j : Nat, j ≤ row.length ∧ i = .int .i64 j ∧ Hid (cond ((row.drop j).all V.mayB) R1 1 = R) ∧ Below w0.heap.size w0 wr) (fun i _ => row.length - (intOf i).toNat)
  case atStart => exact ⟨0, by omega, rfl, HA0, hb1⟩
  case round =>
    obtain ⟨j, hj, rfl, hrest, hbr⟩ := hrel
    clear x0 x1 x2 x3 x4 x5 x6 x7 x8 x9 x10
    obtain ⟨W, rfl⟩ : ∃ W, W = wr := ⟨_, rfl⟩
    obtain ⟨x0, x1, x2, x3, x4, x5, x6, x7, x8, x9, x10⟩ := HSH.out W hbr
    have hzr := hbr.size
    by_cases hlt : j < row.length
    · obtain ⟨b, off, v, rfl, hbB, hv, c0, c1, c2⟩ := (HV.out W hbr).at_ hlt
      have hrest' := hrest.out
      rw [dropVr row j v hv] at hrest'
      simp only [List.all_cons] at hrest'
      have i3 : (0 : Int) ≤ (j : Int) := by omega
      have i4 : (j : Int) < (row.length : Int) := by omega
      obtain ⟨B, hB⟩ : ∃ B, mayB v.k v.i v.s = B := ⟨_, rfl⟩
      have hB' : V.mayB v = B := hB
      rw [hB'] at hrest'
      have hvs := (HRI.out v (List.mem_of_getElem? hv)).2
      have HMV : Hid (∀ Z : World, Calls Tryz.prog 52 #[.agg #[.int .i64 (v).k, .int .i64 (v).i, .string ⟨(v).s.toArray⟩]] Z (Ret (.bool B) Z)) := fun Z => by have := rmay_any v.k v.i v.s Z (by omega); rw [hB] at this; exact this
      have HVV := Lib.hid hrest'
      clear hrest hrest' hv hB hB' hvs
      cases B
      · have HF : Hid (R = 1) := by show _ = _; rw [← HVV.out]; simp
        go_wp2_with fail
        refine (HMV.out _).mono ?_
        rintro en w7 ⟨rfl, hb7⟩
        go_wp2_with fail
        go_ret
        exact ⟨by rw [HF.out]; rfl, HBW.out _ (by exact bl)⟩
      · have HN2 : Hid (cond ((row.drop (j + 1)).all V.mayB) R1 1 = R) := by show _ = _; rw [← HVV.out]; simp
        go_wp2_with fail
        refine (HMV.out _).mono ?_
        rintro en w7 ⟨rfl, hb7⟩
        go_wp2_with fail
        go_roundw
        case rel => exact ⟨j + 1, by omega, by go_num, HN2, by exact bl⟩
        case measure => simp [intOf]; omega
    obtain rfl : j = row.length := by omega
    have HRR : Hid (R1 = R) := by show _ = _; rw [← hrest.out, List.drop_of_length_le (Nat.le_refl _)]; simp
    have b0 : ¬ ((row.length : Int) < (row.length : Int)) := by omega
    clear hrest hlt
    obtain ⟨R2, hR2⟩ : ∃ r : Int, (if veq va ⟨3, 0, []⟩ = true then 9 else 0) = r := ⟨_, rfl⟩
    have HR2 := Lib.hid hR2
    have HB0 : Hid (orI (fitsFrom t.cols (row.drop 0) 0) R2 = R) := by
      show _ = _
      rw [← HRR.out, ← HR1.out, hR2, List.drop_zero]
      unfold orI
      by_cases h : fitsFrom t.cols row 0 = 0
      · rw [if_pos h, if_neg (by simpa using h)]
      · rw [if_neg h, if_pos h]
    clear hR2 HRR HR1
    go_wp2_with fail
    go_loopw [6] (fun i wr => ∃ j : Nat, j ≤ row.length ∧ i = .int .i64 j ∧ Hid (orI (fitsFrom t.cols (row.drop j) j) R2 = R) ∧ Below w0.heap.size w0 wr) (fun i _ => row.length - (intOf i).toNat)
    case atStart => exact ⟨0, by omega, rfl, HB0, hbr⟩
    case round =>
      obtain ⟨j, hj, rfl, hrest, hbq⟩ := hrel
      clear x0 x1 x2 x3 x4 x5 x6 x7 x8 x9 x10
      obtain ⟨WQ1, rfl⟩ : ∃ W, W = wr := ⟨_, rfl⟩
      obtain ⟨x0, x1, x2, x3, x4, x5, x6, x7, x8, x9, x10⟩ := HSH.out WQ1 hbq
      have hzq := hbq.size
      by_cases hlt : j < row.length
      · obtain ⟨b, off, v, rfl, hbB, hv, c0, c1, c2⟩ := (HV.out WQ1 hbq).at_ hlt
        obtain ⟨b', off', cc, rfl, hbB', hv', d0, d1, d2⟩ := (HC.out WQ1 hbq).at_ (j := j) (by omega)
        have hrest' := hrest.out
        rw [dropVr row j v hv] at hrest'
        simp only [fitsFrom] at hrest'
        have hgd : t.cols.getD j ⟨[], 0, false⟩ = cc := by rw [List.getD_eq_getElem?_getD, hv']; rfl
        rw [hgd] at hrest'
        have hn : fitV cc v = 0 → orI (fitsFrom t.cols (row.drop (j + 1)) (j + 1)) R2 = R := fun h => by rw [if_pos h] at hrest'; exact hrest'
        have hx : ∀ k, fitV cc v = k → ¬ k = 0 → k = R := fun k h h0 => by rw [if_neg (by rw [h]; exact h0), h] at hrest'; unfold orI at hrest'; rw [if_neg h0] at hrest'; exact hrest'
        have HN := Lib.hid hn
        have HX := Lib.hid hx
        have i3 : (0 : Int) ≤ (j : Int) := by omega
        have i4 : (j : Int) < (row.length : Int) := by omega
        have i5 : (j : Int) < (t.cols.length : Int) := by omega
        clear hrest hrest' hv hv' hgd hn hx
        obtain ⟨vk, hvk⟩ : ∃ x, v.k = x := ⟨_, rfl⟩
        obtain ⟨ct, hct⟩ : ∃ x, cc.t = x := ⟨_, rfl⟩
        obtain ⟨cb, hcb⟩ : ∃ x, cc.b = x := ⟨_, rfl⟩
        rw [hvk] at c0
        rw [hct] at d1
        rw [hcb] at d2
        by_cases hk0 : vk = 0
        · subst hk0
          cases cb
          · have HN2 : Hid (orI (fitsFrom t.cols (row.drop (j + 1)) (j + 1)) R2 = R) := HN.out (by unfold fitV; simp [hvk, hcb])
            clear hvk hct hcb
            go_wp2_with fail
            go_quiet (fail)
            go_wp2_with fail
            go_roundw
            case rel => exact ⟨j + 1, by omega, by go_num, HN2, below_drewN hbq _⟩
            case measure => simp [intOf]; omega
          · have HF : Hid (8 = R) := HX.out 8 (by unfold fitV; simp [hvk, hcb]) (by decide)
            clear hvk hct hcb
            go_wp2_with fail
            go_ret
            exact ⟨by rw [← HF.out]; rfl, HBW.out _ (by exact bl)⟩
        · have e2 : (vk == 0) = false := by simpa using hk0
          have e3 : (vk != 0) = true := by simpa using hk0
          by_cases hkt : vk = ct
          · have e4 : (vk != ct) = false := by simpa using hkt
            have HN2 : Hid (orI (fitsFrom t.cols (row.drop (j + 1)) (j + 1)) R2 = R) := HN.out (by unfold fitV; rw [hvk, hct, if_neg (fun h => hk0 h.1), if_neg (fun h => h.2 hkt)])
            clear hvk hct hcb hk0 hkt
            go_wp2_with fail
            go_quiet (fail)
            go_wp2_with fail
            go_roundw
            case rel => exact ⟨j + 1, by omega, by go_num, HN2, below_drewN hbq _⟩
            case measure => simp [intOf]; omega
          · have e4 : (vk != ct) = true := by simpa using hkt
            have HF : Hid (5 = R) := HX.out 5 (by unfold fitV; rw [hvk, hct]; simp [hk0, hkt]) (by decide)
            clear hvk hct hcb hk0 hkt
            go_wp2_with fail
            go_quiet (fail)
            go_wp2_with fail
            go_ret
            exact ⟨by rw [← HF.out]; rfl, HBW.out _ (below_drewN hbq _)⟩
      obtain rfl : j = row.length := by omega
      have HRR2 : Hid (R2 = R) := by show _ = _; rw [← hrest.out, List.drop_of_length_le (Nat.le_refl _)]; rfl
      have b1 : ¬ ((row.length : Int) < (row.length : Int)) := by omega
      clear hrest hlt
      by_cases ho : t.chk.op = []
      · have o1 : (t.chk.op != []) = false := by rw [ho]; rfl
        have o2 : (t.chk.op == []) = true := by rw [ho]; rfl
        have o3 : t.chk.op.isEmpty = true := by rw [ho]; rfl
        have HF : Hid (0 = R) := by show _ = _; rw [← HRR2.out, ← HR2.out, HEV0.out ho]; simp
        clear ho
        go_wp2_with fail
        go_ret
        exact ⟨by rw [← HF.out]; rfl, HBW.out _ (by exact bl)⟩
      · have o1 : (t.chk.op != []) = true := by rw [bne_iff_ne]; exact ho
        have o2 : (t.chk.op == []) = false := by rw [beq_eq_false_iff_ne]; exact ho
        have o3 : t.chk.op.isEmpty = false := by cases he : t.chk.op with | nil => exact absurd he ho | cons _ _ => rfl
        have HEV2 := Lib.hid (HEV.out trivial ho)
        obtain ⟨q, hq⟩ : ∃ q, veq ⟨va.k, va.i, va.s⟩ (bV false) = q := ⟨_, rfl⟩
        have hr2 := HR2.out
        rw [show veq va ⟨3, 0, []⟩ = q from hq] at hr2
        have HR3 := Lib.hid hr2
        have HIS : Hid (∀ Y : World, Calls Tryz.prog 39 #[.agg #[.int .i64 (va).k, .int .i64 (va).i, .string ⟨(va).s.toArray⟩], .bool false] Y (Ret (.bool q) Y)) := fun Y => by have := is_any va.k va.i va.s false Y; rw [hq] at this; exact this
        clear hr2 hq HR2 HEV ho
        go_wp2_with fail
        refine (HEV2.out WQ1 hbq).mono ?_
        rintro en w9 ⟨rfl, hb9⟩
        have hb09 : Below w0.heap.size w0 w9 := hbq.trans (hb9.mono hzq)
        go_wp2_with fail
        refine (HIS.out w9).mono ?_
        rintro en w10 ⟨rfl, hb10⟩
        have hb010 : Below w0.heap.size w0 w10 := hb09.trans (hb10.mono hb09.size)
        cases q
        · have HF : Hid (0 = R) := by show _ = _; rw [← HRR2.out, ← HR3.out]; simp
          go_wp2_with fail
          go_ret
          exact ⟨by rw [← HF.out]; rfl, HBW.out _ hb010⟩
        · have HF : Hid (9 = R) := by show _ = _; rw [← HRR2.out, ← HR3.out]; simp
          go_wp2_with fail
          go_ret
          exact ⟨by rw [← HF.out]; rfl, HBW.out _ hb010⟩

end Go.Proofs.YtdhjogmkhbpcgaaGreat
