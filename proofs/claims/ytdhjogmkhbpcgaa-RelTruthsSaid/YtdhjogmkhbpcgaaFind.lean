/- rel.of, holds, Find as plain functions. Condition: a table with rows that reads as one, of the sizes that are looked at. -/
import Derived.Test.YtdhjogmkhbpcgaaSchema2
import Derived.Deep.RegionHeld3
import Derived.Laws.EntriesVeiled
namespace Go.Proofs.Ytdhjogmkhbpcgaa
open Go.RowKit

attribute [local go_sem] ByteArray.extract_mk ba_get ba_append
attribute [local go_sem ↓] Go.wp_at_zero Go.wp_at_succ run_eql_V run_neq_V

/-- The place of a table's key; -1, if it may not be. -/
def ofF (t : Tb) : Int := if mayTb t then t.key else -1
set_option maxHeartbeats 1000000 in
theorem of_any (t : Tb) (p : TbP) (w : World) (hs : t.small) (hQ : TbQ 1000 t p (Old w.heap.size) w) : Calls Try.prog 26 #[.agg (t.cells p).toArray] w (Ret (.agg #[.int .i64 (ofF t)]) w) := by
  obtain ⟨⟨a1, k1⟩, ⟨a2, k2⟩, ⟨a3, k3⟩, ⟨a4, k4⟩⟩ := p
  obtain ⟨w0, hw0⟩ : ∃ w0, (w.alloc (.cells (t.cells ⟨⟨a1, k1⟩, ⟨a2, k2⟩, ⟨a3, k3⟩, ⟨a4, k4⟩⟩).toArray 31)).alloc (.cells #[.int .i64 0] 69) = w0 := ⟨_, rfl⟩
  have kt : Blk w0 w.heap.size 31 (t.cells ⟨⟨a1, k1⟩, ⟨a2, k2⟩, ⟨a3, k3⟩, ⟨a4, k4⟩⟩).toArray := by rw [← hw0]; exact (Blk.new _ _ _).alloc _
  have kr : Blk w0 (w.heap.size + 1) 69 #[.int .i64 0] := by rw [← hw0]; exact Blk.new' _ _ _ _ (by simp)
  have hb0 : Below w.heap.size w w0 := by rw [← hw0]; ((repeat' (first | with_reducible exact Below.refl _ _ | with_reducible assumption | with_reducible refine Below.drew ?_ | with_reducible refine below_drewN ?_ _ | with_reducible refine Below.setCell ?_ ?_ _ | with_reducible refine Below.alloc ?_ ?_ _ | with_reducible refine Below.trans ?_ (Below.mono (by assumption) ?_))) <;> (first | (simp; done) | (simp; omega) | omega))
  have hm := mayTb_any t ⟨⟨a1, k1⟩, ⟨a2, k2⟩, ⟨a3, k3⟩, ⟨a4, k4⟩⟩ w0 hs (hQ.keep (old_keep hb0 hb0.size))
  obtain ⟨M, hM⟩ : ∃ M, mayTb t = M := ⟨_, rfl⟩
  obtain ⟨R, hR⟩ : ∃ R, ofF t = R := ⟨_, rfl⟩
  rw [hR]
  unfold ofF at hR
  rw [hM] at hm hR
  have HM := Lib.hid hm
  have HW := Lib.hid hw0
  have HR := Lib.hid hR
  dsimp only [Tb.cells] at HM
  have x0 := kt.cell 0
  have x1 := kt.cell 1
  have x2 := kt.cell 2
  have x3 := kt.cell 3
  have x4 := kt.cell 4
  have x5 := kt.cell 5
  have x6 := kt.cell 6
  have x7 := kt.cell 7
  have x8 := kt.cell 8
  have x9 := kt.cell 9
  have x10 := kt.cell 10
  simp [Tb.cells] at x0 x1 x2 x3 x4 x5 x6 x7 x8 x9 x10
  clear hm hw0 hR hM
  go_enter Try.func26, Try.ntmps26
  go_upto_region 1 with fail
  rw [HW.out]
  dsimp only [Tb.cells]
  go_wp2_with fail
  refine HM.out.mono ?_
  rintro en w1 ⟨rfl, hb1⟩
  have kr1 := kr.below hb1 kr.lt
  have lr1 := kr1.lt
  have r0 : w1.cell? ⟨w.heap.size + 1, 0, none⟩ = some (.int .i64 0) := kr1.cell 0
  have f0 := kr1.frozen 0
  have x2' : w1.cell? ⟨w.heap.size, 2, none⟩ = some (.int .i64 t.key) := (kt.below hb1 kt.lt).cell 2
  have hbw := hb0.trans (hb1.mono hb0.size)
  cases M
  · have HF : Hid (R = -1) := HR.out.symm
    go_wp2_with fail
    refine bodyPost_ret (v := .agg #[.int .i64 R]) (by rw [HF.out]; simp [results, Try.results26, go_sem, *]) rfl ⟨rfl, ?_⟩
    ((repeat' (first | with_reducible exact Below.refl _ _ | with_reducible assumption | with_reducible refine Below.drew ?_ | with_reducible refine below_drewN ?_ _ | with_reducible refine Below.setCell ?_ ?_ _ | with_reducible refine Below.alloc ?_ ?_ _ | with_reducible refine Below.trans ?_ (Below.mono (by assumption) ?_))) <;> (first | (simp; done) | (simp; omega) | omega))
  · have HF : Hid (R = t.key) := HR.out.symm
    go_wp2_with fail
    refine bodyPost_ret (v := .agg #[.int .i64 R]) (by rw [HF.out]; simp [results, Try.results26, go_sem, *]) rfl ⟨rfl, ?_⟩
    ((repeat' (first | with_reducible exact Below.refl _ _ | with_reducible assumption | with_reducible refine Below.drew ?_ | with_reducible refine below_drewN ?_ _ | with_reducible refine Below.setCell ?_ ?_ _ | with_reducible refine Below.alloc ?_ ?_ _ | with_reducible refine Below.trans ?_ (Below.mono (by assumption) ?_))) <;> (first | (simp; done) | (simp; omega) | omega))

def holdsB (r : List V) (col : Int) (v : V) : Bool := decide (0 ≤ col) && (decide (col < r.length) && veq (r.getD col.toNat V.zero) v)
set_option maxHeartbeats 1000000 in
theorem holds_any (r : List V) (A : Option Addr) (c : Nat) (col : Int) (v : V) (w : World) (h : VS w w.heap.size A r) :
    Calls Try.prog 29 #[.slice A r.length c, .int .i64 col, .agg #[.int .i64 (v).k, .int .i64 (v).i, .string ⟨(v).s.toArray⟩]] w (Ret (.bool (holdsB r col v)) w) := by
  obtain ⟨w0, hw0⟩ : ∃ w0, w.alloc (.cells #[.int .i64 (v).k, .int .i64 (v).i, .string ⟨(v).s.toArray⟩] 26) = w0 := ⟨_, rfl⟩
  have kv : Blk w0 w.heap.size 26 #[.int .i64 (v).k, .int .i64 (v).i, .string ⟨(v).s.toArray⟩] := by rw [← hw0]; exact Blk.new _ _ _
  have hb0 : Below w.heap.size w w0 := by rw [← hw0]; ((repeat' (first | with_reducible exact Below.refl _ _ | with_reducible assumption | with_reducible refine Below.drew ?_ | with_reducible refine below_drewN ?_ _ | with_reducible refine Below.setCell ?_ ?_ _ | with_reducible refine Below.alloc ?_ ?_ _ | with_reducible refine Below.trans ?_ (Below.mono (by assumption) ?_))) <;> (first | (simp; done) | (simp; omega) | omega))
  have h0 := (h.below hb0).more hb0.size
  obtain ⟨⟨v0, v1, v2⟩, _⟩ := kv.three
  have HW := Lib.hid hw0
  obtain ⟨R, hR⟩ : ∃ R, holdsB r col v = R := ⟨_, rfl⟩
  rw [hR]
  unfold holdsB at hR
  clear hw0 h
  by_cases g1 : 0 ≤ col
  · by_cases g2 : col < r.length
    · obtain ⟨b, off, x, rfl, hbB, hv, d0, d1, d2⟩ := h0.at_ (j := col.toNat) (by omega)
      have hgd : r.getD col.toNat V.zero = x := by rw [List.getD_eq_getElem?_getD, hv]; rfl
      have HF : Hid (R = veq ⟨x.k, x.i, x.s⟩ ⟨v.k, v.i, v.s⟩) := by show _ = _; rw [← hR, hgd]; simp [g1, g2]
      clear hgd hR hv
      go_enter Try.func29, Try.ntmps29
      go_upto_region 1 with fail
      rw [HW.out]
      go_quiet (fail)
      go_wp2_with fail
      go_ret
      exact ⟨by rw [HF.out]; rfl, below_drewN hb0 _⟩
    · have HF : Hid (R = false) := by show _ = _; rw [← hR]; simp [g2]
      have e1 : decide (0 ≤ col) = true := by simpa using g1
      have e2 : decide (col < (r.length : Int)) = false := by simpa using g2
      clear hR
      go_enter Try.func29, Try.ntmps29
      go_upto_region 1 with fail
      rw [HW.out]
      go_quiet (fail)
      go_wp2_with fail
      go_ret
      exact ⟨by rw [HF.out]; rfl, below_drewN hb0 _⟩
  · have HF : Hid (R = false) := by show _ = _; rw [← hR]; simp [g1]
    have e1 : decide (0 ≤ col) = false := by simpa using g1
    clear hR
    go_enter Try.func29, Try.ntmps29
    go_upto_region 1 with fail
    rw [HW.out]
    go_quiet (fail)
    go_wp2_with fail
    go_ret
    exact ⟨by rw [HF.out]; rfl, below_drewN hb0 _⟩

set_option maxHeartbeats 1000000 in
theorem find1_any (r : List V) (A : Option Addr) (c : Nat) (col : Int) (v : V) (ga gk : Nat) (w : World) (h : VS w w.heap.size A r) (ha : w.cell? ⟨ga, 0, none⟩ = some (.int .i64 col)) (hk : w.cell? ⟨gk, 0, none⟩ = some (.int .i64 (v).k) ∧ w.cell? ⟨gk, 1, none⟩ = some (.int .i64 (v).i) ∧ w.cell? ⟨gk, 2, none⟩ = some (.string ⟨(v).s.toArray⟩)) :
    Calls Try.prog 28 #[.slice A r.length c, .pointer (some ⟨ga, 0, none⟩), .pointer (some ⟨gk, 0, none⟩)] w (Ret (.bool (holdsB r col v)) w) := by
  obtain ⟨v0, v1, v2⟩ := hk
  have HH := Lib.hid (holds_any r A c col v w h)
  obtain ⟨B, hB⟩ : ∃ B, holdsB r col v = B := ⟨_, rfl⟩
  rw [hB] at HH ⊢
  clear hB h
  go_enter Try.func28, Try.ntmps28
  go_wp2_with fail
  refine HH.out.mono ?_
  rintro en w1 ⟨rfl, hb1⟩
  go_wp2_with fail
  go_ret
  exact ⟨rfl, hb1⟩
theorem dropL {α : Type} (l : List α) (j : Nat) (v : α) (h : l[j]? = some v) : l.drop j = v :: l.drop (j + 1) := by
  obtain ⟨hj, rfl⟩ := List.getElem?_eq_some_iff.1 h
  exact List.drop_eq_getElem_cons hj
set_option maxHeartbeats 2000000 in
theorem indexFuncR_any (A : Option Addr) (c : Nat) (l : List (List V)) (col : Int) (v : V) (ga gk : Nat) (w : World) (hl : l.length ≤ 1000000) (h : RQ l A (Old w.heap.size) w) (ha : w.cell? ⟨ga, 0, none⟩ = some (.int .i64 col)) (hk : w.cell? ⟨gk, 0, none⟩ = some (.int .i64 (v).k) ∧ w.cell? ⟨gk, 1, none⟩ = some (.int .i64 (v).i) ∧ w.cell? ⟨gk, 2, none⟩ = some (.string ⟨(v).s.toArray⟩)) :
    Calls Try.prog 27 #[.slice A l.length c, .func (.func 28) #[] #[.pointer (some ⟨ga, 0, none⟩), .pointer (some ⟨gk, 0, none⟩)]] w (Ret (.int .i64 (firstP (fun r => holdsB r col v) l 0)) w) := by
  have lga : ga < w.heap.size := Blk_lt_of_cell ha
  have lgk : gk < w.heap.size := Blk_lt_of_cell hk.1
  obtain ⟨R, hR⟩ : ∃ R, firstP (fun r => holdsB r col v) l 0 = R := ⟨_, rfl⟩
  rw [hR]
  have HR : Hid (firstP (fun r => holdsB r col v) (l.drop 0) 0 = R) := hR
  have HA := Lib.hid ha
  have HK := Lib.hid hk
  have HQ := Lib.hid h
  clear hR ha hk h
  go_enter Try.func27, Try.ntmps27
  go_wp2
  go_loopw [8] (fun i wr => ∃ j : Nat, j ≤ l.length ∧ i = .int .i64 j ∧ Hid (firstP (fun r => holdsB r col v) (l.drop j) j = R) ∧ Below w.heap.size w wr) (fun i _ => l.length - (intOf i).toNat)
  case atStart => exact ⟨0, by omega, rfl, HR, Below.refl _ _⟩
  case round =>
    obtain ⟨j, hj, rfl, hrest, hbw⟩ := hrel
    have hzw := hbw.size
    obtain ⟨W, rfl⟩ : ∃ W, W = wr := ⟨_, rfl⟩
    by_cases hlt : j < l.length
    · obtain ⟨b, off, r, A', c', rfl, hbB, hv, cr, hWr⟩ := (HQ.out.keep (old_keep hbw hzw)).at_ hlt
      have hrest' := hrest.out
      rw [dropL l j r hv] at hrest'
      simp only [firstP] at hrest'
      have HF1 := Lib.hid (find1_any r A' c' col v ga gk W (hWr.s (fun b h => h)) ((hbw.cell (p := ⟨ga, 0, none⟩) lga).trans HA.out) ⟨(hbw.cell (p := ⟨gk, 0, none⟩) lgk).trans HK.out.1, (hbw.cell (p := ⟨gk, 1, none⟩) lgk).trans HK.out.2.1, (hbw.cell (p := ⟨gk, 2, none⟩) lgk).trans HK.out.2.2⟩)
      have hf : holdsB r col v = false → firstP (fun r => holdsB r col v) (l.drop (j + 1)) (j + 1) = R := fun e => by simpa [e] using hrest'
      have ht : holdsB r col v = true → (j : Int) = R := fun e => by simpa [e] using hrest'
      obtain ⟨B, hB⟩ : ∃ B, holdsB r col v = B := ⟨_, rfl⟩
      have HFB := Lib.hid (fun e => hf (hB.trans e))
      have HTB := Lib.hid (fun e => ht (hB.trans e))
      rw [hB] at HF1
      have i1 : (0 : Int) ≤ (j : Int) := by omega
      have i2 : (j : Int) < (l.length : Int) := by omega
      clear hv hrest hrest' hf ht hB hWr
      cases B
      · have HN : Hid (firstP (fun r => holdsB r col v) (l.drop (j + 1)) (j + 1) = R) := HFB.out rfl
        go_wp2_with fail
        refine HF1.out.mono ?_
        rintro e w1 ⟨rfl, hb1⟩
        go_wp2_with fail
        go_roundw
        case rel => exact ⟨j + 1, by omega, by go_num, HN, hbw.trans (hb1.mono hzw)⟩
        case measure => simp [intOf]; omega
      · have HF : Hid ((j : Int) = R) := HTB.out rfl
        go_wp2_with fail
        refine HF1.out.mono ?_
        rintro e w1 ⟨rfl, hb1⟩
        go_wp2_with fail
        go_ret
        exact ⟨by rw [← HF.out]; rfl, hbw.trans (hb1.mono hzw)⟩
    · have HF : Hid (R = -1) := by
        show _ = _
        rw [← hrest.out, List.drop_of_length_le (by omega)]
        rfl
      have b0 : ¬ ((j : Int) < (l.length : Int)) := by omega
      clear hrest
      go_wp2_with fail
      go_ret
      exact ⟨by rw [HF.out]; rfl, hbw⟩
theorem run_fieldS (n : Int) (w : World) : (Instr.field 69 (.agg #[.int .i64 n]) 0).run Try.prog w = .ok (.int .i64 n) w := by kernel_rfl

/-- Where a key is. -/
def findF (x : Rl) (v : V) : Int := firstP (fun r => holdsB r (ofF x.t) v) x.rows 0
attribute [local go_sem ↓] run_fieldS
set_option maxHeartbeats 2000000 in
theorem find_any (x : Rl) (p : RlP) (v : V) (w : World) (hs : x.t.small) (hrl : x.rows.length ≤ 1000000) (hQ : RlQ 1000 x p (Old w.heap.size) w) :
    Calls Try.prog 16 #[.agg (x.cells p).toArray, .agg #[.int .i64 (v).k, .int .i64 (v).i, .string ⟨(v).s.toArray⟩]] w (Ret (.int .i64 (findF x v)) w) := by
  obtain ⟨⟨⟨a1, k1⟩, ⟨a2, k2⟩, ⟨a3, k3⟩, ⟨a4, k4⟩⟩, ⟨a5, k5⟩⟩ := p
  obtain ⟨hT, hR⟩ := hQ
  obtain ⟨w0, hw0⟩ : ∃ w0, (w.alloc (.cells (x.cells ⟨⟨⟨a1, k1⟩, ⟨a2, k2⟩, ⟨a3, k3⟩, ⟨a4, k4⟩⟩, ⟨a5, k5⟩⟩).toArray 34)).alloc (.cells #[.int .i64 (v).k, .int .i64 (v).i, .string ⟨(v).s.toArray⟩] 26) = w0 := ⟨_, rfl⟩
  have kx : Blk w0 w.heap.size 34 (x.cells ⟨⟨⟨a1, k1⟩, ⟨a2, k2⟩, ⟨a3, k3⟩, ⟨a4, k4⟩⟩, ⟨a5, k5⟩⟩).toArray := by rw [← hw0]; exact (Blk.new _ _ _).alloc _
  have kv : Blk w0 (w.heap.size + 1) 26 #[.int .i64 (v).k, .int .i64 (v).i, .string ⟨(v).s.toArray⟩] := by rw [← hw0]; exact Blk.new' _ _ _ _ (by simp)
  have hb0 : Below w.heap.size w w0 := by rw [← hw0]; ((repeat' (first | with_reducible exact Below.refl _ _ | with_reducible assumption | with_reducible refine Below.drew ?_ | with_reducible refine below_drewN ?_ _ | with_reducible refine Below.setCell ?_ ?_ _ | with_reducible refine Below.alloc ?_ ?_ _ | with_reducible refine Below.trans ?_ (Below.mono (by assumption) ?_))) <;> (first | (simp; done) | (simp; omega) | omega))
  have hof := of_any x.t ⟨⟨a1, k1⟩, ⟨a2, k2⟩, ⟨a3, k3⟩, ⟨a4, k4⟩⟩ w0 hs (hT.keep (old_keep hb0 hb0.size))
  obtain ⟨O, hO⟩ : ∃ O, ofF x.t = O := ⟨_, rfl⟩
  obtain ⟨R, hRR⟩ : ∃ R, findF x v = R := ⟨_, rfl⟩
  rw [hRR]
  unfold findF at hRR
  rw [hO] at hof hRR
  have HOF := Lib.hid hof
  dsimp only [Tb.cells] at HOF
  have HRQ := Lib.hid hR
  have HRR := Lib.hid hRR
  have x0 : w0.cell? ⟨w.heap.size, 0, none⟩ = some (.string ⟨x.t.n.toArray⟩) := kx.cell 0
  have x1 : w0.cell? ⟨w.heap.size, 1, none⟩ = some (.slice a1 x.t.cols.length k1) := kx.cell 1
  have x2 : w0.cell? ⟨w.heap.size, 2, none⟩ = some (.int .i64 x.t.key) := kx.cell 2
  have x3 : w0.cell? ⟨w.heap.size, 3, none⟩ = some (.slice a2 x.t.uniq.length k2) := kx.cell 3
  have x4 : w0.cell? ⟨w.heap.size, 4, none⟩ = some (.slice a3 x.t.refs.length k3) := kx.cell 4
  have x5 : w0.cell? ⟨w.heap.size, 5, none⟩ = some (.string ⟨x.t.chk.op.toArray⟩) := kx.cell 5
  have x6 : w0.cell? ⟨w.heap.size, 6, none⟩ = some (.int .i64 x.t.chk.v.k) := kx.cell 6
  have x7 : w0.cell? ⟨w.heap.size, 7, none⟩ = some (.int .i64 x.t.chk.v.i) := kx.cell 7
  have x8 : w0.cell? ⟨w.heap.size, 8, none⟩ = some (.string ⟨x.t.chk.v.s.toArray⟩) := kx.cell 8
  have x9 : w0.cell? ⟨w.heap.size, 9, none⟩ = some (.string ⟨x.t.chk.s.toArray⟩) := kx.cell 9
  have x10 : w0.cell? ⟨w.heap.size, 10, none⟩ = some (.slice a4 x.t.chk.l.length k4) := kx.cell 10
  have x11 : w0.cell? ⟨w.heap.size, 11, none⟩ = some (.slice a5 x.rows.length k5) := kx.cell 11
  have HW := Lib.hid hw0
  clear hw0 hof hO hT hR hRR
  go_enter Try.func16, Try.ntmps16
  go_upto_region 1 with fail
  rw [HW.out]
  go_wp2_with fail
  refine HOF.out.mono ?_
  rintro en w1 ⟨rfl, hb1⟩
  have hbw1 := hb0.trans (hb1.mono hb0.size)
  obtain ⟨w2, hw2⟩ : ∃ w2, w1.alloc (.cells #[.int .i64 O] 3) = w2 := ⟨_, rfl⟩
  have ka : Blk w2 w1.heap.size 3 #[.int .i64 O] := by rw [← hw2]; exact Blk.new _ _ _
  have hb2 : Below w1.heap.size w1 w2 := by rw [← hw2]; ((repeat' (first | with_reducible exact Below.refl _ _ | with_reducible assumption | with_reducible refine Below.drew ?_ | with_reducible refine below_drewN ?_ _ | with_reducible refine Below.setCell ?_ ?_ _ | with_reducible refine Below.alloc ?_ ?_ _ | with_reducible refine Below.trans ?_ (Below.mono (by assumption) ?_))) <;> (first | (simp; done) | (simp; omega) | omega))
  have hbw2 := hbw1.trans (hb2.mono hbw1.size)
  have kv2 := (kv.below hb1 kv.lt).below hb2 (kv.below hb1 kv.lt).lt
  have kx2 := (kx.below hb1 kx.lt).below hb2 (kx.below hb1 kx.lt).lt
  have x11' : w2.cell? ⟨w.heap.size, 11, none⟩ = some (.slice a5 x.rows.length k5) := kx2.cell 11
  have hix := indexFuncR_any a5 k5 x.rows O v w1.heap.size (w.heap.size + 1) w2 hrl (HRQ.out.keep (old_keep hbw2 hbw2.size)) (ka.cell 0) kv2.three.1
  rw [HRR.out] at hix
  have HIX := Lib.hid hix
  have HW2 := Lib.hid hw2
  clear hix hw2 x0 x1 x2 x3 x4 x5 x6 x7 x8 x9 x10 x11
  go_upto_region 2 with fail
  rw [HW2.out]
  go_wp2_with fail
  refine HIX.out.mono ?_
  rintro en w3 ⟨rfl, hb3⟩
  go_wp2_with fail
  go_ret
  exact ⟨rfl, hbw2.trans (hb3.mono hbw2.size)⟩

end Go.Proofs.Ytdhjogmkhbpcgaa
