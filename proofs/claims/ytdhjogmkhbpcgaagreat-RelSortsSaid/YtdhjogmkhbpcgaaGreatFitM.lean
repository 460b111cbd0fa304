/- rel.of, holds, Find as plain functions. Condition: a table with rows that reads as one, of the sizes that are looked at. schema.Fits as a plain function. Condition: a table and a row that read as ones, of the sizes that are looked at. -/
import Derived.Test.YtdhjogmkhbpcgaaGreatSchM
import Derived.Deep.RegionHeld3
import Derived.Laws.EntriesVeiled
import Derived.Test.YtdhjogmkhbpcgaaGreatExpr5M
namespace Go.Proofs.YtdhjogmkhbpcgaaGreat
open Go.RowKit

attribute [local go_sem] ByteArray.extract_mk ba_get ba_append
attribute [local go_sem ↓] Go.wp_at_zero Go.wp_at_succ run_eql_V run_neq_V

/-- The place of a table's key; -1, if it may not be. -/
def ofF (t : Tb) : Int := if mayTb t then t.key else -1
set_option maxHeartbeats 1000000 in
theorem of_any (t : Tb) (p : TbP) (w : World) (hs : t.small) (hQ : TbQ 1000 t p (Old w.heap.size) w) : Calls Tryz.prog 36 #[.agg (t.cells p).toArray] w (Ret (.agg #[.int .i64 (ofF t)]) w) := by
  obtain ⟨⟨a1, k1⟩, ⟨a2, k2⟩, ⟨a3, k3⟩, ⟨a4, k4⟩⟩ := p
  obtain ⟨w0, hw0⟩ : ∃ w0, (w.alloc (.cells (t.cells ⟨⟨a1, k1⟩, ⟨a2, k2⟩, ⟨a3, k3⟩, ⟨a4, k4⟩⟩).toArray 31)).alloc (.cells #[.int .i64 0] 71) = w0 := ⟨_, rfl⟩
  have kt : Blk w0 w.heap.size 31 (t.cells ⟨⟨a1, k1⟩, ⟨a2, k2⟩, ⟨a3, k3⟩, ⟨a4, k4⟩⟩).toArray := by rw [← hw0]; exact (Blk.new _ _ _).alloc _
  have kr : Blk w0 (w.heap.size + 1) 71 #[.int .i64 0] := by rw [← hw0]; exact Blk.new' _ _ _ _ (by simp)
  have hb0 : Below w.heap.size w w0 := by rw [← hw0]; exact bl
  have hm := mayTb_any t ⟨⟨a1, k1⟩, ⟨a2, k2⟩, ⟨a3, k3⟩, ⟨a4, k4⟩⟩ w0 hs (hQ.keep (old_keep hb0 hb0.size))
  obtain ⟨M, hM⟩ : ∃ M, mayTb t = M := ⟨_, rfl⟩
  obtain ⟨R, hR⟩ : ∃ R, ofF t = R := ⟨_, rfl⟩
  rw [hR]
  unfold ofF at hR
  rw [hM] at hm hR
  have HM := Lib.hid hm
  have HW := Lib.hid hw0
  have HR := Lib.hid hR
  dsimp only [Tb.cells] at HM
  have x0 := kt.cell 0
  have x1 := kt.cell 1
  have x2 := kt.cell 2
  have x3 := kt.cell 3
  have x4 := kt.cell 4
  have x5 := kt.cell 5
  have x6 := kt.cell 6
  have x7 := kt.cell 7
  have x8 := kt.cell 8
  have x9 := kt.cell 9
  have x10 := kt.cell 10
  simp [Tb.cells] at x0 x1 x2 x3 x4 x5 x6 x7 x8 x9 x10
  clear hm hw0 hR hM
  go_enter Tryz.func36, Tryz.ntmps36
  go_upto_region 1 with fail
  rw [HW.out]
  dsimp only [Tb.cells]
  go_wp2_with fail
  refine HM.out.mono ?_
  rintro en w1 ⟨rfl, hb1⟩
  have kr1 := kr.below hb1 kr.lt
  have lr1 := kr1.lt
  have r0 : w1.cell? ⟨w.heap.size + 1, 0, none⟩ = some (.int .i64 0) := kr1.cell 0
  have f0 := kr1.frozen 0
  have x2' : w1.cell? ⟨w.heap.size, 2, none⟩ = some (.int .i64 t.key) := (kt.below hb1 kt.lt).cell 2
  have hbw := hb0.trans (hb1.mono hb0.size)
  cases M
  · have HF : Hid (R = -1) := HR.out.symm
    go_wp2_with fail
    refine bodyPost_ret (v := .agg #[.int .i64 R]) (by rw [HF.out]; simp [results, Tryz.results36, go_sem, *]) rfl ⟨rfl, ?_⟩
    exact bl
  · have HF : Hid (R = t.key) := HR.out.symm
    go_wp2_with fail
    refine bodyPost_ret (v := .agg #[.int .i64 R]) (by rw [HF.out]; simp [results, Tryz.results36, go_sem, *]) rfl ⟨rfl, ?_⟩
    exact bl

def holdsB (r : List V) (col : Int) (v : V) : Bool := decide (0 ≤ col) && (decide (col < r.length) && veq (r.getD col.toNat V.zero) v)
set_option maxHeartbeats 1000000 in
theorem holds_any (r : List V) (A : Option Addr) (c : Nat) (col : Int) (v : V) (w : World) (h : VS w w.heap.size A r) :
    Calls Tryz.prog 55 #[.slice A r.length c, .int .i64 col, .agg #[.int .i64 (v).k, .int .i64 (v).i, .string ⟨(v).s.toArray⟩]] w (Ret (.bool (holdsB r col v)) w) := by
  obtain ⟨w0, hw0⟩ : ∃ w0, w.alloc (.cells #[.int .i64 (v).k, .int .i64 (v).i, .string ⟨(v).s.toArray⟩] 26) = w0 := ⟨_, rfl⟩
  have kv : Blk w0 w.heap.size 26 #[.int .i64 (v).k, .int .i64 (v).i, .string ⟨(v).s.toArray⟩] := by rw [← hw0]; exact Blk.new _ _ _
  have hb0 : Below w.heap.size w w0 := by rw [← hw0]; exact bl
  have h0 := (h.below hb0).more hb0.size
  obtain ⟨⟨v0, v1, v2⟩, _⟩ := kv.three
  have HW := Lib.hid hw0
  obtain ⟨R, hR⟩ : ∃ R, holdsB r col v = R := ⟨_, rfl⟩
  rw [hR]
  unfold holdsB at hR
  clear hw0 h
  by_cases g1 : 0 ≤ col
  · by_cases g2 : col < r.length
    · obtain ⟨b, off, x, rfl, hbB, hv, d0, d1, d2⟩ := h0.at_ (j := col.toNat) (by omega)
      have hgd : r.getD col.toNat V.zero = x := by rw [List.getD_eq_getElem?_getD, hv]; rfl
      have HF : Hid (R = veq ⟨x.k, x.i, x.s⟩ ⟨v.k, v.i, v.s⟩) := by show _ = _; rw [← hR, hgd]; simp [g1, g2]
      clear hgd hR hv
      go_enter Tryz.func55, Tryz.ntmps55
      go_upto_region 1 with fail
      rw [HW.out]
      go_quiet (fail)
      go_wp2_with fail
      go_ret
      exact ⟨by rw [HF.out]; rfl, below_drewN hb0 _⟩
    · have HF : Hid (R = false) := by show _ = _; rw [← hR]; simp [g2]
      have e1 : decide (0 ≤ col) = true := by simpa using g1
      have e2 : decide (col < (r.length : Int)) = false := by simpa using g2
      clear hR
      go_enter Tryz.func55, Tryz.ntmps55
      go_upto_region 1 with fail
      rw [HW.out]
      go_quiet (fail)
      go_wp2_with fail
      go_ret
      exact ⟨by rw [HF.out]; rfl, below_drewN hb0 _⟩
  · have HF : Hid (R = false) := by show _ = _; rw [← hR]; simp [g1]
    have e1 : decide (0 ≤ col) = false := by simpa using g1
    clear hR
    go_enter Tryz.func55, Tryz.ntmps55
    go_upto_region 1 with fail
    rw [HW.out]
    go_quiet (fail)
    go_wp2_with fail
    go_ret
    exact ⟨by rw [HF.out]; rfl, below_drewN hb0 _⟩

set_option maxHeartbeats 1000000 in
theorem find1_any (r : List V) (A : Option Addr) (c : Nat) (col : Int) (v : V) (ga gk : Nat) (w : World) (h : VS w w.heap.size A r) (ha : w.cell? ⟨ga, 0, none⟩ = some (.int .i64 col)) (hk : w.cell? ⟨gk, 0, none⟩ = some (.int .i64 (v).k) ∧ w.cell? ⟨gk, 1, none⟩ = some (.int .i64 (v).i) ∧ w.cell? ⟨gk, 2, none⟩ = some (.string ⟨(v).s.toArray⟩)) :
    Calls Tryz.prog 54 #[.slice A r.length c, .pointer (some ⟨ga, 0, none⟩), .pointer (some ⟨gk, 0, none⟩)] w (Ret (.bool (holdsB r col v)) w) := by
  obtain ⟨v0, v1, v2⟩ := hk
  have HH := Lib.hid (holds_any r A c col v w h)
  obtain ⟨B, hB⟩ : ∃ B, holdsB r col v = B := ⟨_, rfl⟩
  rw [hB] at HH ⊢
  clear hB h
  go_enter Tryz.func54, Tryz.ntmps54
  go_wp2_with fail
  refine HH.out.mono ?_
  rintro en w1 ⟨rfl, hb1⟩
  go_wp2_with fail
  go_ret
  exact ⟨rfl, hb1⟩
theorem dropL {α : Type} (l : List α) (j : Nat) (v : α) (h : l[j]? = some v) : l.drop j = v :: l.drop (j + 1) := by
  obtain ⟨hj, rfl⟩ := List.getElem?_eq_some_iff.1 h
  exact List.drop_eq_getElem_cons hj
set_option maxHeartbeats 2000000 in
theorem indexFuncR_any (A : Option Addr) (c : Nat) (l : List (List V)) (col : Int) (v : V) (ga gk : Nat) (w : World) (hl : l.length ≤ 1000000) (h : RQ l A (Old w.heap.size) w) (ha : w.cell? ⟨ga, 0, none⟩ = some (.int .i64 col)) (hk : w.cell? ⟨gk, 0, none⟩ = some (.int .i64 (v).k) ∧ w.cell? ⟨gk, 1, none⟩ = some (.int .i64 (v).i) ∧ w.cell? ⟨gk, 2, none⟩ = some (.string ⟨(v).s.toArray⟩)) :
    Calls Tryz.prog 53 #[.slice A l.length c, .func (.func 54) #[] #[.pointer (some ⟨ga, 0, none⟩), .pointer (some ⟨gk, 0, none⟩)]] w (Ret (.int .i64 (firstP (fun r => holdsB r col v) l 0)) w) := by
  have lga : ga < w.heap.size := Blk_lt_of_cell ha
  have lgk : gk < w.heap.size := Blk_lt_of_cell hk.1
  obtain ⟨R, hR⟩ : ∃ R, firstP (fun r => holdsB r col v) l 0 = R := ⟨_, rfl⟩
  rw [hR]
  have HR : Hid (firstP (fun r => holdsB r col v) (l.drop 0) 0 = R) := hR
  have HA := Lib.hid ha
  have HK := Lib.hid hk
  have HQ := Lib.hid h
  clear hR ha hk h
  go_enter Tryz.func53, Tryz.ntmps53
  go_wp2
  go_loopw [8] (fun i wr => ∃ j : Nat, j ≤ l.length ∧ i = .int .i64 j ∧ Hid (firstP (fun r => holdsB r col v) (l.drop j) j = R) ∧ Below w.heap.size w wr) (fun i _ => l.length - (intOf i).toNat)
  case atStart => exact ⟨0, by omega, rfl, HR, Below.refl _ _⟩
  case round =>
    obtain ⟨j, hj, rfl, hrest, hbw⟩ := hrel
    have hzw := hbw.size
    obtain ⟨W, rfl⟩ : ∃ W, W = wr := ⟨_, rfl⟩
    by_cases hlt : j < l.length
    · obtain ⟨b, off, r, A', c', rfl, hbB, hv, cr, hWr⟩ := (HQ.out.keep (old_keep hbw hzw)).at_ hlt
      have hrest' := hrest.out
      rw [dropL l j r hv] at hrest'
      simp only [firstP] at hrest'
      have HF1 := Lib.hid (find1_any r A' c' col v ga gk W (hWr.s (fun b h => h)) ((hbw.cell (p := ⟨ga, 0, none⟩) lga).trans HA.out) ⟨(hbw.cell (p := ⟨gk, 0, none⟩) lgk).trans HK.out.1, (hbw.cell (p := ⟨gk, 1, none⟩) lgk).trans HK.out.2.1, (hbw.cell (p := ⟨gk, 2, none⟩) lgk).trans HK.out.2.2⟩)
      have hf : holdsB r col v = false → firstP (fun r => holdsB r col v) (l.drop (j + 1)) (j + 1) = R := fun e => by simpa [e] using hrest'
      have ht : holdsB r col v = true → (j : Int) = R := fun e => by simpa [e] using hrest'
      obtain ⟨B, hB⟩ : ∃ B, holdsB r col v = B := ⟨_, rfl⟩
      have HFB := Lib.hid (fun e => hf (hB.trans e))
      have HTB := Lib.hid (fun e => ht (hB.trans e))
      rw [hB] at HF1
      have i1 : (0 : Int) ≤ (j : Int) := by omega
      have i2 : (j : Int) < (l.length : Int) := by omega
      clear hv hrest hrest' hf ht hB hWr
      cases B
      · have HN : Hid (firstP (fun r => holdsB r col v) (l.drop (j + 1)) (j + 1) = R) := HFB.out rfl
        go_wp2_with fail
        refine HF1.out.mono ?_
        rintro e w1 ⟨rfl, hb1⟩
        go_wp2_with fail
        go_roundw
        case rel => exact ⟨j + 1, by omega, by go_num, HN, hbw.trans (hb1.mono hzw)⟩
        case measure => simp [intOf]; omega
      · have HF : Hid ((j : Int) = R) := HTB.out rfl
        go_wp2_with fail
        refine HF1.out.mono ?_
        rintro e w1 ⟨rfl, hb1⟩
        go_wp2_with fail
        go_ret
        exact ⟨by rw [← HF.out]; rfl, hbw.trans (hb1.mono hzw)⟩
    · have HF : Hid (R = -1) := by
        show _ = _
        rw [← hrest.out, List.drop_of_length_le (by omega)]
        rfl
      have b0 : ¬ ((j : Int) < (l.length : Int)) := by omega
      clear hrest
      go_wp2_with fail
      go_ret
      exact ⟨by rw [HF.out]; rfl, hbw⟩
theorem run_fieldS (n : Int) (w : World) : (Instr.field 71 (.agg #[.int .i64 n]) 0).run Tryz.prog w = .ok (.int .i64 n) w := by kernel_rfl

/-- Where a key is. -/
def findF (x : Rl) (v : V) : Int := firstP (fun r => holdsB r (ofF x.t) v) x.rows 0
attribute [local go_sem ↓] run_fieldS
set_option maxHeartbeats 2000000 in
theorem find_any (x : Rl) (p : RlP) (v : V) (w : World) (hs : x.t.small) (hrl : x.rows.length ≤ 1000000) (hQ : RlQ 1000 x p (Old w.heap.size) w) :
    Calls Tryz.prog 30 #[.agg (x.cells p).toArray, .agg #[.int .i64 (v).k, .int .i64 (v).i, .string ⟨(v).s.toArray⟩]] w (Ret (.int .i64 (findF x v)) w) := by
  obtain ⟨⟨⟨a1, k1⟩, ⟨a2, k2⟩, ⟨a3, k3⟩, ⟨a4, k4⟩⟩, ⟨a5, k5⟩⟩ := p
  obtain ⟨hT, hR⟩ := hQ
  obtain ⟨w0, hw0⟩ : ∃ w0, (w.alloc (.cells (x.cells ⟨⟨⟨a1, k1⟩, ⟨a2, k2⟩, ⟨a3, k3⟩, ⟨a4, k4⟩⟩, ⟨a5, k5⟩⟩).toArray 34)).alloc (.cells #[.int .i64 (v).k, .int .i64 (v).i, .string ⟨(v).s.toArray⟩] 26) = w0 := ⟨_, rfl⟩
  have kx : Blk w0 w.heap.size 34 (x.cells ⟨⟨⟨a1, k1⟩, ⟨a2, k2⟩, ⟨a3, k3⟩, ⟨a4, k4⟩⟩, ⟨a5, k5⟩⟩).toArray := by rw [← hw0]; exact (Blk.new _ _ _).alloc _
  have kv : Blk w0 (w.heap.size + 1) 26 #[.int .i64 (v).k, .int .i64 (v).i, .string ⟨(v).s.toArray⟩] := by rw [← hw0]; exact Blk.new' _ _ _ _ (by simp)
  have hb0 : Below w.heap.size w w0 := by rw [← hw0]; exact bl
  have hof := of_any x.t ⟨⟨a1, k1⟩, ⟨a2, k2⟩, ⟨a3, k3⟩, ⟨a4, k4⟩⟩ w0 hs (hT.keep (old_keep hb0 hb0.size))
  obtain ⟨O, hO⟩ : ∃ O, ofF x.t = O := ⟨_, rfl⟩
  obtain ⟨R, hRR⟩ : ∃ R, findF x v = R := ⟨_, rfl⟩
  rw [hRR]
  unfold findF at hRR
  rw [hO] at hof hRR
  have HOF := Lib.hid hof
  dsimp only [Tb.cells] at HOF
  have HRQ := Lib.hid hR
  have HRR := Lib.hid hRR
  have x0 : w0.cell? ⟨w.heap.size, 0, none⟩ = some (.string ⟨x.t.n.toArray⟩) := kx.cell 0
  have x1 : w0.cell? ⟨w.heap.size, 1, none⟩ = some (.slice a1 x.t.cols.length k1) := kx.cell 1
  have x2 : w0.cell? ⟨w.heap.size, 2, none⟩ = some (.int .i64 x.t.key) := kx.cell 2
  have x3 : w0.cell? ⟨w.heap.size, 3, none⟩ = some (.slice a2 x.t.uniq.length k2) := kx.cell 3
  have x4 : w0.cell? ⟨w.heap.size, 4, none⟩ = some (.slice a3 x.t.refs.length k3) := kx.cell 4
  have x5 : w0.cell? ⟨w.heap.size, 5, none⟩ = some (.string ⟨x.t.chk.op.toArray⟩) := kx.cell 5
  have x6 : w0.cell? ⟨w.heap.size, 6, none⟩ = some (.int .i64 x.t.chk.v.k) := kx.cell 6
  have x7 : w0.cell? ⟨w.heap.size, 7, none⟩ = some (.int .i64 x.t.chk.v.i) := kx.cell 7
  have x8 : w0.cell? ⟨w.heap.size, 8, none⟩ = some (.string ⟨x.t.chk.v.s.toArray⟩) := kx.cell 8
  have x9 : w0.cell? ⟨w.heap.size, 9, none⟩ = some (.string ⟨x.t.chk.s.toArray⟩) := kx.cell 9
  have x10 : w0.cell? ⟨w.heap.size, 10, none⟩ = some (.slice a4 x.t.chk.l.length k4) := kx.cell 10
  have x11 : w0.cell? ⟨w.heap.size, 11, none⟩ = some (.slice a5 x.rows.length k5) := kx.cell 11
  have HW := Lib.hid hw0
  clear hw0 hof hO hT hR hRR
  go_enter Tryz.func30, Tryz.ntmps30
  go_upto_region 1 with fail
  rw [HW.out]
  go_wp2_with fail
  refine HOF.out.mono ?_
  rintro en w1 ⟨rfl, hb1⟩
  have hbw1 := hb0.trans (hb1.mono hb0.size)
  obtain ⟨w2, hw2⟩ : ∃ w2, w1.alloc (.cells #[.int .i64 O] 3) = w2 := ⟨_, rfl⟩
  have ka : Blk w2 w1.heap.size 3 #[.int .i64 O] := by rw [← hw2]; exact Blk.new _ _ _
  have hb2 : Below w1.heap.size w1 w2 := by rw [← hw2]; exact bl
  have hbw2 := hbw1.trans (hb2.mono hbw1.size)
  have kv2 := (kv.below hb1 kv.lt).below hb2 (kv.below hb1 kv.lt).lt
  have kx2 := (kx.below hb1 kx.lt).below hb2 (kx.below hb1 kx.lt).lt
  have x11' : w2.cell? ⟨w.heap.size, 11, none⟩ = some (.slice a5 x.rows.length k5) := kx2.cell 11
  have hix := indexFuncR_any a5 k5 x.rows O v w1.heap.size (w.heap.size + 1) w2 hrl (HRQ.out.keep (old_keep hbw2 hbw2.size)) (ka.cell 0) kv2.three.1
  rw [HRR.out] at hix
  have HIX := Lib.hid hix
  have HW2 := Lib.hid hw2
  clear hix hw2 x0 x1 x2 x3 x4 x5 x6 x7 x8 x9 x10 x11
  go_upto_region 2 with fail
  rw [HW2.out]
  go_wp2_with fail
  refine HIX.out.mono ?_
  rintro en w3 ⟨rfl, hb3⟩
  go_wp2_with fail
  go_ret
  exact ⟨rfl, hbw2.trans (hb3.mono hbw2.size)⟩

end Go.Proofs.YtdhjogmkhbpcgaaGreat

namespace Go.Proofs.YtdhjogmkhbpcgaaGreat
open Go.RowKit

attribute [local go_sem] ByteArray.extract_mk ba_get ba_append
attribute [local go_sem ↓] Go.wp_at_zero Go.wp_at_succ run_eql_V run_neq_V

/-- What is wrong with a value in a column: the error's number. -/
def fitV (c : Col) (v : V) : Int := if v.k = 0 ∧ c.b = true then 8 else if ¬ v.k = 0 ∧ ¬ v.k = c.t then 5 else 0
def fitsFrom (cols : List Col) : List V → Nat → Int
  | [], _ => 0
  | v :: r, i => if fitV (cols.getD i ⟨[], 0, false⟩) v = 0 then fitsFrom cols r (i + 1) else fitV (cols.getD i ⟨[], 0, false⟩) v
def V.mayB (v : V) : Bool := Go.Proofs.YtdhjogmkhbpcgaaGreat.mayB v.k v.i v.s
def orI (x y : Int) : Int := if x = 0 then y else x
/-- What is wrong with a row: the error's number. -/
def fitsX (t : Tb) (row : List V) : Int :=
  if ¬ (mayTb t = true ∧ row.length = t.cols.length) then 1
  else if ¬ (row.all V.mayB = true) then 1
  else if ¬ fitsFrom t.cols row 0 = 0 then fitsFrom t.cols row 0
  else if veq (evalX t.cols row t.chk) ⟨3, 0, []⟩ = true then 9 else 0

theorem dropVr (l : List V) (j : Nat) (v : V) (h : l[j]? = some v) : l.drop j = v :: l.drop (j + 1) := by
  obtain ⟨hj, rfl⟩ := List.getElem?_eq_some_iff.1 h
  exact List.drop_eq_getElem_cons hj
set_option maxRecDepth 100000 in
set_option maxHeartbeats 8000000 in
theorem fits_any (t : Tb) (p : TbP) (row : List V) (A : Option Addr) (c : Nat) (w : World) (hs : t.small) (hQ : TbQ 1000 t p (Old w.heap.size) w) (hrw : row.length ≤ 1000) (hri : ∀ v ∈ row, fitI v.i) (hV : WQ row A (Old w.heap.size) w) :
    Calls Tryz.prog 57 #[.agg (t.cells p).toArray, .slice A row.length c] w (Ret (.int .i64 (fitsX t row)) w) := by
  have hs' := hs
  obtain ⟨_, hcl, _, _, _, _, hcf, hck⟩ := hs'
  obtain ⟨⟨a1, k1⟩, ⟨a2, k2⟩, ⟨a3, k3⟩, ⟨a4, k4⟩⟩ := p
  have hQ' := hQ
  obtain ⟨hC, _, _, n, hE⟩ := hQ'
  obtain ⟨w0, hw0⟩ : ∃ w0, w.alloc (.cells (t.cells ⟨⟨a1, k1⟩, ⟨a2, k2⟩, ⟨a3, k3⟩, ⟨a4, k4⟩⟩).toArray 31) = w0 := ⟨_, rfl⟩
  have kt0 : Blk w0 w.heap.size 31 (t.cells ⟨⟨a1, k1⟩, ⟨a2, k2⟩, ⟨a3, k3⟩, ⟨a4, k4⟩⟩).toArray := by rw [← hw0]; exact Blk.new _ _ _
  have hb0 : Below w.heap.size w w0 := by rw [← hw0]; exact bl
  have hz0 := hb0.size
  have lt0 := kt0.lt
  have HSH : Hid (∀ w' : World, Below w0.heap.size w0 w' → (w'.cell? ⟨w.heap.size, 0, none⟩ = some (.string ⟨t.n.toArray⟩) ∧ w'.cell? ⟨w.heap.size, 1, none⟩ = some (.slice a1 t.cols.length k1) ∧ w'.cell? ⟨w.heap.size, 2, none⟩ = some (.int .i64 t.key) ∧ w'.cell? ⟨w.heap.size, 3, none⟩ = some (.slice a2 t.uniq.length k2) ∧ w'.cell? ⟨w.heap.size, 4, none⟩ = some (.slice a3 t.refs.length k3) ∧ w'.cell? ⟨w.heap.size, 5, none⟩ = some (.string ⟨t.chk.op.toArray⟩) ∧ w'.cell? ⟨w.heap.size, 6, none⟩ = some (.int .i64 t.chk.v.k) ∧ w'.cell? ⟨w.heap.size, 7, none⟩ = some (.int .i64 t.chk.v.i) ∧ w'.cell? ⟨w.heap.size, 8, none⟩ = some (.string ⟨t.chk.v.s.toArray⟩) ∧ w'.cell? ⟨w.heap.size, 9, none⟩ = some (.string ⟨t.chk.s.toArray⟩) ∧ w'.cell? ⟨w.heap.size, 10, none⟩ = some (.slice a4 t.chk.l.length k4))) := fun w' h => by
    have k := kt0.below h lt0
    exact ⟨k.cell 0, k.cell 1, k.cell 2, k.cell 3, k.cell 4, k.cell 5, k.cell 6, k.cell 7, k.cell 8, k.cell 9, k.cell 10⟩
  have hwx : ∀ Y : World, Below w0.heap.size w0 Y → Below w.heap.size w Y := fun Y h => hb0.trans (h.mono hb0.size)
  have HC : Hid (∀ Y : World, Below w0.heap.size w0 Y → ColS Y Y.heap.size a1 t.cols) := fun Y h => (hC.keep (old_keep (hwx Y h) (hwx Y h).size)).s (fun b h => h)
  have HV : Hid (∀ Y : World, Below w0.heap.size w0 Y → VS Y Y.heap.size A row) := fun Y h => (hV.keep (old_keep (hwx Y h) (hwx Y h).size)).s (fun b h => h)
  have hev : ∀ Y : World, Below w0.heap.size w0 Y → Calls Tryz.prog 24 #[.agg (t.chk.cells a4 k4).toArray, .slice a1 t.cols.length k1, .slice A row.length c] Y (Ret (.agg #[.int .i64 (evalX t.cols row t.chk).k, .int .i64 (evalX t.cols row t.chk).i, .string ⟨(evalX t.cols row t.chk).s.toArray⟩]) Y) := fun Y h => by
    have hE' := (hE.keep (old_keep (hwx Y h) (hwx Y h).size) n).toS (B := Y.heap.size) (fun b h => h) n
    rw [← eval_X n t.cols row t.chk (ExS.hgt n hE')]
    exact evalX_any n t.chk a4 k4 a1 A k1 c t.cols row Y hcf hE' (by omega) (by omega) ((hC.keep (old_keep (hwx Y h) (hwx Y h).size)).s (fun b h => h)) ((hV.keep (old_keep (hwx Y h) (hwx Y h).size)).s (fun b h => h)) hri
  have hmy := mayTb_any t ⟨⟨a1, k1⟩, ⟨a2, k2⟩, ⟨a3, k3⟩, ⟨a4, k4⟩⟩ w0 hs (hQ.keep (old_keep hb0 hb0.size))
  obtain ⟨M, hM⟩ : ∃ M, mayTb t = M := ⟨_, rfl⟩
  obtain ⟨va, hva⟩ : ∃ v, evalX t.cols row t.chk = v := ⟨_, rfl⟩
  obtain ⟨R, hR⟩ : ∃ R, fitsX t row = R := ⟨_, rfl⟩
  rw [hR]
  unfold fitsX at hR
  rw [hM] at hmy hR
  rw [hva] at hev hR
  have HMY := Lib.hid hmy
  have HEV := Lib.hid hev
  have HR := Lib.hid hR
  have HW := Lib.hid hw0
  dsimp only [Tb.cells] at HMY
  dsimp only [Ex.cells] at HEV
  clear hw0 hC hE hQ hV hri hev hmy hM hva hR hwx hcf hs
  obtain ⟨x0, x1, x2, x3, x4, x5, x6, x7, x8, x9, x10⟩ := HSH.out w0 (Below.refl _ _)
  go_enter Tryz.func57, Tryz.ntmps57
  go_upto_region 1 with fail
  rw [HW.out]
  dsimp only [Tb.cells]
  clear HW
  cases M
  · have HF : Hid (R = 1) := by show _ = _; rw [← HR.out]; simp
    go_wp2_with fail
    refine HMY.out.mono ?_
    rintro en w1 ⟨rfl, hb1⟩
    go_wp2_with fail
    go_ret
    exact ⟨by rw [HF.out]; rfl, hb0.trans (hb1.mono hz0)⟩
  go_wp2_with fail
  refine HMY.out.mono ?_
  rintro en w1 ⟨rfl, hb1⟩
  clear HMY x0 x1 x2 x3 x4 x5 x6 x7 x8 x9 x10
  obtain ⟨x0, x1, x2, x3, x4, x5, x6, x7, x8, x9, x10⟩ := HSH.out w1 hb1
  by_cases hlen : row.length = t.cols.length
  case neg =>
    have HF : Hid (R = 1) := by show _ = _; rw [← HR.out]; simp [hlen]
    have e1 : ((row.length : Int) != (t.cols.length : Int)) = true := by rw [bne_iff_ne]; omega
    clear hlen
    go_wp2_with fail
    go_ret
    exact ⟨by rw [HF.out]; rfl, hb0.trans (hb1.mono hz0)⟩
  have e1 : ((row.length : Int) != (t.cols.length : Int)) = false := by rw [bne_eq_false_iff_eq]; omega
  have hle : row.length ≤ t.cols.length := by omega
  have HLEN := Lib.hid hlen
  obtain ⟨R1, hR1⟩ : ∃ r : Int, (if ¬ fitsFrom t.cols row 0 = 0 then fitsFrom t.cols row 0 else if veq va ⟨3, 0, []⟩ = true then 9 else 0) = r := ⟨_, rfl⟩
  have HR1 := Lib.hid hR1
  have HA0 : Hid (cond ((row.drop 0).all V.mayB) R1 1 = R) := by
    show _ = _
    rw [← HR.out, hR1, List.drop_zero]
    cases h : row.all V.mayB
    · simp [hlen]
    · simp [hlen]
  clear hlen hR1 HR
  go_wp2_with fail
  go_loopw [21] (fun i wr => ∃ j : Nat, j ≤ row.length ∧ i = .int .i64 j ∧ Hid (cond ((row.drop j).all V.mayB) R1 1 = R) ∧ Below w0.heap.size w0 wr) (fun i _ => row.length - (intOf i).toNat)
  case atStart => exact ⟨0, by omega, rfl, HA0, hb1⟩
  case round =>
    obtain ⟨j, hj, rfl, hrest, hbr⟩ := hrel
    clear x0 x1 x2 x3 x4 x5 x6 x7 x8 x9 x10
    obtain ⟨x0, x1, x2, x3, x4, x5, x6, x7, x8, x9, x10⟩ := HSH.out wr hbr
    obtain ⟨W, rfl⟩ : ∃ W, W = wr := ⟨_, rfl⟩
    have hzr := hbr.size
    have hbwr := hb0.trans (hbr.mono hz0)
    by_cases hlt : j < row.length
    · obtain ⟨b, off, v, rfl, hbB, hv, c0, c1, c2⟩ := (HV.out W hbr).at_ hlt
      have hrest' := hrest.out
      rw [dropVr row j v hv] at hrest'
      simp only [List.all_cons] at hrest'
      have i3 : (0 : Int) ≤ (j : Int) := by omega
      have i4 : (j : Int) < (row.length : Int) := by omega
      obtain ⟨B, hB⟩ : ∃ B, mayB v.k v.i v.s = B := ⟨_, rfl⟩
      have hB' : V.mayB v = B := hB
      rw [hB'] at hrest'
      have HMV : Hid (∀ Z : World, Calls Tryz.prog 97 #[.agg #[.int .i64 (v).k, .int .i64 (v).i, .string ⟨(v).s.toArray⟩]] Z (Ret (.bool B) Z)) := fun Z => by have := may_any v.k v.i v.s Z; rw [hB] at this; exact this
      have HVV := Lib.hid hrest'
      clear hrest hrest' hv hB hB'
      cases B
      · have HF : Hid (R = 1) := by show _ = _; rw [← HVV.out]; simp
        go_wp2_with fail
        refine (HMV.out _).mono ?_
        rintro en w7 ⟨rfl, hb7⟩
        go_wp2_with fail
        go_ret
        refine ⟨by rw [HF.out]; rfl, ?_⟩
        have hz7 := hb7.size
        exact bl
      · have HN2 : Hid (cond ((row.drop (j + 1)).all V.mayB) R1 1 = R) := by show _ = _; rw [← HVV.out]; simp
        go_wp2_with fail
        refine (HMV.out _).mono ?_
        rintro en w7 ⟨rfl, hb7⟩
        have hz7 := hb7.size
        go_wp2_with fail
        go_roundw
        case rel => exact ⟨j + 1, by omega, by go_num, HN2, by exact bl⟩
        case measure => simp [intOf]; omega
    · obtain rfl : j = row.length := by omega
      have HRR : Hid (R1 = R) := by show _ = _; rw [← hrest.out, List.drop_of_length_le (Nat.le_refl _)]; simp
      have b0 : ¬ ((row.length : Int) < (row.length : Int)) := by omega
      clear hrest
      obtain ⟨R2, hR2⟩ : ∃ r : Int, (if veq va ⟨3, 0, []⟩ = true then 9 else 0) = r := ⟨_, rfl⟩
      have HR2 := Lib.hid hR2
      have HB0 : Hid (orI (fitsFrom t.cols (row.drop 0) 0) R2 = R) := by
        show _ = _
        rw [← HRR.out, ← HR1.out, hR2, List.drop_zero]
        unfold orI
        by_cases h : fitsFrom t.cols row 0 = 0
        · rw [if_pos h, if_neg (by simpa using h)]
        · rw [if_neg h, if_pos h]
      clear hR2 HRR HR1
      go_wp2_with fail
      go_loopw [31] (fun i wr => ∃ j : Nat, j ≤ row.length ∧ i = .int .i64 j ∧ Hid (orI (fitsFrom t.cols (row.drop j) j) R2 = R) ∧ Below w0.heap.size w0 wr) (fun i _ => row.length - (intOf i).toNat)
      case atStart => exact ⟨0, by omega, rfl, HB0, hbr⟩
      case round =>
        obtain ⟨j, hj, rfl, hrest, hbq⟩ := hrel
        clear x0 x1 x2 x3 x4 x5 x6 x7 x8 x9 x10
        obtain ⟨x0, x1, x2, x3, x4, x5, x6, x7, x8, x9, x10⟩ := HSH.out wr hbq
        obtain ⟨WQ1, rfl⟩ : ∃ W, W = wr := ⟨_, rfl⟩
        have hzq := hbq.size
        have hbwq := hb0.trans (hbq.mono hz0)
        by_cases hlt : j < row.length
        · obtain ⟨b, off, v, rfl, hbB, hv, c0, c1, c2⟩ := (HV.out WQ1 hbq).at_ hlt
          obtain ⟨b', off', cc, rfl, hbB', hv', d0, d1, d2⟩ := (HC.out WQ1 hbq).at_ (j := j) (by omega)
          have hrest' := hrest.out
          rw [dropVr row j v hv] at hrest'
          simp only [fitsFrom] at hrest'
          have hgd : t.cols.getD j ⟨[], 0, false⟩ = cc := by rw [List.getD_eq_getElem?_getD, hv']; rfl
          rw [hgd] at hrest'
          have hn : fitV cc v = 0 → orI (fitsFrom t.cols (row.drop (j + 1)) (j + 1)) R2 = R := fun h => by rw [if_pos h] at hrest'; exact hrest'
          have hx : ∀ k, fitV cc v = k → ¬ k = 0 → k = R := fun k h h0 => by rw [if_neg (by rw [h]; exact h0), h] at hrest'; unfold orI at hrest'; rw [if_neg h0] at hrest'; exact hrest'
          have HN := Lib.hid hn
          have HX := Lib.hid hx
          have i3 : (0 : Int) ≤ (j : Int) := by omega
          have i4 : (j : Int) < (row.length : Int) := by omega
          have i5 : (j : Int) < (t.cols.length : Int) := by omega
          clear hrest hrest' hv hv' hgd hn hx
          obtain ⟨vk, hvk⟩ : ∃ x, v.k = x := ⟨_, rfl⟩
          obtain ⟨ct, hct⟩ : ∃ x, cc.t = x := ⟨_, rfl⟩
          obtain ⟨cb, hcb⟩ : ∃ x, cc.b = x := ⟨_, rfl⟩
          rw [hvk] at c0
          rw [hct] at d1
          rw [hcb] at d2
          by_cases hk0 : vk = 0
          · subst hk0
            cases cb
            · have HN2 : Hid (orI (fitsFrom t.cols (row.drop (j + 1)) (j + 1)) R2 = R) := HN.out (by unfold fitV; simp [hvk, hcb])
              clear hvk hct hcb
              go_wp2_with fail
              go_quiet (fail)
              go_wp2_with fail
              go_roundw
              case rel => exact ⟨j + 1, by omega, by go_num, HN2, below_drewN hbq _⟩
              case measure => simp [intOf]; omega
            · have HF : Hid (8 = R) := HX.out 8 (by unfold fitV; simp [hvk, hcb]) (by decide)
              clear hvk hct hcb
              go_wp2_with fail
              go_ret
              exact ⟨by rw [← HF.out]; rfl, hbwq⟩
          · have e2 : (vk == 0) = false := by simpa using hk0
            have e3 : (vk != 0) = true := by simpa using hk0
            by_cases hkt : vk = ct
            · have e4 : (vk != ct) = false := by simpa using hkt
              have HN2 : Hid (orI (fitsFrom t.cols (row.drop (j + 1)) (j + 1)) R2 = R) := HN.out (by unfold fitV; rw [hvk, hct, if_neg (fun h => hk0 h.1), if_neg (fun h => h.2 hkt)])
              clear hvk hct hcb hk0 hkt
              go_wp2_with fail
              go_quiet (fail)
              go_wp2_with fail
              go_roundw
              case rel => exact ⟨j + 1, by omega, by go_num, HN2, below_drewN hbq _⟩
              case measure => simp [intOf]; omega
            · have e4 : (vk != ct) = true := by simpa using hkt
              have HF : Hid (5 = R) := HX.out 5 (by unfold fitV; rw [hvk, hct]; simp [hk0, hkt]) (by decide)
              clear hvk hct hcb hk0 hkt
              go_wp2_with fail
              go_quiet (fail)
              go_wp2_with fail
              go_ret
              exact ⟨by rw [← HF.out]; rfl, below_drewN hbwq _⟩
        · obtain rfl : j = row.length := by omega
          have HRR2 : Hid (R2 = R) := by show _ = _; rw [← hrest.out, List.drop_of_length_le (Nat.le_refl _)]; rfl
          have b1 : ¬ ((row.length : Int) < (row.length : Int)) := by omega
          clear hrest
          obtain ⟨q, hq⟩ : ∃ q, veq ⟨va.k, va.i, va.s⟩ ⟨3, 0, []⟩ = q := ⟨_, rfl⟩
          have hr2 := HR2.out
          rw [show veq va ⟨3, 0, []⟩ = q from hq] at hr2
          have HR3 := Lib.hid hr2
          have HQQ := Lib.hid hq
          clear hr2 hq HR2
          go_wp2_with fail
          refine (HEV.out WQ1 hbq).mono ?_
          rintro en w9 ⟨rfl, hb9⟩
          have hbw9 := hbwq.trans (hb9.mono hbwq.size)
          have q1 := HQQ.out
          cases q
          · have HF : Hid (0 = R) := by show _ = _; rw [← HRR2.out, ← HR3.out]; simp
            go_wp2_with fail
            go_ret
            exact ⟨by rw [← HF.out]; rfl, hbw9⟩
          · have HF : Hid (9 = R) := by show _ = _; rw [← HRR2.out, ← HR3.out]; simp
            go_wp2_with fail
            go_ret
            exact ⟨by rw [← HF.out]; rfl, hbw9⟩

end Go.Proofs.YtdhjogmkhbpcgaaGreat
