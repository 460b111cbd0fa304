/- The document's twice and key of rows. Condition: rows that reach the column. -/
import Derived.Test.YtdhjogmkhbpcgaaGreatR6M
import Derived.Test.YtdhjogmkhbpcgaaGreatMapVM
namespace Go.Proofs.YtdhjogmkhbpcgaaGreat
open Go.RowKit

attribute [local go_sem] ByteArray.extract_mk ba_get ba_append
attribute [local go_sem ↓] Go.wp_at_zero Go.wp_at_succ run_eql_V run_neq_V

/-- Two rows do not bear the same value, but NULL, in a column. -/
def apartV (col : Nat) (r r' : List V) : Prop := (atV col r).k = 0 ∨ veq (atV col r) (atV col r') = false
def apartTo (col : Nat) (rows : List (List V)) (i : Nat) (n : Nat) : Prop := ∀ k r r', k < n → rows[i]? = some r → rows[k]? = some r' → apartV col r r'
def apartAll (col : Nat) (rows : List (List V)) (n : Nat) : Prop := ∀ i, i < n → apartTo col rows i i
def RetApart (col : Nat) (rows : List (List V)) (w : World) (en : Ending) (w' : World) : Prop := ∃ b : Bool, en = .returned (.bool b) ∧ (b = false → apartAll col rows rows.length) ∧ Below w.heap.size w w'
set_option maxRecDepth 100000 in
set_option maxHeartbeats 4000000 in
theorem twice7_any (rows : List (List V)) (col : Nat) (A : Option Addr) (c : Nat) (w : World) (hrl : rows.length ≤ 1000000) (hcl : ∀ r ∈ rows, col < r.length) (hR : RQ rows A (Old w.heap.size) w) :
    Calls Tryz.prog 27 #[.slice A rows.length c, .int .i64 col] w (RetApart col rows w) := by
  have HRQ := Lib.hid hR
  have HCL := Lib.hid hcl
  clear hR hcl
  go_enter Tryz.func27, Tryz.ntmps27
  go_wp2_with fail
  go_loopw [5] (fun i wr => ∃ j : Nat, j ≤ rows.length ∧ i = .int .i64 j ∧ Hid (apartAll col rows j) ∧ Below w.heap.size w wr) (fun i _ => rows.length - (intOf i).toNat)
  case atStart => exact ⟨0, by omega, rfl, fun i h => absurd h (by omega), Below.refl _ _⟩
  case round =>
    obtain ⟨j, hj, rfl, HJ, hbr⟩ := hrel
    obtain ⟨W, rfl⟩ : ∃ W, W = wr := ⟨_, rfl⟩
    have hzr := hbr.size
    by_cases hlt : j < rows.length
    · have i1 : (0 : Int) ≤ (j : Int) := by omega
      have i2 : (j : Int) < (rows.length : Int) := by omega
      have hK0 : Hid (apartTo col rows j 0) := fun k r r' h => absurd h (by omega)
      obtain ⟨J, hJJ⟩ : ∃ J, J = j := ⟨_, rfl⟩
      go_wp2_with fail
      go_loopw [6] (fun i wr => ∃ k : Nat, k ≤ j ∧ i = .int .i64 k ∧ Hid (apartTo col rows j k) ∧ Below w.heap.size w wr) (fun i _ => j - (intOf i).toNat)
      case atStart => exact ⟨0, by omega, rfl, hK0, hbr⟩
      case round =>
        obtain ⟨k, hk, rfl, HK, hbq⟩ := hrel
        obtain ⟨Q, rfl⟩ : ∃ W, W = wr := ⟨_, rfl⟩
        have hzq := hbq.size
        by_cases hlk : k < j
        · have hRQ := HRQ.out.keep (old_keep hbq hzq)
          obtain ⟨b, off, r, A', c', rfl, hbB, hv, cr, hWr⟩ := hRQ.at_ hlt
          obtain ⟨b', off', r', A'', c'', e1, hbB', hv', cr', hWr'⟩ := hRQ.at_ (j := k) (by omega)
          cases e1
          have h1 := HCL.out r (List.mem_of_getElem? hv)
          have h1' := HCL.out r' (List.mem_of_getElem? hv')
          obtain ⟨g, o, v, rfl, hg, hvv, c0, c1, c2⟩ := (hWr.s (B := Q.heap.size) (fun b h => h)).at_ (j := col) h1
          obtain ⟨g', o', v', rfl, hg', hvv', d0, d1, d2⟩ := (hWr'.s (B := Q.heap.size) (fun b h => h)).at_ (j := col) h1'
          have e1 : atV col r = v := by unfold atV; rw [List.getD_eq_getElem?_getD, hvv]; rfl
          have e2 : atV col r' = v' := by unfold atV; rw [List.getD_eq_getElem?_getD, hvv']; rfl
          have hnext : apartV col r r' → apartTo col rows j (k + 1) := fun h m x x' hm hx hx' => by
            by_cases hmk : m = k
            · subst hmk
              rw [hv] at hx
              rw [hv'] at hx'
              cases hx
              cases hx'
              exact h
            · exact HK.out m x x' (by omega) hx hx'
          unfold apartV at hnext
          rw [e1, e2] at hnext
          have HNX := Lib.hid hnext
          obtain ⟨kb, hkb⟩ : ∃ b, (v.k != 0) = b := ⟨_, rfl⟩
          obtain ⟨vb, hvb⟩ : ∃ b, veq ⟨v.k, v.i, v.s⟩ ⟨v'.k, v'.i, v'.s⟩ = b := ⟨_, rfl⟩
          have i3 : (0 : Int) ≤ (k : Int) := by omega
          have i4 : (k : Int) < (rows.length : Int) := by omega
          have i5 : (k : Int) < (j : Int) := by omega
          have i6 : (0 : Int) ≤ (col : Int) := by omega
          have i7 : (col : Int) < (r.length : Int) := by omega
          have i8 : (col : Int) < (r'.length : Int) := by omega
          clear hnext hv hv' e1 e2 hvv hvv' hRQ hWr hWr' h1 h1' HK HJ
          cases kb
          · have HN : Hid (apartTo col rows j (k + 1)) := HNX.out (Or.inl (by simpa using hkb))
            go_wp2_with fail
            go_quiet (fail)
            go_wp2_with fail
            go_roundw
            case rel => exact ⟨k + 1, by omega, by go_num, HN, by exact bl⟩
            case measure => simp [intOf]; omega
          · cases vb
            · have HN : Hid (apartTo col rows j (k + 1)) := HNX.out (Or.inr hvb)
              go_wp2_with fail
              go_quiet (fail)
              go_wp2_with fail
              go_roundw
              case rel => exact ⟨k + 1, by omega, by go_num, HN, by exact bl⟩
              case measure => simp [intOf]; omega
            · go_wp2_with fail
              go_quiet (fail)
              go_wp2_with fail
              refine bodyPost_ret (v := .bool true) (by simp [results, Tryz.results27, go_sem, *]) rfl ⟨true, rfl, by simp, ?_⟩
              exact bl
        · obtain rfl : k = j := by omega
          have HN : Hid (apartAll col rows (k + 1)) := fun i h => by
            by_cases hik : i = k
            · subst hik; exact HK.out
            · exact HJ.out i (by omega)
          have b0 : ¬ ((k : Int) < (k : Int)) := by omega
          clear HK HJ
          go_wp2_with fail
          go_roundw
          case rel => exact ⟨k + 1, by omega, by go_num, HN, by exact bl⟩
          case measure => simp [intOf]; omega
    · obtain rfl : j = rows.length := by omega
      have b0 : ¬ ((rows.length : Int) < (rows.length : Int)) := by omega
      go_wp2_with fail
      refine bodyPost_ret (v := .bool false) (by simp [results, Tryz.results27, go_sem, *]) rfl ⟨false, rfl, fun _ => HJ.out, ?_⟩
      exact bl

/-- A row's key; NULL, if there is none. -/
def keyT (t : Tb) (r : List V) : V := if mayTb t = true ∧ t.key < r.length then atV t.key.toNat r else V.zero
theorem may_key {t : Tb} (h : mayTb t = true) : 0 ≤ t.key ∧ t.key < t.cols.length := by
  unfold mayTb lastB inB at h
  simp only [Bool.and_eq_true, decide_eq_true_eq] at h
  exact h.2.2.2.2.2.2.1
set_option maxRecDepth 100000 in
set_option maxHeartbeats 4000000 in
theorem key7_any (t : Tb) (p : TbP) (r : List V) (A : Option Addr) (c : Nat) (w : World) (hs : t.small) (hQ : TbQ 1000 t p (Old w.heap.size) w) (hV : WQ r A (Old w.heap.size) w) :
    Calls Tryz.prog 28 #[.agg (t.cells p).toArray, .slice A r.length c] w (Ret (.agg #[.int .i64 (keyT t r).k, .int .i64 (keyT t r).i, .string ⟨(keyT t r).s.toArray⟩]) w) := by
  obtain ⟨⟨a1, k1⟩, ⟨a2, k2⟩, ⟨a3, k3⟩, ⟨a4, k4⟩⟩ := p
  obtain ⟨w0, hw0⟩ : ∃ w0, (w.alloc (.cells #[.string ⟨t.n.toArray⟩, .slice a1 t.cols.length k1, .int .i64 t.key, .slice a2 t.uniq.length k2, .slice a3 t.refs.length k3, .string ⟨t.chk.op.toArray⟩, .int .i64 t.chk.v.k, .int .i64 t.chk.v.i, .string ⟨t.chk.v.s.toArray⟩, .string ⟨t.chk.s.toArray⟩, .slice a4 t.chk.l.length k4] 31)).alloc (.cells #[.int .i64 0, .int .i64 0, .string ⟨#[]⟩] 26) = w0 := ⟨_, rfl⟩
  have kt0 : Blk w0 w.heap.size 31 #[.string ⟨t.n.toArray⟩, .slice a1 t.cols.length k1, .int .i64 t.key, .slice a2 t.uniq.length k2, .slice a3 t.refs.length k3, .string ⟨t.chk.op.toArray⟩, .int .i64 t.chk.v.k, .int .i64 t.chk.v.i, .string ⟨t.chk.v.s.toArray⟩, .string ⟨t.chk.s.toArray⟩, .slice a4 t.chk.l.length k4] := by rw [← hw0]; exact (Blk.new _ _ _).alloc _
  have kr0 : Blk w0 (w.heap.size + 1) 26 #[.int .i64 0, .int .i64 0, .string ⟨#[]⟩] := by rw [← hw0]; exact Blk.new' _ _ _ _ (by simp)
  have hb0 : Below w.heap.size w w0 := by rw [← hw0]; exact bl
  have hz0 := hb0.size
  have hmy := may6_any t ⟨⟨a1, k1⟩, ⟨a2, k2⟩, ⟨a3, k3⟩, ⟨a4, k4⟩⟩ w0 hs (hQ.keep (old_keep hb0 hz0))
  have hmk := @may_key t
  obtain ⟨R, hR⟩ : ∃ R, keyT t r = R := ⟨_, rfl⟩
  rw [hR]
  unfold keyT at hR
  obtain ⟨M, hM⟩ : ∃ M, mayTb t = M := ⟨_, rfl⟩
  rw [hM] at hmy hR hmk
  have HMY := Lib.hid hmy
  dsimp only [Tb.cells] at HMY
  have HR := Lib.hid hR
  have HMK := Lib.hid hmk
  have HV : Hid (∀ Y : World, Below w0.heap.size w0 Y → VS Y Y.heap.size A r) := fun Y h => (hV.keep (old_keep (hb0.trans (h.mono hz0)) (hb0.trans (h.mono hz0)).size)).s (fun b h => h)
  have HW := Lib.hid hw0
  have x0 : w0.cell? ⟨w.heap.size, 0, none⟩ = some (.string ⟨t.n.toArray⟩) := kt0.cell 0
  have x1 : w0.cell? ⟨w.heap.size, 1, none⟩ = some (.slice a1 t.cols.length k1) := kt0.cell 1
  have x2 : w0.cell? ⟨w.heap.size, 2, none⟩ = some (.int .i64 t.key) := kt0.cell 2
  have x3 : w0.cell? ⟨w.heap.size, 3, none⟩ = some (.slice a2 t.uniq.length k2) := kt0.cell 3
  have x4 : w0.cell? ⟨w.heap.size, 4, none⟩ = some (.slice a3 t.refs.length k3) := kt0.cell 4
  have x5 : w0.cell? ⟨w.heap.size, 5, none⟩ = some (.string ⟨t.chk.op.toArray⟩) := kt0.cell 5
  have x6 : w0.cell? ⟨w.heap.size, 6, none⟩ = some (.int .i64 t.chk.v.k) := kt0.cell 6
  have x7 : w0.cell? ⟨w.heap.size, 7, none⟩ = some (.int .i64 t.chk.v.i) := kt0.cell 7
  have x8 : w0.cell? ⟨w.heap.size, 8, none⟩ = some (.string ⟨t.chk.v.s.toArray⟩) := kt0.cell 8
  have x9 : w0.cell? ⟨w.heap.size, 9, none⟩ = some (.string ⟨t.chk.s.toArray⟩) := kt0.cell 9
  have x10 : w0.cell? ⟨w.heap.size, 10, none⟩ = some (.slice a4 t.chk.l.length k4) := kt0.cell 10
  dsimp only [Tb.cells]
  clear hw0 hQ hV hmy hM hR hmk
  go_enter Tryz.func28, Tryz.ntmps28
  go_upto_region 1 with fail
  rw [HW.out]
  clear HW
  go_wp2_with fail
  refine HMY.out.mono ?_
  rintro en w1 ⟨rfl, hb1⟩
  have kr1 := kr0.below hb1 kr0.lt
  have kt1 := kt0.below hb1 kt0.lt
  have lr := kr1.lt
  have hbw : Below w.heap.size w w1 := hb0.trans (hb1.mono hz0)
  obtain ⟨⟨r0, r1, r2⟩, f0, f1, f2⟩ := kr1.three
  clear HMY x0 x1 x2 x3 x4 x5 x6 x7 x8 x9 x10 kt0 kr0
  have x2 : w1.cell? ⟨w.heap.size, 2, none⟩ = some (.int .i64 t.key) := kt1.cell 2
  cases M
  · have HF : Hid (R = V.zero) := by show _ = _; rw [← HR.out]; simp
    go_wp2_with fail
    refine bodyPost_ret (v := .agg #[.int .i64 (V.zero).k, .int .i64 (V.zero).i, .string ⟨(V.zero).s.toArray⟩]) (by simp [results, Tryz.results28, go_sem, V.zero, *]) rfl ⟨by rw [HF.out], ?_⟩
    exact bl
  · by_cases hlt : t.key < r.length
    · obtain ⟨h0, _⟩ := HMK.out rfl
      obtain ⟨kn, hkn⟩ : ∃ kn : Nat, t.key = (kn : Int) := ⟨t.key.toNat, by omega⟩
      have hr := HR.out
      rw [hkn] at x2 hlt hr
      obtain ⟨b, off, v, rfl, hbB, hv, c0, c1, c2⟩ := (HV.out w1 hb1).at_ (j := kn) (by omega)
      have HF : Hid (R = v) := by
        show _ = _
        rw [← hr, if_pos ⟨rfl, hlt⟩, Int.toNat_natCast]
        unfold atV
        rw [List.getD_eq_getElem?_getD, hv]
        rfl
      have i1 : (0 : Int) ≤ (kn : Int) := by omega
      clear hr HR hv hkn HMK h0
      go_wp2_with fail
      refine bodyPost_ret (v := .agg #[.int .i64 (v).k, .int .i64 (v).i, .string ⟨(v).s.toArray⟩]) (by simp [results, Tryz.results28, go_sem, *]) rfl ⟨by rw [HF.out], ?_⟩
      exact bl
    · have HF : Hid (R = V.zero) := by show _ = _; rw [← HR.out, if_neg (fun h => hlt h.2)]
      go_wp2_with fail
      refine bodyPost_ret (v := .agg #[.int .i64 (V.zero).k, .int .i64 (V.zero).i, .string ⟨(V.zero).s.toArray⟩]) (by simp [results, Tryz.results28, go_sem, V.zero, *]) rfl ⟨by rw [HF.out], ?_⟩
      exact bl

end Go.Proofs.YtdhjogmkhbpcgaaGreat
