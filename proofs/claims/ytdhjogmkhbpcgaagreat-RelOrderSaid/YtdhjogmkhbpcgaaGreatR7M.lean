/- The document's twice and key of rows. Condition: rows that reach the column. The document's Check of a table with rows. Condition: a table with rows that reads as one, of the sizes that are looked at. -/
import Derived.Test.YtdhjogmkhbpcgaaGreatTake
import Derived.Test.YtdhjogmkhbpcgaaGreatR6M
import Derived.Test.YtdhjogmkhbpcgaaGreatMapVM
import Derived.Test.YtdhjogmkhbpcgaaGreatR6c
import Derived.Test.YtdhjogmkhbpcgaaGreatRef1Order
namespace Go.Proofs.YtdhjogmkhbpcgaaGreat
open Go.RowKit

attribute [local go_sem] ByteArray.extract_mk ba_get ba_append
attribute [local go_sem ↓] Go.wp_at_zero Go.wp_at_succ run_eql_V run_neq_V

/-- Two rows do not bear the same value, but NULL, in a column. -/
def apartV (col : Nat) (r r' : List V) : Prop := (atV col r).k = 0 ∨ veq (atV col r) (atV col r') = false
def apartTo (col : Nat) (rows : List (List V)) (i : Nat) (n : Nat) : Prop := ∀ k r r', k < n → rows[i]? = some r → rows[k]? = some r' → apartV col r r'
def apartAll (col : Nat) (rows : List (List V)) (n : Nat) : Prop := ∀ i, i < n → apartTo col rows i i
def RetApart (col : Nat) (rows : List (List V)) (w : World) (en : Ending) (w' : World) : Prop := ∃ b : Bool, en = .returned (.bool b) ∧ (b = false → apartAll col rows rows.length) ∧ Below w.heap.size w w'
set_option maxRecDepth 100000 in
set_option maxHeartbeats 4000000 in
theorem twice7_any (rows : List (List V)) (col : Nat) (A : Option Addr) (c : Nat) (w : World) (hrl : rows.length ≤ 1000000) (hcl : ∀ r ∈ rows, col < r.length) (hR : RQ rows A (Old w.heap.size) w) :
    Calls Tryz.prog 27 #[.slice A rows.length c, .int .i64 col] w (RetApart col rows w) := by
  have HRQ := Lib.hid hR
  have HCL := Lib.hid hcl
  clear hR hcl
  go_enter Tryz.func27, Tryz.ntmps27
  go_wp2_with fail
  go_loopw [5] (fun i wr => ∃ j : Nat, j ≤ rows.length ∧ i = .int .i64 j ∧ Hid (apartAll col rows j) ∧ Below w.heap.size w wr) (fun i _ => rows.length - (intOf i).toNat)
  case atStart => exact ⟨0, by omega, rfl, fun i h => absurd h (by omega), Below.refl _ _⟩
  case round =>
    obtain ⟨j, hj, rfl, HJ, hbr⟩ := hrel
    obtain ⟨W, rfl⟩ : ∃ W, W = wr := ⟨_, rfl⟩
    have hzr := hbr.size
    by_cases hlt : j < rows.length
    · have i1 : (0 : Int) ≤ (j : Int) := by omega
      have i2 : (j : Int) < (rows.length : Int) := by omega
      have hK0 : Hid (apartTo col rows j 0) := fun k r r' h => absurd h (by omega)
      obtain ⟨J, hJJ⟩ : ∃ J, J = j := ⟨_, rfl⟩
      go_wp2_with fail
      go_loopw [6] (fun i wr => ∃ k : Nat, k ≤ j ∧ i = .int .i64 k ∧ Hid (apartTo col rows j k) ∧ Below w.heap.size w wr) (fun i _ => j - (intOf i).toNat)
      case atStart => exact ⟨0, by omega, rfl, hK0, hbr⟩
      case round =>
        obtain ⟨k, hk, rfl, HK, hbq⟩ := hrel
        obtain ⟨Q, rfl⟩ : ∃ W, W = wr := ⟨_, rfl⟩
        have hzq := hbq.size
        by_cases hlk : k < j
        · have hRQ := HRQ.out.keep (old_keep hbq hzq)
          obtain ⟨b, off, r, A', c', rfl, hbB, hv, cr, hWr⟩ := hRQ.at_ hlt
          obtain ⟨b', off', r', A'', c'', e1, hbB', hv', cr', hWr'⟩ := hRQ.at_ (j := k) (by omega)
          cases e1
          have h1 := HCL.out r (List.mem_of_getElem? hv)
          have h1' := HCL.out r' (List.mem_of_getElem? hv')
          obtain ⟨g, o, v, rfl, hg, hvv, c0, c1, c2⟩ := (hWr.s (B := Q.heap.size) (fun b h => h)).at_ (j := col) h1
          obtain ⟨g', o', v', rfl, hg', hvv', d0, d1, d2⟩ := (hWr'.s (B := Q.heap.size) (fun b h => h)).at_ (j := col) h1'
          have e1 : atV col r = v := by unfold atV; rw [List.getD_eq_getElem?_getD, hvv]; rfl
          have e2 : atV col r' = v' := by unfold atV; rw [List.getD_eq_getElem?_getD, hvv']; rfl
          have hnext : apartV col r r' → apartTo col rows j (k + 1) := fun h m x x' hm hx hx' => by
            by_cases hmk : m = k
            · subst hmk
              rw [hv] at hx
              rw [hv'] at hx'
              cases hx
              cases hx'
              exact h
            · exact HK.out m x x' (by omega) hx hx'
          unfold apartV at hnext
          rw [e1, e2] at hnext
          have HNX := Lib.hid hnext
          obtain ⟨kb, hkb⟩ : ∃ b, (v.k != 0) = b := ⟨_, rfl⟩
          obtain ⟨vb, hvb⟩ : ∃ b, veq ⟨v.k, v.i, v.s⟩ ⟨v'.k, v'.i, v'.s⟩ = b := ⟨_, rfl⟩
          have i3 : (0 : Int) ≤ (k : Int) := by omega
          have i4 : (k : Int) < (rows.length : Int) := by omega
          have i5 : (k : Int) < (j : Int) := by omega
          have i6 : (0 : Int) ≤ (col : Int) := by omega
          have i7 : (col : Int) < (r.length : Int) := by omega
          have i8 : (col : Int) < (r'.length : Int) := by omega
          clear hnext hv hv' e1 e2 hvv hvv' hRQ hWr hWr' h1 h1' HK HJ
          cases kb
          · have HN : Hid (apartTo col rows j (k + 1)) := HNX.out (Or.inl (by simpa using hkb))
            go_wp2_with fail
            go_quiet (fail)
            go_wp2_with fail
            go_roundw
            case rel => exact ⟨k + 1, by omega, by go_num, HN, by exact bl⟩
            case measure => simp [intOf]; omega
          · cases vb
            · have HN : Hid (apartTo col rows j (k + 1)) := HNX.out (Or.inr hvb)
              go_wp2_with fail
              go_quiet (fail)
              go_wp2_with fail
              go_roundw
              case rel => exact ⟨k + 1, by omega, by go_num, HN, by exact bl⟩
              case measure => simp [intOf]; omega
            · go_wp2_with fail
              go_quiet (fail)
              go_wp2_with fail
              refine bodyPost_ret (v := .bool true) (by simp [results, Tryz.results27, go_sem, *]) rfl ⟨true, rfl, by simp, ?_⟩
              exact bl
        · obtain rfl : k = j := by omega
          have HN : Hid (apartAll col rows (k + 1)) := fun i h => by
            by_cases hik : i = k
            · subst hik; exact HK.out
            · exact HJ.out i (by omega)
          have b0 : ¬ ((k : Int) < (k : Int)) := by omega
          clear HK HJ
          go_wp2_with fail
          go_roundw
          case rel => exact ⟨k + 1, by omega, by go_num, HN, by exact bl⟩
          case measure => simp [intOf]; omega
    · obtain rfl : j = rows.length := by omega
      have b0 : ¬ ((rows.length : Int) < (rows.length : Int)) := by omega
      go_wp2_with fail
      refine bodyPost_ret (v := .bool false) (by simp [results, Tryz.results27, go_sem, *]) rfl ⟨false, rfl, fun _ => HJ.out, ?_⟩
      exact bl

/-- A row's key; NULL, if there is none. -/
def keyT (t : Tb) (r : List V) : V := if mayTb t = true ∧ t.key < r.length then atV t.key.toNat r else V.zero
theorem may_key {t : Tb} (h : mayTb t = true) : 0 ≤ t.key ∧ t.key < t.cols.length := by
  unfold mayTb lastB inB at h
  simp only [Bool.and_eq_true, decide_eq_true_eq] at h
  exact h.2.2.2.2.2.2.1
set_option maxRecDepth 100000 in
set_option maxHeartbeats 4000000 in
theorem key7_any (t : Tb) (p : TbP) (r : List V) (A : Option Addr) (c : Nat) (w : World) (hs : t.small) (hQ : TbQ 1000 t p (Old w.heap.size) w) (hV : WQ r A (Old w.heap.size) w) :
    Calls Tryz.prog 28 #[.agg (t.cells p).toArray, .slice A r.length c] w (Ret (.agg #[.int .i64 (keyT t r).k, .int .i64 (keyT t r).i, .string ⟨(keyT t r).s.toArray⟩]) w) := by
  obtain ⟨⟨a1, k1⟩, ⟨a2, k2⟩, ⟨a3, k3⟩, ⟨a4, k4⟩⟩ := p
  obtain ⟨w0, hw0⟩ : ∃ w0, (w.alloc (.cells #[.string ⟨t.n.toArray⟩, .slice a1 t.cols.length k1, .int .i64 t.key, .slice a2 t.uniq.length k2, .slice a3 t.refs.length k3, .string ⟨t.chk.op.toArray⟩, .int .i64 t.chk.v.k, .int .i64 t.chk.v.i, .string ⟨t.chk.v.s.toArray⟩, .string ⟨t.chk.s.toArray⟩, .slice a4 t.chk.l.length k4] 31)).alloc (.cells #[.int .i64 0, .int .i64 0, .string ⟨#[]⟩] 26) = w0 := ⟨_, rfl⟩
  have kt0 : Blk w0 w.heap.size 31 #[.string ⟨t.n.toArray⟩, .slice a1 t.cols.length k1, .int .i64 t.key, .slice a2 t.uniq.length k2, .slice a3 t.refs.length k3, .string ⟨t.chk.op.toArray⟩, .int .i64 t.chk.v.k, .int .i64 t.chk.v.i, .string ⟨t.chk.v.s.toArray⟩, .string ⟨t.chk.s.toArray⟩, .slice a4 t.chk.l.length k4] := by rw [← hw0]; exact (Blk.new _ _ _).alloc _
  have kr0 : Blk w0 (w.heap.size + 1) 26 #[.int .i64 0, .int .i64 0, .string ⟨#[]⟩] := by rw [← hw0]; exact Blk.new' _ _ _ _ (by simp)
  have hb0 : Below w.heap.size w w0 := by rw [← hw0]; exact bl
  have hz0 := hb0.size
  have hmy := may6_any t ⟨⟨a1, k1⟩, ⟨a2, k2⟩, ⟨a3, k3⟩, ⟨a4, k4⟩⟩ w0 hs (hQ.keep (old_keep hb0 hz0))
  have hmk := @may_key t
  obtain ⟨R, hR⟩ : ∃ R, keyT t r = R := ⟨_, rfl⟩
  rw [hR]
  unfold keyT at hR
  obtain ⟨M, hM⟩ : ∃ M, mayTb t = M := ⟨_, rfl⟩
  rw [hM] at hmy hR hmk
  have HMY := Lib.hid hmy
  dsimp only [Tb.cells] at HMY
  have HR := Lib.hid hR
  have HMK := Lib.hid hmk
  have HV : Hid (∀ Y : World, Below w0.heap.size w0 Y → VS Y Y.heap.size A r) := fun Y h => (hV.keep (old_keep (hb0.trans (h.mono hz0)) (hb0.trans (h.mono hz0)).size)).s (fun b h => h)
  have HW := Lib.hid hw0
  have x0 : w0.cell? ⟨w.heap.size, 0, none⟩ = some (.string ⟨t.n.toArray⟩) := kt0.cell 0
  have x1 : w0.cell? ⟨w.heap.size, 1, none⟩ = some (.slice a1 t.cols.length k1) := kt0.cell 1
  have x2 : w0.cell? ⟨w.heap.size, 2, none⟩ = some (.int .i64 t.key) := kt0.cell 2
  have x3 : w0.cell? ⟨w.heap.size, 3, none⟩ = some (.slice a2 t.uniq.length k2) := kt0.cell 3
  have x4 : w0.cell? ⟨w.heap.size, 4, none⟩ = some (.slice a3 t.refs.length k3) := kt0.cell 4
  have x5 : w0.cell? ⟨w.heap.size, 5, none⟩ = some (.string ⟨t.chk.op.toArray⟩) := kt0.cell 5
  have x6 : w0.cell? ⟨w.heap.size, 6, none⟩ = some (.int .i64 t.chk.v.k) := kt0.cell 6
  have x7 : w0.cell? ⟨w.heap.size, 7, none⟩ = some (.int .i64 t.chk.v.i) := kt0.cell 7
  have x8 : w0.cell? ⟨w.heap.size, 8, none⟩ = some (.string ⟨t.chk.v.s.toArray⟩) := kt0.cell 8
  have x9 : w0.cell? ⟨w.heap.size, 9, none⟩ = some (.string ⟨t.chk.s.toArray⟩) := kt0.cell 9
  have x10 : w0.cell? ⟨w.heap.size, 10, none⟩ = some (.slice a4 t.chk.l.length k4) := kt0.cell 10
  dsimp only [Tb.cells]
  clear hw0 hQ hV hmy hM hR hmk
  go_enter Tryz.func28, Tryz.ntmps28
  go_upto_region 1 with fail
  rw [HW.out]
  clear HW
  go_wp2_with fail
  refine HMY.out.mono ?_
  rintro en w1 ⟨rfl, hb1⟩
  have kr1 := kr0.below hb1 kr0.lt
  have kt1 := kt0.below hb1 kt0.lt
  have lr := kr1.lt
  have hbw : Below w.heap.size w w1 := hb0.trans (hb1.mono hz0)
  obtain ⟨⟨r0, r1, r2⟩, f0, f1, f2⟩ := kr1.three
  clear HMY x0 x1 x2 x3 x4 x5 x6 x7 x8 x9 x10 kt0 kr0
  have x2 : w1.cell? ⟨w.heap.size, 2, none⟩ = some (.int .i64 t.key) := kt1.cell 2
  cases M
  · have HF : Hid (R = V.zero) := by show _ = _; rw [← HR.out]; simp
    go_wp2_with fail
    refine bodyPost_ret (v := .agg #[.int .i64 (V.zero).k, .int .i64 (V.zero).i, .string ⟨(V.zero).s.toArray⟩]) (by simp [results, Tryz.results28, go_sem, V.zero, *]) rfl ⟨by rw [HF.out], ?_⟩
    exact bl
  · by_cases hlt : t.key < r.length
    · obtain ⟨h0, _⟩ := HMK.out rfl
      obtain ⟨kn, hkn⟩ : ∃ kn : Nat, t.key = (kn : Int) := ⟨t.key.toNat, by omega⟩
      have hr := HR.out
      rw [hkn] at x2 hlt hr
      obtain ⟨b, off, v, rfl, hbB, hv, c0, c1, c2⟩ := (HV.out w1 hb1).at_ (j := kn) (by omega)
      have HF : Hid (R = v) := by
        show _ = _
        rw [← hr, if_pos ⟨rfl, hlt⟩, Int.toNat_natCast]
        unfold atV
        rw [List.getD_eq_getElem?_getD, hv]
        rfl
      have i1 : (0 : Int) ≤ (kn : Int) := by omega
      clear hr HR hv hkn HMK h0
      go_wp2_with fail
      refine bodyPost_ret (v := .agg #[.int .i64 (v).k, .int .i64 (v).i, .string ⟨(v).s.toArray⟩]) (by simp [results, Tryz.results28, go_sem, *]) rfl ⟨by rw [HF.out], ?_⟩
      exact bl
    · have HF : Hid (R = V.zero) := by show _ = _; rw [← HR.out, if_neg (fun h => hlt h.2)]
      go_wp2_with fail
      refine bodyPost_ret (v := .agg #[.int .i64 (V.zero).k, .int .i64 (V.zero).i, .string ⟨(V.zero).s.toArray⟩]) (by simp [results, Tryz.results28, go_sem, V.zero, *]) rfl ⟨by rw [HF.out], ?_⟩
      exact bl

end Go.Proofs.YtdhjogmkhbpcgaaGreat

namespace Go.Proofs.YtdhjogmkhbpcgaaGreat
open Go.RowKit

attribute [local go_sem] ByteArray.extract_mk ba_get ba_append
attribute [local go_sem ↓] Go.wp_at_zero Go.wp_at_succ run_eql_V run_neq_V

def ordR (a b : V) : Int := vord (goodV a.k a.i a.s) (goodV b.k b.i b.s)
/-- What a table with rows is of which the document's Check answers 0. -/
def chkOk (x : Rl) : Prop := mayTb x.t = true ∧ x.rows.length ≤ 200 ∧ (∀ r ∈ x.rows, fitsX x.t r = 0) ∧ apartAll x.t.key.toNat x.rows x.rows.length ∧ ∀ i r r', x.rows[i]? = some r → x.rows[i + 1]? = some r' → ordR (keyT x.t r) (keyT x.t r') ≤ 0
def RetChk (x : Rl) (w : World) (en : Ending) (w' : World) : Prop := ∃ n : Int, en = .returned (.int .i64 n) ∧ (n = 0 → chkOk x) ∧ Below w.heap.size w w'
theorem fits_len {t : Tb} {r : List V} (h : fitsX t r = 0) : r.length = t.cols.length := by
  unfold fitsX at h
  split at h
  · cases h
  · rename_i h1
    exact (Decidable.not_not.1 h1).2
theorem may_uniq {t : Tb} (h : mayTb t = true) {c : Int} (hc : c ∈ t.uniq) : 0 ≤ c ∧ c < t.cols.length := by
  unfold mayTb at h
  simp only [Bool.and_eq_true] at h
  have h1 := List.all_eq_true.1 h.2.2.2.2.1 c hc
  unfold inB at h1
  simpa using h1
theorem keyT_s {t : Tb} {r : List V} (h : ∀ v ∈ r, v.s.length ≤ 1000) : (keyT t r).s.length ≤ 140737488351232 := by
  unfold keyT
  split
  · unfold atV
    rw [List.getD_eq_getElem?_getD]
    cases hv : r[t.key.toNat]? with
    | none => simp [V.zero]
    | some v => have := h v (List.mem_of_getElem? hv); simp only [Option.getD_some]; omega
  · simp [V.zero]
set_option maxRecDepth 100000 in
set_option maxHeartbeats 16000000 in
theorem check7_any (x : Rl) (p : RlP) (w : World) (hs : x.t.small) (hrl : x.rows.length ≤ 1000) (hrw : ∀ r ∈ x.rows, r.length ≤ 1000 ∧ ∀ v ∈ r, fitI v.i ∧ v.s.length ≤ 1000) (hQ : RlQ 1000 x p (Old w.heap.size) w) :
    Calls Tryz.prog 11 #[.agg (x.cells p).toArray] w (RetChk x w) := by
  obtain ⟨⟨⟨a1, k1⟩, ⟨a2, k2⟩, ⟨a3, k3⟩, ⟨a4, k4⟩⟩, ⟨a5, k5⟩⟩ := p
  obtain ⟨w0, hw0⟩ : ∃ w0, w.alloc (.cells #[.string ⟨x.t.n.toArray⟩, .slice a1 x.t.cols.length k1, .int .i64 x.t.key, .slice a2 x.t.uniq.length k2, .slice a3 x.t.refs.length k3, .string ⟨x.t.chk.op.toArray⟩, .int .i64 x.t.chk.v.k, .int .i64 x.t.chk.v.i, .string ⟨x.t.chk.v.s.toArray⟩, .string ⟨x.t.chk.s.toArray⟩, .slice a4 x.t.chk.l.length k4, .slice a5 x.rows.length k5] 34) = w0 := ⟨_, rfl⟩
  have kx0 : Blk w0 w.heap.size 34 #[.string ⟨x.t.n.toArray⟩, .slice a1 x.t.cols.length k1, .int .i64 x.t.key, .slice a2 x.t.uniq.length k2, .slice a3 x.t.refs.length k3, .string ⟨x.t.chk.op.toArray⟩, .int .i64 x.t.chk.v.k, .int .i64 x.t.chk.v.i, .string ⟨x.t.chk.v.s.toArray⟩, .string ⟨x.t.chk.s.toArray⟩, .slice a4 x.t.chk.l.length k4, .slice a5 x.rows.length k5] := by rw [← hw0]; exact Blk.new _ _ _
  have hb0 : Below w.heap.size w w0 := by rw [← hw0]; exact bl
  have hz0 := hb0.size
  have lt0 := kx0.lt
  have HSH : Hid (∀ w' : World, Below w0.heap.size w0 w' → (w'.cell? ⟨w.heap.size, 0, none⟩ = some (.string ⟨x.t.n.toArray⟩) ∧ w'.cell? ⟨w.heap.size, 1, none⟩ = some (.slice a1 x.t.cols.length k1) ∧ w'.cell? ⟨w.heap.size, 2, none⟩ = some (.int .i64 x.t.key) ∧ w'.cell? ⟨w.heap.size, 3, none⟩ = some (.slice a2 x.t.uniq.length k2) ∧ w'.cell? ⟨w.heap.size, 4, none⟩ = some (.slice a3 x.t.refs.length k3) ∧ w'.cell? ⟨w.heap.size, 5, none⟩ = some (.string ⟨x.t.chk.op.toArray⟩) ∧ w'.cell? ⟨w.heap.size, 6, none⟩ = some (.int .i64 x.t.chk.v.k) ∧ w'.cell? ⟨w.heap.size, 7, none⟩ = some (.int .i64 x.t.chk.v.i) ∧ w'.cell? ⟨w.heap.size, 8, none⟩ = some (.string ⟨x.t.chk.v.s.toArray⟩) ∧ w'.cell? ⟨w.heap.size, 9, none⟩ = some (.string ⟨x.t.chk.s.toArray⟩) ∧ w'.cell? ⟨w.heap.size, 10, none⟩ = some (.slice a4 x.t.chk.l.length k4) ∧ w'.cell? ⟨w.heap.size, 11, none⟩ = some (.slice a5 x.rows.length k5))) := fun w' h => by
    have k := kx0.below h lt0
    exact ⟨k.cell 0, k.cell 1, k.cell 2, k.cell 3, k.cell 4, k.cell 5, k.cell 6, k.cell 7, k.cell 8, k.cell 9, k.cell 10, k.cell 11⟩
  have hwx : ∀ Y : World, Below w0.heap.size w0 Y → Below w.heap.size w Y := fun Y h => hb0.trans (h.mono hz0)
  have hQY : ∀ Y : World, Below w0.heap.size w0 Y → RlQ 1000 x ⟨⟨⟨a1, k1⟩, ⟨a2, k2⟩, ⟨a3, k3⟩, ⟨a4, k4⟩⟩, ⟨a5, k5⟩⟩ (Old Y.heap.size) Y := fun Y h => hQ.keep (old_keep (hwx Y h) (hwx Y h).size)
  have HRQ : Hid (∀ Y : World, Below w0.heap.size w0 Y → RQ x.rows a5 (Old Y.heap.size) Y) := fun Y h => (hQY Y h).2
  have HUQ : Hid (∀ Y : World, Below w0.heap.size w0 Y → IQ x.t.uniq a2 (Old Y.heap.size) Y) := fun Y h => (hQY Y h).1.2.1
  have HFT : Hid (∀ (Y : World) (r : List V) (A : Option Addr) (c : Nat), r ∈ x.rows → WQ r A (Old Y.heap.size) Y → Below w0.heap.size w0 Y → Calls Tryz.prog 26 #[.agg #[.string ⟨x.t.n.toArray⟩, .slice a1 x.t.cols.length k1, .int .i64 x.t.key, .slice a2 x.t.uniq.length k2, .slice a3 x.t.refs.length k3, .string ⟨x.t.chk.op.toArray⟩, .int .i64 x.t.chk.v.k, .int .i64 x.t.chk.v.i, .string ⟨x.t.chk.v.s.toArray⟩, .string ⟨x.t.chk.s.toArray⟩, .slice a4 x.t.chk.l.length k4], .slice A r.length c] Y (Ret (.int .i64 (fitsX x.t r)) Y)) := fun Y r A c hr hV h => fits6_any x.t ⟨⟨a1, k1⟩, ⟨a2, k2⟩, ⟨a3, k3⟩, ⟨a4, k4⟩⟩ r A c Y hs (hQY Y h).1 (hrw r hr).1 (hrw r hr).2 hV
  have HKY : Hid (∀ (Y : World) (r : List V) (A : Option Addr) (c : Nat), WQ r A (Old Y.heap.size) Y → Below w0.heap.size w0 Y → Calls Tryz.prog 28 #[.agg #[.string ⟨x.t.n.toArray⟩, .slice a1 x.t.cols.length k1, .int .i64 x.t.key, .slice a2 x.t.uniq.length k2, .slice a3 x.t.refs.length k3, .string ⟨x.t.chk.op.toArray⟩, .int .i64 x.t.chk.v.k, .int .i64 x.t.chk.v.i, .string ⟨x.t.chk.v.s.toArray⟩, .string ⟨x.t.chk.s.toArray⟩, .slice a4 x.t.chk.l.length k4], .slice A r.length c] Y (Ret (.agg #[.int .i64 (keyT x.t r).k, .int .i64 (keyT x.t r).i, .string ⟨(keyT x.t r).s.toArray⟩]) Y)) := fun Y r A c hV h => key7_any x.t ⟨⟨a1, k1⟩, ⟨a2, k2⟩, ⟨a3, k3⟩, ⟨a4, k4⟩⟩ r A c Y hs (hQY Y h).1 hV
  have HTW : Hid (∀ (Y : World) (col : Nat), (∀ r ∈ x.rows, col < r.length) → Below w0.heap.size w0 Y → Calls Tryz.prog 27 #[.slice a5 x.rows.length k5, .int .i64 col] Y (RetApart col x.rows Y)) := fun Y col hc h => twice7_any x.rows col a5 k5 Y (by omega) hc (hQY Y h).2
  have hmy := may6_any x.t ⟨⟨a1, k1⟩, ⟨a2, k2⟩, ⟨a3, k3⟩, ⟨a4, k4⟩⟩ w0 hs (hQY w0 (Below.refl _ _)).1
  obtain ⟨M, hM⟩ : ∃ M, mayTb x.t = M := ⟨_, rfl⟩
  rw [hM] at hmy
  have HMY := Lib.hid hmy
  dsimp only [Tb.cells] at HMY
  have HM := Lib.hid hM
  have HRW := Lib.hid hrw
  have HW := Lib.hid hw0
  have HBW := Lib.hid hwx
  have hbr0 : Below w0.heap.size w0 w0 := Below.refl _ _
  obtain ⟨_, hcl, _, hul, _⟩ := hs
  dsimp only [Rl.cells]
  clear hw0 hQ hrw kx0 hwx hQY hmy hM
  obtain ⟨x0, x1, x2, x3, x4, x5, x6, x7, x8, x9, x10, x11⟩ := HSH.out w0 hbr0
  go_enter Tryz.func11, Tryz.ntmps11
  go_upto_region 1 with fail
  rw [HW.out]
  clear HW
  cases M
  · go_wp2_with fail
    refine HMY.out.mono ?_
    rintro en w1 ⟨rfl, hb1⟩
    go_wp2_with fail
    refine bodyPost_ret (v := .int .i64 1) (by simp [results, Tryz.results11, go_sem, *]) rfl ⟨1, rfl, fun h => absurd h (by decide), ?_⟩
    exact HBW.out _ (by exact bl)
  go_wp2_with fail
  refine HMY.out.mono ?_
  rintro en w1 ⟨rfl, hb1⟩
  clear HMY x0 x1 x2 x3 x4 x5 x6 x7 x8 x9 x10 x11
  obtain ⟨x0, x1, x2, x3, x4, x5, x6, x7, x8, x9, x10, x11⟩ := HSH.out w1 hb1
  by_cases hbig : (200 : Int) < (x.rows.length : Int)
  · go_wp2_with fail
    refine bodyPost_ret (v := .int .i64 13) (by simp [results, Tryz.results11, go_sem, *]) rfl ⟨13, rfl, fun h => absurd h (by decide), ?_⟩
    exact HBW.out _ (by exact bl)
  have HB : Hid (x.rows.length ≤ 200) := by show _ ≤ _; omega
  go_wp2_with fail
  go_loopw [3] (fun i wr => ∃ j : Nat, j ≤ x.rows.length ∧ i = .int .i64 j ∧ Hid (∀ r ∈ x.rows.take j, fitsX x.t r = 0) ∧ Below w0.heap.size w0 wr) (fun i _ => x.rows.length - (intOf i).toNat)
  case atStart => exact ⟨0, by omega, rfl, fun r h => by simp at h, hb1⟩
  case round =>
    obtain ⟨j, hj, rfl, HJ, hbr⟩ := hrel
    clear x0 x1 x2 x3 x4 x5 x6 x7 x8 x9 x10 x11
    obtain ⟨W, rfl⟩ : ∃ W, W = wr := ⟨_, rfl⟩
    obtain ⟨x0, x1, x2, x3, x4, x5, x6, x7, x8, x9, x10, x11⟩ := HSH.out W hbr
    have hzr := hbr.size
    by_cases hlt : j < x.rows.length
    · obtain ⟨b, off, r, A', c', e1, hbB, hv, cr, hWr⟩ := (HRQ.out W hbr).at_ hlt
      subst e1
      have hrm := List.mem_of_getElem? hv
      have HF1 : Hid (∀ Y : World, Below W.heap.size W Y → Calls Tryz.prog 26 #[.agg #[.string ⟨x.t.n.toArray⟩, .slice a1 x.t.cols.length k1, .int .i64 x.t.key, .slice a2 x.t.uniq.length k2, .slice a3 x.t.refs.length k3, .string ⟨x.t.chk.op.toArray⟩, .int .i64 x.t.chk.v.k, .int .i64 x.t.chk.v.i, .string ⟨x.t.chk.v.s.toArray⟩, .string ⟨x.t.chk.s.toArray⟩, .slice a4 x.t.chk.l.length k4], .slice A' r.length c'] Y (Ret (.int .i64 (fitsX x.t r)) Y)) := fun Y h => HFT.out Y r A' c' hrm (hWr.keep (old_keep h h.size)) (hbr.trans (h.mono hzr))
      obtain ⟨F, hF⟩ : ∃ F, fitsX x.t r = F := ⟨_, rfl⟩
      rw [hF] at HF1
      have HN : Hid (F = 0 → ∀ r ∈ x.rows.take (j + 1), fitsX x.t r = 0) := fun h s hs => by
        rw [List.take_add_one, hv] at hs
        rcases List.mem_append.1 hs with hs | hs
        · exact HJ.out s hs
        · simp at hs; rw [hs, hF, h]
      have i3 : (0 : Int) ≤ (j : Int) := by omega
      have i4 : (j : Int) < (x.rows.length : Int) := by omega
      have HSK : Hid (∀ w' : World, Below W.heap.size W w' → ((w'.cell? ⟨w.heap.size, 0, none⟩ = some (.string ⟨x.t.n.toArray⟩) ∧ w'.cell? ⟨w.heap.size, 1, none⟩ = some (.slice a1 x.t.cols.length k1) ∧ w'.cell? ⟨w.heap.size, 2, none⟩ = some (.int .i64 x.t.key) ∧ w'.cell? ⟨w.heap.size, 3, none⟩ = some (.slice a2 x.t.uniq.length k2) ∧ w'.cell? ⟨w.heap.size, 4, none⟩ = some (.slice a3 x.t.refs.length k3) ∧ w'.cell? ⟨w.heap.size, 5, none⟩ = some (.string ⟨x.t.chk.op.toArray⟩) ∧ w'.cell? ⟨w.heap.size, 6, none⟩ = some (.int .i64 x.t.chk.v.k) ∧ w'.cell? ⟨w.heap.size, 7, none⟩ = some (.int .i64 x.t.chk.v.i) ∧ w'.cell? ⟨w.heap.size, 8, none⟩ = some (.string ⟨x.t.chk.v.s.toArray⟩) ∧ w'.cell? ⟨w.heap.size, 9, none⟩ = some (.string ⟨x.t.chk.s.toArray⟩) ∧ w'.cell? ⟨w.heap.size, 10, none⟩ = some (.slice a4 x.t.chk.l.length k4) ∧ w'.cell? ⟨w.heap.size, 11, none⟩ = some (.slice (some ⟨b, off, none⟩) x.rows.length k5)) ∧ w'.cell? ⟨b, off + j, none⟩ = some (.slice A' r.length c'))) := fun w' h => ⟨HSH.out w' (hbr.trans (h.mono hzr)), (h.cell (p := ⟨b, off + j, none⟩) hbB).trans cr⟩
      clear hv HJ hrm hF hWr
      go_wp2_with fail
      skip
      refine wp_region_held_drew (S := (fun w' => (w'.cell? ⟨w.heap.size, 0, none⟩ = some (.string ⟨x.t.n.toArray⟩) ∧ w'.cell? ⟨w.heap.size, 1, none⟩ = some (.slice a1 x.t.cols.length k1) ∧ w'.cell? ⟨w.heap.size, 2, none⟩ = some (.int .i64 x.t.key) ∧ w'.cell? ⟨w.heap.size, 3, none⟩ = some (.slice a2 x.t.uniq.length k2) ∧ w'.cell? ⟨w.heap.size, 4, none⟩ = some (.slice a3 x.t.refs.length k3) ∧ w'.cell? ⟨w.heap.size, 5, none⟩ = some (.string ⟨x.t.chk.op.toArray⟩) ∧ w'.cell? ⟨w.heap.size, 6, none⟩ = some (.int .i64 x.t.chk.v.k) ∧ w'.cell? ⟨w.heap.size, 7, none⟩ = some (.int .i64 x.t.chk.v.i) ∧ w'.cell? ⟨w.heap.size, 8, none⟩ = some (.string ⟨x.t.chk.v.s.toArray⟩) ∧ w'.cell? ⟨w.heap.size, 9, none⟩ = some (.string ⟨x.t.chk.s.toArray⟩) ∧ w'.cell? ⟨w.heap.size, 10, none⟩ = some (.slice a4 x.t.chk.l.length k4) ∧ w'.cell? ⟨w.heap.size, 11, none⟩ = some (.slice (some ⟨b, off, none⟩) x.rows.length k5)) ∧ w'.cell? ⟨b, off + j, none⟩ = some (.slice A' r.length c'))) (by kernel_rfl) ?_ (fun hHeld => ?_)
      · try dsimp only
        exact HSK.out _ (by exact bl)
      refine wpAnyT_start [0, 1, 2, 3, 4, 5, 6] ?_
      iterate 7
        refine wpAnyT_cons (v := ?_) rfl (by kernel_rfl) (by kernel_rfl) (by kernel_rfl) (fun _ _ _ h => h) (Or.inl ⟨by rfl, ?_⟩) (by assumption) ?_
        rotate_left
        · intro wq hSw
          try dsimp only at hSw
          go_simp
          try with_reducible rfl
        try simp only [Act.put, List.getElem_toArray, List.getElem_cons_zero, List.getElem_cons_succ, List.setIfInBounds_toArray, List.set_cons_zero, List.set_cons_succ]
      refine wpAnyT_nil ?_
      refine wpAnyH_ready (rs := [7]) (by kernel_rfl) (by simp) ?_
      refine AllReadyH.cons rfl (fun K hK => ?_) AllReadyH.nil
      go_simp
      (refine (HF1.out _ (by exact bl)).mono ?_) <;> rintro en w7 ⟨rfl, hb7⟩ <;> have hz7 := hb7.size <;> (try simp at hz7)
      go_wp2_with fail
      refine hK.out _ _ ?_ (fun hHeld => ?_)
      · try dsimp only
        exact HSK.out _ (by exact bl)
      clear hK K
      try simp only [Act.put, List.getElem_toArray, List.getElem_cons_zero, List.getElem_cons_succ, List.setIfInBounds_toArray, List.set_cons_zero, List.set_cons_succ]
      refine wpAnyH_take (i := 8) (v := ?_) rfl (by kernel_rfl) (by kernel_rfl) (by kernel_rfl) (fun _ _ _ h => h) (Or.inl ⟨by rfl, ?_⟩) (by assumption) ?_
      rotate_left
      · intro wq hSw
        try dsimp only at hSw
        go_simp
        try with_reducible rfl
      try simp only [Act.put, List.getElem_toArray, List.getElem_cons_zero, List.getElem_cons_succ, List.setIfInBounds_toArray, List.set_cons_zero, List.set_cons_succ]
      refine wpAnyH_done (by kernel_rfl) ?_ _
      have hb07 : Below w0.heap.size w0 w7 := by exact bl
      by_cases hF0 : F = 0
      · have e1 : (F != 0) = false := by simpa using hF0
        have HN1 : Hid (∀ r ∈ x.rows.take (j + 1), fitsX x.t r = 0) := HN.out hF0
        clear hF0 HN HSK x0 x1 x2 x3 x4 x5 x6 x7 x8 x9 x10 x11 cr
        go_wp2_with fail
        go_roundw
        case rel => exact ⟨j + 1, by omega, by go_num, HN1, hb07⟩
        case measure => simp [intOf]; omega
      · have e1 : (F != 0) = true := by simpa using hF0
        have HF0 := Lib.hid hF0
        clear hF0 HN HSK x0 x1 x2 x3 x4 x5 x6 x7 x8 x9 x10 x11 cr
        go_wp2_with fail
        refine bodyPost_ret (v := .int .i64 F) (by simp [results, Tryz.results11, go_sem, *]) rfl ⟨F, rfl, fun h => absurd h HF0.out, ?_⟩
        exact HBW.out _ hb07
    obtain rfl : j = x.rows.length := by omega
    have HFA : Hid (∀ r ∈ x.rows, fitsX x.t r = 0) := by
      have := HJ.out
      rwa [List.take_length] at this
    have b0 : ¬ ((x.rows.length : Int) < (x.rows.length : Int)) := by omega
    obtain ⟨hk1, hk2⟩ := may_key HM.out
    obtain ⟨kn, hkn⟩ : ∃ kn : Nat, x.t.key = (kn : Int) := ⟨x.t.key.toNat, by omega⟩
    have HK1 := Lib.hid (HTW.out W kn (fun r hr => by rw [fits_len (HFA.out r hr)]; omega) hbr)
    have x2' : W.cell? ⟨w.heap.size, 2, none⟩ = some (.int .i64 (kn : Int)) := by rw [← hkn]; exact x2
    have HKN := Lib.hid hkn
    clear HJ hlt hk1 hk2 hkn x2
    go_wp2_with fail
    refine HK1.out.mono ?_
    rintro en w8 ⟨B, rfl, hB, hb8⟩
    have HBB := Lib.hid hB
    have hb08 : Below w0.heap.size w0 w8 := hbr.trans (hb8.mono hzr)
    clear HK1 x0 x1 x3 x4 x5 x6 x7 x8 x9 x10 x11 x2' hB
    obtain ⟨x0, x1, x2, x3, x4, x5, x6, x7, x8, x9, x10, x11⟩ := HSH.out w8 hb08
    cases B
    case true =>
      go_wp2_with fail
      refine bodyPost_ret (v := .int .i64 7) (by simp [results, Tryz.results11, go_sem, *]) rfl ⟨7, rfl, fun h => absurd h (by decide), ?_⟩
      exact HBW.out _ (by exact bl)
    have HAP : Hid (apartAll kn x.rows x.rows.length) := HBB.out rfl
    clear HBB
    go_wp2_with fail
    go_loopw [5] (fun i wr => ∃ j : Nat, j ≤ x.t.uniq.length ∧ i = .int .i64 j ∧ Below w0.heap.size w0 wr) (fun i _ => x.t.uniq.length - (intOf i).toNat)
    case atStart => exact ⟨0, by omega, rfl, hb08⟩
    case round =>
      obtain ⟨j, hj, rfl, hbr⟩ := hrel
      clear x0 x1 x2 x3 x4 x5 x6 x7 x8 x9 x10 x11
      obtain ⟨W, rfl⟩ : ∃ W, W = wr := ⟨_, rfl⟩
      obtain ⟨x0, x1, x2, x3, x4, x5, x6, x7, x8, x9, x10, x11⟩ := HSH.out W hbr
      have hzr := hbr.size
      by_cases hlt : j < x.t.uniq.length
      · obtain ⟨b, off, u, e1, hbB, hv, cr⟩ := (HUQ.out W hbr).at_ hlt
        subst e1
        obtain ⟨hu1, hu2⟩ := may_uniq HM.out (List.mem_of_getElem? hv)
        obtain ⟨un, rfl⟩ : ∃ un : Nat, u = (un : Int) := ⟨u.toNat, by omega⟩
        have HT1 : Hid (∀ Y : World, Below W.heap.size W Y → Calls Tryz.prog 27 #[.slice a5 x.rows.length k5, .int .i64 un] Y (RetApart un x.rows Y)) := fun Y h => HTW.out Y un (fun r hr => by rw [fits_len (HFA.out r hr)]; omega) (hbr.trans (h.mono hzr))
        have i3 : (0 : Int) ≤ (j : Int) := by omega
        have i4 : (j : Int) < (x.t.uniq.length : Int) := by omega
        have HSK : Hid (∀ w' : World, Below W.heap.size W w' → ((w'.cell? ⟨w.heap.size, 0, none⟩ = some (.string ⟨x.t.n.toArray⟩) ∧ w'.cell? ⟨w.heap.size, 1, none⟩ = some (.slice a1 x.t.cols.length k1) ∧ w'.cell? ⟨w.heap.size, 2, none⟩ = some (.int .i64 x.t.key) ∧ w'.cell? ⟨w.heap.size, 3, none⟩ = some (.slice (some ⟨b, off, none⟩) x.t.uniq.length k2) ∧ w'.cell? ⟨w.heap.size, 4, none⟩ = some (.slice a3 x.t.refs.length k3) ∧ w'.cell? ⟨w.heap.size, 5, none⟩ = some (.string ⟨x.t.chk.op.toArray⟩) ∧ w'.cell? ⟨w.heap.size, 6, none⟩ = some (.int .i64 x.t.chk.v.k) ∧ w'.cell? ⟨w.heap.size, 7, none⟩ = some (.int .i64 x.t.chk.v.i) ∧ w'.cell? ⟨w.heap.size, 8, none⟩ = some (.string ⟨x.t.chk.v.s.toArray⟩) ∧ w'.cell? ⟨w.heap.size, 9, none⟩ = some (.string ⟨x.t.chk.s.toArray⟩) ∧ w'.cell? ⟨w.heap.size, 10, none⟩ = some (.slice a4 x.t.chk.l.length k4) ∧ w'.cell? ⟨w.heap.size, 11, none⟩ = some (.slice a5 x.rows.length k5)) ∧ w'.cell? ⟨b, off + j, none⟩ = some (.int .i64 (un : Int)))) := fun w' h => ⟨HSH.out w' (hbr.trans (h.mono hzr)), (h.cell (p := ⟨b, off + j, none⟩) hbB).trans cr⟩
        clear hv hu1 hu2
        go_wp2_with fail
        skip
        refine wp_region_held_drew (S := (fun w' => (w'.cell? ⟨w.heap.size, 0, none⟩ = some (.string ⟨x.t.n.toArray⟩) ∧ w'.cell? ⟨w.heap.size, 1, none⟩ = some (.slice a1 x.t.cols.length k1) ∧ w'.cell? ⟨w.heap.size, 2, none⟩ = some (.int .i64 x.t.key) ∧ w'.cell? ⟨w.heap.size, 3, none⟩ = some (.slice (some ⟨b, off, none⟩) x.t.uniq.length k2) ∧ w'.cell? ⟨w.heap.size, 4, none⟩ = some (.slice a3 x.t.refs.length k3) ∧ w'.cell? ⟨w.heap.size, 5, none⟩ = some (.string ⟨x.t.chk.op.toArray⟩) ∧ w'.cell? ⟨w.heap.size, 6, none⟩ = some (.int .i64 x.t.chk.v.k) ∧ w'.cell? ⟨w.heap.size, 7, none⟩ = some (.int .i64 x.t.chk.v.i) ∧ w'.cell? ⟨w.heap.size, 8, none⟩ = some (.string ⟨x.t.chk.v.s.toArray⟩) ∧ w'.cell? ⟨w.heap.size, 9, none⟩ = some (.string ⟨x.t.chk.s.toArray⟩) ∧ w'.cell? ⟨w.heap.size, 10, none⟩ = some (.slice a4 x.t.chk.l.length k4) ∧ w'.cell? ⟨w.heap.size, 11, none⟩ = some (.slice a5 x.rows.length k5)) ∧ w'.cell? ⟨b, off + j, none⟩ = some (.int .i64 (un : Int)))) (by kernel_rfl) ?_ (fun hHeld => ?_)
        · try dsimp only
          exact HSK.out _ (by exact bl)
        refine wpAnyT_start [0, 1, 2, 3, 4, 5, 6, 7] ?_
        iterate 8
          refine wpAnyT_cons (v := ?_) rfl (by kernel_rfl) (by kernel_rfl) (by kernel_rfl) (fun _ _ _ h => h) (Or.inl ⟨by rfl, ?_⟩) (by assumption) ?_
          rotate_left
          · intro wq hSw
            try dsimp only at hSw
            go_simp
            try with_reducible rfl
          try simp only [Act.put, List.getElem_toArray, List.getElem_cons_zero, List.getElem_cons_succ, List.setIfInBounds_toArray, List.set_cons_zero, List.set_cons_succ]
        refine wpAnyT_nil ?_
        refine wpAnyH_ready (rs := [8]) (by kernel_rfl) (by simp) ?_
        refine AllReadyH.cons rfl (fun K hK => ?_) AllReadyH.nil
        go_simp
        (refine (HT1.out _ (by exact bl)).mono ?_) <;> rintro en w8 ⟨B, rfl, _, hb8⟩ <;> have hz8 := hb8.size <;> (try simp at hz8)
        go_wp2_with fail
        refine hK.out _ _ ?_ (fun hHeld => ?_)
        · try dsimp only
          exact HSK.out _ (by exact bl)
        clear hK K
        try simp only [Act.put, List.getElem_toArray, List.getElem_cons_zero, List.getElem_cons_succ, List.setIfInBounds_toArray, List.set_cons_zero, List.set_cons_succ]
        refine wpAnyH_done (by kernel_rfl) ?_ _
        have hb08 : Below w0.heap.size w0 w8 := by exact bl
        clear HSK x0 x1 x2 x3 x4 x5 x6 x7 x8 x9 x10 x11 cr
        cases B
        · go_wp2_with fail
          go_roundw
          case rel => exact ⟨j + 1, by omega, by go_num, hb08⟩
          case measure => simp [intOf]; omega
        · go_wp2_with fail
          refine bodyPost_ret (v := .int .i64 7) (by simp [results, Tryz.results11, go_sem, *]) rfl ⟨7, rfl, fun h => absurd h (by decide), ?_⟩
          exact HBW.out _ hb08
      obtain rfl : j = x.t.uniq.length := by omega
      have b0 : ¬ ((x.t.uniq.length : Int) < (x.t.uniq.length : Int)) := by omega
      clear hlt
      go_wp2_with fail
      go_loopw [6] (fun i wr => ∃ j : Nat, 1 ≤ j ∧ j ≤ x.rows.length + 1 ∧ i = .int .i64 j ∧ Hid (∀ i r r', i + 1 < j → x.rows[i]? = some r → x.rows[i + 1]? = some r' → ordR (keyT x.t r) (keyT x.t r') ≤ 0) ∧ Below w0.heap.size w0 wr) (fun i _ => x.rows.length + 1 - (intOf i).toNat)
      case atStart => exact ⟨1, by omega, by omega, rfl, fun i r r' h => absurd h (by omega), hbr⟩
      case round =>
        obtain ⟨j, hj1, hj, rfl, HJ, hbr⟩ := hrel
        clear x0 x1 x2 x3 x4 x5 x6 x7 x8 x9 x10 x11
        obtain ⟨W, rfl⟩ : ∃ W, W = wr := ⟨_, rfl⟩
        obtain ⟨x0, x1, x2, x3, x4, x5, x6, x7, x8, x9, x10, x11⟩ := HSH.out W hbr
        have hzr := hbr.size
        by_cases hlt : j < x.rows.length
        · obtain ⟨i, rfl⟩ : ∃ i, j = i + 1 := ⟨j - 1, by omega⟩
          have hR := HRQ.out W hbr
          obtain ⟨b, off, r, A, c, e1, hbB, hv, cr, hWr⟩ := hR.at_ (j := i) (by omega)
          subst e1
          obtain ⟨b', off', r', A', c', e1, hbB', hv', cr', hWr'⟩ := hR.at_ hlt
          cases e1
          have HK1 : Hid (∀ Y : World, Below W.heap.size W Y → Calls Tryz.prog 28 #[.agg #[.string ⟨x.t.n.toArray⟩, .slice a1 x.t.cols.length k1, .int .i64 x.t.key, .slice a2 x.t.uniq.length k2, .slice a3 x.t.refs.length k3, .string ⟨x.t.chk.op.toArray⟩, .int .i64 x.t.chk.v.k, .int .i64 x.t.chk.v.i, .string ⟨x.t.chk.v.s.toArray⟩, .string ⟨x.t.chk.s.toArray⟩, .slice a4 x.t.chk.l.length k4], .slice A r.length c] Y (Ret (.agg #[.int .i64 (keyT x.t r).k, .int .i64 (keyT x.t r).i, .string ⟨(keyT x.t r).s.toArray⟩]) Y)) := fun Y h => HKY.out Y r A c (hWr.keep (old_keep h h.size)) (hbr.trans (h.mono hzr))
          have HK2 : Hid (∀ Y : World, Below W.heap.size W Y → Calls Tryz.prog 28 #[.agg #[.string ⟨x.t.n.toArray⟩, .slice a1 x.t.cols.length k1, .int .i64 x.t.key, .slice a2 x.t.uniq.length k2, .slice a3 x.t.refs.length k3, .string ⟨x.t.chk.op.toArray⟩, .int .i64 x.t.chk.v.k, .int .i64 x.t.chk.v.i, .string ⟨x.t.chk.v.s.toArray⟩, .string ⟨x.t.chk.s.toArray⟩, .slice a4 x.t.chk.l.length k4], .slice A' r'.length c'] Y (Ret (.agg #[.int .i64 (keyT x.t r').k, .int .i64 (keyT x.t r').i, .string ⟨(keyT x.t r').s.toArray⟩]) Y)) := fun Y h => HKY.out Y r' A' c' (hWr'.keep (old_keep h h.size)) (hbr.trans (h.mono hzr))
          have hl1 := @keyT_s x.t r (fun v hv' => ((HRW.out r (List.mem_of_getElem? hv)).2 v hv').2)
          have hl2 := @keyT_s x.t r' (fun v hv'' => ((HRW.out r' (List.mem_of_getElem? hv')).2 v hv'').2)
          have hnext : ordR (keyT x.t r) (keyT x.t r') ≤ 0 → ∀ m s s', m + 1 < i + 1 + 1 → x.rows[m]? = some s → x.rows[m + 1]? = some s' → ordR (keyT x.t s) (keyT x.t s') ≤ 0 := fun h m s s' hm hs hs' => by
            by_cases hmi : m = i
            · subst hmi
              rw [hv] at hs
              rw [hv'] at hs'
              cases hs
              cases hs'
              exact h
            · exact HJ.out m s s' (by omega) hs hs'
          obtain ⟨O, hO⟩ : ∃ O, ordR (keyT x.t r) (keyT x.t r') = O := ⟨_, rfl⟩
          rw [hO] at hnext
          unfold ordR at hO
          obtain ⟨va, hva⟩ : ∃ v, keyT x.t r = v := ⟨_, rfl⟩
          obtain ⟨vb, hvb⟩ : ∃ v, keyT x.t r' = v := ⟨_, rfl⟩
          rw [hva, hvb] at hO
          rw [hva] at HK1 hl1
          rw [hvb] at HK2 hl2
          have HVO : Hid (∀ Z : World, Calls Tryz.prog 19 #[.agg #[.int .i64 (va).k, .int .i64 (va).i, .string ⟨(va).s.toArray⟩], .agg #[.int .i64 (vb).k, .int .i64 (vb).i, .string ⟨(vb).s.toArray⟩]] Z (Ret (.int .i64 (vord (goodV va.k va.i va.s) (goodV vb.k vb.i vb.s))) Z)) := fun Z => rorder_any va.k va.i va.s vb.k vb.i vb.s Z hl1 hl2
          rw [hO] at HVO
          have HNX := Lib.hid hnext
          have i0 : ((i : Int) + 1) - 1 = (i : Int) := by omega
          have i1 : (0 : Int) ≤ (i : Int) := by omega
          have i2 : (i : Int) < (x.rows.length : Int) := by omega
          have i8 : IntKind.i64.wrap (i : Int) = (i : Int) := IntWalk.i64_in _ (by omega)
          have i9 : (0 : Int) ≤ (i : Int) + 1 := by omega
          have i10 : (i : Int) + 1 < (x.rows.length : Int) := by omega
          have HSK : Hid (∀ w' : World, Below W.heap.size W w' → ((w'.cell? ⟨w.heap.size, 0, none⟩ = some (.string ⟨x.t.n.toArray⟩) ∧ w'.cell? ⟨w.heap.size, 1, none⟩ = some (.slice a1 x.t.cols.length k1) ∧ w'.cell? ⟨w.heap.size, 2, none⟩ = some (.int .i64 x.t.key) ∧ w'.cell? ⟨w.heap.size, 3, none⟩ = some (.slice a2 x.t.uniq.length k2) ∧ w'.cell? ⟨w.heap.size, 4, none⟩ = some (.slice a3 x.t.refs.length k3) ∧ w'.cell? ⟨w.heap.size, 5, none⟩ = some (.string ⟨x.t.chk.op.toArray⟩) ∧ w'.cell? ⟨w.heap.size, 6, none⟩ = some (.int .i64 x.t.chk.v.k) ∧ w'.cell? ⟨w.heap.size, 7, none⟩ = some (.int .i64 x.t.chk.v.i) ∧ w'.cell? ⟨w.heap.size, 8, none⟩ = some (.string ⟨x.t.chk.v.s.toArray⟩) ∧ w'.cell? ⟨w.heap.size, 9, none⟩ = some (.string ⟨x.t.chk.s.toArray⟩) ∧ w'.cell? ⟨w.heap.size, 10, none⟩ = some (.slice a4 x.t.chk.l.length k4) ∧ w'.cell? ⟨w.heap.size, 11, none⟩ = some (.slice (some ⟨b, off, none⟩) x.rows.length k5)) ∧ w'.cell? ⟨b, off + i, none⟩ = some (.slice A r.length c) ∧ w'.cell? ⟨b, off + (i + 1), none⟩ = some (.slice A' r'.length c'))) := fun w' h => ⟨HSH.out w' (hbr.trans (h.mono hzr)), (h.cell (p := ⟨b, off + i, none⟩) hbB).trans cr, (h.cell (p := ⟨b, off + (i + 1), none⟩) hbB).trans cr'⟩
          clear hv hv' HJ hR hWr hWr' hl1 hl2 hnext hva hvb hO
          go_wp2_with fail
          go_cut [81] (fun s81 wx => s81 = .bool (decide (O > 0)) ∧ Below w0.heap.size w0 wx)
          case first =>
            refine wp_region_held_drew (S := (fun w' => (w'.cell? ⟨w.heap.size, 0, none⟩ = some (.string ⟨x.t.n.toArray⟩) ∧ w'.cell? ⟨w.heap.size, 1, none⟩ = some (.slice a1 x.t.cols.length k1) ∧ w'.cell? ⟨w.heap.size, 2, none⟩ = some (.int .i64 x.t.key) ∧ w'.cell? ⟨w.heap.size, 3, none⟩ = some (.slice a2 x.t.uniq.length k2) ∧ w'.cell? ⟨w.heap.size, 4, none⟩ = some (.slice a3 x.t.refs.length k3) ∧ w'.cell? ⟨w.heap.size, 5, none⟩ = some (.string ⟨x.t.chk.op.toArray⟩) ∧ w'.cell? ⟨w.heap.size, 6, none⟩ = some (.int .i64 x.t.chk.v.k) ∧ w'.cell? ⟨w.heap.size, 7, none⟩ = some (.int .i64 x.t.chk.v.i) ∧ w'.cell? ⟨w.heap.size, 8, none⟩ = some (.string ⟨x.t.chk.v.s.toArray⟩) ∧ w'.cell? ⟨w.heap.size, 9, none⟩ = some (.string ⟨x.t.chk.s.toArray⟩) ∧ w'.cell? ⟨w.heap.size, 10, none⟩ = some (.slice a4 x.t.chk.l.length k4) ∧ w'.cell? ⟨w.heap.size, 11, none⟩ = some (.slice (some ⟨b, off, none⟩) x.rows.length k5)) ∧ w'.cell? ⟨b, off + i, none⟩ = some (.slice A r.length c) ∧ w'.cell? ⟨b, off + (i + 1), none⟩ = some (.slice A' r'.length c'))) (by kernel_rfl) ?_ (fun hHeld => ?_)
            · try dsimp only
              exact HSK.out _ (by exact bl)
            refine wpAnyT_start [0, 1, 2, 3, 4, 5, 6, 7, 9, 10, 11, 12, 13, 14, 15] ?_
            iterate 15
              refine wpAnyT_cons (v := ?_) rfl (by kernel_rfl) (by kernel_rfl) (by kernel_rfl) (fun _ _ _ h => h) (Or.inl ⟨by rfl, ?_⟩) (by assumption) ?_
              rotate_left
              · intro wq hSw
                try dsimp only at hSw
                go_simp
                try with_reducible rfl
              try simp only [Act.put, List.getElem_toArray, List.getElem_cons_zero, List.getElem_cons_succ, List.setIfInBounds_toArray, List.set_cons_zero, List.set_cons_succ]
            refine wpAnyT_nil ?_
            refine wpAnyH_ready (rs := [8]) (by kernel_rfl) (by simp) ?_
            refine AllReadyH.cons rfl (fun K hK => ?_) AllReadyH.nil
            go_simp
            (refine (HK1.out _ (by exact bl)).mono ?_) <;> rintro en w8 ⟨rfl, hb8⟩ <;> have hz8 := hb8.size <;> (try simp at hz8)
            go_wp2_with fail
            refine hK.out _ _ ?_ (fun hHeld => ?_)
            · try dsimp only
              exact HSK.out _ (by exact bl)
            clear hK K
            try simp only [Act.put, List.getElem_toArray, List.getElem_cons_zero, List.getElem_cons_succ, List.setIfInBounds_toArray, List.set_cons_zero, List.set_cons_succ]
            refine wpAnyH_ready (rs := [16]) (by kernel_rfl) (by simp) ?_
            refine AllReadyH.cons rfl (fun K hK => ?_) AllReadyH.nil
            go_simp
            (refine (HK2.out _ (by exact bl)).mono ?_) <;> rintro en w16 ⟨rfl, hb16⟩ <;> have hz16 := hb16.size <;> (try simp at hz16)
            go_wp2_with fail
            refine hK.out _ _ ?_ (fun hHeld => ?_)
            · try dsimp only
              exact HSK.out _ (by exact bl)
            clear hK K
            try simp only [Act.put, List.getElem_toArray, List.getElem_cons_zero, List.getElem_cons_succ, List.setIfInBounds_toArray, List.set_cons_zero, List.set_cons_succ]
            refine wpAnyH_ready (rs := [17]) (by kernel_rfl) (by simp) ?_
            refine AllReadyH.cons rfl (fun K hK => ?_) AllReadyH.nil
            go_simp
            (refine (HVO.out _).mono ?_) <;> rintro en w17 ⟨rfl, hb17⟩ <;> have hz17 := hb17.size <;> (try simp at hz17)
            go_wp2_with fail
            refine hK.out _ _ ?_ (fun hHeld => ?_)
            · try dsimp only
              exact HSK.out _ (by exact bl)
            clear hK K
            try simp only [Act.put, List.getElem_toArray, List.getElem_cons_zero, List.getElem_cons_succ, List.setIfInBounds_toArray, List.set_cons_zero, List.set_cons_succ]
            refine wpAnyH_take (i := 18) (v := ?_) rfl (by kernel_rfl) (by kernel_rfl) (by kernel_rfl) (fun _ _ _ h => h) (Or.inl ⟨by rfl, ?_⟩) (by assumption) ?_
            rotate_left
            · intro wq hSw
              try dsimp only at hSw
              go_simp
              try with_reducible rfl
            try simp only [Act.put, List.getElem_toArray, List.getElem_cons_zero, List.getElem_cons_succ, List.setIfInBounds_toArray, List.set_cons_zero, List.set_cons_succ]
            refine wpAnyH_done (by kernel_rfl) ?_ _
            go_wp2_with fail
            go_meet
            exact ⟨by simp, by exact bl⟩
          case rest =>
            obtain ⟨rfl, hbc⟩ := hcut
            clear HSK x0 x1 x2 x3 x4 x5 x6 x7 x8 x9 x10 x11 cr cr'
            by_cases hO0 : 0 < O
            · have e1 : decide (O > 0) = true := decide_eq_true hO0
              go_wp2_with fail
              refine bodyPost_ret (v := .int .i64 15) (by simp [results, Tryz.results11, go_sem, *]) rfl ⟨15, rfl, fun h => absurd h (by decide), ?_⟩
              exact HBW.out _ (by exact bl)
            · have e1 : decide (O > 0) = false := decide_eq_false hO0
              have HN1 := Lib.hid (HNX.out (by omega))
              go_wp2_with fail
              go_roundw
              case rel => exact ⟨i + 1 + 1, by omega, by omega, by go_num, HN1, by exact bl⟩
              case measure => simp [intOf]; omega
        · have b0 : ¬ ((j : Int) < (x.rows.length : Int)) := by omega
          have HOK : Hid (chkOk x) := ⟨HM.out, HB.out, HFA.out, by rw [HKN.out, Int.toNat_natCast]; exact HAP.out, fun i r r' h1 h2 => HJ.out i r r' (by obtain ⟨h3, _⟩ := List.getElem?_eq_some_iff.1 h2; omega) h1 h2⟩
          clear HJ
          go_wp2_with fail
          refine bodyPost_ret (v := .int .i64 0) (by simp [results, Tryz.results11, go_sem, *]) rfl ⟨0, rfl, fun _ => HOK.out, ?_⟩
          exact HBW.out _ (by exact bl)

end Go.Proofs.YtdhjogmkhbpcgaaGreat
