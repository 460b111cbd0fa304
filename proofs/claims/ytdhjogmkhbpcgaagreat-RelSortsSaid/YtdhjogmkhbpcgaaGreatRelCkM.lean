/- rel.Check at tables that may be, whose rows fit and rise or bear a key twice. Condition: a table with rows that reads as one, of the sizes that are looked at. caddislaw07.awake holds. Condition: none. -/
import Derived.Test.YtdhjogmkhbpcgaaGreatTake
import Derived.Test.YtdhjogmkhbpcgaaGreatMapVM
import Derived.Test.YtdhjogmkhbpcgaaGreatFitM
import Derived.IntWalk
import Derived.Test.YtdhjogmkhbpcgaaGreatSomeM
import Derived.Test.YtdhjogmkhbpcgaaGreatSameM
namespace Go.Proofs.YtdhjogmkhbpcgaaGreat
open Go.RowKit

attribute [local go_sem] ByteArray.extract_mk ba_get ba_append
attribute [local go_sem ↓] Go.wp_at_zero Go.wp_at_succ run_eql_V run_neq_V

def ordV (a b : V) : Int := cord (goodV a.k a.i a.s) (goodV b.k b.i b.s)
set_option maxRecDepth 100000 in
set_option maxHeartbeats 8000000 in
theorem relCheck_any (x : Rl) (p : RlP) (col : Nat) (w : World) (hs : x.t.small) (hrw : x.rows.length ≤ 200) (hri : ∀ r ∈ x.rows, r.length ≤ 1000 ∧ ∀ v ∈ r, fitI v.i) (hQ : RlQ 1000 x p (Old w.heap.size) w)
    (hmay : mayTb x.t = true) (hfit : ∀ r ∈ x.rows, fitsX x.t r = 0) (hcl : ∀ r ∈ x.rows, col < r.length ∧ ¬ (atV col r).k = 0) (hkey : x.t.key = (col : Int)) (hu : x.t.uniq = []) (D : Bool) (hD : dupF [] (x.rows.map (atV col)) = D)
    (hor : D = false → ∀ i a b, x.rows[i]? = some a → x.rows[i + 1]? = some b → ordV (atV col a) (atV col b) < 0) :
    Calls Tryz.prog 31 #[.agg (x.cells p).toArray] w (Ret (.int .i64 (if D then 7 else 0)) w) := by
  obtain ⟨⟨⟨a1, k1⟩, ⟨a2, k2⟩, ⟨a3, k3⟩, ⟨a4, k4⟩⟩, ⟨a5, k5⟩⟩ := p
  obtain ⟨R, hRR⟩ : ∃ R : Int, (if D then 7 else 0) = R := ⟨_, rfl⟩
  rw [hRR]
  have HRR := Lib.hid hRR
  clear hRR
  obtain ⟨w0, hw0⟩ : ∃ w0, w.alloc (.cells (x.cells ⟨⟨⟨a1, k1⟩, ⟨a2, k2⟩, ⟨a3, k3⟩, ⟨a4, k4⟩⟩, ⟨a5, k5⟩⟩).toArray 34) = w0 := ⟨_, rfl⟩
  have kx0 : Blk w0 w.heap.size 34 (x.cells ⟨⟨⟨a1, k1⟩, ⟨a2, k2⟩, ⟨a3, k3⟩, ⟨a4, k4⟩⟩, ⟨a5, k5⟩⟩).toArray := by rw [← hw0]; exact Blk.new _ _ _
  have hb0 : Below w.heap.size w w0 := by rw [← hw0]; exact bl
  have hz0 := hb0.size
  have lt0 := kx0.lt
  have HSH : Hid (∀ w' : World, Below w0.heap.size w0 w' → (w'.cell? ⟨w.heap.size, 0, none⟩ = some (.string ⟨x.t.n.toArray⟩) ∧ w'.cell? ⟨w.heap.size, 1, none⟩ = some (.slice a1 x.t.cols.length k1) ∧ w'.cell? ⟨w.heap.size, 2, none⟩ = some (.int .i64 (col : Int)) ∧ w'.cell? ⟨w.heap.size, 3, none⟩ = some (.slice a2 0 k2) ∧ w'.cell? ⟨w.heap.size, 4, none⟩ = some (.slice a3 x.t.refs.length k3) ∧ w'.cell? ⟨w.heap.size, 5, none⟩ = some (.string ⟨x.t.chk.op.toArray⟩) ∧ w'.cell? ⟨w.heap.size, 6, none⟩ = some (.int .i64 x.t.chk.v.k) ∧ w'.cell? ⟨w.heap.size, 7, none⟩ = some (.int .i64 x.t.chk.v.i) ∧ w'.cell? ⟨w.heap.size, 8, none⟩ = some (.string ⟨x.t.chk.v.s.toArray⟩) ∧ w'.cell? ⟨w.heap.size, 9, none⟩ = some (.string ⟨x.t.chk.s.toArray⟩) ∧ w'.cell? ⟨w.heap.size, 10, none⟩ = some (.slice a4 x.t.chk.l.length k4) ∧ w'.cell? ⟨w.heap.size, 11, none⟩ = some (.slice a5 x.rows.length k5))) := fun w' h => by
    have k := kx0.below h lt0
    have q3 : w'.cell? ⟨w.heap.size, 3, none⟩ = some (.slice a2 x.t.uniq.length k2) := k.cell 3
    rw [hu] at q3
    have q2 : w'.cell? ⟨w.heap.size, 2, none⟩ = some (.int .i64 x.t.key) := k.cell 2
    rw [hkey] at q2
    exact ⟨k.cell 0, k.cell 1, q2, q3, k.cell 4, k.cell 5, k.cell 6, k.cell 7, k.cell 8, k.cell 9, k.cell 10, k.cell 11⟩
  have hwx : ∀ Y : World, Below w0.heap.size w0 Y → Below w.heap.size w Y := fun Y h => hb0.trans (h.mono hb0.size)
  have hQY : ∀ Y : World, Below w0.heap.size w0 Y → RlQ 1000 x ⟨⟨⟨a1, k1⟩, ⟨a2, k2⟩, ⟨a3, k3⟩, ⟨a4, k4⟩⟩, ⟨a5, k5⟩⟩ (Old Y.heap.size) Y := fun Y h => hQ.keep (old_keep (hwx Y h) (hwx Y h).size)
  have HMY : Hid (∀ Y : World, Below w0.heap.size w0 Y → Calls Tryz.prog 56 #[.agg #[.string ⟨x.t.n.toArray⟩, .slice a1 x.t.cols.length k1, .int .i64 (col : Int), .slice a2 0 k2, .slice a3 x.t.refs.length k3, .string ⟨x.t.chk.op.toArray⟩, .int .i64 x.t.chk.v.k, .int .i64 x.t.chk.v.i, .string ⟨x.t.chk.v.s.toArray⟩, .string ⟨x.t.chk.s.toArray⟩, .slice a4 x.t.chk.l.length k4]] Y (Ret (.bool true) Y)) := fun Y h => by
    have := mayTb_any x.t ⟨⟨a1, k1⟩, ⟨a2, k2⟩, ⟨a3, k3⟩, ⟨a4, k4⟩⟩ Y hs (hQY Y h).1
    rw [hmay] at this
    dsimp only [Tb.cells] at this
    rw [hkey, hu] at this
    exact this
  have HFT : Hid (∀ (Y : World) (r : List V) (A : Option Addr) (c : Nat), r ∈ x.rows → WQ r A (Old Y.heap.size) Y → Below w0.heap.size w0 Y → Calls Tryz.prog 57 #[.agg #[.string ⟨x.t.n.toArray⟩, .slice a1 x.t.cols.length k1, .int .i64 (col : Int), .slice a2 0 k2, .slice a3 x.t.refs.length k3, .string ⟨x.t.chk.op.toArray⟩, .int .i64 x.t.chk.v.k, .int .i64 x.t.chk.v.i, .string ⟨x.t.chk.v.s.toArray⟩, .string ⟨x.t.chk.s.toArray⟩, .slice a4 x.t.chk.l.length k4], .slice A r.length c] Y (Ret (.int .i64 0) Y)) := fun Y r A c hr hV h => by
    have := fits_any x.t ⟨⟨a1, k1⟩, ⟨a2, k2⟩, ⟨a3, k3⟩, ⟨a4, k4⟩⟩ r A c Y hs (hQY Y h).1 (hri r hr).1 (hri r hr).2 hV
    rw [hfit r hr] at this
    dsimp only [Tb.cells] at this
    rw [hkey, hu] at this
    exact this
  have HTW : Hid (∀ Y : World, Below w0.heap.size w0 Y → Calls Tryz.prog 58 #[.agg #[.string ⟨x.t.n.toArray⟩, .slice a1 x.t.cols.length k1, .int .i64 (col : Int), .slice a2 0 k2, .slice a3 x.t.refs.length k3, .string ⟨x.t.chk.op.toArray⟩, .int .i64 x.t.chk.v.k, .int .i64 x.t.chk.v.i, .string ⟨x.t.chk.v.s.toArray⟩, .string ⟨x.t.chk.s.toArray⟩, .slice a4 x.t.chk.l.length k4, .slice a5 x.rows.length k5], .int .i64 (col : Int)] Y (Ret (.bool D) Y)) := fun Y h => by
    have := twice_any x ⟨⟨⟨a1, k1⟩, ⟨a2, k2⟩, ⟨a3, k3⟩, ⟨a4, k4⟩⟩, ⟨a5, k5⟩⟩ col Y (by omega) hcl (hQY Y h).2
    rw [hD] at this
    dsimp only [Rl.cells] at this
    rw [hkey, hu] at this
    exact this
  have HRQ : Hid (∀ Y : World, Below w0.heap.size w0 Y → RQ x.rows a5 (Old Y.heap.size) Y) := fun Y h => (hQY Y h).2
  have HCL := Lib.hid hcl
  have HOR := Lib.hid hor
  have HW : Hid (w.alloc (.cells #[.string ⟨x.t.n.toArray⟩, .slice a1 x.t.cols.length k1, .int .i64 (col : Int), .slice a2 0 k2, .slice a3 x.t.refs.length k3, .string ⟨x.t.chk.op.toArray⟩, .int .i64 x.t.chk.v.k, .int .i64 x.t.chk.v.i, .string ⟨x.t.chk.v.s.toArray⟩, .string ⟨x.t.chk.s.toArray⟩, .slice a4 x.t.chk.l.length k4, .slice a5 x.rows.length k5] 34) = w0) := by
    show _ = _
    rw [← hw0]
    dsimp only [Rl.cells]
    rw [hkey, hu]
    rfl
  dsimp only [Rl.cells]
  rw [hkey, hu]
  clear hw0 hQ hri hmay hfit hcl hkey hu hD hor kx0 hwx hQY hs
  obtain ⟨x0, x1, x2, x3, x4, x5, x6, x7, x8, x9, x10, x11⟩ := HSH.out w0 (Below.refl _ _)
  go_enter Tryz.func31, Tryz.ntmps31
  go_upto_region 1 with fail
  rw [show w.alloc _ = w0 from HW.out]
  go_wp2_with fail
  refine (HMY.out w0 (Below.refl _ _)).mono ?_
  rintro en w1 ⟨rfl, hb1⟩
  clear HMY x0 x1 x2 x3 x4 x5 x6 x7 x8 x9 x10 x11
  obtain ⟨x0, x1, x2, x3, x4, x5, x6, x7, x8, x9, x10, x11⟩ := HSH.out w1 hb1
  have g1 : ¬ ((200 : Int) < (x.rows.length : Int)) := by omega
  go_wp2_with fail
  go_loopw [20] (fun i wr => ∃ j : Nat, j ≤ x.rows.length ∧ i = .int .i64 j ∧ Below w0.heap.size w0 wr) (fun i _ => x.rows.length - (intOf i).toNat)
  case atStart => exact ⟨0, by omega, rfl, hb1⟩
  case round =>
    obtain ⟨j, hj, rfl, hbr⟩ := hrel
    clear x0 x1 x2 x3 x4 x5 x6 x7 x8 x9 x10 x11
    obtain ⟨x0, x1, x2, x3, x4, x5, x6, x7, x8, x9, x10, x11⟩ := HSH.out wr hbr
    obtain ⟨W, rfl⟩ : ∃ W, W = wr := ⟨_, rfl⟩
    have hzr := hbr.size
    by_cases hlt : j < x.rows.length
    · obtain ⟨b, off, r, A', c', rfl, hbB, hv, cr, hWr⟩ := (HRQ.out W hbr).at_ hlt
      have HF1 := Lib.hid (HFT.out W r A' c' (List.mem_of_getElem? hv) hWr hbr)
      have i3 : (0 : Int) ≤ (j : Int) := by omega
      have i4 : (j : Int) < (x.rows.length : Int) := by omega
      clear hv hWr
      go_wp2_with fail
      refine HF1.out.mono ?_
      rintro en w7 ⟨rfl, hb7⟩
      go_wp2_with fail
      go_roundw
      case rel => exact ⟨j + 1, by omega, by go_num, hbr.trans (hb7.mono hzr)⟩
      case measure => simp [intOf]; omega
    · obtain rfl : j = x.rows.length := by omega
      have b0 : ¬ ((x.rows.length : Int) < (x.rows.length : Int)) := by omega
      go_wp2_with fail
      refine (HTW.out W hbr).mono ?_
      rintro en w8 ⟨rfl, hb8⟩
      have hbw8 := hbr.trans (hb8.mono hzr)
      have hbw := hb0.trans (hbw8.mono hz0)
      clear x0 x1 x2 x3 x4 x5 x6 x7 x8 x9 x10 x11 HTW
      obtain ⟨x0, x1, x2, x3, x4, x5, x6, x7, x8, x9, x10, x11⟩ := HSH.out w8 hbw8
      cases D
      case true =>
        have HF : Hid (R = 7) := HRR.out.symm
        go_wp2_with fail
        go_ret
        exact ⟨by rw [HF.out]; rfl, hbw⟩
      case false =>
        have HO := Lib.hid (HOR.out rfl)
        have HF : Hid (R = 0) := HRR.out.symm
        clear HOR HRR
        go_wp2_with fail
        go_loopw [41] (fun i wr => i = .int .i64 0 ∧ wr = w8) (fun i _ => 0)
        case atStart => exact ⟨rfl, rfl⟩
        case round =>
          obtain ⟨rfl, rfl⟩ := hrel
          go_wp2_with fail
          go_loopw [8] (fun i wr => ∃ j : Nat, 1 ≤ j ∧ j ≤ x.rows.length + 1 ∧ i = .int .i64 j ∧ Below w0.heap.size w0 wr) (fun i _ => x.rows.length + 1 - (intOf i).toNat)
          case atStart => exact ⟨1, by omega, by omega, rfl, hbw8⟩
          case round =>
            obtain ⟨j, hj1, hj, rfl, hbr⟩ := hrel
            clear x0 x1 x2 x3 x4 x5 x6 x7 x8 x9 x10 x11
            obtain ⟨x0, x1, x2, x3, x4, x5, x6, x7, x8, x9, x10, x11⟩ := HSH.out wr hbr
            obtain ⟨W, rfl⟩ : ∃ W, W = wr := ⟨_, rfl⟩
            have hzr := hbr.size
            by_cases hlt : j < x.rows.length
            · obtain ⟨i, rfl⟩ : ∃ i, j = i + 1 := ⟨j - 1, by omega⟩
              have hR := HRQ.out W hbr
              obtain ⟨b, off, r, A, c, rfl, hbB, hv, cr, hWr⟩ := hR.at_ (j := i) (by omega)
              obtain ⟨b', off', r', A', c', e1, hbB', hv', cr', hWr'⟩ := hR.at_ hlt
              cases e1
              have ho := HO.out i r r' hv hv'
              obtain ⟨h1, _⟩ := HCL.out r (List.mem_of_getElem? hv)
              obtain ⟨h1', _⟩ := HCL.out r' (List.mem_of_getElem? hv')
              obtain ⟨g, o, v, rfl, hg, hvv, c0, c1, c2⟩ := (hWr.s (B := W.heap.size) (fun b h => h)).at_ (j := col) h1
              obtain ⟨g', o', v', rfl, hg', hvv', d0, d1, d2⟩ := (hWr'.s (B := W.heap.size) (fun b h => h)).at_ (j := col) h1'
              have e1 : atV col r = v := by unfold atV; rw [List.getD_eq_getElem?_getD, hvv]; rfl
              have e2 : atV col r' = v' := by unfold atV; rw [List.getD_eq_getElem?_getD, hvv']; rfl
              rw [e1, e2] at ho
              unfold ordV at ho
              have HVO := Lib.hid (fun Z => vorder_any v.k v.i v.s v'.k v'.i v'.s Z)
              obtain ⟨O, hO⟩ : ∃ O, cord (goodV v.k v.i v.s) (goodV v'.k v'.i v'.s) = O := ⟨_, rfl⟩
              rw [hO] at HVO ho
              have i0 : ((i : Int) + 1) - 1 = (i : Int) := by omega
              have i8 : IntKind.i64.wrap (i : Int) = (i : Int) := IntWalk.i64_in _ (by omega)
              have i1 : (0 : Int) ≤ (i : Int) := by omega
              have i9 : (0 : Int) ≤ (i : Int) + 1 := by omega
              have i10 : (i : Int) + 1 < (x.rows.length : Int) := by omega
              have i2 : (i : Int) < (x.rows.length : Int) := by omega
              have i5 : (0 : Int) ≤ (col : Int) := by omega
              have i6 : (col : Int) < (r.length : Int) := by omega
              have i7 : (col : Int) < (r'.length : Int) := by omega
              have o1 : ¬ (0 ≤ O) := by omega
              have o2 : decide (O ≥ 0) = false := by simp; omega
              have HSK : Hid (∀ w' : World, Below W.heap.size W w' → (w'.cell? ⟨w.heap.size, 2, none⟩ = some (.int .i64 (col : Int)) ∧ w'.cell? ⟨w.heap.size, 11, none⟩ = some (.slice (some ⟨b, off, none⟩) x.rows.length k5) ∧ w'.cell? ⟨b, off + i, none⟩ = some (.slice (some ⟨g, o, none⟩) r.length c) ∧ w'.cell? ⟨b, off + (i + 1), none⟩ = some (.slice (some ⟨g', o', none⟩) r'.length c') ∧ (w'.cell? ⟨g, o + col * 3, none⟩ = some (.int .i64 v.k) ∧ w'.cell? ⟨g, o + col * 3 + 1, none⟩ = some (.int .i64 v.i) ∧ w'.cell? ⟨g, o + col * 3 + 2, none⟩ = some (.string ⟨v.s.toArray⟩)) ∧ (w'.cell? ⟨g', o' + col * 3, none⟩ = some (.int .i64 v'.k) ∧ w'.cell? ⟨g', o' + col * 3 + 1, none⟩ = some (.int .i64 v'.i) ∧ w'.cell? ⟨g', o' + col * 3 + 2, none⟩ = some (.string ⟨v'.s.toArray⟩)))) := fun w' h => ⟨(h.cell (p := ⟨w.heap.size, 2, none⟩) (show w.heap.size < _ by omega)).trans x2, (h.cell (p := ⟨w.heap.size, 11, none⟩) (show w.heap.size < _ by omega)).trans x11, (h.cell (p := ⟨b, off + i, none⟩) hbB).trans cr, (h.cell (p := ⟨b, off + (i + 1), none⟩) hbB).trans cr', ⟨(h.cell (p := ⟨g, o + col * 3, none⟩) hg).trans c0, (h.cell (p := ⟨g, o + col * 3 + 1, none⟩) hg).trans c1, (h.cell (p := ⟨g, o + col * 3 + 2, none⟩) hg).trans c2⟩, ⟨(h.cell (p := ⟨g', o' + col * 3, none⟩) hg').trans d0, (h.cell (p := ⟨g', o' + col * 3 + 1, none⟩) hg').trans d1, (h.cell (p := ⟨g', o' + col * 3 + 2, none⟩) hg').trans d2⟩⟩
              clear hv hv' e1 e2 hvv hvv' hO hR hWr hWr' h1 h1'
              go_wp2_with fail
              skip
              refine wp_region_held_drew (S := (fun w' => w'.cell? ⟨w.heap.size, 2, none⟩ = some (.int .i64 (col : Int)) ∧ w'.cell? ⟨w.heap.size, 11, none⟩ = some (.slice (some ⟨b, off, none⟩) x.rows.length k5) ∧ w'.cell? ⟨b, off + i, none⟩ = some (.slice (some ⟨g, o, none⟩) r.length c) ∧ w'.cell? ⟨b, off + (i + 1), none⟩ = some (.slice (some ⟨g', o', none⟩) r'.length c') ∧ (w'.cell? ⟨g, o + col * 3, none⟩ = some (.int .i64 v.k) ∧ w'.cell? ⟨g, o + col * 3 + 1, none⟩ = some (.int .i64 v.i) ∧ w'.cell? ⟨g, o + col * 3 + 2, none⟩ = some (.string ⟨v.s.toArray⟩)) ∧ (w'.cell? ⟨g', o' + col * 3, none⟩ = some (.int .i64 v'.k) ∧ w'.cell? ⟨g', o' + col * 3 + 1, none⟩ = some (.int .i64 v'.i) ∧ w'.cell? ⟨g', o' + col * 3 + 2, none⟩ = some (.string ⟨v'.s.toArray⟩)))) (by kernel_rfl) ?_ (fun hHeld => ?_)
              · try dsimp only
                exact HSK.out _ (by exact bl)
              refine wpAnyT_start [0, 1, 2, 3, 4, 5, 6, 7, 8, 9, 10, 11, 12, 13, 14, 15, 16, 17, 18, 19, 20] ?_
              iterate 21
                refine wpAnyT_cons (v := ?_) rfl (by kernel_rfl) (by kernel_rfl) (by kernel_rfl) (fun _ _ _ h => h) (Or.inl ⟨by rfl, ?_⟩) (by assumption) ?_
                rotate_left
                · intro wq hSw
                  try dsimp only at hSw
                  go_simp
                  try with_reducible rfl
                try simp only [Act.put, List.getElem_toArray, List.getElem_cons_zero, List.getElem_cons_succ, List.setIfInBounds_toArray, List.set_cons_zero, List.set_cons_succ]
              refine wpAnyT_nil ?_
              refine wpAnyH_ready (rs := [21]) (by kernel_rfl) (by simp) ?_
              refine AllReadyH.cons rfl (fun K hK => ?_) AllReadyH.nil
              go_simp
              (refine (HVO.out _).mono ?_) <;> rintro en w9 ⟨rfl, hb9⟩
              go_wp2_with fail
              refine hK.out _ _ ?_ (fun hHeld => ?_)
              · try dsimp only
                exact HSK.out _ (by exact bl)
              clear hK K
              try simp only [Act.put, List.getElem_toArray, List.getElem_cons_zero, List.getElem_cons_succ, List.setIfInBounds_toArray, List.set_cons_zero, List.set_cons_succ]
              refine wpAnyH_take (i := 22) (v := ?_) rfl (by kernel_rfl) (by kernel_rfl) (by kernel_rfl) (fun _ _ _ h => h) (Or.inl ⟨by rfl, ?_⟩) (by assumption) ?_
              rotate_left
              · intro wq hSw
                try dsimp only at hSw
                go_simp
                try with_reducible rfl
              try simp only [Act.put, List.getElem_toArray, List.getElem_cons_zero, List.getElem_cons_succ, List.setIfInBounds_toArray, List.set_cons_zero, List.set_cons_succ]
              refine wpAnyH_done (by kernel_rfl) ?_ _
              go_wp2_with fail
              go_roundw
              case rel => exact ⟨i + 1 + 1, by omega, by omega, by go_num, (Below.drew hbr).trans (hb9.mono hzr)⟩
              case measure => simp [intOf]; omega
            · have b0 : ¬ ((j : Int) < (x.rows.length : Int)) := by omega
              go_wp2_with fail
              go_ret
              exact ⟨by rw [HF.out]; rfl, hb0.trans (hbr.mono hz0)⟩

end Go.Proofs.YtdhjogmkhbpcgaaGreat

namespace Go.Proofs.YtdhjogmkhbpcgaaGreat
open Go.RowKit

attribute [local go_sem] ByteArray.extract_mk ba_get ba_append
attribute [local go_sem ↓] Go.wp_at_zero Go.wp_at_succ run_eql_V run_neq_V

def exKc : Ex := .mk opCol V.zero [107] []
def exLitK : Ex := .mk opLit ⟨1, 3, []⟩ [] []
theorem exLitK_fit : exLitK.fit 1000 := ⟨⟨by decide, by decide⟩, by decide, by decide, by decide⟩
def exKw : Ex := .mk opLt V.zero [] [exKc, exLitK]
def rlK (a b c : Int) : Rl := ⟨tbK, [rowK a, rowK b, rowK c]⟩
theorem iq_block {w : World} {g : Nat} {e : TypeId} {a b c : Int} (h : Blk w g e #[.int .i64 a, .int .i64 b, .int .i64 c]) : IQ [a, b, c] (some ⟨g, 0, none⟩) (Old w.heap.size) w := fun _ => ⟨g, 0, rfl, h.lt, fun i x hx => by
  rw [h.cell, Nat.zero_add]
  match i, hx with
  | 0, hx => cases hx; rfl
  | 1, hx => cases hx; rfl
  | 2, hx => cases hx; rfl⟩
theorem someK_any (a b c : Int) (X : World) (g : Nat) (hk : Blk X g 2 #[.int .i64 a, .int .i64 b, .int .i64 c]) :
    Calls Tryz.prog 29 #[.slice (some ⟨g, 0, none⟩) 3 3] X fun en w' => ∃ a1 k1 a2 k2 a3 k3 a4 k4 a5 k5, en = .returned (.agg #[.string ⟨#[116]⟩, .slice a1 1 k1, .int .i64 0, .slice a2 0 k2, .slice a3 0 k3, .string ⟨#[]⟩, .int .i64 0, .int .i64 0, .string ⟨#[]⟩, .string ⟨#[]⟩, .slice a4 0 k4, .slice a5 3 k5]) ∧
      RlQ 1000 (rlK a b c) ⟨⟨⟨a1, k1⟩, ⟨a2, k2⟩, ⟨a3, k3⟩, ⟨a4, k4⟩⟩, ⟨a5, k5⟩⟩ (Old w'.heap.size) w' ∧ 3 ≤ k5 ∧ Below X.heap.size X w' := by
  have h := some_any [a, b, c] (some ⟨g, 0, none⟩) 3 X (by simp) (iq_block hk)
  refine h.mono ?_
  rintro en w' ⟨⟨⟨⟨a1, k1⟩, ⟨a2, k2⟩, ⟨a3, k3⟩, ⟨a4, k4⟩⟩, ⟨a5, k5⟩⟩, rfl, hQ, hc, _, hb⟩
  exact ⟨a1, k1, a2, k2, a3, k3, a4, k4, a5, k5, rfl, hQ.keep fun b h => ⟨h.2, fun _ => rfl⟩, hc, hb⟩
theorem tbK_small : tbK.small := ⟨by decide, by decide, by decide, by decide, by decide, by decide, ⟨zero_in, by decide, by decide, by decide⟩, by decide⟩
theorem rowK_in {k : Int} (h : fitI k) : (rowK k).length ≤ 1000 ∧ ∀ v ∈ rowK k, fitI v.i := ⟨by simp [rowK], by intro v hv; simp only [rowK, List.mem_singleton] at hv; rw [hv]; exact h⟩
theorem rlK_rows {a b c : Int} (ha : fitI a) (hb : fitI b) (hc : fitI c) : ∀ r ∈ (rlK a b c).rows, r.length ≤ 1000 ∧ ∀ v ∈ r, fitI v.i := by
  intro r hr
  simp only [rlK, List.mem_cons, List.not_mem_nil, or_false] at hr
  rcases hr with rfl | rfl | rfl
  · exact rowK_in ha
  · exact rowK_in hb
  · exact rowK_in hc
theorem exK_S {X : World} {g : Nat} (h : Blk X g 29 #[.string ⟨#[99, 111, 108]⟩, .int .i64 0, .int .i64 0, .string ⟨#[]⟩, .string ⟨#[107]⟩, .slice none 0 0, .string ⟨#[108, 105, 116]⟩, .int .i64 1, .int .i64 3, .string ⟨#[]⟩, .string ⟨#[]⟩, .slice none 0 0]) : ExS 1000 1 X X.heap.size (some ⟨g, 0, none⟩) exKw.l :=
  exS_two (n := 0) (e := exKc) (e' := exLitK) (A := none) (A' := none) (c := 0) (c' := 0) h ⟨zero_in, by decide, by decide, by decide⟩ (Nat.le_refl _) (Nat.zero_le _) (ExS.nil 0) exLitK_fit (Nat.le_refl _) (Nat.zero_le _) (ExS.nil 0)
theorem whereK : whereX (rlK 1 2 3).t.cols (rlK 1 2 3).rows exKw = ([rowK 1, rowK 2], 0) := by kernel_rfl
section
variable {a1 a2 a3 a4 a5 : Option Addr} {k1 k2 k3 k4 k5 : Nat}
theorem whereK_any (X : World) (g : Nat) (hQ : RlQ 1000 (rlK 1 2 3) ⟨⟨⟨a1, k1⟩, ⟨a2, k2⟩, ⟨a3, k3⟩, ⟨a4, k4⟩⟩, ⟨a5, k5⟩⟩ (Old X.heap.size) X)
    (h : Blk X g 29 #[.string ⟨#[99, 111, 108]⟩, .int .i64 0, .int .i64 0, .string ⟨#[]⟩, .string ⟨#[107]⟩, .slice none 0 0, .string ⟨#[108, 105, 116]⟩, .int .i64 1, .int .i64 3, .string ⟨#[]⟩, .string ⟨#[]⟩, .slice none 0 0]) :
    Calls Tryz.prog 10 #[.agg #[.string ⟨#[116]⟩, .slice a1 1 k1, .int .i64 0, .slice a2 0 k2, .slice a3 0 k3, .string ⟨#[]⟩, .int .i64 0, .int .i64 0, .string ⟨#[]⟩, .string ⟨#[]⟩, .slice a4 0 k4, .slice a5 3 k5], .agg #[.string ⟨#[60]⟩, .int .i64 0, .int .i64 0, .string ⟨#[]⟩, .string ⟨#[]⟩, .slice (some ⟨g, 0, none⟩) 2 2]] X
      fun en w' => ∃ A c, en = .returned (.tuple #[.slice A 2 c, .int .i64 0]) ∧ RQ [rowK 1, rowK 2] A (Old w'.heap.size) w' ∧ Below X.heap.size X w' := by
  have h := where_any (rlK 1 2 3) ⟨⟨⟨a1, k1⟩, ⟨a2, k2⟩, ⟨a3, k3⟩, ⟨a4, k4⟩⟩, ⟨a5, k5⟩⟩ exKw (some ⟨g, 0, none⟩) 2 1 X ⟨by decide, by decide, rlK_rows ⟨by decide, by decide⟩ ⟨by decide, by decide⟩ ⟨by decide, by decide⟩⟩ hQ ⟨zero_in, by decide, by decide, by decide⟩ (exK_S h)
  rw [whereK] at h
  refine h.mono ?_
  rintro en w' ⟨A, c, rfl, _, _, hR, hb⟩
  exact ⟨A, c, rfl, hR.keep fun b h => ⟨h.2, fun _ => rfl⟩, hb⟩
theorem sameK_any (X : World) (A : Option Addr) (c : Nat) (hA : RQ [rowK 1, rowK 2] A (Old X.heap.size) X) (hQ : RlQ 1000 (rlK 1 2 3) ⟨⟨⟨a1, k1⟩, ⟨a2, k2⟩, ⟨a3, k3⟩, ⟨a4, k4⟩⟩, ⟨a5, k5⟩⟩ (Old X.heap.size) X) :
    Calls Tryz.prog 13 #[.slice A 2 c, .slice a5 2 k5] X (Ret (.bool true) X) := by
  have hB : RQ [rowK 1, rowK 2] a5 (Old X.heap.size) X := hQ.2.take 2
  have hm : ∀ r ∈ [rowK 1, rowK 2], r.length ≤ maxLen := by decide
  have h := sameRows_any A a5 c k5 [rowK 1, rowK 2] [rowK 1, rowK 2] X (by decide) (by decide) hA hB hm hm
  rw [rowsSame_self] at h
  exact h
theorem findK : findF (rlK 1 2 3) ⟨1, 2, []⟩ = 1 := by kernel_rfl
theorem findK_any (X : World) (hQ : RlQ 1000 (rlK 1 2 3) ⟨⟨⟨a1, k1⟩, ⟨a2, k2⟩, ⟨a3, k3⟩, ⟨a4, k4⟩⟩, ⟨a5, k5⟩⟩ (Old X.heap.size) X) :
    Calls Tryz.prog 30 #[.agg #[.string ⟨#[116]⟩, .slice a1 1 k1, .int .i64 0, .slice a2 0 k2, .slice a3 0 k3, .string ⟨#[]⟩, .int .i64 0, .int .i64 0, .string ⟨#[]⟩, .string ⟨#[]⟩, .slice a4 0 k4, .slice a5 3 k5], .agg #[.int .i64 1, .int .i64 2, .string ⟨#[]⟩]] X (Ret (.int .i64 1) X) := by
  have h := find_any (rlK 1 2 3) ⟨⟨⟨a1, k1⟩, ⟨a2, k2⟩, ⟨a3, k3⟩, ⟨a4, k4⟩⟩, ⟨a5, k5⟩⟩ ⟨1, 2, []⟩ X tbK_small (by decide) hQ
  rw [findK] at h
  exact h
theorem mayK : mayTb tbK = true := by kernel_rfl
theorem fitK1 : fitsX tbK (rowK 1) = 0 := by kernel_rfl
theorem fitK2 : fitsX tbK (rowK 2) = 0 := by kernel_rfl
theorem fitK3 : fitsX tbK (rowK 3) = 0 := by kernel_rfl
theorem ordK12 : ordV ⟨1, 1, []⟩ ⟨1, 2, []⟩ < 0 := by decide
theorem ordK23 : ordV ⟨1, 2, []⟩ ⟨1, 3, []⟩ < 0 := by decide
theorem rowsK3 : (rlK 1 2 3).rows = [rowK 1, rowK 2, rowK 3] := rfl
theorem checkK3_any (X : World) (hQ : RlQ 1000 (rlK 1 2 3) ⟨⟨⟨a1, k1⟩, ⟨a2, k2⟩, ⟨a3, k3⟩, ⟨a4, k4⟩⟩, ⟨a5, k5⟩⟩ (Old X.heap.size) X) :
    Calls Tryz.prog 31 #[.agg #[.string ⟨#[116]⟩, .slice a1 1 k1, .int .i64 0, .slice a2 0 k2, .slice a3 0 k3, .string ⟨#[]⟩, .int .i64 0, .int .i64 0, .string ⟨#[]⟩, .string ⟨#[]⟩, .slice a4 0 k4, .slice a5 3 k5]] X (Ret (.int .i64 0) X) := by
  have hf : ∀ r ∈ (rlK 1 2 3).rows, fitsX (rlK 1 2 3).t r = 0 := by
    intro r hr
    simp only [rowsK3, List.mem_cons, List.not_mem_nil, or_false] at hr
    rcases hr with rfl | rfl | rfl
    · exact fitK1
    · exact fitK2
    · exact fitK3
  have hc : ∀ r ∈ (rlK 1 2 3).rows, 0 < r.length ∧ ¬ (atV 0 r).k = 0 := by
    intro r hr
    simp only [rowsK3, List.mem_cons, List.not_mem_nil, or_false] at hr
    rcases hr with rfl | rfl | rfl <;> simp [rowK, atV]
  have hd : dupF [] ((rlK 1 2 3).rows.map (atV 0)) = false := by decide
  have ho : false = false → ∀ i a b, (rlK 1 2 3).rows[i]? = some a → (rlK 1 2 3).rows[i + 1]? = some b → ordV (atV 0 a) (atV 0 b) < 0 := by
    intro _ i a b h1 h2
    match i, h1, h2 with
    | 0, h1, h2 => cases h1; cases h2; exact ordK12
    | 1, h1, h2 => cases h1; cases h2; exact ordK23
    | i + 2, h1, h2 => simp [rlK] at h2
  have h := relCheck_any (rlK 1 2 3) ⟨⟨⟨a1, k1⟩, ⟨a2, k2⟩, ⟨a3, k3⟩, ⟨a4, k4⟩⟩, ⟨a5, k5⟩⟩ 0 X tbK_small (by simp [rlK]) (rlK_rows ⟨by decide, by decide⟩ ⟨by decide, by decide⟩ ⟨by decide, by decide⟩) hQ mayK hf hc rfl rfl false hd ho
  exact h
theorem rowsK2 : (rlK 1 2 2).rows = [rowK 1, rowK 2, rowK 2] := rfl
theorem checkK2_any (X : World) (hQ : RlQ 1000 (rlK 1 2 2) ⟨⟨⟨a1, k1⟩, ⟨a2, k2⟩, ⟨a3, k3⟩, ⟨a4, k4⟩⟩, ⟨a5, k5⟩⟩ (Old X.heap.size) X) :
    Calls Tryz.prog 31 #[.agg #[.string ⟨#[116]⟩, .slice a1 1 k1, .int .i64 0, .slice a2 0 k2, .slice a3 0 k3, .string ⟨#[]⟩, .int .i64 0, .int .i64 0, .string ⟨#[]⟩, .string ⟨#[]⟩, .slice a4 0 k4, .slice a5 3 k5]] X (Ret (.int .i64 7) X) := by
  have hf : ∀ r ∈ (rlK 1 2 2).rows, fitsX (rlK 1 2 2).t r = 0 := by
    intro r hr
    simp only [rowsK2, List.mem_cons, List.not_mem_nil, or_false] at hr
    rcases hr with rfl | rfl | rfl
    · exact fitK1
    · exact fitK2
    · exact fitK2
  have hc : ∀ r ∈ (rlK 1 2 2).rows, 0 < r.length ∧ ¬ (atV 0 r).k = 0 := by
    intro r hr
    simp only [rowsK2, List.mem_cons, List.not_mem_nil, or_false] at hr
    rcases hr with rfl | rfl | rfl <;> simp [rowK, atV]
  have hd : dupF [] ((rlK 1 2 2).rows.map (atV 0)) = true := by decide
  have ho : true = false → ∀ i a b, (rlK 1 2 2).rows[i]? = some a → (rlK 1 2 2).rows[i + 1]? = some b → ordV (atV 0 a) (atV 0 b) < 0 := by
    intro e
    cases e
  have h := relCheck_any (rlK 1 2 2) ⟨⟨⟨a1, k1⟩, ⟨a2, k2⟩, ⟨a3, k3⟩, ⟨a4, k4⟩⟩, ⟨a5, k5⟩⟩ 0 X tbK_small (by simp [rlK]) (rlK_rows ⟨by decide, by decide⟩ ⟨by decide, by decide⟩ ⟨by decide, by decide⟩) hQ mayK hf hc rfl rfl true hd ho
  exact h
end

set_option maxRecDepth 100000 in
set_option maxHeartbeats 2000000 in
theorem awake7_any (w : World) : Calls Tryz.prog 12 #[] w (Ret (.bool true) w) := by
  obtain ⟨w1, hw1⟩ : ∃ w1, w.alloc (.cells #[.int .i64 1, .int .i64 2, .int .i64 3] 2) = w1 := ⟨_, rfl⟩
  have hb1 : Below w.heap.size w w1 := by rw [← hw1]; exact bl
  have HS := Lib.hid (someK_any 1 2 3 w1 w.heap.size (by rw [← hw1]; exact Blk.new _ _ _))
  have HW1 := Lib.hid hw1
  clear hw1
  go_enter Tryz.func12, Tryz.ntmps12
  go_wp2_with fail
  rw [HW1.out]
  refine HS.out.mono ?_
  rintro en w2 ⟨a1, k1, a2, k2, a3, k3, a4, k4, a5, k5, rfl, hQ2, hc5, hb2⟩
  have hbw2 := hb1.trans (hb2.mono hb1.size)
  clear HW1 HS hb1 hb2
  obtain ⟨w3, hw3⟩ : ∃ w3, (w2.alloc (.cells #[.string ⟨#[116]⟩, .slice a1 1 k1, .int .i64 0, .slice a2 0 k2, .slice a3 0 k3, .string ⟨#[]⟩, .int .i64 0, .int .i64 0, .string ⟨#[]⟩, .string ⟨#[]⟩, .slice a4 0 k4, .slice a5 3 k5] 34)).alloc (.cells #[.string ⟨#[99, 111, 108]⟩, .int .i64 0, .int .i64 0, .string ⟨#[]⟩, .string ⟨#[107]⟩, .slice none 0 0, .string ⟨#[108, 105, 116]⟩, .int .i64 1, .int .i64 3, .string ⟨#[]⟩, .string ⟨#[]⟩, .slice none 0 0] 29) = w3 := ⟨_, rfl⟩
  have kx3 : Blk w3 w2.heap.size 34 #[.string ⟨#[116]⟩, .slice a1 1 k1, .int .i64 0, .slice a2 0 k2, .slice a3 0 k3, .string ⟨#[]⟩, .int .i64 0, .int .i64 0, .string ⟨#[]⟩, .string ⟨#[]⟩, .slice a4 0 k4, .slice a5 3 k5] := by rw [← hw3]; exact (Blk.new _ _ _).alloc _
  have ke3 : Blk w3 (w2.heap.size + 1) 29 #[.string ⟨#[99, 111, 108]⟩, .int .i64 0, .int .i64 0, .string ⟨#[]⟩, .string ⟨#[107]⟩, .slice none 0 0, .string ⟨#[108, 105, 116]⟩, .int .i64 1, .int .i64 3, .string ⟨#[]⟩, .string ⟨#[]⟩, .slice none 0 0] := by rw [← hw3]; exact Blk.new' _ _ _ _ (by simp)
  have hb3 : Below w2.heap.size w2 w3 := by rw [← hw3]; exact bl
  have hQY : Hid (∀ Y : World, Below w2.heap.size w2 Y → RlQ 1000 (rlK 1 2 3) ⟨⟨⟨a1, k1⟩, ⟨a2, k2⟩, ⟨a3, k3⟩, ⟨a4, k4⟩⟩, ⟨a5, k5⟩⟩ (Old Y.heap.size) Y) := fun Y h => hQ2.keep (old_keep h h.size)
  have HWH := Lib.hid (whereK_any w3 _ (hQY.out w3 hb3) ke3)
  have HW3 := Lib.hid hw3
  clear hw3 ke3 hQ2
  go_wp2_with fail
  rw [HW3.out]
  refine HWH.out.mono ?_
  rintro en w4 ⟨A, c, rfl, hR4, hb4⟩
  clear HW3 HWH
  have hbx4 : Below w2.heap.size w2 w4 := hb3.trans (hb4.mono hb3.size)
  have kx4 := kx3.below hb4 kx3.lt
  have lx4 := kx4.lt
  have HSH : Hid (∀ Y : World, Below w4.heap.size w4 Y → Blk Y w2.heap.size 34 #[.string ⟨#[116]⟩, .slice a1 1 k1, .int .i64 0, .slice a2 0 k2, .slice a3 0 k3, .string ⟨#[]⟩, .int .i64 0, .int .i64 0, .string ⟨#[]⟩, .string ⟨#[]⟩, .slice a4 0 k4, .slice a5 3 k5]) := fun Y h => kx4.below h lx4
  have hqY : Hid (∀ Y : World, Below w4.heap.size w4 Y → RlQ 1000 (rlK 1 2 3) ⟨⟨⟨a1, k1⟩, ⟨a2, k2⟩, ⟨a3, k3⟩, ⟨a4, k4⟩⟩, ⟨a5, k5⟩⟩ (Old Y.heap.size) Y) := fun Y h => hQY.out Y (hbx4.trans (h.mono hbx4.size))
  have HSM := Lib.hid (sameK_any w4 A c hR4 (hqY.out w4 (Below.refl _ _)))
  clear hQY hR4 kx3 kx4
  have q11 := (HSH.out w4 (Below.refl _ _)).cell 11
  simp at q11
  have hcap : (2 : Int) ≤ (k5 : Int) := by omega
  have hcap2 : ¬ ((k5 : Int) < 2) := by omega
  go_wp2_with fail
  refine HSM.out.mono ?_
  rintro en w5 ⟨rfl, hb5⟩
  clear HSM q11
  have HFN := Lib.hid (findK_any w5 (hqY.out w5 hb5))
  have hb5' := hb5
  have q0 := (HSH.out w5 (by exact bl)).cell 0
  have q1 := (HSH.out w5 (by exact bl)).cell 1
  have q2 := (HSH.out w5 (by exact bl)).cell 2
  have q3 := (HSH.out w5 (by exact bl)).cell 3
  have q4 := (HSH.out w5 (by exact bl)).cell 4
  have q5 := (HSH.out w5 (by exact bl)).cell 5
  have q6 := (HSH.out w5 (by exact bl)).cell 6
  have q7 := (HSH.out w5 (by exact bl)).cell 7
  have q8 := (HSH.out w5 (by exact bl)).cell 8
  have q9 := (HSH.out w5 (by exact bl)).cell 9
  have q10 := (HSH.out w5 (by exact bl)).cell 10
  have q11 := (HSH.out w5 (by exact bl)).cell 11
  simp at q0 q1 q2 q3 q4 q5 q6 q7 q8 q9 q10 q11
  go_wp2_with fail
  refine HFN.out.mono ?_
  rintro en w6 ⟨rfl, hb6⟩
  have hb46 : Below w4.heap.size w4 w6 := hb5.trans (hb6.mono hb5.size)
  clear HFN q0 q1 q2 q3 q4 q5 q6 q7 q8 q9 q10 q11
  have HCH := Lib.hid (checkK3_any w6 (hqY.out w6 hb46))
  have q0 := (HSH.out w6 (by exact bl)).cell 0
  have q1 := (HSH.out w6 (by exact bl)).cell 1
  have q2 := (HSH.out w6 (by exact bl)).cell 2
  have q3 := (HSH.out w6 (by exact bl)).cell 3
  have q4 := (HSH.out w6 (by exact bl)).cell 4
  have q5 := (HSH.out w6 (by exact bl)).cell 5
  have q6 := (HSH.out w6 (by exact bl)).cell 6
  have q7 := (HSH.out w6 (by exact bl)).cell 7
  have q8 := (HSH.out w6 (by exact bl)).cell 8
  have q9 := (HSH.out w6 (by exact bl)).cell 9
  have q10 := (HSH.out w6 (by exact bl)).cell 10
  have q11 := (HSH.out w6 (by exact bl)).cell 11
  simp at q0 q1 q2 q3 q4 q5 q6 q7 q8 q9 q10 q11
  go_wp2_with fail
  refine HCH.out.mono ?_
  rintro en w7 ⟨rfl, hb7⟩
  have hb47 : Below w4.heap.size w4 w7 := hb46.trans (hb7.mono hb46.size)
  clear HCH q0 q1 q2 q3 q4 q5 q6 q7 q8 q9 q10 q11
  obtain ⟨w8, hw8⟩ : ∃ w8, w7.alloc (.cells #[.int .i64 1, .int .i64 2, .int .i64 2] 2) = w8 := ⟨_, rfl⟩
  have hb8 : Below w7.heap.size w7 w8 := by rw [← hw8]; exact bl
  have HS2 := Lib.hid (someK_any 1 2 2 w8 w7.heap.size (by rw [← hw8]; exact Blk.new _ _ _))
  have HW8 := Lib.hid hw8
  have hb48 : Below w4.heap.size w4 w8 := hb47.trans (hb8.mono hb47.size)
  clear hw8
  go_wp2_with fail
  rw [HW8.out]
  refine HS2.out.mono ?_
  rintro en w9 ⟨c1, l1, c2, l2, c3, l3, c4, l4, c5, l5, rfl, hQ9, _, hb9⟩
  have hb49 : Below w4.heap.size w4 w9 := hb48.trans (hb9.mono hb48.size)
  have HC2 := Lib.hid (checkK2_any w9 hQ9)
  clear HS2 HW8 hQ9
  go_wp2_with fail
  refine HC2.out.mono ?_
  rintro en w10 ⟨rfl, hb10⟩
  have hb410 : Below w4.heap.size w4 w10 := hb49.trans (hb10.mono hb49.size)
  have hfin : Below w.heap.size w w10 := (hbw2.trans (hbx4.mono hbw2.size)).trans (hb410.mono (Nat.le_trans hbw2.size hbx4.size))
  go_wp2_with fail
  go_ret
  exact ⟨rfl, hfin⟩

end Go.Proofs.YtdhjogmkhbpcgaaGreat
