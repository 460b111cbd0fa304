/- rel.Check at tables that may be, whose rows fit and rise or bear a key twice. Condition: a table with rows that reads as one, of the sizes that are looked at. -/
import Derived.Test.YtdhjogmkhbpcgaaMapVM
import Derived.Test.YtdhjogmkhbpcgaaFits
import Derived.IntWalk
namespace Go.Proofs.Ytdhjogmkhbpcgaa
open Go.RowKit

attribute [local go_sem] ByteArray.extract_mk ba_get ba_append
attribute [local go_sem ↓] Go.wp_at_zero Go.wp_at_succ run_eql_V run_neq_V

def ordV (a b : V) : Int := cord (goodV a.k a.i a.s) (goodV b.k b.i b.s)
set_option maxRecDepth 100000 in
set_option maxHeartbeats 8000000 in
theorem relCheck_any (x : Rl) (p : RlP) (col : Nat) (w : World) (hs : x.t.small) (hrw : x.rows.length ≤ 200) (hri : ∀ r ∈ x.rows, r.length ≤ 1000 ∧ ∀ v ∈ r, fitI v.i) (hQ : RlQ 1000 x p (Old w.heap.size) w)
    (hmay : mayTb x.t = true) (hfit : ∀ r ∈ x.rows, fitsX x.t r = 0) (hcl : ∀ r ∈ x.rows, col < r.length ∧ ¬ (atV col r).k = 0) (hkey : x.t.key = (col : Int)) (hu : x.t.uniq = []) (D : Bool) (hD : dupF [] (x.rows.map (atV col)) = D)
    (hor : D = false → ∀ i a b, x.rows[i]? = some a → x.rows[i + 1]? = some b → ordV (atV col a) (atV col b) < 0) :
    Calls Try.prog 17 #[.agg (x.cells p).toArray] w (Ret (.int .i64 (if D then 7 else 0)) w) := by
  obtain ⟨⟨⟨a1, k1⟩, ⟨a2, k2⟩, ⟨a3, k3⟩, ⟨a4, k4⟩⟩, ⟨a5, k5⟩⟩ := p
  obtain ⟨R, hRR⟩ : ∃ R : Int, (if D then 7 else 0) = R := ⟨_, rfl⟩
  rw [hRR]
  have HRR := Lib.hid hRR
  clear hRR
  obtain ⟨w0, hw0⟩ : ∃ w0, w.alloc (.cells (x.cells ⟨⟨⟨a1, k1⟩, ⟨a2, k2⟩, ⟨a3, k3⟩, ⟨a4, k4⟩⟩, ⟨a5, k5⟩⟩).toArray 34) = w0 := ⟨_, rfl⟩
  have kx0 : Blk w0 w.heap.size 34 (x.cells ⟨⟨⟨a1, k1⟩, ⟨a2, k2⟩, ⟨a3, k3⟩, ⟨a4, k4⟩⟩, ⟨a5, k5⟩⟩).toArray := by rw [← hw0]; exact Blk.new _ _ _
  have hb0 : Below w.heap.size w w0 := by rw [← hw0]; ((repeat' (first | with_reducible exact Below.refl _ _ | with_reducible assumption | with_reducible refine Below.drew ?_ | with_reducible refine below_drewN ?_ _ | with_reducible refine Below.setCell ?_ ?_ _ | with_reducible refine Below.alloc ?_ ?_ _ | with_reducible refine Below.trans ?_ (Below.mono (by assumption) ?_))) <;> (first | (simp; done) | (simp; omega) | omega))
  have hz0 := hb0.size
  have lt0 := kx0.lt
  have HSH : Hid (∀ w' : World, Below w0.heap.size w0 w' → (w'.cell? ⟨w.heap.size, 0, none⟩ = some (.string ⟨x.t.n.toArray⟩) ∧ w'.cell? ⟨w.heap.size, 1, none⟩ = some (.slice a1 x.t.cols.length k1) ∧ w'.cell? ⟨w.heap.size, 2, none⟩ = some (.int .i64 (col : Int)) ∧ w'.cell? ⟨w.heap.size, 3, none⟩ = some (.slice a2 0 k2) ∧ w'.cell? ⟨w.heap.size, 4, none⟩ = some (.slice a3 x.t.refs.length k3) ∧ w'.cell? ⟨w.heap.size, 5, none⟩ = some (.string ⟨x.t.chk.op.toArray⟩) ∧ w'.cell? ⟨w.heap.size, 6, none⟩ = some (.int .i64 x.t.chk.v.k) ∧ w'.cell? ⟨w.heap.size, 7, none⟩ = some (.int .i64 x.t.chk.v.i) ∧ w'.cell? ⟨w.heap.size, 8, none⟩ = some (.string ⟨x.t.chk.v.s.toArray⟩) ∧ w'.cell? ⟨w.heap.size, 9, none⟩ = some (.string ⟨x.t.chk.s.toArray⟩) ∧ w'.cell? ⟨w.heap.size, 10, none⟩ = some (.slice a4 x.t.chk.l.length k4) ∧ w'.cell? ⟨w.heap.size, 11, none⟩ = some (.slice a5 x.rows.length k5))) := fun w' h => by
    have k := kx0.below h lt0
    have q3 : w'.cell? ⟨w.heap.size, 3, none⟩ = some (.slice a2 x.t.uniq.length k2) := k.cell 3
    rw [hu] at q3
    have q2 : w'.cell? ⟨w.heap.size, 2, none⟩ = some (.int .i64 x.t.key) := k.cell 2
    rw [hkey] at q2
    exact ⟨k.cell 0, k.cell 1, q2, q3, k.cell 4, k.cell 5, k.cell 6, k.cell 7, k.cell 8, k.cell 9, k.cell 10, k.cell 11⟩
  have hwx : ∀ Y : World, Below w0.heap.size w0 Y → Below w.heap.size w Y := fun Y h => hb0.trans (h.mono hb0.size)
  have hQY : ∀ Y : World, Below w0.heap.size w0 Y → RlQ 1000 x ⟨⟨⟨a1, k1⟩, ⟨a2, k2⟩, ⟨a3, k3⟩, ⟨a4, k4⟩⟩, ⟨a5, k5⟩⟩ (Old Y.heap.size) Y := fun Y h => hQ.keep (old_keep (hwx Y h) (hwx Y h).size)
  have HMY : Hid (∀ Y : World, Below w0.heap.size w0 Y → Calls Try.prog 30 #[.agg #[.string ⟨x.t.n.toArray⟩, .slice a1 x.t.cols.length k1, .int .i64 (col : Int), .slice a2 0 k2, .slice a3 x.t.refs.length k3, .string ⟨x.t.chk.op.toArray⟩, .int .i64 x.t.chk.v.k, .int .i64 x.t.chk.v.i, .string ⟨x.t.chk.v.s.toArray⟩, .string ⟨x.t.chk.s.toArray⟩, .slice a4 x.t.chk.l.length k4]] Y (Ret (.bool true) Y)) := fun Y h => by
    have := mayTb_any x.t ⟨⟨a1, k1⟩, ⟨a2, k2⟩, ⟨a3, k3⟩, ⟨a4, k4⟩⟩ Y hs (hQY Y h).1
    rw [hmay] at this
    dsimp only [Tb.cells] at this
    rw [hkey, hu] at this
    exact this
  have HFT : Hid (∀ (Y : World) (r : List V) (A : Option Addr) (c : Nat), r ∈ x.rows → WQ r A (Old Y.heap.size) Y → Below w0.heap.size w0 Y → Calls Try.prog 31 #[.agg #[.string ⟨x.t.n.toArray⟩, .slice a1 x.t.cols.length k1, .int .i64 (col : Int), .slice a2 0 k2, .slice a3 x.t.refs.length k3, .string ⟨x.t.chk.op.toArray⟩, .int .i64 x.t.chk.v.k, .int .i64 x.t.chk.v.i, .string ⟨x.t.chk.v.s.toArray⟩, .string ⟨x.t.chk.s.toArray⟩, .slice a4 x.t.chk.l.length k4], .slice A r.length c] Y (Ret (.int .i64 0) Y)) := fun Y r A c hr hV h => by
    have := fits_any x.t ⟨⟨a1, k1⟩, ⟨a2, k2⟩, ⟨a3, k3⟩, ⟨a4, k4⟩⟩ r A c Y hs (hQY Y h).1 (hri r hr).1 (hri r hr).2 hV
    rw [hfit r hr] at this
    dsimp only [Tb.cells] at this
    rw [hkey, hu] at this
    exact this
  have HTW : Hid (∀ Y : World, Below w0.heap.size w0 Y → Calls Try.prog 32 #[.agg #[.string ⟨x.t.n.toArray⟩, .slice a1 x.t.cols.length k1, .int .i64 (col : Int), .slice a2 0 k2, .slice a3 x.t.refs.length k3, .string ⟨x.t.chk.op.toArray⟩, .int .i64 x.t.chk.v.k, .int .i64 x.t.chk.v.i, .string ⟨x.t.chk.v.s.toArray⟩, .string ⟨x.t.chk.s.toArray⟩, .slice a4 x.t.chk.l.length k4, .slice a5 x.rows.length k5], .int .i64 (col : Int)] Y (Ret (.bool D) Y)) := fun Y h => by
    have := twice_any x ⟨⟨⟨a1, k1⟩, ⟨a2, k2⟩, ⟨a3, k3⟩, ⟨a4, k4⟩⟩, ⟨a5, k5⟩⟩ col Y (by omega) hcl (hQY Y h).2
    rw [hD] at this
    dsimp only [Rl.cells] at this
    rw [hkey, hu] at this
    exact this
  have HRQ : Hid (∀ Y : World, Below w0.heap.size w0 Y → RQ x.rows a5 (Old Y.heap.size) Y) := fun Y h => (hQY Y h).2
  have HCL := Lib.hid hcl
  have HOR := Lib.hid hor
  have HW : Hid (w.alloc (.cells #[.string ⟨x.t.n.toArray⟩, .slice a1 x.t.cols.length k1, .int .i64 (col : Int), .slice a2 0 k2, .slice a3 x.t.refs.length k3, .string ⟨x.t.chk.op.toArray⟩, .int .i64 x.t.chk.v.k, .int .i64 x.t.chk.v.i, .string ⟨x.t.chk.v.s.toArray⟩, .string ⟨x.t.chk.s.toArray⟩, .slice a4 x.t.chk.l.length k4, .slice a5 x.rows.length k5] 34) = w0) := by
    show _ = _
    rw [← hw0]
    dsimp only [Rl.cells]
    rw [hkey, hu]
    rfl
  dsimp only [Rl.cells]
  rw [hkey, hu]
  clear hw0 hQ hri hmay hfit hcl hkey hu hD hor kx0 hwx hQY hs
  obtain ⟨x0, x1, x2, x3, x4, x5, x6, x7, x8, x9, x10, x11⟩ := HSH.out w0 (Below.refl _ _)
  go_enter Try.func17, Try.ntmps17
  go_upto_region 1 with fail
  rw [show w.alloc _ = w0 from HW.out]
  go_wp2_with fail
  refine (HMY.out w0 (Below.refl _ _)).mono ?_
  rintro en w1 ⟨rfl, hb1⟩
  clear HMY x0 x1 x2 x3 x4 x5 x6 x7 x8 x9 x10 x11
  obtain ⟨x0, x1, x2, x3, x4, x5, x6, x7, x8, x9, x10, x11⟩ := HSH.out w1 hb1
  have g1 : ¬ ((200 : Int) < (x.rows.length : Int)) := by omega
  go_wp2_with fail
  go_loopw [20] (fun i wr => ∃ j : Nat, j ≤ x.rows.length ∧ i = .int .i64 j ∧ Below w0.heap.size w0 wr) (fun i _ => x.rows.length - (intOf i).toNat)
  case atStart => exact ⟨0, by omega, rfl, hb1⟩
  case round =>
    obtain ⟨j, hj, rfl, hbr⟩ := hrel
    clear x0 x1 x2 x3 x4 x5 x6 x7 x8 x9 x10 x11
    obtain ⟨x0, x1, x2, x3, x4, x5, x6, x7, x8, x9, x10, x11⟩ := HSH.out wr hbr
    obtain ⟨W, rfl⟩ : ∃ W, W = wr := ⟨_, rfl⟩
    have hzr := hbr.size
    by_cases hlt : j < x.rows.length
    · obtain ⟨b, off, r, A', c', rfl, hbB, hv, cr, hWr⟩ := (HRQ.out W hbr).at_ hlt
      have HF1 := Lib.hid (HFT.out W r A' c' (List.mem_of_getElem? hv) hWr hbr)
      have i3 : (0 : Int) ≤ (j : Int) := by omega
      have i4 : (j : Int) < (x.rows.length : Int) := by omega
      clear hv hWr
      go_wp2_with fail
      refine HF1.out.mono ?_
      rintro en w7 ⟨rfl, hb7⟩
      go_wp2_with fail
      go_roundw
      case rel => exact ⟨j + 1, by omega, by go_num, hbr.trans (hb7.mono hzr)⟩
      case measure => simp [intOf]; omega
    · obtain rfl : j = x.rows.length := by omega
      have b0 : ¬ ((x.rows.length : Int) < (x.rows.length : Int)) := by omega
      go_wp2_with fail
      refine (HTW.out W hbr).mono ?_
      rintro en w8 ⟨rfl, hb8⟩
      have hbw8 := hbr.trans (hb8.mono hzr)
      have hbw := hb0.trans (hbw8.mono hz0)
      clear x0 x1 x2 x3 x4 x5 x6 x7 x8 x9 x10 x11 HTW
      obtain ⟨x0, x1, x2, x3, x4, x5, x6, x7, x8, x9, x10, x11⟩ := HSH.out w8 hbw8
      cases D
      case true =>
        have HF : Hid (R = 7) := HRR.out.symm
        go_wp2_with fail
        go_ret
        exact ⟨by rw [HF.out]; rfl, hbw⟩
      case false =>
        have HO := Lib.hid (HOR.out rfl)
        have HF : Hid (R = 0) := HRR.out.symm
        clear HOR HRR
        go_wp2_with fail
        go_loopw [41] (fun i wr => i = .int .i64 0 ∧ wr = w8) (fun i _ => 0)
        case atStart => exact ⟨rfl, rfl⟩
        case round =>
          obtain ⟨rfl, rfl⟩ := hrel
          go_wp2_with fail
          go_loopw [8] (fun i wr => ∃ j : Nat, 1 ≤ j ∧ j ≤ x.rows.length + 1 ∧ i = .int .i64 j ∧ Below w0.heap.size w0 wr) (fun i _ => x.rows.length + 1 - (intOf i).toNat)
          case atStart => exact ⟨1, by omega, by omega, rfl, hbw8⟩
          case round =>
            obtain ⟨j, hj1, hj, rfl, hbr⟩ := hrel
            clear x0 x1 x2 x3 x4 x5 x6 x7 x8 x9 x10 x11
            obtain ⟨x0, x1, x2, x3, x4, x5, x6, x7, x8, x9, x10, x11⟩ := HSH.out wr hbr
            obtain ⟨W, rfl⟩ : ∃ W, W = wr := ⟨_, rfl⟩
            have hzr := hbr.size
            by_cases hlt : j < x.rows.length
            · obtain ⟨i, rfl⟩ : ∃ i, j = i + 1 := ⟨j - 1, by omega⟩
              have hR := HRQ.out W hbr
              obtain ⟨b, off, r, A, c, rfl, hbB, hv, cr, hWr⟩ := hR.at_ (j := i) (by omega)
              obtain ⟨b', off', r', A', c', e1, hbB', hv', cr', hWr'⟩ := hR.at_ hlt
              cases e1
              have ho := HO.out i r r' hv hv'
              obtain ⟨h1, _⟩ := HCL.out r (List.mem_of_getElem? hv)
              obtain ⟨h1', _⟩ := HCL.out r' (List.mem_of_getElem? hv')
              obtain ⟨g, o, v, rfl, hg, hvv, c0, c1, c2⟩ := (hWr.s (B := W.heap.size) (fun b h => h)).at_ (j := col) h1
              obtain ⟨g', o', v', rfl, hg', hvv', d0, d1, d2⟩ := (hWr'.s (B := W.heap.size) (fun b h => h)).at_ (j := col) h1'
              have e1 : atV col r = v := by unfold atV; rw [List.getD_eq_getElem?_getD, hvv]; rfl
              have e2 : atV col r' = v' := by unfold atV; rw [List.getD_eq_getElem?_getD, hvv']; rfl
              rw [e1, e2] at ho
              unfold ordV at ho
              have HVO := Lib.hid (fun Z => vorder_any v.k v.i v.s v'.k v'.i v'.s Z)
              obtain ⟨O, hO⟩ : ∃ O, cord (goodV v.k v.i v.s) (goodV v'.k v'.i v'.s) = O := ⟨_, rfl⟩
              rw [hO] at HVO ho
              have i0 : ((i : Int) + 1) - 1 = (i : Int) := by omega
              have i8 : IntKind.i64.wrap (i : Int) = (i : Int) := IntWalk.i64_in _ (by omega)
              have i1 : (0 : Int) ≤ (i : Int) := by omega
              have i9 : (0 : Int) ≤ (i : Int) + 1 := by omega
              have i10 : (i : Int) + 1 < (x.rows.length : Int) := by omega
              have i2 : (i : Int) < (x.rows.length : Int) := by omega
              have i5 : (0 : Int) ≤ (col : Int) := by omega
              have i6 : (col : Int) < (r.length : Int) := by omega
              have i7 : (col : Int) < (r'.length : Int) := by omega
              have o1 : ¬ (0 ≤ O) := by omega
              have o2 : decide (O ≥ 0) = false := by simp; omega
              have HSK : Hid (∀ w' : World, Below W.heap.size W w' → (w'.cell? ⟨w.heap.size, 2, none⟩ = some (.int .i64 (col : Int)) ∧ w'.cell? ⟨w.heap.size, 11, none⟩ = some (.slice (some ⟨b, off, none⟩) x.rows.length k5) ∧ w'.cell? ⟨b, off + i, none⟩ = some (.slice (some ⟨g, o, none⟩) r.length c) ∧ w'.cell? ⟨b, off + (i + 1), none⟩ = some (.slice (some ⟨g', o', none⟩) r'.length c') ∧ (w'.cell? ⟨g, o + col * 3, none⟩ = some (.int .i64 v.k) ∧ w'.cell? ⟨g, o + col * 3 + 1, none⟩ = some (.int .i64 v.i) ∧ w'.cell? ⟨g, o + col * 3 + 2, none⟩ = some (.string ⟨v.s.toArray⟩)) ∧ (w'.cell? ⟨g', o' + col * 3, none⟩ = some (.int .i64 v'.k) ∧ w'.cell? ⟨g', o' + col * 3 + 1, none⟩ = some (.int .i64 v'.i) ∧ w'.cell? ⟨g', o' + col * 3 + 2, none⟩ = some (.string ⟨v'.s.toArray⟩)))) := fun w' h => ⟨(h.cell (p := ⟨w.heap.size, 2, none⟩) (show w.heap.size < _ by omega)).trans x2, (h.cell (p := ⟨w.heap.size, 11, none⟩) (show w.heap.size < _ by omega)).trans x11, (h.cell (p := ⟨b, off + i, none⟩) hbB).trans cr, (h.cell (p := ⟨b, off + (i + 1), none⟩) hbB).trans cr', ⟨(h.cell (p := ⟨g, o + col * 3, none⟩) hg).trans c0, (h.cell (p := ⟨g, o + col * 3 + 1, none⟩) hg).trans c1, (h.cell (p := ⟨g, o + col * 3 + 2, none⟩) hg).trans c2⟩, ⟨(h.cell (p := ⟨g', o' + col * 3, none⟩) hg').trans d0, (h.cell (p := ⟨g', o' + col * 3 + 1, none⟩) hg').trans d1, (h.cell (p := ⟨g', o' + col * 3 + 2, none⟩) hg').trans d2⟩⟩
              clear hv hv' e1 e2 hvv hvv' hO hR hWr hWr' h1 h1'
              go_wp2_with fail
              skip
              refine wp_region_held_drew (S := (fun w' => w'.cell? ⟨w.heap.size, 2, none⟩ = some (.int .i64 (col : Int)) ∧ w'.cell? ⟨w.heap.size, 11, none⟩ = some (.slice (some ⟨b, off, none⟩) x.rows.length k5) ∧ w'.cell? ⟨b, off + i, none⟩ = some (.slice (some ⟨g, o, none⟩) r.length c) ∧ w'.cell? ⟨b, off + (i + 1), none⟩ = some (.slice (some ⟨g', o', none⟩) r'.length c') ∧ (w'.cell? ⟨g, o + col * 3, none⟩ = some (.int .i64 v.k) ∧ w'.cell? ⟨g, o + col * 3 + 1, none⟩ = some (.int .i64 v.i) ∧ w'.cell? ⟨g, o + col * 3 + 2, none⟩ = some (.string ⟨v.s.toArray⟩)) ∧ (w'.cell? ⟨g', o' + col * 3, none⟩ = some (.int .i64 v'.k) ∧ w'.cell? ⟨g', o' + col * 3 + 1, none⟩ = some (.int .i64 v'.i) ∧ w'.cell? ⟨g', o' + col * 3 + 2, none⟩ = some (.string ⟨v'.s.toArray⟩)))) (by kernel_rfl) ?_ (fun hHeld => ?_)
              · try dsimp only
                exact HSK.out _ (by ((repeat' (first | with_reducible exact Below.refl _ _ | with_reducible assumption | with_reducible refine Below.drew ?_ | with_reducible refine below_drewN ?_ _ | with_reducible refine Below.setCell ?_ ?_ _ | with_reducible refine Below.alloc ?_ ?_ _ | with_reducible refine Below.trans ?_ (Below.mono (by assumption) ?_))) <;> (first | (simp; done) | (simp; omega) | omega)))
              refine wpAnyH_take (i := 0) (v := ?_) rfl (by kernel_rfl) (by kernel_rfl) (by kernel_rfl) (fun _ _ _ h => h) (Or.inl ⟨by rfl, ?_⟩) (by assumption) ?_
              rotate_left
              · intro wq hSw
                try dsimp only at hSw
                go_simp
                try with_reducible rfl
              try simp only [Act.put, List.getElem_toArray, List.getElem_cons_zero, List.setIfInBounds_toArray, List.set_cons_zero, List.set_cons_succ]
              refine wpAnyH_take (i := 1) (v := ?_) rfl (by kernel_rfl) (by kernel_rfl) (by kernel_rfl) (fun _ _ _ h => h) (Or.inl ⟨by rfl, ?_⟩) (by assumption) ?_
              rotate_left
              · intro wq hSw
                try dsimp only at hSw
                go_simp
                try with_reducible rfl
              try simp only [Act.put, List.getElem_toArray, List.getElem_cons_zero, List.getElem_cons_succ, List.setIfInBounds_toArray, List.set_cons_zero, List.set_cons_succ]
              refine wpAnyH_take (i := 2) (v := ?_) rfl (by kernel_rfl) (by kernel_rfl) (by kernel_rfl) (fun _ _ _ h => h) (Or.inl ⟨by rfl, ?_⟩) (by assumption) ?_
              rotate_left
              · intro wq hSw
                try dsimp only at hSw
                go_simp
                try with_reducible rfl
              try simp only [Act.put, List.getElem_toArray, List.getElem_cons_zero, List.getElem_cons_succ, List.setIfInBounds_toArray, List.set_cons_zero, List.set_cons_succ]
              refine wpAnyH_take (i := 3) (v := ?_) rfl (by kernel_rfl) (by kernel_rfl) (by kernel_rfl) (fun _ _ _ h => h) (Or.inl ⟨by rfl, ?_⟩) (by assumption) ?_
              rotate_left
              · intro wq hSw
                try dsimp only at hSw
                go_simp
                try with_reducible rfl
              try simp only [Act.put, List.getElem_toArray, List.getElem_cons_zero, List.getElem_cons_succ, List.setIfInBounds_toArray, List.set_cons_zero, List.set_cons_succ]
              refine wpAnyH_take (i := 4) (v := ?_) rfl (by kernel_rfl) (by kernel_rfl) (by kernel_rfl) (fun _ _ _ h => h) (Or.inl ⟨by rfl, ?_⟩) (by assumption) ?_
              rotate_left
              · intro wq hSw
                try dsimp only at hSw
                go_simp
                try with_reducible rfl
              try simp only [Act.put, List.getElem_toArray, List.getElem_cons_zero, List.getElem_cons_succ, List.setIfInBounds_toArray, List.set_cons_zero, List.set_cons_succ]
              refine wpAnyH_take (i := 5) (v := ?_) rfl (by kernel_rfl) (by kernel_rfl) (by kernel_rfl) (fun _ _ _ h => h) (Or.inl ⟨by rfl, ?_⟩) (by assumption) ?_
              rotate_left
              · intro wq hSw
                try dsimp only at hSw
                go_simp
                try with_reducible rfl
              try simp only [Act.put, List.getElem_toArray, List.getElem_cons_zero, List.getElem_cons_succ, List.setIfInBounds_toArray, List.set_cons_zero, List.set_cons_succ]
              refine wpAnyH_take (i := 6) (v := ?_) rfl (by kernel_rfl) (by kernel_rfl) (by kernel_rfl) (fun _ _ _ h => h) (Or.inl ⟨by rfl, ?_⟩) (by assumption) ?_
              rotate_left
              · intro wq hSw
                try dsimp only at hSw
                go_simp
                try with_reducible rfl
              try simp only [Act.put, List.getElem_toArray, List.getElem_cons_zero, List.getElem_cons_succ, List.setIfInBounds_toArray, List.set_cons_zero, List.set_cons_succ]
              refine wpAnyH_take (i := 7) (v := ?_) rfl (by kernel_rfl) (by kernel_rfl) (by kernel_rfl) (fun _ _ _ h => h) (Or.inl ⟨by rfl, ?_⟩) (by assumption) ?_
              rotate_left
              · intro wq hSw
                try dsimp only at hSw
                go_simp
                try with_reducible rfl
              try simp only [Act.put, List.getElem_toArray, List.getElem_cons_zero, List.getElem_cons_succ, List.setIfInBounds_toArray, List.set_cons_zero, List.set_cons_succ]
              refine wpAnyH_take (i := 8) (v := ?_) rfl (by kernel_rfl) (by kernel_rfl) (by kernel_rfl) (fun _ _ _ h => h) (Or.inl ⟨by rfl, ?_⟩) (by assumption) ?_
              rotate_left
              · intro wq hSw
                try dsimp only at hSw
                go_simp
                try with_reducible rfl
              try simp only [Act.put, List.getElem_toArray, List.getElem_cons_zero, List.getElem_cons_succ, List.setIfInBounds_toArray, List.set_cons_zero, List.set_cons_succ]
              refine wpAnyH_take (i := 9) (v := ?_) rfl (by kernel_rfl) (by kernel_rfl) (by kernel_rfl) (fun _ _ _ h => h) (Or.inl ⟨by rfl, ?_⟩) (by assumption) ?_
              rotate_left
              · intro wq hSw
                try dsimp only at hSw
                go_simp
                try with_reducible rfl
              try simp only [Act.put, List.getElem_toArray, List.getElem_cons_zero, List.getElem_cons_succ, List.setIfInBounds_toArray, List.set_cons_zero, List.set_cons_succ]
              refine wpAnyH_take (i := 10) (v := ?_) rfl (by kernel_rfl) (by kernel_rfl) (by kernel_rfl) (fun _ _ _ h => h) (Or.inl ⟨by rfl, ?_⟩) (by assumption) ?_
              rotate_left
              · intro wq hSw
                try dsimp only at hSw
                go_simp
                try with_reducible rfl
              try simp only [Act.put, List.getElem_toArray, List.getElem_cons_zero, List.getElem_cons_succ, List.setIfInBounds_toArray, List.set_cons_zero, List.set_cons_succ]
              refine wpAnyH_take (i := 11) (v := ?_) rfl (by kernel_rfl) (by kernel_rfl) (by kernel_rfl) (fun _ _ _ h => h) (Or.inl ⟨by rfl, ?_⟩) (by assumption) ?_
              rotate_left
              · intro wq hSw
                try dsimp only at hSw
                go_simp
                try with_reducible rfl
              try simp only [Act.put, List.getElem_toArray, List.getElem_cons_zero, List.getElem_cons_succ, List.setIfInBounds_toArray, List.set_cons_zero, List.set_cons_succ]
              refine wpAnyH_take (i := 12) (v := ?_) rfl (by kernel_rfl) (by kernel_rfl) (by kernel_rfl) (fun _ _ _ h => h) (Or.inl ⟨by rfl, ?_⟩) (by assumption) ?_
              rotate_left
              · intro wq hSw
                try dsimp only at hSw
                go_simp
                try with_reducible rfl
              try simp only [Act.put, List.getElem_toArray, List.getElem_cons_zero, List.getElem_cons_succ, List.setIfInBounds_toArray, List.set_cons_zero, List.set_cons_succ]
              refine wpAnyH_take (i := 13) (v := ?_) rfl (by kernel_rfl) (by kernel_rfl) (by kernel_rfl) (fun _ _ _ h => h) (Or.inl ⟨by rfl, ?_⟩) (by assumption) ?_
              rotate_left
              · intro wq hSw
                try dsimp only at hSw
                go_simp
                try with_reducible rfl
              try simp only [Act.put, List.getElem_toArray, List.getElem_cons_zero, List.getElem_cons_succ, List.setIfInBounds_toArray, List.set_cons_zero, List.set_cons_succ]
              refine wpAnyH_take (i := 14) (v := ?_) rfl (by kernel_rfl) (by kernel_rfl) (by kernel_rfl) (fun _ _ _ h => h) (Or.inl ⟨by rfl, ?_⟩) (by assumption) ?_
              rotate_left
              · intro wq hSw
                try dsimp only at hSw
                go_simp
                try with_reducible rfl
              try simp only [Act.put, List.getElem_toArray, List.getElem_cons_zero, List.getElem_cons_succ, List.setIfInBounds_toArray, List.set_cons_zero, List.set_cons_succ]
              refine wpAnyH_take (i := 15) (v := ?_) rfl (by kernel_rfl) (by kernel_rfl) (by kernel_rfl) (fun _ _ _ h => h) (Or.inl ⟨by rfl, ?_⟩) (by assumption) ?_
              rotate_left
              · intro wq hSw
                try dsimp only at hSw
                go_simp
                try with_reducible rfl
              try simp only [Act.put, List.getElem_toArray, List.getElem_cons_zero, List.getElem_cons_succ, List.setIfInBounds_toArray, List.set_cons_zero, List.set_cons_succ]
              refine wpAnyH_take (i := 16) (v := ?_) rfl (by kernel_rfl) (by kernel_rfl) (by kernel_rfl) (fun _ _ _ h => h) (Or.inl ⟨by rfl, ?_⟩) (by assumption) ?_
              rotate_left
              · intro wq hSw
                try dsimp only at hSw
                go_simp
                try with_reducible rfl
              try simp only [Act.put, List.getElem_toArray, List.getElem_cons_zero, List.getElem_cons_succ, List.setIfInBounds_toArray, List.set_cons_zero, List.set_cons_succ]
              refine wpAnyH_take (i := 17) (v := ?_) rfl (by kernel_rfl) (by kernel_rfl) (by kernel_rfl) (fun _ _ _ h => h) (Or.inl ⟨by rfl, ?_⟩) (by assumption) ?_
              rotate_left
              · intro wq hSw
                try dsimp only at hSw
                go_simp
                try with_reducible rfl
              try simp only [Act.put, List.getElem_toArray, List.getElem_cons_zero, List.getElem_cons_succ, List.setIfInBounds_toArray, List.set_cons_zero, List.set_cons_succ]
              refine wpAnyH_take (i := 18) (v := ?_) rfl (by kernel_rfl) (by kernel_rfl) (by kernel_rfl) (fun _ _ _ h => h) (Or.inl ⟨by rfl, ?_⟩) (by assumption) ?_
              rotate_left
              · intro wq hSw
                try dsimp only at hSw
                go_simp
                try with_reducible rfl
              try simp only [Act.put, List.getElem_toArray, List.getElem_cons_zero, List.getElem_cons_succ, List.setIfInBounds_toArray, List.set_cons_zero, List.set_cons_succ]
              refine wpAnyH_take (i := 19) (v := ?_) rfl (by kernel_rfl) (by kernel_rfl) (by kernel_rfl) (fun _ _ _ h => h) (Or.inl ⟨by rfl, ?_⟩) (by assumption) ?_
              rotate_left
              · intro wq hSw
                try dsimp only at hSw
                go_simp
                try with_reducible rfl
              try simp only [Act.put, List.getElem_toArray, List.getElem_cons_zero, List.getElem_cons_succ, List.setIfInBounds_toArray, List.set_cons_zero, List.set_cons_succ]
              refine wpAnyH_take (i := 20) (v := ?_) rfl (by kernel_rfl) (by kernel_rfl) (by kernel_rfl) (fun _ _ _ h => h) (Or.inl ⟨by rfl, ?_⟩) (by assumption) ?_
              rotate_left
              · intro wq hSw
                try dsimp only at hSw
                go_simp
                try with_reducible rfl
              try simp only [Act.put, List.getElem_toArray, List.getElem_cons_zero, List.getElem_cons_succ, List.setIfInBounds_toArray, List.set_cons_zero, List.set_cons_succ]
              refine wpAnyH_ready (rs := [21]) (by kernel_rfl) (by simp) ?_
              refine AllReadyH.cons rfl (fun K hK => ?_) AllReadyH.nil
              go_simp
              (refine (HVO.out _).mono ?_) <;> rintro en w9 ⟨rfl, hb9⟩
              go_wp2_with fail
              refine hK.out _ _ ?_ (fun hHeld => ?_)
              · try dsimp only
                exact HSK.out _ (by ((repeat' (first | with_reducible exact Below.refl _ _ | with_reducible assumption | with_reducible refine Below.drew ?_ | with_reducible refine below_drewN ?_ _ | with_reducible refine Below.setCell ?_ ?_ _ | with_reducible refine Below.alloc ?_ ?_ _ | with_reducible refine Below.trans ?_ (Below.mono (by assumption) ?_))) <;> (first | (simp; done) | (simp; omega) | omega)))
              clear hK K
              try simp only [Act.put, List.getElem_toArray, List.getElem_cons_zero, List.getElem_cons_succ, List.setIfInBounds_toArray, List.set_cons_zero, List.set_cons_succ]
              refine wpAnyH_take (i := 22) (v := ?_) rfl (by kernel_rfl) (by kernel_rfl) (by kernel_rfl) (fun _ _ _ h => h) (Or.inl ⟨by rfl, ?_⟩) (by assumption) ?_
              rotate_left
              · intro wq hSw
                try dsimp only at hSw
                go_simp
                try with_reducible rfl
              try simp only [Act.put, List.getElem_toArray, List.getElem_cons_zero, List.getElem_cons_succ, List.setIfInBounds_toArray, List.set_cons_zero, List.set_cons_succ]
              refine wpAnyH_done (by kernel_rfl) ?_ _
              go_wp2_with fail
              go_roundw
              case rel => exact ⟨i + 1 + 1, by omega, by omega, by go_num, (Below.drew hbr).trans (hb9.mono hzr)⟩
              case measure => simp [intOf]; omega
            · have b0 : ¬ ((j : Int) < (x.rows.length : Int)) := by omega
              go_wp2_with fail
              go_ret
              exact ⟨by rw [HF.out]; rfl, hb0.trans (hbr.mono hz0)⟩

end Go.Proofs.Ytdhjogmkhbpcgaa
