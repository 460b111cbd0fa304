/- caddisref14.Same of two tracks that read the same answers true. Condition: slices that read as lists. -/
import Derived.Test.YtkeeekifejholaaTrack3
import Derived.Laws.IdiomStrings
namespace Go.Proofs.Ytkeeekifejholaa
open Go.RowKit

attribute [local go_sem] ByteArray.extract_mk ba_get
attribute [local go_sem ↓] Go.wp_at_zero Go.wp_at_succ run_eql_V run_neq_V run_nil_V

theorem bs_text {P : Program} {w : World} {n : Nat} {src e dst : TypeId} {A : Option Addr} {c : Nat} {l : List UInt8} (hs : P.underlying src = some (.slice e)) (he : P.underlying e = some (.int .u8)) (hd : P.underlying dst = some .string)
    (h : BS w n A l) : (convert src dst (.slice A l.length c)).run P w = .ok (.string ⟨l.toArray⟩) w := by
  cases A with
  | none =>
    have : l = [] := by
      rcases Nat.eq_zero_or_pos l.length with h0 | h0
      · exact List.eq_nil_of_length_eq_zero h0
      · obtain ⟨b, off, e, _⟩ := h h0; cases e
    subst this
    exact run_convert_bytes_nil w src e hs he _ c dst hd
  | some a =>
    refine run_convert_bytes_back w src dst e a c l hs he hd fun j hj => ?_
    obtain ⟨b, off, e, _, hr⟩ := h (by omega)
    cases e
    rw [add_mid]
    exact hr j _ (List.getElem?_eq_getElem hj)

set_option maxRecDepth 100000 in
set_option maxHeartbeats 2000000 in
theorem same14_any (A B A' B' : Option Addr) (c d c' d' : Nat) (u : List V) (t : List UInt8) (w : World) (hu : u.length ≤ 1000000) (hA : VS w w.heap.size A u) (hB : BS w w.heap.size B t) (hA' : VS w w.heap.size A' u) (hB' : BS w w.heap.size B' t) :
    Calls Try.prog 28 #[.agg #[.slice A u.length c, .slice B t.length d], .agg #[.slice A' u.length c', .slice B' t.length d']] w (Ret (.bool true) w) := by
  obtain ⟨w0, hw0⟩ : ∃ w0, (w.alloc (.cells #[.slice A u.length c, .slice B t.length d] 47)).alloc (.cells #[.slice A' u.length c', .slice B' t.length d'] 47) = w0 := ⟨_, rfl⟩
  have hb0 : Below w.heap.size w w0 := by rw [← hw0]; ((repeat' (first | with_reducible exact Below.refl _ _ | with_reducible assumption | with_reducible refine Below.drew ?_ | with_reducible refine below_drewN ?_ _ | with_reducible refine Below.setCell ?_ ?_ _ | with_reducible refine Below.alloc ?_ ?_ _ | with_reducible refine Below.trans ?_ (Below.mono (by assumption) ?_))) <;> (first | (simp; done) | (simp; omega) | omega))
  have hblk : Blk w0 w.heap.size 47 #[.slice A u.length c, .slice B t.length d] := by rw [← hw0]; ((repeat' (first | with_reducible assumption | with_reducible refine Blk.drew ?_ | with_reducible refine Blk.drewN ?_ _ | with_reducible refine Blk.set3 ?_ _ _ _ | with_reducible refine Blk.far ?_ ?_ _ | ((with_reducible refine Blk.new' _ _ _ _ ?_) <;> (first | (simp; done) | (simp; omega) | omega) <;> done) | with_reducible refine Blk.alloc ?_ _ | with_reducible refine Blk3.drew ?_ | with_reducible refine Blk3.drewN ?_ _ | ((with_reducible refine Blk3.new' _ _ _ _ _ _ ?_) <;> (first | (simp; done) | (simp; omega) | omega) <;> done) | with_reducible refine Blk3.alloc ?_ _ | with_reducible refine Blk3.far ?_ ?_ _ | with_reducible refine Blk3.below ?_ (by assumption) ?_ | with_reducible refine Blk.below ?_ (by assumption) ?_)) <;> (first | (simp; done) | (simp; omega) | omega))
  have hblk2 : Blk w0 (w.heap.size + 1) 47 #[.slice A' u.length c', .slice B' t.length d'] := by rw [← hw0]; ((repeat' (first | with_reducible assumption | with_reducible refine Blk.drew ?_ | with_reducible refine Blk.drewN ?_ _ | with_reducible refine Blk.set3 ?_ _ _ _ | with_reducible refine Blk.far ?_ ?_ _ | ((with_reducible refine Blk.new' _ _ _ _ ?_) <;> (first | (simp; done) | (simp; omega) | omega) <;> done) | with_reducible refine Blk.alloc ?_ _ | with_reducible refine Blk3.drew ?_ | with_reducible refine Blk3.drewN ?_ _ | ((with_reducible refine Blk3.new' _ _ _ _ _ _ ?_) <;> (first | (simp; done) | (simp; omega) | omega) <;> done) | with_reducible refine Blk3.alloc ?_ _ | with_reducible refine Blk3.far ?_ ?_ _ | with_reducible refine Blk3.below ?_ (by assumption) ?_ | with_reducible refine Blk.below ?_ (by assumption) ?_)) <;> (first | (simp; done) | (simp; omega) | omega))
  have hA0 := (hA.below hb0).more hb0.size
  have hB0 := (hB.below hb0).more hb0.size
  have hA1 := (hA'.below hb0).more hb0.size
  have hB1 := (hB'.below hb0).more hb0.size
  have r1 := bs_text (P := Try.prog) (c := d) Try.underlying45 Try.underlying5 Try.underlying9 hB0
  have r2 := bs_text (P := Try.prog) (c := d') Try.underlying45 Try.underlying5 Try.underlying9 hB1
  have HW := Lib.hid hw0
  have hs0 := hb0.size
  obtain ⟨s0, s1⟩ := hblk.two.1
  obtain ⟨s2, s3⟩ := hblk2.two.1
  clear hw0 hA hB hA' hB' hB0 hB1
  go_enter Try.func28, Try.ntmps28
  go_upto_region 1 with fail
  rw [HW.out]
  go_wp2_with fail
  go_loopw [5] (fun i wr => ∃ j : Nat, j ≤ u.length ∧ i = .int .i64 j ∧ Below w0.heap.size w0 wr) (fun i _ => u.length - (intOf i).toNat)
  case atStart => exact ⟨0, by omega, rfl, Below.refl _ _⟩
  case round =>
    obtain ⟨j, hj, rfl, hbr⟩ := hrel
    have m1 := hblk.below hbr hblk.lt
    have m2 := hblk2.below hbr hblk2.lt
    clear s0 s1 s2 s3
    obtain ⟨s0, s1⟩ := m1.two.1
    obtain ⟨s2, s3⟩ := m2.two.1
    by_cases hlt : j < u.length
    · obtain ⟨b, off, v, rfl, hbB, hv, c0, c1, c2⟩ := (hA0.below hbr).at_ hlt
      obtain ⟨b', off', v', rfl, hbB', hv', c0', c1', c2'⟩ := (hA1.below hbr).at_ hlt
      rw [hv] at hv'
      cases hv'
      have hvv : veq ⟨v.k, v.i, v.s⟩ ⟨v.k, v.i, v.s⟩ = true := by simp [veq]
      have i1 : (0 : Int) ≤ (j : Int) := by omega
      have i2 : (j : Int) < (u.length : Int) := by omega
      clear hv
      go_wp2_with fail
      go_quiet (fail)
      go_wp2_with fail
      go_roundw
      case rel => exact ⟨j + 1, by omega, by go_num, by ((repeat' (first | with_reducible exact Below.refl _ _ | with_reducible assumption | with_reducible refine Below.drew ?_ | with_reducible refine below_drewN ?_ _ | with_reducible refine Below.setCell ?_ ?_ _ | with_reducible refine Below.alloc ?_ ?_ _ | with_reducible refine Below.trans ?_ (Below.mono (by assumption) ?_))) <;> (first | (simp; done) | (simp; omega) | omega))⟩
      case measure => simp [intOf]; omega
    · go_wp2
      go_ret
      exact ⟨rfl, by ((repeat' (first | with_reducible exact Below.refl _ _ | with_reducible assumption | with_reducible refine Below.drew ?_ | with_reducible refine below_drewN ?_ _ | with_reducible refine Below.setCell ?_ ?_ _ | with_reducible refine Below.alloc ?_ ?_ _ | with_reducible refine Below.trans ?_ (Below.mono (by assumption) ?_))) <;> (first | (simp; done) | (simp; omega) | omega))⟩

end Go.Proofs.Ytkeeekifejholaa
