/- track's Pending, Next and Text as plain functions. Condition: slices that read as lists, no longer than a million. -/
import Derived.Test.YtkeeekifejholaaTrack4
namespace Go.Proofs.Ytkeeekifejholaa
open Go.RowKit Go.Shelf

attribute [local go_sem] Oper.semAt_some enc2
attribute [local go_sem ↓] run_eql_V run_neq_V

def pend (l : List (V × Bool)) : List V := (l.filter fun x => !x.2).map (·.1)
theorem pend_miss (l : List (V × Bool)) (v : V) : pend (l ++ [(v, true)]) = pend l := by simp [pend]
theorem pend_hit (l : List (V × Bool)) (v : V) : pend (l ++ [(v, false)]) = pend l ++ [v] := by simp [pend]
theorem pend_length (l : List (V × Bool)) : (pend l).length ≤ l.length := by simp only [pend, List.length_map]; exact List.length_filter_le _ _
def pendF (u : List V) (t : List UInt8) : List V := if chkB u t then pend (unitsTo u t u.length) else []

/-- Nothing is asked of a value. -/
def Some1 (_ : Value) : Prop := True
theorem blk_not_row {W : World} {g base size k : Nat} {t e : TypeId} {cs : Array Value} {v : Value} {xs : List Value} (h : Blk W g t cs) (hte : t ≠ e) (hr : W.ownsRow base e size v k xs) : some g ≠ v.ownBlock := by
  rcases hr.2 with ⟨rfl, _⟩ | ⟨b, cap, cur, rfl, _, hg, _⟩
  · simp [Value.ownBlock]
  · intro e'
    obtain rfl : g = b := by simpa [Value.ownBlock] using e'
    unfold Blk at h
    rw [h] at hg
    cases hg
    exact hte rfl

set_option maxRecDepth 100000 in
set_option maxHeartbeats 2000000 in
theorem pending_any (A B : Option Addr) (c d : Nat) (u : List V) (t : List UInt8) (w : World) (hu : u.length ≤ 1000000) (ht : t.length ≤ 1000000) (hA : VS w w.heap.size A u) (hB : BS w w.heap.size B t) :
    Calls Try.prog 27 #[.agg #[.slice A u.length c, .slice B t.length d]] w (RetVS (pendF u t) w) := by
  obtain ⟨i0, hi0, zi0, zi1, zi2⟩ := info_parts infoV
  have hu' : u.length ≤ maxLen := by unfold maxLen; omega
  have ht' : t.length ≤ maxLen := by unfold maxLen; omega
  obtain ⟨R, hR⟩ : ∃ R, pendF u t = R := ⟨_, rfl⟩
  rw [hR]
  obtain ⟨w0, hw0⟩ : ∃ w0, w.alloc (.cells #[.slice A u.length c, .slice B t.length d] 47) = w0 := ⟨_, rfl⟩
  have hb0 : Below w.heap.size w w0 := by rw [← hw0]; ((repeat' (first | with_reducible exact Below.refl _ _ | with_reducible assumption | with_reducible refine Below.drew ?_ | with_reducible refine below_drewN ?_ _ | with_reducible refine Below.setCell ?_ ?_ _ | with_reducible refine Below.alloc ?_ ?_ _ | with_reducible refine Below.trans ?_ (Below.mono (by assumption) ?_))) <;> (first | (simp; done) | (simp; omega) | omega))
  have hblk : Blk w0 w.heap.size 47 #[.slice A u.length c, .slice B t.length d] := by rw [← hw0]; ((repeat' (first | with_reducible assumption | with_reducible refine Blk.drew ?_ | with_reducible refine Blk.drewN ?_ _ | with_reducible refine Blk.set3 ?_ _ _ _ | with_reducible refine Blk.far ?_ ?_ _ | ((with_reducible refine Blk.new' _ _ _ _ ?_) <;> (first | (simp; done) | (simp; omega) | omega) <;> done) | with_reducible refine Blk.alloc ?_ _ | with_reducible refine Blk3.drew ?_ | with_reducible refine Blk3.drewN ?_ _ | ((with_reducible refine Blk3.new' _ _ _ _ _ _ ?_) <;> (first | (simp; done) | (simp; omega) | omega) <;> done) | with_reducible refine Blk3.alloc ?_ _ | with_reducible refine Blk3.far ?_ ?_ _ | with_reducible refine Blk3.below ?_ (by assumption) ?_ | with_reducible refine Blk.below ?_ (by assumption) ?_)) <;> (first | (simp; done) | (simp; omega) | omega))
  have hA0 := (hA.below hb0).more hb0.size
  have hB0 := (hB.below hb0).more hb0.size
  have HW := Lib.hid hw0
  have hs0 := hb0.size
  obtain ⟨s0, s1⟩ := hblk.two.1
  clear hw0
  refine (callsIn_wide (n := 6)).1 ?_
  have hro : Fence.wide.round = none := rfl
  refine callsIn_of_wp_marks Try.func27 rfl trivial ?_ rfl
  simp only [Try.ntmps27, List.size_toArray, List.length_cons, List.length_nil, Nat.reduceAdd, Nat.reduceSub, Array.replicate_succ, Array.replicate_zero, List.push_toArray, List.append_toArray, List.nil_append, List.cons_append]
  gi_wp2_with fail
  rw [HW.out]
  refine ⟨trivial, ?_⟩
  refine (callsIn_wide.2 (check_any A B c d u t w0 hu' ht' hA0 hB0)).mono ?_
  rintro e w1 ⟨rfl, hb1⟩
  have hbw1 : Below w.heap.size w w1 := by ((repeat' (first | with_reducible exact Below.refl _ _ | with_reducible assumption | with_reducible refine Below.drew ?_ | with_reducible refine below_drewN ?_ _ | with_reducible refine Below.setCell ?_ ?_ _ | with_reducible refine Below.alloc ?_ ?_ _ | with_reducible refine Below.trans ?_ (Below.mono (by assumption) ?_))) <;> (first | (simp; done) | (simp; omega) | omega))
  have k1 := hblk.below hb1 hblk.lt
  obtain ⟨t0, t1⟩ := k1.two.1
  have q1 := k1.lt
  have hA1 := (hA.below hbw1).more hbw1.size
  have hB1 := (hB.below hbw1).more hbw1.size
  have hz1 := hb1.size
  cases hc : chkB u t
  · have e : chkE u t = 1 := by simp [chkE, hc]
    rw [e]
    have HF : Hid (R = []) := by show _ = _; rw [← hR]; simp [pendF, hc]
    clear e hc hR
    gi_wp2_with fail
    refine ⟨_, results_tmp rfl _ _ _, ?_⟩
    rw [HF.out]
    exact ⟨none, 0, rfl, Nat.le_refl _, Nat.zero_le _, fun hl => absurd hl (by simp), hbw1⟩
  · have e : chkE u t = 0 := by simp [chkE, hc]
    rw [e]
    have hlen := chk_len hc
    have HF : Hid (R = pend (unitsTo u t u.length)) := by show _ = _; rw [← hR]; simp [pendF, hc]
    have hut : u.length ≤ 8 * t.length := by omega
    clear e hc hR hlen
    gi_wp2_with fail
    refine ⟨trivial, ?_⟩
    refine (callsIn_wide.2 (each_any _ A B u.length t.length c d rfl _)).mono ?_
    rintro e w2 ⟨rfl, rfl⟩
    obtain ⟨W0, hW0⟩ : ∃ W0, (w1.alloc (.cells #[.slice none 0 0] 22)).alloc (.cells #[.slice A u.length c, .slice B t.length d] 47) = W0 := ⟨_, rfl⟩
    have bL : Boxed W0 w1.heap.size 22 (.slice none 0 0) := by rw [← hW0]; exact (Boxed.new w1 _ _).alloc _
    have bS : Blk W0 (w1.heap.size + 1) 47 #[.slice A u.length c, .slice B t.length d] := by rw [← hW0]; ((repeat' (first | with_reducible assumption | with_reducible refine Blk.drew ?_ | with_reducible refine Blk.drewN ?_ _ | with_reducible refine Blk.set3 ?_ _ _ _ | with_reducible refine Blk.far ?_ ?_ _ | ((with_reducible refine Blk.new' _ _ _ _ ?_) <;> (first | (simp; done) | (simp; omega) | omega) <;> done) | with_reducible refine Blk.alloc ?_ _ | with_reducible refine Blk3.drew ?_ | with_reducible refine Blk3.drewN ?_ _ | ((with_reducible refine Blk3.new' _ _ _ _ _ _ ?_) <;> (first | (simp; done) | (simp; omega) | omega) <;> done) | with_reducible refine Blk3.alloc ?_ _ | with_reducible refine Blk3.far ?_ ?_ _ | with_reducible refine Blk3.below ?_ (by assumption) ?_ | with_reducible refine Blk.below ?_ (by assumption) ?_)) <;> (first | (simp; done) | (simp; omega) | omega))
    have hbW : Below w1.heap.size w1 W0 := by rw [← hW0]; ((repeat' (first | with_reducible exact Below.refl _ _ | with_reducible assumption | with_reducible refine Below.drew ?_ | with_reducible refine below_drewN ?_ _ | with_reducible refine Below.setCell ?_ ?_ _ | with_reducible refine Below.alloc ?_ ?_ _ | with_reducible refine Below.trans ?_ (Below.mono (by assumption) ?_))) <;> (first | (simp; done) | (simp; omega) | omega))
    have hzW : W0.heap.size = w1.heap.size + 1 + 1 := by rw [← hW0]; simp
    have HW0 := Lib.hid hW0
    have HZW := Lib.hid hzW
    clear hW0 hzW
    have hle : w1.heap.size ≤ W0.heap.size := hbW.size
    have hAW := hA1.below hbW
    have hBW := hB1.below hbW
    rw [show (w1.alloc (.cells #[.slice none 0 0] 22)).heap.size = w1.heap.size + 1 by simp]
    gi_wp2_with fail
    rw [HW0.out]
    refine wpIn_rangeFunc_ownH hro (by omega) (gf := 51) (lb := #[.pointer (some ⟨w1.heap.size + 1, 0, none⟩)]) rfl trivial (enters_of Try.func51 (by kernel_rfl) rfl)
      (each_stops 5 (by omega) (w1.heap.size + 1) w1.heap.size A B c d u t hu ht hut W0 hle bS hAW hBW) KpT.trans (KpT.put hle bS.lt) (Below.refl _ _) (fun _ => rfl)
      (fun pre W => (∃ v, Boxed W w1.heap.size 22 v ∧ W.ownsRow w1.heap.size 31 3 v (pend pre).length ((pend pre).flatMap V.cells) ∧ Some1 v) ∧ Below w1.heap.size w1 W)
      (fun _ _ _ => False)
      (OwnFrom.and (Own.from (holdsRow_own w1.heap.size w1.heap.size 22 31 3 (fun pre => (pend pre).length) (fun pre => (pend pre).flatMap V.cells) (fun _ v => Some1 v)) _) (ownFrom_below (Nat.le_refl _) hle))
      (fun _ _ _ _ _ hs _ _ => hs)
      ⟨⟨_, bL, World.ownsRow_nil _ _ _ _, trivial⟩, hbW⟩
      (fun x a' W => ∃ Bx, w1.heap.size < Bx ∧ Blk W Bx 31 #[.int .i64 (x.1).k, .int .i64 (x.1).i, .string ⟨(x.1).s.toArray⟩] ∧ a' = { tmps := #[.agg #[.slice A u.length c, .slice B t.length d], .pointer (some ⟨w.heap.size, 0, none⟩), .slice none 0 0, .pointer (some ⟨w1.heap.size, 0, none⟩), .pointer (some ⟨Bx, 0, none⟩), .bool x.2, .agg #[.slice A u.length c, .slice B t.length d], .int .i64 0, .bool false, .agg #[.slice A u.length c, .slice B t.length d], .func (.func 51) #[] #[.pointer (some ⟨w1.heap.size + 1, 0, none⟩)], .agg #[.int .i64 (x.1).k, .int .i64 (x.1).i, .string ⟨(x.1).s.toArray⟩], .bool x.2, undef, undef, undef, undef, undef, undef, undef], defers := [] })
      (fun x a' _ X Y row hs hg hr => by obtain ⟨Bx, h1, h2, h3⟩ := hs; exact ⟨Bx, h1, h2.grown hg (fun e => by obtain ⟨_, o, ho, hoc⟩ := hr Bx e.symm; unfold Blk at h2; rw [h2] at ho; cases ho; cases hoc), h3⟩)
      ?assign ?body ?done ?stop
    case assign =>
      rintro l pre x W K ⟨⟨v, hv, hrow, _⟩, hB1⟩ hK
      gi_wp2
      have lB := hv.lt
      exact hK _ _ ((KeepsOthers.alloc _ _).from _) ⟨(Below.refl _ W).alloc hB1.size _, fun h => h.alloc _⟩ ⟨⟨v, hv.alloc _, hrow.alloc _, trivial⟩, hB1.alloc hB1.size _⟩ ⟨W.heap.size, lB, Blk.new W 31 _, rfl⟩
    case body =>
      rintro l pre ⟨xv, xb⟩ a' W hl ⟨r, hr⟩ ⟨⟨v, hv, hrow, _⟩, hB1⟩ ⟨Bx, hBx, bX, rfl⟩ hlt
      have hc := hv.cell
      obtain ⟨⟨x0, x1, x2⟩, _⟩ := bX.three
      have lX := bX.lt
      have lB := hv.lt
      have hpl := pend_length pre
      have hzB := hB1.size
      cases xb
      · dsimp only at x0 x1 x2
        gi_wp2_with (gi_at_builtin; refine wpListIn_append_own _ rfl _ _ 22 rfl w1.heap.size 31 i0 _ 3 32 Try.underlying22 hi0 zi0 zi1 zi2 rfl (by decide) _ _ _ rfl (hrow.alloc _) ⟨W.heap.size, 0, none⟩ 1 1 xv.cells rfl rfl ?c1 ?c2 ?c3 ?c4 ?c5 ?_)
        case c1 => exact fun j q hq => hq
        case c2 => exact fun q hq => cells_one [xv] q (by simpa using hq)
        case c3 => unfold maxLen; omega
        case c4 => omega
        case c5 => omega
        intro v' w2 hown' hgrow _
        obtain ⟨g', cap', rfl⟩ := ownsRow_succ hown'
        obtain ⟨hv1, hv2, hr2, hk2, hb2⟩ := hv.appended (by decide) hrow hB1.size (Nat.le_refl _) hown' hgrow
        have hc1 := hv1.cell
        have hf1 := hv1.frozen
        gi_wp2_with fail
        refine ⟨hk2.from _, ⟨hb2, fun hb => ?_⟩, ⟨_, hv2, ?_, trivial⟩, hB1.trans hb2⟩
        · exact ((hb.alloc _).grown hgrow (blk_not_row hb (by decide) hrow)).far (by show w1.heap.size + 1 ≠ w1.heap.size; omega) _
        · rw [pend_hit]
          simpa using hr2
      · gi_wp2_with fail
        exact ⟨KeepsFrom.refl _ _, KpT.refl _ _ _ _, ⟨v, hv, by rw [pend_miss]; exact hrow, trivial⟩, hB1⟩
    case done =>
      rintro D ys W hD rfl ⟨⟨v, hv, hrow, _⟩, hB1⟩ hK
      have hc := hv.cell
      have hrow' := ownsRow_putObj hrow (.deferred none) hK rfl
      obtain ⟨A', c', rfl, hc1, hc2, hvf⟩ := VS.own hrow'
      gi_wp2_with fail
      refine ⟨by simp, .inl ⟨_, _, rfl, run_takeDeferred hK, ?_⟩⟩
      refine ⟨_, results_tmp rfl _ _ _, ?_⟩
      rw [HF.out]
      refine ⟨A', c', rfl, hc1, hc2, ?_, ?_⟩
      · intro hl
        obtain ⟨b, off, e1, e2, e3, e4⟩ := hvf hl
        exact ⟨b, off, e1, Nat.le_trans hbw1.size e2, e3, e4⟩
      · exact (hbw1.trans (hB1.mono hbw1.size)).trans (belowK_b (w := W0) (Nat.le_trans hbw1.size hle) W D _ _ hD hK rfl rfl)
    case stop =>
      rintro D c pre W _ _ h _
      exact h.elim

end Go.Proofs.Ytkeeekifejholaa
