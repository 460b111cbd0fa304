/- track's Text as a plain function. Condition: slices that read as lists, no longer than a million. -/
import Derived.Test.YtkeeekifejholaaTrack5
namespace Go.Proofs.Ytkeeekifejholaa
open Go.RowKit Go.Shelf

attribute [local go_sem] Oper.semAt_some enc2
attribute [local go_sem ↓] run_eql_V run_neq_V

def digs (l : List (V × Bool)) : List UInt8 := l.map fun x => if x.2 then 49 else 48
def textT (u : List V) (t : List UInt8) : List UInt8 × Int := if chkB u t then (digs (unitsTo u t u.length), 0) else ([], 1)
theorem digs_snoc (l : List (V × Bool)) (x : V × Bool) : digs (l ++ [x]) = digs l ++ [if x.2 then 49 else 48] := by simp [digs]
theorem digs_length (l : List (V × Bool)) : (digs l).length = l.length := by simp [digs]

set_option maxRecDepth 100000 in
set_option maxHeartbeats 2000000 in
theorem textT_any (A B : Option Addr) (c d : Nat) (u : List V) (t : List UInt8) (w : World) (hu : u.length ≤ 1000000) (ht : t.length ≤ 1000000) (hA : VS w w.heap.size A u) (hB : BS w w.heap.size B t) :
    Calls Try.prog 31 #[.agg #[.slice A u.length c, .slice B t.length d]] w (Ret (.tuple #[.string ⟨(textT u t).1.toArray⟩, .int .i64 (textT u t).2]) w) := by
  obtain ⟨i0, hi0, zi0, zi1, zi2⟩ := info_parts infoU8
  have hu' : u.length ≤ maxLen := by unfold maxLen; omega
  have ht' : t.length ≤ maxLen := by unfold maxLen; omega
  obtain ⟨R, hR⟩ : ∃ R, textT u t = R := ⟨_, rfl⟩
  rw [hR]
  obtain ⟨w0, hw0⟩ : ∃ w0, w.alloc (.cells #[.slice A u.length c, .slice B t.length d] 47) = w0 := ⟨_, rfl⟩
  have hb0 : Below w.heap.size w w0 := by rw [← hw0]; ((repeat' (first | with_reducible exact Below.refl _ _ | with_reducible assumption | with_reducible refine Below.drew ?_ | with_reducible refine below_drewN ?_ _ | with_reducible refine Below.setCell ?_ ?_ _ | with_reducible refine Below.alloc ?_ ?_ _ | with_reducible refine Below.trans ?_ (Below.mono (by assumption) ?_))) <;> (first | (simp; done) | (simp; omega) | omega))
  have hblk : Blk w0 w.heap.size 47 #[.slice A u.length c, .slice B t.length d] := by rw [← hw0]; ((repeat' (first | with_reducible assumption | with_reducible refine Blk.drew ?_ | with_reducible refine Blk.drewN ?_ _ | with_reducible refine Blk.set3 ?_ _ _ _ | with_reducible refine Blk.far ?_ ?_ _ | ((with_reducible refine Blk.new' _ _ _ _ ?_) <;> (first | (simp; done) | (simp; omega) | omega) <;> done) | with_reducible refine Blk.alloc ?_ _ | with_reducible refine Blk3.drew ?_ | with_reducible refine Blk3.drewN ?_ _ | ((with_reducible refine Blk3.new' _ _ _ _ _ _ ?_) <;> (first | (simp; done) | (simp; omega) | omega) <;> done) | with_reducible refine Blk3.alloc ?_ _ | with_reducible refine Blk3.far ?_ ?_ _ | with_reducible refine Blk3.below ?_ (by assumption) ?_ | with_reducible refine Blk.below ?_ (by assumption) ?_)) <;> (first | (simp; done) | (simp; omega) | omega))
  have hA0 := (hA.below hb0).more hb0.size
  have hB0 := (hB.below hb0).more hb0.size
  have HW := Lib.hid hw0
  have hs0 := hb0.size
  obtain ⟨s0, s1⟩ := hblk.two.1
  clear hw0
  refine (callsIn_wide (n := 6)).1 ?_
  have hro : Fence.wide.round = none := rfl
  refine callsIn_of_wp_marks Try.func31 rfl trivial ?_ rfl
  simp only [Try.ntmps31, List.size_toArray, List.length_cons, List.length_nil, Nat.reduceAdd, Nat.reduceSub, Array.replicate_succ, Array.replicate_zero, List.push_toArray, List.append_toArray, List.nil_append, List.cons_append]
  gi_wp2_with fail
  rw [HW.out]
  refine ⟨trivial, ?_⟩
  refine (callsIn_wide.2 (check_any A B c d u t w0 hu' ht' hA0 hB0)).mono ?_
  rintro e w1 ⟨rfl, hb1⟩
  have hbw1 : Below w.heap.size w w1 := by ((repeat' (first | with_reducible exact Below.refl _ _ | with_reducible assumption | with_reducible refine Below.drew ?_ | with_reducible refine below_drewN ?_ _ | with_reducible refine Below.setCell ?_ ?_ _ | with_reducible refine Below.alloc ?_ ?_ _ | with_reducible refine Below.trans ?_ (Below.mono (by assumption) ?_))) <;> (first | (simp; done) | (simp; omega) | omega))
  have k1 := hblk.below hb1 hblk.lt
  obtain ⟨t0, t1⟩ := k1.two.1
  have q1 := k1.lt
  have hA1 := (hA.below hbw1).more hbw1.size
  have hB1 := (hB.below hbw1).more hbw1.size
  have hz1 := hb1.size
  cases hc : chkB u t
  · have e : chkE u t = 1 := by simp [chkE, hc]
    rw [e]
    have HF : Hid (R = ([], 1)) := by show _ = _; rw [← hR]; simp [textT, hc]
    clear e hc hR
    gi_wp2_with fail
    refine ⟨.tuple #[.string ⟨#[]⟩, .int .i64 1], by simp [results, Try.results31, go_sem], ?_⟩
    rw [HF.out]
    exact ⟨rfl, hbw1⟩
  · have e : chkE u t = 0 := by simp [chkE, hc]
    rw [e]
    have hlen := chk_len hc
    have HF : Hid (R = (digs (unitsTo u t u.length), 0)) := by show _ = _; rw [← hR]; simp [textT, hc]
    have hut : u.length ≤ 8 * t.length := by omega
    clear e hc hR hlen
    gi_wp2_with fail
    refine ⟨trivial, ?_⟩
    refine (callsIn_wide.2 (each_any _ A B u.length t.length c d rfl _)).mono ?_
    rintro e w2 ⟨rfl, rfl⟩
    obtain ⟨W0, hW0⟩ : ∃ W0, (w1.alloc (.cells #[.slice none 0 0] 45)).alloc (.cells #[.slice A u.length c, .slice B t.length d] 47) = W0 := ⟨_, rfl⟩
    have bL : Boxed W0 w1.heap.size 45 (.slice none 0 0) := by rw [← hW0]; exact (Boxed.new w1 _ _).alloc _
    have bS : Blk W0 (w1.heap.size + 1) 47 #[.slice A u.length c, .slice B t.length d] := by rw [← hW0]; ((repeat' (first | with_reducible assumption | with_reducible refine Blk.drew ?_ | with_reducible refine Blk.drewN ?_ _ | with_reducible refine Blk.set3 ?_ _ _ _ | with_reducible refine Blk.far ?_ ?_ _ | ((with_reducible refine Blk.new' _ _ _ _ ?_) <;> (first | (simp; done) | (simp; omega) | omega) <;> done) | with_reducible refine Blk.alloc ?_ _ | with_reducible refine Blk3.drew ?_ | with_reducible refine Blk3.drewN ?_ _ | ((with_reducible refine Blk3.new' _ _ _ _ _ _ ?_) <;> (first | (simp; done) | (simp; omega) | omega) <;> done) | with_reducible refine Blk3.alloc ?_ _ | with_reducible refine Blk3.far ?_ ?_ _ | with_reducible refine Blk3.below ?_ (by assumption) ?_ | with_reducible refine Blk.below ?_ (by assumption) ?_)) <;> (first | (simp; done) | (simp; omega) | omega))
    have hbW : Below w1.heap.size w1 W0 := by rw [← hW0]; ((repeat' (first | with_reducible exact Below.refl _ _ | with_reducible assumption | with_reducible refine Below.drew ?_ | with_reducible refine below_drewN ?_ _ | with_reducible refine Below.setCell ?_ ?_ _ | with_reducible refine Below.alloc ?_ ?_ _ | with_reducible refine Below.trans ?_ (Below.mono (by assumption) ?_))) <;> (first | (simp; done) | (simp; omega) | omega))
    have HW0 := Lib.hid hW0
    clear hW0
    have hle : w1.heap.size ≤ W0.heap.size := hbW.size
    have hAW := hA1.below hbW
    have hBW := hB1.below hbW
    rw [show (w1.alloc (.cells #[.slice none 0 0] 45)).heap.size = w1.heap.size + 1 by simp]
    gi_wp2_with fail
    rw [HW0.out]
    refine wpIn_rangeFunc_ownH hro (by omega) (gf := 51) (lb := #[.pointer (some ⟨w1.heap.size + 1, 0, none⟩)]) rfl trivial (enters_of Try.func51 (by kernel_rfl) rfl)
      (each_stops 5 (by omega) (w1.heap.size + 1) w1.heap.size A B c d u t hu ht hut W0 hle bS hAW hBW) KpT.trans (KpT.put hle bS.lt) (Below.refl _ _) (fun _ => rfl)
      (fun pre W => (∃ v, Boxed W w1.heap.size 45 v ∧ W.ownsRow w1.heap.size 5 1 v (digs pre).length (bcs (digs pre)) ∧ Some1 v) ∧ Below w1.heap.size w1 W)
      (fun _ _ _ => False)
      (OwnFrom.and (Own.from (holdsRow_own w1.heap.size w1.heap.size 45 5 1 (fun pre => (digs pre).length) (fun pre => bcs (digs pre)) (fun _ v => Some1 v)) _) (ownFrom_below (Nat.le_refl _) hle))
      (fun _ _ _ _ _ hs _ _ => hs)
      ⟨⟨_, bL, World.ownsRow_nil _ _ _ _, trivial⟩, hbW⟩
      (fun x a' W => a' = { tmps := #[.agg #[.slice A u.length c, .slice B t.length d], .pointer (some ⟨w.heap.size, 0, none⟩), .string ⟨#[]⟩, .int .i64 0, .pointer (some ⟨w1.heap.size, 0, none⟩), undef, .bool x.2, .agg #[.slice A u.length c, .slice B t.length d], .int .i64 0, .bool false, .agg #[.slice A u.length c, .slice B t.length d], .func (.func 51) #[] #[.pointer (some ⟨w1.heap.size + 1, 0, none⟩)], .agg #[.int .i64 (x.1).k, .int .i64 (x.1).i, .string ⟨(x.1).s.toArray⟩], .bool x.2, undef, undef, undef, undef, undef, undef, undef, undef, undef], defers := [] })
      (fun _ _ _ _ _ _ hs _ _ => hs)
      ?assign ?body ?done ?stop
    case assign =>
      rintro l pre x W K hi hK
      gi_wp2
      exact hK _ _ (KeepsFrom.refl _ _) (KpT.refl _ _ _ _) hi rfl
    case body =>
      rintro l pre ⟨xv, xb⟩ a' W hl ⟨r, hr⟩ ⟨⟨v, hv, hrow, _⟩, hB1⟩ rfl hlt
      have hc := hv.cell
      have lB := hv.lt
      have hpl := digs_length pre
      have HPL := Lib.hid hpl
      clear hpl
      have hzB := hB1.size
      cases xb
      all_goals
        gi_wp2_with (gi_at_builtin; refine wpListIn_append_own _ rfl _ _ 45 rfl w1.heap.size 5 i0 _ 1 1 Try.underlying45 hi0 zi0 zi1 zi2 rfl (by decide) _ _ _ rfl (hrow.alloc _) ⟨W.heap.size, 0, none⟩ 1 1 _ rfl rfl (cell_one_new _ _ _) (by simp [Value.oneCell']) ?c3 ?c4 ?c5 ?_)
        case c3 => have := HPL.out; unfold maxLen; omega
        case c4 => have := HPL.out; omega
        case c5 => simp; omega
        intro v' w2 hown' hgrow _
        obtain ⟨g', cap', rfl⟩ := ownsRow_succ hown'
        obtain ⟨hv1, hv2, hr2, hk2, hb2⟩ := hv.appended (by decide) hrow hB1.size (Nat.le_refl _) hown' hgrow
        have hc1 := hv1.cell
        have hf1 := hv1.frozen
        gi_wp2_with fail
        refine ⟨hk2.from _, ⟨hb2, fun hb => ?_⟩, ⟨_, hv2, ?_, trivial⟩, hB1.trans hb2⟩
        · exact ((hb.alloc _).grown hgrow (blk_not_row hb (by decide) hrow)).far (by show w1.heap.size + 1 ≠ w1.heap.size; omega) _
        · rw [digs_snoc]
          simpa [bcs] using hr2
    case done =>
      rintro D ys W hD rfl ⟨⟨v, hv, hrow, _⟩, hB1⟩ hK
      have hc := hv.cell
      have hcv := own_text (P := Try.prog) (dst := 9) Try.underlying45 Try.underlying5 Try.underlying9 hrow
      gi_wp2_with fail
      refine ⟨by simp, .inl ⟨_, _, rfl, run_takeDeferred hK, ?_⟩⟩
      refine ⟨.tuple #[.string ⟨(digs (unitsTo u t u.length)).toArray⟩, .int .i64 0], by simp [results, Try.results31, go_sem], ?_⟩
      rw [HF.out]
      exact ⟨rfl, (hbw1.trans (hB1.mono hbw1.size)).trans (belowK_b (w := W0) (Nat.le_trans hbw1.size hle) W D _ _ hD hK rfl rfl)⟩
    case stop =>
      rintro D c pre W _ _ h _
      exact h.elim

end Go.Proofs.Ytkeeekifejholaa
