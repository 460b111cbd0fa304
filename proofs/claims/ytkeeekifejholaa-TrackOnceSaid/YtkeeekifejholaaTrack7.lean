/- track's Next as a plain function. Condition: slices that read as lists, no longer than a million. -/
import Derived.Test.YtkeeekifejholaaTrack5
namespace Go.Proofs.Ytkeeekifejholaa
open Go.RowKit Go.Shelf

attribute [local go_sem] Oper.semAt_some enc2
attribute [local go_sem ↓] run_eql_V run_neq_V

def nextF (u : List V) (t : List UInt8) : V × Int := if chkB u t then (match pend (unitsTo u t u.length) with | [] => (V.zero, 6) | v :: _ => (v, 0)) else (V.zero, 1)
theorem unitsTo_more (u : List V) (t : List UInt8) (k n : Nat) (h : k ≤ n) : ∃ r, unitsTo u t n = unitsTo u t k ++ r := by
  obtain ⟨m, rfl⟩ := Nat.exists_eq_add_of_le h
  refine ⟨(List.range' k m).map fun j => (u.getD j V.zero, bitB t j), ?_⟩
  unfold unitsTo
  rw [← List.map_append, List.range_eq_range', List.range_eq_range']
  congr 1
  rw [show List.range' k m = List.range' (0 + 1 * k) m by simp]
  rw [List.range'_append]
theorem Blk.one {w : World} {g : Nat} {t : TypeId} {x : Value} (h : Blk w g t #[x]) (y : Value) : Blk (w.setCell ⟨g, 0, none⟩ y) g t #[y] := by simpa using h.set_ 0 y
theorem pend_append (a b : List (V × Bool)) : pend (a ++ b) = pend a ++ pend b := by simp [pend]

set_option maxRecDepth 100000 in
set_option maxHeartbeats 2000000 in
theorem next_any (A B : Option Addr) (c d : Nat) (u : List V) (t : List UInt8) (w : World) (hu : u.length ≤ 1000000) (ht : t.length ≤ 1000000) (hA : VS w w.heap.size A u) (hB : BS w w.heap.size B t) :
    Calls Try.prog 29 #[.agg #[.slice A u.length c, .slice B t.length d]] w (Ret (.tuple #[.agg #[.int .i64 ((nextF u t).1).k, .int .i64 ((nextF u t).1).i, .string ⟨((nextF u t).1).s.toArray⟩], .int .i64 (nextF u t).2]) w) := by
  have hu' : u.length ≤ maxLen := by unfold maxLen; omega
  have ht' : t.length ≤ maxLen := by unfold maxLen; omega
  obtain ⟨R, hR⟩ : ∃ R, nextF u t = R := ⟨_, rfl⟩
  rw [hR]
  obtain ⟨w0, hw0⟩ : ∃ w0, ((w.alloc (.cells #[.slice A u.length c, .slice B t.length d] 47)).alloc (.cells #[.int .i64 0, .int .i64 0, .string ⟨#[]⟩] 31)).alloc (.cells #[.int .i64 0] 24) = w0 := ⟨_, rfl⟩
  have hb0 : Below w.heap.size w w0 := by rw [← hw0]; ((repeat' (first | with_reducible exact Below.refl _ _ | with_reducible assumption | with_reducible refine Below.drew ?_ | with_reducible refine below_drewN ?_ _ | with_reducible refine Below.setCell ?_ ?_ _ | with_reducible refine Below.alloc ?_ ?_ _ | with_reducible refine Below.trans ?_ (Below.mono (by assumption) ?_))) <;> (first | (simp; done) | (simp; omega) | omega))
  have hblk : Blk w0 w.heap.size 47 #[.slice A u.length c, .slice B t.length d] := by rw [← hw0]; ((repeat' (first | with_reducible assumption | with_reducible refine Blk.drew ?_ | with_reducible refine Blk.drewN ?_ _ | with_reducible refine Blk.set3 ?_ _ _ _ | with_reducible refine Blk.far ?_ ?_ _ | ((with_reducible refine Blk.new' _ _ _ _ ?_) <;> (first | (simp; done) | (simp; omega) | omega) <;> done) | with_reducible refine Blk.alloc ?_ _ | with_reducible refine Blk3.drew ?_ | with_reducible refine Blk3.drewN ?_ _ | ((with_reducible refine Blk3.new' _ _ _ _ _ _ ?_) <;> (first | (simp; done) | (simp; omega) | omega) <;> done) | with_reducible refine Blk3.alloc ?_ _ | with_reducible refine Blk3.far ?_ ?_ _ | with_reducible refine Blk3.below ?_ (by assumption) ?_ | with_reducible refine Blk.below ?_ (by assumption) ?_)) <;> (first | (simp; done) | (simp; omega) | omega))
  have hblk2 : Blk w0 (w.heap.size + 1) 31 #[.int .i64 0, .int .i64 0, .string ⟨#[]⟩] := by rw [← hw0]; ((repeat' (first | with_reducible assumption | with_reducible refine Blk.drew ?_ | with_reducible refine Blk.drewN ?_ _ | with_reducible refine Blk.set3 ?_ _ _ _ | with_reducible refine Blk.far ?_ ?_ _ | ((with_reducible refine Blk.new' _ _ _ _ ?_) <;> (first | (simp; done) | (simp; omega) | omega) <;> done) | with_reducible refine Blk.alloc ?_ _ | with_reducible refine Blk3.drew ?_ | with_reducible refine Blk3.drewN ?_ _ | ((with_reducible refine Blk3.new' _ _ _ _ _ _ ?_) <;> (first | (simp; done) | (simp; omega) | omega) <;> done) | with_reducible refine Blk3.alloc ?_ _ | with_reducible refine Blk3.far ?_ ?_ _ | with_reducible refine Blk3.below ?_ (by assumption) ?_ | with_reducible refine Blk.below ?_ (by assumption) ?_)) <;> (first | (simp; done) | (simp; omega) | omega))
  have hblk3 : Blk w0 (w.heap.size + 1 + 1) 24 #[.int .i64 0] := by rw [← hw0]; ((repeat' (first | with_reducible assumption | with_reducible refine Blk.drew ?_ | with_reducible refine Blk.drewN ?_ _ | with_reducible refine Blk.set3 ?_ _ _ _ | with_reducible refine Blk.far ?_ ?_ _ | ((with_reducible refine Blk.new' _ _ _ _ ?_) <;> (first | (simp; done) | (simp; omega) | omega) <;> done) | with_reducible refine Blk.alloc ?_ _ | with_reducible refine Blk3.drew ?_ | with_reducible refine Blk3.drewN ?_ _ | ((with_reducible refine Blk3.new' _ _ _ _ _ _ ?_) <;> (first | (simp; done) | (simp; omega) | omega) <;> done) | with_reducible refine Blk3.alloc ?_ _ | with_reducible refine Blk3.far ?_ ?_ _ | with_reducible refine Blk3.below ?_ (by assumption) ?_ | with_reducible refine Blk.below ?_ (by assumption) ?_)) <;> (first | (simp; done) | (simp; omega) | omega))
  have hA0 := (hA.below hb0).more hb0.size
  have hB0 := (hB.below hb0).more hb0.size
  have HW := Lib.hid hw0
  have hs0 := hb0.size
  obtain ⟨s0, s1⟩ := hblk.two.1
  clear hw0
  refine (callsIn_wide (n := 6)).1 ?_
  have hro : Fence.wide.round = none := rfl
  refine callsIn_of_wp_marks Try.func29 rfl trivial ?_ rfl
  simp only [Try.ntmps29, List.size_toArray, List.length_cons, List.length_nil, Nat.reduceAdd, Nat.reduceSub, Array.replicate_succ, Array.replicate_zero, List.push_toArray, List.append_toArray, List.nil_append, List.cons_append]
  gi_wp2_with fail
  rw [HW.out]
  refine ⟨trivial, ?_⟩
  refine (callsIn_wide.2 (check_any A B c d u t w0 hu' ht' hA0 hB0)).mono ?_
  rintro e w1 ⟨rfl, hb1⟩
  have hbw1 : Below w.heap.size w w1 := by ((repeat' (first | with_reducible exact Below.refl _ _ | with_reducible assumption | with_reducible refine Below.drew ?_ | with_reducible refine below_drewN ?_ _ | with_reducible refine Below.setCell ?_ ?_ _ | with_reducible refine Below.alloc ?_ ?_ _ | with_reducible refine Below.trans ?_ (Below.mono (by assumption) ?_))) <;> (first | (simp; done) | (simp; omega) | omega))
  have k1 := hblk.below hb1 hblk.lt
  have k2 := hblk2.below hb1 hblk2.lt
  have k3 := hblk3.below hb1 hblk3.lt
  obtain ⟨t0, t1⟩ := k1.two.1
  obtain ⟨⟨v0, v1, v2⟩, f0, f1, f2⟩ := k2.three
  have e0 := k3.cell 0
  have ef := k3.frozen 0
  simp at e0
  have q1 := k1.lt
  have q2 := k2.lt
  have q3 := k3.lt
  have hA1 := (hA.below hbw1).more hbw1.size
  have hB1 := (hB.below hbw1).more hbw1.size
  have hz1 := hb1.size
  cases hc : chkB u t
  · have e : chkE u t = 1 := by simp [chkE, hc]
    rw [e]
    have HF : Hid (R = (V.zero, 1)) := by show _ = _; rw [← hR]; simp [nextF, hc]
    clear e hc hR
    gi_wp2_with fail
    refine ⟨.tuple #[.agg #[.int .i64 (V.zero).k, .int .i64 (V.zero).i, .string ⟨(V.zero).s.toArray⟩], .int .i64 1], by simp [results, Try.results29, go_sem, v0, v1, v2, e0, V.zero], ?_⟩
    rw [HF.out]
    exact ⟨rfl, by ((repeat' (first | with_reducible exact Below.refl _ _ | with_reducible assumption | with_reducible refine Below.drew ?_ | with_reducible refine below_drewN ?_ _ | with_reducible refine Below.setCell ?_ ?_ _ | with_reducible refine Below.alloc ?_ ?_ _ | with_reducible refine Below.trans ?_ (Below.mono (by assumption) ?_))) <;> (first | (simp; done) | (simp; omega) | omega))⟩
  · have e : chkE u t = 0 := by simp [chkE, hc]
    rw [e]
    have hlen := chk_len hc
    have HF : Hid (R = (match pend (unitsTo u t u.length) with | [] => (V.zero, 6) | v :: _ => (v, 0))) := by show _ = _; rw [← hR]; simp [nextF, hc]
    have hut : u.length ≤ 8 * t.length := by omega
    clear e hc hR hlen
    gi_wp2_with fail
    refine ⟨trivial, ?_⟩
    refine (callsIn_wide.2 (each_any _ A B u.length t.length c d rfl _)).mono ?_
    rintro e w2 ⟨rfl, rfl⟩
    obtain ⟨W0, hW0⟩ : ∃ W0, w1.alloc (.cells #[.slice A u.length c, .slice B t.length d] 47) = W0 := ⟨_, rfl⟩
    have bS : Blk W0 w1.heap.size 47 #[.slice A u.length c, .slice B t.length d] := by rw [← hW0]; ((repeat' (first | with_reducible assumption | with_reducible refine Blk.drew ?_ | with_reducible refine Blk.drewN ?_ _ | with_reducible refine Blk.set3 ?_ _ _ _ | with_reducible refine Blk.far ?_ ?_ _ | ((with_reducible refine Blk.new' _ _ _ _ ?_) <;> (first | (simp; done) | (simp; omega) | omega) <;> done) | with_reducible refine Blk.alloc ?_ _ | with_reducible refine Blk3.drew ?_ | with_reducible refine Blk3.drewN ?_ _ | ((with_reducible refine Blk3.new' _ _ _ _ _ _ ?_) <;> (first | (simp; done) | (simp; omega) | omega) <;> done) | with_reducible refine Blk3.alloc ?_ _ | with_reducible refine Blk3.far ?_ ?_ _ | with_reducible refine Blk3.below ?_ (by assumption) ?_ | with_reducible refine Blk.below ?_ (by assumption) ?_)) <;> (first | (simp; done) | (simp; omega) | omega))
    have hbW : Below w1.heap.size w1 W0 := by rw [← hW0]; ((repeat' (first | with_reducible exact Below.refl _ _ | with_reducible assumption | with_reducible refine Below.drew ?_ | with_reducible refine below_drewN ?_ _ | with_reducible refine Below.setCell ?_ ?_ _ | with_reducible refine Below.alloc ?_ ?_ _ | with_reducible refine Below.trans ?_ (Below.mono (by assumption) ?_))) <;> (first | (simp; done) | (simp; omega) | omega))
    have HW0 := Lib.hid hW0
    clear hW0
    have hle : w1.heap.size ≤ W0.heap.size := hbW.size
    have hAW := hA1.below hbW
    have hBW := hB1.below hbW
    gi_wp2_with fail
    rw [HW0.out]
    refine wpIn_rangeFunc_ownH hro (by omega) (gf := 51) (lb := #[.pointer (some ⟨w1.heap.size, 0, none⟩)]) rfl trivial (enters_of Try.func51 (by kernel_rfl) rfl)
      (each_stops 5 (by omega) w1.heap.size w1.heap.size A B c d u t hu ht hut W0 hle bS hAW hBW) KpT.trans (KpT.put hle bS.lt) (Below.refl _ _) (fun _ => rfl)
      (fun pre W => Hid (pend pre = []) ∧ Below w1.heap.size w1 W)
      (fun c pre W => (c = .ret ∧ ∃ ini v, Hid (pre = ini ++ [(v, false)] ∧ pend ini = []) ∧ Blk W (w.heap.size + 1) 31 #[.int .i64 (v).k, .int .i64 (v).i, .string ⟨(v).s.toArray⟩] ∧ Blk W (w.heap.size + 1 + 1) 24 #[.int .i64 0]) ∧ Below w.heap.size w W)
      (OwnFrom.and (fun _ _ _ _ hs _ _ => hs) (ownFrom_below (Nat.le_refl _) hle))
      (fun c => OwnFrom.and (fun s X Y row hs hg hr => by
        obtain ⟨h1, ini, v, h2, h3, h4⟩ := hs
        exact ⟨h1, ini, v, h2, h3.grown hg (fun e => by obtain ⟨h5, _⟩ := hr _ e.symm; omega), h4.grown hg (fun e => by obtain ⟨h5, _⟩ := hr _ e.symm; omega)⟩) (ownFrom_below (Nat.le_refl _) (Nat.le_trans hbw1.size hle)))
      ⟨rfl, hbW⟩
      (fun x a' W => ∃ Bx, w1.heap.size ≤ Bx ∧ Blk W Bx 31 #[.int .i64 (x.1).k, .int .i64 (x.1).i, .string ⟨(x.1).s.toArray⟩] ∧ a' = { tmps := #[.agg #[.slice A u.length c, .slice B t.length d], .pointer (some ⟨w.heap.size, 0, none⟩), .pointer (some ⟨w.heap.size + 1, 0, none⟩), .pointer (some ⟨w.heap.size + 1 + 1, 0, none⟩), .pointer (some ⟨Bx, 0, none⟩), .bool x.2, .agg #[.slice A u.length c, .slice B t.length d], .int .i64 0, .bool false, undef, .agg #[.slice A u.length c, .slice B t.length d], .func (.func 51) #[] #[.pointer (some ⟨w1.heap.size, 0, none⟩)], .agg #[.int .i64 (x.1).k, .int .i64 (x.1).i, .string ⟨(x.1).s.toArray⟩], .bool x.2, undef, undef, undef, undef], defers := [] })
      (fun x a' _ X Y row hs hg hr => by obtain ⟨Bx, h1, h2, h3⟩ := hs; exact ⟨Bx, h1, h2.grown hg (fun e => by obtain ⟨_, o, ho, hoc⟩ := hr Bx e.symm; unfold Blk at h2; rw [h2] at ho; cases ho; cases hoc), h3⟩)
      ?assign ?body ?done ?stop
    case assign =>
      rintro l pre x W K ⟨hp, hB1⟩ hK
      have hs1 := hB1.size
      gi_wp2
      exact hK _ _ ((KeepsOthers.alloc _ _).from _) ⟨(Below.refl _ W).alloc hs1 _, fun h => h.alloc _⟩ ⟨hp, hB1.alloc hs1 _⟩ ⟨W.heap.size, hs1, Blk.new W _ _, rfl⟩
    case body =>
      rintro l pre ⟨xv, xb⟩ a' W hl ⟨r, hr⟩ ⟨hp, hB1⟩ ⟨Bx, hBx, bX, rfl⟩ hlt
      obtain ⟨⟨x0, x1, x2⟩, _⟩ := bX.three
      have lX := bX.lt
      have hzB := hB1.size
      have m2 := k2.below hB1 q2
      have m3 := k3.below hB1 q3
      obtain ⟨⟨v0, v1, v2⟩, f0, f1, f2⟩ := m2.three
      have e0 := m3.cell 0
      have ef := m3.frozen 0
      simp at e0
      have q2' := m2.lt
      have q3' := m3.lt
      cases xb
      · dsimp only at x0 x1 x2
        gi_wp2_with fail
        have hbw : Below w.heap.size w W := hbw1.trans (hB1.mono hbw1.size)
        refine ⟨((((KeepsOthers.setCell _ _ _).trans (KeepsOthers.setCell _ _ _)).trans (KeepsOthers.setCell _ _ _)).trans (KeepsOthers.setCell _ _ _)).from _, ⟨rfl, pre, xv, ⟨rfl, hp.out⟩, ?_, ?_⟩, ?_⟩
        · exact (Blk.set3 ⟨_, _, _, m2⟩ _ _ _).far (by show w.heap.size + 1 ≠ w.heap.size + 1 + 1; omega) _
        · exact ((((m3.far (by show w.heap.size + 1 + 1 ≠ w.heap.size + 1; omega) _).far (by show w.heap.size + 1 + 1 ≠ w.heap.size + 1; omega) _).far (by show w.heap.size + 1 + 1 ≠ w.heap.size + 1; omega) _)).one _
        · ((repeat' (first | with_reducible exact Below.refl _ _ | with_reducible assumption | with_reducible refine Below.drew ?_ | with_reducible refine below_drewN ?_ _ | with_reducible refine Below.setCell ?_ ?_ _ | with_reducible refine Below.alloc ?_ ?_ _ | with_reducible refine Below.trans ?_ (Below.mono (by assumption) ?_))) <;> (first | (simp; done) | (simp; omega) | omega))
      · gi_wp2_with fail
        exact ⟨KeepsFrom.refl _ _, KpT.refl _ _ _ _, by show _ = _; rw [pend_miss]; exact hp.out, hB1⟩
    case done =>
      rintro D ys W hD rfl ⟨hp, hB1⟩ hK
      have m2 := k2.below hB1 q2
      have m3 := k3.below hB1 q3
      obtain ⟨⟨v0, v1, v2⟩, f0, f1, f2⟩ := m2.three
      have e0 := m3.cell 0
      have ef := m3.frozen 0
      simp at e0
      gi_wp2_with fail
      have hbw : Below w.heap.size w W := hbw1.trans (hB1.mono hbw1.size)
      have hK' := ((((KeepsOthers.setCell W ⟨w.heap.size + 1, 0, none⟩ (.int .i64 0)).trans (KeepsOthers.setCell _ ⟨w.heap.size + 1, 1, none⟩ (.int .i64 0))).trans (KeepsOthers.setCell _ ⟨w.heap.size + 1, 2, none⟩ (.string ⟨#[]⟩))).trans (KeepsOthers.setCell _ ⟨w.heap.size + 1 + 1, 0, none⟩ (.int .i64 6))).same D _ hK rfl
      have n2 := (Blk.set3 ⟨_, _, _, m2⟩ (.int .i64 0) (.int .i64 0) (.string ⟨#[]⟩)).far (p := ⟨w.heap.size + 1 + 1, 0, none⟩) (by show w.heap.size + 1 ≠ w.heap.size + 1 + 1; omega) (.int .i64 6)
      have n3 := ((((m3.far (p := ⟨w.heap.size + 1, 0, none⟩) (by show w.heap.size + 1 + 1 ≠ w.heap.size + 1; omega) (.int .i64 0)).far (p := ⟨w.heap.size + 1, 1, none⟩) (by show w.heap.size + 1 + 1 ≠ w.heap.size + 1; omega) (.int .i64 0)).far (p := ⟨w.heap.size + 1, 2, none⟩) (by show w.heap.size + 1 + 1 ≠ w.heap.size + 1; omega) (.string ⟨#[]⟩))).one (.int .i64 6)
      have hbw4 : Below w.heap.size w ((((W.setCell ⟨w.heap.size + 1, 0, none⟩ (.int .i64 0)).setCell ⟨w.heap.size + 1, 1, none⟩ (.int .i64 0)).setCell ⟨w.heap.size + 1, 2, none⟩ (.string ⟨#[]⟩)).setCell ⟨w.heap.size + 1 + 1, 0, none⟩ (.int .i64 6)) := by ((repeat' (first | with_reducible exact Below.refl _ _ | with_reducible assumption | with_reducible refine Below.drew ?_ | with_reducible refine below_drewN ?_ _ | with_reducible refine Below.setCell ?_ ?_ _ | with_reducible refine Below.alloc ?_ ?_ _ | with_reducible refine Below.trans ?_ (Below.mono (by assumption) ?_))) <;> (first | (simp; done) | (simp; omega) | omega))
      generalize (((W.setCell ⟨w.heap.size + 1, 0, none⟩ (.int .i64 0)).setCell ⟨w.heap.size + 1, 1, none⟩ (.int .i64 0)).setCell ⟨w.heap.size + 1, 2, none⟩ (.string ⟨#[]⟩)).setCell ⟨w.heap.size + 1 + 1, 0, none⟩ (.int .i64 6) = W4 at *
      refine ⟨by simp, .inl ⟨_, _, rfl, run_takeDeferred hK', ?_⟩⟩
      have p2 := n2.grown (grownBy_putObj' W4 D (.deferred none)) (fun e => by cases e; omega)
      have p3 := n3.grown (grownBy_putObj' W4 D (.deferred none)) (fun e => by cases e; omega)
      obtain ⟨⟨v0, v1, v2⟩, _⟩ := p2.three
      have e0 := p3.cell 0
      simp at e0
      refine ⟨.tuple #[.agg #[.int .i64 (V.zero).k, .int .i64 (V.zero).i, .string ⟨(V.zero).s.toArray⟩], .int .i64 6], by simp [results, Try.results29, go_sem, v0, v1, v2, e0, V.zero], ?_⟩
      rw [HF.out, hp.out]
      exact ⟨rfl, hbw4.trans (belowK_b (w := W0) (Nat.le_trans hbw1.size hle) W4 D _ _ hD hK' rfl rfl)⟩
    case stop =>
      rintro D c pre W hD ⟨k, hk, rfl⟩ ⟨⟨rfl, ini, v, h1, b1, b2⟩, hB⟩ hK
      gi_wp2_with fail
      refine ⟨by simp, .inl ⟨_, _, rfl, run_takeDeferred hK, ?_⟩⟩
      have p2 := b1.grown (grownBy_putObj' W D (.deferred none)) (fun e => by cases e; omega)
      have p3 := b2.grown (grownBy_putObj' W D (.deferred none)) (fun e => by cases e; omega)
      obtain ⟨⟨v0, v1, v2⟩, _⟩ := p2.three
      have e0 := p3.cell 0
      simp at e0
      refine ⟨.tuple #[.agg #[.int .i64 (v).k, .int .i64 (v).i, .string ⟨(v).s.toArray⟩], .int .i64 0], by simp [results, Try.results29, go_sem, v0, v1, v2, e0], ?_⟩
      obtain ⟨h2, h3⟩ := h1.out
      obtain ⟨r, hr⟩ := unitsTo_more u t k u.length hk
      have hpe : pend (unitsTo u t u.length) = v :: pend r := by rw [hr, h2, pend_append, pend_hit, h3]; rfl
      rw [HF.out, hpe]
      exact ⟨rfl, hB.trans (belowK_b (w := W0) (Nat.le_trans hbw1.size hle) W D _ _ hD hK rfl rfl)⟩

end Go.Proofs.Ytkeeekifejholaa
