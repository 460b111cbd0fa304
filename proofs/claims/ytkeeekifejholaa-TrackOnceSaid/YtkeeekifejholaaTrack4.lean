/- track.each: how it goes through a track's units, for every loop body that keeps what lay. Condition: slices that read as lists, no longer than a million. -/
import Derived.Test.YtkeeekifejholaaTrack3
import Derived.RangeFuncNested
import Derived.RangeFuncBound
import Derived.RangeFuncCalls
import Derived.RangeFuncLeaves
import Derived.Shelf.Abstract
import Derived.Shelf.RegionOpen
import Derived.OwnWalkIn
import Derived.TacticsInMore
import Derived.LoopNIn
import Derived.LoopIn
namespace Go.Proofs.Ytkeeekifejholaa
open Go.RowKit Go.Shelf

attribute [local go_sem] Oper.semAt_some
attribute [local go_sem ↓] run_eql_V run_neq_V

def enc2 (x : V × Bool) : Array Value := #[.agg #[.int .i64 (x.1).k, .int .i64 (x.1).i, .string ⟨(x.1).s.toArray⟩], .bool x.2]
/-- The first k units, each with its bit. -/
def unitsTo (u : List V) (t : List UInt8) (k : Nat) : List (V × Bool) := (List.range k).map fun j => (u.getD j V.zero, bitB t j)
theorem unitsTo_succ (u : List V) (t : List UInt8) (k : Nat) : unitsTo u t (k + 1) = unitsTo u t k ++ [(u.getD k V.zero, bitB t k)] := by simp [unitsTo, List.range_succ]
theorem unitsTo_length (u : List V) (t : List UInt8) (k : Nat) : (unitsTo u t k).length = k := by simp [unitsTo]

theorem grown_alloc_drew (W : World) (o : Obj) : W.grownBy (W.alloc o).drew none := by
  have h := World.grownBy_alloc W o none
  exact ⟨h.os, h.tape, h.output, h.size, h.block⟩

/-- What a round keeps that goes on: what lay below n₀, and the block that the iterator reads. -/
def KpT (n₀ Bs : Nat) (cs : Array Value) (W W' : World) : Prop := Below n₀ W W' ∧ (Blk W Bs 47 cs → Blk W' Bs 47 cs)
theorem KpT.trans {n₀ Bs : Nat} {cs : Array Value} {A B C : World} (h : KpT n₀ Bs cs A B) (k : KpT n₀ Bs cs B C) : KpT n₀ Bs cs A C := ⟨h.1.trans k.1, fun x => k.2 (h.2 x)⟩
theorem KpT.refl (n₀ Bs : Nat) (cs : Array Value) (W : World) : KpT n₀ Bs cs W W := ⟨Below.refl _ _, id⟩
theorem KpT.put {n₀ Bs : Nat} {cs : Array Value} {w : World} (hn : n₀ ≤ w.heap.size) (hB : Bs < w.heap.size) (W : World) (l : Nat) (o o' : Obj) (hl : w.heap.size ≤ l) (h : W.heap[l]? = some o) (h1 : o.isCells = false) (h2 : o.isWalk = false) : KpT n₀ Bs cs W (W.putObj l o') :=
  ⟨belowK_b hn W l o o' hl h h1 h2, fun x => x.grown (grownBy_putObj' W l o') (fun e => by cases e; omega)⟩

set_option maxRecDepth 100000 in
set_option maxHeartbeats 2000000 in
theorem each1_in (n : Nat) (hn : 2 ≤ n) (l Bs n₀ : Nat) (A B : Option Addr) (c d : Nat) (u : List V) (t : List UInt8) (hu : u.length ≤ 1000000) (ht : t.length ≤ 1000000) (hut : u.length ≤ 8 * t.length) (J Jx : List (V × Bool) → World → Prop)
    (W : World) (hJ : AbidesFrom W.heap.size J)
    (hY : ∀ pre x W, J pre W → pre.length < u.length → YieldAt Fence.wide (n - 1) Try.prog l (enc2 x) W fun e W' =>
      (e = .returned (.bool true) ∧ J (pre ++ [x]) W' ∧ KpT n₀ Bs #[.slice A u.length c, .slice B t.length d] W W') ∨ (e = .returned (.bool false) ∧ Jx (pre ++ [x]) W'))
    (hn₀ : n₀ ≤ W.heap.size) (hBs : Blk W Bs 47 #[.slice A u.length c, .slice B t.length d]) (hA : VS W n₀ A u) (hB : BS W n₀ B t) (h0 : J [] W) :
    CallsIn Fence.wide n Try.prog 51 #[.func (.yield l) #[] #[], .pointer (some ⟨Bs, 0, none⟩)] W fun e W' => (∃ v, e = .returned v) ∧
      ((∃ ys, ys = unitsTo u t u.length ∧ J ys W') ∨ (∃ pre, (∃ k, k ≤ u.length ∧ pre = unitsTo u t k) ∧ Jx pre W')) := by
  have hmix : Try.prog.follows .mixedOrders = true := by kernel_rfl
  have hro : Fence.wide.round = none := rfl
  obtain ⟨⟨hc0, hc1⟩, _⟩ := hBs.two
  refine callsIn_of_wp Try.func51 rfl trivial ?_ rfl
  simp only [Try.ntmps51, List.size_toArray, List.length_cons, List.length_nil, Nat.reduceAdd, Nat.reduceSub, Array.replicate_succ, Array.replicate_zero, List.push_toArray, List.append_toArray, List.nil_append, List.cons_append]
  gi_wp2
  gi_loopw [8] (fun i wr => ∃ k : Nat, k ≤ u.length ∧ i = .int .i64 k ∧ J (unitsTo u t k) wr ∧ Below n₀ W wr ∧ Blk wr Bs 47 #[.slice A u.length c, .slice B t.length d]) (fun i _ => u.length - (intOf i).toNat)
  case atStart => exact ⟨0, Nat.zero_le _, rfl, h0, Below.refl _ _, hBs⟩
  case round =>
    obtain ⟨k, hk, rfl, hJs, hnx, hkx⟩ := hrel
    obtain ⟨⟨e0, e1⟩, _⟩ := hkx.two
    have lx := hkx.lt
    by_cases hlt : k < u.length
    · obtain ⟨b, off, v, rfl, hbB, hv, c0, c1, c2⟩ := (hA.below hnx).at_ hlt
      have hzx := hnx.size
      have hBw := hB.below hnx
      have hg : u.getD k V.zero = v := by rw [List.getD_eq_getElem?_getD, hv]; rfl
      have HG := Lib.hid hg
      clear hg hv
      obtain ⟨W1, rfl⟩ : ∃ W1, W1 = wr := ⟨_, rfl⟩
      obtain ⟨W2, hW2⟩ : ∃ W2, W1.alloc (.cells #[.int .i64 (v).k, .int .i64 (v).i, .string ⟨(v).s.toArray⟩] 31) = W2 := ⟨_, rfl⟩
      have hb2 : Below W1.heap.size W1 W2 := by rw [← hW2]; ((repeat' (first | with_reducible exact Below.refl _ _ | with_reducible assumption | with_reducible refine Below.drew ?_ | with_reducible refine below_drewN ?_ _ | with_reducible refine Below.setCell ?_ ?_ _ | with_reducible refine Below.alloc ?_ ?_ _ | with_reducible refine Below.trans ?_ (Below.mono (by assumption) ?_))) <;> (first | (simp; done) | (simp; omega) | omega))
      have hk2 : Blk W2 W1.heap.size 31 #[.int .i64 (v).k, .int .i64 (v).i, .string ⟨(v).s.toArray⟩] := by rw [← hW2]; exact Blk.new _ _ _
      have hJ2 : J (unitsTo u t k) W2.drew := hJ _ _ _ none hJs (by rw [← hW2]; exact grown_alloc_drew _ _) (fun _ e => by cases e)
      have HW2 := Lib.hid hW2
      clear hW2
      obtain ⟨⟨d0, d1, d2⟩, _⟩ := hk2.three
      have hkx2 := hkx.below hb2 lx
      obtain ⟨⟨e0', e1'⟩, _⟩ := hkx2.two
      have hB2 : BS W2 W2.heap.size B t := ((hBw.more (show n₀ ≤ W1.heap.size by omega)).below hb2).more hb2.size
      have hbit := Lib.hid (callsIn_wide (n := n - 1) |>.2 (bit_any B d t k W2.drew (by omega) ht hB2))
      obtain ⟨fn, tmps, assign, body, hy, hR⟩ := hY _ (v, bitB t k) _ hJ2 (by rw [unitsTo_length]; exact hlt)
      have hR2 : RoundIn Fence.wide (n - 1) Try.prog l fn tmps assign body W2.drew fun e W' => ∃ bb, e = .returned (.bool bb) ∧ Hid ((bb = true → J (unitsTo u t k ++ [(v, bitB t k)]) W' ∧ KpT n₀ Bs #[.slice (some ⟨b, off, none⟩) u.length c, .slice B t.length d] W2.drew W') ∧ (bb = false → Jx (unitsTo u t k ++ [(v, bitB t k)]) W')) :=
        hR.mono fun e W' h => by
          rcases h with ⟨rfl, h1, h2⟩ | ⟨rfl, h1⟩
          · exact ⟨true, rfl, fun _ => ⟨h1, h2⟩, fun h => by cases h⟩
          · exact ⟨false, rfl, fun h => (by cases h), fun _ => h1⟩
      clear hR hJ2
      dsimp only [enc2] at hy
      gi_wp2
      rw [HW2.out]
      gi_region_with_o (first | (refine ⟨trivial, (fun _ => by omega), ?_⟩; gi_at_call 42; refine (hbit.out).mono ?_; rintro e w9 ⟨rfl, rfl⟩) | (refine ⟨(fun _ => by omega), ?_⟩; refine hR2.mono ?_; rintro e W3 ⟨bb, rfl, hP⟩))
      all_goals
        cases bb
        · have hJx3 := hP.out.2 rfl
          gi_wp2
          refine bodyPost_ret (results_none rfl _ _ _) rfl ?_
          exact ⟨⟨_, rfl⟩, .inr ⟨_, ⟨k + 1, by omega, by rw [unitsTo_succ, HG.out]⟩, hJx3⟩⟩
        · obtain ⟨hJ3, hk3, hk4⟩ := hP.out.1 rfl
          have hk5 := hk4 hkx2.drew
          gi_wp2
          go_roundw
          case rel => exact ⟨k + 1, by omega, by go_num, by rw [unitsTo_succ, HG.out]; exact hJ3, (hnx.trans ((hb2.mono (by omega)).drew)).trans hk3, hk5⟩
          case measure => simp [intOf]; omega
    · obtain rfl : k = u.length := by omega
      gi_wp2
      go_end0
      exact ⟨⟨_, rfl⟩, .inl ⟨_, rfl, hJs⟩⟩

theorem each_any (T : Value) (A B : Option Addr) (n m c d : Nat) (hT : T = .agg #[.slice A n c, .slice B m d]) (w : World) :
    Calls Try.prog 43 #[T] w fun e w' => e = .returned (.func (.func 51) #[] #[.pointer (some ⟨w.heap.size, 0, none⟩)]) ∧ w.alloc (.cells #[.slice A n c, .slice B m d] 47) = w' := by
  subst hT
  go_enter Try.func43, Try.ntmps43
  go_wp2
  go_ret
  exact ⟨rfl, rfl⟩

/-- What each hands back goes through all units, or through the first of them. -/
theorem each_stops (n : Nat) (hn : 2 ≤ n) (Bs n₀ : Nat) (A B : Option Addr) (c d : Nat) (u : List V) (t : List UInt8) (hu : u.length ≤ 1000000) (ht : t.length ≤ 1000000) (hut : u.length ≤ 8 * t.length) (w : World)
    (hn₀ : n₀ ≤ w.heap.size) (hBs : Blk w Bs 47 #[.slice A u.length c, .slice B t.length d]) (hA : VS w n₀ A u) (hB : BS w n₀ B t) :
    SeqStopsK Fence.wide n Try.prog 51 #[.pointer (some ⟨Bs, 0, none⟩)] enc2 (KpT n₀ Bs #[.slice A u.length c, .slice B t.length d]) (fun ys => ys = unitsTo u t u.length) (fun pre => ∃ k, k ≤ u.length ∧ pre = unitsTo u t k) u.length w :=
  fun l J Jx W hW hJ _ hY h0 => each1_in n hn l Bs n₀ A B c d u t hu ht hut J Jx W hJ hY (Nat.le_trans hn₀ hW.size) (hBs.below hW hBs.lt) (hA.below (hW.mono hn₀)) (hB.below (hW.mono hn₀)) h0

end Go.Proofs.Ytkeeekifejholaa
