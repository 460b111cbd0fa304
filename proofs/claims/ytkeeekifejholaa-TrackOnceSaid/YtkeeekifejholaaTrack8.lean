/- caddislaw14.units and few, num, and the document's Same of two tracks, as plain functions. Condition: slices that read as lists. -/
import Derived.Test.YtkeeekifejholaaTrack3
import Derived.Deep.RegionLaw
namespace Go.Proofs.Ytkeeekifejholaa
open Go.RowKit

attribute [local go_sem] ByteArray.extract_mk ba_get
attribute [local go_sem ↓] Go.wp_at_zero Go.wp_at_succ run_eql_V run_neq_V run_nil_V

def unitsL (l : List V) : List V := (l.take 201).map fewV

set_option maxRecDepth 100000 in
set_option maxHeartbeats 400000 in
theorem units_any (A : Option Addr) (c : Nat) (l : List V) (w : World) (hl : l.length ≤ maxLen) (h : VS w w.heap.size A l) :
    Calls Try.prog 23 #[.slice A l.length c] w (RetVS (unitsL l) w) := by
  unfold maxLen at hl
  obtain ⟨i0, hi0, zi0, zi1, zi2⟩ := info_parts infoV
  go_enter Try.func23, Try.ntmps23
  go_wp2
  go_loopw [3, 4] (fun v i wr => ∃ j : Nat, j ≤ l.length ∧ j ≤ 201 ∧ i = .int .i64 j ∧ wr.ownsRow w.heap.size 31 3 v j (((l.take j).map fewV).flatMap V.cells) ∧ Below w.heap.size w wr) (fun _ i _ => l.length - (intOf i).toNat)
  case atStart => exact ⟨0, by omega, by omega, rfl, World.ownsRow_nil _ _ _ _, Below.refl _ _⟩
  case round =>
    obtain ⟨j, hj1, hj2, rfl, hown, hbw⟩ := hrel
    by_cases hlt : j < l.length
    · by_cases h14 : j < 201
      · obtain ⟨b, off, v, rfl, hbB, hv, c0, c1, c2⟩ := (h.below hbw).at_ hlt
        have HV := Lib.hid hv
        clear hv
        go_wp2_with fail
        refine (few1_any _ _ _ _).mono ?_
        rintro e w1 ⟨rfl, hb1⟩
        have hz1 := hb1.size
        have hown1 : w1.ownsRow w.heap.size 31 3 u3 j (((l.take j).map fewV).flatMap V.cells) := own_below hown hb1
        have hzw := hbw.size
        go_wp2_with (at_builtin; refine wpList_append_own _ rfl _ _ 22 rfl w.heap.size 31 i0 _ 3 32 Try.underlying22 hi0 zi0 zi1 zi2 rfl (by decide) _ _ _ rfl (hown1.alloc _) ⟨w1.heap.size, 0, none⟩ 1 1 (fewV v).cells rfl rfl ?c1 ?c2 ?c3 ?c4 ?c5 ?_)
        case c1 =>
          exact World.news_of_block (cs := #[.int .i64 v.k, .int .i64 v.i, .string ⟨(v.s.take 60).toArray⟩]) (t := 31) (fr := (0, 0)) (heap_alloc_new w1 _)
        case c2 => exact fun u hu => cells_one [fewV v] u (by simpa using hu)
        case c3 => unfold maxLen; omega
        case c4 => omega
        case c5 => simp; omega
        intro v' w2 hown2 hg2 _
        go_wp2
        go_roundw
        case rel =>
          refine ⟨j + 1, by omega, by omega, by go_num, ?_, ?_⟩
          · rw [fewL_snoc l j v HV.out, List.flatMap_append]
            simpa using hown2
          · refine Below.grown (w := w1.alloc (.cells #[.int .i64 v.k, .int .i64 v.i, .string ⟨(v.s.take 60).toArray⟩] 31)) ?_ hg2 (by simp; omega) (fun k hk => (hown.lt k hk).1)
            ((repeat' (first | with_reducible exact Below.refl _ _ | with_reducible assumption | with_reducible refine Below.drew ?_ | with_reducible refine below_drewN ?_ _ | with_reducible refine Below.setCell ?_ ?_ _ | with_reducible refine Below.alloc ?_ ?_ _ | with_reducible refine Below.trans ?_ (Below.mono (by assumption) ?_))) <;> (first | (simp; done) | (simp; omega) | omega))
        case measure => simp [intOf]; omega
      · go_wp2
        go_ret
        obtain ⟨A', c', rfl, hc1, hc2, hv⟩ := VS.own hown
        have e : unitsL l = (l.take j).map fewV := by unfold unitsL; rw [show j = 201 by omega]
        refine ⟨A', c', ?_, ?_, hc2, ?_, hbw⟩
        · rw [e]; rfl
        · rw [e]; exact hc1
        · rw [e]; exact hv
    · go_wp2
      go_ret
      obtain ⟨A', c', rfl, hc1, hc2, hv⟩ := VS.own hown
      have e : unitsL l = (l.take j).map fewV := by unfold unitsL; rw [List.take_of_length_le (i := 201) (by omega), List.take_of_length_le (by omega)]
      refine ⟨A', c', ?_, ?_, hc2, ?_, hbw⟩
      · rw [e]; rfl
      · rw [e]; exact hc1
      · rw [e]; exact hv

theorem BS.own {w : World} {base : Nat} {e : TypeId} {sv : Value} {n : Nat} {l : List UInt8} (h : w.ownsRow base e 1 sv n (bcs l)) :
    ∃ A c, sv = .slice A l.length c ∧ l.length ≤ c ∧ c ≤ maxLen ∧ BF w base w.heap.size A l := by
  have hn : l.length = n := by have := h.1; rw [bcs_length] at this; omega
  rcases h.2 with ⟨rfl, h0⟩ | ⟨g, cap, cur, rfl, hb, hg, hnc, hcm, hcs, htk⟩
  · refine ⟨none, 0, ?_, by omega, Nat.zero_le _, fun hl => absurd hl (by omega)⟩
    rw [hn, h0]
  · refine ⟨some ⟨g, 0, none⟩, cap, by rw [hn], by omega, hcm, fun _ => ⟨g, 0, rfl, hb, (Array.getElem?_eq_some_iff.1 hg).1, fun i c hc => ?_⟩⟩
    have := h.cells (g := g) rfl i (.int .u8 (c.toNat : Int)) (by simp [bcs, hc])
    rw [add_mid] at this
    exact this

theorem grown_set (w : World) (p : Addr) (u : Value) : w.grownBy (w.setCell p u) (some p.block) := ⟨rfl, rfl, rfl, by simp, fun k _ hne => Below.heap_setCell w p u k (fun e => hne (by rw [e]))⟩
/-- What a call leaves that answers a track. -/
def RetTr (u : List V) (t : List UInt8) (w : World) (e : Ending) (w' : World) : Prop :=
  ∃ A c B d, e = .returned (.agg #[.slice A u.length c, .slice B t.length d]) ∧ VF w' w.heap.size w'.heap.size A u ∧ BF w' w.heap.size w'.heap.size B t ∧ Below w.heap.size w w'

theorem bcs_take (t : List UInt8) (j : Nat) (c : UInt8) (h : t[j]? = some c) : bcs (t.take (j + 1)) = bcs (t.take j) ++ [.int .u8 (c.toNat : Int)] := by
  rw [List.take_add_one, h]; simp [bcs]

set_option maxRecDepth 100000 in
set_option maxHeartbeats 2000000 in
theorem fewT_any (A B : Option Addr) (c d : Nat) (u : List V) (t : List UInt8) (w : World) (hu : u.length ≤ maxLen) (ht : t.length ≤ maxLen) (hA : VS w w.heap.size A u) (hB : BS w w.heap.size B t) :
    Calls Try.prog 30 #[.agg #[.slice A u.length c, .slice B t.length d]] w (RetTr (unitsL u) (t.take 27) w) := by
  obtain ⟨i0, hi0, zi0, zi1, zi2⟩ := info_parts infoU8
  unfold maxLen at ht
  obtain ⟨w0, hw0⟩ : ∃ w0, (w.alloc (.cells #[.slice A u.length c, .slice B t.length d] 47)).alloc (.cells #[.slice none 0 0, .slice none 0 0] 47) = w0 := ⟨_, rfl⟩
  have hb0 : Below w.heap.size w w0 := by rw [← hw0]; ((repeat' (first | with_reducible exact Below.refl _ _ | with_reducible assumption | with_reducible refine Below.drew ?_ | with_reducible refine below_drewN ?_ _ | with_reducible refine Below.setCell ?_ ?_ _ | with_reducible refine Below.alloc ?_ ?_ _ | with_reducible refine Below.trans ?_ (Below.mono (by assumption) ?_))) <;> (first | (simp; done) | (simp; omega) | omega))
  have hblk : Blk w0 w.heap.size 47 #[.slice A u.length c, .slice B t.length d] := by rw [← hw0]; ((repeat' (first | with_reducible assumption | with_reducible refine Blk.drew ?_ | with_reducible refine Blk.drewN ?_ _ | with_reducible refine Blk.set3 ?_ _ _ _ | with_reducible refine Blk.far ?_ ?_ _ | ((with_reducible refine Blk.new' _ _ _ _ ?_) <;> (first | (simp; done) | (simp; omega) | omega) <;> done) | with_reducible refine Blk.alloc ?_ _ | with_reducible refine Blk3.drew ?_ | with_reducible refine Blk3.drewN ?_ _ | ((with_reducible refine Blk3.new' _ _ _ _ _ _ ?_) <;> (first | (simp; done) | (simp; omega) | omega) <;> done) | with_reducible refine Blk3.alloc ?_ _ | with_reducible refine Blk3.far ?_ ?_ _ | with_reducible refine Blk3.below ?_ (by assumption) ?_ | with_reducible refine Blk.below ?_ (by assumption) ?_)) <;> (first | (simp; done) | (simp; omega) | omega))
  have hblk2 : Blk w0 (w.heap.size + 1) 47 #[.slice none 0 0, .slice none 0 0] := by rw [← hw0]; ((repeat' (first | with_reducible assumption | with_reducible refine Blk.drew ?_ | with_reducible refine Blk.drewN ?_ _ | with_reducible refine Blk.set3 ?_ _ _ _ | with_reducible refine Blk.far ?_ ?_ _ | ((with_reducible refine Blk.new' _ _ _ _ ?_) <;> (first | (simp; done) | (simp; omega) | omega) <;> done) | with_reducible refine Blk.alloc ?_ _ | with_reducible refine Blk3.drew ?_ | with_reducible refine Blk3.drewN ?_ _ | ((with_reducible refine Blk3.new' _ _ _ _ _ _ ?_) <;> (first | (simp; done) | (simp; omega) | omega) <;> done) | with_reducible refine Blk3.alloc ?_ _ | with_reducible refine Blk3.far ?_ ?_ _ | with_reducible refine Blk3.below ?_ (by assumption) ?_ | with_reducible refine Blk.below ?_ (by assumption) ?_)) <;> (first | (simp; done) | (simp; omega) | omega))
  have hA0 := (hA.below hb0).more hb0.size
  have HW := Lib.hid hw0
  have hs0 := hb0.size
  obtain ⟨s0, s1⟩ := hblk.two.1
  clear hw0
  go_enter Try.func30, Try.ntmps30
  go_upto_region 1 with fail
  rw [HW.out]
  go_wp2_with fail
  refine (units_any A c u w0 hu hA0).mono ?_
  rintro e w1 ⟨A1, c1, rfl, hc1, hm1, hv1, hb1⟩
  have hbw1 : Below w.heap.size w w1 := by ((repeat' (first | with_reducible exact Below.refl _ _ | with_reducible assumption | with_reducible refine Below.drew ?_ | with_reducible refine below_drewN ?_ _ | with_reducible refine Below.setCell ?_ ?_ _ | with_reducible refine Below.alloc ?_ ?_ _ | with_reducible refine Below.trans ?_ (Below.mono (by assumption) ?_))) <;> (first | (simp; done) | (simp; omega) | omega))
  have k1 := hblk.below hb1 hblk.lt
  have k2 := hblk2.below hb1 hblk2.lt
  have q1 := k1.lt
  have q2 := k2.lt
  have hz1 := hb1.size
  have hB1 := (hB.below hbw1).more hbw1.size
  obtain ⟨w2, hw2⟩ : ∃ w2, w1.alloc (.cells #[.slice A1 (unitsL u).length c1, .slice none 0 0] 47) = w2 := ⟨_, rfl⟩
  have hb2 : Below w1.heap.size w1 w2 := by rw [← hw2]; ((repeat' (first | with_reducible exact Below.refl _ _ | with_reducible assumption | with_reducible refine Below.drew ?_ | with_reducible refine below_drewN ?_ _ | with_reducible refine Below.setCell ?_ ?_ _ | with_reducible refine Below.alloc ?_ ?_ _ | with_reducible refine Below.trans ?_ (Below.mono (by assumption) ?_))) <;> (first | (simp; done) | (simp; omega) | omega))
  have hk2 : Blk w2 w1.heap.size 47 #[.slice A1 (unitsL u).length c1, .slice none 0 0] := by rw [← hw2]; exact Blk.new _ _ _
  have HW2 := Lib.hid hw2
  clear hw2
  go_upto_region 3 with fail
  rw [HW2.out]
  go_loopw [4] (fun i wr => ∃ (j : Nat) (v : Value), j ≤ t.length ∧ j ≤ 27 ∧ i = .int .i64 j ∧ Blk wr w1.heap.size 47 #[.slice A1 (unitsL u).length c1, v] ∧ wr.ownsRow (w1.heap.size + 1) 5 1 v j (bcs (t.take j)) ∧ Below w1.heap.size w1 wr) (fun i _ => t.length - (intOf i).toNat)
  case atStart => exact ⟨0, .slice none 0 0, by omega, by omega, rfl, hk2, World.ownsRow_nil _ _ _ _, hb2⟩
  case round =>
    obtain ⟨j, v, hj1, hj2, rfl, hk, hown, hbw⟩ := hrel
    have m1 := k1.below hbw q1
    have m2 := k2.below hbw q2
    obtain ⟨⟨f0, f1⟩, _⟩ := m1.two
    obtain ⟨⟨g0, g1⟩, h0, h1⟩ := hk.two
    have hzw := hbw.size
    have lk := hk.lt
    by_cases hlt : j < t.length ∧ j < 27
    · obtain ⟨hlt, h27⟩ := hlt
      obtain ⟨b, off, rfl, hbB, hc⟩ := (hB1.below hbw).at_ hlt
      have hcb : t[j]? = some t[j] := List.getElem?_eq_getElem hlt
      obtain ⟨cb, hcb'⟩ : ∃ cb, t[j] = cb := ⟨_, rfl⟩
      rw [hcb'] at hc hcb
      have HT := Lib.hid (bcs_take t j cb hcb)
      clear hcb hcb'
      have i1 : (0 : Int) ≤ (j : Int) := by omega
      have i2 : (j : Int) < (t.length : Int) := by omega
      have lb : b < wr.heap.size := by omega
      have lw : w.heap.size < wr.heap.size := by omega
      obtain ⟨W, rfl⟩ : ∃ W, W = wr := ⟨_, rfl⟩
      obtain ⟨W2, hW2⟩ : ∃ W2, (W.alloc (.cells #[.int .u8 (cb.toNat : Int)] 5)).drew = W2 := ⟨_, rfl⟩
      have hown2 : ((W.alloc (.cells #[.int .u8 (cb.toNat : Int)] 5)).drew).ownsRow (w1.heap.size + 1) 5 1 v j (bcs (t.take j)) := hown.alloc _
      have hnews : ∀ j x, ([.int .u8 (cb.toNat : Int)] : List Value)[j]? = some x → ((W.alloc (.cells #[.int .u8 (cb.toNat : Int)] 5)).drew).cell? ((⟨W.heap.size, 0, none⟩ : Addr).add j) = some x := World.news_of_block (cs := #[.int .u8 (cb.toNat : Int)]) (t := 5) (fr := (0, 0)) (heap_alloc_new W _)
      have HOW := Lib.hid hown2
      have HNE := Lib.hid hnews
      clear hown2 hnews hW2 W2
      go_wp2_with fail
      go_region_law (refine step_append_lies _ rfl (.tmp 21) (.tmp 27) 45 rfl (w1.heap.size + 1) 5 i0 _ 1 1 Try.underlying45 hi0 zi0 zi1 zi2 rfl (by decide) v j (bcs (t.take j)) (by simp [Act.eval]) HOW.out ⟨W.heap.size, 0, none⟩ 1 1 [.int .u8 (cb.toNat : Int)] (by simp [Act.eval]) rfl HNE.out (by simp [Value.oneCell']) (by omega) (by unfold maxLen; omega) (by omega) (by simp; omega) _ rfl ?_; intro g cap w5 hown5 hg5 hor5 hl5; have hk5 := ((hk.alloc (.cells #[.int .u8 (cb.toNat : Int)] 5)).drew).grown hg5 (fun e => (by have := (hown.lt _ e.symm).1; omega)); have hfr5 := hk5.two.2.2; have hcl5 := hk5.two.1.2)
      all_goals
        go_wp2_with fail
        go_roundw
        case rel =>
          refine ⟨j + 1, .slice (some ⟨g, 0, none⟩) (j + 1) cap, by omega, by omega, by go_num, by simpa using hk5.set_ 1 (.slice (some ⟨g, 0, none⟩) (j + 1) cap), ?_, ?_⟩
          · rw [HT.out]
            exact hown5.kept (grown_set w5 ⟨w1.heap.size, 1, none⟩ _) (.inr (fun e => by have := (hown5.lt g rfl).1; simp [Value.ownBlock] at e; omega))
          · exact ((((hbw.alloc hzw _).drew).grown hg5 (by simp; omega) (fun k hk => by have := (hown.lt k hk).1; omega))).setCell (by show w1.heap.size ≤ w1.heap.size; omega) _
        case measure => simp [intOf]; omega
    · have hwi : ¬ ((j : Int) < (t.length : Int)) ∨ (j < t.length ∧ ¬ (j : Int) < 27) := by omega
      have htk : t.take 27 = t.take j := by
        by_cases h : j < t.length
        · rw [show j = 27 by omega]
        · rw [List.take_of_length_le (i := 27) (by omega), List.take_of_length_le (by omega)]
      have HTK := Lib.hid htk
      clear htk hlt
      obtain ⟨B', d', hv', hd1, hd2, hbf⟩ := BS.own hown
      have hl : (t.take j).length = j := by simp; omega
      have HL := Lib.hid hl
      rw [hl] at hv'
      subst hv'
      clear hl
      obtain ⟨⟨x0, x1⟩, y0, y1⟩ := m2.two
      have l2 := m2.lt
      have fin : ∀ wx : World, wx = (wr.setCell ⟨w.heap.size + 1, 0, none⟩ (.slice A1 (unitsL u).length c1)).setCell ⟨w.heap.size + 1, 1, none⟩ (.slice B' j d') → RetTr (unitsL u) (t.take 27) w (.returned (.agg #[.slice A1 (unitsL u).length c1, .slice B' j d'])) wx := by
        rintro wx rfl
        refine ⟨A1, c1, B', d', by rw [HTK.out, HL.out], ?_, ?_, by ((repeat' (first | with_reducible exact Below.refl _ _ | with_reducible assumption | with_reducible refine Below.drew ?_ | with_reducible refine below_drewN ?_ _ | with_reducible refine Below.setCell ?_ ?_ _ | with_reducible refine Below.alloc ?_ ?_ _ | with_reducible refine Below.trans ?_ (Below.mono (by assumption) ?_))) <;> (first | (simp; done) | (simp; omega) | omega))⟩
        · have a1 : VF wr w0.heap.size w1.heap.size A1 (unitsL u) := hv1.below hbw (Nat.le_refl _)
          have a2 : VF ((wr.setCell ⟨w.heap.size + 1, 0, none⟩ (.slice A1 (unitsL u).length c1)).setCell ⟨w.heap.size + 1, 1, none⟩ (.slice B' j d')) w0.heap.size w1.heap.size A1 (unitsL u) := (a1.setCell (by simp; have := hblk2.lt; omega) _).setCell (by simp; have := hblk2.lt; omega) _
          exact a2.wide hb0.size (by simp; omega)
        · rw [HTK.out]
          intro hl
          obtain ⟨b, off, e1, e2, e3, e4⟩ := hbf hl
          refine ⟨b, off, e1, by omega, by simp; omega, fun i c hc => ?_⟩
          rw [World.cell?_setCell_other _ _ _ _ (by intro e; injection e; omega), World.cell?_setCell_other _ _ _ _ (by intro e; injection e; omega)]
          exact e4 i c hc
      have FIN := Lib.hid fin
      clear fin
      rcases hwi with h | ⟨h, h'⟩
      all_goals
        go_wp2_with fail
        refine bodyPost_ret (v := .agg #[.slice A1 (unitsL u).length c1, .slice B' j d']) (by simp [results, Try.results30, go_sem, x0, x1]) rfl (FIN.out _ rfl)

end Go.Proofs.Ytkeeekifejholaa
