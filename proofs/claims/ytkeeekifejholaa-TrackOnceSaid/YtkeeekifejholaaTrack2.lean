/- slices.Clone and slices.IndexFunc at values, track's place and Done as plain functions. Condition: slices that read as lists, no longer than a million. -/
import Derived.Test.YtkeeekifejholaaTrack1
import Derived.Test.YtkeeekifejholaaAppend
import Derived.Lib.SliceRun
namespace Go.Proofs.Ytkeeekifejholaa
open Go.RowKit

attribute [local go_sem] ByteArray.extract_mk ba_get
theorem run_nil_V (A : Option Addr) (n c : Nat) (w : World) : (binOp .eql 22 (.slice A n c) (.slice none 0 0)).run Try.prog w = .ok (.bool A.isNone) w := Lib.run_eql_slice_nil w _ _ A n c 0 0 Try.underlying22
attribute [local go_sem ↓] Go.wp_at_zero Go.wp_at_succ run_eql_V run_neq_V run_nil_V

set_option maxHeartbeats 1000000 in
theorem clone_any (A : Option Addr) (c : Nat) (l : List V) (w : World) (hl : l.length ≤ 1000000) (h : VS w w.heap.size A l) :
    Calls Try.prog 38 #[.slice A l.length c] w (RetVS l w) := by
  obtain ⟨i0, hi0, zi0, zi1, zi2⟩ := info_parts infoV
  rcases A with _ | a
  · have e : l = [] := by
      cases l with
      | nil => rfl
      | cons x r => obtain ⟨b, off, he, _⟩ := h (by simp); cases he
    subst e
    go_enter Try.func38, Try.ntmps38
    go_wp2
    go_ret
    exact ⟨none, 0, rfl, Nat.le_refl _, Nat.zero_le _, fun hl => absurd hl (by simp), Below.refl _ _⟩
  · have hown0 : (w.alloc (.cells #[] 31)).ownsRow w.heap.size 31 3 (.slice (some ⟨w.heap.size, 0, none⟩) 0 0) 0 [] := World.ownsRow_made w #[] 0 (Nat.le_refl _) (Nat.zero_le _) rfl
    have hba : Below w.heap.size w (w.alloc (.cells #[] 31)) := (Below.refl _ _).alloc (Nat.le_refl _) _
    have hva := ((h.below hba).reads)
    go_enter Try.func38, Try.ntmps38
    go_wp2_with (at_builtin; refine wpList_append_any _ rfl (.tmp 5) (.tmp 6) 22 rfl w.heap.size 31 i0 _ 3 32 Try.underlying22 hi0 zi0 zi1 zi2 rfl (by decide) _ _ _ rfl hown0 w.heap.size (some a) l.length c _ rfl hva (cells_one l) ?c1 ?c2 ?c3 ?_)
    case c1 => unfold maxLen; omega
    case c2 => omega
    case c3 => simp
    intro v5 w5 hown5 hg5 hat5
    have hb5 : Below w.heap.size w w5 := hba.grown hg5 (by simp) (by simp [Value.ownBlock])
    obtain ⟨A5, c5, rfl, hc5, hm5, hv5⟩ := VS.own (l := l) hown5
    go_wp2
    go_ret
    exact ⟨A5, c5, rfl, hc5, hm5, hv5, hb5⟩

/-- Where a value is first; -1 if nowhere. -/
def posFrom (u : V) : List V → Nat → Int
  | [], _ => -1
  | v :: r, n => if veq v u then (n : Int) else posFrom u r (n + 1)
def posF (l : List V) (u : V) : Int := posFrom u l 0

set_option maxHeartbeats 1000000 in
theorem place1_any (v u : V) (g : Nat) (w : World) (h : w.cell? ⟨g, 0, none⟩ = some (.int .i64 (u).k) ∧ w.cell? ⟨g, 1, none⟩ = some (.int .i64 (u).i) ∧ w.cell? ⟨g, 2, none⟩ = some (.string ⟨(u).s.toArray⟩)) :
    Calls Try.prog 50 #[.agg #[.int .i64 (v).k, .int .i64 (v).i, .string ⟨(v).s.toArray⟩], .pointer (some ⟨g, 0, none⟩)] w (Ret (.bool (veq v u)) w) := by
  obtain ⟨h0, h1, h2⟩ := h
  have hg : g < w.heap.size := Blk_lt_of_cell h0
  go_enter Try.func50, Try.ntmps50
  go_wp2
  go_ret
  exact ⟨rfl, by ((repeat' (first | with_reducible exact Below.refl _ _ | with_reducible assumption | with_reducible refine Below.drew ?_ | with_reducible refine below_drewN ?_ _ | with_reducible refine Below.setCell ?_ ?_ _ | with_reducible refine Below.alloc ?_ ?_ _ | with_reducible refine Below.trans ?_ (Below.mono (by assumption) ?_))) <;> (first | (simp; done) | (simp; omega) | omega))⟩

set_option maxHeartbeats 1000000 in
theorem indexFuncV_any (A : Option Addr) (c : Nat) (l : List V) (u : V) (g : Nat) (w : World) (hl : l.length ≤ 1000000) (h : VS w w.heap.size A l) (hu : w.cell? ⟨g, 0, none⟩ = some (.int .i64 (u).k) ∧ w.cell? ⟨g, 1, none⟩ = some (.int .i64 (u).i) ∧ w.cell? ⟨g, 2, none⟩ = some (.string ⟨(u).s.toArray⟩)) :
    Calls Try.prog 49 #[.slice A l.length c, .func (.func 50) #[] #[.pointer (some ⟨g, 0, none⟩)]] w (Ret (.int .i64 (posF l u)) w) := by
  obtain ⟨R, hR⟩ : ∃ R, posF l u = R := ⟨_, rfl⟩
  rw [hR]
  have HR : Hid (posFrom u (l.drop 0) 0 = R) := hR
  have HU := Lib.hid hu
  clear hR hu
  go_enter Try.func49, Try.ntmps49
  go_wp2
  go_loopw [8] (fun i wr => ∃ j : Nat, j ≤ l.length ∧ i = .int .i64 j ∧ Hid (posFrom u (l.drop j) j = R) ∧ Below w.heap.size w wr) (fun i _ => l.length - (intOf i).toNat)
  case atStart => exact ⟨0, by omega, rfl, HR, Below.refl _ _⟩
  case round =>
    obtain ⟨j, hj, rfl, hrest, hbw⟩ := hrel
    by_cases hlt : j < l.length
    · obtain ⟨b, off, v, rfl, hbB, hv, c0, c1, c2⟩ := (h.below hbw).at_ hlt
      have hrest' := hrest.out
      rw [drop_at l j v hv] at hrest'
      simp only [posFrom] at hrest'
      have hzw := hbw.size
      have hw : wr.cell? ⟨g, 0, none⟩ = some (.int .i64 (u).k) ∧ wr.cell? ⟨g, 1, none⟩ = some (.int .i64 (u).i) ∧ wr.cell? ⟨g, 2, none⟩ = some (.string ⟨(u).s.toArray⟩) := by
        obtain ⟨h0, h1, h2⟩ := HU.out
        have hg : g < w.heap.size := Blk_lt_of_cell h0
        exact ⟨(hbw.cell hg).trans h0, (hbw.cell hg).trans h1, (hbw.cell hg).trans h2⟩
      have HW := Lib.hid hw
      clear hv hrest hw
      obtain ⟨W, rfl⟩ : ∃ W, W = wr := ⟨_, rfl⟩
      cases hq : veq v u
      · have HF : Hid (posFrom u (l.drop (j + 1)) (j + 1) = R) := by
          show _ = _
          rw [← hrest', hq]; rfl
        have HQ := Lib.hid hq
        clear hrest' hq
        go_wp2_with fail
        refine (place1_any v u g W HW.out).mono ?_
        rintro e w1 ⟨rfl, hb1⟩
        rw [HQ.out]
        go_wp2_with fail
        go_roundw
        case rel => exact ⟨j + 1, by omega, by go_num, HF, hbw.trans (hb1.mono hzw)⟩
        case measure => simp [intOf]; omega
      · have HF : Hid ((j : Int) = R) := by
          show _ = _
          rw [← hrest', hq]; rfl
        have HQ := Lib.hid hq
        clear hrest' hq
        go_wp2_with fail
        refine (place1_any v u g W HW.out).mono ?_
        rintro e w1 ⟨rfl, hb1⟩
        rw [HQ.out]
        go_wp2_with fail
        go_ret
        exact ⟨by rw [← HF.out]; rfl, hbw.trans (hb1.mono hzw)⟩
    · have HF : Hid (R = -1) := by
        show _ = _
        rw [← hrest.out, List.drop_of_length_le (by omega)]
        rfl
      clear hrest
      go_wp2
      go_ret
      exact ⟨by rw [HF.out]; rfl, hbw⟩

set_option maxHeartbeats 1000000 in
theorem place_any (A : Option Addr) (c : Nat) (B : Value) (l : List V) (u : V) (w : World) (hl : l.length ≤ 1000000) (h : VS w w.heap.size A l) (hB : ∃ B' n d, B = .slice B' n d) :
    Calls Try.prog 41 #[.agg #[.slice A l.length c, B], .agg #[.int .i64 (u).k, .int .i64 (u).i, .string ⟨(u).s.toArray⟩]] w (Ret (.int .i64 (posF l u)) w) := by
  obtain ⟨B', n, d, rfl⟩ := hB
  obtain ⟨w0, hw0⟩ : ∃ w0, (w.alloc (.cells #[.slice A l.length c, .slice B' n d] 47)).alloc (.cells #[.int .i64 (u).k, .int .i64 (u).i, .string ⟨(u).s.toArray⟩] 31) = w0 := ⟨_, rfl⟩
  have hb0 : Below w.heap.size w w0 := by rw [← hw0]; ((repeat' (first | with_reducible exact Below.refl _ _ | with_reducible assumption | with_reducible refine Below.drew ?_ | with_reducible refine below_drewN ?_ _ | with_reducible refine Below.setCell ?_ ?_ _ | with_reducible refine Below.alloc ?_ ?_ _ | with_reducible refine Below.trans ?_ (Below.mono (by assumption) ?_))) <;> (first | (simp; done) | (simp; omega) | omega))
  have hblk : Blk w0 (w.heap.size + 1) 31 #[.int .i64 (u).k, .int .i64 (u).i, .string ⟨(u).s.toArray⟩] := by rw [← hw0]; ((repeat' (first | with_reducible assumption | with_reducible refine Blk.drew ?_ | with_reducible refine Blk.drewN ?_ _ | with_reducible refine Blk.set3 ?_ _ _ _ | with_reducible refine Blk.far ?_ ?_ _ | ((with_reducible refine Blk.new' _ _ _ _ ?_) <;> (first | (simp; done) | (simp; omega) | omega) <;> done) | with_reducible refine Blk.alloc ?_ _ | with_reducible refine Blk3.drew ?_ | with_reducible refine Blk3.drewN ?_ _ | ((with_reducible refine Blk3.new' _ _ _ _ _ _ ?_) <;> (first | (simp; done) | (simp; omega) | omega) <;> done) | with_reducible refine Blk3.alloc ?_ _ | with_reducible refine Blk3.far ?_ ?_ _ | with_reducible refine Blk3.below ?_ (by assumption) ?_ | with_reducible refine Blk.below ?_ (by assumption) ?_)) <;> (first | (simp; done) | (simp; omega) | omega))
  have hA0 := (h.below hb0).more hb0.size
  have HW := Lib.hid hw0
  clear hw0
  have hs0 := hb0.size
  have s0 : w0.cell? ⟨w.heap.size, 0, none⟩ = some (.slice A l.length c) := by rw [← HW.out]; simp [go_sem]
  go_enter Try.func41, Try.ntmps41
  go_wp2_with fail
  rw [HW.out]
  refine (indexFuncV_any A c l u (w.heap.size + 1) w0 hl hA0 ⟨hblk.three.1.1, hblk.three.1.2.1, hblk.three.1.2.2⟩).mono ?_
  rintro e w1 ⟨rfl, hb1⟩
  go_wp2_with fail
  go_ret
  exact ⟨rfl, by ((repeat' (first | with_reducible exact Below.refl _ _ | with_reducible assumption | with_reducible refine Below.drew ?_ | with_reducible refine below_drewN ?_ _ | with_reducible refine Below.setCell ?_ ?_ _ | with_reducible refine Below.alloc ?_ ?_ _ | with_reducible refine Below.trans ?_ (Below.mono (by assumption) ?_))) <;> (first | (simp; done) | (simp; omega) | omega))⟩

def doneF (u : List V) (t : List UInt8) (v : V) : Bool × Int :=
  if chkB u t then (if posF u v < 0 then (false, 6) else (bitB t (posF u v).toNat, 0)) else (false, 1)

theorem posFrom_lt (u : V) : ∀ (l : List V) (n : Nat), posFrom u l n < n + l.length ∧ (posFrom u l n < 0 ∨ n ≤ posFrom u l n)
  | [], n => by simp [posFrom]; omega
  | v :: r, n => by
    have := posFrom_lt u r (n + 1)
    unfold posFrom
    split
    · simp; omega
    · simp only [List.length_cons]; omega

theorem chk_len {u : List V} {t : List UInt8} (h : chkB u t = true) : u.length ≤ 200 ∧ t.length = (u.length + 7) / 8 := by
  simp only [chkB, risesB, Bool.and_eq_true, decide_eq_true_eq, beq_iff_eq] at h
  exact ⟨h.1.1.1, h.1.2⟩

set_option maxRecDepth 100000 in
set_option maxHeartbeats 1000000 in
theorem done_any (A B : Option Addr) (c d : Nat) (u : List V) (t : List UInt8) (v : V) (w : World) (hu : u.length ≤ 1000000) (ht : t.length ≤ 1000000) (hA : VS w w.heap.size A u) (hB : BS w w.heap.size B t) :
    Calls Try.prog 26 #[.agg #[.slice A u.length c, .slice B t.length d], .agg #[.int .i64 (v).k, .int .i64 (v).i, .string ⟨(v).s.toArray⟩]] w (Ret (.tuple #[.bool (doneF u t v).1, .int .i64 (doneF u t v).2]) w) := by
  obtain ⟨R, hR⟩ : ∃ R, doneF u t v = R := ⟨_, rfl⟩
  rw [hR]
  obtain ⟨w0, hw0⟩ : ∃ w0, (w.alloc (.cells #[.slice A u.length c, .slice B t.length d] 47)).alloc (.cells #[.int .i64 (v).k, .int .i64 (v).i, .string ⟨(v).s.toArray⟩] 31) = w0 := ⟨_, rfl⟩
  have hb0 : Below w.heap.size w w0 := by rw [← hw0]; ((repeat' (first | with_reducible exact Below.refl _ _ | with_reducible assumption | with_reducible refine Below.drew ?_ | with_reducible refine below_drewN ?_ _ | with_reducible refine Below.setCell ?_ ?_ _ | with_reducible refine Below.alloc ?_ ?_ _ | with_reducible refine Below.trans ?_ (Below.mono (by assumption) ?_))) <;> (first | (simp; done) | (simp; omega) | omega))
  have hz0 : w0.heap.size = w.heap.size + 1 + 1 := by rw [← hw0]; simp
  have hblk : Blk w0 w.heap.size 47 #[.slice A u.length c, .slice B t.length d] := by rw [← hw0]; ((repeat' (first | with_reducible assumption | with_reducible refine Blk.drew ?_ | with_reducible refine Blk.drewN ?_ _ | with_reducible refine Blk.set3 ?_ _ _ _ | with_reducible refine Blk.far ?_ ?_ _ | ((with_reducible refine Blk.new' _ _ _ _ ?_) <;> (first | (simp; done) | (simp; omega) | omega) <;> done) | with_reducible refine Blk.alloc ?_ _ | with_reducible refine Blk3.drew ?_ | with_reducible refine Blk3.drewN ?_ _ | ((with_reducible refine Blk3.new' _ _ _ _ _ _ ?_) <;> (first | (simp; done) | (simp; omega) | omega) <;> done) | with_reducible refine Blk3.alloc ?_ _ | with_reducible refine Blk3.far ?_ ?_ _ | with_reducible refine Blk3.below ?_ (by assumption) ?_ | with_reducible refine Blk.below ?_ (by assumption) ?_)) <;> (first | (simp; done) | (simp; omega) | omega))
  have hblk2 : Blk w0 (w.heap.size + 1) 31 #[.int .i64 (v).k, .int .i64 (v).i, .string ⟨(v).s.toArray⟩] := by rw [← hw0]; ((repeat' (first | with_reducible assumption | with_reducible refine Blk.drew ?_ | with_reducible refine Blk.drewN ?_ _ | with_reducible refine Blk.set3 ?_ _ _ _ | with_reducible refine Blk.far ?_ ?_ _ | ((with_reducible refine Blk.new' _ _ _ _ ?_) <;> (first | (simp; done) | (simp; omega) | omega) <;> done) | with_reducible refine Blk.alloc ?_ _ | with_reducible refine Blk3.drew ?_ | with_reducible refine Blk3.drewN ?_ _ | ((with_reducible refine Blk3.new' _ _ _ _ _ _ ?_) <;> (first | (simp; done) | (simp; omega) | omega) <;> done) | with_reducible refine Blk3.alloc ?_ _ | with_reducible refine Blk3.far ?_ ?_ _ | with_reducible refine Blk3.below ?_ (by assumption) ?_ | with_reducible refine Blk.below ?_ (by assumption) ?_)) <;> (first | (simp; done) | (simp; omega) | omega))
  have hA0 := (hA.below hb0).more hb0.size
  have hB0 := (hB.below hb0).more hb0.size
  have HW := Lib.hid hw0
  have hs0 := hb0.size
  obtain ⟨s0, s1⟩ := hblk.two.1
  clear hw0 hz0
  have hu' : u.length ≤ maxLen := by unfold maxLen; omega
  have ht' : t.length ≤ maxLen := by unfold maxLen; omega
  go_enter Try.func26, Try.ntmps26
  go_upto_region 1 with fail
  rw [HW.out]
  go_wp2_with fail
  refine (check_any A B c d u t w0 hu' ht' hA0 hB0).mono ?_
  rintro e w1 ⟨rfl, hb1⟩
  have hbw1 : Below w.heap.size w w1 := by ((repeat' (first | with_reducible exact Below.refl _ _ | with_reducible assumption | with_reducible refine Below.drew ?_ | with_reducible refine below_drewN ?_ _ | with_reducible refine Below.setCell ?_ ?_ _ | with_reducible refine Below.alloc ?_ ?_ _ | with_reducible refine Below.trans ?_ (Below.mono (by assumption) ?_))) <;> (first | (simp; done) | (simp; omega) | omega))
  obtain ⟨t0, t1⟩ := (hblk.below hb1 hblk.lt).two.1
  obtain ⟨⟨v0, v1, v2⟩, _⟩ := (hblk2.below hb1 hblk2.lt).three
  have hA1 := (hA.below hbw1).more hbw1.size
  have hz1 := hb1.size
  cases hc : chkB u t
  · have e : chkE u t = 1 := by simp [chkE, hc]
    rw [e]
    have HF : Hid (R = (false, 1)) := by show _ = _; rw [← hR]; simp [doneF, hc]
    clear e hc hR
    go_wp2_with fail
    go_ret2
    exact ⟨by rw [HF.out]; rfl, hbw1⟩
  · have e : chkE u t = 0 := by simp [chkE, hc]
    rw [e]
    have hlen := chk_len hc
    have HL := Lib.hid hlen
    have HF : Hid (R = if posF u v < 0 then (false, 6) else (bitB t (posF u v).toNat, 0)) := by show _ = _; rw [← hR]; simp [doneF, hc]
    clear e hc hR hlen
    go_wp2_with fail
    refine (place_any A c (.slice B t.length d) u v w1 hu hA1 ⟨_, _, _, rfl⟩).mono ?_
    rintro e w2 ⟨rfl, hb2⟩
    have hbw2 : Below w.heap.size w w2 := by ((repeat' (first | with_reducible exact Below.refl _ _ | with_reducible assumption | with_reducible refine Below.drew ?_ | with_reducible refine below_drewN ?_ _ | with_reducible refine Below.setCell ?_ ?_ _ | with_reducible refine Below.alloc ?_ ?_ _ | with_reducible refine Below.trans ?_ (Below.mono (by assumption) ?_))) <;> (first | (simp; done) | (simp; omega) | omega))
    obtain ⟨x0, x1⟩ := ((hblk.below hb1 hblk.lt).below hb2 (by have := hblk.lt; omega)).two.1
    have hB2 := (hB.below hbw2).more hbw2.size
    have hpos := posFrom_lt v u 0
    have hpos' : posF u v < u.length := by unfold posF; omega
    by_cases hp : posF u v < 0
    · have HG : Hid (R = (false, 6)) := by show _ = _; rw [HF.out, if_pos hp]
      clear HF hpos
      generalize posF u v = p at *
      go_wp2_with fail
      go_ret2
      exact ⟨by rw [HG.out]; rfl, hbw2⟩
    · have HG : Hid (R = (bitB t (posF u v).toNat, 0)) := by show _ = _; rw [HF.out, if_neg hp]
      clear HF hpos
      obtain ⟨n, hn⟩ : ∃ n : Nat, posF u v = n := ⟨(posF u v).toNat, by omega⟩
      rw [hn] at HG hp hpos' ⊢
      clear hn
      go_wp2_with fail
      refine (bit_any B d t n w2 (by have := HL.out; omega) ht hB2).mono ?_
      rintro e w9 ⟨rfl, rfl⟩
      go_wp2_with fail
      go_ret2
      exact ⟨by rw [HG.out]; rfl, hbw2⟩

end Go.Proofs.Ytkeeekifejholaa
