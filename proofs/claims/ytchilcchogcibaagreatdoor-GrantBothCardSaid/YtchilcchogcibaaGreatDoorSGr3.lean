/- The document's Same of two expressions, Place and check, as plain functions; grant.Check as a plain function. -/
import Derived.Test.YtchilcchogcibaaGreatDoorSGot
import Derived.Test.YtchilcchogcibaaGreatDoorSGr6
import Derived.Test.YtchilcchogcibaaGreatDoorSLex1
namespace Go.Proofs.YtchilcchogcibaaGreatDoor
open Go.RowKit
attribute [local go_sem] ByteArray.extract_mk ba_get ba_append
attribute [local go_sem ↓] Go.wp_at_zero Go.wp_at_succ run_eql_V run_neq_V
/-- Are two expressions the same, so deep? -/
def sameE : Nat → Ex → Ex → Bool
 | n, a, b => (a.op == b.op) && ((veq a.v b.v) && ((a.s == b.s) && (decide (a.l.length = b.l.length) && match n with | 0 => true | n + 1 => (a.l.zip b.l).all fun p => sameE n p.1 p.2)))
/-- Are the parts the same? -/
def partsB : Nat → List (Ex × Ex) → Bool
 | 0, _ => true
 | n + 1, l => l.all fun p => sameE n p.1 p.2
theorem sameE_eq (n : Nat) (a b : Ex) : sameE n a b = ((a.op == b.op) && ((veq a.v b.v) && ((a.s == b.s) && (decide (a.l.length = b.l.length) && partsB n (a.l.zip b.l))))) := by
 cases n <;> (unfold sameE partsB; rfl)
theorem partsB_nil (n : Nat) : partsB n [] = true := by cases n <;> rfl
theorem sameE_0 (n : Nat) (e : Ex) : sameE n e ex0 = same0 e := by
 unfold sameE same0
 cases n <;> simp [ex0, Ex.op, Ex.v, Ex.s, Ex.l]
theorem sameE_self : ∀ (n : Nat) (e : Ex), sameE n e e = true
 | 0, e => by simp [sameE, veq]
 | n + 1, e => by
  rw [sameE]
  have h : (e.l.zip e.l).all (fun p => sameE n p.1 p.2) = true := by
   rw [List.all_eq_true]
   intro p hp
   have : p.1 = p.2 := by
    obtain ⟨i, hi, rfl⟩ := List.getElem_of_mem hp
    simp
   rw [this]
   exact sameE_self n p.2
  simp [h, veq]
set_option maxRecDepth 100000 in
set_option maxHeartbeats 8000000 in
theorem same4_step (n : Nat) (ih : ∀ m, n = m + 1 → ∀ (a b : Ex) (A B : Option Addr) (c d : Nat) (w : World), a.l.length ≤ maxLen → ExS 1000 m w w.heap.size A a.l → ExS 1000 m w w.heap.size B b.l →
   Calls Tryz.prog 56 #[.agg (a.cells A c).toArray, .agg (b.cells B d).toArray] w (Ret (.bool (sameE m a b)) w))
  (a b : Ex) (A B : Option Addr) (c d : Nat) (w : World) (hal : a.l.length ≤ maxLen) (hA : ExS 1000 n w w.heap.size A a.l) (hB : ExS 1000 n w w.heap.size B b.l) :
  Calls Tryz.prog 56 #[.agg (a.cells A c).toArray, .agg (b.cells B d).toArray] w (Ret (.bool (sameE n a b)) w) := by
 obtain ⟨w0, hw0⟩ : ∃ w0, (w.alloc (.cells (a.cells A c).toArray 30)).alloc (.cells (b.cells B d).toArray 30) = w0 := ⟨_, rfl⟩
 have ka0 : Blk w0 w.heap.size 30 (a.cells A c).toArray := by rw [← hw0]; exact (Blk.new _ _ _).alloc _
 have kb0 : Blk w0 (w.heap.size + 1) 30 (b.cells B d).toArray := by rw [← hw0]; exact Blk.new' _ _ _ _ (by simp)
 have hb0 : Below w.heap.size w w0 := by rw [← hw0]; exact bl
 have HSH : Hid (∀ w' : World, Below w0.heap.size w0 w' → (w'.cell? ⟨w.heap.size, 0, none⟩ = some (.string ⟨a.op.toArray⟩) ∧ w'.cell? ⟨w.heap.size, 1, none⟩ = some (.int .i64 a.v.k) ∧ w'.cell? ⟨w.heap.size, 2, none⟩ = some (.int .i64 a.v.i) ∧ w'.cell? ⟨w.heap.size, 3, none⟩ = some (.string ⟨a.v.s.toArray⟩) ∧ w'.cell? ⟨w.heap.size, 4, none⟩ = some (.string ⟨a.s.toArray⟩) ∧ w'.cell? ⟨w.heap.size, 5, none⟩ = some (.slice A a.l.length c) ∧ w'.cell? ⟨w.heap.size + 1, 0, none⟩ = some (.string ⟨b.op.toArray⟩) ∧ w'.cell? ⟨w.heap.size + 1, 1, none⟩ = some (.int .i64 b.v.k) ∧ w'.cell? ⟨w.heap.size + 1, 2, none⟩ = some (.int .i64 b.v.i) ∧ w'.cell? ⟨w.heap.size + 1, 3, none⟩ = some (.string ⟨b.v.s.toArray⟩) ∧ w'.cell? ⟨w.heap.size + 1, 4, none⟩ = some (.string ⟨b.s.toArray⟩) ∧ w'.cell? ⟨w.heap.size + 1, 5, none⟩ = some (.slice B b.l.length d))) := fun w' h => by
  obtain ⟨h0, h1, h2, h3, h4, h5⟩ := (ka0.below h ka0.lt).six
  obtain ⟨g0, g1, g2, g3, g4, g5⟩ := (kb0.below h kb0.lt).six
  exact ⟨h0, h1, h2, h3, h4, h5, g0, g1, g2, g3, g4, g5⟩
 have HA : Hid (∀ Y : World, Below w0.heap.size w0 Y → ExS 1000 n Y Y.heap.size A a.l) := fun Y h => ((hA.below n (hb0.trans (h.mono hb0.size)))).more (Nat.le_trans hb0.size h.size) n
 have HB : Hid (∀ Y : World, Below w0.heap.size w0 Y → ExS 1000 n Y Y.heap.size B b.l) := fun Y h => ((hB.below n (hb0.trans (h.mono hb0.size)))).more (Nat.le_trans hb0.size h.size) n
 have HW := Lib.hid hw0
 have HBW : Hid (∀ Y : World, Below w0.heap.size w0 Y → Below w.heap.size w Y) := fun Y h => hb0.trans (h.mono hb0.size)
 have hbr0 : Below w0.heap.size w0 w0 := Below.refl _ _
 have HIH := Lib.hid ih
 unfold maxLen at hal
 obtain ⟨R, hR⟩ : ∃ R, sameE n a b = R := ⟨_, rfl⟩
 rw [hR]
 rw [sameE_eq] at hR
 obtain ⟨ob, ho⟩ : ∃ x, (a.op == b.op) = x := ⟨_, rfl⟩
 obtain ⟨vb, hv⟩ : ∃ x, veq a.v b.v = x := ⟨_, rfl⟩
 obtain ⟨sb, hs⟩ : ∃ x, (a.s == b.s) = x := ⟨_, rfl⟩
 obtain ⟨lb, hl⟩ : ∃ x, decide (a.l.length = b.l.length) = x := ⟨_, rfl⟩
 rw [ho, hv, hs, hl] at hR
 have o1 : (a.op != b.op) = !ob := by rw [← ho]; rfl
 have v1 : veq ⟨a.v.k, a.v.i, a.v.s⟩ ⟨b.v.k, b.v.i, b.v.s⟩ = vb := hv
 have s1 : (a.s != b.s) = !sb := by rw [← hs]; rfl
 have l1 : ((a.l.length : Int) != (b.l.length : Int)) = !lb := by rw [← hl, Bool.eq_iff_iff]; simp; omega
 have hl2 : lb = true → a.l.length = b.l.length := fun h => by rw [h] at hl; simpa using hl
 have HL2 := Lib.hid hl2
 have HK := Lib.hid hR
 clear hw0 hA hB ka0 kb0 hb0 ih hR hv hl hl2
 obtain ⟨q0, q1, q2, q3, q4, q5, y0, y1, y2, y3, y4, y5⟩ := HSH.out w0 hbr0
 go_enter Tryz.func56, Tryz.ntmps56
 go_upto_region 1 with fail
 rw [HW.out]
 clear HW
 cases ob
 ·have HF : Hid (R = false) := by show _ = _; rw [← HK.out]; rfl
  go_wp2_with fail
  go_ret
  exact ⟨by rw [HF.out]; rfl, HBW.out _ (by exact bl)⟩
 cases vb
 ·have HF : Hid (R = false) := by show _ = _; rw [← HK.out]; rfl
  go_wp2_with fail
  go_ret
  exact ⟨by rw [HF.out]; rfl, HBW.out _ (by exact bl)⟩
 cases sb
 ·have HF : Hid (R = false) := by show _ = _; rw [← HK.out]; rfl
  go_wp2_with fail
  go_ret
  exact ⟨by rw [HF.out]; rfl, HBW.out _ (by exact bl)⟩
 cases lb
 ·have HF : Hid (R = false) := by show _ = _; rw [← HK.out]; rfl
  go_wp2_with fail
  go_ret
  exact ⟨by rw [HF.out]; rfl, HBW.out _ (by exact bl)⟩
 have hlen := HL2.out rfl
 have HLN := Lib.hid hlen
 have HK2 : Hid (partsB n ((a.l.zip b.l).drop 0) = R) := by
  show _ = _
  rw [← HK.out]
  rfl
 clear HK HL2 hlen
 go_wp2_with fail
 go_loopw [5] (fun i wr => ∃ j : Nat, j ≤ a.l.length ∧ i = .int .i64 j ∧ Hid (partsB n ((a.l.zip b.l).drop j) = R) ∧ Below w0.heap.size w0 wr) (fun i _ => a.l.length - (intOf i).toNat)
 case atStart => exact ⟨0, by omega, rfl, HK2, hbr0⟩
 case round =>
  obtain ⟨j, hj, rfl, HJ, hbr⟩ := hrel
  clear q0 q1 q2 q3 q4 q5 y0 y1 y2 y3 y4 y5
  obtain ⟨W, rfl⟩ : ∃ W, W = wr := ⟨_, rfl⟩
  obtain ⟨q0, q1, q2, q3, q4, q5, y0, y1, y2, y3, y4, y5⟩ := HSH.out W hbr
  have hzr := hbr.size
  by_cases hlt : j < a.l.length
  ·obtain ⟨m, b1, o1', x, A', c', hnm, rfl, hbB, hvx, _, _, hxc, hxm, ⟨c0, c1, c2, c3, c4, c5⟩, hx⟩ := six0 (HA.out W hbr) hlt
   obtain ⟨m', b2, o2', y, B', d', hnm', rfl, hbB2, hvy, _, _, _, _, ⟨d0, d1, d2, d3, d4, d5⟩, hy⟩ := six0 (HB.out W hbr) (j := j) (by rw [← HLN.out]; exact hlt)
   subst hnm
   obtain rfl : m = m' := by omega
   have hJ := HJ.out
   have hz : (a.l.zip b.l)[j]? = some (x, y) := by rw [List.getElem?_zip_eq_some]; exact ⟨hvx, hvy⟩
   have hd : (a.l.zip b.l).drop j = (x, y) :: (a.l.zip b.l).drop (j + 1) := by
    obtain ⟨hj', e⟩ := List.getElem?_eq_some_iff.1 hz
    rw [← e]
    exact List.drop_eq_getElem_cons hj'
   rw [hd, partsB, List.all_cons] at hJ
   have HX : Hid (∀ Y : World, Below W.heap.size W Y → Calls Tryz.prog 56 #[.agg #[.string ⟨x.op.toArray⟩, .int .i64 x.v.k, .int .i64 x.v.i, .string ⟨x.v.s.toArray⟩, .string ⟨x.s.toArray⟩, .slice A' x.l.length c'], .agg #[.string ⟨y.op.toArray⟩, .int .i64 y.v.k, .int .i64 y.v.i, .string ⟨y.v.s.toArray⟩, .string ⟨y.s.toArray⟩, .slice B' y.l.length d']] Y (Ret (.bool (sameE m x y)) Y)) := fun Y h => HIH.out m rfl x y A' B' c' d' Y (Nat.le_trans hxc hxm) ((hx.below m h).more h.size m) ((hy.below m h).more h.size m)
   obtain ⟨T, hT⟩ : ∃ T, sameE m x y = T := ⟨_, rfl⟩
   rw [hT] at HX hJ
   have HJ2 := Lib.hid hJ
   have i1 : (0 : Int) ≤ (j : Int) := by omega
   have i2 : (j : Int) < (a.l.length : Int) := by omega
   have i3 : (j : Int) < (b.l.length : Int) := by have := HLN.out; omega
   have lw : w.heap.size + 1 < W.heap.size := Blk_lt_of_cell y0
   have HSK : Hid (∀ w' : World, Below W.heap.size W w' → (w'.cell? ⟨w.heap.size, 5, none⟩ = some (.slice (some ⟨b1, o1', none⟩) a.l.length c) ∧ w'.cell? ⟨w.heap.size + 1, 5, none⟩ = some (.slice (some ⟨b2, o2', none⟩) b.l.length d) ∧ (w'.cell? ⟨b1, o1' + j * 6, none⟩ = some (.string ⟨x.op.toArray⟩) ∧ w'.cell? ⟨b1, o1' + j * 6 + 1, none⟩ = some (.int .i64 x.v.k) ∧ w'.cell? ⟨b1, o1' + j * 6 + 2, none⟩ = some (.int .i64 x.v.i) ∧ w'.cell? ⟨b1, o1' + j * 6 + 3, none⟩ = some (.string ⟨x.v.s.toArray⟩) ∧ w'.cell? ⟨b1, o1' + j * 6 + 4, none⟩ = some (.string ⟨x.s.toArray⟩) ∧ w'.cell? ⟨b1, o1' + j * 6 + 5, none⟩ = some (.slice A' x.l.length c')) ∧ (w'.cell? ⟨b2, o2' + j * 6, none⟩ = some (.string ⟨y.op.toArray⟩) ∧ w'.cell? ⟨b2, o2' + j * 6 + 1, none⟩ = some (.int .i64 y.v.k) ∧ w'.cell? ⟨b2, o2' + j * 6 + 2, none⟩ = some (.int .i64 y.v.i) ∧ w'.cell? ⟨b2, o2' + j * 6 + 3, none⟩ = some (.string ⟨y.v.s.toArray⟩) ∧ w'.cell? ⟨b2, o2' + j * 6 + 4, none⟩ = some (.string ⟨y.s.toArray⟩) ∧ w'.cell? ⟨b2, o2' + j * 6 + 5, none⟩ = some (.slice B' y.l.length d')))) := fun w' h => by
    have f : ∀ o, w'.cell? ⟨w.heap.size, o, none⟩ = W.cell? ⟨w.heap.size, o, none⟩ := fun o => h.cell (p := ⟨w.heap.size, o, none⟩) (show w.heap.size < _ by omega)
    have f' : ∀ o, w'.cell? ⟨w.heap.size + 1, o, none⟩ = W.cell? ⟨w.heap.size + 1, o, none⟩ := fun o => h.cell (p := ⟨w.heap.size + 1, o, none⟩) lw
    have g : ∀ o, w'.cell? ⟨b1, o, none⟩ = W.cell? ⟨b1, o, none⟩ := fun o => h.cell (p := ⟨b1, o, none⟩) hbB
    have g' : ∀ o, w'.cell? ⟨b2, o, none⟩ = W.cell? ⟨b2, o, none⟩ := fun o => h.cell (p := ⟨b2, o, none⟩) hbB2
    exact ⟨(f _).trans q5, (f' _).trans y5, ⟨(g _).trans c0, (g _).trans c1, (g _).trans c2, (g _).trans c3, (g _).trans c4, (g _).trans c5⟩, ⟨(g' _).trans d0, (g' _).trans d1, (g' _).trans d2, (g' _).trans d3, (g' _).trans d4, (g' _).trans d5⟩⟩
   clear hJ hd hz hvx hvy HJ hx hy hT HIH hxc hxm
   go_wp2_with fail
   skip
   refine wp_region_held_drew (S := (fun w' => w'.cell? ⟨w.heap.size, 5, none⟩ = some (.slice (some ⟨b1, o1', none⟩) a.l.length c) ∧ w'.cell? ⟨w.heap.size + 1, 5, none⟩ = some (.slice (some ⟨b2, o2', none⟩) b.l.length d) ∧ (w'.cell? ⟨b1, o1' + j * 6, none⟩ = some (.string ⟨x.op.toArray⟩) ∧ w'.cell? ⟨b1, o1' + j * 6 + 1, none⟩ = some (.int .i64 x.v.k) ∧ w'.cell? ⟨b1, o1' + j * 6 + 2, none⟩ = some (.int .i64 x.v.i) ∧ w'.cell? ⟨b1, o1' + j * 6 + 3, none⟩ = some (.string ⟨x.v.s.toArray⟩) ∧ w'.cell? ⟨b1, o1' + j * 6 + 4, none⟩ = some (.string ⟨x.s.toArray⟩) ∧ w'.cell? ⟨b1, o1' + j * 6 + 5, none⟩ = some (.slice A' x.l.length c')) ∧ (w'.cell? ⟨b2, o2' + j * 6, none⟩ = some (.string ⟨y.op.toArray⟩) ∧ w'.cell? ⟨b2, o2' + j * 6 + 1, none⟩ = some (.int .i64 y.v.k) ∧ w'.cell? ⟨b2, o2' + j * 6 + 2, none⟩ = some (.int .i64 y.v.i) ∧ w'.cell? ⟨b2, o2' + j * 6 + 3, none⟩ = some (.string ⟨y.v.s.toArray⟩) ∧ w'.cell? ⟨b2, o2' + j * 6 + 4, none⟩ = some (.string ⟨y.s.toArray⟩) ∧ w'.cell? ⟨b2, o2' + j * 6 + 5, none⟩ = some (.slice B' y.l.length d')))) (by kernel_rfl) ?_ (fun hHeld => ?_)
   ·try dsimp only
    exact HSK.out _ (by exact bl)
   refine tS [0, 1, 2, 3, 4, 5, 6, 7, 8, 9] ?_
   iterate 10 (refine tC ?_; refine ap ?_)
   refine tN ?_
   refine rdy 10 fun K hK => ?_
   go_simp
   (refine (HX.out _ (by exact bl)).mono ?_) <;> rintro en w9 ⟨rfl, hb9⟩ <;> have hz9 := hb9.size <;> (try simp at hz9)
   go_wp2_with fail
   refine hK.out _ _ ?_ (fun hHeld => ?_)
   ·try dsimp only
    exact HSK.out _ (by exact bl)
   clear hK K
   refine ap ?_
   refine tS [11] (tC ?_)
   refine ap (tN ?_)
   refine wpAnyH_done (by kernel_rfl) ?_ _
   have hb09 : Below w0.heap.size w0 w9 := by exact bl
   cases T
   ·have HF : Hid (R = false) := by show _ = _; rw [← HJ2.out]; rfl
    go_wp2_with fail
    go_ret
    exact ⟨by rw [HF.out]; rfl, HBW.out _ (by exact bl)⟩
   ·have HN : Hid (partsB (m + 1) ((a.l.zip b.l).drop (j + 1)) = R) := by show _ = _; rw [← HJ2.out]; rfl
    go_wp2_with fail
    go_roundw
    case rel => exact ⟨j + 1, by omega, by go_num, HN, by exact bl⟩
    case measure => simp [intOf]; omega
  ·obtain rfl : j = a.l.length := by omega
   have HF : Hid (R = true) := by
    show _ = _
    rw [← HJ.out, List.drop_of_length_le (by rw [List.length_zip]; omega)]
    exact partsB_nil n
   have b0 : ¬ ((a.l.length : Int) < (a.l.length : Int)) := by omega
   clear HJ
   go_wp2_with fail
   go_ret
   exact ⟨by rw [HF.out]; rfl, HBW.out _ (by exact bl)⟩
theorem same4_any : ∀ (n : Nat) (a b : Ex) (A B : Option Addr) (c d : Nat) (w : World), a.l.length ≤ maxLen → ExS 1000 n w w.heap.size A a.l → ExS 1000 n w w.heap.size B b.l →
   Calls Tryz.prog 56 #[.agg (a.cells A c).toArray, .agg (b.cells B d).toArray] w (Ret (.bool (sameE n a b)) w) := by
 intro n
 induction n with
 | zero => exact same4_step 0 (fun m h => absurd h (by omega))
 | succ n ih =>
  refine same4_step (n + 1) (fun m h => ?_)
  obtain rfl : n = m := by omega
  exact ih
theorem may_formE {e : Ex} (h : mayX e = true) : formE 12 e = true := by
 have := (may_form 12 1 0 e (by omega) (by omega)).1
 rw [show (mayE 12 1 0 e).1 = mayX e from rfl, h] at this
 simp at this
 exact this.1
end Go.Proofs.YtchilcchogcibaaGreatDoor
namespace Go.Proofs.YtchilcchogcibaaGreatDoor
open Go.RowKit
attribute [local go_sem] ByteArray.extract_mk ba_get ba_append
attribute [local go_sem ↓] Go.wp_at_zero Go.wp_at_succ
def adminT : List UInt8 := [97, 100, 109, 105, 110]
def badG (g : Gr) : Bool := !nameG g.r || (!nameG g.t || decide (g.r = adminT))
/-- What is wrong with grants: the error's number. -/
def chkG (l : List Gr) : Int := if l.any badG then 1 else if 60 < l.length then 13 else if risB l then 0 else 15
theorem chk_bad {l : List Gr} {x : Gr} (h : x ∈ l) (hb : badG x = true) : chkG l = 1 := by
 unfold chkG
 rw [if_pos (List.any_eq_true.2 ⟨x, h, hb⟩)]
theorem risB_iff : ∀ l : List Gr, risB l = true ↔ ∀ k x y, l[k]? = some x → l[k + 1]? = some y → glt x y = true
 | [] => by simp [risB]
 | [a] => by simp [risB]
 | a :: b :: r => by
  simp only [risB, Bool.and_eq_true, risB_iff (b :: r)]
  constructor
  ·rintro ⟨h1, h2⟩ k x y hx hy
   cases k with
   | zero => simp at hx hy; subst hx hy; exact h1
   | succ k => exact h2 k x y (by simpa using hx) (by simpa using hy)
  ·intro h
   exact ⟨h 0 a b rfl rfl, fun k x y hx hy => h (k + 1) x y (by simpa using hx) (by simpa using hy)⟩
theorem gord_neg (a b : Gr) : (0 ≤ gord a b) ↔ glt a b = false := by
 rcases gord_tri a b with ⟨h, _, h1, _⟩ | ⟨h, _, h1, _⟩ | ⟨h, _, h1, _⟩ <;> rw [h, h1] <;> simp
set_option maxRecDepth 100000 in
set_option maxHeartbeats 4000000 in
theorem checkG_any (A : Option Addr) (c : Nat) (l : List Gr) (w : World) (hl : l.length ≤ 1000000) (hn : ∀ g ∈ l, g.r.length ≤ 1000000 ∧ g.t.length ≤ 1000000) (h : GQ l A (Old w.heap.size) w) :
  Calls Tryz.prog 20 #[.slice A l.length c] w (Ret (.int .i64 (chkG l)) w) := by
 have HQ : Hid (∀ Z : World, Below w.heap.size w Z → GQ l A (Old w.heap.size) Z) := fun Z hz => h.keep fun b hb => ⟨hb, fun o => hz.cell (p := ⟨b, o, none⟩) hb⟩
 have HN := Lib.hid hn
 obtain ⟨R, hR⟩ : ∃ R, chkG l = R := ⟨_, rfl⟩
 rw [hR]
 have HR := Lib.hid hR
 obtain ⟨N, hNN⟩ : ∃ N, l.length = N := ⟨_, rfl⟩
 have HL := Lib.hid hNN
 rw [hNN] at hl ⊢
 clear h hn hR hNN
 go_enter Tryz.func20, Tryz.ntmps20
 go_wp2_with fail
 go_loopw [8] (fun i wr => ∃ j : Nat, j ≤ N ∧ i = .int .i64 j ∧ Hid (∀ g ∈ l.take j, badG g = false) ∧ Below w.heap.size w wr) (fun i _ => N - (intOf i).toNat)
 case atStart => exact ⟨0, by omega, rfl, fun g hg => by simp at hg, Below.refl _ _⟩
 case round =>
  obtain ⟨j, hj, rfl, HJ, hbw⟩ := hrel
  obtain ⟨W, rfl⟩ : ∃ W, W = wr := ⟨_, rfl⟩
  have hzw := hbw.size
  by_cases hlt : j < N
  ·obtain ⟨b, off, x, rfl, hbB, hv, c0, c1, c2⟩ := (HQ.out _ hbw).at_ (j := j) (by rw [HL.out]; exact hlt)
   have hxl := List.mem_of_getElem? hv
   obtain ⟨n1, n2⟩ := HN.out x hxl
   have HB1 : Hid (badG x = true → R = 1) := fun hb => by rw [← HR.out]; exact chk_bad hxl hb
   have HB0 : Hid (badG x = false → ∀ g ∈ l.take (j + 1), badG g = false) := fun hb g hg => by
    rw [List.take_add_one, hv] at hg
    rcases List.mem_append.1 hg with hg | hg
    ·exact HJ.out g hg
    ·simp at hg; rw [hg]; exact hb
   have lb : b < W.heap.size := by have : b < w.heap.size := hbB; omega
   obtain ⟨r, t, u⟩ := x
   obtain ⟨B1, hB1⟩ : ∃ B, nameG r = B := ⟨_, rfl⟩
   obtain ⟨B2, hB2⟩ : ∃ B, nameG t = B := ⟨_, rfl⟩
   have HX1 : Hid (∀ Z : World, Calls Tryz.prog 45 #[.string ⟨r.toArray⟩] Z (Ret (.bool B1) Z)) := fun Z => by have := nameGr_any r Z n1; rw [hB1] at this; exact this
   have HX2 : Hid (∀ Z : World, Calls Tryz.prog 45 #[.string ⟨t.toArray⟩] Z (Ret (.bool B2) Z)) := fun Z => by have := nameGr_any t Z n2; rw [hB2] at this; exact this
   have HBG : Hid (badG ⟨r, t, u⟩ = (!B1 || (!B2 || decide (r = adminT)))) := by show _ = _; unfold badG; rw [hB1, hB2]
   dsimp only at c0 c1 c2
   obtain ⟨V, hV⟩ : ∃ V, W.alloc (.cells #[.string ⟨r.toArray⟩, .string ⟨t.toArray⟩, .bool u] 54) = V := ⟨_, rfl⟩
   have kv : Blk V W.heap.size 54 #[.string ⟨r.toArray⟩, .string ⟨t.toArray⟩, .bool u] := by rw [← hV]; exact Blk.new _ _ _
   have hbV : Below w.heap.size w V := by rw [← hV]; exact bl
   have HV := Lib.hid hV
   have HKV := Lib.hid kv
   have hzV := hbV.size
   clear hv hxl hV kv hB1 hB2 n1 n2
   go_upto_region 4 with fail
   rw [HV.out]
   obtain ⟨k0, k1⟩ : V.cell? ⟨W.heap.size, 0, none⟩ = some (.string ⟨r.toArray⟩) ∧ V.cell? ⟨W.heap.size, 1, none⟩ = some (.string ⟨t.toArray⟩) := ⟨HKV.out.cell 0, HKV.out.cell 1⟩
   go_wp2_with fail
   refine (HX1.out V).mono ?_
   rintro en w1 ⟨rfl, hb1⟩
   have hbw1 : Below w.heap.size w w1 := hbV.trans (hb1.mono hzV)
   have hz1 := hb1.size
   clear k0 k1
   have kw1 := HKV.out.below hb1 HKV.out.lt
   obtain ⟨k0, k1⟩ : w1.cell? ⟨W.heap.size, 0, none⟩ = some (.string ⟨r.toArray⟩) ∧ w1.cell? ⟨W.heap.size, 1, none⟩ = some (.string ⟨t.toArray⟩) := ⟨kw1.cell 0, kw1.cell 1⟩
   have HK1 := Lib.hid kw1
   clear kw1
   cases B1 with
   | false =>
    have HF : Hid (R = 1) := HB1.out (by rw [HBG.out]; rfl)
    go_wp2_with fail
    go_ret
    exact ⟨by rw [HF.out]; rfl, hbw1⟩
   | true =>
    go_wp2_with fail
    refine (HX2.out w1).mono ?_
    rintro en w2 ⟨rfl, hb2⟩
    have hbw2 : Below w.heap.size w w2 := hbw1.trans (hb2.mono hbw1.size)
    have hz2 := hb2.size
    clear k0 k1
    have kw2 := HK1.out.below hb2 HK1.out.lt
    have k0 : w2.cell? ⟨W.heap.size, 0, none⟩ = some (.string ⟨r.toArray⟩) := kw2.cell 0
    clear kw2
    cases B2 with
    | false =>
     have HF : Hid (R = 1) := HB1.out (by rw [HBG.out]; rfl)
     go_wp2_with fail
     go_ret
     exact ⟨by rw [HF.out]; rfl, hbw2⟩
    | true =>
     by_cases h3 : r = adminT
     ·have HF : Hid (R = 1) := HB1.out (by rw [HBG.out, decide_eq_true h3]; rfl)
      have e3 : (r == [97, 100, 109, 105, 110]) = true := by rw [h3]; rfl
      have e4 : r = [97, 100, 109, 105, 110] := h3
      clear HX1 HX2 HBG HB0 HB1 HKV HK1 HV
      subst e4
      go_wp2_with fail
      go_ret
      exact ⟨by rw [HF.out]; rfl, hbw2⟩
     ·have HF : Hid (∀ g ∈ l.take (j + 1), badG g = false) := HB0.out (by rw [HBG.out, decide_eq_false h3]; rfl)
      have e4 : ¬ r = [97, 100, 109, 105, 110] := h3
      have e3 : (r == [97, 100, 109, 105, 110]) = false := by simpa using e4
      clear h3
      go_wp2_with fail
      go_roundw
      case rel => exact ⟨j + 1, by omega, by go_num, HF, hbw2⟩
      case measure => simp [intOf]; omega
  ·obtain rfl : j = N := by omega
   have HJ2 : Hid (l.any badG = false) := by
    show _ = _
    have := HJ.out
    rw [← HL.out, List.take_length] at this
    rw [List.any_eq_false]
    intro g hg
    rw [this g hg]; simp
   clear HJ hlt
   by_cases h60 : 60 < j
   ·have HF : Hid (R = 13) := by show _ = _; rw [← HR.out]; unfold chkG; rw [HJ2.out, HL.out, if_neg (by simp), if_pos h60]
    go_wp2_with fail
    go_ret
    exact ⟨by rw [HF.out]; rfl, hbw⟩
   ·have HF : Hid ((if risB l then (0 : Int) else 15) = R) := by have := HR.out; unfold chkG at this; rw [HJ2.out, HL.out, if_neg (by simp), if_neg h60] at this; exact this
    have h60' : ¬ (60 : Int) < (j : Int) := by omega
    have HBJ := Lib.hid hbw
    clear HR hbw
    go_wp2_with fail
    go_loopw [5] (fun i wr => ∃ k : Nat, 1 ≤ k ∧ i = .int .i64 k ∧ Hid (∀ m x y, m + 1 < k → l[m]? = some x → l[m + 1]? = some y → glt x y = true) ∧ Below w.heap.size w wr) (fun i _ => j + 1 - (intOf i).toNat)
    case atStart => exact ⟨1, Nat.le_refl _, rfl, fun m x y h => absurd h (by omega), HBJ.out⟩
    case round =>
     obtain ⟨k, hk1, rfl, HK, hbk⟩ := hrel
     obtain ⟨Y, rfl⟩ : ∃ W, W = wr := ⟨_, rfl⟩
     have hzk := hbk.size
     by_cases hlt : k < j
     ·obtain ⟨m, hm⟩ : ∃ m, k = m + 1 := ⟨k - 1, by omega⟩
      obtain ⟨b, off, x, rfl, hbB, hv, c0, c1, c2⟩ := (HQ.out _ hbk).at_ (j := m) (by rw [HL.out]; omega)
      obtain ⟨b2, off2, y, e2, _, hv2, d0, d1, d2⟩ := (HQ.out _ hbk).at_ (j := k) (by rw [HL.out]; exact hlt)
      obtain ⟨rfl, rfl⟩ : b = b2 ∧ off = off2 := by injection e2 with e; injection e with e1 e3; exact ⟨e1, e3⟩
      have lb : b < w.heap.size := hbB
      obtain ⟨O, hO⟩ : ∃ O, gord x y = O := ⟨_, rfl⟩
      have HOR : Hid (∀ Z : World, Calls Tryz.prog 46 #[.agg #[.string ⟨x.r.toArray⟩, .string ⟨x.t.toArray⟩, .bool x.w], .agg #[.string ⟨y.r.toArray⟩, .string ⟨y.t.toArray⟩, .bool y.w]] Z (Ret (.int .i64 O) Z)) := fun Z => by have := order_any x y Z; rw [hO] at this; exact this
      have HGL : Hid ((0 ≤ O) ↔ glt x y = false) := by have := gord_neg x y; rw [hO] at this; exact this
      have HNX : Hid (glt x y = true → ∀ q x y, q + 1 < k + 1 → l[q]? = some x → l[q + 1]? = some y → glt x y = true) := fun hg q x' y' hq hx hy => by
       rcases Nat.lt_or_ge (q + 1) k with h | h
       ·exact HK.out q x' y' h hx hy
       ·obtain rfl : q = m := by omega
        rw [hv] at hx
        rw [← hm, hv2] at hy
        cases hx; cases hy; exact hg
      have HBD : Hid (glt x y = false → R = 15) := fun hg => by
       rw [← HF.out, if_neg]
       intro hr
       have := (risB_iff l).1 hr m x y hv (by rw [← hm]; exact hv2)
       rw [this] at hg; cases hg
      have HSH : Hid (∀ Z : World, Below Y.heap.size Y Z → (Z.cell? ⟨b, off + m * 3, none⟩ = some (.string ⟨x.r.toArray⟩) ∧ Z.cell? ⟨b, off + m * 3 + 1, none⟩ = some (.string ⟨x.t.toArray⟩) ∧ Z.cell? ⟨b, off + m * 3 + 2, none⟩ = some (.bool x.w)) ∧ Z.cell? ⟨b, off + k * 3, none⟩ = some (.string ⟨y.r.toArray⟩) ∧ Z.cell? ⟨b, off + k * 3 + 1, none⟩ = some (.string ⟨y.t.toArray⟩) ∧ Z.cell? ⟨b, off + k * 3 + 2, none⟩ = some (.bool y.w)) := fun Z hz => by
       have hc : ∀ o, Z.cell? ⟨b, o, none⟩ = Y.cell? ⟨b, o, none⟩ := fun o => hz.cell (p := ⟨b, o, none⟩) (show b < _ by omega)
       exact ⟨⟨(hc _).trans c0, (hc _).trans c1, (hc _).trans c2⟩, (hc _).trans d0, (hc _).trans d1, (hc _).trans d2⟩
      have g6 : IntKind.i64.wrap ((k : Int) - 1) = (m : Int) := by rw [IntWalk.i64_in _ (by omega)]; omega
      have g7 : (0 : Int) ≤ (m : Int) := by omega
      have g8 : (m : Int) < (j : Int) := by omega
      have g9 : IntKind.i64.wrap (m : Int) = (m : Int) := IntWalk.i64_in _ (by omega)
      have g10 : (0 : Int) ≤ (k : Int) := by omega
      have g11 : (k : Int) < (j : Int) := by omega
      have HM := Lib.hid hm
      clear hv hv2 hO hm c0 c1 c2 d0 d1 d2 hbB e2
      go_wp2_with fail
      refine wp_region_held_drew (S := (fun Z => (Z.cell? ⟨b, off + m * 3, none⟩ = some (.string ⟨x.r.toArray⟩) ∧ Z.cell? ⟨b, off + m * 3 + 1, none⟩ = some (.string ⟨x.t.toArray⟩) ∧ Z.cell? ⟨b, off + m * 3 + 2, none⟩ = some (.bool x.w)) ∧ Z.cell? ⟨b, off + k * 3, none⟩ = some (.string ⟨y.r.toArray⟩) ∧ Z.cell? ⟨b, off + k * 3 + 1, none⟩ = some (.string ⟨y.t.toArray⟩) ∧ Z.cell? ⟨b, off + k * 3 + 2, none⟩ = some (.bool y.w))) (by kernel_rfl) ?_ (fun hHeld => ?_)
      ·try dsimp only
       exact HSH.out _ (by exact bl)
      refine tS [0, 1, 2, 3, 4, 5, 6, 7, 8] ?_
      iterate 9 (refine tC ?_; refine ap ?_)
      refine tN ?_
      refine rdy 9 fun K hK => ?_
      go_simp
      (refine (HOR.out _).mono ?_) <;> rintro en w9 ⟨rfl, hb9⟩ <;> have hz9 := hb9.size <;> (try simp at hz9)
      go_wp2_with fail
      refine hK.out _ _ ?_ (fun hHeld => ?_)
      ·try dsimp only
       exact HSH.out _ (by exact bl)
      clear hK K
      refine ap ?_
      refine tS [10] (tC ?_)
      refine ap (tN ?_)
      refine wpAnyH_done (by kernel_rfl) ?_ _
      have hbY9 : Below Y.heap.size Y w9 := by exact bl
      have hbk9 : Below w.heap.size w w9 := hbk.trans (hbY9.mono hzk)
      cases hg : glt x y
      ·have g0 : (0 : Int) ≤ O := HGL.out.2 hg
       have HF2 : Hid (R = 15) := HBD.out hg
       clear HNX HBD HGL hg
       go_wp2_with fail
       go_ret
       exact ⟨by rw [HF2.out]; rfl, hbk9⟩
      ·have g0 : ¬ (0 : Int) ≤ O := fun h => by have := HGL.out.1 h; rw [hg] at this; cases this
       have HK2 := Lib.hid (HNX.out hg)
       clear HNX HBD HGL hg
       go_wp2_with fail
       go_roundw
       case rel => exact ⟨k + 1, by omega, by go_num, HK2, hbk9⟩
       case measure => simp [intOf]; omega
     ·have HF2 : Hid (R = 0) := by
       show _ = _
       rw [← HF.out, if_pos]
       refine (risB_iff l).2 fun m x y hx hy => HK.out m x y ?_ hx hy
       have : m + 1 < l.length := (List.getElem?_eq_some_iff.1 hy).1
       rw [HL.out] at this; omega
      have g11 : ¬ (k : Int) < (j : Int) := by omega
      clear hlt HK
      go_wp2_with fail
      go_ret
      exact ⟨by rw [HF2.out]; rfl, hbk⟩
end Go.Proofs.YtchilcchogcibaaGreatDoor
