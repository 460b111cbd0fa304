/- The document's Same of two expressions, Place and check, as plain functions; The parts that a statement's Op names, and whether two statements are the same, in plain words. -/
import Derived.Test.YtchilcchogcibaaGreatDoorSBytes
import Derived.Test.YtchilcchogcibaaGreatDoorSEnvL
import Derived.Test.YtchilcchogcibaaGreatDoorSGr1
import Derived.Test.YtchilcchogcibaaGreatDoorSR4d
namespace Go.Proofs.YtchilcchogcibaaGreatDoor
open Go.RowKit
attribute [local go_sem] ByteArray.extract_mk ba_get ba_append
attribute [local go_sem ↓] Go.wp_at_zero Go.wp_at_succ run_eql_V run_neq_V
/-- Are two expressions the same, so deep? -/
def sameE : Nat → Ex → Ex → Bool
 | n, a, b => (a.op == b.op) && ((veq a.v b.v) && ((a.s == b.s) && (decide (a.l.length = b.l.length) && match n with | 0 => true | n + 1 => (a.l.zip b.l).all fun p => sameE n p.1 p.2)))
/-- Are the parts the same? -/
def partsB : Nat → List (Ex × Ex) → Bool
 | 0, _ => true
 | n + 1, l => l.all fun p => sameE n p.1 p.2
theorem sameE_eq (n : Nat) (a b : Ex) : sameE n a b = ((a.op == b.op) && ((veq a.v b.v) && ((a.s == b.s) && (decide (a.l.length = b.l.length) && partsB n (a.l.zip b.l))))) := by
 cases n <;> (unfold sameE partsB; rfl)
theorem partsB_nil (n : Nat) : partsB n [] = true := by cases n <;> rfl
theorem sameE_0 (n : Nat) (e : Ex) : sameE n e ex0 = same0 e := by
 unfold sameE same0
 cases n <;> simp [ex0, Ex.op, Ex.v, Ex.s, Ex.l]
theorem sameE_self : ∀ (n : Nat) (e : Ex), sameE n e e = true
 | 0, e => by simp [sameE, veq]
 | n + 1, e => by
  rw [sameE]
  have h : (e.l.zip e.l).all (fun p => sameE n p.1 p.2) = true := by
   rw [List.all_eq_true]
   intro p hp
   have : p.1 = p.2 := by
    obtain ⟨i, hi, rfl⟩ := List.getElem_of_mem hp
    simp
   rw [this]
   exact sameE_self n p.2
  simp [h, veq]
set_option maxRecDepth 100000 in
set_option maxHeartbeats 8000000 in
theorem same4_step (n : Nat) (ih : ∀ m, n = m + 1 → ∀ (a b : Ex) (A B : Option Addr) (c d : Nat) (w : World), a.l.length ≤ maxLen → ExS 1000 m w w.heap.size A a.l → ExS 1000 m w w.heap.size B b.l →
   Calls Tryz.prog 56 #[.agg (a.cells A c).toArray, .agg (b.cells B d).toArray] w (Ret (.bool (sameE m a b)) w))
  (a b : Ex) (A B : Option Addr) (c d : Nat) (w : World) (hal : a.l.length ≤ maxLen) (hA : ExS 1000 n w w.heap.size A a.l) (hB : ExS 1000 n w w.heap.size B b.l) :
  Calls Tryz.prog 56 #[.agg (a.cells A c).toArray, .agg (b.cells B d).toArray] w (Ret (.bool (sameE n a b)) w) := by
 obtain ⟨w0, hw0⟩ : ∃ w0, (w.alloc (.cells (a.cells A c).toArray 30)).alloc (.cells (b.cells B d).toArray 30) = w0 := ⟨_, rfl⟩
 have ka0 : Blk w0 w.heap.size 30 (a.cells A c).toArray := by rw [← hw0]; exact (Blk.new _ _ _).alloc _
 have kb0 : Blk w0 (w.heap.size + 1) 30 (b.cells B d).toArray := by rw [← hw0]; exact Blk.new' _ _ _ _ (by simp)
 have hb0 : Below w.heap.size w w0 := by rw [← hw0]; exact bl
 have HSH : Hid (∀ w' : World, Below w0.heap.size w0 w' → (w'.cell? ⟨w.heap.size, 0, none⟩ = some (.string ⟨a.op.toArray⟩) ∧ w'.cell? ⟨w.heap.size, 1, none⟩ = some (.int .i64 a.v.k) ∧ w'.cell? ⟨w.heap.size, 2, none⟩ = some (.int .i64 a.v.i) ∧ w'.cell? ⟨w.heap.size, 3, none⟩ = some (.string ⟨a.v.s.toArray⟩) ∧ w'.cell? ⟨w.heap.size, 4, none⟩ = some (.string ⟨a.s.toArray⟩) ∧ w'.cell? ⟨w.heap.size, 5, none⟩ = some (.slice A a.l.length c) ∧ w'.cell? ⟨w.heap.size + 1, 0, none⟩ = some (.string ⟨b.op.toArray⟩) ∧ w'.cell? ⟨w.heap.size + 1, 1, none⟩ = some (.int .i64 b.v.k) ∧ w'.cell? ⟨w.heap.size + 1, 2, none⟩ = some (.int .i64 b.v.i) ∧ w'.cell? ⟨w.heap.size + 1, 3, none⟩ = some (.string ⟨b.v.s.toArray⟩) ∧ w'.cell? ⟨w.heap.size + 1, 4, none⟩ = some (.string ⟨b.s.toArray⟩) ∧ w'.cell? ⟨w.heap.size + 1, 5, none⟩ = some (.slice B b.l.length d))) := fun w' h => by
  obtain ⟨h0, h1, h2, h3, h4, h5⟩ := (ka0.below h ka0.lt).six
  obtain ⟨g0, g1, g2, g3, g4, g5⟩ := (kb0.below h kb0.lt).six
  exact ⟨h0, h1, h2, h3, h4, h5, g0, g1, g2, g3, g4, g5⟩
 have HA : Hid (∀ Y : World, Below w0.heap.size w0 Y → ExS 1000 n Y Y.heap.size A a.l) := fun Y h => ((hA.below n (hb0.trans (h.mono hb0.size)))).more (Nat.le_trans hb0.size h.size) n
 have HB : Hid (∀ Y : World, Below w0.heap.size w0 Y → ExS 1000 n Y Y.heap.size B b.l) := fun Y h => ((hB.below n (hb0.trans (h.mono hb0.size)))).more (Nat.le_trans hb0.size h.size) n
 have HW := Lib.hid hw0
 have HBW : Hid (∀ Y : World, Below w0.heap.size w0 Y → Below w.heap.size w Y) := fun Y h => hb0.trans (h.mono hb0.size)
 have hbr0 : Below w0.heap.size w0 w0 := Below.refl _ _
 have HIH := Lib.hid ih
 unfold maxLen at hal
 obtain ⟨R, hR⟩ : ∃ R, sameE n a b = R := ⟨_, rfl⟩
 rw [hR]
 rw [sameE_eq] at hR
 obtain ⟨ob, ho⟩ : ∃ x, (a.op == b.op) = x := ⟨_, rfl⟩
 obtain ⟨vb, hv⟩ : ∃ x, veq a.v b.v = x := ⟨_, rfl⟩
 obtain ⟨sb, hs⟩ : ∃ x, (a.s == b.s) = x := ⟨_, rfl⟩
 obtain ⟨lb, hl⟩ : ∃ x, decide (a.l.length = b.l.length) = x := ⟨_, rfl⟩
 rw [ho, hv, hs, hl] at hR
 have o1 : (a.op != b.op) = !ob := by rw [← ho]; rfl
 have v1 : veq ⟨a.v.k, a.v.i, a.v.s⟩ ⟨b.v.k, b.v.i, b.v.s⟩ = vb := hv
 have s1 : (a.s != b.s) = !sb := by rw [← hs]; rfl
 have l1 : ((a.l.length : Int) != (b.l.length : Int)) = !lb := by rw [← hl, Bool.eq_iff_iff]; simp; omega
 have hl2 : lb = true → a.l.length = b.l.length := fun h => by rw [h] at hl; simpa using hl
 have HL2 := Lib.hid hl2
 have HK := Lib.hid hR
 clear hw0 hA hB ka0 kb0 hb0 ih hR hv hl hl2
 obtain ⟨q0, q1, q2, q3, q4, q5, y0, y1, y2, y3, y4, y5⟩ := HSH.out w0 hbr0
 go_enter Tryz.func56, Tryz.ntmps56
 go_upto_region 1 with fail
 rw [HW.out]
 clear HW
 cases ob
 ·have HF : Hid (R = false) := by show _ = _; rw [← HK.out]; rfl
  go_wp2_with fail
  go_ret
  exact ⟨by rw [HF.out]; rfl, HBW.out _ (by exact bl)⟩
 cases vb
 ·have HF : Hid (R = false) := by show _ = _; rw [← HK.out]; rfl
  go_wp2_with fail
  go_ret
  exact ⟨by rw [HF.out]; rfl, HBW.out _ (by exact bl)⟩
 cases sb
 ·have HF : Hid (R = false) := by show _ = _; rw [← HK.out]; rfl
  go_wp2_with fail
  go_ret
  exact ⟨by rw [HF.out]; rfl, HBW.out _ (by exact bl)⟩
 cases lb
 ·have HF : Hid (R = false) := by show _ = _; rw [← HK.out]; rfl
  go_wp2_with fail
  go_ret
  exact ⟨by rw [HF.out]; rfl, HBW.out _ (by exact bl)⟩
 have hlen := HL2.out rfl
 have HLN := Lib.hid hlen
 have HK2 : Hid (partsB n ((a.l.zip b.l).drop 0) = R) := by
  show _ = _
  rw [← HK.out]
  rfl
 clear HK HL2 hlen
 go_wp2_with fail
 go_loopw [5] (fun i wr => ∃ j : Nat, j ≤ a.l.length ∧ i = .int .i64 j ∧ Hid (partsB n ((a.l.zip b.l).drop j) = R) ∧ Below w0.heap.size w0 wr) (fun i _ => a.l.length - (intOf i).toNat)
 case atStart => exact ⟨0, by omega, rfl, HK2, hbr0⟩
 case round =>
  obtain ⟨j, hj, rfl, HJ, hbr⟩ := hrel
  clear q0 q1 q2 q3 q4 q5 y0 y1 y2 y3 y4 y5
  obtain ⟨W, rfl⟩ : ∃ W, W = wr := ⟨_, rfl⟩
  obtain ⟨q0, q1, q2, q3, q4, q5, y0, y1, y2, y3, y4, y5⟩ := HSH.out W hbr
  have hzr := hbr.size
  by_cases hlt : j < a.l.length
  ·obtain ⟨m, b1, o1', x, A', c', hnm, rfl, hbB, hvx, _, _, hxc, hxm, ⟨c0, c1, c2, c3, c4, c5⟩, hx⟩ := six0 (HA.out W hbr) hlt
   obtain ⟨m', b2, o2', y, B', d', hnm', rfl, hbB2, hvy, _, _, _, _, ⟨d0, d1, d2, d3, d4, d5⟩, hy⟩ := six0 (HB.out W hbr) (j := j) (by rw [← HLN.out]; exact hlt)
   subst hnm
   obtain rfl : m = m' := by omega
   have hJ := HJ.out
   have hz : (a.l.zip b.l)[j]? = some (x, y) := by rw [List.getElem?_zip_eq_some]; exact ⟨hvx, hvy⟩
   have hd : (a.l.zip b.l).drop j = (x, y) :: (a.l.zip b.l).drop (j + 1) := by
    obtain ⟨hj', e⟩ := List.getElem?_eq_some_iff.1 hz
    rw [← e]
    exact List.drop_eq_getElem_cons hj'
   rw [hd, partsB, List.all_cons] at hJ
   have HX : Hid (∀ Y : World, Below W.heap.size W Y → Calls Tryz.prog 56 #[.agg #[.string ⟨x.op.toArray⟩, .int .i64 x.v.k, .int .i64 x.v.i, .string ⟨x.v.s.toArray⟩, .string ⟨x.s.toArray⟩, .slice A' x.l.length c'], .agg #[.string ⟨y.op.toArray⟩, .int .i64 y.v.k, .int .i64 y.v.i, .string ⟨y.v.s.toArray⟩, .string ⟨y.s.toArray⟩, .slice B' y.l.length d']] Y (Ret (.bool (sameE m x y)) Y)) := fun Y h => HIH.out m rfl x y A' B' c' d' Y (Nat.le_trans hxc hxm) ((hx.below m h).more h.size m) ((hy.below m h).more h.size m)
   obtain ⟨T, hT⟩ : ∃ T, sameE m x y = T := ⟨_, rfl⟩
   rw [hT] at HX hJ
   have HJ2 := Lib.hid hJ
   have i1 : (0 : Int) ≤ (j : Int) := by omega
   have i2 : (j : Int) < (a.l.length : Int) := by omega
   have i3 : (j : Int) < (b.l.length : Int) := by have := HLN.out; omega
   have lw : w.heap.size + 1 < W.heap.size := Blk_lt_of_cell y0
   have HSK : Hid (∀ w' : World, Below W.heap.size W w' → (w'.cell? ⟨w.heap.size, 5, none⟩ = some (.slice (some ⟨b1, o1', none⟩) a.l.length c) ∧ w'.cell? ⟨w.heap.size + 1, 5, none⟩ = some (.slice (some ⟨b2, o2', none⟩) b.l.length d) ∧ (w'.cell? ⟨b1, o1' + j * 6, none⟩ = some (.string ⟨x.op.toArray⟩) ∧ w'.cell? ⟨b1, o1' + j * 6 + 1, none⟩ = some (.int .i64 x.v.k) ∧ w'.cell? ⟨b1, o1' + j * 6 + 2, none⟩ = some (.int .i64 x.v.i) ∧ w'.cell? ⟨b1, o1' + j * 6 + 3, none⟩ = some (.string ⟨x.v.s.toArray⟩) ∧ w'.cell? ⟨b1, o1' + j * 6 + 4, none⟩ = some (.string ⟨x.s.toArray⟩) ∧ w'.cell? ⟨b1, o1' + j * 6 + 5, none⟩ = some (.slice A' x.l.length c')) ∧ (w'.cell? ⟨b2, o2' + j * 6, none⟩ = some (.string ⟨y.op.toArray⟩) ∧ w'.cell? ⟨b2, o2' + j * 6 + 1, none⟩ = some (.int .i64 y.v.k) ∧ w'.cell? ⟨b2, o2' + j * 6 + 2, none⟩ = some (.int .i64 y.v.i) ∧ w'.cell? ⟨b2, o2' + j * 6 + 3, none⟩ = some (.string ⟨y.v.s.toArray⟩) ∧ w'.cell? ⟨b2, o2' + j * 6 + 4, none⟩ = some (.string ⟨y.s.toArray⟩) ∧ w'.cell? ⟨b2, o2' + j * 6 + 5, none⟩ = some (.slice B' y.l.length d')))) := fun w' h => by
    have f : ∀ o, w'.cell? ⟨w.heap.size, o, none⟩ = W.cell? ⟨w.heap.size, o, none⟩ := fun o => h.cell (p := ⟨w.heap.size, o, none⟩) (show w.heap.size < _ by omega)
    have f' : ∀ o, w'.cell? ⟨w.heap.size + 1, o, none⟩ = W.cell? ⟨w.heap.size + 1, o, none⟩ := fun o => h.cell (p := ⟨w.heap.size + 1, o, none⟩) lw
    have g : ∀ o, w'.cell? ⟨b1, o, none⟩ = W.cell? ⟨b1, o, none⟩ := fun o => h.cell (p := ⟨b1, o, none⟩) hbB
    have g' : ∀ o, w'.cell? ⟨b2, o, none⟩ = W.cell? ⟨b2, o, none⟩ := fun o => h.cell (p := ⟨b2, o, none⟩) hbB2
    exact ⟨(f _).trans q5, (f' _).trans y5, ⟨(g _).trans c0, (g _).trans c1, (g _).trans c2, (g _).trans c3, (g _).trans c4, (g _).trans c5⟩, ⟨(g' _).trans d0, (g' _).trans d1, (g' _).trans d2, (g' _).trans d3, (g' _).trans d4, (g' _).trans d5⟩⟩
   clear hJ hd hz hvx hvy HJ hx hy hT HIH hxc hxm
   go_wp2_with fail
   skip
   refine rgn HSK fun hHeld => ?_
   refine tS [0, 1, 2, 3, 4, 5, 6, 7, 8, 9] ?_
   iterate 10 (refine tC ?_; refine ap ?_)
   refine tN ?_
   refine rdy 10 fun K hK => ?_
   go_simp
   (refine (HX.out _ (by exact bl)).mono ?_) <;> rintro en w9 ⟨rfl, hb9⟩ <;> have hz9 := hb9.size <;> (try simp at hz9)
   go_wp2_with fail
   refine hK.out _ _ (HSK.out _ (by exact bl)) fun hHeld => ?_
   clear hK K
   refine ap ?_
   refine tS [11] (tC ?_)
   refine ap (tN ?_)
   refine wpAnyH_done (by kernel_rfl) ?_ _
   have hb09 : Below w0.heap.size w0 w9 := by exact bl
   cases T
   ·have HF : Hid (R = false) := by show _ = _; rw [← HJ2.out]; rfl
    go_wp2_with fail
    go_ret
    exact ⟨by rw [HF.out]; rfl, HBW.out _ (by exact bl)⟩
   ·have HN : Hid (partsB (m + 1) ((a.l.zip b.l).drop (j + 1)) = R) := by show _ = _; rw [← HJ2.out]; rfl
    go_wp2_with fail
    go_roundw
    case rel => exact ⟨j + 1, by omega, by go_num, HN, by exact bl⟩
    case measure => simp [intOf]; omega
  ·obtain rfl : j = a.l.length := by omega
   have HF : Hid (R = true) := by
    show _ = _
    rw [← HJ.out, List.drop_of_length_le (by rw [List.length_zip]; omega)]
    exact partsB_nil n
   have b0 : ¬ ((a.l.length : Int) < (a.l.length : Int)) := by omega
   clear HJ
   go_wp2_with fail
   go_ret
   exact ⟨by rw [HF.out]; rfl, HBW.out _ (by exact bl)⟩
theorem same4_any : ∀ (n : Nat) (a b : Ex) (A B : Option Addr) (c d : Nat) (w : World), a.l.length ≤ maxLen → ExS 1000 n w w.heap.size A a.l → ExS 1000 n w w.heap.size B b.l →
   Calls Tryz.prog 56 #[.agg (a.cells A c).toArray, .agg (b.cells B d).toArray] w (Ret (.bool (sameE n a b)) w) := by
 intro n
 induction n with
 | zero => exact same4_step 0 (fun m h => absurd h (by omega))
 | succ n ih =>
  refine same4_step (n + 1) (fun m h => ?_)
  obtain rfl : n = m := by omega
  exact ih
theorem may_formE {e : Ex} (h : mayX e = true) : formE 12 e = true := by
 have := (may_form 12 1 0 e (by omega) (by omega)).1
 rw [show (mayE 12 1 0 e).1 = mayX e from rfl, h] at this
 simp at this
 exact this.1
end Go.Proofs.YtchilcchogcibaaGreatDoor
namespace Go.Proofs.YtchilcchogcibaaGreatDoor
open Go.RowKit
def stZ (op tb : List UInt8) : St := ⟨op, tb, [], [], [], [], [], [], ex0, [], [], ex0, []⟩
/-- A statement with no more than the parts that its Op names. -/
def ownS (s : St) : St :=
 if s.op = oCreate then ⟨s.op, s.tb, [], [], s.cols, s.key, s.uniq, s.refs, s.chk, [], [], ex0, []⟩
 else if s.op = oInsert then ⟨s.op, s.tb, [], [], [], [], [], [], ex0, s.row, [], ex0, []⟩
 else if s.op = oUpdate then ⟨s.op, s.tb, [], [], [], [], [], [], ex0, [], s.sets, s.whr, []⟩
 else if s.op = oDelete ∨ s.op = oSelect then ⟨s.op, s.tb, [], [], [], [], [], [], ex0, [], [], s.whr, []⟩
 else if s.op = oRead ∨ s.op = oWrite ∨ s.op = oUnread ∨ s.op = oUnwrite then ⟨s.op, s.tb, [], [], [], [], [], [], ex0, [], [], ex0, s.role⟩
 else if s.op = oCopy ∨ s.op = oGroup then ⟨s.op, s.tb, s.ot, s.names, [], [], [], [], s.chk, [], [], ex0, []⟩
 else if s.op = oJoin then ⟨s.op, s.tb, s.ot, [], [], s.key, [], [], s.chk, [], [], ex0, s.role⟩
 else stZ s.op s.tb
def slZ : Sl := ⟨none, 0⟩
def stPZ : StP := ⟨slZ, slZ, slZ, slZ, slZ, slZ, slZ, slZ⟩
/-- Where its parts lie. -/
def ownP (s : St) (p : StP) : StP :=
 if s.op = oCreate then ⟨slZ, p.cols, p.uniq, p.refs, p.chk, slZ, slZ, slZ⟩
 else if s.op = oInsert then ⟨slZ, slZ, slZ, slZ, slZ, p.row, slZ, slZ⟩
 else if s.op = oUpdate then ⟨slZ, slZ, slZ, slZ, slZ, slZ, p.sets, p.whr⟩
 else if s.op = oDelete ∨ s.op = oSelect then ⟨slZ, slZ, slZ, slZ, slZ, slZ, slZ, p.whr⟩
 else if s.op = oRead ∨ s.op = oWrite ∨ s.op = oUnread ∨ s.op = oUnwrite then stPZ
 else if s.op = oCopy ∨ s.op = oGroup then ⟨p.names, slZ, slZ, slZ, p.chk, slZ, slZ, slZ⟩
 else if s.op = oJoin then ⟨slZ, slZ, slZ, slZ, p.chk, slZ, slZ, slZ⟩
 else stPZ
/-- May the parts be that its Op names? -/
def okD (s : St) : Bool :=
 if s.op = oCreate then creS s
 else if s.op = oDrop then true
 else if s.op = oInsert then manyB s.row 1 12 (fun v => mayB v.k v.i v.s)
 else if s.op = oUpdate then manyB s.sets 1 8 setOkB && perhapsE s.whr
 else if s.op = oDelete ∨ s.op = oSelect then perhapsE s.whr
 else if s.op = oRead ∨ s.op = oWrite ∨ s.op = oUnread ∨ s.op = oUnwrite then nameG s.role
 else if s.op = oCopy then nameG s.ot && manyB s.names 1 8 nameG && perhapsE s.chk
 else if s.op = oJoin then nameG s.ot && nameG s.key && nameG s.role && perhapsE s.chk
 else if s.op = oGroup then nameG s.ot && manyB s.names 2 2 nameG && perhapsE s.chk
 else false
/-- Are two lists the same, thing by thing? -/
def listB {α : Type} (q : α → α → Bool) (a b : List α) : Bool := decide (a.length = b.length) && (a.zip b).all fun p => q p.1 p.2
def colEq (a b : Col) : Bool := a.n == b.n && (decide (a.t = b.t) && a.b == b.b)
def rfB (a b : Rf) : Bool := a.c == b.c && a.t == b.t
def seB (n : Nat) (a b : Se) : Bool := a.n == b.n && sameE n a.e b.e
/-- Are two statements the same, their expressions so deep? -/
def sameS (n : Nat) (a b : St) : Bool :=
 (a.op == b.op) && (a.tb == b.tb) && (a.ot == b.ot) && (a.key == b.key) && (a.role == b.role) && sameE n a.chk b.chk && sameE n a.whr b.whr &&
 listB (fun x y => x == y) a.names b.names && listB colEq a.cols b.cols && listB (fun x y => x == y) a.uniq b.uniq && listB rfB a.refs b.refs && listB veq a.row b.row && listB (seB n) a.sets b.sets
theorem listB_self {α : Type} {q : α → α → Bool} (hq : ∀ x, q x x = true) (l : List α) : listB q l l = true := by
 unfold listB
 simp only [decide_true, Bool.true_and, List.all_eq_true]
 intro p hp
 have : p.1 = p.2 := by
  obtain ⟨i, hi, rfl⟩ := List.getElem_of_mem hp
  simp
 rw [this]; exact hq p.2
theorem listB_nil {α : Type} {q : α → α → Bool} (l : List α) : listB q [] l = l.isEmpty := by cases l <;> simp [listB]
theorem veq_comm (a b : V) : veq a b = veq b a := by
 unfold veq
 rw [Bool.eq_iff_iff]
 simp only [Bool.and_eq_true, decide_eq_true_eq, beq_iff_eq]
 constructor <;> (rintro ⟨h1, h2, h3⟩; exact ⟨h1.symm, h2.symm, h3.symm⟩)
theorem sameE_ex0 (n : Nat) (e : Ex) : sameE n ex0 e = noneE e := by
 obtain ⟨op, v, s, l⟩ := e
 rw [sameE_eq]
 show (([] : List UInt8) == op && (veq V.zero v && (([] : List UInt8) == s && (decide (([] : List Ex).length = l.length) && partsB n (([] : List Ex).zip l))))) = (op.isEmpty && veq v V.zero && s.isEmpty && l.isEmpty)
 rw [veq_comm V.zero v, List.zip_nil_left, partsB_nil]
 generalize veq v V.zero = z
 cases op <;> cases s <;> cases l <;> cases z <;> rfl
theorem veq_self (v : V) : veq v v = true := by simp [veq]
theorem isEmpty_app (a b : List UInt8) : (a ++ b).isEmpty = (a.isEmpty && b.isEmpty) := by cases a <;> rfl
theorem emptyS_iff (s : St) : emptyS s = (s.tb.isEmpty && s.ot.isEmpty && s.key.isEmpty && s.role.isEmpty && s.names.isEmpty && s.cols.isEmpty && s.uniq.isEmpty && s.refs.isEmpty && s.row.isEmpty && s.sets.isEmpty && noneE s.chk && noneE s.whr) := by
 have e1 : decide (s.names.length + s.cols.length + s.uniq.length + s.refs.length + s.row.length + s.sets.length = 0) = (s.names.isEmpty && (s.cols.isEmpty && (s.uniq.isEmpty && (s.refs.isEmpty && (s.row.isEmpty && s.sets.isEmpty))))) := by
  rw [Bool.eq_iff_iff]
  simp only [decide_eq_true_eq, Bool.and_eq_true, List.isEmpty_iff_length_eq_zero]
  omega
 unfold emptyS
 rw [e1, isEmpty_app, isEmpty_app, isEmpty_app]
 simp only [Bool.and_assoc]
/-- Which parts are kept. -/
structure Flags where
 ot : Bool
 names : Bool
 cols : Bool
 key : Bool
 uniq : Bool
 refs : Bool
 chk : Bool
 row : Bool
 sets : Bool
 whr : Bool
 role : Bool
def keepS (f : Flags) (s : St) : St := ⟨s.op, s.tb, cond f.ot s.ot [], cond f.names s.names [], cond f.cols s.cols [], cond f.key s.key [], cond f.uniq s.uniq [], cond f.refs s.refs [], cond f.chk s.chk ex0, cond f.row s.row [], cond f.sets s.sets [], cond f.whr s.whr ex0, cond f.role s.role []⟩
def dropS (f : Flags) (s : St) : St := ⟨s.op, [], cond f.ot [] s.ot, cond f.names [] s.names, cond f.cols [] s.cols, cond f.key [] s.key, cond f.uniq [] s.uniq, cond f.refs [] s.refs, cond f.chk exZero s.chk, cond f.row [] s.row, cond f.sets [] s.sets, cond f.whr exZero s.whr, cond f.role [] s.role⟩
theorem keep_text (b : Bool) (t : List UInt8) : (cond b t [] == t) = (b || t.isEmpty) := by cases b <;> cases t <;> simp
theorem keep_list {α : Type} {q : α → α → Bool} (hq : ∀ x, q x x = true) (b : Bool) (l : List α) : listB q (cond b l []) l = (b || l.isEmpty) := by
 cases b
 ·exact listB_nil l
 ·exact listB_self hq l
theorem keep_ex (n : Nat) (b : Bool) (e : Ex) : sameE n (cond b e ex0) e = (b || noneE e) := by
 cases b
 ·exact sameE_ex0 n e
 ·exact sameE_self n e
theorem drop_list {α : Type} (b : Bool) (l : List α) : (cond b [] l).isEmpty = (b || l.isEmpty) := by cases b <;> rfl
theorem drop_ex (b : Bool) (e : Ex) : noneE (cond b exZero e) = (b || noneE e) := by
 cases b
 ·rfl
 ·show noneE exZero = true; decide
theorem keep_drop (n : Nat) (f : Flags) (s : St) : sameS n (keepS f s) s = emptyS (dropS f s) := by
 rw [emptyS_iff]
 unfold sameS keepS dropS
 dsimp only
 rw [keep_text, keep_text, keep_text, keep_ex, keep_ex, keep_list (fun x => by simp), keep_list (fun x => by simp [colEq]), keep_list (fun x => by simp), keep_list (fun x => by simp [rfB]), keep_list veq_self, keep_list (fun x => by simp [seB, sameE_self]),
  drop_list, drop_list, drop_list, drop_list, drop_list, drop_list, drop_list, drop_list, drop_list, drop_ex, drop_ex]
 simp only [beq_self_eq_true, Bool.true_and, List.isEmpty_nil]
 ac_rfl
theorem fin4 (a b : Bool) (n : Nat) (f : Flags) (s : St) : (b && a && emptyS (dropS f s)) = (a && (b && sameS n (keepS f s) s)) := by
 rw [keep_drop]
 cases a <;> cases b <;> rfl
/-- The parts may be, and no others are there: so it is said of the program, and so by the document. -/
theorem parts_D (n : Nat) (s : St) : partsS s = (okD s && (nameG s.tb && sameS n (ownS s) s)) := by
 unfold partsS okD ownS
 by_cases o1 : s.op = oCreate
 ·simp only [if_pos o1]
  exact fin4 _ _ n ⟨false, false, true, true, true, true, true, false, false, false, false⟩ s
 simp only [if_neg o1]
 by_cases o2 : s.op = oDrop
 ·have : ¬ s.op = oInsert ∧ ¬ s.op = oUpdate ∧ ¬ s.op = oDelete ∧ ¬ s.op = oSelect ∧ ¬ s.op = oRead ∧ ¬ s.op = oWrite ∧ ¬ s.op = oUnread ∧ ¬ s.op = oUnwrite ∧ ¬ s.op = oCopy ∧ ¬ s.op = oJoin ∧ ¬ s.op = oGroup := by rw [o2]; decide
  obtain ⟨m1, m2, m3, m4, m5, m6, m7, m8, m9, m10, m11⟩ := this
  simp only [if_pos o2]
  rw [if_neg m1, if_neg m2, if_neg (by simp [m3, m4]), if_neg (by simp [m5, m6, m7, m8]), if_neg (by simp [m9, m11]), if_neg m10]
  exact congrArg (fun z => nameG s.tb && z) (keep_drop n ⟨false, false, false, false, false, false, false, false, false, false, false⟩ s).symm
 simp only [if_neg o2]
 by_cases o3 : s.op = oInsert
 ·simp only [if_pos o3]
  exact fin4 _ _ n ⟨false, false, false, false, false, false, false, true, false, false, false⟩ s
 simp only [if_neg o3]
 by_cases o4 : s.op = oUpdate
 ·simp only [if_pos o4]
  rw [Bool.and_assoc (nameG s.tb)]
  exact fin4 _ _ n ⟨false, false, false, false, false, false, false, false, true, true, false⟩ s
 simp only [if_neg o4]
 by_cases o5 : s.op = oDelete ∨ s.op = oSelect
 ·simp only [if_pos o5]
  exact fin4 _ _ n ⟨false, false, false, false, false, false, false, false, false, true, false⟩ s
 simp only [if_neg o5]
 by_cases o6 : s.op = oRead ∨ s.op = oWrite ∨ s.op = oUnread ∨ s.op = oUnwrite
 ·simp only [if_pos o6]
  exact fin4 _ _ n ⟨false, false, false, false, false, false, false, false, false, false, true⟩ s
 simp only [if_neg o6]
 by_cases o7 : s.op = oCopy
 ·simp only [if_pos o7, if_pos (Or.inl o7 : s.op = oCopy ∨ s.op = oGroup)]
  rw [Bool.and_assoc (nameG s.tb), Bool.and_assoc (nameG s.tb)]
  exact fin4 _ _ n ⟨true, true, false, false, false, false, true, false, false, false, false⟩ s
 simp only [if_neg o7]
 by_cases o8 : s.op = oJoin
 ·have o9 : ¬ (s.op = oCopy ∨ s.op = oGroup) := by rw [o8]; decide
  simp only [if_pos o8, if_neg o9]
  rw [Bool.and_assoc (nameG s.tb), Bool.and_assoc (nameG s.tb), Bool.and_assoc (nameG s.tb)]
  exact fin4 _ _ n ⟨true, false, false, true, false, false, true, false, false, false, true⟩ s
 simp only [if_neg o8]
 by_cases o9 : s.op = oGroup
 ·simp only [if_pos o9, if_pos (Or.inr o9 : s.op = oCopy ∨ s.op = oGroup)]
  rw [Bool.and_assoc (nameG s.tb), Bool.and_assoc (nameG s.tb)]
  exact fin4 _ _ n ⟨true, true, false, false, false, false, true, false, false, false, false⟩ s
 simp only [if_neg o9, Bool.false_and]
end Go.Proofs.YtchilcchogcibaaGreatDoor
