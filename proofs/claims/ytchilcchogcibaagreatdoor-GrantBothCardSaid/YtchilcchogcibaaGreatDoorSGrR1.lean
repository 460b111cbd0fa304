/- grant.May as a plain function; The document's Name, ahead and has as plain functions. -/
import Derived.Test.YtchilcchogcibaaGreatDoorSGot
import Derived.Test.YtchilcchogcibaaGreatDoorSGr3
import Derived.Test.YtchilcchogcibaaGreatDoorSLex1
namespace Go.Proofs.YtchilcchogcibaaGreatDoor
open Go.RowKit
attribute [local go_sem] ByteArray.extract_mk ba_get ba_append
attribute [local go_sem ↓] Go.wp_at_zero Go.wp_at_succ
/-- May a role do a statement of that Op on that table? -/
def mayG (l : List Gr) (role op tb : List UInt8) : Bool :=
 if chkG l = 0 then
  if role = adminT then true
  else if op = oSelect then decide (⟨role, tb, false⟩ ∈ l)
  else if op = oInsert ∨ op = oUpdate ∨ op = oDelete then decide (⟨role, tb, false⟩ ∈ l) && decide (⟨role, tb, true⟩ ∈ l)
  else false
 else false
set_option maxRecDepth 100000 in
set_option maxHeartbeats 8000000 in
theorem mayG_any (A : Option Addr) (c : Nat) (l : List Gr) (role : List UInt8) (s : St) (p : StP) (w : World) (hl : l.length ≤ 1000000) (hn : ∀ g ∈ l, g.r.length ≤ 1000000 ∧ g.t.length ≤ 1000000) (h : GQ l A (Old w.heap.size) w) :
  Calls Tryz.prog 18 #[.slice A l.length c, .string ⟨role.toArray⟩, .agg (s.cells p).toArray] w (Ret (.bool (mayG l role s.op s.tb)) w) := by
 have HQ : Hid (∀ Z : World, Below w.heap.size w Z → GQ l A (Old Z.heap.size) Z) := fun Z hz => h.keep (old_keep hz hz.size)
 have HN := Lib.hid hn
 obtain ⟨R, hR⟩ : ∃ R, mayG l role s.op s.tb = R := ⟨_, rfl⟩
 rw [hR]
 have HR := Lib.hid hR
 obtain ⟨C, hC⟩ : ∃ C, chkG l = C := ⟨_, rfl⟩
 have HCK : Hid (∀ Z : World, Below w.heap.size w Z → Calls Tryz.prog 20 #[.slice A l.length c] Z (Ret (.int .i64 C) Z)) := fun Z hz => by
  have := checkG_any A c l Z hl hn (HQ.out Z hz)
  rw [hC] at this
  exact this
 obtain ⟨O1, hO1⟩ : ∃ O, firstP (fun x => decide (x = (⟨role, s.tb, false⟩ : Gr))) l 0 = O := ⟨_, rfl⟩
 obtain ⟨O2, hO2⟩ : ∃ O, firstP (fun x => decide (x = (⟨role, s.tb, true⟩ : Gr))) l 0 = O := ⟨_, rfl⟩
 have HP1 : Hid (∀ Z : World, Below w.heap.size w Z → Calls Tryz.prog 37 #[.slice A l.length c, .agg #[.string ⟨role.toArray⟩, .string ⟨s.tb.toArray⟩, .bool false]] Z (Ret (.int .i64 O1) Z)) := fun Z hz => by
  have := place_any A c l ⟨role, s.tb, false⟩ Z hl (HQ.out Z hz)
  rw [hO1] at this
  exact this
 have HP2 : Hid (∀ Z : World, Below w.heap.size w Z → Calls Tryz.prog 37 #[.slice A l.length c, .agg #[.string ⟨role.toArray⟩, .string ⟨s.tb.toArray⟩, .bool true]] Z (Ret (.int .i64 O2) Z)) := fun Z hz => by
  have := place_any A c l ⟨role, s.tb, true⟩ Z hl (HQ.out Z hz)
  rw [hO2] at this
  exact this
 have HM1 : Hid (decide (0 ≤ O1) = decide (⟨role, s.tb, false⟩ ∈ l)) := by show _ = _; rw [← hO1]; exact firstP_mem l _
 have HM2 : Hid (decide (0 ≤ O2) = decide (⟨role, s.tb, true⟩ ∈ l)) := by show _ = _; rw [← hO2]; exact firstP_mem l _
 have HC := Lib.hid hC
 obtain ⟨w0, hw0⟩ : ∃ w0, w.alloc (.cells (s.cells p).toArray 34) = w0 := ⟨_, rfl⟩
 have ks : Blk w0 w.heap.size 34 (s.cells p).toArray := by rw [← hw0]; exact Blk.new _ _ _
 have hb0 : Below w.heap.size w w0 := by rw [← hw0]; exact bl
 have HSH : Hid (∀ Z : World, Below w0.heap.size w0 Z → Z.cell? ⟨w.heap.size, 0, none⟩ = some (.string ⟨s.op.toArray⟩) ∧ Z.cell? ⟨w.heap.size, 1, none⟩ = some (.string ⟨s.tb.toArray⟩)) := fun Z hz => by
  have k := ks.below hz ks.lt
  exact ⟨k.cell 0, k.cell 1⟩
 dsimp only [St.cells] at hw0
 have HW := Lib.hid hw0
 have hz0 := hb0.size
 have HBW : Hid (∀ Z : World, Below w0.heap.size w0 Z → Below w.heap.size w Z) := fun Z hz => hb0.trans (hz.mono hz0)
 obtain ⟨op, hop⟩ : ∃ o, s.op = o := ⟨_, rfl⟩
 have HRO : Hid (mayG l role op s.tb = R) := by rw [← hop]; exact hR
 rw [hop] at HSH
 clear h hn hR hC hO1 hO2 hw0 ks hb0 hop HR
 dsimp only [St.cells]
 go_enter Tryz.func18, Tryz.ntmps18
 go_upto_region 1 with fail
 rw [show w.alloc _ = w0 from HW.out]
 clear HW
 go_wp2_with fail
 refine (HCK.out w0 (HBW.out _ (Below.refl _ _))).mono ?_
 rintro en w1 ⟨rfl, hb1⟩
 by_cases hc0 : C = 0
 ·subst hc0
  by_cases hra : role = adminT
  ·have e4 : role = [97, 100, 109, 105, 110] := hra
   have HF : Hid (R = true) := by show _ = _; rw [← HRO.out]; unfold mayG; rw [HC.out, if_pos rfl, if_pos hra]
   clear HRO HP1 HP2 HM1 HM2 hra HCK HSH HC HQ
   subst e4
   go_wp2_with fail
   go_ret
   exact ⟨by rw [HF.out]; rfl, HBW.out _ hb1⟩
  ·have e4 : ¬ role = [97, 100, 109, 105, 110] := hra
   have e5 : (role == [97, 100, 109, 105, 110]) = false := by simpa using e4
   have HRO2 : Hid ((if op = oSelect then decide (⟨role, s.tb, false⟩ ∈ l) else if op = oInsert ∨ op = oUpdate ∨ op = oDelete then decide (⟨role, s.tb, false⟩ ∈ l) && decide (⟨role, s.tb, true⟩ ∈ l) else false) = R) := by
    have := HRO.out
    unfold mayG at this
    rw [HC.out, if_pos rfl, if_neg hra] at this
    exact this
   clear HRO hra HC
   obtain ⟨q0, q1⟩ := HSH.out w1 hb1
   go_wp2_with fail
   refine (HP1.out w1 (HBW.out _ hb1)).mono ?_
   rintro en w2 ⟨rfl, hb2⟩
   have hb02 : Below w0.heap.size w0 w2 := hb1.trans (hb2.mono hb1.size)
   clear q0 q1
   obtain ⟨q0, q1⟩ := HSH.out w2 hb02
   go_wp2_with fail
   refine (HP2.out w2 (HBW.out _ hb02)).mono ?_
   rintro en w3 ⟨rfl, hb3⟩
   have hb03 : Below w0.heap.size w0 w3 := hb02.trans (hb3.mono hb02.size)
   clear q0 q1
   obtain ⟨q0, q1⟩ := HSH.out w3 hb03
   have hbw3 := HBW.out _ hb03
   by_cases o_select : op = oSelect
   ·have HF : Hid (decide (0 ≤ O1) = R) := by show _ = _; rw [HM1.out, ← HRO2.out, if_pos o_select]
    have o' : op = [115, 101, 108, 101, 99, 116] := o_select
    clear HRO2 HM1 HM2 HP1 HP2 HSH HQ HCK o_select
    subst o'
    go_wp2_with fail
    go_ret
    exact ⟨by rw [← HF.out]; rfl, hbw3⟩
   by_cases o_insert : op = oInsert
   ·have HF : Hid ((decide (0 ≤ O1) && decide (0 ≤ O2)) = R) := by
     show _ = _
     rw [HM1.out, HM2.out, ← HRO2.out, if_neg o_select, if_pos (by simp [o_insert])]
    have o' : op = [105, 110, 115, 101, 114, 116] := o_insert
    clear o_select HRO2 HM1 HM2 HP1 HP2 HSH HQ HCK o_insert
    subst o'
    by_cases g1 : (0 : Int) ≤ O1
    ·have HF2 : Hid (decide (0 ≤ O2) = R) := by show _ = _; rw [← HF.out, decide_eq_true g1]; rfl
     go_wp2_with fail
     go_ret
     exact ⟨by rw [← HF2.out]; rfl, hbw3⟩
    ·have HF2 : Hid (R = false) := by show _ = _; rw [← HF.out, decide_eq_false g1]; rfl
     go_wp2_with fail
     go_ret
     exact ⟨by rw [HF2.out]; rfl, hbw3⟩
   by_cases o_update : op = oUpdate
   ·have HF : Hid ((decide (0 ≤ O1) && decide (0 ≤ O2)) = R) := by
     show _ = _
     rw [HM1.out, HM2.out, ← HRO2.out, if_neg o_select, if_pos (by simp [o_update])]
    have o' : op = [117, 112, 100, 97, 116, 101] := o_update
    clear o_select o_insert HRO2 HM1 HM2 HP1 HP2 HSH HQ HCK o_update
    subst o'
    by_cases g1 : (0 : Int) ≤ O1
    ·have HF2 : Hid (decide (0 ≤ O2) = R) := by show _ = _; rw [← HF.out, decide_eq_true g1]; rfl
     go_wp2_with fail
     go_ret
     exact ⟨by rw [← HF2.out]; rfl, hbw3⟩
    ·have HF2 : Hid (R = false) := by show _ = _; rw [← HF.out, decide_eq_false g1]; rfl
     go_wp2_with fail
     go_ret
     exact ⟨by rw [HF2.out]; rfl, hbw3⟩
   by_cases o_delete : op = oDelete
   ·have HF : Hid ((decide (0 ≤ O1) && decide (0 ≤ O2)) = R) := by
     show _ = _
     rw [HM1.out, HM2.out, ← HRO2.out, if_neg o_select, if_pos (by simp [o_delete])]
    have o' : op = [100, 101, 108, 101, 116, 101] := o_delete
    clear o_select o_insert o_update HRO2 HM1 HM2 HP1 HP2 HSH HQ HCK o_delete
    subst o'
    by_cases g1 : (0 : Int) ≤ O1
    ·have HF2 : Hid (decide (0 ≤ O2) = R) := by show _ = _; rw [← HF.out, decide_eq_true g1]; rfl
     go_wp2_with fail
     go_ret
     exact ⟨by rw [← HF2.out]; rfl, hbw3⟩
    ·have HF2 : Hid (R = false) := by show _ = _; rw [← HF.out, decide_eq_false g1]; rfl
     go_wp2_with fail
     go_ret
     exact ⟨by rw [HF2.out]; rfl, hbw3⟩
   have HF : Hid (R = false) := by
    show _ = _
    rw [← HRO2.out, if_neg o_select, if_neg (by simp [o_insert, o_update, o_delete])]
   have o1 : (op == [115, 101, 108, 101, 99, 116]) = false := by rw [beq_eq_false_iff_ne]; exact o_select
   have o2 : (op == [105, 110, 115, 101, 114, 116]) = false := by rw [beq_eq_false_iff_ne]; exact o_insert
   have o3 : (op == [117, 112, 100, 97, 116, 101]) = false := by rw [beq_eq_false_iff_ne]; exact o_update
   have o4 : (op == [100, 101, 108, 101, 116, 101]) = false := by rw [beq_eq_false_iff_ne]; exact o_delete
   have p1 : ¬ op = [115, 101, 108, 101, 99, 116] := o_select
   have p2 : ¬ op = [105, 110, 115, 101, 114, 116] := o_insert
   have p3 : ¬ op = [117, 112, 100, 97, 116, 101] := o_update
   have p4 : ¬ op = [100, 101, 108, 101, 116, 101] := o_delete
   clear HRO2 HM1 HM2 HP1 HP2 HSH HQ HCK o_select o_insert o_update o_delete
   go_wp2_with fail
   go_ret
   exact ⟨by rw [HF.out]; rfl, hbw3⟩
 ·have e1 : (C != 0) = true := by simpa using hc0
  have HF : Hid (R = false) := by show _ = _; rw [← HRO.out]; unfold mayG; rw [HC.out, if_neg hc0]
  clear HRO HP1 HP2 HM1 HM2 HCK HC HQ
  go_wp2_with fail
  go_ret
  exact ⟨by rw [HF.out]; rfl, HBW.out _ hb1⟩
end Go.Proofs.YtchilcchogcibaaGreatDoor
namespace Go.Proofs.YtchilcchogcibaaGreatDoor
open Go.RowKit
attribute [local go_sem] ByteArray.extract_mk ba_get ba_append
attribute [local go_sem ↓] Go.wp_at_zero Go.wp_at_succ run_eql_G
theorem rnameG_any (s : List UInt8) (w : World) (hs : s.length ≤ 1000000) : Calls Tryz.prog 47 #[.string ⟨s.toArray⟩] w (Ret (.bool (nameG s)) w) := by
 have HN := Lib.hid (rname_any s w hs)
 have HRV := Lib.hid (rreserved_any s)
 obtain ⟨R, hR⟩ : ∃ R, nameG s = R := ⟨_, rfl⟩
 rw [hR]
 unfold nameG nameB at hR
 obtain ⟨b, hb⟩ : ∃ b, runB 16 letB partB s = b := ⟨_, rfl⟩
 obtain ⟨r, hr⟩ : ∃ r, reserved s = r := ⟨_, rfl⟩
 rw [hb, hr] at hR
 rw [hb] at HN
 rw [hr] at HRV
 have HF := Lib.hid hR
 clear hb hr hR
 go_enter Tryz.func47, Tryz.ntmps47
 cases b
 ·go_wp2_with fail
  refine HN.out.mono ?_
  rintro en w1 ⟨rfl, rfl⟩
  go_wp2_with fail
  go_ret
  exact ⟨by rw [← HF.out]; rfl, Below.refl _ _⟩
 ·go_wp2_with fail
  refine HN.out.mono ?_
  rintro en w1 ⟨rfl, rfl⟩
  go_wp2_with fail
  refine (HRV.out _).mono ?_
  rintro en w1 ⟨rfl, hb1⟩
  go_wp2_with fail
  go_ret
  exact ⟨by rw [← HF.out]; cases r <;> rfl, hb1⟩
set_option maxRecDepth 100000 in
set_option maxHeartbeats 4000000 in
theorem ahead_any (a b : Gr) (w : World) : Calls Tryz.prog 48 #[.agg #[.string ⟨a.r.toArray⟩, .string ⟨a.t.toArray⟩, .bool a.w], .agg #[.string ⟨b.r.toArray⟩, .string ⟨b.t.toArray⟩, .bool b.w]] w (Ret (.bool (glt a b)) w) := by
 obtain ⟨r, t, u⟩ := a
 obtain ⟨r', t', u'⟩ := b
 obtain ⟨R, hR⟩ : ∃ R, glt ⟨r, t, u⟩ ⟨r', t', u'⟩ = R := ⟨_, rfl⟩
 rw [hR]
 have HR : Hid ((if r = r' then (if t = t' then !u && u' else Op.bytesLess t t') else Op.bytesLess r r') = R) := hR
 clear hR
 dsimp only
 by_cases h1 : r = r'
 ·subst h1
  by_cases h2 : t = t'
  ·subst h2
   have HF : Hid ((!u && u') = R) := by have := HR.out; rw [if_pos rfl, if_pos rfl] at this; exact this
   clear HR
   cases u <;> cases u'
   all_goals
    go_enter Tryz.func48, Tryz.ntmps48
    go_wp2_with fail
    go_ret
    exact ⟨by rw [← HF.out]; rfl, by exact bl⟩
  ·have HF : Hid (Op.bytesLess t t' = R) := by have := HR.out; rw [if_pos rfl, if_neg h2] at this; exact this
   have e2 : (t == t') = false := by simpa using h2
   clear HR
   go_enter Tryz.func48, Tryz.ntmps48
   go_wp2_with fail
   go_ret
   exact ⟨by rw [← HF.out]; rfl, by exact bl⟩
 ·have HF : Hid (Op.bytesLess r r' = R) := by have := HR.out; rw [if_neg h1] at this; exact this
  have e1 : (r == r') = false := by simpa using h1
  clear HR
  go_enter Tryz.func48, Tryz.ntmps48
  go_wp2_with fail
  go_ret
  exact ⟨by rw [← HF.out]; rfl, by exact bl⟩
set_option maxRecDepth 100000 in
set_option maxHeartbeats 4000000 in
theorem has_any (A : Option Addr) (c : Nat) (l : List Gr) (y : Gr) (w : World) (hl : l.length ≤ 1000000) (h : GQ l A (Old w.heap.size) w) :
  Calls Tryz.prog 43 #[.slice A l.length c, .agg #[.string ⟨y.r.toArray⟩, .string ⟨y.t.toArray⟩, .bool y.w]] w (Ret (.bool (decide (y ∈ l))) w) := by
 obtain ⟨N, hN⟩ : ∃ N, l.length = N := ⟨_, rfl⟩
 have HL := Lib.hid hN
 obtain ⟨w0, hw0⟩ : ∃ w0, w.alloc (.cells #[.string ⟨y.r.toArray⟩, .string ⟨y.t.toArray⟩, .bool y.w] 54) = w0 := ⟨_, rfl⟩
 have kg : Blk w0 w.heap.size 54 #[.string ⟨y.r.toArray⟩, .string ⟨y.t.toArray⟩, .bool y.w] := by rw [← hw0]; exact Blk.new _ _ _
 have hb0 : Below w.heap.size w w0 := by rw [← hw0]; exact bl
 have hz0 := hb0.size
 have HQ : Hid (∀ Z : World, Below w0.heap.size w0 Z → GQ l A (Old w.heap.size) Z) := fun Z hz => h.keep fun b hb => ⟨hb, fun o => (hb0.trans (hz.mono hz0)).cell (p := ⟨b, o, none⟩) hb⟩
 have HBW : Hid (∀ Z : World, Below w0.heap.size w0 Z → Below w.heap.size w Z) := fun Z hz => hb0.trans (hz.mono hz0)
 have HK := Lib.hid kg
 have HW := Lib.hid hw0
 obtain ⟨R, hR⟩ : ∃ R, decide (y ∈ l) = R := ⟨_, rfl⟩
 rw [hR]
 have HR := Lib.hid hR
 rw [hN] at hl ⊢
 clear hN hw0 kg h hb0 hR
 go_enter Tryz.func43, Tryz.ntmps43
 go_upto_region 1 with fail
 rw [HW.out]
 clear HW
 go_wp2_with fail
 go_loopw [5] (fun i wr => ∃ j : Nat, j ≤ N ∧ i = .int .i64 j ∧ Hid (y ∉ l.take j) ∧ Below w0.heap.size w0 wr) (fun i _ => N - (intOf i).toNat)
 case atStart => exact ⟨0, by omega, rfl, by show _ ∉ _; simp, Below.refl _ _⟩
 case round =>
  obtain ⟨j, hj, rfl, HJ, hbw⟩ := hrel
  obtain ⟨W, rfl⟩ : ∃ W, W = wr := ⟨_, rfl⟩
  have hzw := hbw.size
  by_cases hlt : j < N
  ·obtain ⟨b, off, x, rfl, hbB, hv, c0, c1, c2⟩ := (HQ.out _ hbw).at_ (j := j) (by rw [HL.out]; exact hlt)
   have lb : b < w.heap.size := hbB
   have kw := HK.out.below hbw HK.out.lt
   have lk := kw.lt
   have HSH : Hid (∀ Z : World, Below W.heap.size W Z → (Z.cell? ⟨b, off + j * 3, none⟩ = some (.string ⟨x.r.toArray⟩) ∧ Z.cell? ⟨b, off + j * 3 + 1, none⟩ = some (.string ⟨x.t.toArray⟩) ∧ Z.cell? ⟨b, off + j * 3 + 2, none⟩ = some (.bool x.w)) ∧ Z.cell? ⟨w.heap.size, 0, none⟩ = some (.string ⟨y.r.toArray⟩) ∧ Z.cell? ⟨w.heap.size, 1, none⟩ = some (.string ⟨y.t.toArray⟩) ∧ Z.cell? ⟨w.heap.size, 2, none⟩ = some (.bool y.w)) := fun Z hz => by
    have hc : ∀ o, Z.cell? ⟨b, o, none⟩ = W.cell? ⟨b, o, none⟩ := fun o => hz.cell (p := ⟨b, o, none⟩) (show b < _ by omega)
    have kz := kw.below hz lk
    exact ⟨⟨(hc _).trans c0, (hc _).trans c1, (hc _).trans c2⟩, kz.cell 0, kz.cell 1, kz.cell 2⟩
   have HE : Hid (eqG x y = decide (x = y)) := eqG_iff x y
   have HM := Lib.hid (List.mem_of_getElem? hv)
   have HT : Hid (l.take (j + 1) = l.take j ++ [x]) := by show _ = _; rw [List.take_add_one, hv]; rfl
   have g10 : (0 : Int) ≤ (j : Int) := by omega
   have g11 : (j : Int) < (N : Int) := by omega
   clear hv c0 c1 c2 kw
   go_wp2_with fail
   refine wp_region_held_drew (S := (fun Z => (Z.cell? ⟨b, off + j * 3, none⟩ = some (.string ⟨x.r.toArray⟩) ∧ Z.cell? ⟨b, off + j * 3 + 1, none⟩ = some (.string ⟨x.t.toArray⟩) ∧ Z.cell? ⟨b, off + j * 3 + 2, none⟩ = some (.bool x.w)) ∧ Z.cell? ⟨w.heap.size, 0, none⟩ = some (.string ⟨y.r.toArray⟩) ∧ Z.cell? ⟨w.heap.size, 1, none⟩ = some (.string ⟨y.t.toArray⟩) ∧ Z.cell? ⟨w.heap.size, 2, none⟩ = some (.bool y.w))) (by kernel_rfl) ?_ (fun hHeld => ?_)
   ·try dsimp only
    exact HSH.out _ (by exact bl)
   refine tS [0, 1, 2, 3, 4, 5] ?_
   iterate 6 (refine tC ?_; refine ap ?_)
   refine tN ?_
   refine wpAnyH_done (by kernel_rfl) ?_ _
   have hbd : Below w0.heap.size w0 W.drew := hbw.trans ((show Below W.heap.size W W.drew by exact bl).mono hzw)
   have HBD := Lib.hid hbd
   clear hbd
   obtain ⟨E, hE⟩ : ∃ E, eqG ⟨x.r, x.t, x.w⟩ ⟨y.r, y.t, y.w⟩ = E := ⟨_, rfl⟩
   rw [hE]
   have HE2 : Hid (E = decide (x = y)) := by show _ = _; rw [← hE]; exact HE.out
   clear hE HE
   cases E with
   | true =>
    have he : x = y := by have := HE2.out; simpa using this
    have HF : Hid (R = true) := by show _ = _; rw [← HR.out]; exact decide_eq_true (he ▸ HM.out)
    clear HE2 HR HT HM HJ he
    go_wp2_with fail
    go_ret
    exact ⟨by rw [HF.out]; rfl, HBW.out _ HBD.out⟩
   | false =>
    have he : ¬ x = y := by have := HE2.out; simpa using this
    have HF : Hid (y ∉ l.take (j + 1)) := by
     show _ ∉ _
     rw [HT.out]
     simp only [List.mem_append, List.mem_singleton, not_or]
     exact ⟨HJ.out, fun h => he h.symm⟩
    clear HE2 HT HM HJ he
    go_wp2_with fail
    go_roundw
    case rel => exact ⟨j + 1, by omega, by go_num, HF, HBD.out⟩
    case measure => simp [intOf]; omega
  ·obtain rfl : j = N := by omega
   have HF : Hid (R = false) := by
    show _ = _
    have := HJ.out
    rw [← HL.out, List.take_length] at this
    rw [← HR.out]
    exact decide_eq_false this
   have g11 : ¬ (j : Int) < (j : Int) := by omega
   clear HJ hlt
   go_wp2_with fail
   go_ret
   exact ⟨by rw [HF.out]; rfl, HBW.out _ hbw⟩
end Go.Proofs.YtchilcchogcibaaGreatDoor
