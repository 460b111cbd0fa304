/- grant.May as a plain function; The document's Name, ahead and has as plain functions; The document's names, and no condition; The document's reader. -/
import Derived.Test.YtchilcchogcibaaGreatDoorSBytes
import Derived.Test.YtchilcchogcibaaGreatDoorSEnvL
import Derived.Test.YtchilcchogcibaaGreatDoorSGr1
import Derived.Test.YtchilcchogcibaaGreatDoorSR5Law
import Derived.Test.YtchilcchogcibaaGreatDoorSRd1
import Derived.Test.YtchilcchogcibaaGreatDoorSStI
namespace Go.Proofs.YtchilcchogcibaaGreatDoor
open Go.RowKit
attribute [local go_sem] ByteArray.extract_mk ba_get ba_append
attribute [local go_sem ↓] Go.wp_at_zero Go.wp_at_succ
/-- May a role do a statement of that Op on that table? -/
def mayG (l : List Gr) (role op tb : List UInt8) : Bool :=
 if chkG l = 0 then
  if role = adminT then true
  else if op = oSelect then decide (⟨role, tb, false⟩ ∈ l)
  else if op = oInsert ∨ op = oUpdate ∨ op = oDelete then decide (⟨role, tb, false⟩ ∈ l) && decide (⟨role, tb, true⟩ ∈ l)
  else false
 else false
set_option maxRecDepth 100000 in
set_option maxHeartbeats 8000000 in
theorem mayG_any (A : Option Addr) (c : Nat) (l : List Gr) (role : List UInt8) (s : St) (p : StP) (w : World) (hl : l.length ≤ 1000000) (hn : ∀ g ∈ l, g.r.length ≤ 1000000 ∧ g.t.length ≤ 1000000) (h : GQ l A (Old w.heap.size) w) :
  Calls Tryz.prog 18 #[.slice A l.length c, .string ⟨role.toArray⟩, .agg (s.cells p).toArray] w (Ret (.bool (mayG l role s.op s.tb)) w) := by
 have HQ : Hid (∀ Z : World, Below w.heap.size w Z → GQ l A (Old Z.heap.size) Z) := fun Z hz => h.keep (old_keep hz hz.size)
 have HN := Lib.hid hn
 obtain ⟨R, hR⟩ : ∃ R, mayG l role s.op s.tb = R := ⟨_, rfl⟩
 rw [hR]
 have HR := Lib.hid hR
 obtain ⟨C, hC⟩ : ∃ C, chkG l = C := ⟨_, rfl⟩
 have HCK : Hid (∀ Z : World, Below w.heap.size w Z → Calls Tryz.prog 20 #[.slice A l.length c] Z (Ret (.int .i64 C) Z)) := fun Z hz => by
  have := checkG_any A c l Z hl hn (HQ.out Z hz)
  rw [hC] at this
  exact this
 obtain ⟨O1, hO1⟩ : ∃ O, firstP (fun x => decide (x = (⟨role, s.tb, false⟩ : Gr))) l 0 = O := ⟨_, rfl⟩
 obtain ⟨O2, hO2⟩ : ∃ O, firstP (fun x => decide (x = (⟨role, s.tb, true⟩ : Gr))) l 0 = O := ⟨_, rfl⟩
 have HP1 : Hid (∀ Z : World, Below w.heap.size w Z → Calls Tryz.prog 37 #[.slice A l.length c, .agg #[.string ⟨role.toArray⟩, .string ⟨s.tb.toArray⟩, .bool false]] Z (Ret (.int .i64 O1) Z)) := fun Z hz => by
  have := place_any A c l ⟨role, s.tb, false⟩ Z hl (HQ.out Z hz)
  rw [hO1] at this
  exact this
 have HP2 : Hid (∀ Z : World, Below w.heap.size w Z → Calls Tryz.prog 37 #[.slice A l.length c, .agg #[.string ⟨role.toArray⟩, .string ⟨s.tb.toArray⟩, .bool true]] Z (Ret (.int .i64 O2) Z)) := fun Z hz => by
  have := place_any A c l ⟨role, s.tb, true⟩ Z hl (HQ.out Z hz)
  rw [hO2] at this
  exact this
 have HM1 : Hid (decide (0 ≤ O1) = decide (⟨role, s.tb, false⟩ ∈ l)) := by show _ = _; rw [← hO1]; exact firstP_mem l _
 have HM2 : Hid (decide (0 ≤ O2) = decide (⟨role, s.tb, true⟩ ∈ l)) := by show _ = _; rw [← hO2]; exact firstP_mem l _
 have HC := Lib.hid hC
 obtain ⟨w0, hw0⟩ : ∃ w0, w.alloc (.cells (s.cells p).toArray 34) = w0 := ⟨_, rfl⟩
 have ks : Blk w0 w.heap.size 34 (s.cells p).toArray := by rw [← hw0]; exact Blk.new _ _ _
 have hb0 : Below w.heap.size w w0 := by rw [← hw0]; exact bl
 have HSH : Hid (∀ Z : World, Below w0.heap.size w0 Z → Z.cell? ⟨w.heap.size, 0, none⟩ = some (.string ⟨s.op.toArray⟩) ∧ Z.cell? ⟨w.heap.size, 1, none⟩ = some (.string ⟨s.tb.toArray⟩)) := fun Z hz => by
  have k := ks.below hz ks.lt
  exact ⟨k.cell 0, k.cell 1⟩
 dsimp only [St.cells] at hw0
 have HW := Lib.hid hw0
 have hz0 := hb0.size
 have HBW : Hid (∀ Z : World, Below w0.heap.size w0 Z → Below w.heap.size w Z) := fun Z hz => hb0.trans (hz.mono hz0)
 obtain ⟨op, hop⟩ : ∃ o, s.op = o := ⟨_, rfl⟩
 have HRO : Hid (mayG l role op s.tb = R) := by rw [← hop]; exact hR
 rw [hop] at HSH
 clear h hn hR hC hO1 hO2 hw0 ks hb0 hop HR
 dsimp only [St.cells]
 go_enter Tryz.func18, Tryz.ntmps18
 go_upto_region 1 with fail
 rw [show w.alloc _ = w0 from HW.out]
 clear HW
 go_wp2_with fail
 refine (HCK.out w0 (HBW.out _ (Below.refl _ _))).mono ?_
 rintro en w1 ⟨rfl, hb1⟩
 by_cases hc0 : C = 0
 ·subst hc0
  by_cases hra : role = adminT
  ·have e4 : role = [97, 100, 109, 105, 110] := hra
   have HF : Hid (R = true) := by show _ = _; rw [← HRO.out]; unfold mayG; rw [HC.out, if_pos rfl, if_pos hra]
   clear HRO HP1 HP2 HM1 HM2 hra HCK HSH HC HQ
   subst e4
   go_wp2_with fail
   go_ret
   exact ⟨by rw [HF.out]; rfl, HBW.out _ hb1⟩
  ·have e4 : ¬ role = [97, 100, 109, 105, 110] := hra
   have e5 : (role == [97, 100, 109, 105, 110]) = false := by simpa using e4
   have HRO2 : Hid ((if op = oSelect then decide (⟨role, s.tb, false⟩ ∈ l) else if op = oInsert ∨ op = oUpdate ∨ op = oDelete then decide (⟨role, s.tb, false⟩ ∈ l) && decide (⟨role, s.tb, true⟩ ∈ l) else false) = R) := by
    have := HRO.out
    unfold mayG at this
    rw [HC.out, if_pos rfl, if_neg hra] at this
    exact this
   clear HRO hra HC
   obtain ⟨q0, q1⟩ := HSH.out w1 hb1
   go_wp2_with fail
   refine (HP1.out w1 (HBW.out _ hb1)).mono ?_
   rintro en w2 ⟨rfl, hb2⟩
   have hb02 : Below w0.heap.size w0 w2 := hb1.trans (hb2.mono hb1.size)
   clear q0 q1
   obtain ⟨q0, q1⟩ := HSH.out w2 hb02
   go_wp2_with fail
   refine (HP2.out w2 (HBW.out _ hb02)).mono ?_
   rintro en w3 ⟨rfl, hb3⟩
   have hb03 : Below w0.heap.size w0 w3 := hb02.trans (hb3.mono hb02.size)
   clear q0 q1
   obtain ⟨q0, q1⟩ := HSH.out w3 hb03
   have hbw3 := HBW.out _ hb03
   by_cases o_select : op = oSelect
   ·have HF : Hid (decide (0 ≤ O1) = R) := by show _ = _; rw [HM1.out, ← HRO2.out, if_pos o_select]
    have o' : op = [115, 101, 108, 101, 99, 116] := o_select
    clear HRO2 HM1 HM2 HP1 HP2 HSH HQ HCK o_select
    subst o'
    go_wp2_with fail
    go_ret
    exact ⟨by rw [← HF.out]; rfl, hbw3⟩
   by_cases o_insert : op = oInsert
   ·have HF : Hid ((decide (0 ≤ O1) && decide (0 ≤ O2)) = R) := by
     show _ = _
     rw [HM1.out, HM2.out, ← HRO2.out, if_neg o_select, if_pos (by simp [o_insert])]
    have o' : op = [105, 110, 115, 101, 114, 116] := o_insert
    clear o_select HRO2 HM1 HM2 HP1 HP2 HSH HQ HCK o_insert
    subst o'
    by_cases g1 : (0 : Int) ≤ O1
    ·have HF2 : Hid (decide (0 ≤ O2) = R) := by show _ = _; rw [← HF.out, decide_eq_true g1]; rfl
     go_wp2_with fail
     go_ret
     exact ⟨by rw [← HF2.out]; rfl, hbw3⟩
    ·have HF2 : Hid (R = false) := by show _ = _; rw [← HF.out, decide_eq_false g1]; rfl
     go_wp2_with fail
     go_ret
     exact ⟨by rw [HF2.out]; rfl, hbw3⟩
   by_cases o_update : op = oUpdate
   ·have HF : Hid ((decide (0 ≤ O1) && decide (0 ≤ O2)) = R) := by
     show _ = _
     rw [HM1.out, HM2.out, ← HRO2.out, if_neg o_select, if_pos (by simp [o_update])]
    have o' : op = [117, 112, 100, 97, 116, 101] := o_update
    clear o_select o_insert HRO2 HM1 HM2 HP1 HP2 HSH HQ HCK o_update
    subst o'
    by_cases g1 : (0 : Int) ≤ O1
    ·have HF2 : Hid (decide (0 ≤ O2) = R) := by show _ = _; rw [← HF.out, decide_eq_true g1]; rfl
     go_wp2_with fail
     go_ret
     exact ⟨by rw [← HF2.out]; rfl, hbw3⟩
    ·have HF2 : Hid (R = false) := by show _ = _; rw [← HF.out, decide_eq_false g1]; rfl
     go_wp2_with fail
     go_ret
     exact ⟨by rw [HF2.out]; rfl, hbw3⟩
   by_cases o_delete : op = oDelete
   ·have HF : Hid ((decide (0 ≤ O1) && decide (0 ≤ O2)) = R) := by
     show _ = _
     rw [HM1.out, HM2.out, ← HRO2.out, if_neg o_select, if_pos (by simp [o_delete])]
    have o' : op = [100, 101, 108, 101, 116, 101] := o_delete
    clear o_select o_insert o_update HRO2 HM1 HM2 HP1 HP2 HSH HQ HCK o_delete
    subst o'
    by_cases g1 : (0 : Int) ≤ O1
    ·have HF2 : Hid (decide (0 ≤ O2) = R) := by show _ = _; rw [← HF.out, decide_eq_true g1]; rfl
     go_wp2_with fail
     go_ret
     exact ⟨by rw [← HF2.out]; rfl, hbw3⟩
    ·have HF2 : Hid (R = false) := by show _ = _; rw [← HF.out, decide_eq_false g1]; rfl
     go_wp2_with fail
     go_ret
     exact ⟨by rw [HF2.out]; rfl, hbw3⟩
   have HF : Hid (R = false) := by
    show _ = _
    rw [← HRO2.out, if_neg o_select, if_neg (by simp [o_insert, o_update, o_delete])]
   have o1 : (op == [115, 101, 108, 101, 99, 116]) = false := by rw [beq_eq_false_iff_ne]; exact o_select
   have o2 : (op == [105, 110, 115, 101, 114, 116]) = false := by rw [beq_eq_false_iff_ne]; exact o_insert
   have o3 : (op == [117, 112, 100, 97, 116, 101]) = false := by rw [beq_eq_false_iff_ne]; exact o_update
   have o4 : (op == [100, 101, 108, 101, 116, 101]) = false := by rw [beq_eq_false_iff_ne]; exact o_delete
   have p1 : ¬ op = [115, 101, 108, 101, 99, 116] := o_select
   have p2 : ¬ op = [105, 110, 115, 101, 114, 116] := o_insert
   have p3 : ¬ op = [117, 112, 100, 97, 116, 101] := o_update
   have p4 : ¬ op = [100, 101, 108, 101, 116, 101] := o_delete
   clear HRO2 HM1 HM2 HP1 HP2 HSH HQ HCK o_select o_insert o_update o_delete
   go_wp2_with fail
   go_ret
   exact ⟨by rw [HF.out]; rfl, hbw3⟩
 ·have e1 : (C != 0) = true := by simpa using hc0
  have HF : Hid (R = false) := by show _ = _; rw [← HRO.out]; unfold mayG; rw [HC.out, if_neg hc0]
  clear HRO HP1 HP2 HM1 HM2 HCK HC HQ
  go_wp2_with fail
  go_ret
  exact ⟨by rw [HF.out]; rfl, HBW.out _ hb1⟩
end Go.Proofs.YtchilcchogcibaaGreatDoor
namespace Go.Proofs.YtchilcchogcibaaGreatDoor
open Go.RowKit
attribute [local go_sem] ByteArray.extract_mk ba_get ba_append
attribute [local go_sem ↓] Go.wp_at_zero Go.wp_at_succ run_eql_G
theorem rnameG_any (s : List UInt8) (w : World) (hs : s.length ≤ 1000000) : Calls Tryz.prog 47 #[.string ⟨s.toArray⟩] w (Ret (.bool (nameG s)) w) := by
 have HN := Lib.hid (rname_any s w hs)
 have HRV := Lib.hid (rreserved_any s)
 obtain ⟨R, hR⟩ : ∃ R, nameG s = R := ⟨_, rfl⟩
 rw [hR]
 unfold nameG nameB at hR
 obtain ⟨b, hb⟩ : ∃ b, runB 16 letB partB s = b := ⟨_, rfl⟩
 obtain ⟨r, hr⟩ : ∃ r, reserved s = r := ⟨_, rfl⟩
 rw [hb, hr] at hR
 rw [hb] at HN
 rw [hr] at HRV
 have HF := Lib.hid hR
 clear hb hr hR
 go_enter Tryz.func47, Tryz.ntmps47
 cases b
 ·go_wp2_with fail
  refine HN.out.mono ?_
  rintro en w1 ⟨rfl, rfl⟩
  go_wp2_with fail
  go_ret
  exact ⟨by rw [← HF.out]; rfl, Below.refl _ _⟩
 ·go_wp2_with fail
  refine HN.out.mono ?_
  rintro en w1 ⟨rfl, rfl⟩
  go_wp2_with fail
  refine (HRV.out _).mono ?_
  rintro en w1 ⟨rfl, hb1⟩
  go_wp2_with fail
  go_ret
  exact ⟨by rw [← HF.out]; cases r <;> rfl, hb1⟩
end Go.Proofs.YtchilcchogcibaaGreatDoor
namespace Go.Proofs.YtchilcchogcibaaGreatDoor
open Go.RowKit
attribute [local go_sem] ByteArray.extract_mk ba_get ba_append
attribute [local go_sem ↓] Go.wp_at_zero Go.wp_at_succ
theorem joinL_snoc (sep : List UInt8) : ∀ (l : List (List UInt8)) (x : List UInt8), l ≠ [] → joinL sep (l ++ [x]) = joinL sep l ++ sep ++ x
 | [], _, h => absurd rfl h
 | [a], x, _ => by simp [joinL]
 | a :: b :: r, x, _ => by
  have := joinL_snoc sep (b :: r) x (by simp)
  simp only [List.cons_append, joinL] at this ⊢
  rw [this]
  simp
/-- The document's names with , between, and whether they may be. -/
def namesD (l : List (List UInt8)) : List UInt8 × Bool := if l.all nameG then (joinL comma l, decide (1 ≤ l.length) && decide (l.length ≤ 8)) else ([], false)
set_option maxRecDepth 100000 in
set_option maxHeartbeats 2000000 in
theorem rnames_any (l : List (List UInt8)) (A : Option Addr) (c : Nat) (w : World) (hl : l.length ≤ 1000) (hn : ∀ x ∈ l, x.length ≤ 1000) (h : SQ l A (Old w.heap.size) w) :
  Calls Tryz.prog 114 #[.slice A l.length c] w (Ret (.tuple #[.string ⟨(namesD l).1.toArray⟩, .bool (namesD l).2]) w) := by
 obtain ⟨R, hR⟩ : ∃ R, namesD l = R := ⟨_, rfl⟩
 rw [hR]
 have HR := Lib.hid hR
 clear hR
 go_enter Tryz.func114, Tryz.ntmps114
 go_wp2
 go_loopg [4, 5] l.length (fun g t i wr => ∃ (j : Nat) (T : List UInt8), j + g = l.length ∧ t = .string ⟨T.toArray⟩ ∧ i = .int .i64 j ∧ T.length ≤ j * 1010 ∧ Hid (T = joinL comma (l.take j)) ∧ Hid ((l.take j).all nameG = true) ∧ Below w.heap.size w wr)
 case atStart => exact ⟨0, [], by omega, rfl, rfl, by simp, by show _ = _; rfl, by show _ = _; rfl, Below.refl _ _⟩
 case round =>
  obtain ⟨j, T, hj, rfl, rfl, hT, HT, HA, hb⟩ := hrel
  have hz := hb.size
  by_cases hlt : j < l.length
  ·obtain ⟨b, off, x, hA, hq, hx, c0⟩ := (h.keep (old_keep hb hz)).at_ hlt
   subst hA
   have hxl := hn x (List.mem_of_getElem? hx)
   have ht1 : l.take (j + 1) = l.take j ++ [x] := by rw [List.take_add_one, hx]; rfl
   have hqb : b < wr.heap.size := hq
   obtain ⟨g', rfl⟩ : ∃ g', gk = g' + 1 := ⟨gk - 1, by omega⟩
   obtain ⟨N, hN⟩ : ∃ N, nameG x = N := ⟨_, rfl⟩
   have HNm : Hid (Calls Tryz.prog 47 #[.string ⟨x.toArray⟩] wr (Ret (.bool N) wr)) := by rw [← hN]; exact rnameG_any x wr (by omega)
   cases N with
   | false =>
    have HRF : Hid (R = ([], false)) := by
     show _ = _
     rw [← HR.out]
     unfold namesD
     rw [if_neg]
     intro ha
     have := List.all_eq_true.1 ha x (List.mem_of_getElem? hx)
     rw [hN] at this; cases this
    clear hN HR HT HA ht1
    go_wp2_with (go_at_call 47; refine HNm.out.mono ?_; rintro e w1 ⟨rfl, hb1⟩)
    refine bodyPost_ret (v := .tuple #[.string ⟨#[]⟩, .bool false]) (by simp [results, Tryz.results114, go_sem, *]) rfl ?_
    rw [HRF.out]
    exact ⟨rfl, hb.trans (hb1.mono hz)⟩
   | true =>
    have HA2 : Hid ((l.take (j + 1)).all nameG = true) := by show _ = _; rw [ht1, List.all_append, HA.out]; simp [hN]
    rcases Nat.eq_zero_or_pos j with h0 | h0
    ·have HT2 : Hid (T ++ x = joinL comma (l.take (j + 1))) := by
      show _ = _
      rw [ht1, HT.out, h0]
      rfl
     have p0 : ¬ (0 : Int) < (j : Int) := by omega
     have hlen : (T ++ x).length ≤ (j + 1) * 1010 := by simp; omega
     have HL := Lib.hid hlen
     have H0 := Lib.hid h0
     clear hN HA ht1 HT hlen h0
     go_wp2_with (go_at_call 47; refine HNm.out.mono ?_; rintro e w1 ⟨rfl, hb1⟩; have c1 := (bcell hb1).1 b (off + j) hqb; rw [c0] at c1)
     go_roundg g'
     case measure => omega
     case rel => exact ⟨j + 1, T ++ x, by omega, by simp, by go_num, HL.out, HT2, HA2, hb.trans (hb1.mono hz)⟩
    ·have HT2 : Hid (T ++ comma ++ x = joinL comma (l.take (j + 1))) := by
      show _ = _
      rw [ht1, joinL_snoc _ _ _ (by intro e; have e2 := congrArg List.length e; rw [List.length_take, Nat.min_eq_left (by omega)] at e2; simp at e2; omega), ← HT.out]
     have hlen : (T ++ comma ++ x).length ≤ (j + 1) * 1010 := by simp [comma]; omega
     have HL := Lib.hid hlen
     clear hN HA ht1 HT hlen
     go_wp2_with (go_at_call 47; refine HNm.out.mono ?_; rintro e w1 ⟨rfl, hb1⟩; have c1 := (bcell hb1).1 b (off + j) hqb; rw [c0] at c1)
     go_roundg g'
     case measure => omega
     case rel => exact ⟨j + 1, T ++ comma ++ x, by omega, by simp [comma], by go_num, HL.out, HT2, HA2, hb.trans (hb1.mono hz)⟩
  ·have HR2 : Hid (R = (T, decide (1 ≤ l.length) && decide (l.length ≤ 8))) := by
    have e : l.take j = l := List.take_of_length_le (by omega)
    show _ = _
    rw [← HR.out, HT.out, e]
    have ha := HA.out
    rw [e] at ha
    unfold namesD
    rw [if_pos ha]
   clear HR HT HA
   by_cases h1 : 1 ≤ l.length
   ·by_cases h8 : l.length ≤ 8
    ·have p1 : (1 : Int) ≤ l.length := by omega
     have p8 : (l.length : Int) ≤ 8 := by omega
     go_wp2_with fail
     refine bodyPost_ret (v := .tuple #[.string ⟨T.toArray⟩, .bool true]) (by simp [results, Tryz.results114, go_sem, *]) rfl ?_
     rw [HR2.out]
     exact ⟨by simp [h1, h8], hb⟩
    ·have p1 : (1 : Int) ≤ l.length := by omega
     have p8 : ¬ (l.length : Int) ≤ 8 := by omega
     go_wp2_with fail
     refine bodyPost_ret (v := .tuple #[.string ⟨T.toArray⟩, .bool false]) (by simp [results, Tryz.results114, go_sem, *]) rfl ?_
     rw [HR2.out]
     exact ⟨by simp [h8], hb⟩
   ·have p1 : ¬ (1 : Int) ≤ l.length := by omega
    go_wp2_with fail
    refine bodyPost_ret (v := .tuple #[.string ⟨T.toArray⟩, .bool false]) (by simp [results, Tryz.results114, go_sem, *]) rfl ?_
    rw [HR2.out]
    exact ⟨by simp [h1], hb⟩
/-- The name at a place. -/
def rnameT (l : List Tok) (a : Nat) : Option (List UInt8) := match l[a]? with | none => none | some t => if t.k = 1 ∧ reserved t.s = false then some t.s else none
set_option maxRecDepth 100000 in
set_option maxHeartbeats 2000000 in
theorem rdname_any (l : List Tok) (A : Option Addr) (c a g : Nat) (ok : Bool) (w : World) (ha : a ≤ 1000) (h : RdS g A c l a ok w) :
  Calls Tryz.prog 123 #[.pointer (some ⟨g, 0, none⟩)] w (RetRd (.returned (.string ⟨((rnameT l a).getD []).toArray⟩)) g A c l (if (rnameT l a).isSome then a + 1 else a) (ok && (rnameT l a).isSome) w) := by
 have HP := Lib.hid h
 have lg := Blk.lt h.1
 by_cases hlt : a < l.length
 ·obtain ⟨b1, o1, t, rfl, hbB, hv, c0, c1⟩ := h.2.at_ hlt
  have i1 : (0 : Int) ≤ (a : Int) := by omega
  have i2 : (a : Int) < (l.length : Int) := by omega
  have HSH : Hid (∀ w' : World, Below w.heap.size w w' → (w'.cell? ⟨g, 0, none⟩ = some (.slice (some ⟨b1, o1, none⟩) l.length c) ∧ w'.cell? ⟨g, 1, none⟩ = some (.int .i64 (a : Nat)) ∧ w'.cell? ⟨b1, o1 + a * 2, none⟩ = some (.int .i64 t.k) ∧ w'.cell? ⟨b1, o1 + a * 2 + 1, none⟩ = some (.string ⟨t.s.toArray⟩))) :=
   fun w' hb => ⟨(Blk.below h.1 hb lg).cell 0, (Blk.below h.1 hb lg).cell 1, (hb.cell (p := ⟨b1, o1 + a * 2, none⟩) (show b1 < _ by omega)).trans c0, (hb.cell (p := ⟨b1, o1 + a * 2 + 1, none⟩) (show b1 < _ by omega)).trans c1⟩
  have hT : rnameT l a = if t.k = 1 ∧ reserved t.s = false then some t.s else none := by unfold rnameT; rw [hv]
  obtain ⟨O, hO⟩ : ∃ O, rnameT l a = O := ⟨_, rfl⟩
  rw [hO] at hT ⊢
  obtain ⟨N, hN⟩ : ∃ N, O.getD [] = N := ⟨_, rfl⟩
  obtain ⟨X, hX⟩ : ∃ X, (if O.isSome then a + 1 else a) = X := ⟨_, rfl⟩
  obtain ⟨K, hK⟩ : ∃ K, (ok && O.isSome) = K := ⟨_, rfl⟩
  rw [hN, hX, hK]
  have HT := Lib.hid hT
  have HN := Lib.hid hN
  have HX := Lib.hid hX
  have HK2 := Lib.hid hK
  clear hT hO hN hX hK
  by_cases hk : t.k = 1
  ·have e1 : (t.k == 1) = true := by simpa using hk
   obtain ⟨B, hB⟩ : ∃ B, reserved t.s = B := ⟨_, rfl⟩
   have HB := Lib.hid hB
   have HK := Lib.hid hk
   have HV := Lib.hid hv
   clear hB c0 c1 h hk hv
   go_enter Tryz.func123, Tryz.ntmps123
   go_upto_region 1 with fail
   refine rgn HSH fun hHeld => ?_
   refine tS [0, 1, 2, 3, 4, 5, 6, 7, 8, 9, 10, 11, 12, 13, 14, 15, 16, 17, 18, 19, 20, 21, 22, 23, 24, 25, 26, 27, 28, 29, 30, 31, 32, 33, 34, 35] ?_
   iterate 36 (refine tC ?_; refine ap ?_)
   refine tN ?_
   refine rdy 36 fun K hK => ?_
   go_simp
   refine (rreserved_any t.s _).mono ?_ <;> rw [HB.out] <;> rintro en w5 ⟨rfl, hb5⟩ <;> have hz5 := hb5.size <;> have hb15 : Below w.heap.size w w5 := (Below.drew (Below.refl _ w)).trans hb5
   go_wp2_with fail
   refine hK.out _ _ (HSH.out _ (by exact bl)) fun hHeld => ?_
   clear hK K
   refine ap ?_
   refine tS [37, 38] ?_
   iterate 2 (refine tC ?_; refine ap ?_)
   refine tN ?_
   refine wpAnyH_done (by kernel_rfl) ?_ _
   have hP5 := HP.out.but hb15
   obtain ⟨d0, d1, d2, d3⟩ := HSH.out w5 hb15
   obtain ⟨⟨x0, x1, x2⟩, y0, y1, y2⟩ := Blk.three hP5.1
   cases B
   ·have hO : O = some t.s := by rw [HT.out, HB.out, HK.out]; rfl
    have hN : N = t.s := by rw [← HN.out, hO]; rfl
    have hX : X = a + 1 := by rw [← HX.out, hO]; rfl
    have hK : K = ok := by rw [← HK2.out, hO]; exact Bool.and_true _
    subst hN hX hK
    clear hO
    have c1 : (w5.setCell ⟨g, 1, none⟩ (.int .i64 (a + 1 : Nat))).cell? ⟨b1, o1 + a * 2 + 1, none⟩ = some (.string ⟨t.s.toArray⟩) := (World.cell?_setCell_other _ _ _ _ (fun e => by have := congrArg Addr.block e; simp at this; omega)).trans d3
    go_wp2_with fail
    go_quiet (fail)
    all_goals go_wp2_with fail
    all_goals go_ret
    all_goals exact ⟨rfl, hP5.set (a + 1), ((But.of_below hb15).set 1 (.int .i64 (a + 1 : Nat))).after (bwN bwR)⟩
   ·have hO : O = none := by rw [HT.out, HB.out]; simp
    have hN : N = [] := by rw [← HN.out, hO]; rfl
    have hX : X = a := by rw [← HX.out, hO]; rfl
    have hK : K = false := by rw [← HK2.out, hO]; exact Bool.and_false _
    subst hN hX hK
    clear hO
    go_wp2_with fail
    go_ret
    exact ⟨rfl, hP5.bad, (But.of_below hb15).set 2 _⟩
  ·have e1 : (t.k == 1) = false := by simpa using hk
   have hO : O = none := by rw [HT.out, if_neg (fun e => hk e.1)]
   have hN : N = [] := by rw [← HN.out, hO]; rfl
   have hX : X = a := by rw [← HX.out, hO]; rfl
   have hK : K = false := by rw [← HK2.out, hO]; exact Bool.and_false _
   subst hN hX hK
   clear hO hk
   have hP5 := HP.out
   obtain ⟨⟨x0, x1, x2⟩, y0, y1, y2⟩ := Blk.three hP5.1
   go_enter Tryz.func123, Tryz.ntmps123
   go_wp2_with fail
   go_quiet (fail)
   all_goals go_wp2_with fail
   all_goals go_ret
   all_goals exact ⟨rfl, (hP5.but (bwN bwR)).bad, ((But.refl _ w).after (bwN bwR)).set 2 (.bool false)⟩
 ·have hO : rnameT l a = none := by unfold rnameT; rw [List.getElem?_eq_none (by omega)]
  have i2 : ¬ (a : Int) < (l.length : Int) := by omega
  rw [hO]
  rw [show (ok && (none : Option (List UInt8)).isSome) = false from Bool.and_false _, show (if (none : Option (List UInt8)).isSome then a + 1 else a) = a from rfl, show ((none : Option (List UInt8)).getD []) = [] from rfl]
  clear hO
  have hP5 := HP.out
  obtain ⟨⟨x0, x1, x2⟩, y0, y1, y2⟩ := Blk.three hP5.1
  go_enter Tryz.func123, Tryz.ntmps123
  go_wp2_with fail
  go_quiet (fail)
  all_goals go_wp2_with fail
  all_goals go_ret
  all_goals exact ⟨rfl, (hP5.but (bwN bwR)).bad, ((But.refl _ w).after (bwN bwR)).set 2 (.bool false)⟩
end Go.Proofs.YtchilcchogcibaaGreatDoor
