/- The parts that a statement's Op names, and whether two statements are the same, in plain words; The document's names, and no condition; The document's reader. -/
import Derived.Test.YtchilcchogcibaaGreatDoorDStJ
set_option maxRecDepth 100000
set_option maxHeartbeats 2000000
namespace Go.Proofs.YtchilcchogcibaaGreatDoor
open Go.RowKit
def stZ (op tb : List UInt8) : St := ⟨op, tb, [], [], [], [], [], [], ex0, [], [], ex0, []⟩
def ownS (s : St) : St :=
 if s.op = oCreate then ⟨s.op, s.tb, [], [], s.cols, s.key, s.uniq, s.refs, s.chk, [], [], ex0, []⟩
 else if s.op = oInsert then ⟨s.op, s.tb, [], [], [], [], [], [], ex0, s.row, [], ex0, []⟩
 else if s.op = oUpdate then ⟨s.op, s.tb, [], [], [], [], [], [], ex0, [], s.sets, s.whr, []⟩
 else if s.op = oDelete ∨ s.op = oSelect then ⟨s.op, s.tb, [], [], [], [], [], [], ex0, [], [], s.whr, []⟩
 else if s.op = oRead ∨ s.op = oWrite ∨ s.op = oUnread ∨ s.op = oUnwrite then ⟨s.op, s.tb, [], [], [], [], [], [], ex0, [], [], ex0, s.role⟩
 else if s.op = oCopy ∨ s.op = oGroup then ⟨s.op, s.tb, s.ot, s.names, [], [], [], [], s.chk, [], [], ex0, []⟩
 else if s.op = oJoin then ⟨s.op, s.tb, s.ot, [], [], s.key, [], [], s.chk, [], [], ex0, s.role⟩
 else stZ s.op s.tb
def slZ : Sl := ⟨none, 0⟩
def stPZ : StP := ⟨slZ, slZ, slZ, slZ, slZ, slZ, slZ, slZ⟩
def ownP (s : St) (p : StP) : StP :=
 if s.op = oCreate then ⟨slZ, p.cols, p.uniq, p.refs, p.chk, slZ, slZ, slZ⟩
 else if s.op = oInsert then ⟨slZ, slZ, slZ, slZ, slZ, p.row, slZ, slZ⟩
 else if s.op = oUpdate then ⟨slZ, slZ, slZ, slZ, slZ, slZ, p.sets, p.whr⟩
 else if s.op = oDelete ∨ s.op = oSelect then ⟨slZ, slZ, slZ, slZ, slZ, slZ, slZ, p.whr⟩
 else if s.op = oRead ∨ s.op = oWrite ∨ s.op = oUnread ∨ s.op = oUnwrite then stPZ
 else if s.op = oCopy ∨ s.op = oGroup then ⟨p.names, slZ, slZ, slZ, p.chk, slZ, slZ, slZ⟩
 else if s.op = oJoin then ⟨slZ, slZ, slZ, slZ, p.chk, slZ, slZ, slZ⟩
 else stPZ
def okD (s : St) : Bool :=
 if s.op = oCreate then creS s
 else if s.op = oDrop then true
 else if s.op = oInsert then manyB s.row 1 12 (fun v => mayB v.k v.i v.s)
 else if s.op = oUpdate then manyB s.sets 1 8 setOkB && perhapsE s.whr
 else if s.op = oDelete ∨ s.op = oSelect then perhapsE s.whr
 else if s.op = oRead ∨ s.op = oWrite ∨ s.op = oUnread ∨ s.op = oUnwrite then nameG s.role
 else if s.op = oCopy then nameG s.ot && manyB s.names 1 8 nameG && perhapsE s.chk
 else if s.op = oJoin then nameG s.ot && nameG s.key && nameG s.role && perhapsE s.chk
 else if s.op = oGroup then nameG s.ot && manyB s.names 2 2 nameG && perhapsE s.chk
 else false
def listB {α : Type} (q : α → α → Bool) (a b : List α) : Bool := decide (a.length = b.length) && (a.zip b).all fun p => q p.1 p.2
def colEq (a b : Col) : Bool := a.n == b.n && (decide (a.t = b.t) && a.b == b.b)
def rfB (a b : Rf) : Bool := a.c == b.c && a.t == b.t
def seB (n : Nat) (a b : Se) : Bool := a.n == b.n && sameE n a.e b.e
def sameS (n : Nat) (a b : St) : Bool :=
 (a.op == b.op) && (a.tb == b.tb) && (a.ot == b.ot) && (a.key == b.key) && (a.role == b.role) && sameE n a.chk b.chk && sameE n a.whr b.whr &&
 listB (fun x y => x == y) a.names b.names && listB colEq a.cols b.cols && listB (fun x y => x == y) a.uniq b.uniq && listB rfB a.refs b.refs && listB veq a.row b.row && listB (seB n) a.sets b.sets
theorem listB_self {α : Type} {q : α → α → Bool} (hq : ∀ x, q x x = true) (l : List α) : listB q l l = true := by
 unfold listB
 simp only [decide_true, Bool.true_and, List.all_eq_true]
 intro p hp
 have : p.1 = p.2 := by
  obtain ⟨i, hi, rfl⟩ := List.getElem_of_mem hp
  simp
 rw [this]; exact hq p.2
theorem listB_nil {α : Type} {q : α → α → Bool} (l : List α) : listB q [] l = l.isEmpty := by cases l <;> simp [listB]
theorem veq_comm (a b : V) : veq a b = veq b a := by
 unfold veq
 rw [Bool.eq_iff_iff]
 simp only [Bool.and_eq_true, decide_eq_true_eq, beq_iff_eq]
 constructor <;> (rintro ⟨h1, h2, h3⟩; exact ⟨h1.symm, h2.symm, h3.symm⟩)
theorem sameE_ex0 (n : Nat) (e : Ex) : sameE n ex0 e = noneE e := by
 obtain ⟨op, v, s, l⟩ := e
 rw [sameE_eq]
 show (([] : List UInt8) == op && (veq V.zero v && (([] : List UInt8) == s && (decide (([] : List Ex).length = l.length) && partsB n (([] : List Ex).zip l))))) = (op.isEmpty && veq v V.zero && s.isEmpty && l.isEmpty)
 rw [veq_comm V.zero v, List.zip_nil_left, partsB_nil]
 generalize veq v V.zero = z
 cases op <;> cases s <;> cases l <;> cases z <;> rfl
theorem veq_self (v : V) : veq v v = true := by simp [veq]
theorem isEmpty_app (a b : List UInt8) : (a ++ b).isEmpty = (a.isEmpty && b.isEmpty) := by cases a <;> rfl
theorem emptyS_iff (s : St) : emptyS s = (s.tb.isEmpty && s.ot.isEmpty && s.key.isEmpty && s.role.isEmpty && s.names.isEmpty && s.cols.isEmpty && s.uniq.isEmpty && s.refs.isEmpty && s.row.isEmpty && s.sets.isEmpty && noneE s.chk && noneE s.whr) := by
 have e1 : decide (s.names.length + s.cols.length + s.uniq.length + s.refs.length + s.row.length + s.sets.length = 0) = (s.names.isEmpty && (s.cols.isEmpty && (s.uniq.isEmpty && (s.refs.isEmpty && (s.row.isEmpty && s.sets.isEmpty))))) := by
  rw [Bool.eq_iff_iff]
  simp only [decide_eq_true_eq, Bool.and_eq_true, List.isEmpty_iff_length_eq_zero]
  omega
 unfold emptyS
 rw [e1, isEmpty_app, isEmpty_app, isEmpty_app]
 simp only [Bool.and_assoc]
structure Flags where
 ot : Bool
 names : Bool
 cols : Bool
 key : Bool
 uniq : Bool
 refs : Bool
 chk : Bool
 row : Bool
 sets : Bool
 whr : Bool
 role : Bool
def keepS (f : Flags) (s : St) : St := ⟨s.op, s.tb, cond f.ot s.ot [], cond f.names s.names [], cond f.cols s.cols [], cond f.key s.key [], cond f.uniq s.uniq [], cond f.refs s.refs [], cond f.chk s.chk ex0, cond f.row s.row [], cond f.sets s.sets [], cond f.whr s.whr ex0, cond f.role s.role []⟩
def dropS (f : Flags) (s : St) : St := ⟨s.op, [], cond f.ot [] s.ot, cond f.names [] s.names, cond f.cols [] s.cols, cond f.key [] s.key, cond f.uniq [] s.uniq, cond f.refs [] s.refs, cond f.chk exZero s.chk, cond f.row [] s.row, cond f.sets [] s.sets, cond f.whr exZero s.whr, cond f.role [] s.role⟩
theorem keep_text (b : Bool) (t : List UInt8) : (cond b t [] == t) = (b || t.isEmpty) := by cases b <;> cases t <;> simp
theorem keep_list {α : Type} {q : α → α → Bool} (hq : ∀ x, q x x = true) (b : Bool) (l : List α) : listB q (cond b l []) l = (b || l.isEmpty) := by
 cases b
 ·exact listB_nil l
 ·exact listB_self hq l
theorem keep_ex (n : Nat) (b : Bool) (e : Ex) : sameE n (cond b e ex0) e = (b || noneE e) := by
 cases b
 ·exact sameE_ex0 n e
 ·exact sameE_self n e
theorem drop_list {α : Type} (b : Bool) (l : List α) : (cond b [] l).isEmpty = (b || l.isEmpty) := by cases b <;> rfl
theorem drop_ex (b : Bool) (e : Ex) : noneE (cond b exZero e) = (b || noneE e) := by
 cases b
 ·rfl
 ·show noneE exZero = true; decide
theorem keep_drop (n : Nat) (f : Flags) (s : St) : sameS n (keepS f s) s = emptyS (dropS f s) := by
 rw [emptyS_iff]
 unfold sameS keepS dropS
 dsimp only
 rw [keep_text, keep_text, keep_text, keep_ex, keep_ex, keep_list (fun x => by simp), keep_list (fun x => by simp [colEq]), keep_list (fun x => by simp), keep_list (fun x => by simp [rfB]), keep_list veq_self, keep_list (fun x => by simp [seB, sameE_self]),
  drop_list, drop_list, drop_list, drop_list, drop_list, drop_list, drop_list, drop_list, drop_list, drop_ex, drop_ex]
 simp only [beq_self_eq_true, Bool.true_and, List.isEmpty_nil]
 ac_rfl
theorem fin4 (a b : Bool) (n : Nat) (f : Flags) (s : St) : (b && a && emptyS (dropS f s)) = (a && (b && sameS n (keepS f s) s)) := by
 rw [keep_drop]
 cases a <;> cases b <;> rfl
theorem parts_D (n : Nat) (s : St) : partsS s = (okD s && (nameG s.tb && sameS n (ownS s) s)) := by
 unfold partsS okD ownS
 by_cases o1 : s.op = oCreate
 ·simp only [if_pos o1]
  exact fin4 _ _ n ⟨false, false, true, true, true, true, true, false, false, false, false⟩ s
 simp only [if_neg o1]
 by_cases o2 : s.op = oDrop
 ·have : ¬ s.op = oInsert ∧ ¬ s.op = oUpdate ∧ ¬ s.op = oDelete ∧ ¬ s.op = oSelect ∧ ¬ s.op = oRead ∧ ¬ s.op = oWrite ∧ ¬ s.op = oUnread ∧ ¬ s.op = oUnwrite ∧ ¬ s.op = oCopy ∧ ¬ s.op = oJoin ∧ ¬ s.op = oGroup := by rw [o2]; decide
  obtain ⟨m1, m2, m3, m4, m5, m6, m7, m8, m9, m10, m11⟩ := this
  simp only [if_pos o2]
  rw [if_neg m1, if_neg m2, if_neg (by simp [m3, m4]), if_neg (by simp [m5, m6, m7, m8]), if_neg (by simp [m9, m11]), if_neg m10]
  exact congrArg (fun z => nameG s.tb && z) (keep_drop n ⟨false, false, false, false, false, false, false, false, false, false, false⟩ s).symm
 simp only [if_neg o2]
 by_cases o3 : s.op = oInsert
 ·simp only [if_pos o3]
  exact fin4 _ _ n ⟨false, false, false, false, false, false, false, true, false, false, false⟩ s
 simp only [if_neg o3]
 by_cases o4 : s.op = oUpdate
 ·simp only [if_pos o4]
  rw [Bool.and_assoc (nameG s.tb)]
  exact fin4 _ _ n ⟨false, false, false, false, false, false, false, false, true, true, false⟩ s
 simp only [if_neg o4]
 by_cases o5 : s.op = oDelete ∨ s.op = oSelect
 ·simp only [if_pos o5]
  exact fin4 _ _ n ⟨false, false, false, false, false, false, false, false, false, true, false⟩ s
 simp only [if_neg o5]
 by_cases o6 : s.op = oRead ∨ s.op = oWrite ∨ s.op = oUnread ∨ s.op = oUnwrite
 ·simp only [if_pos o6]
  exact fin4 _ _ n ⟨false, false, false, false, false, false, false, false, false, false, true⟩ s
 simp only [if_neg o6]
 by_cases o7 : s.op = oCopy
 ·simp only [if_pos o7, if_pos (Or.inl o7 : s.op = oCopy ∨ s.op = oGroup)]
  rw [Bool.and_assoc (nameG s.tb), Bool.and_assoc (nameG s.tb)]
  exact fin4 _ _ n ⟨true, true, false, false, false, false, true, false, false, false, false⟩ s
 simp only [if_neg o7]
 by_cases o8 : s.op = oJoin
 ·have o9 : ¬ (s.op = oCopy ∨ s.op = oGroup) := by rw [o8]; decide
  simp only [if_pos o8, if_neg o9]
  rw [Bool.and_assoc (nameG s.tb), Bool.and_assoc (nameG s.tb), Bool.and_assoc (nameG s.tb)]
  exact fin4 _ _ n ⟨true, false, false, true, false, false, true, false, false, false, true⟩ s
 simp only [if_neg o8]
 by_cases o9 : s.op = oGroup
 ·simp only [if_pos o9, if_pos (Or.inr o9 : s.op = oCopy ∨ s.op = oGroup)]
  rw [Bool.and_assoc (nameG s.tb), Bool.and_assoc (nameG s.tb)]
  exact fin4 _ _ n ⟨true, true, false, false, false, false, true, false, false, false, false⟩ s
 simp only [if_neg o9, Bool.false_and]
end Go.Proofs.YtchilcchogcibaaGreatDoor
namespace Go.Proofs.YtchilcchogcibaaGreatDoor
open Go.RowKit
attribute [local go_sem] ByteArray.extract_mk ba_get ba_append
attribute [local go_sem ↓] Go.wp_at_zero Go.wp_at_succ
theorem joinL_snoc (sep : List UInt8) : ∀ (l : List (List UInt8)) (x : List UInt8), l ≠ [] → joinL sep (l ++ [x]) = joinL sep l ++ sep ++ x
 | [], _, h => absurd rfl h
 | [a], x, _ => by simp [joinL]
 | a :: b :: r, x, _ => by
  have := joinL_snoc sep (b :: r) x (by simp)
  simp only [List.cons_append, joinL] at this ⊢
  rw [this]
  simp
def namesD (l : List (List UInt8)) : List UInt8 × Bool := if l.all nameG then (joinL comma l, decide (1 ≤ l.length) && decide (l.length ≤ 8)) else ([], false)
theorem rnames_any (l : List (List UInt8)) (A : Option Addr) (c : Nat) (w : World) (hl : l.length ≤ 1000) (hn : ∀ x ∈ l, x.length ≤ 1000) (h : SQ l A (Old w.heap.size) w) :
  Calls Tryz.prog 114 #[.slice A l.length c] w (Ret (.tuple #[.string ⟨(namesD l).1.toArray⟩, .bool (namesD l).2]) w) := by
 obtain ⟨R, hR⟩ : ∃ R, namesD l = R := ⟨_, rfl⟩
 rw [hR]
 have HR := Lib.hid hR
 clear hR
 go_in
 go_wp2
 go_loopg [4, 5] l.length (fun g t i wr => ∃ (j : Nat) (T : List UInt8), j + g = l.length ∧ t = .string ⟨T.toArray⟩ ∧ i = .int .i64 j ∧ T.length ≤ j * 1010 ∧ Hid (T = joinL comma (l.take j)) ∧ Hid ((l.take j).all nameG = true) ∧ Below w.heap.size w wr)
 case atStart => exact ⟨0, [], by omega, rfl, rfl, by simp, by show _ = _; rfl, by show _ = _; rfl, Below.refl _ _⟩
 case round =>
  obtain ⟨j, T, hj, rfl, rfl, hT, HT, HA, hb⟩ := hrel
  have hz := hb.size
  by_cases hlt : j < l.length
  ·obtain ⟨b, off, x, hA, hq, hx, c0⟩ := (h.keep (old_keep hb hz)).at_ hlt
   subst hA
   have hxl := hn x (List.mem_of_getElem? hx)
   have ht1 : l.take (j + 1) = l.take j ++ [x] := by rw [List.take_add_one, hx]; rfl
   have hqb : b < wr.heap.size := hq
   obtain ⟨g', rfl⟩ : ∃ g', gk = g' + 1 := ⟨gk - 1, by omega⟩
   obtain ⟨N, hN⟩ : ∃ N, nameG x = N := ⟨_, rfl⟩
   have HNm : Hid (Calls Tryz.prog 47 #[.string ⟨x.toArray⟩] wr (Ret (.bool N) wr)) := by rw [← hN]; exact rnameG_any x wr (by omega)
   cases N with
   | false =>
    have HRF : Hid (R = ([], false)) := by
     show _ = _
     rw [← HR.out]
     unfold namesD
     rw [if_neg]
     intro ha
     have := List.all_eq_true.1 ha x (List.mem_of_getElem? hx)
     rw [hN] at this; cases this
    clear hN HR HT HA ht1
    go_wp2_with (go_at_call 47; refine HNm.out.mono ?_; rintro e w1 ⟨rfl, hb1⟩)
    refine bodyPost_ret (v := .tuple #[.string ⟨#[]⟩, .bool false]) (by simp [results, Tryz.results114, go_sem, *]) rfl ?_
    rw [HRF.out]
    exact ⟨rfl, hb.trans (hb1.mono hz)⟩
   | true =>
    have HA2 : Hid ((l.take (j + 1)).all nameG = true) := by show _ = _; rw [ht1, List.all_append, HA.out]; simp [hN]
    rcases Nat.eq_zero_or_pos j with h0 | h0
    ·have HT2 : Hid (T ++ x = joinL comma (l.take (j + 1))) := by
      show _ = _
      rw [ht1, HT.out, h0]
      rfl
     have p0 : ¬ (0 : Int) < (j : Int) := by omega
     have hlen : (T ++ x).length ≤ (j + 1) * 1010 := by simp; omega
     have HL := Lib.hid hlen
     have H0 := Lib.hid h0
     clear hN HA ht1 HT hlen h0
     go_wp2_with (go_at_call 47; refine HNm.out.mono ?_; rintro e w1 ⟨rfl, hb1⟩; have c1 := (bcell hb1).1 b (off + j) hqb; rw [c0] at c1)
     go_roundg g'
     case measure => omega
     case rel => exact ⟨j + 1, T ++ x, by omega, by simp, by go_num, HL.out, HT2, HA2, hb.trans (hb1.mono hz)⟩
    ·have HT2 : Hid (T ++ comma ++ x = joinL comma (l.take (j + 1))) := by
      show _ = _
      rw [ht1, joinL_snoc _ _ _ (by intro e; have e2 := congrArg List.length e; rw [List.length_take, Nat.min_eq_left (by omega)] at e2; simp at e2; omega), ← HT.out]
     have hlen : (T ++ comma ++ x).length ≤ (j + 1) * 1010 := by simp [comma]; omega
     have HL := Lib.hid hlen
     clear hN HA ht1 HT hlen
     go_wp2_with (go_at_call 47; refine HNm.out.mono ?_; rintro e w1 ⟨rfl, hb1⟩; have c1 := (bcell hb1).1 b (off + j) hqb; rw [c0] at c1)
     go_roundg g'
     case measure => omega
     case rel => exact ⟨j + 1, T ++ comma ++ x, by omega, by simp [comma], by go_num, HL.out, HT2, HA2, hb.trans (hb1.mono hz)⟩
  ·have HR2 : Hid (R = (T, decide (1 ≤ l.length) && decide (l.length ≤ 8))) := by
    have e : l.take j = l := List.take_of_length_le (by omega)
    show _ = _
    rw [← HR.out, HT.out, e]
    have ha := HA.out
    rw [e] at ha
    unfold namesD
    rw [if_pos ha]
   clear HR HT HA
   by_cases h1 : 1 ≤ l.length
   ·by_cases h8 : l.length ≤ 8
    ·have p1 : (1 : Int) ≤ l.length := by omega
     have p8 : (l.length : Int) ≤ 8 := by omega
     go_wp2_with fail
     refine bodyPost_ret (v := .tuple #[.string ⟨T.toArray⟩, .bool true]) (by simp [results, Tryz.results114, go_sem, *]) rfl ?_
     rw [HR2.out]
     exact ⟨by simp [h1, h8], hb⟩
    ·have p1 : (1 : Int) ≤ l.length := by omega
     have p8 : ¬ (l.length : Int) ≤ 8 := by omega
     go_wp2_with fail
     refine bodyPost_ret (v := .tuple #[.string ⟨T.toArray⟩, .bool false]) (by simp [results, Tryz.results114, go_sem, *]) rfl ?_
     rw [HR2.out]
     exact ⟨by simp [h8], hb⟩
   ·have p1 : ¬ (1 : Int) ≤ l.length := by omega
    go_wp2_with fail
    refine bodyPost_ret (v := .tuple #[.string ⟨T.toArray⟩, .bool false]) (by simp [results, Tryz.results114, go_sem, *]) rfl ?_
    rw [HR2.out]
    exact ⟨by simp [h1], hb⟩
def rnameT (l : List Tok) (a : Nat) : Option (List UInt8) := match l[a]? with | none => none | some t => if t.k = 1 ∧ reserved t.s = false then some t.s else none
theorem rdname_any (l : List Tok) (A : Option Addr) (c a g : Nat) (ok : Bool) (w : World) (ha : a ≤ 1000) (h : RdS g A c l a ok w) :
  Calls Tryz.prog 123 #[.pointer (some ⟨g, 0, none⟩)] w (RetRd (.returned (.string ⟨((rnameT l a).getD []).toArray⟩)) g A c l (if (rnameT l a).isSome then a + 1 else a) (ok && (rnameT l a).isSome) w) := by
 have HP := Lib.hid h
 have lg := Blk.lt h.1
 by_cases hlt : a < l.length
 ·obtain ⟨b1, o1, t, rfl, hbB, hv, c0, c1⟩ := h.2.at_ hlt
  have i1 : (0 : Int) ≤ (a : Int) := by omega
  have i2 : (a : Int) < (l.length : Int) := by omega
  have HSH : Hid (∀ w' : World, Below w.heap.size w w' → (w'.cell? ⟨g, 0, none⟩ = some (.slice (some ⟨b1, o1, none⟩) l.length c) ∧ w'.cell? ⟨g, 1, none⟩ = some (.int .i64 (a : Nat)) ∧ w'.cell? ⟨b1, o1 + a * 2, none⟩ = some (.int .i64 t.k) ∧ w'.cell? ⟨b1, o1 + a * 2 + 1, none⟩ = some (.string ⟨t.s.toArray⟩))) :=
   fun w' hb => ⟨(Blk.below h.1 hb lg).cell 0, (Blk.below h.1 hb lg).cell 1, (hb.cell (p := ⟨b1, o1 + a * 2, none⟩) (show b1 < _ by omega)).trans c0, (hb.cell (p := ⟨b1, o1 + a * 2 + 1, none⟩) (show b1 < _ by omega)).trans c1⟩
  have hT : rnameT l a = if t.k = 1 ∧ reserved t.s = false then some t.s else none := by unfold rnameT; rw [hv]
  obtain ⟨O, hO⟩ : ∃ O, rnameT l a = O := ⟨_, rfl⟩
  rw [hO] at hT ⊢
  obtain ⟨N, hN⟩ : ∃ N, O.getD [] = N := ⟨_, rfl⟩
  obtain ⟨X, hX⟩ : ∃ X, (if O.isSome then a + 1 else a) = X := ⟨_, rfl⟩
  obtain ⟨K, hK⟩ : ∃ K, (ok && O.isSome) = K := ⟨_, rfl⟩
  rw [hN, hX, hK]
  have HT := Lib.hid hT
  have HN := Lib.hid hN
  have HX := Lib.hid hX
  have HK2 := Lib.hid hK
  clear hT hO hN hX hK
  by_cases hk : t.k = 1
  ·have e1 : (t.k == 1) = true := by simpa using hk
   obtain ⟨B, hB⟩ : ∃ B, reserved t.s = B := ⟨_, rfl⟩
   have HB := Lib.hid hB
   have HK := Lib.hid hk
   have HV := Lib.hid hv
   clear hB c0 c1 h hk hv
   go_in
   go_upto_region 1 with fail
   refine rgn HSH fun hHeld => ?_
   refine tS [0, 1, 2, 3, 4, 5, 6, 7, 8, 9, 10, 11, 12, 13, 14, 15, 16, 17, 18, 19, 20, 21, 22, 23, 24, 25, 26, 27, 28, 29, 30, 31, 32, 33, 34, 35] ?_
   iterate 36 (refine tC ?_; refine ap ?_)
   refine tN ?_
   refine rdy 36 fun K hK => ?_
   go_simp
   refine (rreserved_any t.s _).mono ?_ <;> rw [HB.out] <;> rintro en w5 ⟨rfl, hb5⟩ <;> have hz5 := hb5.size <;> have hb15 : Below w.heap.size w w5 := (Below.drew (Below.refl _ w)).trans hb5
   go_wp2_with fail
   refine hK.out _ _ (HSH.out _ (by exact bl)) fun hHeld => ?_
   clear hK K
   refine ap ?_
   refine tS [37, 38] ?_
   iterate 2 (refine tC ?_; refine ap ?_)
   refine tN ?_
   refine wpAnyH_done (by kernel_rfl) ?_ _
   have hP5 := HP.out.but hb15
   obtain ⟨d0, d1, d2, d3⟩ := HSH.out w5 hb15
   obtain ⟨⟨x0, x1, x2⟩, y0, y1, y2⟩ := Blk.three hP5.1
   cases B
   ·have hO : O = some t.s := by rw [HT.out, HB.out, HK.out]; rfl
    have hN : N = t.s := by rw [← HN.out, hO]; rfl
    have hX : X = a + 1 := by rw [← HX.out, hO]; rfl
    have hK : K = ok := by rw [← HK2.out, hO]; exact Bool.and_true _
    subst hN hX hK
    clear hO
    have c1 : (w5.setCell ⟨g, 1, none⟩ (.int .i64 (a + 1 : Nat))).cell? ⟨b1, o1 + a * 2 + 1, none⟩ = some (.string ⟨t.s.toArray⟩) := (World.cell?_setCell_other _ _ _ _ (fun e => by have := congrArg Addr.block e; simp at this; omega)).trans d3
    go_wp2_with fail
    go_quiet (fail)
    all_goals go_wp2_with fail
    all_goals go_ret
    all_goals exact ⟨rfl, hP5.set (a + 1), ((But.of_below hb15).set 1 (.int .i64 (a + 1 : Nat))).after (bwN bwR)⟩
   ·have hO : O = none := by rw [HT.out, HB.out]; simp
    have hN : N = [] := by rw [← HN.out, hO]; rfl
    have hX : X = a := by rw [← HX.out, hO]; rfl
    have hK : K = false := by rw [← HK2.out, hO]; exact Bool.and_false _
    subst hN hX hK
    clear hO
    go_wp2_with fail
    go_ret
    exact ⟨rfl, hP5.bad, (But.of_below hb15).set 2 _⟩
  ·have e1 : (t.k == 1) = false := by simpa using hk
   have hO : O = none := by rw [HT.out, if_neg (fun e => hk e.1)]
   have hN : N = [] := by rw [← HN.out, hO]; rfl
   have hX : X = a := by rw [← HX.out, hO]; rfl
   have hK : K = false := by rw [← HK2.out, hO]; exact Bool.and_false _
   subst hN hX hK
   clear hO hk
   have hP5 := HP.out
   obtain ⟨⟨x0, x1, x2⟩, y0, y1, y2⟩ := Blk.three hP5.1
   go_in
   go_wp2_with fail
   go_quiet (fail)
   all_goals go_wp2_with fail
   all_goals go_ret
   all_goals exact ⟨rfl, (hP5.but (bwN bwR)).bad, ((But.refl _ w).after (bwN bwR)).set 2 (.bool false)⟩
 ·have hO : rnameT l a = none := by unfold rnameT; rw [List.getElem?_eq_none (by omega)]
  have i2 : ¬ (a : Int) < (l.length : Int) := by omega
  rw [hO]
  rw [show (ok && (none : Option (List UInt8)).isSome) = false from Bool.and_false _, show (if (none : Option (List UInt8)).isSome then a + 1 else a) = a from rfl, show ((none : Option (List UInt8)).getD []) = [] from rfl]
  clear hO
  have hP5 := HP.out
  obtain ⟨⟨x0, x1, x2⟩, y0, y1, y2⟩ := Blk.three hP5.1
  go_in
  go_wp2_with fail
  go_quiet (fail)
  all_goals go_wp2_with fail
  all_goals go_ret
  all_goals exact ⟨rfl, (hP5.but (bwN bwR)).bad, ((But.refl _ w).after (bwN bwR)).set 2 (.bool false)⟩
end Go.Proofs.YtchilcchogcibaaGreatDoor
