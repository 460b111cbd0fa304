/- caddislaw09.text, caddislaw05.text and names; Statements, in plain words; Contracts of the library at this dump, as the kit's tool writes them in plain words (lay-plain); grant.name, stmt.name, cmp.Or of two, grant.order as plain functions. -/
import Derived.Shelf.Small.Strs
import Derived.Test.YtchilcchogcibaaGreatDoorDOpenSt
set_option maxRecDepth 100000
set_option maxHeartbeats 4000000
namespace Go.Proofs.YtchilcchogcibaaGreatDoor
open Go.RowKit
attribute [local go_sem] ByteArray.extract_mk ba_get ba_append
attribute [local go_sem ↓] Go.wp_at_zero Go.wp_at_succ
theorem text9_any (s : List UInt8) (w : World) : Calls Tryz.prog 13 #[.string ⟨s.toArray⟩] w (Ret (.string ⟨(s.take 20).toArray⟩) w) := by
 by_cases hk : s.length ≤ 20
 ·have HT : Hid (s.take 20 = s) := List.take_of_length_le hk
  rw [HT.out]
  go_in
  go_wp2_with fail
  go_ret
  exact ⟨rfl, Below.refl _ _⟩
 ·go_in
  go_wp2_with fail
  go_ret
  exact ⟨rfl, Below.refl _ _⟩
theorem text5_any (s : List UInt8) (w : World) : Calls Tryz.prog 31 #[.string ⟨s.toArray⟩] w (Ret (.string ⟨(s.take 20).toArray⟩) w) := by
 by_cases hk : s.length ≤ 20
 ·have HT : Hid (s.take 20 = s) := List.take_of_length_le hk
  rw [HT.out]
  go_in
  go_wp2_with fail
  go_ret
  exact ⟨rfl, Below.refl _ _⟩
 ·go_in
  go_wp2_with fail
  go_ret
  exact ⟨rfl, Below.refl _ _⟩
theorem infoS5 : (Tryz.prog.info? 9).map (fun i => (i.zero, i.size, i.bytes)) = some (some (.string ⟨#[]⟩), 1, 16) := by kernel_rfl
def strW (s : List UInt8) : Value := .string ⟨s.toArray⟩
theorem SQ.own {w : World} {base : Nat} {e : TypeId} {sv : Value} {n : Nat} {l : List (List UInt8)} (h : w.ownsRow base e 1 sv n (l.map strW)) :
  ∃ A c, sv = .slice A l.length c ∧ l.length ≤ c ∧ c ≤ maxLen ∧ SQ l A (fun b => base ≤ b ∧ b < w.heap.size) w := by
 have hn : l.length = n := by have := h.1; rw [List.length_map] at this; omega
 rcases h.2 with ⟨rfl, h0⟩ | ⟨g, cap, cur, rfl, hb, hg, hnc, hcm, hcs, htk⟩
 ·exact ⟨none, 0, by rw [hn, h0], by omega, Nat.zero_le _, fun hl => absurd hl (by omega)⟩
 ·refine ⟨some ⟨g, 0, none⟩, cap, by rw [hn], by omega, hcm, fun _ => ⟨g, 0, rfl, ⟨hb, (Array.getElem?_eq_some_iff.1 hg).1⟩, fun i v hv => ?_⟩⟩
  have := h.cells (g := g) rfl i (strW v) (by rw [List.getElem?_map, hv]; rfl)
  rw [add_mid] at this
  exact this
def fewS (l : List (List UInt8)) : List (List UInt8) := (l.take 10).map fun s => s.take 20
theorem fewS_snoc (l : List (List UInt8)) (j : Nat) (v : List UInt8) (h : l[j]? = some v) : ((l.take (j + 1)).map fun s => s.take 20) = ((l.take j).map fun s => s.take 20) ++ [v.take 20] := by
 rw [List.take_add_one, h]; simp
def RetStrs (l : List (List UInt8)) (w : World) (e : Ending) (w' : World) : Prop :=
 ∃ A c, e = .returned (.slice A l.length c) ∧ l.length ≤ c ∧ c ≤ maxLen ∧ SQ l A (fun b => w.heap.size ≤ b ∧ b < w'.heap.size) w' ∧ Below w.heap.size w w'
theorem names5_any (A : Option Addr) (c : Nat) (l : List (List UInt8)) (w : World) (hl : l.length ≤ maxLen) (h : SQ l A (Old w.heap.size) w) :
  Calls Tryz.prog 32 #[.slice A l.length c] w (RetStrs (fewS l) w) := by
 unfold maxLen at hl
 obtain ⟨i0, hi0, zi0, zi1, zi2⟩ := info_parts infoS5
 go_in
 go_wp2
 go_loopw [3, 4] (fun v i wr => ∃ j : Nat, j ≤ l.length ∧ j ≤ 10 ∧ i = .int .i64 j ∧ wr.ownsRow w.heap.size 9 1 v j (((l.take j).map fun s => s.take 20).map strW) ∧ Below w.heap.size w wr) (fun _ i _ => l.length - (intOf i).toNat)
 case atStart => exact ⟨0, by omega, by omega, rfl, World.ownsRow_nil _ _ _ _, Below.refl _ _⟩
 case round =>
  obtain ⟨j, hj1, hj2, rfl, hown, hbw⟩ := hrel
  have hzw := hbw.size
  by_cases hlt : j < l.length
  ·by_cases h14 : j < 10
   ·obtain ⟨b, off, x, hA, hbB, hx, c0⟩ := (h.keep (old_keep hbw hzw)).at_ hlt
    subst hA
    have HX := Lib.hid hx
    clear hx
    have HOW := Lib.hid hown
    have HLT := Lib.hid hown.lt
    clear hown
    have i1 : (0 : Int) ≤ (j : Int) := by omega
    have i2 : (j : Int) < (l.length : Int) := by omega
    obtain ⟨V, hV⟩ : ∃ V, x.take 20 = V := ⟨_, rfl⟩
    have HT : Hid (∀ Z : World, Calls Tryz.prog 31 #[.string ⟨x.toArray⟩] Z (Ret (.string ⟨V.toArray⟩) Z)) := fun Z => by rw [← hV]; exact text5_any x Z
    have HVV := Lib.hid hV
    clear hV
    go_wp2_with fail
    refine (HT.out _).mono ?_
    rintro en w1 ⟨rfl, hb1⟩
    have hz1 := hb1.size
    have HO1 := Lib.hid (own_below HOW.out hb1)
    have hc1 := hbw.trans (hb1.mono hzw)
    clear HOW
    go_wp2_with (at_builtin; refine wpList_append_own _ rfl _ _ 23 rfl w.heap.size 9 i0 _ 1 16 Tryz.underlying23 hi0 zi0 zi1 zi2 rfl (by decide) _ _ _ rfl (HO1.out.alloc _) ⟨w1.heap.size, 0, none⟩ 1 1 [.string ⟨V.toArray⟩] rfl rfl ?c1 ?c2 ?c3 ?c4 ?c5 ?_)
    case c1 => exact World.news_of_block (cs := #[.string ⟨V.toArray⟩]) (t := 9) (fr := (0, 0)) (Blk.new _ _ _)
    case c2 => exact fun u hu => by simp at hu; subst hu; rfl
    case c3 => unfold maxLen; omega
    case c4 => omega
    case c5 => simp; omega
    intro v' w2 hown2 hg2 _
    go_wp2
    go_roundw
    case rel =>
     refine ⟨j + 1, by omega, by omega, by go_num, ?_, ?_⟩
     ·rw [fewS_snoc l j x HX.out, List.map_append, HVV.out]
      simpa [strW] using hown2
     ·exact Below.grown (hc1.alloc (by omega) _) hg2 (by simp; omega) (fun k hk => (HLT.out k hk).1)
    case measure => simp [intOf]; omega
   ·go_wp2
    go_ret
    obtain ⟨A', c', rfl, hc1, hc2, hv⟩ := SQ.own hown
    have e : fewS l = (l.take j).map fun s => s.take 20 := by unfold fewS; rw [show j = 10 by omega]
    exact ⟨A', c', by rw [e]; rfl, by rw [e]; exact hc1, hc2, by rw [e]; exact hv, hbw⟩
  ·go_wp2
   go_ret
   obtain ⟨A', c', rfl, hc1, hc2, hv⟩ := SQ.own hown
   have e : fewS l = (l.take j).map fun s => s.take 20 := by unfold fewS; rw [List.take_of_length_le (i := 10) (by omega), List.take_of_length_le (by omega)]
   exact ⟨A', c', by rw [e]; rfl, by rw [e]; exact hc1, hc2, by rw [e]; exact hv, hbw⟩
end Go.Proofs.YtchilcchogcibaaGreatDoor
namespace Go.Proofs.YtchilcchogcibaaGreatDoor
open Go.RowKit
def nameG (s : List UInt8) : Bool := nameB s && !reserved s
def noneE (e : Ex) : Bool := e.op.isEmpty && veq e.v V.zero && e.s.isEmpty && e.l.isEmpty
def perhapsE (e : Ex) : Bool := noneE e || mayX e
def manyB {α : Type} (l : List α) (lo hi : Nat) (p : α → Bool) : Bool := decide (lo ≤ l.length) && decide (l.length ≤ hi) && l.all p
def colOkB (c : Col) : Bool := nameG c.n && decide (1 ≤ c.t) && decide (c.t ≤ 3)
def refOkB (r : Rf) : Bool := nameG r.c && nameG r.t
def setOkB (x : Se) : Bool := nameG x.n && mayX x.e
def emptyS (s : St) : Bool := (s.tb ++ s.ot ++ s.key ++ s.role).isEmpty && decide (s.names.length + s.cols.length + s.uniq.length + s.refs.length + s.row.length + s.sets.length = 0) && noneE s.chk && noneE s.whr
def creS (s : St) : Bool := manyB s.cols 1 8 colOkB && nameG s.key && manyB s.uniq 0 8 nameG && manyB s.refs 0 8 refOkB && perhapsE s.chk
def oCreate : List UInt8 := [99, 114, 101, 97, 116, 101]
def oDrop : List UInt8 := [100, 114, 111, 112]
def oInsert : List UInt8 := [105, 110, 115, 101, 114, 116]
def oUpdate : List UInt8 := [117, 112, 100, 97, 116, 101]
def oDelete : List UInt8 := [100, 101, 108, 101, 116, 101]
def oSelect : List UInt8 := [115, 101, 108, 101, 99, 116]
def oRead : List UInt8 := [114, 101, 97, 100]
def oWrite : List UInt8 := [119, 114, 105, 116, 101]
def oUnread : List UInt8 := [117, 110, 114, 101, 97, 100]
def oUnwrite : List UInt8 := [117, 110, 119, 114, 105, 116, 101]
def oCopy : List UInt8 := [99, 111, 112, 121]
def oJoin : List UInt8 := [106, 111, 105, 110]
def oGroup : List UInt8 := [103, 114, 111, 117, 112]
def partsS (s : St) : Bool :=
 if s.op = oCreate then nameG s.tb && creS s && emptyS { s with tb := [], cols := [], key := [], uniq := [], refs := [], chk := exZero }
 else if s.op = oDrop then nameG s.tb && emptyS { s with tb := [] }
 else if s.op = oInsert then nameG s.tb && manyB s.row 1 12 (fun v => mayB v.k v.i v.s) && emptyS { s with tb := [], row := [] }
 else if s.op = oUpdate then nameG s.tb && manyB s.sets 1 8 setOkB && perhapsE s.whr && emptyS { s with tb := [], sets := [], whr := exZero }
 else if s.op = oDelete ∨ s.op = oSelect then nameG s.tb && perhapsE s.whr && emptyS { s with tb := [], whr := exZero }
 else if s.op = oRead ∨ s.op = oWrite ∨ s.op = oUnread ∨ s.op = oUnwrite then nameG s.tb && nameG s.role && emptyS { s with tb := [], role := [] }
 else if s.op = oCopy then nameG s.tb && nameG s.ot && manyB s.names 1 8 nameG && perhapsE s.chk && emptyS { s with tb := [], ot := [], names := [], chk := exZero }
 else if s.op = oJoin then nameG s.tb && nameG s.ot && nameG s.key && nameG s.role && perhapsE s.chk && emptyS { s with tb := [], ot := [], key := [], role := [], chk := exZero }
 else if s.op = oGroup then nameG s.tb && nameG s.ot && manyB s.names 2 2 nameG && perhapsE s.chk && emptyS { s with tb := [], ot := [], names := [], chk := exZero }
 else false
def upperB (l : List UInt8) : List UInt8 := l.map fun c => if 97 ≤ c ∧ c ≤ 122 then c - 32 else c
def textN : Nat → Ex → List UInt8
 | 0, _ => []
 | n + 1, e =>
  if e.op = opLit then textF e.v.k e.v.i e.v.s
  else if e.op = opCol then e.s
  else if e.op = opNot then [40, 78, 79, 84, 32] ++ textN n (e.l.getD 0 exZero) ++ [41]
  else if e.op = opNull then [40] ++ textN n (e.l.getD 0 exZero) ++ [32, 73, 83, 32, 78, 85, 76, 76, 41]
  else [40] ++ textN n (e.l.getD 0 exZero) ++ [32] ++ upperB e.op ++ [32] ++ textN n (e.l.getD 1 exZero) ++ [41]
def textX (e : Ex) : List UInt8 := textN 13 e
def whereT (e : Ex) : List UInt8 := if noneE e then [] else [32, 87, 72, 69, 82, 69, 32] ++ textX e
def checkT (a : List UInt8) (e : Ex) : List UInt8 := if noneE e then [] else a ++ [67, 72, 69, 67, 75, 32, 40, 32] ++ textX e ++ [32, 41]
def joinL (sep : List UInt8) : List (List UInt8) → List UInt8
 | [] => []
 | [x] => x
 | x :: y :: r => x ++ sep ++ joinL sep (y :: r)
def comma : List UInt8 := [32, 44, 32]
def typeT (t : Int) : List UInt8 := if t = 1 then [73, 78, 84] else if t = 2 then [84, 69, 88, 84] else [66, 79, 79, 76]
def colT (c : Col) : List UInt8 := c.n ++ [32] ++ typeT c.t ++ (if c.b then [32, 78, 79, 84, 32, 78, 85, 76, 76] else [])
def setT (x : Se) : List UInt8 := x.n ++ [32, 61, 32] ++ textX x.e
def uniqT (l : List (List UInt8)) : List UInt8 := l.flatMap fun c => [32, 44, 32, 85, 78, 73, 81, 85, 69, 32, 40, 32] ++ c ++ [32, 41]
def refsT (l : List Rf) : List UInt8 := l.flatMap fun r => [32, 44, 32, 82, 69, 70, 69, 82, 69, 78, 67, 69, 83, 32, 40, 32] ++ r.c ++ [32, 41, 32] ++ r.t
def migT (s : St) : List UInt8 := [77, 73, 71, 82, 65, 84, 69, 32] ++ upperB s.op ++ [32] ++ s.tb ++ [32, 70, 82, 79, 77, 32] ++ s.ot
def textS (s : St) : List UInt8 :=
 if s.op = oCreate then [67, 82, 69, 65, 84, 69, 32, 84, 65, 66, 76, 69, 32] ++ s.tb ++ [32, 40, 32] ++ joinL comma (s.cols.map colT) ++ [32, 44, 32, 75, 69, 89, 32, 40, 32] ++ s.key ++ [32, 41] ++ uniqT s.uniq ++ refsT s.refs ++ checkT comma s.chk ++ [32, 41]
 else if s.op = oDrop then [68, 82, 79, 80, 32, 84, 65, 66, 76, 69, 32] ++ s.tb
 else if s.op = oInsert then [73, 78, 83, 69, 82, 84, 32, 73, 78, 84, 79, 32] ++ s.tb ++ [32, 86, 65, 76, 85, 69, 83, 32, 40, 32] ++ joinL comma (s.row.map fun v => textF v.k v.i v.s) ++ [32, 41]
 else if s.op = oUpdate then [85, 80, 68, 65, 84, 69, 32] ++ s.tb ++ [32, 83, 69, 84, 32] ++ joinL comma (s.sets.map setT) ++ whereT s.whr
 else if s.op = oDelete then [68, 69, 76, 69, 84, 69, 32, 70, 82, 79, 77, 32] ++ s.tb ++ whereT s.whr
 else if s.op = oSelect then [83, 69, 76, 69, 67, 84, 32, 42, 32, 70, 82, 79, 77, 32] ++ s.tb ++ whereT s.whr
 else if s.op = oRead ∨ s.op = oWrite then [71, 82, 65, 78, 84, 32] ++ upperB s.op ++ [32, 79, 78, 32] ++ s.tb ++ [32, 84, 79, 32] ++ s.role
 else if s.op = oUnread ∨ s.op = oUnwrite then [82, 69, 86, 79, 75, 69, 32] ++ upperB (s.op.drop 2) ++ [32, 79, 78, 32] ++ s.tb ++ [32, 70, 82, 79, 77, 32] ++ s.role
 else if s.op = oCopy then migT s ++ [32, 40, 32] ++ joinL comma s.names ++ [32, 41] ++ checkT [32] s.chk
 else if s.op = oJoin then migT s ++ [32, 44, 32] ++ s.role ++ [32, 79, 78, 32] ++ s.key ++ checkT [32] s.chk
 else migT s ++ [32, 66, 89, 32] ++ s.names.getD 0 [] ++ [32, 83, 85, 77, 32] ++ s.names.getD 1 [] ++ checkT [32] s.chk
def mayS (s : St) : Bool := partsS s && (cutT (textS s)).isSome
end Go.Proofs.YtchilcchogcibaaGreatDoor
namespace Go.Proofs
open Go.Shelf
def Tryz.lays106_ren : Go.Shelf.Ren := ⟨fun | 106 => 69 | 213 => 119 | 265 => 184 | n => n, fun | 9 => 9 | 3 => 3 | n => n, fun | n => n⟩
theorem Tryz.lays106 : Go.Proofs.Lays.n106 Tryz.prog Tryz.lays106_ren := {
 mixed := by kernel_rfl
 f106 := Tryz.func69.trans (congrArg some (by kernel_rfl))
 f213 := Tryz.func119.trans (congrArg some (by kernel_rfl))
 f265 := Tryz.func184.trans (congrArg some (by kernel_rfl))
 t3 := Tryz.underlying3
 a3 := Tryz.isAgg3
 z3 := Tryz.sizeOf3
 v3 := Tryz.zeroValue3
 t9 := Tryz.underlying9
 a9 := Tryz.isAgg9
 z9 := Tryz.sizeOf9
 v9 := Tryz.zeroValue9 }
open Go.RowKit in
theorem Tryz.strings_Compare (a b : ByteArray) (w : World) :
  Calls Tryz.prog 69 #[.string a, .string b] w fun e w' => e = .returned (.int .i64 (Lib.compareBytes a.data.toList b.data.toList)) ∧ w' = w := Any.strings_Compare Tryz.lays106 a b w
end Go.Proofs
namespace Go.Proofs.YtchilcchogcibaaGreatDoor
open Go.RowKit
attribute [local go_sem] ByteArray.extract_mk ba_get ba_append
attribute [local go_sem ↓] Go.wp_at_zero Go.wp_at_succ run_eql_V run_neq_V
theorem nameGr_any (s : List UInt8) (w : World) (hs : s.length ≤ 1000000) : Calls Tryz.prog 45 #[.string ⟨s.toArray⟩] w (Ret (.bool (nameG s)) w) := by
 obtain ⟨B, hB⟩ : ∃ B, nameB s = B := ⟨_, rfl⟩
 obtain ⟨R, hR⟩ : ∃ R, reserved s = R := ⟨_, rfl⟩
 have HN : Hid (nameG s = (B && !R)) := by show _ = _; unfold nameG; rw [hB, hR]
 have h1 := nameX_any s w hs
 rw [hB] at h1
 have H1 := Lib.hid h1
 have H2 : Hid (∀ Z : World, Calls Tryz.prog 67 #[.string ⟨s.toArray⟩] Z (RetB R Z)) := fun Z => by have := reserved_any s Z; rw [hR] at this; exact this
 rw [HN.out]
 clear h1 hB hR
 cases B
 ·go_in
  go_wp2_with fail
  refine H1.out.mono ?_
  rintro en w1 ⟨rfl, hb1⟩
  go_wp2_with fail
  go_ret
  exact ⟨rfl, hb1⟩
 ·go_in
  go_wp2_with fail
  refine H1.out.mono ?_
  rintro en w1 ⟨rfl, hb1⟩
  go_wp2_with fail
  refine (H2.out _).mono ?_
  rintro en w2 ⟨rfl, rfl⟩
  go_wp2_with fail
  go_ret
  exact ⟨by cases R <;> rfl, hb1⟩
theorem nameSt_any (s : List UInt8) (w : World) (hs : s.length ≤ 1000000) : Calls Tryz.prog 74 #[.string ⟨s.toArray⟩] w (Ret (.bool (nameG s)) w) := by
 obtain ⟨B, hB⟩ : ∃ B, nameB s = B := ⟨_, rfl⟩
 obtain ⟨R, hR⟩ : ∃ R, reserved s = R := ⟨_, rfl⟩
 have HN : Hid (nameG s = (B && !R)) := by show _ = _; unfold nameG; rw [hB, hR]
 have h1 := nameX_any s w hs
 rw [hB] at h1
 have H1 := Lib.hid h1
 have H2 : Hid (∀ Z : World, Calls Tryz.prog 67 #[.string ⟨s.toArray⟩] Z (RetB R Z)) := fun Z => by have := reserved_any s Z; rw [hR] at this; exact this
 rw [HN.out]
 clear h1 hB hR
 cases B
 ·go_in
  go_wp2_with fail
  refine H1.out.mono ?_
  rintro en w1 ⟨rfl, hb1⟩
  go_wp2_with fail
  go_ret
  exact ⟨rfl, hb1⟩
 ·go_in
  go_wp2_with fail
  refine H1.out.mono ?_
  rintro en w1 ⟨rfl, hb1⟩
  go_wp2_with fail
  refine (H2.out _).mono ?_
  rintro en w2 ⟨rfl, rfl⟩
  go_wp2_with fail
  go_ret
  exact ⟨by cases R <;> rfl, hb1⟩
theorem cmpB_eq : ∀ (a b : List UInt8), Lib.compareBytes a b = cmpG a b
 | [], [] => by simp [Lib.compareBytes, cmpG]
 | [], y :: b => by simp [Lib.compareBytes, cmpG, Op.bytesLess]
 | x :: a, [] => by simp [Lib.compareBytes, cmpG, Op.bytesLess]
 | x :: a, y :: b => by
  have ih := cmpB_eq a b
  have e1 : Lib.compareBytes (x :: a) (y :: b) = if x < y then -1 else if y < x then 1 else Lib.compareBytes a b := rfl
  rw [e1]
  rcases Nat.lt_trichotomy x.toNat y.toNat with h | h | h
  ·have h1 : x < y := by rw [UInt8.lt_iff_toNat_lt]; exact h
   have h4 : ¬ x = y := by rintro rfl; omega
   simp [cmpG, Op.bytesLess, h1, h4]
  ·obtain rfl : x = y := UInt8.toNat_inj.1 h
   have hn : ¬ x < x := by rw [UInt8.lt_iff_toNat_lt]; omega
   rw [if_neg hn, if_neg hn, ih]
   simp [cmpG, Op.bytesLess, hn]
  ·have h1 : y < x := by rw [UInt8.lt_iff_toNat_lt]; exact h
   have h2 : ¬ x < y := by rw [UInt8.lt_iff_toNat_lt]; omega
   have h4 : ¬ x = y := by rintro rfl; omega
   simp [cmpG, Op.bytesLess, h1, h2, h4]
def or2 (x y : Int) : Int := if x = 0 then y else x
theorem cmpOr2_any (g : Nat) (x y : Int) (w : World) (hx : w.cell? ⟨g, 0, none⟩ = some (.int .i64 x)) (hy : w.cell? ⟨g, 1, none⟩ = some (.int .i64 y)) :
  Calls Tryz.prog 68 #[.slice (some ⟨g, 0, none⟩) 2 2] w fun e w' => e = .returned (.int .i64 (or2 x y)) ∧ w = w' := by
 by_cases h1 : x = 0
 ·subst h1
  by_cases h2 : y = 0
  ·subst h2
   have e : or2 0 0 = 0 := rfl
   rw [e]
   clear e
   go_in
   go_wp2
   refine wp_loop_rounds 3 ?_
   iterate 3 (rw [rounds_succ]; go_wp2)
   go_ret
   exact ⟨rfl, rfl⟩
  ·have e : or2 0 y = y := by simp [or2]
   rw [e]
   have h3' : (y != 0) = true := by simp [h2]
   clear e h2
   go_in
   go_wp2
   refine wp_loop_rounds 2 ?_
   iterate 2 (rw [rounds_succ]; go_wp2)
   go_ret
   exact ⟨rfl, rfl⟩
 ·have e : or2 x y = x := by simp [or2, h1]
  rw [e]
  have h3' : (x != 0) = true := by simp [h1]
  clear e h1
  go_in
  go_wp2
  refine wp_loop_rounds 1 ?_
  rw [rounds_succ]
  go_wp2
  go_ret
  exact ⟨rfl, rfl⟩
theorem gord_or (a b : Gr) : gord a b = if or2 (cmpG a.r b.r) (cmpG a.t b.t) = 0 then (if a.w = b.w then 0 else if b.w then -1 else 1) else or2 (cmpG a.r b.r) (cmpG a.t b.t) := by
 unfold gord or2
 by_cases h1 : cmpG a.r b.r = 0 <;> by_cases h2 : cmpG a.t b.t = 0 <;> simp [h1, h2]
theorem order_any (a b : Gr) (w : World) : Calls Tryz.prog 46 #[.agg #[.string ⟨a.r.toArray⟩, .string ⟨a.t.toArray⟩, .bool a.w], .agg #[.string ⟨b.r.toArray⟩, .string ⟨b.t.toArray⟩, .bool b.w]] w (Ret (.int .i64 (gord a b)) w) := by
 obtain ⟨r, t, u⟩ := a
 obtain ⟨r', t', u'⟩ := b
 rw [gord_or]
 obtain ⟨C1, hC1⟩ : ∃ C, cmpG r r' = C := ⟨_, rfl⟩
 obtain ⟨C2, hC2⟩ : ∃ C, cmpG t t' = C := ⟨_, rfl⟩
 have HC1 : Hid (∀ Z : World, Calls Tryz.prog 69 #[.string ⟨r.toArray⟩, .string ⟨r'.toArray⟩] Z fun e w' => e = .returned (.int .i64 C1) ∧ w' = Z) := fun Z => by
  have := Tryz.strings_Compare ⟨r.toArray⟩ ⟨r'.toArray⟩ Z
  rw [show Lib.compareBytes r.toArray.toList r'.toArray.toList = C1 by rw [cmpB_eq]; exact hC1] at this
  exact this
 have HC2 : Hid (∀ Z : World, Calls Tryz.prog 69 #[.string ⟨t.toArray⟩, .string ⟨t'.toArray⟩] Z fun e w' => e = .returned (.int .i64 C2) ∧ w' = Z) := fun Z => by
  have := Tryz.strings_Compare ⟨t.toArray⟩ ⟨t'.toArray⟩ Z
  rw [show Lib.compareBytes t.toArray.toList t'.toArray.toList = C2 by rw [cmpB_eq]; exact hC2] at this
  exact this
 simp only [hC1, hC2]
 clear hC1 hC2
 obtain ⟨O, hO⟩ : ∃ O, or2 C1 C2 = O := ⟨_, rfl⟩
 rw [hO]
 have HO : Hid (∀ (Z : World) (g : Nat), Z.cell? ⟨g, 0, none⟩ = some (.int .i64 C1) → Z.cell? ⟨g, 1, none⟩ = some (.int .i64 C2) → Calls Tryz.prog 68 #[.slice (some ⟨g, 0, none⟩) 2 2] Z fun e w' => e = .returned (.int .i64 O) ∧ Z = w') := fun Z g h1 h2 => by
  have := cmpOr2_any g C1 C2 Z h1 h2
  rw [hO] at this
  exact this
 clear hO
 obtain ⟨R, hR⟩ : ∃ R : Int, (if O = 0 then (if u = u' then 0 else if u' then -1 else 1) else O) = R := ⟨_, rfl⟩
 rw [hR]
 have HR := Lib.hid hR
 clear hR
 obtain ⟨w0, hw0⟩ : ∃ w0, (w.alloc (.cells #[.string ⟨r.toArray⟩, .string ⟨t.toArray⟩, .bool u] 54)).alloc (.cells #[.string ⟨r'.toArray⟩, .string ⟨t'.toArray⟩, .bool u'] 54) = w0 := ⟨_, rfl⟩
 have ka : Blk w0 w.heap.size 54 #[.string ⟨r.toArray⟩, .string ⟨t.toArray⟩, .bool u] := by rw [← hw0]; exact (Blk.new _ _ _).alloc _
 have kb : Blk w0 (w.heap.size + 1) 54 #[.string ⟨r'.toArray⟩, .string ⟨t'.toArray⟩, .bool u'] := by rw [← hw0]; exact Blk.new' _ _ _ _ (by simp)
 have hb0 : Below w.heap.size w w0 := by rw [← hw0]; exact bl
 have HW := Lib.hid hw0
 have hz0 := hb0.size
 have HSH : Hid (∀ Z : World, Below w0.heap.size w0 Z → Z.cell? ⟨w.heap.size, 0, none⟩ = some (.string ⟨r.toArray⟩) ∧ Z.cell? ⟨w.heap.size, 1, none⟩ = some (.string ⟨t.toArray⟩) ∧ Z.cell? ⟨w.heap.size, 2, none⟩ = some (.bool u) ∧ Z.cell? ⟨w.heap.size + 1, 0, none⟩ = some (.string ⟨r'.toArray⟩) ∧ Z.cell? ⟨w.heap.size + 1, 1, none⟩ = some (.string ⟨t'.toArray⟩) ∧ Z.cell? ⟨w.heap.size + 1, 2, none⟩ = some (.bool u')) := fun Z h => by
  have k := ka.below h ka.lt
  have q := kb.below h kb.lt
  exact ⟨k.cell 0, k.cell 1, k.cell 2, q.cell 0, q.cell 1, q.cell 2⟩
 have HBW : Hid (∀ Z : World, Below w0.heap.size w0 Z → Below w.heap.size w Z) := fun Z h => hb0.trans (h.mono hz0)
 clear hw0 ka kb hb0
 go_in
 go_upto_region 1 with fail
 rw [HW.out]
 clear HW
 go_cut [5] (fun s wx => s = .int .i64 O ∧ Below w0.heap.size w0 wx)
 case first => as_aux_lemma =>
  refine rgn HSH fun hHeld => ?_
  refine tS [0, 1, 2, 3, 5, 6, 7, 8] ?_
  iterate 8 (refine tC ?_; refine ap ?_)
  refine tN ?_
  refine rdy 4 fun K hK => ?_
  go_simp
  (refine (HC1.out _).mono ?_) <;> rintro en w4 ⟨rfl, rfl⟩
  go_wp2_with fail
  refine hK.out _ _ (HSH.out _ (by exact bl)) fun hHeld => ?_
  clear hK K
  refine ap ?_
  refine rdy 9 fun K hK => ?_
  go_simp
  (refine (HC2.out _).mono ?_) <;> rintro en w9 ⟨rfl, rfl⟩
  go_wp2_with fail
  refine hK.out _ _ (HSH.out _ (by exact bl)) fun hHeld => ?_
  clear hK K
  refine ap ?_
  refine rdy 10 fun K hK => ?_
  go_simp
  skip
  go_wp2_with fail
  refine hK.out _ _ (HSH.out _ (by exact bl)) fun hHeld => ?_
  clear hK K
  refine ap ?_
  refine rdy 11 fun K hK => ?_
  go_simp
  (refine (HO.out _ _ (by simp) (by simp)).mono ?_) <;> rintro en w11 ⟨rfl, rfl⟩
  go_wp2_with fail
  refine hK.out _ _ (HSH.out _ (by exact bl)) fun hHeld => ?_
  clear hK K
  refine ap ?_
  refine tS [12] (tC ?_)
  refine ap (tN ?_)
  refine wpAnyH_done (by kernel_rfl) ?_ _
  go_wp2_with fail
  go_meet
  exact ⟨rfl, by exact bl⟩
 obtain ⟨rfl, hb1⟩ := hcut
 obtain ⟨W, rfl⟩ : ∃ W, W = wc := ⟨_, rfl⟩
 obtain ⟨q0, q1, q2, q3, q4, q5⟩ := HSH.out W hb1
 have hbw := HBW.out W hb1
 by_cases h0 : O = 0
 ·subst h0
  have HF : Hid ((if u = u' then (0 : Int) else if u' then -1 else 1) = R) := by have := HR.out; rw [if_pos rfl] at this; exact this
  clear HR
  cases u <;> cases u'
  all_goals
   go_wp2_with fail
   go_ret
   exact ⟨by rw [← HF.out]; rfl, hbw⟩
 ·have e1 : (O != 0) = true := by simpa using h0
  have HF : Hid (O = R) := by have := HR.out; rw [if_neg h0] at this; exact this
  clear HR h0
  go_wp2_with fail
  go_ret
  exact ⟨by rw [HF.out]; rfl, hbw⟩
end Go.Proofs.YtchilcchogcibaaGreatDoor
