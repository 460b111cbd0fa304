/- schema.name, Place, check as plain functions; expr.Same against none; The document's reserved words, names and Ops of two parts, as plain functions; expr.Parse as a plain function; slices.IndexFunc at grants, by a closure that has one captured variable; What a row's list of variables gives; What a row's list of variables gives statements' texts. -/
import Derived.WideKeyEntry
import Derived.WideMake
import Derived.MapKept
import Derived.Laws.EntriesVeiled
import Derived.Shelf.Abstract
import Derived.Stop.LaidErr
import Derived.Lib.LaidTab
import Derived.Test.YtchilcchogcibaaGreatDoorSBytes
import Derived.Test.YtchilcchogcibaaGreatDoorSClones
import Derived.Test.YtchilcchogcibaaGreatDoorSCols
import Derived.Test.YtchilcchogcibaaGreatDoorSGr1
import Derived.Test.YtchilcchogcibaaGreatDoorSLift
import Derived.Test.YtchilcchogcibaaGreatDoorSOpenEx
import Derived.Test.YtchilcchogcibaaGreatDoorSRd1
import Derived.Test.YtchilcchogcibaaGreatDoorSRef3Name
namespace Go.Proofs.YtchilcchogcibaaGreatDoor
open Go.RowKit Go.ChangeMaps
attribute [local go_sem] ByteArray.extract_mk ba_get ba_append
attribute [local go_sem ↓] Go.wp_at_zero Go.wp_at_succ run_eql_V run_neq_V
/-- Is an expression none at all? -/
def same0 (e : Ex) : Bool := e.op == [] && (veq e.v V.zero && (e.s == [] && decide (e.l.length = 0)))
end Go.Proofs.YtchilcchogcibaaGreatDoor
namespace Go.Proofs.YtchilcchogcibaaGreatDoor
open Go.RowKit
attribute [local go_sem] ByteArray.extract_mk ba_get ba_append
attribute [local go_sem ↓] Go.wp_at_zero Go.wp_at_succ
def wordsR : List (List UInt8) := [[65, 78, 68], [79, 82], [78, 79, 84], [73, 83], [78, 85, 76, 76], [84, 82, 85, 69], [70, 65, 76, 83, 69], [67, 82, 69, 65, 84, 69], [84, 65, 66, 76, 69], [75, 69, 89], [85, 78, 73, 81, 85, 69], [82, 69, 70, 69, 82, 69, 78, 67, 69, 83], [67, 72, 69, 67, 75], [68, 82, 79, 80], [73, 78, 83, 69, 82, 84], [73, 78, 84, 79], [86, 65, 76, 85, 69, 83], [85, 80, 68, 65, 84, 69], [83, 69, 84], [87, 72, 69, 82, 69], [68, 69, 76, 69, 84, 69], [70, 82, 79, 77], [83, 69, 76, 69, 67, 84], [71, 82, 65, 78, 84], [82, 69, 86, 79, 75, 69], [82, 69, 65, 68], [87, 82, 73, 84, 69], [79, 78], [84, 79], [77, 73, 71, 82, 65, 84, 69], [67, 79, 80, 89], [74, 79, 73, 78], [71, 82, 79, 85, 80], [66, 89], [83, 85, 77], [73, 78, 84], [84, 69, 88, 84], [66, 79, 79, 76]]
theorem wordsR_mem (s : List UInt8) : s ∈ wordsR ↔ s ∈ words := by
 have h : List.isPerm wordsR words = true := by decide +kernel
 exact (List.isPerm_iff.1 h).mem_iff
theorem reserved_R (s : List UInt8) : reserved s = wordsR.contains s := by
 unfold reserved
 rw [Bool.eq_iff_iff]
 simp only [List.contains_iff_mem]
 exact (wordsR_mem s).symm
theorem words_cell {w : World} {g : Nat} {ty : TypeId} (h : Blk w g ty #[.string ⟨#[65, 78, 68]⟩, .string ⟨#[79, 82]⟩, .string ⟨#[78, 79, 84]⟩, .string ⟨#[73, 83]⟩, .string ⟨#[78, 85, 76, 76]⟩, .string ⟨#[84, 82, 85, 69]⟩, .string ⟨#[70, 65, 76, 83, 69]⟩, .string ⟨#[67, 82, 69, 65, 84, 69]⟩, .string ⟨#[84, 65, 66, 76, 69]⟩, .string ⟨#[75, 69, 89]⟩, .string ⟨#[85, 78, 73, 81, 85, 69]⟩, .string ⟨#[82, 69, 70, 69, 82, 69, 78, 67, 69, 83]⟩, .string ⟨#[67, 72, 69, 67, 75]⟩, .string ⟨#[68, 82, 79, 80]⟩, .string ⟨#[73, 78, 83, 69, 82, 84]⟩, .string ⟨#[73, 78, 84, 79]⟩, .string ⟨#[86, 65, 76, 85, 69, 83]⟩, .string ⟨#[85, 80, 68, 65, 84, 69]⟩, .string ⟨#[83, 69, 84]⟩, .string ⟨#[87, 72, 69, 82, 69]⟩, .string ⟨#[68, 69, 76, 69, 84, 69]⟩, .string ⟨#[70, 82, 79, 77]⟩, .string ⟨#[83, 69, 76, 69, 67, 84]⟩, .string ⟨#[71, 82, 65, 78, 84]⟩, .string ⟨#[82, 69, 86, 79, 75, 69]⟩, .string ⟨#[82, 69, 65, 68]⟩, .string ⟨#[87, 82, 73, 84, 69]⟩, .string ⟨#[79, 78]⟩, .string ⟨#[84, 79]⟩, .string ⟨#[77, 73, 71, 82, 65, 84, 69]⟩, .string ⟨#[67, 79, 80, 89]⟩, .string ⟨#[74, 79, 73, 78]⟩, .string ⟨#[71, 82, 79, 85, 80]⟩, .string ⟨#[66, 89]⟩, .string ⟨#[83, 85, 77]⟩, .string ⟨#[73, 78, 84]⟩, .string ⟨#[84, 69, 88, 84]⟩, .string ⟨#[66, 79, 79, 76]⟩]) {i : Nat} {x : List UInt8} (hx : wordsR[i]? = some x) : w.cell? ⟨g, i, none⟩ = some (.string ⟨x.toArray⟩) := by
 have h' : Blk w g ty (wordsR.map fun s => Value.string ⟨s.toArray⟩).toArray := h
 rw [h'.cell, List.getElem?_toArray, List.getElem?_map, hx]
 rfl
theorem dropW (l : List (List UInt8)) (j : Nat) (v : List UInt8) (h : l[j]? = some v) : l.drop j = v :: l.drop (j + 1) := by
 obtain ⟨hj, rfl⟩ := List.getElem?_eq_some_iff.1 h
 exact List.drop_eq_getElem_cons hj
set_option maxRecDepth 100000 in
set_option maxHeartbeats 1000000 in
theorem rreserved_any (s : List UInt8) (w : World) : Calls Tryz.prog 71 #[.string ⟨s.toArray⟩] w (Ret (.bool (reserved s)) w) := by
 obtain ⟨R, hR⟩ : ∃ R, reserved s = R := ⟨_, rfl⟩
 rw [hR]
 rw [reserved_R] at hR
 have HR : Hid ((wordsR.drop 0).contains s = R) := hR
 obtain ⟨w0, hw0⟩ : ∃ w0, w.alloc (.cells #[.string ⟨#[65, 78, 68]⟩, .string ⟨#[79, 82]⟩, .string ⟨#[78, 79, 84]⟩, .string ⟨#[73, 83]⟩, .string ⟨#[78, 85, 76, 76]⟩, .string ⟨#[84, 82, 85, 69]⟩, .string ⟨#[70, 65, 76, 83, 69]⟩, .string ⟨#[67, 82, 69, 65, 84, 69]⟩, .string ⟨#[84, 65, 66, 76, 69]⟩, .string ⟨#[75, 69, 89]⟩, .string ⟨#[85, 78, 73, 81, 85, 69]⟩, .string ⟨#[82, 69, 70, 69, 82, 69, 78, 67, 69, 83]⟩, .string ⟨#[67, 72, 69, 67, 75]⟩, .string ⟨#[68, 82, 79, 80]⟩, .string ⟨#[73, 78, 83, 69, 82, 84]⟩, .string ⟨#[73, 78, 84, 79]⟩, .string ⟨#[86, 65, 76, 85, 69, 83]⟩, .string ⟨#[85, 80, 68, 65, 84, 69]⟩, .string ⟨#[83, 69, 84]⟩, .string ⟨#[87, 72, 69, 82, 69]⟩, .string ⟨#[68, 69, 76, 69, 84, 69]⟩, .string ⟨#[70, 82, 79, 77]⟩, .string ⟨#[83, 69, 76, 69, 67, 84]⟩, .string ⟨#[71, 82, 65, 78, 84]⟩, .string ⟨#[82, 69, 86, 79, 75, 69]⟩, .string ⟨#[82, 69, 65, 68]⟩, .string ⟨#[87, 82, 73, 84, 69]⟩, .string ⟨#[79, 78]⟩, .string ⟨#[84, 79]⟩, .string ⟨#[77, 73, 71, 82, 65, 84, 69]⟩, .string ⟨#[67, 79, 80, 89]⟩, .string ⟨#[74, 79, 73, 78]⟩, .string ⟨#[71, 82, 79, 85, 80]⟩, .string ⟨#[66, 89]⟩, .string ⟨#[83, 85, 77]⟩, .string ⟨#[73, 78, 84]⟩, .string ⟨#[84, 69, 88, 84]⟩, .string ⟨#[66, 79, 79, 76]⟩] 9) = w0 := ⟨_, rfl⟩
 have k0 : Blk w0 w.heap.size 9 #[.string ⟨#[65, 78, 68]⟩, .string ⟨#[79, 82]⟩, .string ⟨#[78, 79, 84]⟩, .string ⟨#[73, 83]⟩, .string ⟨#[78, 85, 76, 76]⟩, .string ⟨#[84, 82, 85, 69]⟩, .string ⟨#[70, 65, 76, 83, 69]⟩, .string ⟨#[67, 82, 69, 65, 84, 69]⟩, .string ⟨#[84, 65, 66, 76, 69]⟩, .string ⟨#[75, 69, 89]⟩, .string ⟨#[85, 78, 73, 81, 85, 69]⟩, .string ⟨#[82, 69, 70, 69, 82, 69, 78, 67, 69, 83]⟩, .string ⟨#[67, 72, 69, 67, 75]⟩, .string ⟨#[68, 82, 79, 80]⟩, .string ⟨#[73, 78, 83, 69, 82, 84]⟩, .string ⟨#[73, 78, 84, 79]⟩, .string ⟨#[86, 65, 76, 85, 69, 83]⟩, .string ⟨#[85, 80, 68, 65, 84, 69]⟩, .string ⟨#[83, 69, 84]⟩, .string ⟨#[87, 72, 69, 82, 69]⟩, .string ⟨#[68, 69, 76, 69, 84, 69]⟩, .string ⟨#[70, 82, 79, 77]⟩, .string ⟨#[83, 69, 76, 69, 67, 84]⟩, .string ⟨#[71, 82, 65, 78, 84]⟩, .string ⟨#[82, 69, 86, 79, 75, 69]⟩, .string ⟨#[82, 69, 65, 68]⟩, .string ⟨#[87, 82, 73, 84, 69]⟩, .string ⟨#[79, 78]⟩, .string ⟨#[84, 79]⟩, .string ⟨#[77, 73, 71, 82, 65, 84, 69]⟩, .string ⟨#[67, 79, 80, 89]⟩, .string ⟨#[74, 79, 73, 78]⟩, .string ⟨#[71, 82, 79, 85, 80]⟩, .string ⟨#[66, 89]⟩, .string ⟨#[83, 85, 77]⟩, .string ⟨#[73, 78, 84]⟩, .string ⟨#[84, 69, 88, 84]⟩, .string ⟨#[66, 79, 79, 76]⟩] := by rw [← hw0]; exact Blk.new _ _ _
 have hb0 : Below w.heap.size w w0 := by rw [← hw0]; exact bl
 have HC : Hid (∀ (Y : World), Below w0.heap.size w0 Y → ∀ (i : Nat) (x : List UInt8), wordsR[i]? = some x → Y.cell? ⟨w.heap.size, i, none⟩ = some (.string ⟨x.toArray⟩)) := fun Y h i x hx => words_cell (k0.below h k0.lt) hx
 have HW := Lib.hid hw0
 have hlen : wordsR.length = 38 := rfl
 have HL := Lib.hid hlen
 clear hR hw0 k0 hlen
 go_enter Tryz.func71, Tryz.ntmps71
 go_upto_region 2 with fail
 rw [HW.out]
 clear HW
 go_wp2_with fail
 go_loopw [4] (fun i wr => ∃ j : Nat, j ≤ 38 ∧ i = .int .i64 j ∧ Hid ((wordsR.drop j).contains s = R) ∧ Below w0.heap.size w0 wr) (fun i _ => 38 - (intOf i).toNat)
 case atStart => exact ⟨0, by omega, rfl, HR, Below.refl _ _⟩
 case round =>
  obtain ⟨j, hj, rfl, HJ, hbr⟩ := hrel
  by_cases hlt : j < 38
  ·obtain ⟨x, hx⟩ : ∃ x, wordsR[j]? = some x := ⟨_, List.getElem?_eq_getElem (by rw [HL.out]; exact hlt)⟩
   have c0 := HC.out wr hbr j x hx
   have hJ := HJ.out
   rw [dropW _ _ _ hx, List.contains_cons] at hJ
   obtain ⟨B, hB⟩ : ∃ B, (s == x) = B := ⟨_, rfl⟩
   rw [hB] at hJ
   have e1 : (x == s) = B := by rw [← hB, Bool.eq_iff_iff]; simp only [beq_iff_eq]; exact eq_comm
   have HJ2 := Lib.hid hJ
   have i1 : (0 : Int) ≤ (j : Int) := by omega
   have i2 : (j : Int) < 38 := by omega
   clear hx HJ hJ hB
   cases B
   ·have HN : Hid ((wordsR.drop (j + 1)).contains s = R) := by show _ = _; rw [← HJ2.out, Bool.false_or]
    go_wp2_with fail
    go_roundw
    case rel => exact ⟨j + 1, by omega, by go_num, HN, by exact bl⟩
    case measure => simp [intOf]; omega
   ·have HF : Hid (R = true) := by show _ = _; rw [← HJ2.out, Bool.true_or]
    go_wp2_with fail
    go_ret
    exact ⟨by rw [HF.out]; rfl, hb0.trans ((show Below w0.heap.size w0 _ by exact bl).mono hb0.size)⟩
  ·obtain rfl : j = 38 := by omega
   have HF : Hid (R = false) := by show _ = _; rw [← HJ.out]; rfl
   have b0 : ¬ ((38 : Int) < 38) := by omega
   clear HJ
   go_wp2_with fail
   go_ret
   exact ⟨by rw [HF.out]; rfl, hb0.trans ((show Below w0.heap.size w0 _ by exact bl).mono hb0.size)⟩
def twoB (op : List UInt8) : Bool := decide (op = opAnd ∨ op = opOr ∨ op = opEq ∨ op = opLt ∨ op = opPlus ∨ op = opMinus)
set_option maxHeartbeats 1000000 in
theorem two_any (op : List UInt8) (w : World) : Calls Tryz.prog 215 #[.string ⟨op.toArray⟩] w (Ret (.bool (twoB op)) w) := by
 have key : twoB op = (op == opAnd || (op == opOr || (op == opEq || (op == opLt || (op == opPlus || op == opMinus))))) := by
  unfold twoB
  rw [Bool.eq_iff_iff]
  simp
 obtain ⟨R, hR⟩ : ∃ R, twoB op = R := ⟨_, rfl⟩
 rw [hR]
 rw [hR] at key
 obtain ⟨b1, h1⟩ : ∃ b, (op == opAnd) = b := ⟨_, rfl⟩
 obtain ⟨b2, h2⟩ : ∃ b, (op == opOr) = b := ⟨_, rfl⟩
 obtain ⟨b3, h3⟩ : ∃ b, (op == opEq) = b := ⟨_, rfl⟩
 obtain ⟨b4, h4⟩ : ∃ b, (op == opLt) = b := ⟨_, rfl⟩
 obtain ⟨b5, h5⟩ : ∃ b, (op == opPlus) = b := ⟨_, rfl⟩
 obtain ⟨b6, h6⟩ : ∃ b, (op == opMinus) = b := ⟨_, rfl⟩
 rw [h1, h2, h3, h4, h5, h6] at key
 have e1 : (op == [97, 110, 100]) = b1 := h1
 have e2 : (op == [111, 114]) = b2 := h2
 have e3 : (op == [61]) = b3 := h3
 have e4 : (op == [60]) = b4 := h4
 have e5 : (op == [43]) = b5 := h5
 have e6 : (op == [45]) = b6 := h6
 have HK := Lib.hid key
 clear key h1 h2 h3 h4 h5 h6 hR
 cases b1
 ·cases b2
  ·cases b3
   ·cases b4
    ·cases b5
     ·cases b6
      ·go_enter Tryz.func215, Tryz.ntmps215
       go_wp2_with fail
       go_ret
       exact ⟨by rw [HK.out]; rfl, Below.refl _ _⟩
      ·go_enter Tryz.func215, Tryz.ntmps215
       go_wp2_with fail
       go_ret
       exact ⟨by rw [HK.out]; rfl, Below.refl _ _⟩
     ·go_enter Tryz.func215, Tryz.ntmps215
      go_wp2_with fail
      go_ret
      exact ⟨by rw [HK.out]; rfl, Below.refl _ _⟩
    ·go_enter Tryz.func215, Tryz.ntmps215
     go_wp2_with fail
     go_ret
     exact ⟨by rw [HK.out]; rfl, Below.refl _ _⟩
   ·go_enter Tryz.func215, Tryz.ntmps215
    go_wp2_with fail
    go_ret
    exact ⟨by rw [HK.out]; rfl, Below.refl _ _⟩
  ·go_enter Tryz.func215, Tryz.ntmps215
   go_wp2_with fail
   go_ret
   exact ⟨by rw [HK.out]; rfl, Below.refl _ _⟩
 ·go_enter Tryz.func215, Tryz.ntmps215
  go_wp2_with fail
  go_ret
  exact ⟨by rw [HK.out]; rfl, Below.refl _ _⟩
end Go.Proofs.YtchilcchogcibaaGreatDoor
namespace Go.Proofs.YtchilcchogcibaaGreatDoor
open Go.RowKit
attribute [local go_sem] ByteArray.extract_mk ba_get ba_append
attribute [local go_sem ↓] Go.wp_at_zero Go.wp_at_succ run_eql_V run_neq_V
/-- What expr.Parse leaves. -/
def RetParse (R : Ex × Nat × Int) (w : World) (en : Ending) (w' : World) : Prop :=
 ∃ A' c', en = .returned (.tuple #[.agg (R.1.cells A' c').toArray, .int .i64 (R.2.1 : Nat), .int .i64 R.2.2]) ∧ ExR (fun b => w.heap.size ≤ b ∧ b < w'.heap.size) R.1 A' c' w' ∧ Below w.heap.size w w'
theorem RetParse.drew {R : Ex × Nat × Int} {w w' : World} {en : Ending} (h : RetParse R w en w') : RetParse R w en w'.drew := by
 obtain ⟨A', c', h1, h2, h3⟩ := h
 exact ⟨A', c', h1, h2.keep fun b hb => ⟨hb, fun o => rfl⟩, h3.drew⟩
theorem ExR.may {Q : Nat → Prop} {e : Ex} {A : Option Addr} {c : Nat} {w : World} (h : ExR Q e A c w) {B : Nat} (hQ : ∀ b, Q b → b < B) : ∃ n, ExS 1000 n w B A e.l := by
 obtain ⟨_, _, _, n, h4⟩ := h
 exact ⟨n, h4.toS hQ n⟩
end Go.Proofs.YtchilcchogcibaaGreatDoor
namespace Go.Proofs.YtchilcchogcibaaGreatDoor
open Go.RowKit
attribute [local go_sem] ByteArray.extract_mk ba_get ba_append
attribute [local go_sem ↓] Go.wp_at_zero Go.wp_at_succ
set_option maxRecDepth 100000 in
set_option maxHeartbeats 1000000 in
theorem idxG_any (A : Option Addr) (c : Nat) (l : List Gr) (p : Gr → Bool) (f g : Nat) (eg : ∀ args (w : World), (callFunc f args).run Tryz.prog w = .ok (.enter f args) w) (w : World) (hl : l.length ≤ 1000000) (h : GQ l A (Old w.heap.size) w)
  (hp : ∀ x ∈ l, ∀ Z : World, Below w.heap.size w Z → Calls Tryz.prog f #[.agg #[.string ⟨x.r.toArray⟩, .string ⟨x.t.toArray⟩, .bool x.w], .pointer (some ⟨g, 0, none⟩)] Z (Ret (.bool (p x)) Z)) :
  Calls Tryz.prog 60 #[.slice A l.length c, .func (.func f) #[] #[.pointer (some ⟨g, 0, none⟩)]] w (Ret (.int .i64 (firstP p l 0)) w) := by
 obtain ⟨R, hR⟩ : ∃ R, firstP p l 0 = R := ⟨_, rfl⟩
 rw [hR]
 have HR : Hid (firstP p (l.drop 0) 0 = R) := hR
 have HP := Lib.hid hp
 have HQ : Hid (∀ Z : World, Below w.heap.size w Z → GQ l A (Old w.heap.size) Z) := fun Z hz => h.keep fun b hb => ⟨hb, fun o => hz.cell (p := ⟨b, o, none⟩) hb⟩
 clear hR hp h
 go_enter Tryz.func60, Tryz.ntmps60
 go_wp2
 go_loopw [8] (fun i wr => ∃ j : Nat, j ≤ l.length ∧ i = .int .i64 j ∧ Hid (firstP p (l.drop j) j = R) ∧ Below w.heap.size w wr) (fun i _ => l.length - (intOf i).toNat)
 case atStart => exact ⟨0, by omega, rfl, HR, Below.refl _ _⟩
 case round =>
  obtain ⟨j, hj, rfl, hrest, hbw⟩ := hrel
  by_cases hlt : j < l.length
  ·obtain ⟨b, off, x, rfl, hbB, hv, c0, c1, c2⟩ := (HQ.out _ hbw).at_ hlt
   have hrest' := hrest.out
   have hdr : l.drop j = x :: l.drop (j + 1) := by
    obtain ⟨hj', rfl⟩ := List.getElem?_eq_some_iff.1 hv
    exact List.drop_eq_getElem_cons hj'
   rw [hdr, firstP_cons] at hrest'
   have hzw := hbw.size
   obtain ⟨W, rfl⟩ : ∃ W, W = wr := ⟨_, rfl⟩
   have HC := Lib.hid (HP.out x (List.mem_of_getElem? hv) W hbw)
   clear hv hrest hdr
   cases hq : p x
   ·have HF : Hid (firstP p (l.drop (j + 1)) (j + 1) = R) := by
     show _ = _
     rw [← hrest', hq]; rfl
    have HQ2 := Lib.hid hq
    clear hrest' hq
    go_wp2_with fail
    refine HC.out.mono ?_
    rintro e w1 ⟨rfl, hb1⟩
    rw [HQ2.out]
    go_wp2_with fail
    go_roundw
    case rel => exact ⟨j + 1, by omega, by go_num, HF, hbw.trans (hb1.mono hzw)⟩
    case measure => simp [intOf]; omega
   ·have HF : Hid ((j : Int) = R) := by
     show _ = _
     rw [← hrest', hq]; rfl
    have HQ2 := Lib.hid hq
    clear hrest' hq
    go_wp2_with fail
    refine HC.out.mono ?_
    rintro e w1 ⟨rfl, hb1⟩
    rw [HQ2.out]
    go_wp2_with fail
    go_ret
    exact ⟨by rw [← HF.out]; rfl, hbw.trans (hb1.mono hzw)⟩
  ·have HF : Hid (R = -1) := by
    show _ = _
    rw [← hrest.out, List.drop_of_length_le (by omega)]
    rfl
   clear hrest
   go_wp2
   go_ret
   exact ⟨by rw [HF.out]; rfl, hbw⟩
end Go.Proofs.YtchilcchogcibaaGreatDoor
namespace Go.Proofs.YtchilcchogcibaaGreatDoor
open Go.RowKit
theorem pow10_data : Rows.laid_internal_strconv_uint64pow10 (H := Unit) = Lib.tabData .u64 Lib.pow10Tab := by kernel_rfl
theorem g10 : Tryz.prog.globalNamed "internal/strconv.uint64pow10" = some 5 := by kernel_rfl
theorem t10 : (Tryz.prog.globals[5]?).map (·.type) = some 251 := by kernel_rfl
theorem c10 : Tryz.prog.cellsOf 228 = 1 := by kernel_rfl
theorem d10 : Tryz.prog.cellsOf 251 = 20 := by kernel_rfl
theorem tab10_of {W : World} {x y : String × DataW Unit} {rest : List (String × DataW Unit)} (hL : laidMet Tryz.prog (x :: y :: ("internal/strconv.uint64pow10", Rows.laid_internal_strconv_uint64pow10) :: rest) W) : Tab10 W := by
 have h := laidMet.tail (laidMet.tail hL)
 rw [pow10_data] at h
 exact Lib.tabIs_of_head g10 t10 Tryz.underlying251 Tryz.underlying228 c10 d10 h
end Go.Proofs.YtchilcchogcibaaGreatDoor
namespace Go.Proofs.YtchilcchogcibaaGreatDoor
open Go.RowKit Go.Lib
theorem gTypes : Tryz.prog.globalNamed "caddis/stmt.types" = some 0 := by kernel_rfl
theorem tTypes : (Tryz.prog.globals[0]?).map (·.type) = some 175 := by kernel_rfl
theorem dTypes : Tryz.prog.cellsOf 175 = 3 := by kernel_rfl
theorem eTypes : Tryz.prog.cellsOf 9 = 1 := by kernel_rfl
theorem cells_of_texts {H : Type} {enc : TypeId × Value → H} {P : Program} {w : World} {base : Nat} {sp : Nat → Bool} {held : Bool} {fuel : Nat} {t e : TypeId} {n : Nat} {cs : List Value} {zs : List (List UInt8)} {p : List MemPlace}
  (ht : P.underlying t = some (.array n e)) (he : P.underlying e = some .string) (hce : P.cellsOf e = 1) (hct : P.cellsOf t = n)
  (h : DataW.trod enc P w base sp held fuel t cs = some (.agg (zs.map fun z => (DataW.lit (.string z) : DataW H)), p)) : cs = zs.map fun z => Value.string ⟨z.toArray⟩ := by
 cases fuel with
 | zero => simp [DataW.trod] at h
 | succ fuel =>
  simp only [DataW.trod, ht, hce, hct, Nat.mul_one] at h
  split at h
  ·rename_i hl
   obtain ⟨xs, hm, hx⟩ := Option.map_eq_some_iff.1 h
   have hxs : xs.map (·.1) = zs.map fun z => (DataW.lit (.string z) : DataW H) := by
    have := congrArg Prod.fst hx
    simpa using this
   have hxl : xs.length = n := by simpa using mapM_length hm
   have hzl : zs.length = n := by
    have := congrArg List.length hxs
    simp at this
    omega
   apply List.ext_getElem?
   intro i
   by_cases hi : i < n
   ·obtain ⟨b, hb, hf⟩ := mapM_at hm i i (by simp [hi])
    obtain ⟨z, hc, rfl, _⟩ := DataW.trod_string he hf
    have h1 : cs[i]? = some (.string z) := by
     have := congrArg (·[0]?) hc
     simpa [List.getElem?_take, List.getElem?_drop] using this
    have h2 : (xs.map (·.1))[i]? = some (DataW.lit (.string z.data.toList) : DataW H) := by simp [hb]
    rw [hxs] at h2
    simp only [List.getElem?_map, Option.map_eq_some_iff, DataW.lit.injEq, Lit.string.injEq] at h2
    obtain ⟨z', hz', rfl⟩ := h2
    simp [h1, hz']
   ·rw [List.getElem?_eq_none (by omega), List.getElem?_eq_none (by simp; omega)]
  ·cases h
theorem typT_of {W : World} {x y z v : String × DataW Unit} {rest : List (String × DataW Unit)} (hL : laidMet Tryz.prog (x :: y :: z :: v :: ("caddis/stmt.types", Rows.laid_caddis_stmt_types) :: rest) W) : TypT W := by
 have h := laidMet.tail (laidMet.tail (laidMet.tail (laidMet.tail hL)))
 obtain ⟨ps, ⟨g', t', cs, fuel, p, q, hg', ht', hvar, hd, _, _⟩, _⟩ := h
 obtain rfl := Option.some.inj (gTypes.symm.trans hg')
 obtain rfl := Option.some.inj (tTypes.symm.trans ht')
 have hc := cells_of_texts (zs := [[73, 78, 84], [84, 69, 88, 84], [66, 79, 79, 76]]) Tryz.underlying175 Tryz.underlying9 eTypes dTypes hd
 have key : ∀ i, W.cell? ⟨0, i, none⟩ = ([[73, 78, 84], [84, 69, 88, 84], [66, 79, 79, 76]].map fun z => Value.string ⟨z.toArray⟩)[i]? := fun i => (World.var?_cell gTypes hvar i).trans (by rw [← Array.getElem?_toList, hc])
 exact ⟨key 0, key 1, key 2⟩
theorem env0_of {W : World} (hsh : W.ShapedOpen Tryz.prog) {x y v : String × DataW Unit} {rest : List (String × DataW Unit)} (hL : laidMet Tryz.prog (x :: y :: ("internal/strconv.uint64pow10", Rows.laid_internal_strconv_uint64pow10) :: v :: ("caddis/stmt.types", Rows.laid_caddis_stmt_types) :: rest) W) : Env0 W :=
 ⟨maxL_of hsh, tab10_of hL, typT_of hL⟩
end Go.Proofs.YtchilcchogcibaaGreatDoor
