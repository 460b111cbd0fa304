/- The document's reserved words, names and Ops of two parts, as plain functions; The document's form, nodes and May of an expression, as plain functions. -/
import Derived.Test.YtchilcchogcibaaGreatDoorDGrR4
set_option maxRecDepth 100000
set_option maxHeartbeats 4000000
namespace Go.Proofs.YtchilcchogcibaaGreatDoor
open Go.RowKit
attribute [local go_sem] ByteArray.extract_mk ba_get ba_append
attribute [local go_sem ↓] Go.wp_at_zero Go.wp_at_succ
def wordsR : List (List UInt8) := [[65, 78, 68], [79, 82], [78, 79, 84], [73, 83], [78, 85, 76, 76], [84, 82, 85, 69], [70, 65, 76, 83, 69], [67, 82, 69, 65, 84, 69], [84, 65, 66, 76, 69], [75, 69, 89], [85, 78, 73, 81, 85, 69], [82, 69, 70, 69, 82, 69, 78, 67, 69, 83], [67, 72, 69, 67, 75], [68, 82, 79, 80], [73, 78, 83, 69, 82, 84], [73, 78, 84, 79], [86, 65, 76, 85, 69, 83], [85, 80, 68, 65, 84, 69], [83, 69, 84], [87, 72, 69, 82, 69], [68, 69, 76, 69, 84, 69], [70, 82, 79, 77], [83, 69, 76, 69, 67, 84], [71, 82, 65, 78, 84], [82, 69, 86, 79, 75, 69], [82, 69, 65, 68], [87, 82, 73, 84, 69], [79, 78], [84, 79], [77, 73, 71, 82, 65, 84, 69], [67, 79, 80, 89], [74, 79, 73, 78], [71, 82, 79, 85, 80], [66, 89], [83, 85, 77], [73, 78, 84], [84, 69, 88, 84], [66, 79, 79, 76]]
theorem wordsR_mem (s : List UInt8) : s ∈ wordsR ↔ s ∈ words := by
 have h : List.isPerm wordsR words = true := by decide +kernel
 exact (List.isPerm_iff.1 h).mem_iff
theorem reserved_R (s : List UInt8) : reserved s = wordsR.contains s := by
 unfold reserved
 rw [Bool.eq_iff_iff]
 simp only [List.contains_iff_mem]
 exact (wordsR_mem s).symm
theorem words_cell {w : World} {g : Nat} {ty : TypeId} (h : Blk w g ty #[.string ⟨#[65, 78, 68]⟩, .string ⟨#[79, 82]⟩, .string ⟨#[78, 79, 84]⟩, .string ⟨#[73, 83]⟩, .string ⟨#[78, 85, 76, 76]⟩, .string ⟨#[84, 82, 85, 69]⟩, .string ⟨#[70, 65, 76, 83, 69]⟩, .string ⟨#[67, 82, 69, 65, 84, 69]⟩, .string ⟨#[84, 65, 66, 76, 69]⟩, .string ⟨#[75, 69, 89]⟩, .string ⟨#[85, 78, 73, 81, 85, 69]⟩, .string ⟨#[82, 69, 70, 69, 82, 69, 78, 67, 69, 83]⟩, .string ⟨#[67, 72, 69, 67, 75]⟩, .string ⟨#[68, 82, 79, 80]⟩, .string ⟨#[73, 78, 83, 69, 82, 84]⟩, .string ⟨#[73, 78, 84, 79]⟩, .string ⟨#[86, 65, 76, 85, 69, 83]⟩, .string ⟨#[85, 80, 68, 65, 84, 69]⟩, .string ⟨#[83, 69, 84]⟩, .string ⟨#[87, 72, 69, 82, 69]⟩, .string ⟨#[68, 69, 76, 69, 84, 69]⟩, .string ⟨#[70, 82, 79, 77]⟩, .string ⟨#[83, 69, 76, 69, 67, 84]⟩, .string ⟨#[71, 82, 65, 78, 84]⟩, .string ⟨#[82, 69, 86, 79, 75, 69]⟩, .string ⟨#[82, 69, 65, 68]⟩, .string ⟨#[87, 82, 73, 84, 69]⟩, .string ⟨#[79, 78]⟩, .string ⟨#[84, 79]⟩, .string ⟨#[77, 73, 71, 82, 65, 84, 69]⟩, .string ⟨#[67, 79, 80, 89]⟩, .string ⟨#[74, 79, 73, 78]⟩, .string ⟨#[71, 82, 79, 85, 80]⟩, .string ⟨#[66, 89]⟩, .string ⟨#[83, 85, 77]⟩, .string ⟨#[73, 78, 84]⟩, .string ⟨#[84, 69, 88, 84]⟩, .string ⟨#[66, 79, 79, 76]⟩]) {i : Nat} {x : List UInt8} (hx : wordsR[i]? = some x) : w.cell? ⟨g, i, none⟩ = some (.string ⟨x.toArray⟩) := by
 have h' : Blk w g ty (wordsR.map fun s => Value.string ⟨s.toArray⟩).toArray := h
 rw [h'.cell, List.getElem?_toArray, List.getElem?_map, hx]
 rfl
theorem dropW (l : List (List UInt8)) (j : Nat) (v : List UInt8) (h : l[j]? = some v) : l.drop j = v :: l.drop (j + 1) := by
 obtain ⟨hj, rfl⟩ := List.getElem?_eq_some_iff.1 h
 exact List.drop_eq_getElem_cons hj
theorem rreserved_any (s : List UInt8) (w : World) : Calls Tryz.prog 71 #[.string ⟨s.toArray⟩] w (Ret (.bool (reserved s)) w) := by
 obtain ⟨R, hR⟩ : ∃ R, reserved s = R := ⟨_, rfl⟩
 rw [hR]
 rw [reserved_R] at hR
 have HR : Hid ((wordsR.drop 0).contains s = R) := hR
 obtain ⟨w0, hw0⟩ : ∃ w0, w.alloc (.cells #[.string ⟨#[65, 78, 68]⟩, .string ⟨#[79, 82]⟩, .string ⟨#[78, 79, 84]⟩, .string ⟨#[73, 83]⟩, .string ⟨#[78, 85, 76, 76]⟩, .string ⟨#[84, 82, 85, 69]⟩, .string ⟨#[70, 65, 76, 83, 69]⟩, .string ⟨#[67, 82, 69, 65, 84, 69]⟩, .string ⟨#[84, 65, 66, 76, 69]⟩, .string ⟨#[75, 69, 89]⟩, .string ⟨#[85, 78, 73, 81, 85, 69]⟩, .string ⟨#[82, 69, 70, 69, 82, 69, 78, 67, 69, 83]⟩, .string ⟨#[67, 72, 69, 67, 75]⟩, .string ⟨#[68, 82, 79, 80]⟩, .string ⟨#[73, 78, 83, 69, 82, 84]⟩, .string ⟨#[73, 78, 84, 79]⟩, .string ⟨#[86, 65, 76, 85, 69, 83]⟩, .string ⟨#[85, 80, 68, 65, 84, 69]⟩, .string ⟨#[83, 69, 84]⟩, .string ⟨#[87, 72, 69, 82, 69]⟩, .string ⟨#[68, 69, 76, 69, 84, 69]⟩, .string ⟨#[70, 82, 79, 77]⟩, .string ⟨#[83, 69, 76, 69, 67, 84]⟩, .string ⟨#[71, 82, 65, 78, 84]⟩, .string ⟨#[82, 69, 86, 79, 75, 69]⟩, .string ⟨#[82, 69, 65, 68]⟩, .string ⟨#[87, 82, 73, 84, 69]⟩, .string ⟨#[79, 78]⟩, .string ⟨#[84, 79]⟩, .string ⟨#[77, 73, 71, 82, 65, 84, 69]⟩, .string ⟨#[67, 79, 80, 89]⟩, .string ⟨#[74, 79, 73, 78]⟩, .string ⟨#[71, 82, 79, 85, 80]⟩, .string ⟨#[66, 89]⟩, .string ⟨#[83, 85, 77]⟩, .string ⟨#[73, 78, 84]⟩, .string ⟨#[84, 69, 88, 84]⟩, .string ⟨#[66, 79, 79, 76]⟩] 9) = w0 := ⟨_, rfl⟩
 have k0 : Blk w0 w.heap.size 9 #[.string ⟨#[65, 78, 68]⟩, .string ⟨#[79, 82]⟩, .string ⟨#[78, 79, 84]⟩, .string ⟨#[73, 83]⟩, .string ⟨#[78, 85, 76, 76]⟩, .string ⟨#[84, 82, 85, 69]⟩, .string ⟨#[70, 65, 76, 83, 69]⟩, .string ⟨#[67, 82, 69, 65, 84, 69]⟩, .string ⟨#[84, 65, 66, 76, 69]⟩, .string ⟨#[75, 69, 89]⟩, .string ⟨#[85, 78, 73, 81, 85, 69]⟩, .string ⟨#[82, 69, 70, 69, 82, 69, 78, 67, 69, 83]⟩, .string ⟨#[67, 72, 69, 67, 75]⟩, .string ⟨#[68, 82, 79, 80]⟩, .string ⟨#[73, 78, 83, 69, 82, 84]⟩, .string ⟨#[73, 78, 84, 79]⟩, .string ⟨#[86, 65, 76, 85, 69, 83]⟩, .string ⟨#[85, 80, 68, 65, 84, 69]⟩, .string ⟨#[83, 69, 84]⟩, .string ⟨#[87, 72, 69, 82, 69]⟩, .string ⟨#[68, 69, 76, 69, 84, 69]⟩, .string ⟨#[70, 82, 79, 77]⟩, .string ⟨#[83, 69, 76, 69, 67, 84]⟩, .string ⟨#[71, 82, 65, 78, 84]⟩, .string ⟨#[82, 69, 86, 79, 75, 69]⟩, .string ⟨#[82, 69, 65, 68]⟩, .string ⟨#[87, 82, 73, 84, 69]⟩, .string ⟨#[79, 78]⟩, .string ⟨#[84, 79]⟩, .string ⟨#[77, 73, 71, 82, 65, 84, 69]⟩, .string ⟨#[67, 79, 80, 89]⟩, .string ⟨#[74, 79, 73, 78]⟩, .string ⟨#[71, 82, 79, 85, 80]⟩, .string ⟨#[66, 89]⟩, .string ⟨#[83, 85, 77]⟩, .string ⟨#[73, 78, 84]⟩, .string ⟨#[84, 69, 88, 84]⟩, .string ⟨#[66, 79, 79, 76]⟩] := by rw [← hw0]; exact Blk.new _ _ _
 have hb0 : Below w.heap.size w w0 := by rw [← hw0]; exact bl
 have HC : Hid (∀ (Y : World), Below w0.heap.size w0 Y → ∀ (i : Nat) (x : List UInt8), wordsR[i]? = some x → Y.cell? ⟨w.heap.size, i, none⟩ = some (.string ⟨x.toArray⟩)) := fun Y h i x hx => words_cell (k0.below h k0.lt) hx
 have HW := Lib.hid hw0
 have hlen : wordsR.length = 38 := rfl
 have HL := Lib.hid hlen
 clear hR hw0 k0 hlen
 go_in
 go_upto_region 2 with fail
 rw [HW.out]
 clear HW
 go_wp2_with fail
 go_loopw [4] (fun i wr => ∃ j : Nat, j ≤ 38 ∧ i = .int .i64 j ∧ Hid ((wordsR.drop j).contains s = R) ∧ Below w0.heap.size w0 wr) (fun i _ => 38 - (intOf i).toNat)
 case atStart => exact ⟨0, by omega, rfl, HR, Below.refl _ _⟩
 case round =>
  obtain ⟨j, hj, rfl, HJ, hbr⟩ := hrel
  by_cases hlt : j < 38
  ·obtain ⟨x, hx⟩ : ∃ x, wordsR[j]? = some x := ⟨_, List.getElem?_eq_getElem (by rw [HL.out]; exact hlt)⟩
   have c0 := HC.out wr hbr j x hx
   have hJ := HJ.out
   rw [dropW _ _ _ hx, List.contains_cons] at hJ
   obtain ⟨B, hB⟩ : ∃ B, (s == x) = B := ⟨_, rfl⟩
   rw [hB] at hJ
   have e1 : (x == s) = B := by rw [← hB, Bool.eq_iff_iff]; simp only [beq_iff_eq]; exact eq_comm
   have HJ2 := Lib.hid hJ
   have i1 : (0 : Int) ≤ (j : Int) := by omega
   have i2 : (j : Int) < 38 := by omega
   clear hx HJ hJ hB
   cases B
   ·have HN : Hid ((wordsR.drop (j + 1)).contains s = R) := by show _ = _; rw [← HJ2.out, Bool.false_or]
    go_wp2_with fail
    go_roundw
    case rel => exact ⟨j + 1, by omega, by go_num, HN, by exact bl⟩
    case measure => simp [intOf]; omega
   ·have HF : Hid (R = true) := by show _ = _; rw [← HJ2.out, Bool.true_or]
    go_wp2_with fail
    go_ret
    exact ⟨by rw [HF.out]; rfl, hb0.trans ((show Below w0.heap.size w0 _ by exact bl).mono hb0.size)⟩
  ·obtain rfl : j = 38 := by omega
   have HF : Hid (R = false) := by show _ = _; rw [← HJ.out]; rfl
   have b0 : ¬ ((38 : Int) < 38) := by omega
   clear HJ
   go_wp2_with fail
   go_ret
   exact ⟨by rw [HF.out]; rfl, hb0.trans ((show Below w0.heap.size w0 _ by exact bl).mono hb0.size)⟩
def twoB (op : List UInt8) : Bool := decide (op = opAnd ∨ op = opOr ∨ op = opEq ∨ op = opLt ∨ op = opPlus ∨ op = opMinus)
theorem two_any (op : List UInt8) (w : World) : Calls Tryz.prog 215 #[.string ⟨op.toArray⟩] w (Ret (.bool (twoB op)) w) := by
 have key : twoB op = (op == opAnd || (op == opOr || (op == opEq || (op == opLt || (op == opPlus || op == opMinus))))) := by
  unfold twoB
  rw [Bool.eq_iff_iff]
  simp
 obtain ⟨R, hR⟩ : ∃ R, twoB op = R := ⟨_, rfl⟩
 rw [hR]
 rw [hR] at key
 obtain ⟨b1, h1⟩ : ∃ b, (op == opAnd) = b := ⟨_, rfl⟩
 obtain ⟨b2, h2⟩ : ∃ b, (op == opOr) = b := ⟨_, rfl⟩
 obtain ⟨b3, h3⟩ : ∃ b, (op == opEq) = b := ⟨_, rfl⟩
 obtain ⟨b4, h4⟩ : ∃ b, (op == opLt) = b := ⟨_, rfl⟩
 obtain ⟨b5, h5⟩ : ∃ b, (op == opPlus) = b := ⟨_, rfl⟩
 obtain ⟨b6, h6⟩ : ∃ b, (op == opMinus) = b := ⟨_, rfl⟩
 rw [h1, h2, h3, h4, h5, h6] at key
 have e1 : (op == [97, 110, 100]) = b1 := h1
 have e2 : (op == [111, 114]) = b2 := h2
 have e3 : (op == [61]) = b3 := h3
 have e4 : (op == [60]) = b4 := h4
 have e5 : (op == [43]) = b5 := h5
 have e6 : (op == [45]) = b6 := h6
 have HK := Lib.hid key
 clear key h1 h2 h3 h4 h5 h6 hR
 cases b1
 ·cases b2
  ·cases b3
   ·cases b4
    ·cases b5
     ·cases b6
      ·go_in
       go_wp2_with fail
       go_ret
       exact ⟨by rw [HK.out]; rfl, Below.refl _ _⟩
      ·go_in
       go_wp2_with fail
       go_ret
       exact ⟨by rw [HK.out]; rfl, Below.refl _ _⟩
     ·go_in
      go_wp2_with fail
      go_ret
      exact ⟨by rw [HK.out]; rfl, Below.refl _ _⟩
    ·go_in
     go_wp2_with fail
     go_ret
     exact ⟨by rw [HK.out]; rfl, Below.refl _ _⟩
   ·go_in
    go_wp2_with fail
    go_ret
    exact ⟨by rw [HK.out]; rfl, Below.refl _ _⟩
  ·go_in
   go_wp2_with fail
   go_ret
   exact ⟨by rw [HK.out]; rfl, Below.refl _ _⟩
 ·go_in
  go_wp2_with fail
  go_ret
  exact ⟨by rw [HK.out]; rfl, Below.refl _ _⟩
end Go.Proofs.YtchilcchogcibaaGreatDoor
namespace Go.Proofs.YtchilcchogcibaaGreatDoor
open Go.RowKit
attribute [local go_sem] ByteArray.extract_mk ba_get ba_append
attribute [local go_sem ↓] Go.wp_at_zero Go.wp_at_succ run_eql_V run_neq_V
def ex0 : Ex := .mk [] V.zero [] []
def formE : Nat → Ex → Bool
 | 0, _ => false
 | d + 1, e =>
  if e.op = opLit then mayB e.v.k e.v.i e.v.s && ((e.s == []) && decide (e.l.length = 0))
  else if e.op = opCol then veq e.v V.zero && (nameB e.s && (!reserved e.s && decide (e.l.length = 0)))
  else if e.op = opNot ∨ e.op = opNull then veq e.v V.zero && ((e.s == []) && (decide (e.l.length = 1) && formE d (e.l.getD 0 ex0)))
  else if twoB e.op = true then veq e.v V.zero && ((e.s == []) && (decide (e.l.length = 2) && (formE d (e.l.getD 0 ex0) && formE d (e.l.getD 1 ex0))))
  else false
theorem six0 {K n : Nat} {w : World} {B : Nat} {A : Option Addr} {l : List Ex} (h : ExS K n w B A l) {j : Nat} (hj : j < l.length) :
  ∃ m b off e A' c', n = m + 1 ∧ A = some ⟨b, off, none⟩ ∧ b < B ∧ l[j]? = some e ∧ l.getD j ex0 = e ∧ e.fit K ∧ e.l.length ≤ c' ∧ c' ≤ maxLen ∧ Six w b (off + j * 6) e A' c' ∧ ExS K m w B A' e.l := by
 cases n with
 | zero => rw [show l = [] from h] at hj; simp at hj
 | succ m =>
  obtain ⟨b, off, e, A', c', h1, h2, h3, h4, h5, h6, h7, h8⟩ := h.at_ hj
  exact ⟨m, b, off, e, A', c', rfl, h1, h2, h3, by rw [List.getD_eq_getElem?_getD, h3]; rfl, h4, h5, h6, h7, h8⟩
theorem form_any : ∀ (d : Nat) (e : Ex) (A : Option Addr) (c n : Nat) (w : World), d ≤ 1000 → e.fit 1000 → ExS 1000 n w w.heap.size A e.l →
  Calls Tryz.prog 182 #[.agg (e.cells A c).toArray, .int .i64 d] w (Ret (.bool (formE d e)) w) := by
 intro d
 induction d with
 | zero =>
  intro e A c n w _ _ _
  go_in
  go_wp2_with fail
  go_ret
  exact ⟨rfl, by exact bl⟩
 | succ d ih =>
  intro e A c n w hd hf hE
  obtain ⟨w0, hw0⟩ : ∃ w0, w.alloc (.cells (e.cells A c).toArray 30) = w0 := ⟨_, rfl⟩
  have kq0 : Blk w0 w.heap.size 30 (e.cells A c).toArray := by rw [← hw0]; exact Blk.new _ _ _
  have hb0 : Below w.heap.size w w0 := by rw [← hw0]; exact bl
  have HSH : Hid (∀ w' : World, Below w0.heap.size w0 w' → (w'.cell? ⟨w.heap.size, 0, none⟩ = some (.string ⟨e.op.toArray⟩) ∧ w'.cell? ⟨w.heap.size, 1, none⟩ = some (.int .i64 e.v.k) ∧ w'.cell? ⟨w.heap.size, 2, none⟩ = some (.int .i64 e.v.i) ∧ w'.cell? ⟨w.heap.size, 3, none⟩ = some (.string ⟨e.v.s.toArray⟩) ∧ w'.cell? ⟨w.heap.size, 4, none⟩ = some (.string ⟨e.s.toArray⟩) ∧ w'.cell? ⟨w.heap.size, 5, none⟩ = some (.slice A e.l.length c))) := fun w' h => (kq0.below h kq0.lt).six
  have HE : Hid (∀ Y : World, Below w0.heap.size w0 Y → ExS 1000 n Y Y.heap.size A e.l) := fun Y h => ((hE.below n (hb0.trans (h.mono hb0.size)))).more (Nat.le_trans hb0.size h.size) n
  have HW := Lib.hid hw0
  obtain ⟨D, hD⟩ : ∃ D, d + 1 = D := ⟨_, rfl⟩
  have hD0 : ((D : Int) == 0) = false := by rw [beq_eq_false_iff_ne]; omega
  have hD1 : IntKind.i64.wrap ((D : Int) - 1) = (d : Int) := by rw [IntWalk.i64_in _ (by omega)]; omega
  obtain ⟨R, hR⟩ : ∃ R, formE (d + 1) e = R := ⟨_, rfl⟩
  rw [hR]
  unfold formE at hR
  rw [hD]
  obtain ⟨Z, hZ⟩ : ∃ Z, veq e.v V.zero = Z := ⟨_, rfl⟩
  have hzv : veq ⟨e.v.k, e.v.i, e.v.s⟩ ⟨0, 0, []⟩ = Z := hZ
  rw [hZ] at hR
  obtain ⟨Sb, hS⟩ : ∃ b, (e.s == []) = b := ⟨_, rfl⟩
  have hS2 : e.s.isEmpty = Sb := by rw [← hS]; cases e.s <;> rfl
  rw [hS] at hR
  have HIH : Hid (∀ (x : Ex) (A' : Option Addr) (c' m : Nat) (Y : World), x.fit 1000 → ExS 1000 m Y Y.heap.size A' x.l → Calls Tryz.prog 182 #[.agg #[.string ⟨x.op.toArray⟩, .int .i64 x.v.k, .int .i64 x.v.i, .string ⟨x.v.s.toArray⟩, .string ⟨x.s.toArray⟩, .slice A' x.l.length c'], .int .i64 d] Y (Ret (.bool (formE d x)) Y)) := fun x A' c' m Y h1 h2 => ih x A' c' m Y (by omega) h1 h2
  have hvs : e.v.s.length ≤ 1000 := hf.2.2.2
  have hsl : e.s.length ≤ 1000 := hf.2.2.1
  have hbwx : ∀ Y : World, Below w0.heap.size w0 Y → Below w.heap.size w Y := fun Y h => hb0.trans (h.mono hb0.size)
  have HBW := Lib.hid hbwx
  clear ih hw0 hE hf hZ hD hd kq0 hb0 hbwx
  obtain ⟨q0, q1, q2, q3, q4, q5⟩ := HSH.out w0 (Below.refl _ _)
  go_in
  go_upto_region 1 with fail
  rw [show w.alloc _ = w0 from HW.out]
  clear HW
  by_cases hLit : e.op = opLit
  ·rw [if_pos hLit] at hR
   have o1 : (e.op == [108, 105, 116]) = true := by rw [hLit]; rfl
   have HM := Lib.hid (rmay_any e.v.k e.v.i e.v.s w0 (by omega))
   obtain ⟨B, hB⟩ : ∃ B, mayB e.v.k e.v.i e.v.s = B := ⟨_, rfl⟩
   rw [hB] at HM hR
   obtain ⟨Lb, hL⟩ : ∃ b, decide (e.l.length = 0) = b := ⟨_, rfl⟩
   have hL2 : ((e.l.length : Int) == 0) = Lb := by rw [← hL, Bool.eq_iff_iff]; simp
   rw [hL] at hR
   have HK := Lib.hid hR
   clear hB hR hLit hL
   go_wp2_with fail
   refine HM.out.mono ?_
   rintro en w1 ⟨rfl, hb1⟩
   clear q0 q1 q2 q3 q4 q5 HM
   obtain ⟨q0, q1, q2, q3, q4, q5⟩ := HSH.out w1 hb1
   have hbw := HBW.out w1 hb1
   cases B
   ·go_wp2_with fail
    go_ret
    exact ⟨by rw [← HK.out]; rfl, hbw⟩
   ·cases Sb
    ·go_wp2_with fail
     go_ret
     exact ⟨by rw [← HK.out]; rfl, hbw⟩
    ·go_wp2_with fail
     go_ret
     exact ⟨by rw [← HK.out]; cases Lb <;> rfl, hbw⟩
  rw [if_neg hLit] at hR
  have o1 : (e.op == [108, 105, 116]) = false := by rw [beq_eq_false_iff_ne]; exact hLit
  clear hLit
  by_cases hCol : e.op = opCol
  ·rw [if_pos hCol] at hR
   have o2 : (e.op == [99, 111, 108]) = true := by rw [hCol]; rfl
   obtain ⟨Lb, hL⟩ : ∃ b, decide (e.l.length = 0) = b := ⟨_, rfl⟩
   have hL2 : ((e.l.length : Int) == 0) = Lb := by rw [← hL, Bool.eq_iff_iff]; simp
   rw [hL] at hR
   have HN : Hid (∀ Y, Calls Tryz.prog 70 #[.string ⟨e.s.toArray⟩] Y (RetB (nameB e.s) Y)) := fun Y => rname_any e.s Y (by omega)
   have HRV := Lib.hid (rreserved_any e.s)
   obtain ⟨nb, hn⟩ : ∃ b, nameB e.s = b := ⟨_, rfl⟩
   obtain ⟨rb, hr⟩ : ∃ b, reserved e.s = b := ⟨_, rfl⟩
   rw [hn, hr] at hR
   rw [hn] at HN
   rw [hr] at HRV
   have HK := Lib.hid hR
   clear hR hCol hL hn hr
   cases Z
   ·go_wp2_with fail
    go_ret
    exact ⟨by rw [← HK.out]; rfl, HBW.out _ (by exact bl)⟩
   ·go_wp2_with fail
    refine (HN.out _).mono ?_
    rintro en w1 ⟨rfl, rfl⟩
    cases nb
    ·go_wp2_with fail
     go_ret
     exact ⟨by rw [← HK.out]; rfl, HBW.out _ (by exact bl)⟩
    ·go_wp2_with fail
     refine (HRV.out _).mono ?_
     rintro en w2 ⟨rfl, hb2⟩
     clear q0 q1 q2 q3 q4 q5
     have hb02 : Below w0.heap.size w0 w2 := by exact bl
     obtain ⟨q0, q1, q2, q3, q4, q5⟩ := HSH.out w2 hb02
     have hbw := HBW.out w2 hb02
     cases rb
     ·go_wp2_with fail
      go_ret
      exact ⟨by rw [← HK.out]; cases Lb <;> rfl, hbw⟩
     ·go_wp2_with fail
      go_ret
      exact ⟨by rw [← HK.out]; rfl, hbw⟩
  rw [if_neg hCol] at hR
  have o2 : (e.op == [99, 111, 108]) = false := by rw [beq_eq_false_iff_ne]; exact hCol
  clear hCol
  by_cases hOne : e.op = opNot ∨ e.op = opNull
  ·rw [if_pos hOne] at hR
   obtain ⟨Lb, hL⟩ : ∃ b, decide (e.l.length = 1) = b := ⟨_, rfl⟩
   have hL2 : ((e.l.length : Int) == 1) = Lb := by rw [← hL, Bool.eq_iff_iff]; simp; omega
   have hL3 : Lb = true → 0 < e.l.length := fun h => by rw [h] at hL; simp at hL; omega
   rw [hL] at hR
   have HK := Lib.hid hR
   have HL3 := Lib.hid hL3
   clear hR hL hL3
   have ho : (e.op == [110, 111, 116]) = true ∨ ((e.op == [110, 111, 116]) = false ∧ (e.op == [110, 117, 108, 108]) = true) := by
    rcases hOne with h | h
    ·exact Or.inl (by rw [h]; rfl)
    ·exact Or.inr ⟨by rw [h]; rfl, by rw [h]; rfl⟩
   clear hOne
   cases Z
   ·rcases ho with o3 | ⟨o3, o4⟩
    all_goals
     go_wp2_with fail
     go_ret
     exact ⟨by rw [← HK.out]; rfl, HBW.out _ (by exact bl)⟩
   ·cases Sb
    ·rcases ho with o3 | ⟨o3, o4⟩
     all_goals
      go_wp2_with fail
      go_ret
      exact ⟨by rw [← HK.out]; rfl, HBW.out _ (by exact bl)⟩
    ·cases Lb
     ·rcases ho with o3 | ⟨o3, o4⟩
      all_goals
       go_wp2_with fail
       go_ret
       exact ⟨by rw [← HK.out]; rfl, HBW.out _ (by exact bl)⟩
     ·have hl := HL3.out rfl
      obtain ⟨m, b1, o1', x, A', c', rfl, rfl, hbB, _, hgd, hfx, hxc, hxm, ⟨c0, c1, c2, c3, c4, c5⟩, hx⟩ := six0 (HE.out w0 (Below.refl _ _)) hl
      have i2 : (0 : Int) < (e.l.length : Int) := by omega
      have hk := HK.out
      rw [hgd] at hk
      have HK2 := Lib.hid hk
      have HX : Hid (∀ Y : World, Below w0.heap.size w0 Y → ExS 1000 m Y Y.heap.size A' x.l) := fun Y h => (hx.below m h).more h.size m
      have HFX := Lib.hid hfx
      simp only [Nat.zero_mul, Nat.add_zero] at c0 c1 c2 c3 c4 c5
      clear hk HK hgd hfx hx hxm hxc
      rcases ho with o3 | ⟨o3, o4⟩
      all_goals
       go_wp2_with fail
       refine (HIH.out x A' c' m _ HFX.out (HX.out _ (by exact bl))).mono ?_
       rintro en w2 ⟨rfl, hb2⟩
       go_wp2_with fail
       go_ret
       exact ⟨by rw [← HK2.out]; cases formE d x <;> rfl, HBW.out w2 (by exact bl)⟩
  rw [if_neg hOne] at hR
  have o3 : (e.op == [110, 111, 116]) = false := by rw [beq_eq_false_iff_ne]; exact fun h => hOne (Or.inl h)
  have o4 : (e.op == [110, 117, 108, 108]) = false := by rw [beq_eq_false_iff_ne]; exact fun h => hOne (Or.inr h)
  have HTW := Lib.hid (two_any e.op)
  obtain ⟨tb, ht⟩ : ∃ b, twoB e.op = b := ⟨_, rfl⟩
  rw [ht] at HTW hR
  obtain ⟨Lb, hL⟩ : ∃ b, decide (e.l.length = 2) = b := ⟨_, rfl⟩
  have hL2 : ((e.l.length : Int) == 2) = Lb := by rw [← hL, Bool.eq_iff_iff]; simp; omega
  have hL3 : Lb = true → 0 < e.l.length ∧ 1 < e.l.length := fun h => by rw [h] at hL; simp at hL; omega
  rw [hL] at hR
  have HK := Lib.hid hR
  have HL3 := Lib.hid hL3
  clear hR hL hL3 ht hOne
  go_wp2_with fail
  refine (HTW.out _).mono ?_
  rintro en w1 ⟨rfl, hb1⟩
  clear q0 q1 q2 q3 q4 q5
  have hb01 : Below w0.heap.size w0 w1 := by exact bl
  obtain ⟨q0, q1, q2, q3, q4, q5⟩ := HSH.out w1 hb01
  cases tb
  ·go_wp2_with fail
   go_ret
   exact ⟨by rw [← HK.out]; rfl, HBW.out _ (by exact bl)⟩
  ·cases Z
   ·go_wp2_with fail
    go_ret
    exact ⟨by rw [← HK.out]; rfl, HBW.out _ (by exact bl)⟩
   ·cases Sb
    ·go_wp2_with fail
     go_ret
     exact ⟨by rw [← HK.out]; rfl, HBW.out _ (by exact bl)⟩
    ·cases Lb
     ·go_wp2_with fail
      go_ret
      exact ⟨by rw [← HK.out]; rfl, HBW.out _ (by exact bl)⟩
     ·obtain ⟨hl, hl'⟩ := HL3.out rfl
      have i2 : (0 : Int) < (e.l.length : Int) := by omega
      have i3 : (1 : Int) < (e.l.length : Int) := by omega
      obtain ⟨m, b1, o1', x, A', c', e1, e2, hbB, _, hgd, hfx, hxc, hxm, ⟨c0, c1, c2, c3, c4, c5⟩, hx⟩ := six0 (HE.out w1 hb01) hl
      obtain ⟨m', b2, o2', y, A2, c2', e1', e2', hbB', _, hgd', hfy, hyc, hym, hsix, hy⟩ := six0 (HE.out w1 hb01) hl'
      have em : m' = m := by omega
      subst em
      subst e2
      cases e2'
      obtain ⟨d0, d1, d2, d3, d4, d5⟩ := hsix
      have hk := HK.out
      rw [hgd, hgd'] at hk
      have HK2 := Lib.hid hk
      have HX := Lib.hid hx
      have HY : Hid (∀ Y : World, Below w1.heap.size w1 Y → ExS 1000 m' Y Y.heap.size A2 y.l) := fun Y h => (hy.below m' h).more h.size m'
      have HDS : Hid (∀ Y : World, Below w1.heap.size w1 Y → Six Y b1 (o1' + 6) y A2 c2') := fun Y h => Six.keep ⟨d0, d1, d2, d3, d4, d5⟩ fun o => h.cell (p := ⟨b1, o, none⟩) hbB'
      have HFX := Lib.hid hfx
      have HFY := Lib.hid hfy
      simp only [Nat.zero_mul, Nat.add_zero] at c0 c1 c2 c3 c4 c5
      clear hk HK hgd hgd' hfx hfy hx hy hxm hxc hym hyc e1 e1' d0 d1 d2 d3 d4 d5
      go_wp2_with fail
      refine (HIH.out x A' c' m' _ HFX.out (HX.out)).mono ?_
      rintro en w2 ⟨rfl, hb2⟩
      have hb02 : Below w0.heap.size w0 w2 := hb01.trans (hb2.mono hb01.size)
      clear q0 q1 q2 q3 q4 q5 c0 c1 c2 c3 c4 c5
      obtain ⟨q0, q1, q2, q3, q4, q5⟩ := HSH.out w2 hb02
      obtain ⟨d0, d1, d2, d3, d4, d5⟩ := HDS.out w2 hb2
      cases hfxx : formE d x
      ·rw [hfxx] at HK2
       clear hfxx
       go_wp2_with fail
       go_ret
       exact ⟨by rw [← HK2.out]; rfl, HBW.out w2 (by exact bl)⟩
      ·rw [hfxx] at HK2
       clear hfxx
       go_wp2_with fail
       refine (HIH.out y A2 c2' m' _ HFY.out (HY.out _ hb2)).mono ?_
       rintro en w3 ⟨rfl, hb3⟩
       have hb03 : Below w0.heap.size w0 w3 := hb02.trans (hb3.mono hb02.size)
       go_wp2_with fail
       go_ret
       exact ⟨by rw [← HK2.out]; cases formE d y <;> rfl, HBW.out w3 hb03⟩
end Go.Proofs.YtchilcchogcibaaGreatDoor
