/- code.Row: a row's octets, or ErrArg. Condition: numbers of 64 bits, texts that memory reaches. -/
import Derived.Test.YtkeeekifejholaaCodeAny
namespace Go.Proofs.Ytkeeekifejholaa
open Go.RowKit

attribute [local go_sem] ByteArray.extract_mk ba_get ba_append

def V.may (v : V) : Bool := mayB v.k v.i v.s
def V.code (v : V) : List UInt8 := codeV v.k v.i v.s
def rowOk (l : List V) : Bool := decide (l.length ≤ 12) && l.all V.may
def rowS (l : List V) : List UInt8 := if rowOk l then l.flatMap V.code else []
def rowE (l : List V) : Int := if rowOk l then 0 else 1

theorem codeV_len (v : V) (h : v.may = true) : v.code.length ≤ 60 := by
  unfold V.code codeV
  unfold V.may at h
  rw [h]
  unfold mayB at h
  split
  · simp
  · split
    · simp [be8]
    · split
      · rename_i h1 h2
        simp [h2] at h ⊢
        omega
      · split <;> simp

theorem flat_len (l : List V) (h : l.all V.may = true) : (l.flatMap V.code).length ≤ 60 * l.length := by
  induction l with
  | nil => simp
  | cons v r ih =>
    simp only [List.all_cons, Bool.and_eq_true] at h
    have h1 := codeV_len v h.1
    have h2 := ih h.2
    rw [List.flatMap_cons, List.length_append, List.length_cons]
    omega

set_option maxHeartbeats 400000 in
theorem row_any (A : Option Addr) (c : Nat) (l : List V) (w : World) (hl : l.length ≤ maxLen) (hwf : ∀ v ∈ l, v.wf) (h : VS w w.heap.size A l) :
    Calls Try.prog 12 #[.slice A l.length c] w (Ret (.tuple #[.string ⟨(rowS l).toArray⟩, .int .i64 (rowE l)]) w) := by
  unfold maxLen at hl
  by_cases h12 : l.length ≤ 12
  · obtain ⟨S, hS⟩ : ∃ S, rowS l = S := ⟨_, rfl⟩
    obtain ⟨E, hE⟩ : ∃ E, rowE l = E := ⟨_, rfl⟩
    rw [hS, hE]
    have HS := Lib.hid hS
    have HE := Lib.hid hE
    clear hS hE
    go_enter Try.func12, Try.ntmps12
    go_wp2
    go_loopw [4, 12] (fun o i wr => ∃ j : Nat, j ≤ l.length ∧ i = .int .i64 j ∧ Hid ((l.take j).all V.may = true) ∧ o = .string ⟨((l.take j).flatMap V.code).toArray⟩ ∧ Below w.heap.size w wr) (fun _ i _ => l.length - (intOf i).toNat)
    case atStart => exact ⟨0, by omega, rfl, rfl, rfl, Below.refl _ _⟩
    case round =>
      obtain ⟨j, hj, rfl, hall, rfl, hbw⟩ := hrel
      by_cases hlt : j < l.length
      · obtain ⟨b, off, v, rfl, hbB, hv, c0, c1, c2⟩ := (h.below hbw).at_ hlt
        have hmem : v ∈ l := List.mem_of_getElem? hv
        have HW := Lib.hid (hwf v hmem)
        have hzw := hbw.size
        cases hm : mayB v.k v.i v.s
        · have hno : rowOk l = false := by
            simp only [rowOk, Bool.and_eq_false_iff]
            right
            exact List.all_eq_false.2 ⟨v, hmem, by unfold V.may; rw [hm]; decide⟩
          have hS : S = [] := by rw [← HS.out]; unfold rowS; rw [hno]; rfl
          have hE : E = 1 := by rw [← HE.out]; unfold rowE; rw [hno]; rfl
          have HM := Lib.hid hm
          have H1 := Lib.hid (And.intro hS hE)
          clear hS hE hm hno hv hmem HS HE
          go_wp2_with fail
          refine (may_any _ _ _ _).mono ?_
          rintro e w1 ⟨rfl, hb1⟩
          rw [HM.out]
          go_wp2
          go_ret2
          refine ⟨by rw [H1.out.1, H1.out.2]; rfl, ?_⟩
          ((repeat' (first | with_reducible exact Below.refl _ _ | with_reducible assumption | with_reducible refine Below.drew ?_ | with_reducible refine below_drewN ?_ _ | with_reducible refine Below.setCell ?_ ?_ _ | with_reducible refine Below.alloc ?_ ?_ _ | with_reducible refine Below.trans ?_ (Below.mono (by assumption) ?_))) <;> (first | (simp; done) | (simp; omega) | omega))
        · have hall2 : Hid ((l.take (j + 1)).all V.may = true) := by
            show (l.take (j + 1)).all V.may = true
            rw [List.take_add_one, hv, List.all_append, hall.out]
            simp [V.may, hm]
          have hcat : (l.take (j + 1)).flatMap V.code = (l.take j).flatMap V.code ++ codeV v.k v.i v.s := by
            rw [List.take_add_one, hv, List.flatMap_append]
            simp [V.code]
          have HC := Lib.hid hcat
          have hlen := flat_len _ hall2.out
          rw [hcat, List.length_append] at hlen
          have hlen2 : (l.take (j + 1)).length ≤ 12 := by rw [List.length_take]; omega
          have HM := Lib.hid hm
          clear hm hcat hv hmem hall
          generalize (l.take j).flatMap V.code = P at *
          have hlen3 : P.length + (codeV v.k v.i v.s).length ≤ 720 := by omega
          clear hlen hlen2
          go_wp2_with fail
          refine (may_any _ _ _ _).mono ?_
          rintro e w1 ⟨rfl, hb1⟩
          rw [HM.out]
          obtain ⟨hc1, hf1⟩ := bcell hb1
          have hz1 := hb1.size
          simp at hz1 hc1 hf1
          go_wp2_with fail
          refine (cvalue_any _ _ _ _ HW.out.2.1.1 HW.out.2.1.2).mono ?_
          rintro e w2 ⟨rfl, hb2⟩
          have hz2 := hb2.size
          go_wp2
          go_roundw
          case rel =>
            refine ⟨j + 1, by omega, by go_num, hall2, by rw [HC.out], ?_⟩
            ((repeat' (first | with_reducible exact Below.refl _ _ | with_reducible assumption | with_reducible refine Below.drew ?_ | with_reducible refine below_drewN ?_ _ | with_reducible refine Below.setCell ?_ ?_ _ | with_reducible refine Below.alloc ?_ ?_ _ | with_reducible refine Below.trans ?_ (Below.mono (by assumption) ?_))) <;> (first | (simp; done) | (simp; omega) | omega))
          case measure => simp [intOf]; omega
      · have e : l.take j = l := List.take_of_length_le (by omega)
        rw [e] at hall ⊢
        have hok : rowOk l = true := by simp [rowOk, h12, hall.out]
        have hS : S = l.flatMap V.code := by rw [← HS.out]; unfold rowS; rw [hok]; rfl
        have hE : E = 0 := by rw [← HE.out]; unfold rowE; rw [hok]; rfl
        have H1 := Lib.hid (And.intro hS hE)
        clear hS hE e hok hall
        generalize l.flatMap V.code = P at *
        go_wp2
        go_ret2
        exact ⟨by rw [H1.out.1, H1.out.2]; rfl, hbw⟩
  · have hno : rowOk l = false := by simp [rowOk]; omega
    have hS : rowS l = [] := by unfold rowS; rw [hno]; rfl
    have hE : rowE l = 1 := by unfold rowE; rw [hno]; rfl
    rw [hS, hE]
    clear hS hE hno
    go_enter Try.func12, Try.ntmps12
    go_wp2
    go_ret2
    exact ⟨rfl, Below.refl _ _⟩

end Go.Proofs.Ytkeeekifejholaa
