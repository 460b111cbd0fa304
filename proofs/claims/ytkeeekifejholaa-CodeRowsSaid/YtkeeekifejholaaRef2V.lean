/- The document's octets of a value and of a row. Condition: numbers of 64 bits, texts that memory reaches. -/
import Derived.Test.YtkeeekifejholaaRef1
import Derived.Test.YtkeeekifejholaaCodeRow
namespace Go.Proofs.Ytkeeekifejholaa
open Go.RowKit

attribute [local go_sem] ByteArray.extract_mk ba_get ba_append

theorem add_top (i : Int) (h1 : -9223372036854775808 ≤ i) (h2 : i ≤ 9223372036854775807) : IntKind.u64.wrap (IntKind.u64.wrap i + 9223372036854775808) = i + 9223372036854775808 := by
  rw [IntKind.wrap_u64, IntKind.wrap_u64]
  omega

theorem be8_len (u j : Nat) : (be8 u j).length = j := by simp [be8]
theorem be8_tail (u j : Nat) (h : j < 8) : (be8 u 8).drop (8 - (j + 1)) = UInt8.ofNat (u / 256 ^ j) :: (be8 u 8).drop (8 - j) := by
  rw [List.drop_eq_getElem_cons (by rw [be8_len]; omega), show 8 - (j + 1) + 1 = 8 - j by omega]
  congr 1
  simp only [be8, List.getElem_map, List.getElem_range]
  congr 2
  rw [show (256 : Nat) = 2 ^ 8 from rfl, ← Nat.pow_mul]
  congr 1
  omega

set_option maxRecDepth 100000 in
set_option maxHeartbeats 400000 in
theorem rvalue_bad (k i : Int) (s : List UInt8) (w : World) (hs : s.length ≤ 140737488351232) (hm : mayB k i s = false) :
    Calls Try.prog 20 #[.agg #[.int .i64 k, .int .i64 i, .string ⟨s.toArray⟩]] w (Ret (.string ⟨[(0 : UInt8)].toArray⟩) w) := by
  have HM := Lib.hid hm
  clear hm
  go_enter Try.func20, Try.ntmps20
  go_wp2_with fail
  refine (rmay_any _ _ _ _ hs).mono ?_
  rintro e w1 ⟨rfl, hb1⟩
  rw [HM.out]
  go_wp2
  go_ret
  exact ⟨rfl, by ((repeat' (first | with_reducible exact Below.refl _ _ | with_reducible assumption | with_reducible refine Below.drew ?_ | with_reducible refine below_drewN ?_ _ | with_reducible refine Below.setCell ?_ ?_ _ | with_reducible refine Below.alloc ?_ ?_ _ | with_reducible refine Below.trans ?_ (Below.mono (by assumption) ?_))) <;> (first | (simp; done) | (simp; omega) | omega))⟩


set_option maxRecDepth 100000 in
set_option maxHeartbeats 400000 in
theorem rvalue_null (w : World) :
    Calls Try.prog 20 #[.agg #[.int .i64 0, .int .i64 0, .string ⟨#[]⟩]] w (Ret (.string ⟨[(0 : UInt8)].toArray⟩) w) := by
  have HM := Lib.hid (show mayB 0 0 [] = true from rfl)
  go_enter Try.func20, Try.ntmps20
  go_wp2_with fail
  refine (rmay_any _ _ _ _ (by first | exact hs | simp)).mono ?_
  rintro e w1 ⟨rfl, hb1⟩
  rw [HM.out]
  obtain ⟨hc1, hf1⟩ := bcell hb1
  have hz1 := hb1.size
  simp at hz1 hc1 hf1
  have hy1 : w.heap.size < w1.heap.size := by omega
  have hcv := own_text (P := Try.prog) Try.underlying45 Try.underlying5 Try.underlying9 (own_new w1 (w.heap.size + 1) 5 0 0 rfl (by omega))
  go_wp2
  go_ret
  exact ⟨rfl, by ((repeat' (first | with_reducible exact Below.refl _ _ | with_reducible assumption | with_reducible refine Below.drew ?_ | with_reducible refine below_drewN ?_ _ | with_reducible refine Below.setCell ?_ ?_ _ | with_reducible refine Below.alloc ?_ ?_ _ | with_reducible refine Below.trans ?_ (Below.mono (by assumption) ?_))) <;> (first | (simp; done) | (simp; omega) | omega))⟩

set_option maxRecDepth 100000 in
set_option maxHeartbeats 400000 in
theorem rvalue_text (s : List UInt8) (w : World) (hs : s.length ≤ 140737488351232) (hm : mayB 2 0 s = true) :
    Calls Try.prog 20 #[.agg #[.int .i64 2, .int .i64 0, .string ⟨s.toArray⟩]] w (Ret (.string ⟨(2 :: s ++ [0]).toArray⟩) w) := by
  have HM := Lib.hid hm
  clear hm
  go_enter Try.func20, Try.ntmps20
  go_wp2_with fail
  refine (rmay_any _ _ _ _ (by first | exact hs | simp)).mono ?_
  rintro e w1 ⟨rfl, hb1⟩
  rw [HM.out]
  obtain ⟨hc1, hf1⟩ := bcell hb1
  have hz1 := hb1.size
  simp at hz1 hc1 hf1
  have hy1 : w.heap.size < w1.heap.size := by omega
  have hcv := own_text (P := Try.prog) Try.underlying45 Try.underlying5 Try.underlying9 (own_new w1 (w.heap.size + 1) 5 2 2 rfl (by omega))
  go_wp2
  go_ret
  exact ⟨rfl, by ((repeat' (first | with_reducible exact Below.refl _ _ | with_reducible assumption | with_reducible refine Below.drew ?_ | with_reducible refine below_drewN ?_ _ | with_reducible refine Below.setCell ?_ ?_ _ | with_reducible refine Below.alloc ?_ ?_ _ | with_reducible refine Below.trans ?_ (Below.mono (by assumption) ?_))) <;> (first | (simp; done) | (simp; omega) | omega))⟩

set_option maxRecDepth 100000 in
set_option maxHeartbeats 400000 in
theorem rvalue_bool (i : Int) (w : World) (hi : i = 0 ∨ i = 1) :
    Calls Try.prog 20 #[.agg #[.int .i64 3, .int .i64 i, .string ⟨#[]⟩]] w (Ret (.string ⟨[(3 : UInt8), UInt8.ofNat i.toNat].toArray⟩) w) := by
  have hm : mayB 3 i [] = true := by rcases hi with rfl | rfl <;> rfl
  have HM := Lib.hid hm
  clear hm
  have hlo : 0 ≤ i := by omega
  have hhi : i ≤ 1 := by omega
  clear hi
  go_enter Try.func20, Try.ntmps20
  go_wp2_with fail
  refine (rmay_any _ _ _ _ (by first | exact hs | simp)).mono ?_
  rintro e w1 ⟨rfl, hb1⟩
  rw [HM.out]
  obtain ⟨hc1, hf1⟩ := bcell hb1
  have hz1 := hb1.size
  simp at hz1 hc1 hf1
  have hy1 : w.heap.size < w1.heap.size := by omega
  have hcv := own_text (P := Try.prog) Try.underlying45 Try.underlying5 Try.underlying9 (own_new w1 (w.heap.size + 1) 5 3 3 rfl (by omega))
  have hcw := own_text (P := Try.prog) Try.underlying45 Try.underlying5 Try.underlying9 (own_new' (w1.alloc (.cells #[.int .u8 3] 5)) (w1.heap.size + 1) (w.heap.size + 1) 5 i (UInt8.ofNat i.toNat) (by rw [u8_of]; omega) (by simp) (by omega))
  go_wp2
  go_ret
  exact ⟨rfl, by ((repeat' (first | with_reducible exact Below.refl _ _ | with_reducible assumption | with_reducible refine Below.drew ?_ | with_reducible refine below_drewN ?_ _ | with_reducible refine Below.setCell ?_ ?_ _ | with_reducible refine Below.alloc ?_ ?_ _ | with_reducible refine Below.trans ?_ (Below.mono (by assumption) ?_))) <;> (first | (simp; done) | (simp; omega) | omega))⟩

set_option maxRecDepth 100000 in
set_option maxHeartbeats 400000 in
theorem rvalue_int (i : Int) (w : World) (hi1 : -9223372036854775808 ≤ i) (hi2 : i ≤ 9223372036854775807) :
    Calls Try.prog 20 #[.agg #[.int .i64 1, .int .i64 i, .string ⟨#[]⟩]] w (Ret (.string ⟨(1 :: be8 (i + 9223372036854775808).toNat 8).toArray⟩) w) := by
  have HM := Lib.hid (show mayB 1 i [] = true from rfl)
  go_enter Try.func20, Try.ntmps20
  go_wp2_with fail
  refine (rmay_any _ _ _ _ (by first | exact hs | simp)).mono ?_
  rintro e w1 ⟨rfl, hb1⟩
  rw [HM.out]
  obtain ⟨hc1, hf1⟩ := bcell hb1
  have hz1 := hb1.size
  simp at hz1 hc1 hf1
  have hy1 : w.heap.size < w1.heap.size := by omega
  have hcv := own_text (P := Try.prog) Try.underlying45 Try.underlying5 Try.underlying9 (own_new w1 (w.heap.size + 1) 5 1 1 rfl (by omega))
  go_wp2_with fail
  obtain ⟨U, hU⟩ : ∃ U : Nat, IntKind.u64.wrap (IntKind.u64.wrap i + 9223372036854775808) = (U : Int) := ⟨(i + 9223372036854775808).toNat, by rw [add_top i hi1 hi2]; omega⟩
  rw [hU]
  have hUU : (i + 9223372036854775808).toNat = U := by rw [add_top i hi1 hi2] at hU; omega
  have HU := Lib.hid hUU
  have hUl : U < 18446744073709551616 := by omega
  clear hU hUU hcv hc1 hf1
  have hbw1 : Below w.heap.size w (w1.alloc (Obj.cells #[Value.int IntKind.u8 1] 5)) := by ((repeat' (first | with_reducible exact Below.refl _ _ | with_reducible assumption | with_reducible refine Below.drew ?_ | with_reducible refine below_drewN ?_ _ | with_reducible refine Below.setCell ?_ ?_ _ | with_reducible refine Below.alloc ?_ ?_ _ | with_reducible refine Below.trans ?_ (Below.mono (by assumption) ?_))) <;> (first | (simp; done) | (simp; omega) | omega))
  go_loopw [4, 5, 6] (fun n t o wr => ∃ j N : Nat, j ≤ 8 ∧ o = .int .i64 j ∧ N < 18446744073709551616 ∧ n = .int .u64 N ∧ Hid (N = U / 256 ^ j) ∧ t = .string ⟨((be8 U 8).drop (8 - j)).toArray⟩ ∧ Below w.heap.size w wr) (fun _ _ o _ => 8 - (intOf o).toNat)
  case atStart => exact ⟨0, U, by omega, rfl, hUl, rfl, by simp [Hid], by rw [List.drop_of_length_le (by rw [be8_len]; omega)], hbw1⟩
  case round =>
    obtain ⟨j, N, hj, rfl, hN, rfl, HN, rfl, hbw⟩ := hrel
    clear hbw1 hb1
    have hzw := hbw.size
    by_cases hlt : j < 8
    · have htl := be8_tail U j hlt
      rw [← HN.out] at htl
      have HT := Lib.hid htl
      have hlen : ((be8 U 8).drop (8 - j)).length ≤ 8 := by rw [List.length_drop, be8_len]; omega
      have HN2 : Hid (N / 256 = U / 256 ^ (j + 1)) := by
        show N / 256 = U / 256 ^ (j + 1)
        rw [HN.out, Nat.div_div_eq_div_mul, Nat.pow_succ]
      clear htl HN
      generalize (be8 U 8).drop (8 - j) = T at *
      have hcv := own_text (P := Try.prog) Try.underlying45 Try.underlying5 Try.underlying9 (own_new wr (w.heap.size) 5 ((N : Int) % 256) (UInt8.ofNat N) (by rw [u8_of]) (by omega))
      go_wp2
      go_roundw
      case rel => exact ⟨j + 1, N / 256, by omega, by go_num, by omega, by simp, HN2, by rw [HT.out], by ((repeat' (first | with_reducible exact Below.refl _ _ | with_reducible assumption | with_reducible refine Below.drew ?_ | with_reducible refine below_drewN ?_ _ | with_reducible refine Below.setCell ?_ ?_ _ | with_reducible refine Below.alloc ?_ ?_ _ | with_reducible refine Below.trans ?_ (Below.mono (by assumption) ?_))) <;> (first | (simp; done) | (simp; omega) | omega))⟩
      case measure => simp [intOf]; omega
    · have hfull : (be8 U 8).drop (8 - j) = be8 U 8 := by rw [show 8 - j = 0 by omega]; rfl
      rw [hfull]
      have hlen : (be8 U 8).length ≤ 8 := by rw [be8_len]; omega
      obtain ⟨T, hT⟩ : ∃ T, be8 U 8 = T := ⟨_, rfl⟩
      rw [hT] at hlen ⊢
      have HT := Lib.hid hT
      clear hT hfull
      go_wp2
      go_ret
      exact ⟨by rw [HU.out, HT.out]; rfl, hbw⟩

theorem rvalue_any (k i : Int) (s : List UInt8) (w : World) (hi1 : -9223372036854775808 ≤ i) (hi2 : i ≤ 9223372036854775807) (hs : s.length ≤ 140737488351232) :
    Calls Try.prog 20 #[.agg #[.int .i64 k, .int .i64 i, .string ⟨s.toArray⟩]] w (Ret (.string ⟨(codeV k i s).toArray⟩) w) := by
  unfold codeV
  by_cases hm : mayB k i s = false
  · rw [if_pos hm]; exact rvalue_bad k i s w hs hm
  · rw [if_neg hm]
    have hm' : mayB k i s = true := by simpa using hm
    have hM := hm'
    unfold mayB at hm'
    by_cases h0 : k = 0
    · subst h0
      simp at hm'
      obtain ⟨rfl, rfl⟩ := hm'
      exact rvalue_null w
    · by_cases h1 : k = 1
      · subst h1
        simp at hm'
        subst hm'
        exact rvalue_int i w hi1 hi2
      · by_cases h2 : k = 2
        · subst h2
          simp at hm'
          obtain ⟨⟨rfl, hl⟩, _⟩ := hm'
          exact rvalue_text s w hs hM
        · by_cases h3 : k = 3
          · subst h3
            simp at hm'
            obtain ⟨hi, rfl⟩ := hm'
            exact rvalue_bool i w hi
          · simp [h0, h1, h2, h3] at hm'

set_option maxHeartbeats 400000 in
theorem rrow_any (A : Option Addr) (c : Nat) (l : List V) (w : World) (hl : l.length ≤ 1000000) (hwf : ∀ v ∈ l, v.wf) (h : VS w w.heap.size A l) :
    Calls Try.prog 19 #[.slice A l.length c] w (Ret (.tuple #[.string ⟨(rowS l).toArray⟩, .bool (rowOk l)]) w) := by
  obtain ⟨S, hS⟩ : ∃ S, rowS l = S := ⟨_, rfl⟩
  obtain ⟨E, hE⟩ : ∃ E, rowOk l = E := ⟨_, rfl⟩
  rw [hS, hE]
  have HS := Lib.hid hS
  have HE := Lib.hid hE
  clear hS hE
  go_enter Try.func19, Try.ntmps19
  go_wp2
  go_loopw [4, 5] (fun o i wr => ∃ j : Nat, j ≤ l.length ∧ i = .int .i64 j ∧ Hid ((l.take j).all V.may = true) ∧ o = .string ⟨((l.take j).flatMap V.code).toArray⟩ ∧ Below w.heap.size w wr) (fun _ i _ => l.length - (intOf i).toNat)
  case atStart => exact ⟨0, by omega, rfl, rfl, rfl, Below.refl _ _⟩
  case round =>
    obtain ⟨j, hj, rfl, hall, rfl, hbw⟩ := hrel
    by_cases hlt : j < l.length
    · obtain ⟨b, off, v, rfl, hbB, hv, c0, c1, c2⟩ := (h.below hbw).at_ hlt
      have hmem : v ∈ l := List.mem_of_getElem? hv
      have HW := Lib.hid (hwf v hmem)
      have hzw := hbw.size
      cases hm : mayB v.k v.i v.s
      · have hno : rowOk l = false := by
          simp only [rowOk, Bool.and_eq_false_iff]
          right
          exact List.all_eq_false.2 ⟨v, hmem, by unfold V.may; rw [hm]; decide⟩
        have hS : S = [] := by rw [← HS.out]; unfold rowS; rw [hno]; rfl
        have hE : E = false := by rw [← HE.out]; exact hno
        have HM := Lib.hid hm
        have H1 := Lib.hid (And.intro hS hE)
        clear hS hE hm hno hv hmem HS HE
        go_wp2_with fail
        refine (rmay_any _ _ _ _ HW.out.2.2).mono ?_
        rintro e w1 ⟨rfl, hb1⟩
        rw [HM.out]
        go_wp2
        go_ret2
        refine ⟨by rw [H1.out.1, H1.out.2]; rfl, ?_⟩
        ((repeat' (first | with_reducible exact Below.refl _ _ | with_reducible assumption | with_reducible refine Below.drew ?_ | with_reducible refine below_drewN ?_ _ | with_reducible refine Below.setCell ?_ ?_ _ | with_reducible refine Below.alloc ?_ ?_ _ | with_reducible refine Below.trans ?_ (Below.mono (by assumption) ?_))) <;> (first | (simp; done) | (simp; omega) | omega))
      · have hall2 : Hid ((l.take (j + 1)).all V.may = true) := by
          show (l.take (j + 1)).all V.may = true
          rw [List.take_add_one, hv, List.all_append, hall.out]
          simp [V.may, hm]
        have hcat : (l.take (j + 1)).flatMap V.code = (l.take j).flatMap V.code ++ codeV v.k v.i v.s := by
          rw [List.take_add_one, hv, List.flatMap_append]
          simp [V.code]
        have HC := Lib.hid hcat
        have hlen := flat_len _ hall2.out
        rw [hcat, List.length_append] at hlen
        have hlen2 : (l.take (j + 1)).length ≤ l.length := by rw [List.length_take]; omega
        have HM := Lib.hid hm
        clear hm hcat hv hmem hall
        generalize (l.take j).flatMap V.code = P at *
        have hlen3 : P.length + (codeV v.k v.i v.s).length ≤ 60000000 := by omega
        clear hlen hlen2
        go_wp2_with fail
        refine (rmay_any _ _ _ _ HW.out.2.2).mono ?_
        rintro e w1 ⟨rfl, hb1⟩
        rw [HM.out]
        have hz1 := hb1.size
        have C0 := (hb1.cell (p := ⟨b, off + j * 3, none⟩) (by show b < _; omega)).trans c0
        have C1 := (hb1.cell (p := ⟨b, off + j * 3 + 1, none⟩) (by show b < _; omega)).trans c1
        have C2 := (hb1.cell (p := ⟨b, off + j * 3 + 2, none⟩) (by show b < _; omega)).trans c2
        clear c0 c1 c2
        go_wp2_with fail
        refine (rvalue_any _ _ _ _ HW.out.2.1.1 HW.out.2.1.2 HW.out.2.2).mono ?_
        rintro e w2 ⟨rfl, hb2⟩
        have hz2 := hb2.size
        clear C0 C1 C2
        go_wp2
        go_roundw
        case rel =>
          refine ⟨j + 1, by omega, by go_num, hall2, by rw [HC.out], ?_⟩
          ((repeat' (first | with_reducible exact Below.refl _ _ | with_reducible assumption | with_reducible refine Below.drew ?_ | with_reducible refine below_drewN ?_ _ | with_reducible refine Below.setCell ?_ ?_ _ | with_reducible refine Below.alloc ?_ ?_ _ | with_reducible refine Below.trans ?_ (Below.mono (by assumption) ?_))) <;> (first | (simp; done) | (simp; omega) | omega))
        case measure => simp [intOf]; omega
    · have e : l.take j = l := List.take_of_length_le (by omega)
      rw [e] at hall ⊢
      have hal := hall.out
      clear e hall
      by_cases h12 : l.length ≤ 12
      · have hok : rowOk l = true := by simp [rowOk, h12, hal]
        have hS : S = l.flatMap V.code := by rw [← HS.out]; unfold rowS; rw [hok]; rfl
        have hE : E = true := by rw [← HE.out]; exact hok
        have H1 := Lib.hid (And.intro hS hE)
        clear hS hE hok hal HS HE
        generalize l.flatMap V.code = P at *
        go_wp2
        go_ret2
        exact ⟨by rw [H1.out.1, H1.out.2]; rfl, hbw⟩
      · have hno : rowOk l = false := by simp [rowOk]; omega
        have hS : S = [] := by rw [← HS.out]; unfold rowS; rw [hno]; rfl
        have hE : E = false := by rw [← HE.out]; exact hno
        have H1 := Lib.hid (And.intro hS hE)
        clear hS hE hno hal HS HE
        generalize l.flatMap V.code = P at *
        go_wp2
        go_ret2
        exact ⟨by rw [H1.out.1, H1.out.2]; rfl, hbw⟩

end Go.Proofs.Ytkeeekifejholaa
