/- The document's Join of tokens as a plain function. Condition: tokens that read as a list, no more than a thousand, each text no longer than 60. -/
import Derived.Test.YtelkcfkmejcjaaaDoorLex6
import Derived.Test.YtelkcfkmejcjaaaDoorRef3May
import Derived.Test.YtelkcfkmejcjaaaDoorRef1Text
namespace Go.Proofs.YtelkcfkmejcjaaaDoor
open Go.RowKit

attribute [local go_sem] ByteArray.extract_mk ba_get ba_append
attribute [local go_sem ↓] Go.wp_at_zero Go.wp_at_succ

theorem joinT_snoc : ∀ (l : List Tok) (t : Tok), 0 < l.length → joinT (l ++ [t]) = joinT l ++ ([32] ++ wrT t)
  | [], _, h => absurd h (by simp)
  | [a], t, _ => by simp [joinT]
  | a :: b :: r, t, _ => by
    have ih := joinT_snoc (b :: r) t (by simp)
    simp only [List.cons_append, joinT] at ih ⊢
    rw [ih]; simp
theorem joinT_take (l : List Tok) (j : Nat) (t : Tok) (h : l[j]? = some t) : joinT (l.take (j + 1)) = joinT (l.take j) ++ ((if j = 0 then [] else [32]) ++ wrT t) := by
  obtain ⟨hj, rfl⟩ := List.getElem?_eq_some_iff.1 h
  rw [List.take_succ_eq_append_getElem hj]
  by_cases h0 : j = 0
  · subst h0; simp [joinT]
  · rw [joinT_snoc _ _ (by rw [List.length_take]; omega), if_neg h0]


set_option maxRecDepth 100000 in
set_option maxHeartbeats 2000000 in
theorem rjoinT_any (A : Option Addr) (c : Nat) (l : List Tok) (w : World) (hl : l.length ≤ 1000) (hs : ∀ t ∈ l, t.s.length ≤ 60) (hA : TkS w w.heap.size A l) :
    Calls Tryd.prog 43 #[.slice A l.length c] w (Ret (.tuple #[.string ⟨(joinF l).1.toArray⟩, .bool (decide ((joinF l).2 = 0))]) w) := by
  obtain ⟨R, hR⟩ : ∃ R, joinF l = R := ⟨_, rfl⟩
  rw [hR]
  have HS := Lib.hid hs
  have HR : Hid ((if decide (l.length ≤ 400) && (l.drop 0).all mayT then (joinT l, 0) else ([], 1)) = R) := hR
  have HJL : Hid (∀ j, (joinT (l.take j)).length ≤ 130000) := by
    intro j
    have h1 := joinT_len 60 (l.take j) (fun t ht => hs t (List.mem_of_mem_take ht))
    have h2 : (l.take j).length ≤ 1000 := by rw [List.length_take]; omega
    have h3 : (l.take j).length * (2 * 60 + 3) ≤ 1000 * (2 * 60 + 3) := Nat.mul_le_mul_right _ h2
    omega
  clear hs hR
  go_enter Tryd.func43, Tryd.ntmps43
  go_wp2
  go_loopw [4, 5] (fun v i wr => ∃ j : Nat, j ≤ l.length ∧ i = .int .i64 j ∧ v = .string ⟨(joinT (l.take j)).toArray⟩ ∧ Below w.heap.size w wr ∧ Hid ((if decide (l.length ≤ 400) && (l.drop j).all mayT then (joinT l, 0) else ([], 1)) = R)) (fun _ i _ => l.length - (intOf i).toNat)
  case atStart => exact ⟨0, by omega, rfl, rfl, Below.refl _ _, HR⟩
  case round =>
    obtain ⟨j, hj, rfl, rfl, hbr, HJ⟩ := hrel
    have hzr := hbr.size
    have hxl := HJL.out j
    by_cases hlt : j < l.length
    · obtain ⟨b1, o1, t, rfl, hbB1, hv, c0, c1⟩ := (hA.below hbr).at_ hlt
      have hJ := HJ.out
      rw [drop_atT l j t hv, List.all_cons] at hJ
      have hts : t.s.length ≤ 60 := HS.out t (List.mem_of_getElem? hv)
      have htk := joinT_take l j t hv
      have i1 : (0 : Int) ≤ (j : Int) := by omega
      have i2 : (j : Int) < (l.length : Int) := by omega
      clear HJ hv
      obtain ⟨X, hX⟩ : ∃ X, joinT (l.take j) = X := ⟨_, rfl⟩
      rw [hX] at hxl htk ⊢
      go_wp2_with fail
      refine (rmayTok_any t.k t.s wr (by omega)).mono ?_
      rintro e w3 ⟨rfl, hb3⟩
      have hbw3 : Below w.heap.size w w3 := hbr.trans (hb3.mono hzr)
      have hz3 := hbw3.size
      have d0 := (hb3.cell (p := ⟨b1, o1 + j * 2, none⟩) (show b1 < _ by omega)).trans c0
      have d1 := (hb3.cell (p := ⟨b1, o1 + j * 2 + 1, none⟩) (show b1 < _ by omega)).trans c1
      clear c0 c1
      obtain ⟨m, hm⟩ : ∃ m, mayT ⟨t.k, t.s⟩ = m := ⟨_, rfl⟩
      rw [hm]
      have hmm : mayT t = m := hm
      rw [hmm] at hJ
      clear hm hmm
      cases m
      · have HF : Hid (R = ([], 1)) := by show _ = _; rw [← hJ]; simp
        clear hJ htk
        go_wp2_with fail
        go_ret2
        exact ⟨by rw [HF.out]; rfl, hbw3⟩
      · have HF : Hid ((if decide (l.length ≤ 400) && (l.drop (j + 1)).all mayT then (joinT l, 0) else ([], 1)) = R) := by show _ = _; rw [← hJ]; simp
        clear hJ
        by_cases hj0 : j = 0
        · subst hj0
          rw [if_pos rfl] at htk
          have HTK := Lib.hid htk
          simp only [Nat.zero_mul, Nat.add_zero] at d0 d1
          clear htk
          by_cases h3 : t.k = 3
          · have HWR : Hid (wrT t = textF 2 0 t.s) := by show _ = _; unfold wrT; rw [if_pos h3]
            have e3 : (t.k == 3) = true := by simpa using h3
            clear h3
            go_wp2_with fail
            refine (rtext_any 2 0 t.s w3 (by omega) (by omega) (by omega)).mono ?_
            have HXL : Hid ((textF 2 0 t.s).length ≤ 1000) := by
              show _ ≤ _
              have := wrT_len t
              rw [HWR.out] at this
              omega
            obtain ⟨Y, hY⟩ : ∃ Y, textF 2 0 t.s = Y := ⟨_, rfl⟩
            rw [hY] at HWR HXL ⊢
            have hyl := HXL.out
            rintro e w5 ⟨rfl, hb5⟩
            have hbw5 : Below w.heap.size w w5 := hbw3.trans (hb5.mono hz3)
            go_wp2_with fail
            go_roundw
            case rel => exact ⟨0 + 1, by omega, by go_num, by rw [HTK.out, HWR.out]; simp, by ((repeat' (first | with_reducible exact Below.refl _ _ | with_reducible assumption | with_reducible refine Below.drew ?_ | with_reducible refine below_drewN ?_ _ | with_reducible refine Below.setCell ?_ ?_ _ | with_reducible refine Below.alloc ?_ ?_ _ | with_reducible refine Below.trans ?_ (Below.mono (by assumption) ?_))) <;> (first | (simp; done) | (simp; omega) | omega)), HF⟩
            case measure => simp [intOf]; omega
          · have HWR : Hid (wrT t = t.s) := by show _ = _; unfold wrT; rw [if_neg h3]
            have e3 : (t.k == 3) = false := by simpa using h3
            clear h3
            go_wp2_with fail
            go_roundw
            case rel => exact ⟨0 + 1, by omega, by go_num, by rw [HTK.out, HWR.out]; simp, by ((repeat' (first | with_reducible exact Below.refl _ _ | with_reducible assumption | with_reducible refine Below.drew ?_ | with_reducible refine below_drewN ?_ _ | with_reducible refine Below.setCell ?_ ?_ _ | with_reducible refine Below.alloc ?_ ?_ _ | with_reducible refine Below.trans ?_ (Below.mono (by assumption) ?_))) <;> (first | (simp; done) | (simp; omega) | omega)), HF⟩
            case measure => simp [intOf]; omega
        · rw [if_neg hj0] at htk
          have HTK := Lib.hid htk
          have hj1 : (0 : Int) < (j : Int) := by omega
          clear htk
          by_cases h3 : t.k = 3
          · have HWR : Hid (wrT t = textF 2 0 t.s) := by show _ = _; unfold wrT; rw [if_pos h3]
            have e3 : (t.k == 3) = true := by simpa using h3
            clear h3
            go_wp2_with fail
            refine (rtext_any 2 0 t.s w3 (by omega) (by omega) (by omega)).mono ?_
            have HXL : Hid ((textF 2 0 t.s).length ≤ 1000) := by
              show _ ≤ _
              have := wrT_len t
              rw [HWR.out] at this
              omega
            obtain ⟨Y, hY⟩ : ∃ Y, textF 2 0 t.s = Y := ⟨_, rfl⟩
            rw [hY] at HWR HXL ⊢
            have hyl := HXL.out
            rintro e w5 ⟨rfl, hb5⟩
            have hbw5 : Below w.heap.size w w5 := hbw3.trans (hb5.mono hz3)
            go_wp2_with fail
            go_roundw
            case rel => exact ⟨j + 1, by omega, by go_num, by rw [HTK.out, HWR.out]; simp, by ((repeat' (first | with_reducible exact Below.refl _ _ | with_reducible assumption | with_reducible refine Below.drew ?_ | with_reducible refine below_drewN ?_ _ | with_reducible refine Below.setCell ?_ ?_ _ | with_reducible refine Below.alloc ?_ ?_ _ | with_reducible refine Below.trans ?_ (Below.mono (by assumption) ?_))) <;> (first | (simp; done) | (simp; omega) | omega)), HF⟩
            case measure => simp [intOf]; omega
          · have HWR : Hid (wrT t = t.s) := by show _ = _; unfold wrT; rw [if_neg h3]
            have e3 : (t.k == 3) = false := by simpa using h3
            clear h3
            go_wp2_with fail
            go_roundw
            case rel => exact ⟨j + 1, by omega, by go_num, by rw [HTK.out, HWR.out]; simp, by ((repeat' (first | with_reducible exact Below.refl _ _ | with_reducible assumption | with_reducible refine Below.drew ?_ | with_reducible refine below_drewN ?_ _ | with_reducible refine Below.setCell ?_ ?_ _ | with_reducible refine Below.alloc ?_ ?_ _ | with_reducible refine Below.trans ?_ (Below.mono (by assumption) ?_))) <;> (first | (simp; done) | (simp; omega) | omega)), HF⟩
            case measure => simp [intOf]; omega
    · obtain rfl : j = l.length := by omega
      have b0 : ¬ ((l.length : Int) < (l.length : Int)) := by omega
      have hJ := HJ.out
      rw [List.drop_of_length_le (Nat.le_refl _)] at hJ
      by_cases h400 : l.length ≤ 400
      · have HF : Hid (R = (joinT l, 0)) := by show _ = _; rw [← hJ]; simp [h400]
        have b4 : ¬ (400 : Int) < (l.length : Int) := by omega
        rw [List.take_length] at hxl ⊢
        clear hJ HJ
        go_wp2_with fail
        go_ret2
        exact ⟨by rw [HF.out]; rfl, hbr⟩
      · have HF : Hid (R = ([], 1)) := by show _ = _; rw [← hJ]; simp [h400]
        have b4 : (400 : Int) < (l.length : Int) := by omega
        clear hJ HJ
        go_wp2_with fail
        go_ret2
        exact ⟨by rw [HF.out]; rfl, hbr⟩

end Go.Proofs.YtelkcfkmejcjaaaDoor
