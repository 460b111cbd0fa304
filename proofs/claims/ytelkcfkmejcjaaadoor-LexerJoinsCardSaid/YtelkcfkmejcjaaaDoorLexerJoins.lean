/- caddislaw03.LexerJoins answers true: whatever tokens there are are written as the document says, or refused, and cut as they were. Condition: the library's length lies there. -/
import Derived.Test.YtelkcfkmejcjaaaDoorLexerAgain
import Derived.Test.YtelkcfkmejcjaaaDoorRef3Join
import Derived.Test.YtelkcfkmejcjaaaDoorTokens
namespace Go.Proofs.YtelkcfkmejcjaaaDoor
open Go.RowKit

attribute [local go_sem] ByteArray.extract_mk ba_get ba_append
attribute [local go_sem ↓] Go.wp_at_zero Go.wp_at_succ

set_option maxRecDepth 100000 in
set_option maxHeartbeats 2000000 in
theorem lexerJoins_walk (A : Option Addr) (c : Nat) (l0 : List Tok) (w : World) (hl : l0.length ≤ c) (hc : c ≤ maxLen) (hs : ∀ t ∈ l0, t.s.length ≤ maxLen) (hA : TkS w w.heap.size A l0) (hM : MaxL w) : Calls Tryd.prog 13 #[.slice A l0.length c] w (Ret (.bool true) w) := by
  have HM := Lib.hid hM
  clear hM
  go_enter Tryd.func13, Tryd.ntmps13
  go_wp2_with fail
  refine (tokens_any A c l0 w (by omega) hl hc hs hA).mono ?_
  have hlen := tokF_len l0
  have hts := tokF_s l0
  generalize tokF l0 = l at *
  clear hA hs hl hc
  have HS6 := Lib.hid hts
  have HSL : Hid (∀ t ∈ l, t.s.length ≤ 1000000) := fun t ht => by have := hts t ht; omega
  clear hts
  rintro e w2 ⟨A2, c2, rfl, _, _, hv2, hb2⟩
  have hv := hv2.vs (Nat.le_refl _)
  have M2 := Lib.hid (HM.out.below hb2 rfl)
  have hzw := hb2.size
  clear hv2 HM
  go_wp2_with fail
  refine (joinT_any A2 c2 l _ (by omega) HSL.out hv M2.out).mono ?_
  obtain ⟨R, hR⟩ : ∃ R, joinF l = R := ⟨_, rfl⟩
  rw [hR]
  rintro e w3 ⟨rfl, hb3⟩
  go_wp2_with fail
  refine (rjoinT_any A2 c2 l _ (by omega) HS6.out ((hv.below hb3).more hb3.size)).mono ?_
  rw [hR]
  rintro e w4 ⟨rfl, hb4⟩
  have hb24 := hb3.trans (hb4.mono hb3.size)
  by_cases hok : (decide (l.length ≤ 400) && l.all mayT) = true
  · obtain ⟨h4, hmay⟩ : l.length ≤ 400 ∧ ∀ t ∈ l, mayT t = true := by
      simp only [Bool.and_eq_true, decide_eq_true_eq, List.all_eq_true] at hok
      exact hok
    rw [joinF_ok hmay h4] at hR
    subst hR
    have HJS := Lib.hid (joinT_small hmay h4)
    have HCJ := Lib.hid (cut_joinT l hmay h4)
    clear hmay hok
    obtain ⟨J, hJ⟩ : ∃ J, joinT l = J := ⟨_, rfl⟩
    rw [hJ] at HJS HCJ
    dsimp only
    rw [hJ]
    go_wp2_with fail
    refine (cutT_any J _ (by have := HJS.out; omega) (M2.out.below hb24 rfl)).mono ?_
    rw [HCJ.out]
    rintro e w5 ⟨A5, c5, rfl, _, _, hv5, hb5⟩
    have hb25 := hb24.trans (hb5.mono hb24.size)
    dsimp only [cutRes]
    have hv2' := (hv.below hb25).more hb25.size
    have hv5' := hv5.vs (Nat.le_refl _)
    go_wp2_with fail
    refine (same3_any A5 A2 c5 c2 l l w5 (by unfold maxLen; omega) (by unfold maxLen; omega) hv5' hv2').mono ?_
    rw [tokSame_self]
    rintro e w6 ⟨rfl, hb6⟩
    have hb26 := hb25.trans (hb6.mono hb25.size)
    go_wp2_with fail
    refine (awake3_any _ (M2.out.below hb26 rfl)).mono ?_
    rintro e w7 ⟨rfl, hb7⟩
    have hb27 := hb26.trans (hb7.mono hb26.size)
    go_wp2_with fail
    go_ret
    exact ⟨rfl, hb2.trans (hb27.mono hzw)⟩
  · have hR2 : R = ([], 1) := by rw [← hR]; unfold joinF; rw [if_neg hok]
    subst hR2
    clear hR hok
    go_wp2_with fail
    refine (awake3_any _ (M2.out.below hb24 rfl)).mono ?_
    rintro e w7 ⟨rfl, hb7⟩
    have hb27 := hb24.trans (hb7.mono hb24.size)
    go_wp2_with fail
    go_ret
    exact ⟨rfl, hb2.trans (hb27.mono hzw)⟩

end Go.Proofs.YtelkcfkmejcjaaaDoor
