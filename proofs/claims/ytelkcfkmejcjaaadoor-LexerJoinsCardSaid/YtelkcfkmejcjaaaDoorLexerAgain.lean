/- caddislaw03.LexerAgain answers true: the tokens of a text, written and cut again, are the same; each may be, and there are no more than may be. Condition: the library's length lies there. -/
import Derived.Test.YtelkcfkmejcjaaaDoorLex6
import Derived.Test.YtelkcfkmejcjaaaDoorCutRes
namespace Go.Proofs.YtelkcfkmejcjaaaDoor
open Go.RowKit

attribute [local go_sem] ByteArray.extract_mk ba_get ba_append
attribute [local go_sem ↓] Go.wp_at_zero Go.wp_at_succ

theorem joinF_ok {l : List Tok} (h : ∀ t ∈ l, mayT t = true) (hl : l.length ≤ 400) : joinF l = (joinT l, 0) := by
  have : l.all mayT = true := List.all_eq_true.2 h
  simp [joinF, hl, this]
theorem joinT_small {l : List Tok} (h : ∀ t ∈ l, mayT t = true) (hl : l.length ≤ 400) : (joinT l).length ≤ 40000 := by
  have h1 := joinT_len 40 l (fun t ht => mayT_len (h t ht))
  have h2 : l.length * (2 * 40 + 3) ≤ 400 * (2 * 40 + 3) := Nat.mul_le_mul_right _ hl
  omega

set_option maxRecDepth 100000 in
set_option maxHeartbeats 2000000 in
theorem lexerAgain_walk (s : List UInt8) (w : World) (hs : s.length ≤ maxLen) (hM : MaxL w) : Calls Tryd.prog 14 #[.string ⟨s.toArray⟩] w (Ret (.bool true) w) := by
  have HM := Lib.hid hM
  clear hM
  go_enter Tryd.func14, Tryd.ntmps14
  go_wp2_with fail
  refine (few3_any s _ hs).mono ?_
  rintro e w1 ⟨rfl, rfl⟩
  have hS : (s.take 1200).length ≤ 1200 := by rw [List.length_take]; omega
  generalize s.take 1200 = S at *
  clear hs
  go_wp2_with fail
  refine (cutT_any S _ (by omega) HM.out).mono ?_
  cases hcut : cutT S with
  | none =>
    rintro e w2 ⟨A2, c2, rfl, _, _, hv2, hb2⟩
    dsimp only [cutRes, List.length_nil]
    go_wp2_with (go_at_call 44; refine (awake3_any _ (HM.out.below hb2 rfl)).mono ?_; rintro e w3 ⟨rfl, hb3⟩)
    go_ret
    exact ⟨rfl, hb2.trans (hb3.mono hb2.size)⟩
  | some l =>
    obtain ⟨hts, hl⟩ := cutT_some hcut
    have hmay := toks_may S.length S l (Nat.le_refl _) hts
    have HMAY := Lib.hid hmay
    have HJ := Lib.hid (joinF_ok hmay hl)
    have HJS := Lib.hid (joinT_small hmay hl)
    have HCJ := Lib.hid (cut_joinT l hmay hl)
    have hsl : ∀ t ∈ l, t.s.length ≤ 1000000 := fun t ht => Nat.le_trans (mayT_len (hmay t ht)) (by omega)
    have HSL := Lib.hid hsl
    clear hcut hts hmay hsl
    rintro e w2 ⟨A2, c2, rfl, _, _, hv2, hb2⟩
    dsimp only [cutRes]
    have hv := hv2.vs (Nat.le_refl _)
    have M2 := Lib.hid (HM.out.below hb2 rfl)
    have hzw := hb2.size
    clear hv2 HM
    go_wp2_with fail
    go_loopg [5] l.length (fun g i wr => ∃ j : Nat, j + g = l.length ∧ i = .int .i64 j ∧ Below w2.heap.size w2 wr)
    case atStart => exact ⟨0, by omega, rfl, Below.refl _ _⟩
    case round =>
      obtain ⟨j, hj, rfl, hbr⟩ := hrel
      have HJJ := Lib.hid hj
      by_cases hlt : j < l.length
      · obtain ⟨b1, o1, t, rfl, hbB1, htv, c0, c1⟩ := (hv.below hbr).at_ hlt
        have hm := HMAY.out t (List.mem_of_getElem? htv)
        have ht4 := mayT_len hm
        have HT := Lib.hid hm
        have i1 : (0 : Int) ≤ (j : Int) := by omega
        have i2 : (j : Int) < (l.length : Int) := by omega
        obtain ⟨g', rfl⟩ : ∃ g', gk = g' + 1 := ⟨gk - 1, by omega⟩
        clear hj hm htv
        go_wp2_with fail
        refine (mayTok_any t.k t.s _ (by omega)).mono ?_
        rw [show mayT ⟨t.k, t.s⟩ = true from HT.out]
        rintro e w3 ⟨rfl, hb3⟩
        go_wp2_with fail
        go_roundg g'
        case measure => omega
        case rel => exact ⟨j + 1, by have := HJJ.out; omega, by go_num, hbr.trans (hb3.mono hbr.size)⟩
      · have b0 : ¬ ((j : Int) < (l.length : Int)) := by omega
        have b4 : (l.length : Int) ≤ 400 := by omega
        have hvr := (hv.below hbr).more hbr.size
        clear hj
        go_wp2_with fail
        refine (joinT_any A2 c2 l _ (by omega) HSL.out hvr (M2.out.below hbr rfl)).mono ?_
        rw [HJ.out]
        rintro e w3 ⟨rfl, hb3⟩
        have hb23 := hbr.trans (hb3.mono hbr.size)
        obtain ⟨J, hJ⟩ : ∃ J, joinT l = J := ⟨_, rfl⟩
        rw [hJ] at HJS HCJ
        dsimp only
        rw [hJ]
        go_wp2_with fail
        refine (cutT_any J _ (by have := HJS.out; omega) (M2.out.below hb23 rfl)).mono ?_
        rw [HCJ.out]
        rintro e w4 ⟨A4, c4, rfl, _, _, hv4, hb4⟩
        have hb24 := hb23.trans (hb4.mono hb23.size)
        dsimp only [cutRes]
        have hv2' := (hv.below hb24).more hb24.size
        have hv4' := hv4.vs (Nat.le_refl _)
        go_wp2_with fail
        refine (same3_any A4 A2 c4 c2 l l w4 (by unfold maxLen; omega) (by unfold maxLen; omega) hv4' hv2').mono ?_
        rw [tokSame_self]
        rintro e w5 ⟨rfl, hb5⟩
        have hb25 := hb24.trans (hb5.mono hb24.size)
        go_wp2_with fail
        refine (awake3_any _ (M2.out.below hb25 rfl)).mono ?_
        rintro e w6 ⟨rfl, hb6⟩
        have hb26 := hb25.trans (hb6.mono hb25.size)
        go_wp2_with fail
        go_ret
        exact ⟨rfl, hb2.trans (hb26.mono hzw)⟩

end Go.Proofs.YtelkcfkmejcjaaaDoor
