/- value.Parse as a plain function, whatever text. Condition: a text that memory reaches; the library's tables and errors lie as they were laid. -/
import Derived.Test.YtdoonajhplcmlaaDoorParse
namespace Go.Proofs.YtdoonajhplcmlaaDoor
open Go.RowKit

attribute [local go_sem] ByteArray.extract_mk ba_get ba_append
attribute [local go_sem ↓] Go.wp_at_zero Go.wp_at_succ

set_option maxHeartbeats 1000000 in
theorem parse_quote (d : UInt8) (r : List UInt8) (w : World) (hs : (39 :: d :: r).length ≤ 1000000) (hM : MaxL w) : Calls Tryd.prog 38 #[.string ⟨(39 :: d :: r).toArray⟩] w (RetP (39 :: d :: r) w) := by
  have HMM := Lib.hid hM
  have hrl : r.length ≤ 999998 := by simp at hs; omega
  clear hM hs
  have l0 : w.heap.size < w.heap.size + 1 + 1 := by omega
  have w0 : ((39 :: d :: r) == [78, 85, 76, 76]) = false := by simp
  have w1 : ((39 :: d :: r) == [84, 82, 85, 69]) = false := by simp
  have w2 : ((39 :: d :: r) == [70, 65, 76, 83, 69]) = false := by simp
  have M0 : MaxL ((w.alloc (.cells #[.int .i64 0, .int .i64 0, .string ⟨#[]⟩] 23)).alloc (.cells #[.int .i64 0, .int .i64 0, .string ⟨#[]⟩] 23)) := HMM.out.below (((Below.refl _ _).alloc (Nat.le_refl _) _).alloc (by simp) _) rfl
  obtain ⟨m, hm⟩ := M0
  have Hm := Lib.hid hm
  clear hm
  have hdl : (d :: r).dropLast = List.take r.length (d :: r) := by rw [List.dropLast_eq_take]; simp
  have hun : unText (39 :: d :: r) = ⟨2, 0, unquoteS (List.take r.length (d :: r))⟩ := by
    rw [← hdl]; rfl
  have hrep : Lib.replaceAll (List.take r.length (d :: r)) [39, 39] [39] = unquoteS (List.take r.length (d :: r)) := replace_unquote _ _ (Nat.le_refl _)
  obtain ⟨U, hU⟩ : ∃ U, unquoteS (List.take r.length (d :: r)) = U := ⟨_, rfl⟩
  rw [hU] at hun hrep
  have HREP := Lib.hid hrep
  have hpl : (List.take r.length (d :: r)).length ≤ 999999 := by rw [List.length_take]; omega
  have HPL := Lib.hid hpl
  by_cases hi : textF 2 0 U = 39 :: d :: r
  · have hmay : mayB 2 0 U = true := by
      cases q : mayB 2 0 U
      · unfold textF at hi; rw [q] at hi; cases hi
      · rfl
    have hps : parses (39 :: d :: r) ⟨2, 0, U⟩ := ⟨hmay, ⟨by show (-9223372036854775808 : Int) ≤ 0; omega, by show (0 : Int) ≤ 9223372036854775807; omega⟩, hi⟩
    have e1 := (parse_yes hps).1
    have e2 := (parse_yes hps).2
    unfold RetP
    rw [e1, e2]
    have hi' : (textF 2 0 U != 39 :: d :: r) = false := by simp [hi]
    have hi2 : (!textF 2 0 U == 39 :: d :: r) = false := by simp [hi]
    clear hdl hun hrep hU hi hmay hps e1 e2 hpl
    go_enter Tryd.func38, Tryd.ntmps38
    go_wp2_with fail
    refine (Tryd.strings_ReplaceAll ⟨(List.take r.length (d :: r)).toArray⟩ ⟨#[39, 39]⟩ ⟨#[39]⟩ m _ (by show (List.take r.length (d :: r)).length < _; have := HPL.out; omega) Hm.out (by decide) ?_).mono ?_
    · have h1 := Lib.countB_le ⟨#[39, 39]⟩ (by decide) (List.take r.length (d :: r)).length ⟨(List.take r.length (d :: r)).toArray⟩ (Nat.le_refl _)
      have h2 : (⟨(List.take r.length (d :: r)).toArray⟩ : ByteArray).size = (List.take r.length (d :: r)).length := rfl
      have h3 : (⟨#[39]⟩ : ByteArray).size = 1 := rfl
      have := HPL.out
      rw [h2] at h1 ⊢
      rw [h3]
      omega
    simp only
    rw [HREP.out]
    rintro e w3 ⟨rfl, hb3⟩
    have hz3 := hb3.size
    obtain ⟨hc3, hf3⟩ := bcell hb3
    simp at hz3 hc3 hf3
    have k1 : w.heap.size < w3.heap.size := by omega
    have k2 : w.heap.size + 1 < w3.heap.size := by omega
    go_wp2_with fail
    refine (text2_any 0 U _ (HMM.out.below (by ((repeat' (first | with_reducible exact Below.refl _ _ | with_reducible assumption | with_reducible refine Below.drew ?_ | with_reducible refine below_drewN ?_ _ | with_reducible refine Below.setCell ?_ ?_ _ | with_reducible refine Below.alloc ?_ ?_ _ | with_reducible refine Below.trans ?_ (Below.mono (by assumption) ?_))) <;> (first | (simp; done) | (simp; omega) | omega))) rfl)).mono ?_
    rintro e w4 ⟨rfl, hb4⟩
    have hz4 := hb4.size
    obtain ⟨hc4, hf4⟩ := bcell hb4
    simp at hz4 hc4 hf4
    have l1 : w.heap.size < w4.heap.size := by omega
    have l2 : w.heap.size + 1 < w4.heap.size := by omega
    go_wp2_with fail
    refine bodyPost_ret (v := .tuple #[.agg #[.int .i64 2, .int .i64 0, .string ⟨U.toArray⟩], .int .i64 0]) (by simp [results, Tryd.results38, go_sem, *]) rfl ⟨rfl, ?_⟩
    ((repeat' (first | with_reducible exact Below.refl _ _ | with_reducible assumption | with_reducible refine Below.drew ?_ | with_reducible refine below_drewN ?_ _ | with_reducible refine Below.setCell ?_ ?_ _ | with_reducible refine Below.alloc ?_ ?_ _ | with_reducible refine Below.trans ?_ (Below.mono (by assumption) ?_))) <;> (first | (simp; done) | (simp; omega) | omega))
  · have hnp : ∀ v, ¬ parses (39 :: d :: r) v := fun v hv => by
      have e := parses_un hv
      rw [hun] at e
      subst e
      exact hi hv.2.2
    have e1 := (parse_no hnp).1
    have e2 := (parse_no hnp).2
    unfold RetP
    rw [e1, e2]
    have hi' : (textF 2 0 U != 39 :: d :: r) = true := by simp [hi]
    have hi2 : (!textF 2 0 U == 39 :: d :: r) = true := by simp [hi]
    clear hdl hun hrep hU hi hnp e1 e2 hpl
    go_enter Tryd.func38, Tryd.ntmps38
    go_wp2_with fail
    refine (Tryd.strings_ReplaceAll ⟨(List.take r.length (d :: r)).toArray⟩ ⟨#[39, 39]⟩ ⟨#[39]⟩ m _ (by show (List.take r.length (d :: r)).length < _; have := HPL.out; omega) Hm.out (by decide) ?_).mono ?_
    · have h1 := Lib.countB_le ⟨#[39, 39]⟩ (by decide) (List.take r.length (d :: r)).length ⟨(List.take r.length (d :: r)).toArray⟩ (Nat.le_refl _)
      have h2 : (⟨(List.take r.length (d :: r)).toArray⟩ : ByteArray).size = (List.take r.length (d :: r)).length := rfl
      have h3 : (⟨#[39]⟩ : ByteArray).size = 1 := rfl
      have := HPL.out
      rw [h2] at h1 ⊢
      rw [h3]
      omega
    simp only
    rw [HREP.out]
    rintro e w3 ⟨rfl, hb3⟩
    have hz3 := hb3.size
    obtain ⟨hc3, hf3⟩ := bcell hb3
    simp at hz3 hc3 hf3
    have k1 : w.heap.size < w3.heap.size := by omega
    have k2 : w.heap.size + 1 < w3.heap.size := by omega
    go_wp2_with fail
    refine (text2_any 0 U _ (HMM.out.below (by ((repeat' (first | with_reducible exact Below.refl _ _ | with_reducible assumption | with_reducible refine Below.drew ?_ | with_reducible refine below_drewN ?_ _ | with_reducible refine Below.setCell ?_ ?_ _ | with_reducible refine Below.alloc ?_ ?_ _ | with_reducible refine Below.trans ?_ (Below.mono (by assumption) ?_))) <;> (first | (simp; done) | (simp; omega) | omega))) rfl)).mono ?_
    rintro e w4 ⟨rfl, hb4⟩
    have hz4 := hb4.size
    obtain ⟨hc4, hf4⟩ := bcell hb4
    simp at hz4 hc4 hf4
    have l1 : w.heap.size < w4.heap.size := by omega
    have l2 : w.heap.size + 1 < w4.heap.size := by omega
    go_wp2_with fail
    refine bodyPost_ret (v := .tuple #[.agg #[.int .i64 0, .int .i64 0, .string ⟨#[]⟩], .int .i64 3]) (by simp [results, Tryd.results38, go_sem, *]) rfl ⟨rfl, ?_⟩
    ((repeat' (first | with_reducible exact Below.refl _ _ | with_reducible assumption | with_reducible refine Below.drew ?_ | with_reducible refine below_drewN ?_ _ | with_reducible refine Below.setCell ?_ ?_ _ | with_reducible refine Below.alloc ?_ ?_ _ | with_reducible refine Below.trans ?_ (Below.mono (by assumption) ?_))) <;> (first | (simp; done) | (simp; omega) | omega))

/-- value.Parse, whatever text. -/
theorem parse_any (s : List UInt8) (w : World) (hs : s.length ≤ 1000000) (hM : MaxL w) (hT : Tab10 w) (hE : Errs w) : Calls Tryd.prog 38 #[.string ⟨s.toArray⟩] w (RetP s w) := by
  by_cases h0 : s = [78, 85, 76, 76]
  · subst h0
    have e := parse_yes pn
    unfold RetP
    rw [e.1, e.2]
    exact parse_null w
  by_cases h1 : s = [84, 82, 85, 69]
  · subst h1
    have e := parse_yes pt
    unfold RetP
    rw [e.1, e.2]
    exact parse_true w
  by_cases h2 : s = [70, 65, 76, 83, 69]
  · subst h2
    have e := parse_yes pf
    unfold RetP
    rw [e.1, e.2]
    exact parse_false w
  have w0 : (s == [78, 85, 76, 76]) = false := by simpa using h0
  have w1 : (s == [84, 82, 85, 69]) = false := by simpa using h1
  have w2 : (s == [70, 65, 76, 83, 69]) = false := by simpa using h2
  match s, hs, h0, h1, h2, w0, w1, w2 with
  | [], hs, h0, h1, h2, w0, w1, w2 => exact parse_short [] w hs hT hE w0 w1 w2 (by simp) (no_words h0 h1 h2 (fun r e => by cases e))
  | [c], hs, h0, h1, h2, w0, w1, w2 => exact parse_short [c] w hs hT hE w0 w1 w2 (by simp) (no_words h0 h1 h2 (fun r e => by injection e with _ e; exact e.symm))
  | c :: d :: r, hs, h0, h1, h2, w0, w1, w2 =>
    by_cases hc : c = 39
    · subst hc
      exact parse_quote d r w hs hM
    · refine parse_long c d r w hs hT hE w0 w1 w2 ?_ (no_words h0 h1 h2 (fun r e => by injection e with e _; exact absurd e hc))
      rw [beq_eq_false_iff_ne]
      intro e
      apply hc
      apply UInt8.toNat.inj
      show c.toNat = 39
      omega

end Go.Proofs.YtdoonajhplcmlaaDoor
