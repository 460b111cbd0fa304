/- value.Text as a plain function. Condition: the library's tables lie as they were laid. -/
import Derived.Test.YtdnkkkgneikhkaaGreatDoorVal3
import Derived.Test.YtdnkkkgneikhkaaGreatDoorQuote
import Derived.Test.YtdnkkkgneikhkaaGreatDoorShelf
namespace Go.Proofs.YtdnkkkgneikhkaaGreatDoor
open Go.RowKit

attribute [local go_sem] ByteArray.extract_mk ba_get ba_append
attribute [local go_sem ↓] Go.wp_at_zero Go.wp_at_succ

/-- The library's variable MaxLen holds some number. -/
def MaxL (w : World) : Prop := ∃ m : Int, w.cell? ⟨2, 0, none⟩ = some (.int .i64 m)
theorem MaxL.below {B : Nat} {w w' : World} (h : MaxL w) (hb : Below B w w') (hB : B = w.heap.size) : MaxL w' := by
  obtain ⟨m, hm⟩ := h
  exact ⟨m, (hb.cell (by rw [hB]; exact Blk_lt_of_cell hm)).trans hm⟩
/-- strconv's table of powers. -/
def Tab10 (w : World) : Prop := Lib.TabIs Tryz.prog w "internal/strconv.uint64pow10" .u64 Lib.pow10Tab
theorem var_below {P : Program} {B : Nat} {w w' : World} {n : String} {cs : Array Value} (h : w.var? P n = some cs) (hb : Below B w w') (hB : B = w.heap.size) : w'.var? P n = some cs := by
  unfold World.var? at h ⊢
  cases hg : P.globalNamed n with
  | none => rw [hg] at h; cases h
  | some g =>
    rw [hg] at h
    simp only [Option.bind_some] at h ⊢
    have hlt : g < w.heap.size := by
      rcases Nat.lt_or_ge g w.heap.size with hlt | hge
      · exact hlt
      · rw [Array.getElem?_eq_none hge] at h; cases h
    rw [hb.block g (by rw [hB]; exact hlt)]
    exact h
theorem Tab10.below {B : Nat} {w w' : World} (h : Tab10 w) (hb : Below B w w') (hB : B = w.heap.size) : Tab10 w' := var_below h hb hB

theorem below_growDrew (w : World) (k : Nat) (os : Array Obj) : Below w.heap.size w (Sort.grow (w.drewN k) os) := by
  refine ⟨rfl, rfl, rfl, ?_, fun b hb => ?_⟩
  · show w.heap.size ≤ (w.heap ++ os).size
    rw [Array.size_append]; omega
  · show (w.heap ++ os)[b]? = w.heap[b]?
    rw [Array.getElem?_append_left hb]

/-- What value.Text writes. -/
def textF (k i : Int) (s : List UInt8) : List UInt8 :=
  if mayB k i s then
    (if k = 1 then Lib.itoa i else if k = 2 then [39] ++ quoteS s ++ [39] else if k = 3 then (if i = 1 then [84, 82, 85, 69] else [70, 65, 76, 83, 69]) else [78, 85, 76, 76])
  else []

theorem may2 {i : Int} {s : List UInt8} (h : mayB 2 i s = true) : i = 0 ∧ s.length ≤ 40 ∧ s.any oddByte = false := by
  simp [mayB] at h
  refine ⟨h.1.1, h.1.2, ?_⟩
  simpa using h.2

set_option maxHeartbeats 1000000 in
theorem text2_any (i : Int) (s : List UInt8) (w : World) (hM : MaxL w) :
    Calls Tryz.prog 81 #[.agg #[.int .i64 2, .int .i64 i, .string ⟨s.toArray⟩]] w (Ret (.string ⟨(textF 2 i s).toArray⟩) w) := by
  cases hm : mayB 2 i s
  · have e : textF 2 i s = [] := by unfold textF; rw [hm]; rfl
    rw [e]
    have HM := Lib.hid hm
    clear hm e
    go_enter Tryz.func81, Tryz.ntmps81
    go_wp2_with fail
    refine (may_any _ _ _ _).mono ?_
    rintro e w0 ⟨rfl, hb0⟩
    rw [HM.out]
    go_wp2
    go_ret
    exact ⟨rfl, by ((repeat' (first | with_reducible exact Below.refl _ _ | with_reducible assumption | with_reducible refine Below.drew ?_ | with_reducible refine below_drewN ?_ _ | with_reducible refine Below.setCell ?_ ?_ _ | with_reducible refine Below.alloc ?_ ?_ _ | with_reducible refine Below.trans ?_ (Below.mono (by assumption) ?_))) <;> (first | (simp; done) | (simp; omega) | omega))⟩
  · have e : textF 2 i s = [39] ++ Lib.replaceAll s [39] [39, 39] ++ [39] := by unfold textF; rw [hm, replace_quote]; rfl
    have HS : Hid (s.length ≤ 40) := (may2 hm).2.1
    have HQ := Lib.hid (quoteS_len s)
    have HR := Lib.hid (replace_quote s)
    rw [e]
    have HM := Lib.hid hm
    clear hm e
    have M1 : MaxL (w.alloc (.cells #[.int .i64 2, .int .i64 i, .string ⟨s.toArray⟩] 23)) := hM.below ((Below.refl _ _).alloc (Nat.le_refl _) _) rfl
    go_enter Tryz.func81, Tryz.ntmps81
    go_wp2_with fail
    refine (may_any _ _ _ _).mono ?_
    rintro e w0 ⟨rfl, hb0⟩
    rw [HM.out]
    have M2 := M1.below hb0 rfl
    have hz0 := hb0.size
    obtain ⟨hc0, hf0⟩ := bcell hb0
    simp at hz0 hc0 hf0
    obtain ⟨m, hm⟩ := M2
    have Hm := Lib.hid hm
    clear hm M1
    go_wp2_with fail
    refine (Tryz.strings_ReplaceAll ⟨s.toArray⟩ ⟨#[39]⟩ ⟨#[39, 39]⟩ m _ (by show s.length < _; have := HS.out; omega) Hm.out (by decide) ?_).mono ?_
    · have h1 := Lib.countB_le ⟨#[39]⟩ (by decide) s.length ⟨s.toArray⟩ (Nat.le_refl _)
      have h2 : (⟨s.toArray⟩ : ByteArray).size = s.length := rfl
      have h3 : (⟨#[39, 39]⟩ : ByteArray).size = 2 := rfl
      have := HS.out
      rw [h2] at h1 ⊢
      rw [h3]
      omega
    rintro e w1 ⟨rfl, hb1⟩
    simp only
    obtain ⟨R, hR⟩ : ∃ R, Lib.replaceAll s [39] [39, 39] = R := ⟨_, rfl⟩
    have hRl : R.length ≤ 80 := by rw [← hR, HR.out]; have := HQ.out; have := HS.out; omega
    rw [hR]
    have HRR := Lib.hid hR
    clear hR
    go_wp2
    go_ret
    exact ⟨by rw [HRR.out]; rfl, by ((repeat' (first | with_reducible exact Below.refl _ _ | with_reducible assumption | with_reducible refine Below.drew ?_ | with_reducible refine below_drewN ?_ _ | with_reducible refine Below.setCell ?_ ?_ _ | with_reducible refine Below.alloc ?_ ?_ _ | with_reducible refine Below.trans ?_ (Below.mono (by assumption) ?_))) <;> (first | (simp; done) | (simp; omega) | omega))⟩

set_option maxHeartbeats 1000000 in
theorem text_odd (k i : Int) (s : List UInt8) (w : World) (hm : mayB k i s = false) :
    Calls Tryz.prog 81 #[.agg #[.int .i64 k, .int .i64 i, .string ⟨s.toArray⟩]] w (Ret (.string ⟨#[]⟩) w) := by
  have HM := Lib.hid hm
  clear hm
  go_enter Tryz.func81, Tryz.ntmps81
  go_wp2_with fail
  refine (may_any _ _ _ _).mono ?_
  rintro e w0 ⟨rfl, hb0⟩
  rw [HM.out]
  go_wp2
  go_ret
  exact ⟨rfl, by ((repeat' (first | with_reducible exact Below.refl _ _ | with_reducible assumption | with_reducible refine Below.drew ?_ | with_reducible refine below_drewN ?_ _ | with_reducible refine Below.setCell ?_ ?_ _ | with_reducible refine Below.alloc ?_ ?_ _ | with_reducible refine Below.trans ?_ (Below.mono (by assumption) ?_))) <;> (first | (simp; done) | (simp; omega) | omega))⟩

set_option maxHeartbeats 1000000 in
theorem text0_any (w : World) :
    Calls Tryz.prog 81 #[.agg #[.int .i64 0, .int .i64 0, .string ⟨#[]⟩]] w (Ret (.string ⟨#[78, 85, 76, 76]⟩) w) := by
  have HM : Hid (mayB 0 0 [] = true) := by show _ = _; rfl
  go_enter Tryz.func81, Tryz.ntmps81
  go_wp2_with fail
  refine (may_any 0 0 [] _).mono ?_
  rintro e w0 ⟨rfl, hb0⟩
  rw [HM.out]
  have hz0 := hb0.size
  obtain ⟨hc0, hf0⟩ := bcell hb0
  simp at hz0 hc0 hf0
  go_wp2
  go_ret
  exact ⟨rfl, by ((repeat' (first | with_reducible exact Below.refl _ _ | with_reducible assumption | with_reducible refine Below.drew ?_ | with_reducible refine below_drewN ?_ _ | with_reducible refine Below.setCell ?_ ?_ _ | with_reducible refine Below.alloc ?_ ?_ _ | with_reducible refine Below.trans ?_ (Below.mono (by assumption) ?_))) <;> (first | (simp; done) | (simp; omega) | omega))⟩

set_option maxHeartbeats 1000000 in
theorem text1_any (i : Int) (w : World) (h1 : -9223372036854775808 ≤ i) (h2 : i ≤ 9223372036854775807) (hT : Tab10 w) :
    Calls Tryz.prog 81 #[.agg #[.int .i64 1, .int .i64 i, .string ⟨#[]⟩]] w (Ret (.string ⟨(Lib.itoa i).toArray⟩) w) := by
  have HM : Hid (mayB 1 i [] = true) := by show _ = _; simp [mayB]
  have T1 : Tab10 (w.alloc (.cells #[.int .i64 1, .int .i64 i, .string ⟨#[]⟩] 23)) := hT.below ((Below.refl _ _).alloc (Nat.le_refl _) _) rfl
  go_enter Tryz.func81, Tryz.ntmps81
  go_wp2_with fail
  refine (may_any 1 i [] _).mono ?_
  rintro e w0 ⟨rfl, hb0⟩
  rw [HM.out]
  have T2 := T1.below hb0 rfl
  have hz0 := hb0.size
  obtain ⟨hc0, hf0⟩ := bcell hb0
  simp at hz0 hc0 hf0
  clear T1 hT
  go_wp2_with fail
  refine (Tryz.strconv_FormatInt_10 i h1 h2 _ T2).mono ?_
  rintro e w1 ⟨rfl, kk, os, rfl⟩
  have hb1 := below_growDrew w0 kk os
  generalize Sort.grow (w0.drewN kk) os = w1 at *
  go_wp2
  go_ret
  exact ⟨rfl, by ((repeat' (first | with_reducible exact Below.refl _ _ | with_reducible assumption | with_reducible refine Below.drew ?_ | with_reducible refine below_drewN ?_ _ | with_reducible refine Below.setCell ?_ ?_ _ | with_reducible refine Below.alloc ?_ ?_ _ | with_reducible refine Below.trans ?_ (Below.mono (by assumption) ?_))) <;> (first | (simp; done) | (simp; omega) | omega))⟩

set_option maxHeartbeats 1000000 in
theorem text3_any (b : Bool) (w : World) :
    Calls Tryz.prog 81 #[.agg #[.int .i64 3, .int .i64 (if b then 1 else 0), .string ⟨#[]⟩]] w (Ret (.string ⟨(if b then [84, 82, 85, 69] else [70, 65, 76, 83, 69] : List UInt8).toArray⟩) w) := by
  cases b
  · have HM : Hid (mayB 3 0 [] = true) := by show _ = _; rfl
    have HN : Hid (saysF 3 0 [] = 1) := by show _ = _; rfl
    go_enter Tryz.func81, Tryz.ntmps81
    go_wp2_with fail
    refine (may_any 3 0 [] _).mono ?_
    rintro e w0 ⟨rfl, hb0⟩
    rw [HM.out]
    have hz0 := hb0.size
    obtain ⟨hc0, hf0⟩ := bcell hb0
    simp at hz0 hc0 hf0
    go_wp2_with fail
    refine (says_any 3 0 [] _).mono ?_
    rintro e w1 ⟨rfl, hb1⟩
    rw [HN.out]
    go_wp2
    go_ret
    exact ⟨rfl, by ((repeat' (first | with_reducible exact Below.refl _ _ | with_reducible assumption | with_reducible refine Below.drew ?_ | with_reducible refine below_drewN ?_ _ | with_reducible refine Below.setCell ?_ ?_ _ | with_reducible refine Below.alloc ?_ ?_ _ | with_reducible refine Below.trans ?_ (Below.mono (by assumption) ?_))) <;> (first | (simp; done) | (simp; omega) | omega))⟩
  · have HM : Hid (mayB 3 1 [] = true) := by show _ = _; rfl
    have HN : Hid (saysF 3 1 [] = 2) := by show _ = _; rfl
    go_enter Tryz.func81, Tryz.ntmps81
    go_wp2_with fail
    refine (may_any 3 1 [] _).mono ?_
    rintro e w0 ⟨rfl, hb0⟩
    rw [HM.out]
    have hz0 := hb0.size
    obtain ⟨hc0, hf0⟩ := bcell hb0
    simp at hz0 hc0 hf0
    go_wp2_with fail
    refine (says_any 3 1 [] _).mono ?_
    rintro e w1 ⟨rfl, hb1⟩
    rw [HN.out]
    go_wp2
    go_ret
    exact ⟨rfl, by ((repeat' (first | with_reducible exact Below.refl _ _ | with_reducible assumption | with_reducible refine Below.drew ?_ | with_reducible refine below_drewN ?_ _ | with_reducible refine Below.setCell ?_ ?_ _ | with_reducible refine Below.alloc ?_ ?_ _ | with_reducible refine Below.trans ?_ (Below.mono (by assumption) ?_))) <;> (first | (simp; done) | (simp; omega) | omega))⟩

theorem may_kinds {k i : Int} {s : List UInt8} (h : mayB k i s = true) : (k = 0 ∧ i = 0 ∧ s = []) ∨ (k = 1 ∧ s = []) ∨ (k = 2 ∧ i = 0 ∧ s.length ≤ 40 ∧ s.any oddByte = false) ∨ (k = 3 ∧ (i = 0 ∨ i = 1) ∧ s = []) := by
  unfold mayB at h
  split at h
  · simp at h; exact .inl ⟨‹_›, h.1, h.2⟩
  · split at h
    · simp at h; exact .inr (.inl ⟨‹_›, h⟩)
    · split at h
      · subst k
        exact .inr (.inr (.inl ⟨rfl, by simp at h; exact h.1.1, by simp at h; exact h.1.2, by simp at h; simpa using h.2⟩))
      · split at h
        · simp at h; exact .inr (.inr (.inr ⟨‹_›, h⟩))
        · cases h

/-- value.Text, whatever value. -/
theorem text_any (k i : Int) (s : List UInt8) (w : World) (h1 : -9223372036854775808 ≤ i) (h2 : i ≤ 9223372036854775807) (hM : MaxL w) (hT : Tab10 w) :
    Calls Tryz.prog 81 #[.agg #[.int .i64 k, .int .i64 i, .string ⟨s.toArray⟩]] w (Ret (.string ⟨(textF k i s).toArray⟩) w) := by
  cases hm : mayB k i s
  · have e : textF k i s = [] := by unfold textF; rw [hm]; rfl
    rw [e]
    exact text_odd k i s w hm
  · rcases may_kinds hm with ⟨rfl, rfl, rfl⟩ | ⟨rfl, rfl⟩ | ⟨rfl, _⟩ | ⟨rfl, hi, rfl⟩
    · exact text0_any w
    · have e : textF 1 i [] = Lib.itoa i := by unfold textF; rw [hm]; rfl
      rw [e]
      exact text1_any i w h1 h2 hT
    · exact text2_any i s w hM
    · rcases hi with rfl | rfl
      · exact text3_any false w
      · exact text3_any true w

end Go.Proofs.YtdnkkkgneikhkaaGreatDoor
