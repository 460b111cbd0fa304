/- caddislaw01.ValueTexts answers true: every value's text is the document's, and is parsed as it was; whatever text there is is the document's value, or refused. Condition: a number of 64 bits; the library's tables and errors lie as they were laid. -/
import Derived.Test.YtdoonajhplcmlaaDoorLaw1
import Derived.Test.YtdoonajhplcmlaaDoorParseQ
import Derived.Test.YtdoonajhplcmlaaDoorRef1ParseQ
import Derived.Test.YtdoonajhplcmlaaDoorAwake1
import Derived.Lib.ItoaLen
import Derived.Deep.CutBlock
namespace Go.Proofs.YtdoonajhplcmlaaDoor
open Go.RowKit

attribute [local go_sem] ByteArray.extract_mk ba_get ba_append
attribute [local go_sem ↓] Go.wp_at_zero Go.wp_at_succ run_eql_V run_neq_V
attribute [local go_sem] veq_self

theorem text_short (k i : Int) (s : List UInt8) (hi : inI i) : (textF k i s).length ≤ 1000000 := by
  cases hm : mayB k i s
  · unfold textF; rw [hm]; simp
  · rcases may_kinds hm with ⟨rfl, rfl, rfl⟩ | ⟨rfl, rfl⟩ | ⟨rfl, rfl, h40, _⟩ | ⟨rfl, hi', rfl⟩
    · rw [show textF 0 0 [] = [78, 85, 76, 76] by decide +kernel]; simp
    · rw [text_num]
      have := Lib.itoa_length_le i hi.1 hi.2
      omega
    · unfold textF
      rw [hm]
      have := quoteS_len s
      simp
      omega
    · rcases hi' with rfl | rfl
      · rw [show textF 3 0 [] = [70, 65, 76, 83, 69] by decide +kernel]; simp
      · rw [show textF 3 1 [] = [84, 82, 85, 69] by decide +kernel]; simp

/-- All that a call of Parse asks of memory. -/
def Lays (w : World) : Prop := MaxL w ∧ Tab10 w ∧ Errs w
theorem Lays.below {w w' : World} (h : Lays w) (hb : Below w.heap.size w w') : Lays w' := ⟨h.1.below hb rfl, h.2.1.below hb rfl, h.2.2.below hb rfl⟩

set_option maxRecDepth 100000 in
set_option maxHeartbeats 4000000 in
theorem valueTexts_walk (a : V) (s : List UInt8) (w : World) (ia : inI a.i) (hs : s.length ≤ maxLen) (hL : Lays w) :
    Calls Tryd.prog 12 #[.agg #[.int .i64 (a).k, .int .i64 (a).i, .string ⟨(a).s.toArray⟩], .string ⟨s.toArray⟩] w (Ret (.bool true) w) := by
  unfold maxLen at hs
  have HL := Lib.hid hL
  have IA : Hid (inI a.few.i) := ia
  have LA := few_le a
  clear hL ia
  go_enter Tryd.func12, Tryd.ntmps12
  go_wp2_with fail
  refine (few1_any _ _ _ _).mono ?_
  rintro e w1 ⟨rfl, hb1⟩
  have hz1 := hb1.size
  simp at hz1
  obtain ⟨hc1, hf1⟩ := bcell hb1
  simp at hc1 hf1
  have l1 : w.heap.size < w1.heap.size := by omega
  have l0 : w.heap.size < w.heap.size + 1 := by omega
  go_upto_if 16 with fail
  refine wp_forget (fun wx => Blk wx w.heap.size 23 #[.int .i64 (a.few).k, .int .i64 (a.few).i, .string ⟨(a.few).s.toArray⟩] ∧ Below w.heap.size w wx) ⟨?_, by ((repeat' (first | with_reducible exact Below.refl _ _ | with_reducible assumption | with_reducible refine Below.drew ?_ | with_reducible refine below_drewN ?_ _ | with_reducible refine Below.setCell ?_ ?_ _ | with_reducible refine Below.alloc ?_ ?_ _ | with_reducible refine Below.trans ?_ (Below.mono (by assumption) ?_))) <;> (first | (simp; done) | (simp; omega) | omega))⟩ ?_
  · exact Blk.set3 (Blk3.below (Blk3.new' w _ _ _ _ _ rfl) hb1 (by simp)) _ _ _
  rintro W ⟨kx, hbW⟩
  clear hb1 hz1 hc1 hf1 l0 l1
  generalize a.few = x at *
  go_cut [1] from 17 to 18 (fun s1 wx => s1 = .string ⟨(s.take 100).toArray⟩ ∧ wx = W)
  case first =>
    by_cases h : 100 < s.length
    · have h1 : (100 : Int) < (s.length : Int) := by omega
      go_wp2_with fail
      go_meet
      exact ⟨by simp, rfl⟩
    · have h1 : ¬ (100 : Int) < (s.length : Int) := by omega
      have h2 : s.take 100 = s := List.take_of_length_le (by omega)
      have H2 := Lib.hid h2
      clear h2
      go_wp2_with fail
      go_meet
      exact ⟨by rw [H2.out], rfl⟩
  case rest =>
    obtain ⟨rfl, rfl⟩ := hcut
    have hsl : (s.take 100).length ≤ 1000000 := by rw [List.length_take]; omega
    generalize s.take 100 = S at *
    clear hs
    obtain ⟨W, rfl⟩ : ∃ W, W = wc := ⟨_, rfl⟩
    have LW := Lib.hid (HL.out.below hbW)
    clear HL
    have lW := hbW.size
    have hxl : x.s.length ≤ 140737488351232 := by omega
    obtain ⟨⟨x0, x1, x2⟩, _⟩ := kx.three
    have lx := kx.lt
    go_wp2_with fail
    refine (text_any x.k x.i x.s _ IA.out.1 IA.out.2 LW.out.1 LW.out.2.1).mono ?_
    rintro e w2 ⟨rfl, hb2⟩
    have hTs := text_short x.k x.i x.s IA.out
    obtain ⟨T, hT⟩ : ∃ T, textF x.k x.i x.s = T := ⟨_, rfl⟩
    rw [hT] at hTs ⊢
    have HT := Lib.hid hT
    clear hT
    have hb2' := hb2
    have LW2 := LW.out.below hb2
    go_wp2_with fail
    refine (parse_any S _ hsl LW2.1 LW2.2.1 LW2.2.2).mono ?_
    rintro e w3 ⟨rfl, hb3⟩
    obtain ⟨bq, hbq⟩ : ∃ b, parseB S = b := ⟨_, rfl⟩
    obtain ⟨E, hE⟩ : ∃ E : Int, (if parseB S then 0 else 3) = E := ⟨_, rfl⟩
    rw [hE]
    rw [hbq] at hE
    have HE := Lib.hid hE
    have HB := Lib.hid hbq
    clear hE hbq
    obtain ⟨w4, hw4⟩ : ∃ w4, w3.alloc (.cells #[.int .i64 (parseV S).k, .int .i64 (parseV S).i, .string ⟨(parseV S).s.toArray⟩] 23) = w4 := ⟨_, rfl⟩
    have hb34 : Below w3.heap.size w3 w4 := by rw [← hw4]; ((repeat' (first | with_reducible exact Below.refl _ _ | with_reducible assumption | with_reducible refine Below.drew ?_ | with_reducible refine below_drewN ?_ _ | with_reducible refine Below.setCell ?_ ?_ _ | with_reducible refine Below.alloc ?_ ?_ _ | with_reducible refine Below.trans ?_ (Below.mono (by assumption) ?_))) <;> (first | (simp; done) | (simp; omega) | omega))
    have k6 : Blk w4 w3.heap.size 23 #[.int .i64 (parseV S).k, .int .i64 (parseV S).i, .string ⟨(parseV S).s.toArray⟩] := by rw [← hw4]; exact Blk.new _ _ _
    have hbW4 : Below W.heap.size W w4 := (hb2.trans (hb3.mono hb2.size)).trans (hb34.mono (Nat.le_trans hb2.size hb3.size))
    have HW4 := Lib.hid hw4
    clear hw4 hb2 hb2' hb3 hb34 LW2
    obtain ⟨g6, hg6⟩ : ∃ g, g = w3.heap.size := ⟨_, rfl⟩
    rw [← hg6] at k6
    go_upto_region 6 with fail
    rw [HW4.out, ← hg6]
    clear HW4 hg6
    have l6 := k6.lt
    go_wp2_with fail
    refine (rparse_any S w4 hsl).mono ?_
    rintro e w5 ⟨X, rfl, hX, hb5⟩
    rw [HB.out] at hX ⊢
    have HX := Lib.hid hX
    clear hX
    obtain ⟨w6, hw6⟩ : ∃ w6, w5.alloc (.cells #[.int .i64 (X).k, .int .i64 (X).i, .string ⟨(X).s.toArray⟩] 23) = w6 := ⟨_, rfl⟩
    have hb56 : Below w5.heap.size w5 w6 := by rw [← hw6]; ((repeat' (first | with_reducible exact Below.refl _ _ | with_reducible assumption | with_reducible refine Below.drew ?_ | with_reducible refine below_drewN ?_ _ | with_reducible refine Below.setCell ?_ ?_ _ | with_reducible refine Below.alloc ?_ ?_ _ | with_reducible refine Below.trans ?_ (Below.mono (by assumption) ?_))) <;> (first | (simp; done) | (simp; omega) | omega))
    have k8 : Blk w6 w5.heap.size 23 #[.int .i64 (X).k, .int .i64 (X).i, .string ⟨(X).s.toArray⟩] := by rw [← hw6]; exact Blk.new _ _ _
    have hb46 : Below w4.heap.size w4 w6 := hb5.trans (hb56.mono hb5.size)
    have k6' := k6.below hb46 l6
    have hbW6 := hbW4.trans (hb46.mono hbW4.size)
    have hz5 : w4.heap.size ≤ w5.heap.size := hb5.size
    have HW6 := Lib.hid hw6
    clear hw6 hb5 hb56 hb46
    obtain ⟨g8, hg8⟩ : ∃ g, g = w5.heap.size := ⟨_, rfl⟩
    rw [← hg8] at k8 hz5
    have hzW : W.heap.size ≤ w4.heap.size := hbW4.size
    have n68 : g6 ≠ g8 := by omega
    go_upto_if 32 with fail
    rw [HW6.out, ← hg8]
    clear HW6 hg8 k6
    obtain ⟨⟨y0, y1, y2⟩, yf0, yf1, yf2⟩ := k8.three
    go_cut [] from 33 to 33 (fun wx => Blk wx g6 23 #[.int .i64 (parseV S).k, .int .i64 (parseV S).i, .string ⟨(parseV S).s.toArray⟩] ∧ Blk wx g8 23 #[.int .i64 (parseV S).k, .int .i64 (parseV S).i, .string ⟨(parseV S).s.toArray⟩] ∧ Below W.heap.size W wx)
    case first =>
      cases bq
      · have hz : parseV S = V.zero := by unfold parseV; rw [HB.out]; rfl
        have HZ := Lib.hid hz
        clear hz
        have q1 := Blk.set3 ⟨_, _, _, k8⟩ (.int .i64 0) (.int .i64 0) (.string ⟨#[]⟩)
        have q2 := ((k6'.far (p := ⟨g8, 0, none⟩) n68 (.int .i64 0)).far (p := ⟨g8, 1, none⟩) n68 (.int .i64 0)).far (p := ⟨g8, 2, none⟩) n68 (.string ⟨#[]⟩)
        have Q1 := Lib.hid q1
        have Q2 := Lib.hid q2
        clear q1 q2
        go_wp2_with fail
        go_meet
        exact ⟨Q2.out, by rw [HZ.out]; exact Q1.out, by ((repeat' (first | with_reducible exact Below.refl _ _ | with_reducible assumption | with_reducible refine Below.drew ?_ | with_reducible refine below_drewN ?_ _ | with_reducible refine Below.setCell ?_ ?_ _ | with_reducible refine Below.alloc ?_ ?_ _ | with_reducible refine Below.trans ?_ (Below.mono (by assumption) ?_))) <;> (first | (simp; done) | (simp; omega) | omega))⟩
      · have hz := HX.out rfl
        have HZ := Lib.hid hz
        clear hz
        go_wp2_with fail
        go_meet
        exact ⟨k6', by rw [← HZ.out]; exact k8, hbW6⟩
    case rest =>
      obtain ⟨p6, p8, hbx⟩ := hcut
      clear k6' k8 y0 y1 y2 yf0 yf1 yf2 hbW6 HX
      obtain ⟨W2, rfl⟩ : ∃ W2, W2 = wc := ⟨_, rfl⟩
      have px := kx.below hbx lx
      have LW2 := Lib.hid (LW.out.below hbx)
      obtain ⟨⟨u0, u1, u2⟩, _⟩ := px.three
      clear x0 x1 x2
      have l6' := p6.lt
      have l8' := p8.lt
      have lxx := px.lt
      go_wp2_with fail
      refine (rtext_any x.k x.i x.s _ IA.out.1 IA.out.2 hxl).mono ?_
      rw [HT.out]
      rintro e w7 ⟨rfl, hb7⟩
      have h6 := p6.below hb7 l6'
      have h8 := p8.below hb7 l8'
      have hx7 := px.below hb7 lxx
      have LW7 := Lib.hid (LW2.out.below hb7)
      clear u0 u1 u2
      obtain ⟨⟨u0, u1, u2⟩, _⟩ := h6.three
      obtain ⟨⟨v0, v1, v2⟩, _⟩ := h8.three
      have hEb : (bq = true ∧ E = 0) ∨ (bq = false ∧ E = 3) := by
        have := HE.out
        cases bq
        · exact .inr ⟨rfl, this.symm⟩
        · exact .inl ⟨rfl, this.symm⟩
      clear HE HB
      have hpar : x.may = true → parseV T = x ∧ parseB T = true := fun hm => by
        have := parse_yes (s := T) (v := x) ⟨hm, IA.out, HT.out⟩
        exact ⟨this.2, this.1⟩
      have HPAR := Lib.hid hpar
      clear hpar
      have hbW7 := hbx.trans (hb7.mono hbx.size)
      have hzW2 := hbx.size
      have lx7 := hx7.lt
      rcases hEb with ⟨rfl, rfl⟩ | ⟨rfl, rfl⟩
      all_goals
        go_wp2_with fail
        refine (parse_any T w7 hTs LW7.out.1 LW7.out.2.1 LW7.out.2.2).mono ?_
        rintro e w8 ⟨rfl, hb8⟩
        obtain ⟨E, hE⟩ : ∃ E : Int, (if parseB T then 0 else 3) = E := ⟨_, rfl⟩
        rw [hE]
        have HE := Lib.hid hE
        clear hE
        obtain ⟨w9, hw9⟩ : ∃ w9, w8.alloc (.cells #[.int .i64 (parseV T).k, .int .i64 (parseV T).i, .string ⟨(parseV T).s.toArray⟩] 23) = w9 := ⟨_, rfl⟩
        have hb89 : Below w8.heap.size w8 w9 := by rw [← hw9]; ((repeat' (first | with_reducible exact Below.refl _ _ | with_reducible assumption | with_reducible refine Below.drew ?_ | with_reducible refine below_drewN ?_ _ | with_reducible refine Below.setCell ?_ ?_ _ | with_reducible refine Below.alloc ?_ ?_ _ | with_reducible refine Below.trans ?_ (Below.mono (by assumption) ?_))) <;> (first | (simp; done) | (simp; omega) | omega))
        have k10 : Blk w9 w8.heap.size 23 #[.int .i64 (parseV T).k, .int .i64 (parseV T).i, .string ⟨(parseV T).s.toArray⟩] := by rw [← hw9]; exact Blk.new _ _ _
        have hb79 : Below w7.heap.size w7 w9 := hb8.trans (hb89.mono hb8.size)
        have hx9 := hx7.below hb79 lx7
        have HW9 := Lib.hid hw9
        clear hw9 hb8 hb89
        go_upto_region 12 with fail
        rw [HW9.out]
        clear HW9 u0 u1 u2 v0 v1 v2
        obtain ⟨⟨u0, u1, u2⟩, _⟩ := hx9.three
        have lx9 := hx9.lt
        have l10 := k10.lt
        go_wp2_with fail
        refine (rmay_any x.k x.i x.s w9 hxl).mono ?_
        rintro e w10 ⟨rfl, hb10⟩
        have k10' := k10.below hb10 l10
        have hx10 := hx9.below hb10 lx9
        have hbW10 := hbW7.trans ((hb79.trans (hb10.mono hb79.size)).mono hbW7.size)
        have LW10 := Lib.hid (LW.out.below hbW10)
        have hbw10 := hbW.trans (hbW10.mono lW)
        have hz10 := hbw10.size
        clear u0 u1 u2
        obtain ⟨⟨u0, u1, u2⟩, _⟩ := hx10.three
        obtain ⟨⟨v0, v1, v2⟩, _⟩ := k10'.three
        cases hm : mayB x.k x.i x.s
        · clear hm
          go_wp2_with fail
          refine (awake1_any _ LW10.out.1).mono ?_
          rintro e w11 ⟨rfl, hb11⟩
          go_wp2_with fail
          go_ret
          exact ⟨rfl, hbw10.trans (hb11.mono hz10)⟩
        · obtain ⟨hp1, hp2⟩ := HPAR.out hm
          have hE0 : E = 0 := by rw [← HE.out, hp2]; rfl
          subst hE0
          rw [hp1] at v0 v1 v2
          have hvv : veq ⟨x.k, x.i, x.s⟩ ⟨x.k, x.i, x.s⟩ = true := veq_self _
          clear hm hp1 hp2
          go_wp2_with fail
          refine (awake1_any _ LW10.out.1).mono ?_
          rintro e w11 ⟨rfl, hb11⟩
          go_wp2_with fail
          go_ret
          exact ⟨rfl, hbw10.trans (hb11.mono hz10)⟩

end Go.Proofs.YtdoonajhplcmlaaDoor
