/- caddislaw04.ExprWords answers true, whatever text: a word of the language is no column: alone it is no expression, but TRUE, FALSE and NULL, which are values; each other name is a column. No condition beyond the row's own. -/
import Derived.Test.YtdnkkkgneikhkaaGreatDoorWordLaw
import Derived.Test.YtdnkkkgneikhkaaGreatDoorAwake4
import Derived.Test.YtdnkkkgneikhkaaGreatDoorRef3Name
import Derived.Deep.CutBlock
import Derived.Deep.DeepCutAuto
namespace Go.Proofs.YtdnkkkgneikhkaaGreatDoor
open Go.RowKit

attribute [local go_sem] ByteArray.extract_mk ba_get ba_append
attribute [local go_sem ↓] Go.wp_at_zero Go.wp_at_succ run_eql_V run_neq_V

/-- What expr.Parse leaves of one word alone. -/
def RetW (R : Ex × Nat × Int) (w : World) (en : Ending) (w' : World) : Prop :=
  ∃ A' c', en = .returned (.tuple #[.agg #[.string ⟨R.1.op.toArray⟩, .int .i64 R.1.v.k, .int .i64 R.1.v.i, .string ⟨R.1.v.s.toArray⟩, .string ⟨R.1.s.toArray⟩, .slice A' R.1.l.length c'], .int .i64 (R.2.1 : Nat), .int .i64 R.2.2]) ∧ Below w.heap.size w w'
theorem word_any (S : List UInt8) (R : Ex × Nat × Int) (hR : parseX [⟨1, S⟩] = R) (hS : S.length ≤ 1000000) (X : World) (g : Nat) (k : Blk X g 48 #[.int .i64 1, .string ⟨S.toArray⟩]) (hE : Errs X) :
    Calls Tryz.prog 24 #[.slice (some ⟨g, 0, none⟩) 1 1] X (RetW R X) := by
  subst hR
  exact (parseX_any (some ⟨g, 0, none⟩) 1 [⟨1, S⟩] X (by simp) (by intro t ht; simp only [List.mem_cons, List.not_mem_nil, or_false] at ht; subst ht; exact hS) (tk_block (l := [⟨1, S⟩]) k) hE).mono fun en w' ⟨A', c', h1, _, h3⟩ => ⟨A', c', h1, h3⟩

set_option maxRecDepth 100000 in
set_option maxHeartbeats 4000000 in
theorem exprWords_walk (s : List UInt8) (w : World) (hs : s.length ≤ 9223372036854775807) (hE : Errs w) : Calls Tryz.prog 5 #[.string ⟨s.toArray⟩] w (Ret (.bool true) w) := by
  have HE := Lib.hid hE
  clear hE
  go_enter Tryz.func5, Tryz.ntmps5
  go_upto_if 8 with fail
  go_cut [0] (fun s0 wx => s0 = .string ⟨(s.take 20).toArray⟩ ∧ wx = w)
  case first =>
    by_cases hk : s.length ≤ 20
    · have HT : Hid (s.take 20 = s) := List.take_of_length_le hk
      go_wp2_with fail
      go_meet
      rw [HT.out]
      exact ⟨rfl, rfl⟩
    · go_wp2_with fail
      go_meet
      exact ⟨rfl, rfl⟩
  obtain ⟨rfl, rfl⟩ := hcut
  have hS20 : (s.take 20).length ≤ 20 := List.length_take_le _ _
  obtain ⟨S, hS⟩ : ∃ S, s.take 20 = S := ⟨_, rfl⟩
  rw [hS] at hS20 ⊢
  clear hS hs
  cases hn : nameB S
  · have HN := Lib.hid hn
    have hm : mayX (exCol S) = false := by show (nameB S && !reserved S) = false; rw [hn]; rfl
    have HM : Hid (Calls Tryz.prog 12 #[.agg #[.string ⟨#[99, 111, 108]⟩, .int .i64 0, .int .i64 0, .string ⟨#[]⟩, .string ⟨S.toArray⟩, .slice none 0 0]] wc (Ret (.bool false) wc)) := by
      have := mayX_any 0 (exCol S) none 0 wc (exCol_fit S (by omega)) (ExS.nil 0)
      rw [may_X 0 (exCol S) rfl, hm] at this
      exact this
    clear hn hm
    go_wp2_with fail
    refine (rname_any S _ (by omega)).mono ?_
    rw [show runB 16 letB partB S = false from HN.out]
    rintro en w1 ⟨rfl, rfl⟩
    go_wp2_with fail
    refine HM.out.mono ?_
    rintro en w2 ⟨rfl, hb2⟩
    go_wp2_with fail
    refine (awake4_any _ (HE.out.below hb2 rfl)).mono ?_
    rintro en w3 ⟨rfl, hb3⟩
    go_wp2_with fail
    go_ret
    exact ⟨rfl, hb2.trans (hb3.mono hb2.size)⟩
  · have HN := Lib.hid hn
    have hpw := parse_word S hn
    obtain ⟨w, rfl⟩ : ∃ w, w = wc := ⟨_, rfl⟩
    obtain ⟨w1, hw1⟩ : ∃ w1, w.alloc (.cells #[.int .i64 1, .string ⟨S.toArray⟩] 48) = w1 := ⟨_, rfl⟩
    have k1 : Blk w1 w.heap.size 48 #[.int .i64 1, .string ⟨S.toArray⟩] := by rw [← hw1]; exact Blk.new _ _ _
    have hb1 : Below w.heap.size w w1 := by rw [← hw1]; ((repeat' (first | with_reducible exact Below.refl _ _ | with_reducible assumption | with_reducible refine Below.drew ?_ | with_reducible refine below_drewN ?_ _ | with_reducible refine Below.setCell ?_ ?_ _ | with_reducible refine Below.alloc ?_ ?_ _ | with_reducible refine Below.trans ?_ (Below.mono (by assumption) ?_))) <;> (first | (simp; done) | (simp; omega) | omega))
    have hz1 := hb1.size
    have HE1 := Lib.hid (HE.out.below hb1 rfl)
    have HW1 := Lib.hid hw1
    clear hn hw1
    go_wp2_with fail
    refine (rname_any S _ (by omega)).mono ?_
    rw [show runB 16 letB partB S = true from HN.out]
    rintro en wq ⟨rfl, rfl⟩
    by_cases h1 : S = [84, 82, 85, 69]
    · have HP := Lib.hid (word_any S (exLit ⟨3, 1, []⟩, 1, 0) (by rw [hpw]; first | exact if_pos h1 | (rw [if_neg (by assumption)]; first | exact if_pos h1 | (rw [if_neg (by assumption)]; exact if_pos h1))) (by omega) w1 w.heap.size k1 HE1.out)
      have hrs : reserved S = true := by rw [h1]; rfl
      have e1 : (S == [84, 82, 85, 69]) = true := by rw [h1]; rfl
      have HRS := Lib.hid hrs
      clear hpw hrs h1
      go_wp2_with fail
      rw [HW1.out]
      refine HP.out.mono ?_
      rintro en w2 ⟨A2, c2, rfl, hb2⟩
      have hz2 := hb2.size
      dsimp only [exLit, exZero, V.zero, opLit, opCol, Ex.op, Ex.v, Ex.s, Ex.l, List.length_nil]
      have hbw2 : Below w.heap.size w w2 := hb1.trans (hb2.mono hz1)
      clear HP HW1
      go_wp2_with fail
      refine (reserved_any S _).mono ?_
      rw [HRS.out]
      rintro en w3 ⟨rfl, rfl⟩
      go_wp2_with fail
      refine (awake4_any _ (HE.out.below (B := w.heap.size) (by ((repeat' (first | with_reducible exact Below.refl _ _ | with_reducible assumption | with_reducible refine Below.drew ?_ | with_reducible refine below_drewN ?_ _ | with_reducible refine Below.setCell ?_ ?_ _ | with_reducible refine Below.alloc ?_ ?_ _ | with_reducible refine Below.trans ?_ (Below.mono (by assumption) ?_))) <;> (first | (simp; done) | (simp; omega) | omega))) rfl)).mono ?_
      rintro en w4 ⟨rfl, hb4⟩
      have hz4 := hb4.size
      simp at hz4
      go_wp2_with fail
      go_ret
      refine ⟨rfl, ?_⟩
      ((repeat' (first | with_reducible exact Below.refl _ _ | with_reducible assumption | with_reducible refine Below.drew ?_ | with_reducible refine below_drewN ?_ _ | with_reducible refine Below.setCell ?_ ?_ _ | with_reducible refine Below.alloc ?_ ?_ _ | with_reducible refine Below.trans ?_ (Below.mono (by assumption) ?_))) <;> (first | (simp; done) | (simp; omega) | omega))
    have g1 : ¬ S = [84, 82, 85, 69] := h1
    have e1 : (S == [84, 82, 85, 69]) = false := by rw [beq_eq_false_iff_ne]; exact h1
    by_cases h2 : S = [70, 65, 76, 83, 69]
    · have HP := Lib.hid (word_any S (exLit ⟨3, 0, []⟩, 1, 0) (by rw [hpw]; first | exact if_pos h2 | (rw [if_neg (by assumption)]; first | exact if_pos h2 | (rw [if_neg (by assumption)]; exact if_pos h2))) (by omega) w1 w.heap.size k1 HE1.out)
      have hrs : reserved S = true := by rw [h2]; rfl
      have e1 : (S == [70, 65, 76, 83, 69]) = true := by rw [h2]; rfl
      have HRS := Lib.hid hrs
      clear hpw hrs h2
      go_wp2_with fail
      rw [HW1.out]
      refine HP.out.mono ?_
      rintro en w2 ⟨A2, c2, rfl, hb2⟩
      have hz2 := hb2.size
      dsimp only [exLit, exZero, V.zero, opLit, opCol, Ex.op, Ex.v, Ex.s, Ex.l, List.length_nil]
      have hbw2 : Below w.heap.size w w2 := hb1.trans (hb2.mono hz1)
      clear HP HW1
      go_wp2_with fail
      refine (reserved_any S _).mono ?_
      rw [HRS.out]
      rintro en w3 ⟨rfl, rfl⟩
      go_wp2_with fail
      refine (awake4_any _ (HE.out.below (B := w.heap.size) (by ((repeat' (first | with_reducible exact Below.refl _ _ | with_reducible assumption | with_reducible refine Below.drew ?_ | with_reducible refine below_drewN ?_ _ | with_reducible refine Below.setCell ?_ ?_ _ | with_reducible refine Below.alloc ?_ ?_ _ | with_reducible refine Below.trans ?_ (Below.mono (by assumption) ?_))) <;> (first | (simp; done) | (simp; omega) | omega))) rfl)).mono ?_
      rintro en w4 ⟨rfl, hb4⟩
      have hz4 := hb4.size
      simp at hz4
      go_wp2_with fail
      go_ret
      refine ⟨rfl, ?_⟩
      ((repeat' (first | with_reducible exact Below.refl _ _ | with_reducible assumption | with_reducible refine Below.drew ?_ | with_reducible refine below_drewN ?_ _ | with_reducible refine Below.setCell ?_ ?_ _ | with_reducible refine Below.alloc ?_ ?_ _ | with_reducible refine Below.trans ?_ (Below.mono (by assumption) ?_))) <;> (first | (simp; done) | (simp; omega) | omega))
    have g2 : ¬ S = [70, 65, 76, 83, 69] := h2
    have e2 : (S == [70, 65, 76, 83, 69]) = false := by rw [beq_eq_false_iff_ne]; exact h2
    by_cases h3 : S = [78, 85, 76, 76]
    · have HP := Lib.hid (word_any S (exLit ⟨0, 0, []⟩, 1, 0) (by rw [hpw]; first | exact if_pos h3 | (rw [if_neg (by assumption)]; first | exact if_pos h3 | (rw [if_neg (by assumption)]; exact if_pos h3))) (by omega) w1 w.heap.size k1 HE1.out)
      have hrs : reserved S = true := by rw [h3]; rfl
      have e1 : (S == [78, 85, 76, 76]) = true := by rw [h3]; rfl
      have HRS := Lib.hid hrs
      clear hpw hrs h3
      go_wp2_with fail
      rw [HW1.out]
      refine HP.out.mono ?_
      rintro en w2 ⟨A2, c2, rfl, hb2⟩
      have hz2 := hb2.size
      dsimp only [exLit, exZero, V.zero, opLit, opCol, Ex.op, Ex.v, Ex.s, Ex.l, List.length_nil]
      have hbw2 : Below w.heap.size w w2 := hb1.trans (hb2.mono hz1)
      clear HP HW1
      go_wp2_with fail
      refine (reserved_any S _).mono ?_
      rw [HRS.out]
      rintro en w3 ⟨rfl, rfl⟩
      go_wp2_with fail
      refine (awake4_any _ (HE.out.below (B := w.heap.size) (by ((repeat' (first | with_reducible exact Below.refl _ _ | with_reducible assumption | with_reducible refine Below.drew ?_ | with_reducible refine below_drewN ?_ _ | with_reducible refine Below.setCell ?_ ?_ _ | with_reducible refine Below.alloc ?_ ?_ _ | with_reducible refine Below.trans ?_ (Below.mono (by assumption) ?_))) <;> (first | (simp; done) | (simp; omega) | omega))) rfl)).mono ?_
      rintro en w4 ⟨rfl, hb4⟩
      have hz4 := hb4.size
      simp at hz4
      go_wp2_with fail
      go_ret
      refine ⟨rfl, ?_⟩
      ((repeat' (first | with_reducible exact Below.refl _ _ | with_reducible assumption | with_reducible refine Below.drew ?_ | with_reducible refine below_drewN ?_ _ | with_reducible refine Below.setCell ?_ ?_ _ | with_reducible refine Below.alloc ?_ ?_ _ | with_reducible refine Below.trans ?_ (Below.mono (by assumption) ?_))) <;> (first | (simp; done) | (simp; omega) | omega))
    have g3 : ¬ S = [78, 85, 76, 76] := h3
    have e3 : (S == [78, 85, 76, 76]) = false := by rw [beq_eq_false_iff_ne]; exact h3
    rw [if_neg h1, if_neg h2, if_neg h3] at hpw
    clear h1 h2 h3
    cases hrs : reserved S
    · rw [hrs, if_neg (by decide)] at hpw
      have HP := Lib.hid (word_any S _ hpw (by omega) w1 w.heap.size k1 HE1.out)
      have HRS := Lib.hid hrs
      clear hpw hrs
      go_wp2_with fail
      rw [HW1.out]
      refine HP.out.mono ?_
      rintro en w2 ⟨A2, c2, rfl, hb2⟩
      have hz2 := hb2.size
      dsimp only [exLit, exZero, V.zero, opLit, opCol, Ex.op, Ex.v, Ex.s, Ex.l, List.length_nil]
      have hbw2 : Below w.heap.size w w2 := hb1.trans (hb2.mono hz1)
      clear HP HW1
      go_wp2_with fail
      refine (reserved_any S _).mono ?_
      rw [HRS.out]
      rintro en w3 ⟨rfl, rfl⟩
      go_wp2_with fail
      refine (awake4_any _ (HE.out.below (B := w.heap.size) (by ((repeat' (first | with_reducible exact Below.refl _ _ | with_reducible assumption | with_reducible refine Below.drew ?_ | with_reducible refine below_drewN ?_ _ | with_reducible refine Below.setCell ?_ ?_ _ | with_reducible refine Below.alloc ?_ ?_ _ | with_reducible refine Below.trans ?_ (Below.mono (by assumption) ?_))) <;> (first | (simp; done) | (simp; omega) | omega))) rfl)).mono ?_
      rintro en w4 ⟨rfl, hb4⟩
      have hz4 := hb4.size
      simp at hz4
      go_wp2_with fail
      go_ret
      refine ⟨rfl, ?_⟩
      ((repeat' (first | with_reducible exact Below.refl _ _ | with_reducible assumption | with_reducible refine Below.drew ?_ | with_reducible refine below_drewN ?_ _ | with_reducible refine Below.setCell ?_ ?_ _ | with_reducible refine Below.alloc ?_ ?_ _ | with_reducible refine Below.trans ?_ (Below.mono (by assumption) ?_))) <;> (first | (simp; done) | (simp; omega) | omega))
    · rw [hrs, if_pos rfl] at hpw
      have HP := Lib.hid (word_any S _ hpw (by omega) w1 w.heap.size k1 HE1.out)
      have HRS := Lib.hid hrs
      clear hpw hrs
      go_wp2_with fail
      rw [HW1.out]
      refine HP.out.mono ?_
      rintro en w2 ⟨A2, c2, rfl, hb2⟩
      have hz2 := hb2.size
      dsimp only [exLit, exZero, V.zero, opLit, opCol, Ex.op, Ex.v, Ex.s, Ex.l, List.length_nil]
      have hbw2 : Below w.heap.size w w2 := hb1.trans (hb2.mono hz1)
      clear HP HW1
      go_wp2_with fail
      refine (reserved_any S _).mono ?_
      rw [HRS.out]
      rintro en w3 ⟨rfl, rfl⟩
      go_wp2_with fail
      refine (awake4_any _ (HE.out.below (B := w.heap.size) (by ((repeat' (first | with_reducible exact Below.refl _ _ | with_reducible assumption | with_reducible refine Below.drew ?_ | with_reducible refine below_drewN ?_ _ | with_reducible refine Below.setCell ?_ ?_ _ | with_reducible refine Below.alloc ?_ ?_ _ | with_reducible refine Below.trans ?_ (Below.mono (by assumption) ?_))) <;> (first | (simp; done) | (simp; omega) | omega))) rfl)).mono ?_
      rintro en w4 ⟨rfl, hb4⟩
      have hz4 := hb4.size
      simp at hz4
      go_wp2_with fail
      go_ret
      refine ⟨rfl, ?_⟩
      ((repeat' (first | with_reducible exact Below.refl _ _ | with_reducible assumption | with_reducible refine Below.drew ?_ | with_reducible refine below_drewN ?_ _ | with_reducible refine Below.setCell ?_ ?_ _ | with_reducible refine Below.alloc ?_ ?_ _ | with_reducible refine Below.trans ?_ (Below.mono (by assumption) ?_))) <;> (first | (simp; done) | (simp; omega) | omega))

end Go.Proofs.YtdnkkkgneikhkaaGreatDoor
