/- The document's digits and Text, as the same plain functions as value's. Condition: texts that memory reaches, numbers of 64 bits. -/
import Derived.Test.YtelkcfkmejcjaaaDoorTextLaw
import Derived.Test.YtelkcfkmejcjaaaDoorBytes
import Derived.Lib.ItoaLen
namespace Go.Proofs.YtelkcfkmejcjaaaDoor
open Go.RowKit

attribute [local go_sem] ByteArray.extract_mk ba_get ba_append
attribute [local go_sem ↓] Go.wp_at_zero Go.wp_at_succ

/-- What is written when m is left and t stands already. -/
def digFin (m : Nat) (t : List UInt8) : List UInt8 := if m = 0 ∧ t ≠ [] then t else Lib.decDigits m ++ t
theorem digFin_step (m : Nat) (t : List UInt8) (h : 0 < m ∨ t = []) : digFin (m / 10) (UInt8.ofNat (48 + m % 10) :: t) = digFin m t := by
  unfold digFin
  have h1 : ¬ (m = 0 ∧ t ≠ []) := by rintro ⟨a, b⟩; rcases h with h | h
                                     · omega
                                     · exact b h
  rw [if_neg h1]
  by_cases hm : m < 10
  · rw [if_pos ⟨by omega, by simp⟩, Lib.decDigits_one hm, Nat.mod_eq_of_lt hm]; rfl
  · have e : Lib.decDigits m = Lib.decDigits (m / 10) ++ [UInt8.ofNat (48 + m % 10)] := by rw [Lib.decDigits, dif_neg hm]
    rw [if_neg (by intro ⟨a, _⟩; omega), e]; simp
theorem digFin_len (m : Nat) (t : List UInt8) : t.length ≤ (digFin m t).length := by
  unfold digFin; split <;> simp

theorem tmod_neg (m : Nat) : Int.tmod (-(m : Int)) 10 = -((m % 10 : Nat) : Int) := by
  rw [Int.neg_tmod, Int.tmod_eq_emod_of_nonneg (by omega)]; omega
theorem tdiv_neg (m : Nat) : Int.tdiv (-(m : Int)) 10 = -((m / 10 : Nat) : Int) := by
  rw [Int.neg_tdiv, Int.tdiv_eq_ediv_of_nonneg (by omega)]; omega

/-- A new octet's text. -/
theorem one_text (w : World) (x : Int) (c : UInt8) (h : (c.toNat : Int) = x) :
    (convert 92 9 (.slice (some ⟨w.heap.size, 0, none⟩) 1 1)).run Tryd.prog (w.alloc (.cells #[.int .u8 x] 5)) = .ok (.string ⟨[c].toArray⟩) (w.alloc (.cells #[.int .u8 x] 5)) :=
  own_text (n := 1) (base := 0) (l := [c]) Tryd.underlying92 Tryd.underlying5 Tryd.underlying9 (own_new w 0 5 x c h (Nat.zero_le _))

set_option maxHeartbeats 1000000 in
set_option maxRecDepth 100000 in
theorem rdigits_any (u : Nat) (w : World) (hu : u ≤ 9223372036854775808) :
    Calls Tryd.prog 66 #[.int .i64 (-(u : Int))] w (Ret (.string ⟨(Lib.decDigits u).toArray⟩) w) := by
  have hl : (Lib.decDigits u).length ≤ 21 := by
    rcases Nat.eq_zero_or_pos u with h | h
    · subst h; rw [Lib.decDigits_one (by omega)]; simp
    · have := Lib.itoa_length_le (-(u : Int)) (by omega) (by omega)
      unfold Lib.itoa at this
      rw [if_pos (by omega)] at this
      have e : (-(u : Int)).natAbs = u := by omega
      rw [e] at this
      simp at this; omega
  obtain ⟨D, hD⟩ : ∃ D, Lib.decDigits u = D := ⟨_, rfl⟩
  rw [hD] at hl ⊢
  have HD := Lib.hid hD
  clear hD
  go_enter Tryd.func66, Tryd.ntmps66
  go_wp2
  go_loopw [0, 3] (fun n s wr => ∃ (m : Nat) (t : List UInt8), n = .int .i64 (-(m : Int)) ∧ s = .string ⟨t.toArray⟩ ∧ m ≤ 9223372036854775808 ∧ t.length ≤ 21 ∧ Hid (digFin m t = D) ∧ Below w.heap.size w wr) (fun n s _ => (intOf n).natAbs + (match s with | .string b => if b.size = 0 then 1 else 0 | _ => 0))
  case atStart => exact ⟨u, [], rfl, rfl, hu, by simp, by show _ = _; rw [← HD.out]; simp [digFin], Below.refl _ _⟩
  case round =>
    obtain ⟨m, t, rfl, rfl, hm, ht, hf, hbw⟩ := hrel
    have hzw := hbw.size
    have tm := tmod_neg m
    have td := tdiv_neg m
    by_cases hgo : 0 < m ∨ t = []
    · have hs := digFin_step m t hgo
      rw [hf.out] at hs
      have HS := Lib.hid hs
      have hmod : m % 10 ≤ 9 := by omega
      have hlen : (UInt8.ofNat (48 + m % 10) :: t).length ≤ 21 := by
        have := digFin_len (m / 10) (UInt8.ofNat (48 + m % 10) :: t)
        rw [HS.out] at this; omega
      have HLEN := Lib.hid hlen
      have h1t := one_text wr (48 + (m : Int) % 10) (UInt8.ofNat (48 + m % 10)) (by rw [dig_nat _ (by omega)]; omega)
      clear hs hf hlen
      rcases Nat.eq_zero_or_pos m with h0 | h0
      · subst h0
        obtain rfl : t = [] := by
          rcases hgo with h | h
          · omega
          · exact h
        clear h1t tm td
        have h1t := one_text wr 48 (UInt8.ofNat 48) rfl
        have HS2 : Hid (digFin 0 [UInt8.ofNat 48] = D) := HS.out
        clear HS HLEN hmod hgo
        go_wp2
        go_roundw
        case rel => exact ⟨0, [UInt8.ofNat 48], rfl, rfl, by omega, by simp, HS2, by ((repeat' (first | with_reducible exact Below.refl _ _ | with_reducible assumption | with_reducible refine Below.drew ?_ | with_reducible refine below_drewN ?_ _ | with_reducible refine Below.setCell ?_ ?_ _ | with_reducible refine Below.alloc ?_ ?_ _ | with_reducible refine Below.trans ?_ (Below.mono (by assumption) ?_))) <;> (first | (simp; done) | (simp; omega) | omega))⟩
        case measure => simp [intOf, ByteArray.size]
      · have hlt : (-(m : Int)) < 0 := by omega
        generalize UInt8.ofNat (48 + m % 10) = ch at *
        go_wp2
        go_roundw
        case rel => exact ⟨m / 10, ch :: t, by simp, rfl, by omega, HLEN.out, HS, by ((repeat' (first | with_reducible exact Below.refl _ _ | with_reducible assumption | with_reducible refine Below.drew ?_ | with_reducible refine below_drewN ?_ _ | with_reducible refine Below.setCell ?_ ?_ _ | with_reducible refine Below.alloc ?_ ?_ _ | with_reducible refine Below.trans ?_ (Below.mono (by assumption) ?_))) <;> (first | (simp; done) | (simp; omega) | omega))⟩
        case measure => simp [intOf, ByteArray.size]; omega
    · have h0 : m = 0 := by omega
      subst h0
      have hne : (t == []) = false := by
        cases t with
        | nil => simp at hgo
        | cons c r => rfl
      have hD : D = t := by
        rw [← hf.out]; unfold digFin; rw [if_pos ⟨rfl, fun e => hgo (.inr e)⟩]
      have HD2 := Lib.hid hD
      clear hf hD hgo
      go_wp2
      go_ret
      exact ⟨by rw [HD2.out]; rfl, hbw⟩

theorem take_one (s : List UInt8) (j : Nat) (h : j < s.length) : List.take 1 (List.drop j s) = [s[j]] := by
  rw [List.drop_eq_getElem_cons h]; rfl
theorem quoteS_snoc (l : List UInt8) (c : UInt8) : quoteS (l ++ [c]) = quoteS l ++ (if c = 39 then [39, 39] else [c]) := by
  induction l with
  | nil => simp [quoteS]
  | cons d r ih => simp only [List.cons_append, quoteS]; split <;> simp [ih]

set_option maxHeartbeats 1000000 in
theorem rtext2_any (s : List UInt8) (w : World) (hm : mayB 2 0 s = true) :
    Calls Tryd.prog 40 #[.agg #[.int .i64 2, .int .i64 0, .string ⟨s.toArray⟩]] w (Ret (.string ⟨([39] ++ quoteS s ++ [39]).toArray⟩) w) := by
  have hs40 : s.length ≤ 40 := (may2 hm).2.1
  have HM := Lib.hid hm
  clear hm
  obtain ⟨R, hR⟩ : ∃ R, [39] ++ quoteS s = R := ⟨_, rfl⟩
  rw [hR]
  have HR := Lib.hid hR
  clear hR
  go_enter Tryd.func40, Tryd.ntmps40
  go_wp2_with fail
  refine (rmay_any _ _ _ _ (by omega)).mono ?_
  rintro e w0 ⟨rfl, hb0⟩
  rw [HM.out]
  have hz0 := hb0.size
  obtain ⟨hc0, hf0⟩ := bcell hb0
  simp at hz0 hc0 hf0
  have c2 : w0.cell? ⟨w.heap.size, 2, none⟩ = some (.string ⟨s.toArray⟩) := by rw [hc0 _ _ (by omega)]; simp [go_sem]
  have hbw : Below w.heap.size w w0 := by ((repeat' (first | with_reducible exact Below.refl _ _ | with_reducible assumption | with_reducible refine Below.drew ?_ | with_reducible refine below_drewN ?_ _ | with_reducible refine Below.setCell ?_ ?_ _ | with_reducible refine Below.alloc ?_ ?_ _ | with_reducible refine Below.trans ?_ (Below.mono (by assumption) ?_))) <;> (first | (simp; done) | (simp; omega) | omega))
  go_wp2_with fail
  go_loop [3, 4] (fun t i => ∃ (j : Nat) (q : List UInt8), j ≤ s.length ∧ i = .int .i64 j ∧ t = .string ⟨q.toArray⟩ ∧ q.length ≤ 1 + 2 * j ∧ Hid (q = [39] ++ quoteS (s.take j))) (fun _ i => s.length - (intOf i).toNat)
  case atStart => exact ⟨0, [39], by omega, rfl, rfl, by simp, rfl⟩
  case round =>
    obtain ⟨j, q, hj, rfl, rfl, hq, hrel⟩ := hrel
    by_cases hlt : j < s.length
    · have e1 := take_snoc s j hlt
      have e2 := quoteS_snoc (s.take j) s[j]
      by_cases h39 : s[j] = 39
      · have h39' : ((s[j].toNat : Int) == 39) = true := by rw [h39]; rfl
        have HN : Hid (q ++ List.take 1 (List.drop j s) ++ [39] = [39] ++ quoteS (s.take (j + 1))) := by
          show _ = _
          rw [take_one s j hlt, e1, e2, if_pos h39, hrel.out, h39]; simp
        clear e1 e2 h39 hrel
        have hl1 : (List.take 1 (List.drop j s)).length ≤ 1 := by rw [List.length_take]; omega
        go_wp2
        go_round
        case rel => exact ⟨j + 1, q ++ List.take 1 (List.drop j s) ++ [39], by omega, by go_num, by simp, by simp; omega, HN⟩
        case measure => simp [intOf]; omega
      · have h39' : ((s[j].toNat : Int) == 39) = false := by
          rw [beq_eq_false_iff_ne]; intro e; apply h39; apply UInt8.toNat.inj; show s[j].toNat = 39; omega
        have HN : Hid (q ++ List.take 1 (List.drop j s) = [39] ++ quoteS (s.take (j + 1))) := by
          show _ = _
          rw [take_one s j hlt, e1, e2, if_neg h39, hrel.out]; simp
        clear e1 e2 h39 hrel
        have hl1 : (List.take 1 (List.drop j s)).length ≤ 1 := by rw [List.length_take]; omega
        go_wp2
        go_round
        case rel => exact ⟨j + 1, q ++ List.take 1 (List.drop j s), by omega, by go_num, by simp, by simp; omega, HN⟩
        case measure => simp [intOf]; omega
    · have hq2 : R = q := by
        rw [← HR.out, hrel.out, List.take_of_length_le (by omega)]
      have HQ := Lib.hid hq2
      clear hq2 hrel
      go_wp2
      go_ret
      exact ⟨by rw [HQ.out]; rfl, hbw⟩

set_option maxHeartbeats 1000000 in
theorem rtext_odd (k i : Int) (s : List UInt8) (w : World) (hs : s.length ≤ 140737488351232) (hm : mayB k i s = false) :
    Calls Tryd.prog 40 #[.agg #[.int .i64 k, .int .i64 i, .string ⟨s.toArray⟩]] w (Ret (.string ⟨#[]⟩) w) := by
  have HM := Lib.hid hm
  clear hm
  go_enter Tryd.func40, Tryd.ntmps40
  go_wp2_with fail
  refine (rmay_any _ _ _ _ hs).mono ?_
  rintro e w0 ⟨rfl, hb0⟩
  rw [HM.out]
  go_wp2
  go_ret
  exact ⟨rfl, by ((repeat' (first | with_reducible exact Below.refl _ _ | with_reducible assumption | with_reducible refine Below.drew ?_ | with_reducible refine below_drewN ?_ _ | with_reducible refine Below.setCell ?_ ?_ _ | with_reducible refine Below.alloc ?_ ?_ _ | with_reducible refine Below.trans ?_ (Below.mono (by assumption) ?_))) <;> (first | (simp; done) | (simp; omega) | omega))⟩

set_option maxHeartbeats 1000000 in
theorem rtext0_any (w : World) :
    Calls Tryd.prog 40 #[.agg #[.int .i64 0, .int .i64 0, .string ⟨#[]⟩]] w (Ret (.string ⟨#[78, 85, 76, 76]⟩) w) := by
  have HM : Hid (mayB 0 0 [] = true) := by show _ = _; rfl
  go_enter Tryd.func40, Tryd.ntmps40
  go_wp2_with fail
  refine (rmay_any 0 0 [] _ (by simp)).mono ?_
  rintro e w0 ⟨rfl, hb0⟩
  rw [HM.out]
  have hz0 := hb0.size
  obtain ⟨hc0, hf0⟩ := bcell hb0
  simp at hz0 hc0 hf0
  go_wp2
  go_ret
  exact ⟨rfl, by ((repeat' (first | with_reducible exact Below.refl _ _ | with_reducible assumption | with_reducible refine Below.drew ?_ | with_reducible refine below_drewN ?_ _ | with_reducible refine Below.setCell ?_ ?_ _ | with_reducible refine Below.alloc ?_ ?_ _ | with_reducible refine Below.trans ?_ (Below.mono (by assumption) ?_))) <;> (first | (simp; done) | (simp; omega) | omega))⟩

set_option maxHeartbeats 1000000 in
theorem rtext1_any (i : Int) (w : World) (h1 : -9223372036854775808 ≤ i) (h2 : i ≤ 9223372036854775807) :
    Calls Tryd.prog 40 #[.agg #[.int .i64 1, .int .i64 i, .string ⟨#[]⟩]] w (Ret (.string ⟨(Lib.itoa i).toArray⟩) w) := by
  have HM : Hid (mayB 1 i [] = true) := by show _ = _; simp [mayB]
  by_cases hn : i < 0
  · obtain ⟨u, rfl⟩ : ∃ u : Nat, i = -(u : Int) := ⟨i.natAbs, by omega⟩
    have e : Lib.itoa (-(u : Int)) = 45 :: Lib.decDigits u := by
      unfold Lib.itoa; rw [if_pos hn]; congr 2; omega
    have hl : (Lib.decDigits u).length ≤ 21 := by
      have := Lib.itoa_length_le (-(u : Int)) (by omega) (by omega)
      rw [e] at this; simp at this; omega
    rw [e]
    clear e
    go_enter Tryd.func40, Tryd.ntmps40
    go_wp2_with fail
    refine (rmay_any 1 (-(u : Int)) [] _ (by simp)).mono ?_
    rintro e w0 ⟨rfl, hb0⟩
    rw [HM.out]
    have hz0 := hb0.size
    obtain ⟨hc0, hf0⟩ := bcell hb0
    simp at hz0 hc0 hf0
    go_wp2_with fail
    refine (rdigits_any u _ (by omega)).mono ?_
    rintro e w1 ⟨rfl, hb1⟩
    generalize Lib.decDigits u = D at *
    go_wp2
    go_ret
    exact ⟨rfl, by ((repeat' (first | with_reducible exact Below.refl _ _ | with_reducible assumption | with_reducible refine Below.drew ?_ | with_reducible refine below_drewN ?_ _ | with_reducible refine Below.setCell ?_ ?_ _ | with_reducible refine Below.alloc ?_ ?_ _ | with_reducible refine Below.trans ?_ (Below.mono (by assumption) ?_))) <;> (first | (simp; done) | (simp; omega) | omega))⟩
  · obtain ⟨u, rfl⟩ : ∃ u : Nat, i = (u : Int) := ⟨i.toNat, by omega⟩
    have e : Lib.itoa (u : Int) = Lib.decDigits u := by
      unfold Lib.itoa; rw [if_neg hn]; congr 1
    rw [e]
    clear e
    have hn' : ¬ (u : Int) < 0 := by omega
    go_enter Tryd.func40, Tryd.ntmps40
    go_wp2_with fail
    refine (rmay_any 1 (u : Int) [] _ (by simp)).mono ?_
    rintro e w0 ⟨rfl, hb0⟩
    rw [HM.out]
    have hz0 := hb0.size
    obtain ⟨hc0, hf0⟩ := bcell hb0
    simp at hz0 hc0 hf0
    go_wp2_with fail
    refine (rdigits_any u _ (by omega)).mono ?_
    rintro e w1 ⟨rfl, hb1⟩
    go_wp2
    go_ret
    exact ⟨rfl, by ((repeat' (first | with_reducible exact Below.refl _ _ | with_reducible assumption | with_reducible refine Below.drew ?_ | with_reducible refine below_drewN ?_ _ | with_reducible refine Below.setCell ?_ ?_ _ | with_reducible refine Below.alloc ?_ ?_ _ | with_reducible refine Below.trans ?_ (Below.mono (by assumption) ?_))) <;> (first | (simp; done) | (simp; omega) | omega))⟩

set_option maxHeartbeats 1000000 in
theorem rtext3_any (b : Bool) (w : World) :
    Calls Tryd.prog 40 #[.agg #[.int .i64 3, .int .i64 (if b then 1 else 0), .string ⟨#[]⟩]] w (Ret (.string ⟨(if b then [84, 82, 85, 69] else [70, 65, 76, 83, 69] : List UInt8).toArray⟩) w) := by
  cases b
  · have HM : Hid (mayB 3 0 [] = true) := by show _ = _; rfl
    go_enter Tryd.func40, Tryd.ntmps40
    go_wp2_with fail
    refine (rmay_any 3 0 [] _ (by simp)).mono ?_
    rintro e w0 ⟨rfl, hb0⟩
    rw [HM.out]
    have hz0 := hb0.size
    obtain ⟨hc0, hf0⟩ := bcell hb0
    simp at hz0 hc0 hf0
    go_wp2
    go_ret
    exact ⟨rfl, by ((repeat' (first | with_reducible exact Below.refl _ _ | with_reducible assumption | with_reducible refine Below.drew ?_ | with_reducible refine below_drewN ?_ _ | with_reducible refine Below.setCell ?_ ?_ _ | with_reducible refine Below.alloc ?_ ?_ _ | with_reducible refine Below.trans ?_ (Below.mono (by assumption) ?_))) <;> (first | (simp; done) | (simp; omega) | omega))⟩
  · have HM : Hid (mayB 3 1 [] = true) := by show _ = _; rfl
    go_enter Tryd.func40, Tryd.ntmps40
    go_wp2_with fail
    refine (rmay_any 3 1 [] _ (by simp)).mono ?_
    rintro e w0 ⟨rfl, hb0⟩
    rw [HM.out]
    have hz0 := hb0.size
    obtain ⟨hc0, hf0⟩ := bcell hb0
    simp at hz0 hc0 hf0
    go_wp2
    go_ret
    exact ⟨rfl, by ((repeat' (first | with_reducible exact Below.refl _ _ | with_reducible assumption | with_reducible refine Below.drew ?_ | with_reducible refine below_drewN ?_ _ | with_reducible refine Below.setCell ?_ ?_ _ | with_reducible refine Below.alloc ?_ ?_ _ | with_reducible refine Below.trans ?_ (Below.mono (by assumption) ?_))) <;> (first | (simp; done) | (simp; omega) | omega))⟩

/-- The document's Text, whatever value. -/
theorem rtext_any (k i : Int) (s : List UInt8) (w : World) (h1 : -9223372036854775808 ≤ i) (h2 : i ≤ 9223372036854775807) (hs : s.length ≤ 140737488351232) :
    Calls Tryd.prog 40 #[.agg #[.int .i64 k, .int .i64 i, .string ⟨s.toArray⟩]] w (Ret (.string ⟨(textF k i s).toArray⟩) w) := by
  cases hm : mayB k i s
  · have e : textF k i s = [] := by unfold textF; rw [hm]; rfl
    rw [e]
    exact rtext_odd k i s w hs hm
  · rcases may_kinds hm with ⟨rfl, rfl, rfl⟩ | ⟨rfl, rfl⟩ | ⟨rfl, rfl, _⟩ | ⟨rfl, hi, rfl⟩
    · exact rtext0_any w
    · have e : textF 1 i [] = Lib.itoa i := by unfold textF; rw [hm]; rfl
      rw [e]
      exact rtext1_any i w h1 h2
    · have e : textF 2 0 s = [39] ++ quoteS s ++ [39] := by unfold textF; rw [hm]; rfl
      rw [e]
      exact rtext2_any s w hm
    · rcases hi with rfl | rfl
      · exact rtext3_any false w
      · exact rtext3_any true w

end Go.Proofs.YtelkcfkmejcjaaaDoor
