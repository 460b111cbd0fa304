/- The document's letters, digits, names and tokens that may be, as plain functions. Condition: a text that memory reaches. -/
import Derived.Test.YtelkcfkmejcjaaaDoorJoinLaw
import Derived.Test.YtelkcfkmejcjaaaDoorRef1
import Derived.RegionTactic
namespace Go.Proofs.YtelkcfkmejcjaaaDoor
open Go.RowKit

attribute [local go_sem] ByteArray.extract_mk ba_get ba_append
attribute [local go_sem ↓] Go.wp_at_zero Go.wp_at_succ

theorem rdigit_any (c : UInt8) (w : World) : Calls Tryd.prog 85 #[.int .u8 (c.toNat : Int)] w (RetB (digB c) w) := by
  by_cases h1 : 48 ≤ c.toNat
  · have p1 : (48 : Int) ≤ (c.toNat : Int) := by omega
    by_cases h2 : c.toNat ≤ 57
    · have p2 : (c.toNat : Int) ≤ 57 := by omega
      go_enter Tryd.func85, Tryd.ntmps85
      go_wp2
      go_ret
      exact ⟨by simp [digB, h1, h2], rfl⟩
    · have p2 : ¬ (c.toNat : Int) ≤ 57 := by omega
      go_enter Tryd.func85, Tryd.ntmps85
      go_wp2
      go_ret
      exact ⟨by simp [digB, h2], rfl⟩
  · have p1 : ¬ (48 : Int) ≤ (c.toNat : Int) := by omega
    go_enter Tryd.func85, Tryd.ntmps85
    go_wp2
    go_ret
    exact ⟨by simp [digB, h1], rfl⟩
theorem rletter_any (c : UInt8) (w : World) : Calls Tryd.prog 105 #[.int .u8 (c.toNat : Int)] w (RetB (letB c) w) := by
  by_cases h3 : 65 ≤ c.toNat
  · have p3 : (65 : Int) ≤ (c.toNat : Int) := by omega
    by_cases h4 : c.toNat ≤ 90
    · have p4 : (c.toNat : Int) ≤ 90 := by omega
      go_enter Tryd.func105, Tryd.ntmps105
      go_wp2
      go_ret
      exact ⟨by simp [letB, h3, h4], rfl⟩
    · have p4 : ¬ (c.toNat : Int) ≤ 90 := by omega
      by_cases h1 : 97 ≤ c.toNat
      · have p1 : (97 : Int) ≤ (c.toNat : Int) := by omega
        by_cases h2 : c.toNat ≤ 122
        · have p2 : (c.toNat : Int) ≤ 122 := by omega
          go_enter Tryd.func105, Tryd.ntmps105
          go_wp2
          go_ret
          exact ⟨by simp [letB, h1, h2], rfl⟩
        · have p2 : ¬ (c.toNat : Int) ≤ 122 := by omega
          go_enter Tryd.func105, Tryd.ntmps105
          go_wp2
          go_ret
          exact ⟨by simp [letB, h2, h4], rfl⟩
      · have p1 : ¬ (97 : Int) ≤ (c.toNat : Int) := by omega
        go_enter Tryd.func105, Tryd.ntmps105
        go_wp2
        go_ret
        exact ⟨by simp [letB, h1, h4], rfl⟩
  · have p3 : ¬ (65 : Int) ≤ (c.toNat : Int) := by omega
    have p1 : ¬ (97 : Int) ≤ (c.toNat : Int) := by omega
    have h1 : ¬ 97 ≤ c.toNat := by omega
    go_enter Tryd.func105, Tryd.ntmps105
    go_wp2
    go_ret
    exact ⟨by simp [letB, h1, h3], rfl⟩
theorem rpart_any (c : UInt8) (w : World) : Calls Tryd.prog 104 #[.int .u8 (c.toNat : Int)] w (RetB (partB c) w) := by
  obtain ⟨R, hR⟩ : ∃ R, partB c = R := ⟨_, rfl⟩
  rw [hR]
  cases hd : digB c
  · have HD := Lib.hid hd
    cases hl : letB c
    · have HL := Lib.hid hl
      have HP : Hid (R = ((c.toNat : Int) == 95)) := by
        show _ = _
        rw [← hR]
        unfold partB
        rw [hl, hd]
        by_cases h : c.toNat = 95
        · simp [h]
        · have : ¬ ((c.toNat : Int) = 95) := by omega
          simp [h, this]
      clear hl hd hR
      go_enter Tryd.func104, Tryd.ntmps104
      go_wp2_with (first | (go_at_call 85; refine (rdigit_any c _).mono ?_; rw [HD.out]; rintro e w' ⟨rfl, rfl⟩) | (go_at_call 105; refine (rletter_any c _).mono ?_; rw [HL.out]; rintro e w' ⟨rfl, rfl⟩))
      go_ret
      exact ⟨by rw [HP.out]; rfl, rfl⟩
    · have HL := Lib.hid hl
      have HP : Hid (R = true) := by show _ = _; rw [← hR]; unfold partB; rw [hl]; rfl
      clear hl hd hR
      go_enter Tryd.func104, Tryd.ntmps104
      go_wp2_with (first | (go_at_call 85; refine (rdigit_any c _).mono ?_; rw [HD.out]; rintro e w' ⟨rfl, rfl⟩) | (go_at_call 105; refine (rletter_any c _).mono ?_; rw [HL.out]; rintro e w' ⟨rfl, rfl⟩))
      go_ret
      exact ⟨by rw [HP.out]; rfl, rfl⟩
  · have HD := Lib.hid hd
    have HP : Hid (R = true) := by show _ = _; rw [← hR]; unfold partB; rw [hd]; simp
    clear hd hR
    go_enter Tryd.func104, Tryd.ntmps104
    go_wp2_with (go_at_call 85; refine (rdigit_any c _).mono ?_; rw [HD.out]; rintro e w' ⟨rfl, rfl⟩)
    go_ret
    exact ⟨by rw [HP.out]; rfl, rfl⟩

/-- A name, as the document says. -/
theorem takeWhile_len (g : UInt8 → Bool) : ∀ r : List UInt8, ((r.takeWhile g).length = r.length) ↔ r.all g = true
  | [] => by simp
  | c :: r => by
    have ih := takeWhile_len g r
    rw [List.takeWhile_cons, List.all_cons]
    cases hg : g c
    · simp
    · simp only [if_true, List.length_cons, Bool.true_and]
      rw [← ih]
      omega
def headB (f : UInt8 → Bool) : List UInt8 → Bool
  | [] => false
  | c :: _ => f c
theorem runB_name (m : Nat) (f g : UInt8 → Bool) (hfg : ∀ c, f c = true → g c = true) (s : List UInt8) : runB m f g s = (s.all g && (decide (1 ≤ s.length) && decide (s.length ≤ m) && headB f s)) := by
  unfold runB
  cases s with
  | nil => simp
  | cons c r =>
    have hl : lenRun f g (c :: r) = if f c then 1 + (r.takeWhile g).length else 0 := rfl
    rw [hl]
    cases hf : f c
    · have : headB f (c :: r) = false := hf
      rw [this]
      simp
    · have hg := hfg c hf
      have hh : headB f (c :: r) = true := hf
      have key : ((1 + (r.takeWhile g).length) == (c :: r).length) = r.all g := by
        rw [Bool.eq_iff_iff, beq_iff_eq, ← takeWhile_len, List.length_cons]
        omega
      rw [hh, List.all_cons, hg]
      simp only [if_true, key, Bool.true_and, Bool.and_true]
      cases r.all g <;> simp

theorem all_at (g : UInt8 → Bool) (s : List UInt8) (j : Nat) (hj : j < s.length) : (s.drop j).all g = (g s[j] && (s.drop (j + 1)).all g) := by
  rw [List.drop_eq_getElem_cons hj, List.all_cons]

set_option maxHeartbeats 1000000 in
theorem rname_any (s : List UInt8) (w : World) (hs : s.length ≤ 1000000) : Calls Tryd.prog 84 #[.string ⟨s.toArray⟩] w (RetB (runB 16 letB partB s) w) := by
  obtain ⟨R, hR⟩ : ∃ R, runB 16 letB partB s = R := ⟨_, rfl⟩
  rw [hR]
  rw [runB_name 16 letB partB (fun c h => by unfold partB; rw [h]; rfl)] at hR
  obtain ⟨T, hT⟩ : ∃ T, (decide (1 ≤ s.length) && decide (s.length ≤ 16) && headB letB s) = T := ⟨_, rfl⟩
  rw [hT] at hR
  have HT := Lib.hid hT
  have HR : Hid (((s.drop 0).all partB && T) = R) := hR
  clear hT hR
  go_enter Tryd.func84, Tryd.ntmps84
  go_wp2
  go_loopg [3] s.length (fun g i wr => ∃ j : Nat, j + g = s.length ∧ i = .int .i64 j ∧ Hid (((s.drop j).all partB && T) = R) ∧ wr = w)
  case atStart => exact ⟨0, by omega, rfl, HR, rfl⟩
  case round =>
    obtain ⟨j, hj, rfl, hrest, rfl⟩ := hrel
    have HJ := Lib.hid hj
    by_cases hlt : j < s.length
    · obtain ⟨c, hcg⟩ : ∃ c, s[j] = c := ⟨_, rfl⟩
      have hrest' := hrest.out
      rw [all_at _ _ _ hlt, hcg] at hrest'
      obtain ⟨g', rfl⟩ : ∃ g', gk = g' + 1 := ⟨gk - 1, by omega⟩
      clear hj hrest
      cases hq : partB c
      · have HF : Hid (R = false) := by show R = false; rw [← hrest', hq]; rfl
        have HQ := Lib.hid hq
        clear hrest' hq
        go_wp2_with (go_at_call 104; refine (rpart_any c _).mono ?_; rw [HQ.out]; rintro e w' ⟨rfl, rfl⟩)
        go_ret
        exact ⟨by rw [HF.out]; rfl, rfl⟩
      · have HF : Hid (((s.drop (j + 1)).all partB && T) = R) := by show _ = R; rw [← hrest', hq]; rfl
        have HQ := Lib.hid hq
        clear hrest' hq
        go_wp2_with (go_at_call 104; refine (rpart_any c _).mono ?_; rw [HQ.out]; rintro e w' ⟨rfl, rfl⟩)
        go_roundg g'
        case measure => omega
        case rel => exact ⟨j + 1, by have := HJ.out; omega, by go_num, HF, rfl⟩
    · have HF : Hid (R = T) := by
        show R = T
        rw [← hrest.out, List.drop_of_length_le (by omega)]
        rfl
      clear hj hrest HR
      by_cases h1 : 1 ≤ s.length
      · by_cases h16 : s.length ≤ 16
        · obtain ⟨c, hc⟩ : ∃ c, s[0] = c := ⟨_, rfl⟩
          have HTL : Hid (T = letB c) := by
            show _ = _
            rw [← HT.out, ← hc]
            cases s with
            | nil => simp at h1
            | cons a r => simp at h16; simp [h16, headB]
          have h2 : (s.length : Int) ≤ 16 := by omega
          have h3 : (1 : Int) ≤ s.length := by omega
          clear HT
          go_wp2_with (go_at_call 105; refine (rletter_any c _).mono ?_; rintro e w' ⟨rfl, rfl⟩)
          go_ret
          exact ⟨by rw [HF.out, HTL.out]; rfl, rfl⟩
        · have HTL : Hid (T = false) := by show _ = _; rw [← HT.out]; simp [h16]
          have h2 : ¬ (s.length : Int) ≤ 16 := by omega
          have h3 : (1 : Int) ≤ s.length := by omega
          clear HT
          go_wp2_with fail
          go_ret
          exact ⟨by rw [HF.out, HTL.out]; rfl, rfl⟩
      · have HTL : Hid (T = false) := by show _ = _; rw [← HT.out]; simp [show ¬ 1 ≤ s.length by omega]
        have h3 : ¬ (1 : Int) ≤ s.length := by omega
        clear HT
        go_wp2_with fail
        go_ret
        exact ⟨by rw [HF.out, HTL.out]; rfl, rfl⟩

theorem runB_digs (s : List UInt8) : runB 19 digB digB s = (s.all digB && (decide (1 ≤ s.length) && decide (s.length ≤ 19))) := by
  rw [runB_name 19 digB digB (fun _ h => h)]
  cases s with
  | nil => rfl
  | cons c r =>
    cases h : digB c
    · simp [h]
    · simp [h, headB]


set_option maxHeartbeats 2000000 in
theorem rmayTok_any (k : Int) (s : List UInt8) (w : World) (hs : s.length ≤ 1000000) :
    Calls Tryd.prog 68 #[.agg #[.int .i64 k, .string ⟨s.toArray⟩]] w (Ret (.bool (mayT ⟨k, s⟩)) w) := by
  obtain ⟨R, hR⟩ : ∃ R, mayT ⟨k, s⟩ = R := ⟨_, rfl⟩
  rw [hR]
  by_cases h1 : k = 1
  · subst h1
    have HR : Hid (R = runB 16 letB partB s) := by show _ = _; rw [← hR]; rfl
    clear hR
    go_enter Tryd.func68, Tryd.ntmps68
    go_wp2_with fail
    refine (rname_any s _ hs).mono ?_
    rintro e w1 ⟨rfl, rfl⟩
    go_wp2_with fail
    go_ret
    exact ⟨by rw [HR.out]; rfl, by ((repeat' (first | with_reducible exact Below.refl _ _ | with_reducible assumption | with_reducible refine Below.drew ?_ | with_reducible refine below_drewN ?_ _ | with_reducible refine Below.setCell ?_ ?_ _ | with_reducible refine Below.alloc ?_ ?_ _ | with_reducible refine Below.trans ?_ (Below.mono (by assumption) ?_))) <;> (first | (simp; done) | (simp; omega) | omega))⟩
  by_cases h2 : k = 2
  · subst h2
    have HR : Hid (((s.drop 0).all digB && (decide (1 ≤ s.length) && decide (s.length ≤ 19))) = R) := by show _ = _; rw [List.drop_zero, ← runB_digs, ← hR]; rfl
    clear hR h1
    go_enter Tryd.func68, Tryd.ntmps68
    go_wp2_with fail
    go_loopg [3] s.length (fun g i wr => ∃ j : Nat, j + g = s.length ∧ i = .int .i64 j ∧ Hid (((s.drop j).all digB && (decide (1 ≤ s.length) && decide (s.length ≤ 19))) = R) ∧ wr = w.alloc (.cells #[.int .i64 2, .string ⟨s.toArray⟩] 56))
    case atStart => exact ⟨0, by omega, rfl, HR, rfl⟩
    case round =>
      obtain ⟨j, hj, rfl, hrest, rfl⟩ := hrel
      have HJ := Lib.hid hj
      by_cases hlt : j < s.length
      · obtain ⟨c, hcg⟩ : ∃ c, s[j] = c := ⟨_, rfl⟩
        have hrest' := hrest.out
        rw [all_at _ _ _ hlt, hcg] at hrest'
        obtain ⟨g', rfl⟩ : ∃ g', gk = g' + 1 := ⟨gk - 1, by omega⟩
        clear hj hrest
        cases hq : digB c
        · have HF : Hid (R = false) := by show R = false; rw [← hrest', hq]; rfl
          have HQ := Lib.hid hq
          clear hrest' hq
          go_wp2_with (go_at_call 85; refine (rdigit_any c _).mono ?_; rw [HQ.out]; rintro e w' ⟨rfl, rfl⟩)
          go_ret
          exact ⟨by rw [HF.out]; rfl, by ((repeat' (first | with_reducible exact Below.refl _ _ | with_reducible assumption | with_reducible refine Below.drew ?_ | with_reducible refine below_drewN ?_ _ | with_reducible refine Below.setCell ?_ ?_ _ | with_reducible refine Below.alloc ?_ ?_ _ | with_reducible refine Below.trans ?_ (Below.mono (by assumption) ?_))) <;> (first | (simp; done) | (simp; omega) | omega))⟩
        · have HF : Hid (((s.drop (j + 1)).all digB && (decide (1 ≤ s.length) && decide (s.length ≤ 19))) = R) := by show _ = R; rw [← hrest', hq]; rfl
          have HQ := Lib.hid hq
          clear hrest' hq
          go_wp2_with (go_at_call 85; refine (rdigit_any c _).mono ?_; rw [HQ.out]; rintro e w' ⟨rfl, rfl⟩)
          go_roundg g'
          case measure => omega
          case rel => exact ⟨j + 1, by have := HJ.out; omega, by go_num, HF, rfl⟩
      · have HF : Hid (R = (decide (1 ≤ s.length) && decide (s.length ≤ 19))) := by
          show R = _
          rw [← hrest.out, List.drop_of_length_le (by omega)]
          rfl
        clear hj hrest HR
        by_cases h1 : 1 ≤ s.length
        · by_cases h16 : s.length ≤ 19
          · have HTL : Hid (R = true) := by show _ = _; rw [HF.out]; simp; omega
            have h2 : (s.length : Int) ≤ 19 := by omega
            have h3 : (1 : Int) ≤ s.length := by omega
            go_wp2_with fail
            go_ret
            exact ⟨by rw [HTL.out]; rfl, by ((repeat' (first | with_reducible exact Below.refl _ _ | with_reducible assumption | with_reducible refine Below.drew ?_ | with_reducible refine below_drewN ?_ _ | with_reducible refine Below.setCell ?_ ?_ _ | with_reducible refine Below.alloc ?_ ?_ _ | with_reducible refine Below.trans ?_ (Below.mono (by assumption) ?_))) <;> (first | (simp; done) | (simp; omega) | omega))⟩
          · have HTL : Hid (R = false) := by show _ = _; rw [HF.out]; simp; omega
            have h2 : ¬ (s.length : Int) ≤ 19 := by omega
            have h3 : (1 : Int) ≤ s.length := by omega
            go_wp2_with fail
            go_ret
            exact ⟨by rw [HTL.out]; rfl, by ((repeat' (first | with_reducible exact Below.refl _ _ | with_reducible assumption | with_reducible refine Below.drew ?_ | with_reducible refine below_drewN ?_ _ | with_reducible refine Below.setCell ?_ ?_ _ | with_reducible refine Below.alloc ?_ ?_ _ | with_reducible refine Below.trans ?_ (Below.mono (by assumption) ?_))) <;> (first | (simp; done) | (simp; omega) | omega))⟩
        · have HTL : Hid (R = false) := by show _ = _; rw [HF.out]; simp; omega
          have h3 : ¬ (1 : Int) ≤ s.length := by omega
          go_wp2_with fail
          go_ret
          exact ⟨by rw [HTL.out]; rfl, by ((repeat' (first | with_reducible exact Below.refl _ _ | with_reducible assumption | with_reducible refine Below.drew ?_ | with_reducible refine below_drewN ?_ _ | with_reducible refine Below.setCell ?_ ?_ _ | with_reducible refine Below.alloc ?_ ?_ _ | with_reducible refine Below.trans ?_ (Below.mono (by assumption) ?_))) <;> (first | (simp; done) | (simp; omega) | omega))⟩
  by_cases h3 : k = 3
  · subst h3
    have HR : Hid (R = mayB 2 0 s) := by show _ = _; rw [← hR]; rfl
    clear hR h1 h2
    go_enter Tryd.func68, Tryd.ntmps68
    go_wp2_with fail
    refine (rmay_any 2 0 s _ (by omega)).mono ?_
    rintro e w1 ⟨rfl, hb1⟩
    rw [← HR.out]
    go_wp2_with fail
    go_ret
    exact ⟨rfl, by ((repeat' (first | with_reducible exact Below.refl _ _ | with_reducible assumption | with_reducible refine Below.drew ?_ | with_reducible refine below_drewN ?_ _ | with_reducible refine Below.setCell ?_ ?_ _ | with_reducible refine Below.alloc ?_ ?_ _ | with_reducible refine Below.trans ?_ (Below.mono (by assumption) ?_))) <;> (first | (simp; done) | (simp; omega) | omega))⟩
  by_cases h4 : k = 4
  · subst h4
    have HR : Hid (R = oneSign s) := by show _ = _; rw [← hR]; rfl
    clear hR h1 h2 h3
    match s, HR with
    | [], HR =>
      go_enter Tryd.func68, Tryd.ntmps68
      go_wp2_with fail
      go_ret
      exact ⟨by rw [HR.out]; rfl, by ((repeat' (first | with_reducible exact Below.refl _ _ | with_reducible assumption | with_reducible refine Below.drew ?_ | with_reducible refine below_drewN ?_ _ | with_reducible refine Below.setCell ?_ ?_ _ | with_reducible refine Below.alloc ?_ ?_ _ | with_reducible refine Below.trans ?_ (Below.mono (by assumption) ?_))) <;> (first | (simp; done) | (simp; omega) | omega))⟩
    | [c], HR =>
      by_cases hc : signB c = true
      · have hm : c ∈ signL := by
          unfold signB at hc
          simp only [decide_eq_true_eq] at hc
          exact indexByte_mem _ _ hc
        simp only [signL, List.mem_cons, List.not_mem_nil, or_false] at hm
        have HR2 : Hid (R = true) := by show _ = _; rw [HR.out]; exact hc
        clear HR
        have HR := HR2
        clear HR2
        rcases hm with rfl | rfl | rfl | rfl | rfl | rfl | rfl | rfl
        all_goals
          go_enter Tryd.func68, Tryd.ntmps68
          go_wp2_with fail
          go_ret
          exact ⟨by rw [HR.out]; rfl, by ((repeat' (first | with_reducible exact Below.refl _ _ | with_reducible assumption | with_reducible refine Below.drew ?_ | with_reducible refine below_drewN ?_ _ | with_reducible refine Below.setCell ?_ ?_ _ | with_reducible refine Below.alloc ?_ ?_ _ | with_reducible refine Below.trans ?_ (Below.mono (by assumption) ?_))) <;> (first | (simp; done) | (simp; omega) | omega))⟩
      · have n1 : (c == 40) = false := by rw [beq_eq_false_iff_ne]; intro e; subst e; exact hc (by decide)
        have n2 : (c == 41) = false := by rw [beq_eq_false_iff_ne]; intro e; subst e; exact hc (by decide)
        have n3 : (c == 44) = false := by rw [beq_eq_false_iff_ne]; intro e; subst e; exact hc (by decide)
        have n4 : (c == 61) = false := by rw [beq_eq_false_iff_ne]; intro e; subst e; exact hc (by decide)
        have n5 : (c == 60) = false := by rw [beq_eq_false_iff_ne]; intro e; subst e; exact hc (by decide)
        have n6 : (c == 43) = false := by rw [beq_eq_false_iff_ne]; intro e; subst e; exact hc (by decide)
        have n7 : (c == 45) = false := by rw [beq_eq_false_iff_ne]; intro e; subst e; exact hc (by decide)
        have n8 : (c == 42) = false := by rw [beq_eq_false_iff_ne]; intro e; subst e; exact hc (by decide)
        have HR2 : Hid (R = false) := by show _ = _; rw [HR.out]; simpa [oneSign] using hc
        clear HR hc
        have HR := HR2
        clear HR2
        go_enter Tryd.func68, Tryd.ntmps68
        go_wp2_with fail
        go_ret
        exact ⟨by rw [HR.out]; rfl, by ((repeat' (first | with_reducible exact Below.refl _ _ | with_reducible assumption | with_reducible refine Below.drew ?_ | with_reducible refine below_drewN ?_ _ | with_reducible refine Below.setCell ?_ ?_ _ | with_reducible refine Below.alloc ?_ ?_ _ | with_reducible refine Below.trans ?_ (Below.mono (by assumption) ?_))) <;> (first | (simp; done) | (simp; omega) | omega))⟩
    | c :: d :: r, HR =>
      go_enter Tryd.func68, Tryd.ntmps68
      go_wp2_with fail
      go_ret
      exact ⟨by rw [HR.out]; rfl, by ((repeat' (first | with_reducible exact Below.refl _ _ | with_reducible assumption | with_reducible refine Below.drew ?_ | with_reducible refine below_drewN ?_ _ | with_reducible refine Below.setCell ?_ ?_ _ | with_reducible refine Below.alloc ?_ ?_ _ | with_reducible refine Below.trans ?_ (Below.mono (by assumption) ?_))) <;> (first | (simp; done) | (simp; omega) | omega))⟩
  · have e1 : (k == 1) = false := by simpa using h1
    have e2 : (k == 2) = false := by simpa using h2
    have e3 : (k == 3) = false := by simpa using h3
    have e4 : (k == 4) = false := by simpa using h4
    have HR : Hid (R = false) := by show _ = _; rw [← hR]; simp [mayT, h1, h2, h3, h4]
    clear hR h1 h2 h3 h4
    go_enter Tryd.func68, Tryd.ntmps68
    go_wp2_with fail
    go_ret
    exact ⟨by rw [HR.out]; rfl, by ((repeat' (first | with_reducible exact Below.refl _ _ | with_reducible assumption | with_reducible refine Below.drew ?_ | with_reducible refine below_drewN ?_ _ | with_reducible refine Below.setCell ?_ ?_ _ | with_reducible refine Below.alloc ?_ ?_ _ | with_reducible refine Below.trans ?_ (Below.mono (by assumption) ?_))) <;> (first | (simp; done) | (simp; omega) | omega))⟩

end Go.Proofs.YtelkcfkmejcjaaaDoor
