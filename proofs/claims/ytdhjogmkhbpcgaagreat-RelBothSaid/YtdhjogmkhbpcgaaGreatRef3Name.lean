/- The document's letters, digits and names, as plain functions. Condition: a text that memory reaches. -/
import Derived.Test.YtdhjogmkhbpcgaaGreatLexLaw
import Derived.Test.YtdhjogmkhbpcgaaGreatRef1
import Derived.RegionTactic
namespace Go.Proofs.YtdhjogmkhbpcgaaGreat
open Go.RowKit

attribute [local go_sem] ByteArray.extract_mk ba_get ba_append
attribute [local go_sem ↓] Go.wp_at_zero Go.wp_at_succ

theorem rdigit_any (c : UInt8) (w : World) : Calls Tryz.prog 131 #[.int .u8 (c.toNat : Int)] w (RetB (digB c) w) := by
  by_cases h1 : 48 ≤ c.toNat
  · have p1 : (48 : Int) ≤ (c.toNat : Int) := by omega
    by_cases h2 : c.toNat ≤ 57
    · have p2 : (c.toNat : Int) ≤ 57 := by omega
      go_enter Tryz.func131, Tryz.ntmps131
      go_wp2
      go_ret
      exact ⟨by simp [digB, h1, h2], rfl⟩
    · have p2 : ¬ (c.toNat : Int) ≤ 57 := by omega
      go_enter Tryz.func131, Tryz.ntmps131
      go_wp2
      go_ret
      exact ⟨by simp [digB, h2], rfl⟩
  · have p1 : ¬ (48 : Int) ≤ (c.toNat : Int) := by omega
    go_enter Tryz.func131, Tryz.ntmps131
    go_wp2
    go_ret
    exact ⟨by simp [digB, h1], rfl⟩
theorem rletter_any (c : UInt8) (w : World) : Calls Tryz.prog 110 #[.int .u8 (c.toNat : Int)] w (RetB (letB c) w) := by
  by_cases h3 : 65 ≤ c.toNat
  · have p3 : (65 : Int) ≤ (c.toNat : Int) := by omega
    by_cases h4 : c.toNat ≤ 90
    · have p4 : (c.toNat : Int) ≤ 90 := by omega
      go_enter Tryz.func110, Tryz.ntmps110
      go_wp2
      go_ret
      exact ⟨by simp [letB, h3, h4], rfl⟩
    · have p4 : ¬ (c.toNat : Int) ≤ 90 := by omega
      by_cases h1 : 97 ≤ c.toNat
      · have p1 : (97 : Int) ≤ (c.toNat : Int) := by omega
        by_cases h2 : c.toNat ≤ 122
        · have p2 : (c.toNat : Int) ≤ 122 := by omega
          go_enter Tryz.func110, Tryz.ntmps110
          go_wp2
          go_ret
          exact ⟨by simp [letB, h1, h2], rfl⟩
        · have p2 : ¬ (c.toNat : Int) ≤ 122 := by omega
          go_enter Tryz.func110, Tryz.ntmps110
          go_wp2
          go_ret
          exact ⟨by simp [letB, h2, h4], rfl⟩
      · have p1 : ¬ (97 : Int) ≤ (c.toNat : Int) := by omega
        go_enter Tryz.func110, Tryz.ntmps110
        go_wp2
        go_ret
        exact ⟨by simp [letB, h1, h4], rfl⟩
  · have p3 : ¬ (65 : Int) ≤ (c.toNat : Int) := by omega
    have p1 : ¬ (97 : Int) ≤ (c.toNat : Int) := by omega
    have h1 : ¬ 97 ≤ c.toNat := by omega
    go_enter Tryz.func110, Tryz.ntmps110
    go_wp2
    go_ret
    exact ⟨by simp [letB, h1, h3], rfl⟩
theorem rpart_any (c : UInt8) (w : World) : Calls Tryz.prog 109 #[.int .u8 (c.toNat : Int)] w (RetB (partB c) w) := by
  obtain ⟨R, hR⟩ : ∃ R, partB c = R := ⟨_, rfl⟩
  rw [hR]
  cases hd : digB c
  · have HD := Lib.hid hd
    cases hl : letB c
    · have HL := Lib.hid hl
      have HP : Hid (R = ((c.toNat : Int) == 95)) := by
        show _ = _
        rw [← hR]
        unfold partB
        rw [hl, hd]
        by_cases h : c.toNat = 95
        · simp [h]
        · have : ¬ ((c.toNat : Int) = 95) := by omega
          simp [h, this]
      clear hl hd hR
      go_enter Tryz.func109, Tryz.ntmps109
      go_wp2_with (first | (go_at_call 131; refine (rdigit_any c _).mono ?_; rw [HD.out]; rintro e w' ⟨rfl, rfl⟩) | (go_at_call 110; refine (rletter_any c _).mono ?_; rw [HL.out]; rintro e w' ⟨rfl, rfl⟩))
      go_ret
      exact ⟨by rw [HP.out]; rfl, rfl⟩
    · have HL := Lib.hid hl
      have HP : Hid (R = true) := by show _ = _; rw [← hR]; unfold partB; rw [hl]; rfl
      clear hl hd hR
      go_enter Tryz.func109, Tryz.ntmps109
      go_wp2_with (first | (go_at_call 131; refine (rdigit_any c _).mono ?_; rw [HD.out]; rintro e w' ⟨rfl, rfl⟩) | (go_at_call 110; refine (rletter_any c _).mono ?_; rw [HL.out]; rintro e w' ⟨rfl, rfl⟩))
      go_ret
      exact ⟨by rw [HP.out]; rfl, rfl⟩
  · have HD := Lib.hid hd
    have HP : Hid (R = true) := by show _ = _; rw [← hR]; unfold partB; rw [hd]; simp
    clear hd hR
    go_enter Tryz.func109, Tryz.ntmps109
    go_wp2_with (go_at_call 131; refine (rdigit_any c _).mono ?_; rw [HD.out]; rintro e w' ⟨rfl, rfl⟩)
    go_ret
    exact ⟨by rw [HP.out]; rfl, rfl⟩

/-- A name, as the document says. -/
theorem takeWhile_len (g : UInt8 → Bool) : ∀ r : List UInt8, ((r.takeWhile g).length = r.length) ↔ r.all g = true
  | [] => by simp
  | c :: r => by
    have ih := takeWhile_len g r
    rw [List.takeWhile_cons, List.all_cons]
    cases hg : g c
    · simp
    · simp only [if_true, List.length_cons, Bool.true_and]
      rw [← ih]
      omega
def headB (f : UInt8 → Bool) : List UInt8 → Bool
  | [] => false
  | c :: _ => f c
theorem runB_name (m : Nat) (f g : UInt8 → Bool) (hfg : ∀ c, f c = true → g c = true) (s : List UInt8) : runB m f g s = (s.all g && (decide (1 ≤ s.length) && decide (s.length ≤ m) && headB f s)) := by
  unfold runB
  cases s with
  | nil => simp
  | cons c r =>
    have hl : lenRun f g (c :: r) = if f c then 1 + (r.takeWhile g).length else 0 := rfl
    rw [hl]
    cases hf : f c
    · have : headB f (c :: r) = false := hf
      rw [this]
      simp
    · have hg := hfg c hf
      have hh : headB f (c :: r) = true := hf
      have key : ((1 + (r.takeWhile g).length) == (c :: r).length) = r.all g := by
        rw [Bool.eq_iff_iff, beq_iff_eq, ← takeWhile_len, List.length_cons]
        omega
      rw [hh, List.all_cons, hg]
      simp only [if_true, key, Bool.true_and, Bool.and_true]
      cases r.all g <;> simp

theorem all_at (g : UInt8 → Bool) (s : List UInt8) (j : Nat) (hj : j < s.length) : (s.drop j).all g = (g s[j] && (s.drop (j + 1)).all g) := by
  rw [List.drop_eq_getElem_cons hj, List.all_cons]

set_option maxHeartbeats 1000000 in
theorem rname_any (s : List UInt8) (w : World) (hs : s.length ≤ 1000000) : Calls Tryz.prog 78 #[.string ⟨s.toArray⟩] w (RetB (runB 16 letB partB s) w) := by
  obtain ⟨R, hR⟩ : ∃ R, runB 16 letB partB s = R := ⟨_, rfl⟩
  rw [hR]
  rw [runB_name 16 letB partB (fun c h => by unfold partB; rw [h]; rfl)] at hR
  obtain ⟨T, hT⟩ : ∃ T, (decide (1 ≤ s.length) && decide (s.length ≤ 16) && headB letB s) = T := ⟨_, rfl⟩
  rw [hT] at hR
  have HT := Lib.hid hT
  have HR : Hid (((s.drop 0).all partB && T) = R) := hR
  clear hT hR
  go_enter Tryz.func78, Tryz.ntmps78
  go_wp2
  go_loopg [3] s.length (fun g i wr => ∃ j : Nat, j + g = s.length ∧ i = .int .i64 j ∧ Hid (((s.drop j).all partB && T) = R) ∧ wr = w)
  case atStart => exact ⟨0, by omega, rfl, HR, rfl⟩
  case round =>
    obtain ⟨j, hj, rfl, hrest, rfl⟩ := hrel
    have HJ := Lib.hid hj
    by_cases hlt : j < s.length
    · obtain ⟨c, hcg⟩ : ∃ c, s[j] = c := ⟨_, rfl⟩
      have hrest' := hrest.out
      rw [all_at _ _ _ hlt, hcg] at hrest'
      obtain ⟨g', rfl⟩ : ∃ g', gk = g' + 1 := ⟨gk - 1, by omega⟩
      clear hj hrest
      cases hq : partB c
      · have HF : Hid (R = false) := by show R = false; rw [← hrest', hq]; rfl
        have HQ := Lib.hid hq
        clear hrest' hq
        go_wp2_with (go_at_call 109; refine (rpart_any c _).mono ?_; rw [HQ.out]; rintro e w' ⟨rfl, rfl⟩)
        go_ret
        exact ⟨by rw [HF.out]; rfl, rfl⟩
      · have HF : Hid (((s.drop (j + 1)).all partB && T) = R) := by show _ = R; rw [← hrest', hq]; rfl
        have HQ := Lib.hid hq
        clear hrest' hq
        go_wp2_with (go_at_call 109; refine (rpart_any c _).mono ?_; rw [HQ.out]; rintro e w' ⟨rfl, rfl⟩)
        go_roundg g'
        case measure => omega
        case rel => exact ⟨j + 1, by have := HJ.out; omega, by go_num, HF, rfl⟩
    · have HF : Hid (R = T) := by
        show R = T
        rw [← hrest.out, List.drop_of_length_le (by omega)]
        rfl
      clear hj hrest HR
      by_cases h1 : 1 ≤ s.length
      · by_cases h16 : s.length ≤ 16
        · obtain ⟨c, hc⟩ : ∃ c, s[0] = c := ⟨_, rfl⟩
          have HTL : Hid (T = letB c) := by
            show _ = _
            rw [← HT.out, ← hc]
            cases s with
            | nil => simp at h1
            | cons a r => simp at h16; simp [h16, headB]
          have h2 : (s.length : Int) ≤ 16 := by omega
          have h3 : (1 : Int) ≤ s.length := by omega
          clear HT
          go_wp2_with (go_at_call 110; refine (rletter_any c _).mono ?_; rintro e w' ⟨rfl, rfl⟩)
          go_ret
          exact ⟨by rw [HF.out, HTL.out]; rfl, rfl⟩
        · have HTL : Hid (T = false) := by show _ = _; rw [← HT.out]; simp [h16]
          have h2 : ¬ (s.length : Int) ≤ 16 := by omega
          have h3 : (1 : Int) ≤ s.length := by omega
          clear HT
          go_wp2_with fail
          go_ret
          exact ⟨by rw [HF.out, HTL.out]; rfl, rfl⟩
      · have HTL : Hid (T = false) := by show _ = _; rw [← HT.out]; simp [show ¬ 1 ≤ s.length by omega]
        have h3 : ¬ (1 : Int) ≤ s.length := by omega
        clear HT
        go_wp2_with fail
        go_ret
        exact ⟨by rw [HF.out, HTL.out]; rfl, rfl⟩

end Go.Proofs.YtdhjogmkhbpcgaaGreat
