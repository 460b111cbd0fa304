/- Plain law: what one word alone is parsed as. No program in sight. -/
import Derived.Test.YtdnkkkgneikhkaaGreatDoorParseM
namespace Go.Proofs.YtdnkkkgneikhkaaGreatDoor
open Go.RowKit

theorem name_head {s : List UInt8} (h : nameB s = true) : ∃ c r, s = c :: r ∧ letB c = true := by
  unfold nameB runB at h
  simp only [Bool.and_eq_true, decide_eq_true_eq, beq_iff_eq] at h
  cases s with
  | nil => simp at h
  | cons c r =>
    refine ⟨c, r, rfl, ?_⟩
    cases hc : letB c
    · have : lenRun letB partB (c :: r) = 0 := by unfold lenRun; simp [hc]
      rw [this] at h
      simp at h
    · rfl
theorem name_ne {s x : List UInt8} (h : nameB s = true) {c : UInt8} {r : List UInt8} (hx : x = c :: r) (hc : letB c = false) : (s == x) = false := by
  rw [beq_eq_false_iff_ne]
  obtain ⟨d, q, rfl, hd⟩ := name_head h
  rintro rfl
  injection hx with h1 _
  subst h1
  rw [hc] at hd
  cases hd
theorem hit_end (s x : List UInt8) : hit [⟨1, s⟩] 1 x = false := rfl
theorem hit_0 (s x : List UInt8) : hit [⟨1, s⟩] 0 x = (s == x) := by unfold hit isB; simp
theorem taken_end (s : List UInt8) : ∀ ws : List (List UInt8), takenF [⟨1, s⟩] 1 ws = none
  | [] => rfl
  | x :: r => by unfold takenF; rw [hit_end]; exact taken_end s r
theorem chain_stop (F : Nat → Ex × Bool × Nat) (l : List Tok) (ws : List (List UInt8)) (a : Nat) (e : Ex) (ok : Bool) (a1 : Nat) (hF : F a = (e, ok, a1)) (ht : takenF l a1 ws = none) : chainF F l ws a = (e, ok, a1) := by
  unfold chainF
  rw [hF]
  unfold chainL
  simp only [ht]
  cases ok <;> rfl
theorem atom_end (s : List UInt8) (I : Nat → Ex × Bool × Nat) : atomF [⟨1, s⟩] I 1 = (exZero, false, 1) := rfl
theorem not_end (s : List UInt8) (I : (Nat → Ex × Bool × Nat) × (Nat → Ex × Bool × Nat)) : (lev [⟨1, s⟩] I).1 1 = (exZero, false, 1) := by
  unfold lev
  dsimp only
  unfold notF
  rw [hit_end, if_neg (by decide)]
  unfold compF
  rw [chain_stop _ _ _ 1 _ _ _ (atom_end s I.2) (taken_end s _)]
  rfl
/-- One token alone, at one depth. -/
theorem lev_word (s : List UInt8) (I : (Nat → Ex × Bool × Nat) × (Nat → Ex × Bool × Nat)) (hn : nameB s = true) (hI : I.1 1 = (exZero, false, 1)) :
    (lev [⟨1, s⟩] I).2 0 = if s = [78, 79, 84] then (.mk opNot V.zero [] [exZero], false, 1) else ((tokF false ⟨1, s⟩).1, (tokF false ⟨1, s⟩).2, 1) := by
  have hs : mayT ⟨1, s⟩ = true := hn
  have ha : atomF [⟨1, s⟩] I.2 0 = ((tokF false ⟨1, s⟩).1, (tokF false ⟨1, s⟩).2, 1) := by
    unfold atomF
    rw [hit_0, hit_0, name_ne hn rfl (by decide), name_ne hn rfl (by decide)]
    simp only [Bool.false_eq_true, if_false]
    unfold atomS
    simp [hs]
  have hc : chainF (atomF [⟨1, s⟩] I.2) [⟨1, s⟩] [[43], [45]] 0 = ((tokF false ⟨1, s⟩).1, (tokF false ⟨1, s⟩).2, 1) := chain_stop _ _ _ 0 _ _ _ ha (taken_end s _)
  have hcmp : compF [⟨1, s⟩] (chainF (atomF [⟨1, s⟩] I.2) [⟨1, s⟩] [[43], [45]]) 0 = ((tokF false ⟨1, s⟩).1, (tokF false ⟨1, s⟩).2, 1) := by
    unfold compF
    rw [hc]
    simp only [taken_end]
    cases (tokF false ⟨1, s⟩).2 <;> rfl
  have hnot : notF [⟨1, s⟩] I.1 (compF [⟨1, s⟩] (chainF (atomF [⟨1, s⟩] I.2) [⟨1, s⟩] [[43], [45]])) 0 = if s = [78, 79, 84] then (.mk opNot V.zero [] [exZero], false, 1) else ((tokF false ⟨1, s⟩).1, (tokF false ⟨1, s⟩).2, 1) := by
    unfold notF
    rw [hit_0, hcmp, show (0 + 1 = 1) from rfl, hI]
    by_cases h : s = [78, 79, 84]
    · simp [h]
    · have : (s == [78, 79, 84]) = false := by simpa using h
      rw [this, if_neg h]
      rfl
  obtain ⟨R, hR⟩ : ∃ R : Ex × Bool × Nat, (if s = [78, 79, 84] then (.mk opNot V.zero [] [exZero], false, 1) else ((tokF false ⟨1, s⟩).1, (tokF false ⟨1, s⟩).2, 1)) = R := ⟨_, rfl⟩
  have h1 : R.2.2 = 1 := by rw [← hR]; split <;> rfl
  rw [hR] at hnot ⊢
  obtain ⟨e, ok, a⟩ := R
  simp only at h1
  subst h1
  exact chain_stop _ _ _ 0 _ _ _ (chain_stop _ _ _ 0 _ _ _ hnot (taken_end s _)) (taken_end s _)
/-- What expr.Parse makes of one word. -/
theorem parse_word (s : List UInt8) (hn : nameB s = true) : parseX [⟨1, s⟩] = if s = [84, 82, 85, 69] then (exLit ⟨3, 1, []⟩, 1, 0) else if s = [70, 65, 76, 83, 69] then (exLit ⟨3, 0, []⟩, 1, 0) else if s = [78, 85, 76, 76] then (exLit V.zero, 1, 0)
    else if reserved s then (exZero, 0, 2) else (.mk opCol V.zero s [], 1, 0) := by
  have hl : (levN [⟨1, s⟩] 65536).2 0 = if s = [78, 79, 84] then (.mk opNot V.zero [] [exZero], false, 1) else ((tokF false ⟨1, s⟩).1, (tokF false ⟨1, s⟩).2, 1) :=
    lev_word s (levN [⟨1, s⟩] 65535) hn (not_end s (levN [⟨1, s⟩] 65534))
  unfold parseX
  rw [hl]
  by_cases h0 : s = [78, 79, 84]
  · subst h0; rfl
  rw [if_neg h0]
  have ht : tokF false ⟨1, s⟩ = if s = [84, 82, 85, 69] then (exLit ⟨3, 1, []⟩, true) else if s = [70, 65, 76, 83, 69] then (exLit ⟨3, 0, []⟩, true) else if s = [78, 85, 76, 76] then (exLit V.zero, true) else (.mk opCol V.zero s [], !reserved s) := rfl
  rw [ht]
  by_cases h1 : s = [84, 82, 85, 69]
  · rw [if_pos h1, if_pos h1]; rfl
  rw [if_neg h1, if_neg h1]
  by_cases h2 : s = [70, 65, 76, 83, 69]
  · rw [if_pos h2, if_pos h2]; rfl
  rw [if_neg h2, if_neg h2]
  by_cases h3 : s = [78, 85, 76, 76]
  · rw [if_pos h3, if_pos h3]; rfl
  rw [if_neg h3, if_neg h3]
  have hm : mayX (.mk opCol V.zero s []) = (nameB s && !reserved s) := rfl
  cases hr : reserved s
  · simp [hm, hn, hr]
  · simp

end Go.Proofs.YtdnkkkgneikhkaaGreatDoor
