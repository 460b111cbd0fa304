/- code.First: what it answers to whatever octets. Condition: the text is shorter than 2^62. -/
import Derived.Test.YtkeeekifejholaaFirstText
import Derived.Test.YtkeeekifejholaaFirstMore
namespace Go.Proofs.Ytkeeekifejholaa
open Go.RowKit

def cutZero : List UInt8 → Option (List UInt8 × List UInt8)
  | [] => none
  | c :: r => if c = 0 then some ([], r) else match cutZero r with
    | none => none
    | some (t, u) => some (c :: t, u)

theorem cutZero_some : ∀ (r t u : List UInt8), cutZero r = some (t, u) → r = t ++ 0 :: u ∧ ∀ c ∈ t, c ≠ 0
  | [], t, u, h => by simp [cutZero] at h
  | c :: r, t, u, h => by
    unfold cutZero at h
    by_cases hc : c = 0
    · rw [if_pos hc] at h
      simp only [Option.some.injEq, Prod.mk.injEq] at h
      obtain ⟨rfl, rfl⟩ := h
      subst hc
      simp
    · rw [if_neg hc] at h
      cases hr : cutZero r with
      | none => rw [hr] at h; simp at h
      | some p =>
        obtain ⟨t', u'⟩ := p
        rw [hr] at h
        simp only [Option.some.injEq, Prod.mk.injEq] at h
        obtain ⟨rfl, rfl⟩ := h
        obtain ⟨h1, h2⟩ := cutZero_some r t' u' hr
        refine ⟨by rw [h1]; rfl, ?_⟩
        intro x hx
        rcases List.mem_cons.1 hx with rfl | hx
        · exact hc
        · exact h2 x hx

theorem cutZero_none : ∀ (r : List UInt8), cutZero r = none → ∀ c ∈ r, c ≠ 0
  | [], _, c, hc => by simp at hc
  | c :: r, h, x, hx => by
    unfold cutZero at h
    by_cases hc : c = 0
    · rw [if_pos hc] at h; simp at h
    · rw [if_neg hc] at h
      cases hr : cutZero r with
      | none =>
        rcases List.mem_cons.1 hx with rfl | hx
        · exact hc
        · exact cutZero_none r hr x hx
      | some p => obtain ⟨t', u'⟩ := p; rw [hr] at h; simp at h

def firstF (s : List UInt8) : V × Int × Int :=
  match s with
  | [] => (⟨0, 0, []⟩, 0, 17)
  | c :: r =>
    if c = 1 then (if 8 ≤ r.length then (⟨1, (beN (r.take 8) : Int) - 9223372036854775808, []⟩, 9, 0) else (⟨0, 0, []⟩, 0, 17))
    else if c = 2 then match cutZero r with
      | none => (⟨0, 0, []⟩, 0, 17)
      | some (t, _) => if mayB 2 0 t then (⟨2, 0, t⟩, (t.length : Int) + 2, 0) else (⟨0, 0, []⟩, 0, 3)
    else if c = 3 then match r with
      | [] => (⟨0, 0, []⟩, 0, 17)
      | x :: _ => if mayB 3 (x.toNat : Int) [] then (⟨3, (x.toNat : Int), []⟩, 2, 0) else (⟨0, 0, []⟩, 0, 3)
    else if mayB (c.toNat : Int) 0 [] then (⟨(c.toNat : Int), 0, []⟩, 1, 0) else (⟨0, 0, []⟩, 0, 3)

theorem first_any (s : List UInt8) (w : World) (hs : s.length ≤ 4611686018427387900) :
    Calls Try.prog 34 #[.string ⟨s.toArray⟩] w (Ret3 (firstF s).1 (firstF s).2.1 (firstF s).2.2 w) := by
  match s, hs with
  | [], _ => exact first_none w
  | c :: r, hs =>
    simp only [List.length_cons] at hs
    unfold firstF
    by_cases h1 : c = 1
    · subst h1
      by_cases h8 : 8 ≤ r.length
      · simp only [if_true, h8]; exact first_num_ok r w (by omega) h8
      · simp only [if_true, h8, if_false]; exact first_num_short r w h8
    · simp only [h1, if_false]
      by_cases h2 : c = 2
      · subst h2
        simp only [if_true]
        cases hz : cutZero r with
        | none => exact first_text_short r w (by omega) (cutZero_none r hz)
        | some p =>
          obtain ⟨t, u⟩ := p
          obtain ⟨rfl, hnz⟩ := cutZero_some r t u hz
          simp only [List.length_append, List.length_cons] at hs
          refine first_text_ok t u w (by omega) hnz _ _ _ ?_
          cases hm : mayB 2 0 t <;> simp_all
      · simp only [h2, if_false]
        by_cases h3 : c = 3
        · subst h3
          simp only [if_true]
          match r, hs with
          | [], _ => exact first_bool_short w
          | x :: r, hs =>
            simp only [List.length_cons] at hs
            refine first_bool_ok x r w (by omega) _ _ _ ?_
            cases hm : mayB 3 (x.toNat : Int) [] <;> simp_all
        · simp only [h3, if_false]
          refine first_other c r w (by omega) h1 h2 h3 _ _ _ ?_
          cases hm : mayB (c.toNat : Int) 0 [] <;> simp_all

end Go.Proofs.Ytkeeekifejholaa
