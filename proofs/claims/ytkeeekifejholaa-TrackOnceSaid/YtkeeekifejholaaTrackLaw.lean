/- Plain facts on a track's digits, its pending units and the first of them. Nothing of the program stands here. -/
import Derived.Test.YtkeeekifejholaaTrack6
import Derived.Test.YtkeeekifejholaaTrack7
namespace Go.Proofs.Ytkeeekifejholaa

def zer (s : List UInt8) : Nat := s.countP (· == 48)
def fstZ : List UInt8 → Nat → Int
  | [], _ => -1
  | c :: r, n => if c == 48 then (n : Int) else fstZ r (n + 1)

theorem pend_zer (l : List (V × Bool)) : (pend l).length = zer (digs l) := by
  induction l with
  | nil => rfl
  | cons x r ih =>
    obtain ⟨v, b⟩ := x
    unfold pend zer digs at *
    cases b <;> simp_all

theorem fst_pend (l : List (V × Bool)) : ∀ n, (pend l = [] ∧ fstZ (digs l) n = -1) ∨ ∃ k v r, k < l.length ∧ l[k]? = some (v, false) ∧ pend l = v :: r ∧ fstZ (digs l) n = ((n + k : Nat) : Int) := by
  induction l with
  | nil => intro n; exact .inl ⟨rfl, rfl⟩
  | cons x r ih =>
    obtain ⟨v, b⟩ := x
    intro n
    cases b
    · exact .inr ⟨0, v, pend r, by simp, rfl, by simp [pend], by simp [digs, fstZ]⟩
    · have e1 : pend ((v, true) :: r) = pend r := by simp [pend]
      have e2 : fstZ (digs ((v, true) :: r)) n = fstZ (digs r) (n + 1) := by simp [digs, fstZ]
      rw [e1, e2]
      rcases ih (n + 1) with ⟨h1, h2⟩ | ⟨k, u, q, h1, h2, h3, h4⟩
      · exact .inl ⟨h1, h2⟩
      · exact .inr ⟨k + 1, u, q, by simp; omega, by simpa using h2, h3, by rw [h4]; congr 1; omega⟩

theorem zer_snoc (l : List UInt8) (c : UInt8) : zer (l ++ [c]) = zer l + if c == 48 then 1 else 0 := by
  unfold zer
  rw [List.countP_append]
  cases h : c == 48 <;> simp_all
theorem zer_le (l : List UInt8) : zer l ≤ l.length := List.countP_le_length
theorem fstZ_ge (l : List UInt8) : ∀ n : Nat, -1 ≤ fstZ l n ∧ fstZ l n < ((n + l.length : Nat) : Int) := by
  induction l with
  | nil => intro n; simp [fstZ]; omega
  | cons c r ih =>
    intro n
    unfold fstZ
    have := ih (n + 1)
    simp only [List.length_cons]
    split
    · constructor
      · omega
      · omega
    · constructor
      · omega
      · have h := this.2
        have e : n + 1 + r.length = n + (r.length + 1) := by omega
        rw [e] at h
        exact h
theorem fstZ_snoc (l : List UInt8) (c : UInt8) : ∀ n : Nat, fstZ (l ++ [c]) n = if fstZ l n < 0 then (if c == 48 then ((n + l.length : Nat) : Int) else -1) else fstZ l n := by
  induction l with
  | nil => intro n; simp [fstZ]
  | cons x r ih =>
    intro n
    rw [List.cons_append]
    unfold fstZ
    rw [ih (n + 1)]
    cases h : x == 48
    · have e : n + 1 + r.length = n + (r.length + 1) := by omega
      simp only [List.length_cons, e, Bool.false_eq_true, if_false]
    · simp
      omega
theorem take_snoc8 (s : List UInt8) (j : Nat) (c : UInt8) (h : s[j]? = some c) : s.take (j + 1) = s.take j ++ [c] := by
  rw [List.take_add_one, h]; rfl
theorem unitsTo_at (u : List V) (t : List UInt8) (k : Nat) (v : V) (b : Bool) (h : (unitsTo u t u.length)[k]? = some (v, b)) : u[k]? = some v ∧ k < u.length := by
  unfold unitsTo at h
  rw [List.getElem?_map] at h
  by_cases hk : k < u.length
  · rw [List.getElem?_range hk] at h
    simp at h
    refine ⟨?_, hk⟩
    rw [List.getElem?_eq_getElem hk]
    rw [← h.1, List.getElem?_eq_getElem hk]
    rfl
  · rw [List.getElem?_eq_none (by simpa using hk)] at h
    simp at h

theorem nextF_nil {u : List V} {t : List UInt8} (hc : chkB u t = true) (h : pend (unitsTo u t u.length) = []) : nextF u t = (V.zero, 6) := by
  unfold nextF; rw [hc, h]; rfl
theorem nextF_cons {u : List V} {t : List UInt8} {v : V} {r : List V} (hc : chkB u t = true) (h : pend (unitsTo u t u.length) = v :: r) : nextF u t = (v, 0) := by
  unfold nextF; rw [hc, h]; rfl

end Go.Proofs.Ytkeeekifejholaa
