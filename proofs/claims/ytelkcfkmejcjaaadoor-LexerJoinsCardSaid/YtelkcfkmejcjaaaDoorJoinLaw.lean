/- Plain laws on writing tokens: what is written is cut as it was. No program in sight. -/
import Derived.Test.YtelkcfkmejcjaaaDoorCutLaw
import Derived.Test.YtelkcfkmejcjaaaDoorText
namespace Go.Proofs.YtelkcfkmejcjaaaDoor
open Go.RowKit

/-- A token as it is written. -/
def wrT (t : Tok) : List UInt8 := if t.k = 3 then textF 2 0 t.s else t.s
def joinT : List Tok → List UInt8
  | [] => []
  | [t] => wrT t
  | t :: u :: r => wrT t ++ (32 :: joinT (u :: r))

theorem indexByte_mem : ∀ (l : List UInt8) (c : UInt8), 0 ≤ Lib.indexByte l c → c ∈ l
  | [], c, h => by simp [Lib.indexByte] at h
  | b :: r, c, h => by
    by_cases e : b = c
    · simp [e]
    · have ih := indexByte_mem r c
      unfold Lib.indexByte at h
      rw [if_neg (by simpa using e)] at h
      split at h
      · omega
      · rename_i hn
        by_cases h0 : 0 ≤ Lib.indexByte r c
        · exact List.mem_cons_of_mem _ (ih h0)
        · have : Lib.indexByte r c = -1 := by omega
          exact absurd (by simp [this]) hn
theorem sign_facts (c : UInt8) (h : signB c = true) : letB c = false ∧ digB c = false ∧ ¬ c.toNat = 39 ∧ blankB c = false := by
  have hm : c ∈ signL := by
    unfold signB at h
    simp only [decide_eq_true_eq] at h
    exact indexByte_mem _ _ h
  simp only [signL, List.mem_cons, List.not_mem_nil, or_false] at hm
  rcases hm with rfl | rfl | rfl | rfl | rfl | rfl | rfl | rfl <;> decide

theorem toks_of_first (s rest : List UInt8) (t : Tok) (c : UInt8) (r : List UInt8) (hs : s = c :: r) (hb : blankB c = false) (hm : mayT t = true) (hf : firstT (s ++ rest) = (t, s.length)) : toks (s ++ rest) = (toks rest).map (t :: ·) := by
  subst hs
  have hd : (c :: r ++ rest).drop (c :: r).length = rest := by simp
  rw [List.cons_append] at hf hd ⊢
  rw [toks_tok c _ hb (by rw [hf]; exact hm), hf]
  simp only
  rw [hd]
theorem let_not_blank {c : UInt8} (h : letB c = true) : blankB c = false := by
  cases hb : blankB c
  · rfl
  · rw [(blank_not_part hb).2.1] at h; cases h
theorem dig_not_blank {c : UInt8} (h : digB c = true) : blankB c = false := by
  cases hb : blankB c
  · rfl
  · rw [(blank_not_part hb).2.2] at h; cases h
theorem dig_not_let {c : UInt8} (h : digB c = true) : letB c = false := by
  unfold digB at h
  unfold letB
  simp only [Bool.and_eq_true, decide_eq_true_eq] at h
  simp; omega
theorem runB_parts {m : Nat} {f g : UInt8 → Bool} {s : List UInt8} (h : runB m f g s = true) : (∃ c r, s = c :: r ∧ f c = true) ∧ lenRun f g s = s.length := by
  unfold runB at h
  simp only [Bool.and_eq_true, decide_eq_true_eq, beq_iff_eq] at h
  obtain ⟨⟨h1, _⟩, h3⟩ := h
  cases s with
  | nil => simp at h1
  | cons c r =>
    refine ⟨⟨c, r, rfl, ?_⟩, h3⟩
    cases hf : f c
    · have h4 : lenRun f g (c :: r) = 0 := by show (if f c then 1 + (r.takeWhile g).length else 0) = 0; rw [hf]; rfl
      rw [h4] at h3
      simp at h3
    · rfl

theorem toks_wr (t : Tok) (hm : mayT t = true) (rest : List UInt8) (hg : Gap rest) : toks (wrT t ++ rest) = (toks rest).map (t :: ·) := by
  obtain ⟨k, s⟩ := t
  have hm0 := hm
  unfold mayT at hm
  simp only at hm
  obtain ⟨g1, g2, g3⟩ := hg.run
  by_cases h3 : k = 3
  · subst h3
    rw [if_pos rfl] at hm
    have hw : wrT ⟨3, s⟩ = writ s := by unfold wrT; rw [if_pos rfl]; unfold textF; rw [hm]; rfl
    rw [hw]
    exact toks_writ s rest hg hm
  · rw [if_neg h3] at hm
    have hw : wrT ⟨k, s⟩ = s := by unfold wrT; rw [if_neg h3]
    rw [hw]
    by_cases h4 : k = 4
    · subst h4
      rw [if_pos rfl] at hm
      match s, hm with
      | [c], hm =>
        obtain ⟨f1, f2, f3, f4⟩ := sign_facts c hm
        refine toks_of_first [c] rest ⟨4, [c]⟩ c [] rfl f4 hm0 ?_
        show firstT (c :: rest) = _
        unfold firstT
        have l1 : lenRun letB partB (c :: rest) = 0 := by unfold lenRun; simp [f1]
        have l2 : lenRun digB digB (c :: rest) = 0 := by unfold lenRun; simp [f2]
        rw [l1, l2]
        simp only [Nat.lt_irrefl, if_false]
        rw [if_neg f3]
        rfl
    · rw [if_neg h4] at hm
      by_cases h1 : k = 1
      · subst h1
        rw [if_pos rfl] at hm
        obtain ⟨⟨c, r, hs, hc⟩, hl⟩ := runB_parts hm
        have hp : 0 < s.length := by rw [hs]; simp
        refine toks_of_first s rest ⟨1, s⟩ c r hs (let_not_blank hc) hm0 ?_
        unfold firstT
        rw [lenRun_gap letB partB s rest hp g1, hl, if_pos hp]
        simp
      · rw [if_neg h1] at hm
        by_cases h2 : k = 2
        · subst h2
          rw [if_pos rfl] at hm
          obtain ⟨⟨c, r, hs, hc⟩, hl⟩ := runB_parts hm
          have hp : 0 < s.length := by rw [hs]; simp
          refine toks_of_first s rest ⟨2, s⟩ c r hs (dig_not_blank hc) hm0 ?_
          have l1 : lenRun letB partB (s ++ rest) = 0 := by rw [hs, List.cons_append]; unfold lenRun; simp [dig_not_let hc]
          unfold firstT
          rw [l1, lenRun_gap digB digB s rest hp g2, hl, if_neg (Nat.lt_irrefl 0), if_pos hp]
          simp
        · rw [if_neg h2] at hm
          cases hm
theorem toks_join : ∀ l : List Tok, (∀ t ∈ l, mayT t = true) → toks (joinT l) = some l
  | [], _ => rfl
  | [t], h => by
    have := toks_wr t (h t (by simp)) [] (.inl rfl)
    rw [List.append_nil] at this
    exact this
  | t :: u :: r, h => by
    have ih := toks_join (u :: r) (fun x hx => h x (by simp at hx ⊢; exact .inr hx))
    show toks (wrT t ++ (32 :: joinT (u :: r))) = _
    rw [toks_wr t (h t (by simp)) _ (.inr ⟨32, _, rfl, by decide⟩), toks_blank 32 _ (by decide), ih]
    rfl
theorem cut_joinT (l : List Tok) (h : ∀ t ∈ l, mayT t = true) (hl : l.length ≤ 400) : cutT (joinT l) = some l := by
  rw [cutT_toks, toks_join l h]
  simp [lim, hl]
theorem toks_may : ∀ (n : Nat) (s : List UInt8) (l : List Tok), s.length ≤ n → toks s = some l → ∀ t ∈ l, mayT t = true := by
  intro n
  induction n with
  | zero =>
    intro s l hs h
    have : s = [] := List.eq_nil_of_length_eq_zero (by omega)
    subst this
    cases h
    intro t ht; simp at ht
  | succ n ih =>
    intro s l hs h
    cases s with
    | nil => cases h; intro t ht; simp at ht
    | cons c r =>
      simp only [List.length_cons] at hs
      cases hb : blankB c
      · cases hm : mayT (firstT (c :: r)).1
        · rw [toks_bad c r hb hm] at h; cases h
        · have hge := (firstT_le (c :: r) (by simp)).2 hm
          rw [toks_tok c r hb hm] at h
          cases hq : toks ((c :: r).drop (firstT (c :: r)).2) with
          | none => rw [hq] at h; cases h
          | some a' =>
            rw [hq] at h
            cases h
            intro t ht
            rcases List.mem_cons.1 ht with rfl | ht
            · exact hm
            · exact ih _ a' (by rw [List.length_drop, List.length_cons]; omega) hq t ht
      · rw [toks_blank c r hb] at h
        exact ih r l (by omega) h

end Go.Proofs.YtelkcfkmejcjaaaDoor
