/- Plain laws on cutting: blanks change nothing; a text as it is written is one token. No program in sight. -/
import Derived.Test.YtelkcfkmejcjaaaDoorLex4
namespace Go.Proofs.YtelkcfkmejcjaaaDoor
open Go.RowKit

/-- The tokens of a text, however many; at most n steps. -/
def cutU : Nat → List UInt8 → Option (List Tok)
  | _, [] => some []
  | 0, _ :: _ => none
  | n + 1, c :: r => if blankB c then cutU n r else if mayT (firstT (c :: r)).1 then (cutU n ((c :: r).drop (firstT (c :: r)).2)).map ((firstT (c :: r)).1 :: ·) else none
def lim (l : Option (List Tok)) : Option (List Tok) := l.bind fun t => if t.length ≤ 400 then some t else none

theorem cutA_cutU : ∀ (n : Nat) (s : List UInt8) (l : List Tok), l.length ≤ 400 → cutA n s l = (cutU n s).bind fun t => if l.length + t.length ≤ 400 then some (l ++ t) else none
  | n, [], l, hl => by
    have h1 : cutA n [] l = some l := by cases n <;> rfl
    have h2 : cutU n [] = some [] := by cases n <;> rfl
    rw [h1, h2]; simp [hl]
  | 0, _ :: _, l, _ => rfl
  | n + 1, c :: r, l, hl => by
    unfold cutA cutU
    cases hb : blankB c
    · simp only [Bool.false_eq_true, if_false]
      cases hm : mayT (firstT (c :: r)).1
      · simp
      · by_cases h4 : l.length = 400
        · simp only [h4, ne_eq, not_true_eq_false, decide_false, Bool.and_false, Bool.false_eq_true, if_false, if_true]
          cases cutU n ((c :: r).drop (firstT (c :: r)).2) with
          | none => rfl
          | some t => simp
        · have h5 : decide (l.length ≠ 400) = true := by simpa using h4
          simp only [h5, Bool.and_true, if_true]
          rw [cutA_cutU n _ (l ++ [(firstT (c :: r)).1]) (by simp; omega)]
          cases cutU n ((c :: r).drop (firstT (c :: r)).2) with
          | none => rfl
          | some t =>
            simp only [Option.map_some, Option.bind_some, List.length_append, List.length_cons, List.length_nil, List.append_assoc, List.cons_append, List.nil_append]
            congr 1
            rw [show l.length + (0 + 1) + t.length = l.length + (t.length + 1) by omega]
    · simp only [if_true]
      exact cutA_cutU n r l hl

theorem cutU_fuel : ∀ (n m : Nat) (s : List UInt8), s.length ≤ n → s.length ≤ m → cutU n s = cutU m s
  | n, m, [], _, _ => by cases n <;> cases m <;> rfl
  | 0, _, _ :: _, h, _ => by simp at h
  | _ + 1, 0, _ :: _, _, h => by simp at h
  | n + 1, m + 1, c :: r, h1, h2 => by
    simp only [List.length_cons] at h1 h2
    unfold cutU
    cases hb : blankB c
    · simp only [Bool.false_eq_true, if_false]
      cases hm : mayT (firstT (c :: r)).1
      · simp
      · simp only [if_true]
        have hge := (firstT_le (c :: r) (by simp)).2 hm
        have hl : ((c :: r).drop (firstT (c :: r)).2).length ≤ r.length := by rw [List.length_drop, List.length_cons]; omega
        rw [cutU_fuel n m _ (by omega) (by omega)]
    · simp only [if_true]
      exact cutU_fuel n m r (by omega) (by omega)

def toks (s : List UInt8) : Option (List Tok) := cutU s.length s
theorem cutT_toks (s : List UInt8) : cutT s = lim (toks s) := by
  unfold cutT toks lim
  rw [cutA_cutU _ _ _ (by simp)]
  simp
theorem toks_nil : toks [] = some [] := rfl
theorem toks_blank (c : UInt8) (r : List UInt8) (h : blankB c = true) : toks (c :: r) = toks r := by
  unfold toks
  rw [List.length_cons]
  conv => lhs; unfold cutU
  rw [h]; rfl
theorem toks_tok (c : UInt8) (r : List UInt8) (h : blankB c = false) (hm : mayT (firstT (c :: r)).1 = true) : toks (c :: r) = (toks ((c :: r).drop (firstT (c :: r)).2)).map ((firstT (c :: r)).1 :: ·) := by
  have hge := (firstT_le (c :: r) (by simp)).2 hm
  unfold toks
  rw [List.length_cons]
  conv => lhs; unfold cutU
  rw [h, hm]
  simp only [Bool.false_eq_true, if_false, if_true]
  rw [cutU_fuel r.length ((c :: r).drop (firstT (c :: r)).2).length _ (by rw [List.length_drop, List.length_cons]; omega) (Nat.le_refl _)]
theorem toks_bad (c : UInt8) (r : List UInt8) (h : blankB c = false) (hm : mayT (firstT (c :: r)).1 = false) : toks (c :: r) = none := by
  unfold toks
  rw [List.length_cons]
  conv => lhs; unfold cutU
  rw [h, hm]; rfl

/-- What may stand behind a text without changing its last token: nothing, or a blank first. -/
def Gap (t : List UInt8) : Prop := t = [] ∨ ∃ b r, t = b :: r ∧ blankB b = true
theorem blank_cases {b : UInt8} (h : blankB b = true) : b.toNat = 32 ∨ b.toNat = 10 := by
  unfold blankB at h
  simp only [Bool.or_eq_true, beq_iff_eq] at h
  exact h
theorem blank_not_part {b : UInt8} (h : blankB b = true) : partB b = false ∧ letB b = false ∧ digB b = false := by
  rcases blank_cases h with e | e <;> (unfold partB letB digB; rw [e]; decide)
theorem takeWhile_gap (g : UInt8 → Bool) (r t : List UInt8) (ht : t = [] ∨ ∃ b q, t = b :: q ∧ g b = false) : ((r ++ t).takeWhile g).length = (r.takeWhile g).length := by
  induction r with
  | nil =>
    rcases ht with rfl | ⟨b, q, rfl, hb⟩
    · rfl
    · simp [hb]
  | cons c r ih =>
    rw [List.cons_append, List.takeWhile_cons, List.takeWhile_cons]
    split
    · simp [ih]
    · rfl
theorem lenRun_gap (f g : UInt8 → Bool) (s t : List UInt8) (h0 : 0 < s.length) (ht : t = [] ∨ ∃ b q, t = b :: q ∧ g b = false) : lenRun f g (s ++ t) = lenRun f g s := by
  cases s with
  | nil => simp at h0
  | cons c r =>
    show (if f c then 1 + ((r ++ t).takeWhile g).length else 0) = (if f c then 1 + (r.takeWhile g).length else 0)
    rw [takeWhile_gap g r t ht]
theorem endQ_app : ∀ (s t : List UInt8) (n k : Nat), (t = [] ∨ ∃ b q, t = b :: q ∧ ¬ b.toNat = 39) → endQ s n = some k → endQ (s ++ t) n = some k
  | [], t, n, k, _, h => by simp [endQ] at h
  | [c], t, n, k, ht, h => by
    rcases ht with rfl | ⟨b, q, rfl, hb⟩
    · exact h
    · unfold endQ at h
      split at h
      · rename_i hc
        cases h
        simp [endQ, hc, hb]
      · cases h
  | c :: d :: r, t, n, k, ht, h => by
    rw [List.cons_append, List.cons_append]
    unfold endQ at h ⊢
    by_cases hc : c.toNat = 39
    · rw [if_pos hc] at h ⊢
      by_cases hd : d.toNat = 39
      · rw [if_pos hd] at h ⊢
        exact endQ_app r t (n + 2) k ht h
      · rw [if_neg hd] at h ⊢
        exact h
    · rw [if_neg hc] at h ⊢
      exact endQ_app (d :: r) t (n + 1) k ht h
theorem endQ_noq : ∀ (t : List UInt8) (n : Nat), (∀ b ∈ t, ¬ b.toNat = 39) → endQ t n = none
  | [], _, _ => rfl
  | [c], n, h => by simp [endQ, h c (by simp)]
  | c :: d :: r, n, h => by
    unfold endQ
    rw [if_neg (h c (by simp))]
    exact endQ_noq (d :: r) (n + 1) (fun b hb => h b (List.mem_cons_of_mem _ hb))
theorem endQ_none : ∀ (s t : List UInt8) (n : Nat), (∀ b ∈ t, ¬ b.toNat = 39) → endQ s n = none → endQ (s ++ t) n = none
  | [], t, n, ht, _ => endQ_noq t n ht
  | [c], t, n, ht, h => by
    have hc : ¬ c.toNat = 39 := by intro e; simp [endQ, e] at h
    exact endQ_noq (c :: t) n (fun b hb => by
      rcases List.mem_cons.1 hb with rfl | hb
      · exact hc
      · exact ht b hb)
  | c :: d :: r, t, n, ht, h => by
    rw [List.cons_append, List.cons_append]
    unfold endQ at h ⊢
    by_cases hc : c.toNat = 39
    · rw [if_pos hc] at h ⊢
      by_cases hd : d.toNat = 39
      · rw [if_pos hd] at h ⊢
        exact endQ_none r t (n + 2) ht h
      · rw [if_neg hd] at h
        cases h
    · rw [if_neg hc] at h ⊢
      exact endQ_none (d :: r) t (n + 1) ht h
theorem Gap.run {t : List UInt8} (h : Gap t) : (t = [] ∨ ∃ b q, t = b :: q ∧ partB b = false) ∧ (t = [] ∨ ∃ b q, t = b :: q ∧ digB b = false) ∧ (t = [] ∨ ∃ b q, t = b :: q ∧ ¬ b.toNat = 39) := by
  rcases h with rfl | ⟨b, r, rfl, hb⟩
  · exact ⟨.inl rfl, .inl rfl, .inl rfl⟩
  · obtain ⟨h1, _, h3⟩ := blank_not_part hb
    exact ⟨.inr ⟨b, r, rfl, h1⟩, .inr ⟨b, r, rfl, h3⟩, .inr ⟨b, r, rfl, by rcases blank_cases hb with e | e <;> omega⟩⟩

/-- A gap changes no token, but of a text between signs that has no end. -/
theorem firstT_gap (c : UInt8) (r t : List UInt8) (ht : Gap t) (hm : mayT (firstT (c :: r)).1 = true) : firstT (c :: r ++ t) = firstT (c :: r) := by
  obtain ⟨g1, g2, g3⟩ := ht.run
  have e1 := lenRun_gap letB partB (c :: r) t (by simp) g1
  have e2 := lenRun_gap digB digB (c :: r) t (by simp) g2
  have l1 := lenRun_le letB partB (c :: r)
  have l2 := lenRun_le digB digB (c :: r)
  unfold firstT at hm ⊢
  rw [e1, e2]
  split
  · rw [List.take_append_of_le_length l1]
  · rename_i h1
    rw [if_neg h1] at hm
    split
    · rw [List.take_append_of_le_length l2]
    · rename_i h2
      rw [if_neg h2] at hm
      simp only [List.cons_append] at hm ⊢
      split
      · rename_i hc
        rw [if_pos hc] at hm
        rw [quotedT_eq] at hm ⊢
        rw [quotedT_eq]
        cases he : endQ ((c :: r).drop 1) 1 with
        | none => rw [he] at hm; cases hm
        | some k =>
          have hk := endQ_lt _ _ _ he
          have h3 : endQ ((c :: (r ++ t)).drop 1) 1 = some k := endQ_app _ t 1 k g3 he
          rw [h3]
          simp only [quotedOf]
          rw [List.length_drop] at hk
          have : (c :: (r ++ t)).take k = (c :: r).take k := by
            rw [← List.cons_append]
            exact List.take_append_of_le_length (by omega)
          rw [this]
      · rfl

/-- Blanks alone behind a text that has no token first leave it so. -/
theorem firstT_bad (c : UInt8) (r t : List UInt8) (ht : ∀ b ∈ t, blankB b = true) (hm : mayT (firstT (c :: r)).1 = false) : mayT (firstT (c :: r ++ t)).1 = false := by
  have hg : Gap t := by
    cases t with
    | nil => exact .inl rfl
    | cons b q => exact .inr ⟨b, q, rfl, ht b (by simp)⟩
  obtain ⟨g1, g2, g3⟩ := hg.run
  have e1 := lenRun_gap letB partB (c :: r) t (by simp) g1
  have e2 := lenRun_gap digB digB (c :: r) t (by simp) g2
  have l1 := lenRun_le letB partB (c :: r)
  have l2 := lenRun_le digB digB (c :: r)
  unfold firstT at hm ⊢
  rw [e1, e2]
  split
  · rename_i h1
    rw [if_pos h1] at hm
    rw [List.take_append_of_le_length l1]
    exact hm
  · rename_i h1
    rw [if_neg h1] at hm
    split
    · rename_i h2
      rw [if_pos h2] at hm
      rw [List.take_append_of_le_length l2]
      exact hm
    · rename_i h2
      rw [if_neg h2] at hm
      simp only [List.cons_append] at hm ⊢
      split
      · rename_i hc
        rw [if_pos hc] at hm
        rw [quotedT_eq] at hm ⊢
        cases he : endQ ((c :: r).drop 1) 1 with
        | none =>
          have h3 : endQ ((c :: (r ++ t)).drop 1) 1 = none := endQ_none _ t 1 (fun b hb => by rcases blank_cases (ht b hb) with e | e <;> omega) he
          rw [h3]; rfl
        | some k =>
          have hk := endQ_lt _ _ _ he
          have h3 : endQ ((c :: (r ++ t)).drop 1) 1 = some k := endQ_app _ t 1 k g3 he
          rw [he] at hm
          rw [h3]
          simp only [quotedOf] at hm ⊢
          rw [List.length_drop] at hk
          have : (c :: (r ++ t)).take k = (c :: r).take k := by
            rw [← List.cons_append]
            exact List.take_append_of_le_length (by omega)
          rw [this]
          exact hm
      · rename_i hc
        rw [if_neg hc] at hm
        exact hm

theorem toks_gap (t : List UInt8) (ht : Gap t) : ∀ (n : Nat) (s : List UInt8) (a : List Tok), s.length ≤ n → toks s = some a → toks (s ++ t) = (toks t).map (a ++ ·) := by
  intro n
  induction n with
  | zero =>
    intro s a hs h
    have : s = [] := List.eq_nil_of_length_eq_zero (by omega)
    subst this
    cases h
    cases hq : toks t <;> simp [hq]
  | succ n ih =>
    intro s a hs h
    cases s with
    | nil => cases h; cases hq : toks t <;> simp [hq]
    | cons c r =>
      simp only [List.length_cons] at hs
      cases hb : blankB c
      · cases hm : mayT (firstT (c :: r)).1
        · rw [toks_bad c r hb hm] at h; cases h
        · have hge := (firstT_le (c :: r) (by simp)).2 hm
          have hle := (firstT_le (c :: r) (by simp)).1
          rw [toks_tok c r hb hm] at h
          cases hq : toks ((c :: r).drop (firstT (c :: r)).2) with
          | none => rw [hq] at h; cases h
          | some a' =>
            rw [hq] at h
            cases h
            have hf := firstT_gap c r t ht hm
            have h1 := ih ((c :: r).drop (firstT (c :: r)).2) a' (by rw [List.length_drop, List.length_cons]; omega) hq
            rw [List.cons_append] at hf ⊢
            rw [toks_tok c (r ++ t) hb (by rw [hf]; exact hm), hf, ← List.cons_append, List.drop_append_of_le_length hle, h1]
            cases toks t <;> simp
      · rw [toks_blank c r hb] at h
        rw [List.cons_append, toks_blank c _ hb]
        exact ih r a (by omega) h
theorem toks_allblank : ∀ t : List UInt8, (∀ b ∈ t, blankB b = true) → toks t = some []
  | [], _ => rfl
  | b :: r, h => by rw [toks_blank b r (h b (by simp))]; exact toks_allblank r (fun x hx => h x (by simp [hx]))
theorem toks_front (s : List UInt8) : ∀ t : List UInt8, (∀ b ∈ t, blankB b = true) → toks (t ++ s) = toks s
  | [], _ => rfl
  | b :: r, h => by rw [List.cons_append, toks_blank b _ (h b (by simp))]; exact toks_front s r (fun x hx => h x (by simp [hx]))
theorem toks_none (t : List UInt8) (ht : ∀ b ∈ t, blankB b = true) : ∀ (n : Nat) (s : List UInt8), s.length ≤ n → toks s = none → toks (s ++ t) = none := by
  have hg : Gap t := by
    cases t with
    | nil => exact .inl rfl
    | cons b q => exact .inr ⟨b, q, rfl, ht b (by simp)⟩
  intro n
  induction n with
  | zero =>
    intro s hs h
    have : s = [] := List.eq_nil_of_length_eq_zero (by omega)
    subst this
    cases h
  | succ n ih =>
    intro s hs h
    cases s with
    | nil => cases h
    | cons c r =>
      simp only [List.length_cons] at hs
      cases hb : blankB c
      · cases hm : mayT (firstT (c :: r)).1
        · rw [List.cons_append]
          exact toks_bad c _ hb (firstT_bad c r t ht hm)
        · have hge := (firstT_le (c :: r) (by simp)).2 hm
          have hle := (firstT_le (c :: r) (by simp)).1
          rw [toks_tok c r hb hm] at h
          cases hq : toks ((c :: r).drop (firstT (c :: r)).2) with
          | some a' => rw [hq] at h; cases h
          | none =>
            have hf := firstT_gap c r t hg hm
            have h1 := ih ((c :: r).drop (firstT (c :: r)).2) (by rw [List.length_drop, List.length_cons]; omega) hq
            rw [List.cons_append] at hf ⊢
            rw [toks_tok c (r ++ t) hb (by rw [hf]; exact hm), hf, ← List.cons_append, List.drop_append_of_le_length hle, h1]
            rfl
      · rw [toks_blank c r hb] at h
        rw [List.cons_append, toks_blank c _ hb]
        exact ih r (by omega) h
theorem toks_back (s t : List UInt8) (ht : ∀ b ∈ t, blankB b = true) : toks (s ++ t) = toks s := by
  have hg : Gap t := by
    cases t with
    | nil => exact .inl rfl
    | cons b q => exact .inr ⟨b, q, rfl, ht b (by simp)⟩
  cases h : toks s with
  | none => exact toks_none t ht _ s (Nat.le_refl _) h
  | some a => rw [toks_gap t hg _ s a (Nat.le_refl _) h, toks_allblank t ht]; simp

/-- A text as it is written is one token. -/
theorem endQ_quote (t : List UInt8) (ht : t = [] ∨ ∃ b q, t = b :: q ∧ ¬ b.toNat = 39) : ∀ (s : List UInt8) (n : Nat), endQ (quoteS s ++ 39 :: t) n = some (n + (quoteS s).length)
  | [], n => by
    rcases ht with rfl | ⟨b, q, rfl, hb⟩
    · simp [quoteS, endQ]
    · simp [quoteS, endQ, hb]
  | c :: r, n => by
    by_cases hc : c = 39
    · subst hc
      have e : quoteS (39 :: r) = 39 :: 39 :: quoteS r := by simp [quoteS]
      rw [e]
      have ih := endQ_quote t ht r (n + 2)
      simp only [List.cons_append, List.length_cons]
      show endQ (39 :: 39 :: (quoteS r ++ 39 :: t)) n = _
      unfold endQ
      rw [if_pos (by rfl), if_pos (by rfl), ih]
      congr 1; omega
    · have e : quoteS (c :: r) = c :: quoteS r := by simp [quoteS, hc]
      have hn : ¬ c.toNat = 39 := fun h => hc (UInt8.toNat_inj.1 h)
      rw [e]
      have ih := endQ_quote t ht r (n + 1)
      simp only [List.cons_append, List.length_cons]
      cases hq : quoteS r ++ 39 :: t with
      | nil => simp at hq
      | cons d q =>
        rw [hq] at ih
        unfold endQ
        rw [if_neg hn, ih]
        congr 1; omega
def writ (s : List UInt8) : List UInt8 := [39] ++ quoteS s ++ [39]
theorem firstT_writ (s t : List UInt8) (ht : Gap t) : firstT (writ s ++ t) = (⟨3, s⟩, (writ s).length) := by
  have hw : writ s ++ t = 39 :: (quoteS s ++ 39 :: t) := by simp [writ]
  rw [hw]
  unfold firstT
  have l1 : lenRun letB partB (39 :: (quoteS s ++ 39 :: t)) = 0 := rfl
  have l2 : lenRun digB digB (39 :: (quoteS s ++ 39 :: t)) = 0 := rfl
  rw [l1, l2]
  simp only [Nat.lt_irrefl, if_false]
  rw [if_pos (by rfl), quotedT_eq]
  have he : endQ ((39 :: (quoteS s ++ 39 :: t)).drop 1) 1 = some (1 + (quoteS s).length) := endQ_quote t ht.run.2.2 s 1
  rw [he]
  simp only [quotedOf]
  have h1 : ((39 :: (quoteS s ++ 39 :: t)).take (1 + (quoteS s).length)).drop 1 = quoteS s := by
    rw [Nat.add_comm, List.take_succ_cons, List.drop_succ_cons, List.drop_zero, List.take_left']
    rfl
  rw [h1, unquote_quote]
  congr 1
  simp [writ]
  omega
theorem toks_writ (s t : List UInt8) (ht : Gap t) (hm : mayB 2 0 s = true) : toks (writ s ++ t) = (toks t).map (⟨3, s⟩ :: ·) := by
  have hf := firstT_writ s t ht
  have hw : writ s ++ t = 39 :: (quoteS s ++ [39] ++ t) := by simp [writ]
  have hd : (writ s ++ t).drop (writ s).length = t := by simp
  rw [hw] at hf hd ⊢
  rw [toks_tok 39 _ (by decide) (by rw [hf]; exact hm), hf]
  simp only
  rw [hd]

end Go.Proofs.YtelkcfkmejcjaaaDoor
