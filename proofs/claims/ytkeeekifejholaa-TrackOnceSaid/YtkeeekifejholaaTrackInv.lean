/- Plain facts on marking units one by one: which went, how many are left. Nothing of the program stands here. -/
import Derived.Test.YtkeeekifejholaaTrackBits
namespace Go.Proofs.Ytkeeekifejholaa

theorem pendF_count {u : List V} {t : List UInt8} (h : chkB u t = true) : (pendF u t).length = (List.range u.length).countP (fun j => !bitB t j) := by
  unfold pendF
  rw [h, if_pos rfl]
  unfold pend unitsTo
  rw [List.length_map, List.filter_map, List.length_map, ← List.countP_eq_length_filter]
  rfl
theorem countP_far (p : Nat → Bool) (k : Nat) : ∀ n, n ≤ k → (List.range n).countP (fun j => p j && !decide (k = j)) = (List.range n).countP p := by
  intro n hn
  apply List.countP_congr
  intro j hj
  have : j < n := List.mem_range.1 hj
  have hne : ¬ k = j := by omega
  simp [hne]
theorem countP_one (p : Nat → Bool) (k : Nat) (hp : p k = true) : ∀ n, k < n → (List.range n).countP (fun j => p j && !decide (k = j)) + 1 = (List.range n).countP p
  | 0, h => by omega
  | n + 1, h => by
    rw [List.range_succ, List.countP_append, List.countP_append]
    by_cases e : k = n
    · subst e
      rw [countP_far p k k (Nat.le_refl _)]
      simp [hp]
    · have := countP_one p k hp n (by omega)
      have e2 : (List.countP (fun j => p j && !decide (k = j)) [n]) = List.countP p [n] := by
        apply List.countP_congr
        intro j hj
        have : j = n := by simpa using hj
        subst this
        simp [e]
      omega

/-- The units l went, and they are those that are done. -/
def Inv (u : List V) (t : List UInt8) (l : List V) : Prop := chkB u t = true ∧ (∀ (k : Nat) (v : V), u[k]? = some v → l.any (fun x => veq v x) = bitB t k) ∧ (pendF u t).length + l.length = u.length

theorem Inv.new {u : List V} (h : risesB u = true) : Inv u (List.replicate ((u.length + 7) / 8) 0) [] := by
  refine ⟨chk_new h, fun k v _ => by rw [bitB_zero]; rfl, ?_⟩
  rw [pendF_count (chk_new h)]
  have : (List.range u.length).countP (fun j => !bitB (List.replicate ((u.length + 7) / 8) 0) j) = (List.range u.length).length := List.countP_eq_length.2 (fun j _ => by rw [bitB_zero]; rfl)
  rw [this]
  simp
theorem Inv.step {u : List V} {t : List UInt8} {l : List V} {k : Nat} {v : V} (h : Inv u t l) (hk : u[k]? = some v) (hb : bitB t k = false) : Inv u (setBit t k) (l ++ [v]) := by
  obtain ⟨h1, h2, h3⟩ := h
  have hkl : k < u.length := (List.getElem?_eq_some_iff.1 hk).1
  have hl := chk_len h1
  have hk8 : k / 8 < t.length := by omega
  refine ⟨chk_set h1 hkl, fun j x hj => ?_, ?_⟩
  · rw [List.any_append, h2 j x hj, bitB_setBit _ _ _ hk8]
    congr 1
    simp only [List.any_cons, List.any_nil, Bool.or_false]
    have e1 := posF_at (chk_rises h1) hk
    have e2 := posF_at (chk_rises h1) hj
    by_cases e : k = j
    · subst e
      rw [hk] at hj
      cases hj
      simp [veq]
    · have hne : ¬ (x = v) := fun e' => by subst e'; omega
      have : veq x v = false := by
        cases hq : veq x v
        · rfl
        · exact absurd (veq_iff.1 hq) hne
      simp [this, e]
  · rw [pendF_count h1] at h3
    rw [pendF_count (chk_set h1 hkl)]
    have hc := countP_one (fun j => !bitB t j) k (by simp [hb]) u.length hkl
    have e : (List.range u.length).countP (fun j => !bitB (setBit t k) j) = (List.range u.length).countP (fun j => !bitB t j && !decide (k = j)) := by
      apply List.countP_congr
      intro j _
      rw [bitB_setBit _ _ _ hk8]
      simp
    rw [e]
    simp only [List.length_append, List.length_cons, List.length_nil]
    omega

theorem unitsTo_bit (u : List V) (t : List UInt8) (k : Nat) (v : V) (b : Bool) (h : (unitsTo u t u.length)[k]? = some (v, b)) : bitB t k = b := by
  unfold unitsTo at h
  rw [List.getElem?_map] at h
  by_cases hk : k < u.length
  · rw [List.getElem?_range hk] at h
    simp at h
    exact h.2
  · rw [List.getElem?_eq_none (by simpa using hk)] at h
    simp at h
theorem next_at {u : List V} {t : List UInt8} (h : chkB u t = true) : ((pendF u t).length = 0 ∧ nextF u t = (V.zero, 6)) ∨ ∃ (k : Nat) (v : V), u[k]? = some v ∧ bitB t k = false ∧ nextF u t = (v, 0) := by
  have hp : pendF u t = pend (unitsTo u t u.length) := by simp [pendF, h]
  rcases fst_pend (unitsTo u t u.length) 0 with ⟨h1, _⟩ | ⟨k, v, r, _, h2, h3, _⟩
  · exact .inl ⟨by rw [hp, h1]; rfl, nextF_nil h h1⟩
  · exact .inr ⟨k, v, (unitsTo_at u t k v false h2).1, unitsTo_bit u t k v false h2, nextF_cons h h3⟩

end Go.Proofs.Ytkeeekifejholaa
