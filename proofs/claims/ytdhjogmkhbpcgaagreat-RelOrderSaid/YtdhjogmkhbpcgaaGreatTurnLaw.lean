/- Things that are turned round, and those that differ by their keys: plain laws. Nothing of the program stands here. -/
import Derived.Test.YtdhjogmkhbpcgaaGreatSortAM
namespace Go.Proofs.YtdhjogmkhbpcgaaGreat

section
variable {α : Type} {o : α → α → Int}
/-- Of things that differ each sorting keeps the order of those that are alike. -/
theorem apart_stab (hp : Pre o) {l l' : List α} (hperm : l'.Perm l) (hd : l'.Pairwise fun x y => ¬ o x y = 0) : Stab o l l' := by
  refine ⟨hperm, fun k => ?_⟩
  have hf : (l'.filter (eqvB o k)).Perm (l.filter (eqvB o k)) := hperm.filter _
  have hpw : (l'.filter (eqvB o k)).Pairwise fun x y => ¬ o x y = 0 := hd.filter _
  have hk : ∀ x ∈ l'.filter (eqvB o k), o k x = 0 := fun x hx => by
    have := (List.mem_filter.1 hx).2
    simpa [eqvB] using this
  generalize l'.filter (eqvB o k) = m' at hf hpw hk ⊢
  generalize l.filter (eqvB o k) = m at hf ⊢
  match m', hf, hpw, hk with
  | [], hf, _, _ => exact (List.nil_perm.1 hf).symm
  | [x], hf, _, _ => exact List.singleton_perm.1 hf
  | x :: y :: r, _, hpw, hk =>
    have h1 := (List.pairwise_cons.1 hpw).1 y (by simp)
    have h2 := hp.alike (hk x (by simp)) (hk y (by simp))
    have h3 := hp.rev' (hp.alike (hk y (by simp)) (hk x (by simp)))
    exact absurd (by omega) h1
theorem rise_adj (hp : Pre o) : ∀ {l : List α}, (∀ i a b, l[i]? = some a → l[i + 1]? = some b → o a b ≤ 0) → Rise o l
  | [], _ => List.Pairwise.nil
  | [x], _ => by simp [Rise]
  | x :: y :: r, h => by
    have hr : Rise o (y :: r) := rise_adj hp fun i a b ha hb => h (i + 1) a b (by simpa using ha) (by simpa using hb)
    have hxy : o x y ≤ 0 := h 0 x y rfl rfl
    refine List.pairwise_cons.2 ⟨fun z hz => ?_, hr⟩
    rcases List.mem_cons.1 hz with rfl | hz
    · exact hxy
    · exact hp.trans x y z hxy ((List.pairwise_cons.1 hr).1 z hz)
/-- The first k of the things, turned round by t. -/
def turned (l : List α) (d : α) (t k : Nat) : List α := (List.range k).map fun i => l.getD ((i + t) % l.length) d
theorem turned_succ (l : List α) (d : α) (t k : Nat) : turned l d t (k + 1) = turned l d t k ++ [l.getD ((k + t) % l.length) d] := by
  unfold turned
  rw [List.range_succ, List.map_append]
  rfl
theorem turned_all (l : List α) (d : α) (t : Nat) (h : 0 < l.length) : turned l d t l.length = l.drop (t % l.length) ++ l.take (t % l.length) := by
  have hs : t % l.length < l.length := Nat.mod_lt _ h
  refine List.ext_getElem? fun i => ?_
  unfold turned
  rw [List.getElem?_map]
  by_cases hi : i < l.length
  · rw [List.getElem?_range hi]
    have e : (i + t) % l.length = (i + t % l.length) % l.length := by rw [Nat.add_mod_mod]
    simp only [Option.map_some, e]
    generalize t % l.length = s at hs ⊢
    by_cases h1 : i + s < l.length
    · rw [List.getElem?_append_left (by rw [List.length_drop]; omega), List.getElem?_drop, Nat.mod_eq_of_lt h1, List.getD_eq_getElem?_getD, Nat.add_comm s i, List.getElem?_eq_getElem h1]
      rfl
    · have e2 : (i + s) % l.length = i + s - l.length := by
        rw [Nat.mod_eq_sub_mod (by omega), Nat.mod_eq_of_lt (by omega)]
      have h3 : i + s - l.length < l.length := by omega
      rw [List.getElem?_append_right (by rw [List.length_drop]; omega), List.length_drop, e2, List.getElem?_take, List.getD_eq_getElem?_getD, List.getElem?_eq_getElem h3]
      have e4 : i - (l.length - s) = i + s - l.length := by omega
      rw [e4, if_pos (by omega), List.getElem?_eq_getElem h3]
      rfl
  · rw [List.getElem?_eq_none (by simp; omega), List.getElem?_eq_none (by rw [List.length_append, List.length_drop, List.length_take]; omega)]
    rfl
theorem turned_perm (l : List α) (d : α) (t : Nat) (h : 0 < l.length) : (turned l d t l.length).Perm l := by
  rw [turned_all l d t h]
  have := (List.perm_append_comm (l₁ := l.drop (t % l.length)) (l₂ := l.take (t % l.length)))
  rw [List.take_append_drop] at this
  exact this
end

end Go.Proofs.YtdhjogmkhbpcgaaGreat
