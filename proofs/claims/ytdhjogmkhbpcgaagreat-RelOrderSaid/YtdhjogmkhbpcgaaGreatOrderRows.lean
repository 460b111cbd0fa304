/- Rows of a table that may be, turned round and sorted, are as they were: a plain law. -/
import Derived.Test.YtdhjogmkhbpcgaaGreatSort489M
import Derived.Test.YtdhjogmkhbpcgaaGreatTurnLaw
import Derived.Test.YtdhjogmkhbpcgaaGreatR7M
import Derived.Test.YtdhjogmkhbpcgaaGreatFitM
namespace Go.Proofs.YtdhjogmkhbpcgaaGreat
open Go.RowKit

theorem fitsFrom_at (cols : List Col) : ∀ (l : List V) (i : Nat), fitsFrom cols l i = 0 → ∀ (j : Nat) (v : V), l[j]? = some v → fitV (cols.getD (i + j) ⟨[], 0, false⟩) v = 0
  | [], _, _, _, _, h => by simp at h
  | a :: r, i, h, j, v, hv => by
    simp only [fitsFrom] at h
    split at h
    · rename_i h0
      cases j with
      | zero => simp at hv; subst hv; exact h0
      | succ j =>
        have := fitsFrom_at cols r (i + 1) h j v (by simpa using hv)
        rw [show i + (j + 1) = i + 1 + j by omega]
        exact this
    · rename_i h0
      exact absurd h h0
theorem fits_parts {t : Tb} {r : List V} (h : fitsX t r = 0) : (∀ v ∈ r, V.mayB v = true) ∧ fitsFrom t.cols r 0 = 0 := by
  unfold fitsX at h
  split at h
  · cases h
  · split at h
    · cases h
    · rename_i hm
      split at h
      · rename_i hf
        exact absurd h hf
      · rename_i hf
        exact ⟨List.all_eq_true.1 (Decidable.not_not.1 hm), Decidable.not_not.1 hf⟩
theorem goodV_may {v : V} (h : V.mayB v = true) : goodV v.k v.i v.s = v := by
  unfold goodV
  have h' : mayB v.k v.i v.s = true := h
  rw [h', if_pos rfl]
theorem key_val {x : Rl} (hm : mayTb x.t = true) {r : List V} (hr : fitsX x.t r = 0) : keyAt (ofF x.t) r = atV x.t.key.toNat r ∧ keyT x.t r = atV x.t.key.toNat r ∧ ∃ v, r[x.t.key.toNat]? = some v ∧ atV x.t.key.toNat r = v ∧ V.mayB v = true ∧ ¬ v.k = 0 := by
  obtain ⟨k1, k2⟩ := may_key hm
  have hl := fits_len hr
  have hof : ofF x.t = x.t.key := by unfold ofF; rw [hm]; rfl
  refine ⟨by rw [hof]; unfold keyAt; rw [if_neg (by omega)], by unfold keyT; rw [if_pos ⟨hm, by omega⟩], ?_⟩
  have hlt : x.t.key.toNat < r.length := by omega
  obtain ⟨hp1, hp2⟩ := fits_parts hr
  refine ⟨r[x.t.key.toNat], List.getElem?_eq_getElem hlt, by unfold atV; rw [List.getD_eq_getElem?_getD, List.getElem?_eq_getElem hlt]; rfl, hp1 _ (List.getElem_mem hlt), fun h0 => ?_⟩
  have h1 := fitsFrom_at x.t.cols r 0 hp2 _ _ (List.getElem?_eq_getElem hlt)
  rw [Nat.zero_add] at h1
  have hb : (x.t.cols.getD x.t.key.toNat ⟨[], 0, false⟩).b = true := by
    have := hm
    unfold mayTb lastB at this
    simp only [Bool.and_eq_true] at this
    exact this.2.2.2.2.2.2.2.1
  unfold fitV at h1
  rw [if_pos ⟨h0, hb⟩] at h1
  cases h1
theorem order_law {x : Rl} (h : chkOk x) (hn : 0 < x.rows.length) (t : Nat) : SortedOf (ofF x.t) (turned x.rows [] t x.rows.length) x.rows := by
  obtain ⟨hm, _, hfit, hap, hor⟩ := h
  have hcmp : ∀ r r', r ∈ x.rows → r' ∈ x.rows → cmpR (ofF x.t) r r' = ordR (keyT x.t r) (keyT x.t r') := fun r r' hr hr' => by
    obtain ⟨e1, e2, _⟩ := key_val hm (hfit r hr)
    obtain ⟨e3, e4, _⟩ := key_val hm (hfit r' hr')
    unfold cmpR ordR
    rw [ordV_eq, e1, e2, e3, e4]
  refine ⟨rise_adj (cmpR_pre _) fun i a b ha hb => ?_, apart_stab (cmpR_pre _) (turned_perm x.rows [] t hn).symm (List.pairwise_iff_getElem.2 fun i j hi hj hij h0 => ?_)⟩
  · rw [hcmp a b (List.mem_of_getElem? ha) (List.mem_of_getElem? hb)]
    exact hor i a b ha hb
  · obtain ⟨e1, _, v, _, e2, m1, _⟩ := key_val hm (hfit _ (List.getElem_mem hi))
    obtain ⟨e3, _, v', _, e4, m2, z2⟩ := key_val hm (hfit _ (List.getElem_mem hj))
    have ha := hap j hj i _ _ hij (List.getElem?_eq_getElem hj) (List.getElem?_eq_getElem hi)
    unfold apartV at ha
    rw [e4, e2] at ha
    unfold cmpR at h0
    rw [ordV_eq, e1, e2, e3, e4, goodV_may m1, goodV_may m2] at h0
    have hv : v = v' := by
      rcases vord_cases v v' with ⟨_, _, e⟩ | ⟨e, _⟩ | ⟨e, _⟩
      · exact e
      · omega
      · omega
    rcases ha with ha | ha
    · exact z2 ha
    · rw [(veq_iff v' v).2 hv.symm] at ha
      cases ha

end Go.Proofs.YtdhjogmkhbpcgaaGreat
