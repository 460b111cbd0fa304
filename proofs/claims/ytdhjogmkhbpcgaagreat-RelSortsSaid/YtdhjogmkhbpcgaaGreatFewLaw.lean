/- What is looked at of what is looked at is all of it. Nothing of the program stands here. -/
import Derived.Test.YtdhjogmkhbpcgaaGreatExpr5M
namespace Go.Proofs.YtdhjogmkhbpcgaaGreat
open Go.RowKit

theorem fold_again (f : Int → Ex → Ex × Int) (hf : ∀ left e, f left (f left e).1 = f left e) : ∀ (l : List Ex) (left : Int), fewFold f (fewFold f l left).1 left = fewFold f l left
  | [], _ => rfl
  | x :: r, left => by
    by_cases h : 0 < left
    · simp only [fewFold, if_pos h, hf left x, fold_again f hf r (f left x).2]
    · simp only [fewFold, if_neg h]
theorem fold_le (f : Int → Ex → Ex × Int) : ∀ (l : List Ex) (left : Int), (fewFold f l left).1.length ≤ l.length
  | [], _ => Nat.le_refl _
  | x :: r, left => by
    unfold fewFold
    split
    · have := fold_le f r (f left x).2
      simp only [List.length_cons]
      omega
    · simp
theorem take_again {α : Type} (l : List α) (n : Nat) : (l.take n).take n = l.take n := by rw [List.take_take, Nat.min_self]
theorem v4_again (v : V) : fewV4 (fewV4 v) = fewV4 v := by unfold fewV4; simp only [take_again]
theorem fewE_again : ∀ (d : Nat) (left : Int) (e : Ex), fewE d left (fewE d left e).1 = fewE d left e
  | 0, left, e => by
    have h : ∀ e, fewE 0 left e = (.mk (e.op.take 8) (fewV4 e.v) (e.s.take 20) [], left - 1) := fun e => rfl
    rw [h e, h]
    simp only [Ex.op, Ex.v, Ex.s, take_again, v4_again]
  | d + 1, left, .mk o v s l => by
    have h1 : ((fewFold (fewE d) (l.take 3) (left - 1)).1).take 3 = (fewFold (fewE d) (l.take 3) (left - 1)).1 :=
      List.take_of_length_le (Nat.le_trans (fold_le _ _ _) (List.length_take_le _ _))
    have h2 := fold_again (fewE d) (fewE_again d) (l.take 3) (left - 1)
    have h : ∀ e, fewE (d + 1) left e = (.mk (e.op.take 8) (fewV4 e.v) (e.s.take 20) (fewFold (fewE d) (e.l.take 3) (left - 1)).1, (fewFold (fewE d) (e.l.take 3) (left - 1)).2) := fun e => rfl
    rw [h, h]
    simp only [Ex.op, Ex.v, Ex.s, Ex.l, take_again, v4_again]
    rw [h1, h2]
theorem fewX_again (e : Ex) : fewX (fewX e) = fewX e := by
  unfold fewX
  rw [fewE_again]
theorem map_again {α : Type} (f : α → α) (hf : ∀ x, f (f x) = f x) (l : List α) (n : Nat) : (((l.take n).map f).take n).map f = (l.take n).map f := by
  rw [← List.map_take, take_again, List.map_map]
  exact List.map_congr_left fun x _ => hf x
theorem fewL_again (l : List V) : fewL (fewL l) = fewL l := by
  unfold fewL
  exact map_again fewV (fun v => by unfold fewV; simp only [take_again]) l 14
theorem fewCols_again (l : List Col) : fewCols (fewCols l) = fewCols l := by
  unfold fewCols
  exact map_again fewC (fun c => by unfold fewC; simp only [take_again]) l 9
theorem fewTb_again (t : Tb) : t.few.few = t.few := by
  unfold Tb.few
  simp only [take_again, fewCols_again, fewX_again, map_again (fun r : Fr => (⟨r.c, r.t.take 20⟩ : Fr)) (fun r => by simp only [take_again])]
theorem few_again (x : Rl) : x.few.few = x.few := by
  unfold Rl.few
  simp only [fewTb_again, List.length_map, List.length_take]
  congr 1
  by_cases h : 200 < x.rows.length
  · rw [if_pos h, if_pos (by omega)]
    exact map_again fewL fewL_again x.rows 201
  · rw [if_neg h, if_neg (by omega)]
    exact map_again fewL fewL_again x.rows 40
theorem fit_up {K K' : Nat} {e : Ex} (hK : K ≤ K') (h : e.fit K) : e.fit K' := ⟨h.1, Nat.le_trans h.2.1 hK, Nat.le_trans h.2.2.1 hK, Nat.le_trans h.2.2.2 hK⟩
theorem ExQ.fitUp {K K' : Nat} {w : World} {Q : Nat → Prop} (hK : K ≤ K') : ∀ (n : Nat) {A : Option Addr} {l : List Ex}, ExQ K n w Q A l → ExQ K' n w Q A l
  | 0, _, _, h => h
  | n + 1, _, _, h => fun hl => by
    obtain ⟨b, off, rfl, hb, hr⟩ := h hl
    refine ⟨b, off, rfl, hb, fun i e he => ?_⟩
    obtain ⟨A', c', hf, h1, h2, h3, h4⟩ := hr i e he
    exact ⟨A', c', fit_up hK hf, h1, h2, h3, h4.fitUp hK n⟩
theorem RlQ.fitUp {K K' : Nat} {x : Rl} {p : RlP} {Q : Nat → Prop} {w : World} (hK : K ≤ K') (h : RlQ K x p Q w) : RlQ K' x p Q w := by
  obtain ⟨⟨h1, h2, h3, n, h4⟩, h5⟩ := h
  exact ⟨⟨h1, h2, h3, n, h4.fitUp hK n⟩, h5⟩

end Go.Proofs.YtdhjogmkhbpcgaaGreat
