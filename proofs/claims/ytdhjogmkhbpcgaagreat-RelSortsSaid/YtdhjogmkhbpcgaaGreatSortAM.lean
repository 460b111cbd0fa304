/- Sorting by moves that keep what is alike in its order. Nothing of the program stands here. A row of rows in memory that is put in order in its own block. slices.rotateCmpFunc: two neighbours change places. Condition: a row of rows in one block. -/
import Derived.Test.YtdhjogmkhbpcgaaGreatTake
import Derived.Test.YtdhjogmkhbpcgaaGreatValM
import Derived.Test.YtdhjogmkhbpcgaaGreatRowsM
import Derived.Test.YtdhjogmkhbpcgaaGreatFew2M
import Derived.IntWalk
namespace Go.Proofs.YtdhjogmkhbpcgaaGreat

section
variable {α : Type} {o : α → α → Int}
/-- A comparison that puts things in an order, alike ones beside each other. -/
structure Pre (o : α → α → Int) : Prop where
  flip : ∀ x y, o x y < 0 ↔ 0 < o y x
  trans : ∀ x y z, o x y ≤ 0 → o y z ≤ 0 → o x z ≤ 0
def Rise (o : α → α → Int) (l : List α) : Prop := l.Pairwise fun x y => o x y ≤ 0
def eqvB (o : α → α → Int) (k x : α) : Bool := decide (o k x = 0)
/-- l' has the same things as l, alike ones in the same order. -/
def Stab (o : α → α → Int) (l l' : List α) : Prop := l'.Perm l ∧ ∀ k, l'.filter (eqvB o k) = l.filter (eqvB o k)
theorem Pre.self (h : Pre o) (x : α) : o x x = 0 := by have := h.flip x x; omega
theorem Pre.neg (h : Pre o) {x y : α} (h1 : 0 < o x y) : o y x < 0 := (h.flip y x).2 h1
theorem Pre.rev (h : Pre o) {x y : α} (h1 : ¬ o x y < 0) : o y x ≤ 0 := by have := h.flip x y; omega
theorem Pre.rev' (h : Pre o) {x y : α} (h1 : o x y ≤ 0) : 0 ≤ o y x := by have := h.flip y x; omega
theorem Pre.lt_le (h : Pre o) {x y z : α} (h1 : 0 < o x y) (h2 : o z y ≤ 0) : 0 < o x z := by
  have h3 : ¬ o x z ≤ 0 := fun h4 => by have := h.trans x z y h4 h2; omega
  omega
theorem Pre.le_lt (h : Pre o) {x y z : α} (h1 : 0 < o x y) (h2 : o x z ≤ 0) : 0 < o z y := by
  have h3 : ¬ o z y ≤ 0 := fun h4 => by have := h.trans x z y h2 h4; omega
  omega
theorem Pre.alike (h : Pre o) {k x y : α} (hx : o k x = 0) (hy : o k y = 0) : o x y ≤ 0 :=
  h.trans x k y (h.rev (by omega)) (by omega)
theorem Stab.refl (l : List α) : Stab o l l := ⟨List.Perm.refl _, fun _ => rfl⟩
theorem Stab.trans {a b c : List α} (h : Stab o a b) (h' : Stab o b c) : Stab o a c := ⟨h'.1.trans h.1, fun k => (h'.2 k).trans (h.2 k)⟩
theorem Stab.app {a b c d : List α} (h : Stab o a b) (h' : Stab o c d) : Stab o (a ++ c) (b ++ d) := ⟨h.1.append h'.1, fun k => by rw [List.filter_append, List.filter_append, h.2 k, h'.2 k]⟩
theorem filter_none {f : α → Bool} : ∀ {l : List α}, (∀ x ∈ l, f x = false) → l.filter f = []
  | [], _ => rfl
  | x :: r, h => by rw [List.filter_cons, h x (by simp), if_neg (by simp)]; exact filter_none fun y hy => h y (by simp [hy])
theorem Stab.rot (hp : Pre o) {a b : List α} (h : ∀ x ∈ a, ∀ y ∈ b, 0 < o x y) : Stab o (a ++ b) (b ++ a) := by
  refine ⟨List.perm_append_comm, fun k => ?_⟩
  rw [List.filter_append, List.filter_append]
  by_cases ha : ∃ x ∈ a, o k x = 0
  · obtain ⟨x, hx, hk⟩ := ha
    rw [filter_none (l := b) fun y hy => by
      have h1 := h x hx y hy
      have h2 : ¬ o k y = 0 := fun h3 => by have := hp.alike hk h3; omega
      simp [eqvB, h2]]
    simp
  · rw [filter_none (l := a) fun x hx => by
      have : ¬ o k x = 0 := fun h3 => ha ⟨x, hx, h3⟩
      simp [eqvB, this]]
    simp
/-- Two risings of the same things, alike ones in the same order, are one. -/
theorem stab_eq (hp : Pre o) : ∀ {l l' : List α}, Rise o l → Rise o l' → Stab o l l' → l' = l
  | [], l', _, _, h => List.eq_nil_of_length_eq_zero (by simpa using h.1.length_eq)
  | x :: r, [], _, _, h => by have := h.1.length_eq; simp at this
  | x :: r, y :: r', h1, h2, h => by
    unfold Rise at h1 h2
    rw [List.pairwise_cons] at h1 h2
    have hx : x ∈ y :: r' := h.1.mem_iff.2 (by simp)
    have hy : y ∈ x :: r := h.1.mem_iff.1 (by simp)
    have hxy : o x y ≤ 0 := by
      rcases List.mem_cons.1 hy with e | e
      · rw [e, hp.self]; omega
      · exact h1.1 y e
    have hyx : o y x ≤ 0 := by
      rcases List.mem_cons.1 hx with e | e
      · rw [e, hp.self]; omega
      · exact h2.1 x e
    have h0 : o x y = 0 := by have := hp.rev' hyx; omega
    have hf := h.2 x
    rw [List.filter_cons, List.filter_cons, if_pos (by simp [eqvB, h0]), if_pos (by simp [eqvB, hp.self])] at hf
    obtain ⟨e1, _⟩ := List.cons.inj hf
    subst e1
    have hr : Stab o r r' := by
      refine ⟨h.1.cons_inv, fun k => ?_⟩
      have := h.2 k
      rw [List.filter_cons, List.filter_cons] at this
      split at this
      · exact (List.cons.inj this).2
      · exact this
    rw [stab_eq hp h1.2 h2.2 hr]
theorem Rise.app {l l' : List α} (h : Rise o l) (h' : Rise o l') (hl : ∀ x ∈ l, ∀ y ∈ l', o x y ≤ 0) : Rise o (l ++ l') := List.pairwise_append.2 ⟨h, h', hl⟩
theorem Rise.left {l l' : List α} (h : Rise o (l ++ l')) : Rise o l := (List.pairwise_append.1 h).1
theorem Rise.right {l l' : List α} (h : Rise o (l ++ l')) : Rise o l' := (List.pairwise_append.1 h).2.1
theorem Rise.cross {l l' : List α} (h : Rise o (l ++ l')) : ∀ x ∈ l, ∀ y ∈ l', o x y ≤ 0 := (List.pairwise_append.1 h).2.2
theorem Rise.get (hp : Pre o) {l : List α} (h : Rise o l) {i j : Nat} {x y : α} (hx : l[i]? = some x) (hy : l[j]? = some y) (hij : i ≤ j) : o x y ≤ 0 := by
  rcases Nat.eq_or_lt_of_le hij with e | e
  · subst e
    rw [hx] at hy
    cases hy
    rw [hp.self]; omega
  · obtain ⟨h1, rfl⟩ := List.getElem?_eq_some_iff.1 hx
    obtain ⟨h2, rfl⟩ := List.getElem?_eq_some_iff.1 hy
    exact List.pairwise_iff_getElem.1 h i j h1 h2 e
/-- One thing put in behind all that are not above it. -/
theorem put_in (hp : Pre o) {a b : List α} {x : α} (h : Rise o (a ++ b)) (ha : a = [] ∨ ∃ y, a.getLast? = some y ∧ o y x ≤ 0) (hb : ∀ y ∈ b, 0 < o y x) : Rise o (a ++ x :: b) ∧ Stab o (a ++ b ++ [x]) (a ++ x :: b) := by
  have hax : ∀ z ∈ a, o z x ≤ 0 := by
    rcases ha with rfl | ⟨y, hy, hyx⟩
    · simp
    · obtain ⟨a', rfl⟩ : ∃ a', a = a' ++ [y] := by
        rw [List.getLast?_eq_some_iff] at hy
        exact hy
      intro z hz
      rcases List.mem_append.1 hz with hz | hz
      · exact hp.trans z y x (h.left.cross z hz y (by simp)) hyx
      · simp only [List.mem_singleton] at hz
        rw [hz]; exact hyx
  refine ⟨h.left.app (List.pairwise_cons.2 ⟨fun y hy => ?_, h.right⟩) fun z hz y hy => ?_, ?_⟩
  · have := hp.neg (hb y hy); omega
  · rcases List.mem_cons.1 hy with rfl | hy
    · exact hax z hz
    · exact h.cross z hz y hy
  · rw [List.append_assoc]
    exact (Stab.refl a).app (Stab.rot hp fun y hy z hz => by simp only [List.mem_singleton] at hz; rw [hz]; exact hb y hy)
/-- Two risings, cut so that what is to be exchanged falls, are put together of two that rise apart. -/
theorem sym_split (hp : Pre o) {a1 a2 b1 b2 c1 c2 : List α} (ha : Rise o (a1 ++ a2)) (hb : Rise o (b1 ++ b2)) (h1 : ∀ x ∈ a2, ∀ y ∈ b1, 0 < o x y) (h2 : ∀ x ∈ a1, ∀ y ∈ b2, o x y ≤ 0)
    (r1 : Rise o c1) (s1 : Stab o (a1 ++ b1) c1) (r2 : Rise o c2) (s2 : Stab o (a2 ++ b2) c2) : Rise o (c1 ++ c2) ∧ Stab o ((a1 ++ a2) ++ (b1 ++ b2)) (c1 ++ c2) := by
  refine ⟨r1.app r2 fun x hx y hy => ?_, ?_⟩
  · have hx' := s1.1.mem_iff.1 hx
    have hy' := s2.1.mem_iff.1 hy
    rcases List.mem_append.1 hx' with hx1 | hx1 <;> rcases List.mem_append.1 hy' with hy1 | hy1
    · exact ha.cross x hx1 y hy1
    · exact h2 x hx1 y hy1
    · have := hp.neg (h1 y hy1 x hx1); omega
    · exact hb.cross x hx1 y hy1
  · have m : Stab o ((a1 ++ a2) ++ (b1 ++ b2)) ((a1 ++ b1) ++ (a2 ++ b2)) := by
      have := (Stab.refl (o := o) a1).app ((Stab.rot hp h1).app (Stab.refl b2))
      simpa only [List.append_assoc] using this
    exact m.trans (s1.app s2)
end

end Go.Proofs.YtdhjogmkhbpcgaaGreat

namespace Go.Proofs.YtdhjogmkhbpcgaaGreat
open Go.RowKit

attribute [local go_sem] ByteArray.extract_mk ba_get
attribute [local go_sem ↓] Go.wp_at_zero Go.wp_at_succ

/-- Block b holds the rows H, one behind the other, from its first cell on. -/
def Arr (w : World) (b : Nat) (ty : TypeId) (H : List Rc) : Prop := ∃ cur : Array Value, Blk w b ty cur ∧ ∀ (i : Nat) (q : Rc), H[i]? = some q → cur[i]? = some q.cell
theorem set_mid {α : Type} (p : List α) (x y : α) (r : List α) : (p ++ x :: r).set p.length y = p ++ y :: r := by
  induction p with
  | nil => rfl
  | cons a p ih => simp
section
variable {w w' : World} {b : Nat} {ty : TypeId} {H : List Rc}
theorem Arr.lt (h : Arr w b ty H) : b < w.heap.size := by obtain ⟨cur, hk, _⟩ := h; exact hk.lt
theorem Arr.cell (h : Arr w b ty H) {i : Nat} {q : Rc} (hq : H[i]? = some q) : w.cell? ⟨b, i, none⟩ = some q.cell := by
  obtain ⟨cur, hk, hc⟩ := h
  rw [hk.cell]
  exact hc i q hq
theorem Arr.frozen (h : Arr w b ty H) (i : Nat) : w.frozen? ⟨b, i, none⟩ = false := by obtain ⟨cur, hk, _⟩ := h; exact hk.frozen i
theorem Arr.drew (h : Arr w b ty H) : Arr w.drew b ty H := h
theorem Arr.drewN (h : Arr w b ty H) (n : Nat) : Arr (w.drewN n) b ty H := h
theorem Arr.below (h : Arr w b ty H) (hb : Below w.heap.size w w') : Arr w' b ty H := by
  obtain ⟨cur, hk, hc⟩ := h
  exact ⟨cur, hk.below hb hk.lt, hc⟩
theorem Arr.set (h : Arr w b ty H) {i : Nat} (hi : i < H.length) (q : Rc) : Arr (w.setCell ⟨b, i, none⟩ q.cell) b ty (H.set i q) := by
  obtain ⟨cur, hk, hc⟩ := h
  refine ⟨_, hk.set_ i q.cell, fun j r hr => ?_⟩
  rw [List.getElem?_set] at hr
  have hci := hc i (H[i]) (List.getElem?_eq_getElem hi)
  obtain ⟨hlt, _⟩ := Array.getElem?_eq_some_iff.1 hci
  by_cases hij : i = j
  · subst hij
    simp [hi] at hr
    subst hr
    simp [hlt]
  · rw [if_neg hij] at hr
    rw [Array.getElem?_setIfInBounds_ne hij]
    exact hc j r hr
/-- Two of them change places. -/
theorem Arr.swap {P M S : List Rc} {x y : Rc} {i j : Nat} (h : Arr w b ty (P ++ x :: (M ++ y :: S))) (hi : i = P.length) (hj : j = P.length + 1 + M.length) :
    Arr ((w.setCell ⟨b, i, none⟩ y.cell).setCell ⟨b, j, none⟩ x.cell) b ty (P ++ y :: (M ++ x :: S)) := by
  subst hi hj
  have h1 := h.set (i := P.length) (by simp) y
  rw [set_mid] at h1
  have e1 : P ++ y :: (M ++ y :: S) = (P ++ y :: M) ++ y :: S := by simp
  have e2 : P ++ y :: (M ++ x :: S) = (P ++ y :: M) ++ x :: S := by simp
  rw [e1] at h1
  have hl : P.length + 1 + M.length = (P ++ y :: M).length := by simp; omega
  have h2 := h1.set (i := P.length + 1 + M.length) (by rw [hl]; simp) x
  rw [e2, hl]
  rw [hl, set_mid] at h2
  exact h2
theorem Arr.swap' {P M S : List Rc} {x y : Rc} {i j : Nat} (h : Arr w b ty (P ++ x :: (M ++ y :: S))) (hi : i = P.length) (hj : j = P.length + 1 + M.length) :
    Arr ((w.setCell ⟨b, j, none⟩ x.cell).setCell ⟨b, i, none⟩ y.cell) b ty (P ++ y :: (M ++ x :: S)) := by
  subst hi hj
  have e1 : P ++ x :: (M ++ y :: S) = (P ++ x :: M) ++ y :: S := by simp
  have e2 : (P ++ x :: M) ++ x :: S = P ++ x :: (M ++ x :: S) := by simp
  have hl : P.length + 1 + M.length = (P ++ x :: M).length := by simp; omega
  rw [e1] at h
  have h1 := h.set (i := P.length + 1 + M.length) (by rw [hl]; simp) x
  rw [hl, set_mid, e2] at h1
  have h2 := h1.set (i := P.length) (by simp) y
  rw [set_mid] at h2
  rw [hl]
  exact h2
theorem swap_at {P M S : List Rc} {x y : Rc} : (P ++ x :: (M ++ y :: S))[P.length]? = some x ∧ (P ++ x :: (M ++ y :: S))[P.length + 1 + M.length]? = some y := by
  refine ⟨by simp, ?_⟩
  rw [List.getElem?_append_right (by omega)]
  have : P.length + 1 + M.length - P.length = M.length + 1 := by omega
  rw [this]
  simp
theorem but_two {i j : Nat} {u v : Value} : But b w ((w.setCell ⟨b, i, none⟩ u).setCell ⟨b, j, none⟩ v) := ((But.refl b w).set i u).set j v
end
/-- What a call leaves that put rows in order. -/
def RetS (b : Nat) (ty : TypeId) (P : List Rc → Prop) (w : World) (en : Ending) (w' : World) : Prop := en = .returned (.tuple #[]) ∧ (∃ H', P H' ∧ Arr w' b ty H') ∧ But b w w'

set_option maxHeartbeats 2000000 in
theorem swapRange_any (F : Value) (b c n : Nat) (U X M Y S : List Rc) (w : World) (hX : X.length = n) (hY : Y.length = n) (hl : (U ++ (X ++ (M ++ (Y ++ S)))).length ≤ 1000000) (hA : Arr w b 43 (U ++ (X ++ (M ++ (Y ++ S))))) :
    Calls Tryz.prog 136 #[.slice (some ⟨b, 0, none⟩) (U ++ (X ++ (M ++ (Y ++ S)))).length c, .int .i64 U.length, .int .i64 ((U.length + X.length + M.length : Nat) : Int), .int .i64 n, F] w
      (RetS b 43 (fun H' => H' = U ++ (Y ++ (M ++ (X ++ S)))) w) := by
  obtain ⟨N, hN⟩ : ∃ N, (U ++ (X ++ (M ++ (Y ++ S)))).length = N := ⟨_, rfl⟩
  have hNN := hN
  rw [hN] at hl ⊢
  simp only [List.length_append] at hNN
  obtain ⟨j0, hj0⟩ : ∃ j, U.length + X.length + M.length = j := ⟨_, rfl⟩
  obtain ⟨i0, hi0⟩ : ∃ i, U.length = i := ⟨_, rfl⟩
  rw [hj0, hi0]
  have HJ := Lib.hid hj0
  have HI := Lib.hid hi0
  have HX := Lib.hid hX
  have HY := Lib.hid hY
  have HN := Lib.hid hNN
  have hb1 : i0 + n ≤ j0 := by omega
  have hb2 : j0 + n ≤ N := by omega
  clear hj0 hi0 hX hY hNN hN
  go_enter Tryz.func136, Tryz.ntmps136
  go_wp2_with fail
  go_loopw [10] (fun i wr => ∃ (k : Nat) (X1 X2 Y1 Y2 : List Rc), k ≤ n ∧ i = .int .i64 k ∧ Hid (X1.length = k ∧ Y1.length = k ∧ X = X1 ++ X2 ∧ Y = Y1 ++ Y2) ∧ Arr wr b 43 (U ++ (Y1 ++ (X2 ++ (M ++ (X1 ++ (Y2 ++ S)))))) ∧ But b w wr) (fun i _ => n - (intOf i).toNat)
  case atStart => exact ⟨0, [], X, [], Y, by omega, rfl, ⟨rfl, rfl, rfl, rfl⟩, hA, But.refl _ _⟩
  case round =>
    obtain ⟨k, X1, X2, Y1, Y2, hk, rfl, HL, hR, hbt⟩ := hrel
    by_cases hlt : k < n
    · have hx0 := HX.out
      have hy0 := HY.out
      obtain ⟨hl1, hl2, e1, e2⟩ := HL.out
      cases X2 with
      | nil => rw [e1] at hx0; simp at hx0; omega
      | cons x X2 =>
      cases Y2 with
      | nil => rw [e2] at hy0; simp at hy0; omega
      | cons y Y2 =>
      have hR' : Arr wr b 43 ((U ++ Y1) ++ x :: ((X2 ++ (M ++ X1)) ++ y :: (Y2 ++ S))) := by
        have e : U ++ (Y1 ++ ((x :: X2) ++ (M ++ (X1 ++ ((y :: Y2) ++ S))))) = (U ++ Y1) ++ x :: ((X2 ++ (M ++ X1)) ++ y :: (Y2 ++ S)) := by simp
        rw [← e]
        exact hR
      have hp1 : i0 + k = (U ++ Y1).length := by have := HI.out; simp; omega
      have hp2 : j0 + k = (U ++ Y1).length + 1 + (X2 ++ (M ++ X1)).length := by
        have h1 := HI.out
        have h2 := HJ.out
        rw [e1] at h2 hx0
        simp only [List.length_append, List.length_cons] at h2 hx0 ⊢
        omega
      obtain ⟨s1, s2⟩ := swap_at (P := U ++ Y1) (M := X2 ++ (M ++ X1)) (S := Y2 ++ S) (x := x) (y := y)
      rw [← hp1] at s1
      rw [← hp2] at s2
      have c1 := hR'.cell s1
      have c2 := hR'.cell s2
      have f1 := hR'.frozen (i0 + k)
      have f2 := hR'.frozen (j0 + k)
      have hsw := (hR'.drew).swap hp1 hp2
      have HP : Hid (Arr ((wr.drew.setCell ⟨b, i0 + k, none⟩ y.cell).setCell ⟨b, j0 + k, none⟩ x.cell) b 43 (U ++ ((Y1 ++ [y]) ++ (X2 ++ (M ++ ((X1 ++ [x]) ++ (Y2 ++ S))))))) := by
        have e : U ++ ((Y1 ++ [y]) ++ (X2 ++ (M ++ ((X1 ++ [x]) ++ (Y2 ++ S))))) = (U ++ Y1) ++ y :: ((X2 ++ (M ++ X1)) ++ x :: (Y2 ++ S)) := by simp
        rw [e]
        exact hsw
      have HLN : Hid ((X1 ++ [x]).length = k + 1 ∧ (Y1 ++ [y]).length = k + 1 ∧ X = (X1 ++ [x]) ++ X2 ∧ Y = (Y1 ++ [y]) ++ Y2) := ⟨by simp [hl1], by simp [hl2], by rw [e1]; simp, by rw [e2]; simp⟩
      have HBT : Hid (But b w ((wr.drew.setCell ⟨b, i0 + k, none⟩ y.cell).setCell ⟨b, j0 + k, none⟩ x.cell)) := by
        have h0 : But b w wr.drew := ⟨hbt.os, hbt.tape, hbt.output, hbt.size, hbt.block⟩
        exact (h0.set _ _).set _ _
      have hne : ¬ (i0 + k = j0 + k) := by omega
      have c2' : (wr.drew.setCell ⟨b, i0 + k, none⟩ y.cell).cell? ⟨b, j0 + k, none⟩ = some y.cell := by
        have := ((hR'.drew).set (i := i0 + k) (by rw [hp1]; simp) y).cell (i := j0 + k) (q := y) (by rw [List.getElem?_set_ne hne]; exact s2)
        exact this
      have f2' : (wr.drew.setCell ⟨b, i0 + k, none⟩ y.cell).frozen? ⟨b, j0 + k, none⟩ = false := ((hR'.drew).set (i := i0 + k) (by rw [hp1]; simp) y).frozen _
      obtain ⟨⟨xA, xc⟩, xr⟩ := x
      obtain ⟨⟨yA, yc⟩, yr⟩ := y
      dsimp only [Rc.cell] at c1 c2 c2' f2' HP HBT
      obtain ⟨xn, hxn⟩ : ∃ n, xr.length = n := ⟨_, rfl⟩
      obtain ⟨yn, hyn⟩ : ∃ n, yr.length = n := ⟨_, rfl⟩
      rw [hxn] at c1 HP HBT
      rw [hyn] at c2 c2' f2' HP HBT
      have i1 : (0 : Int) ≤ (i0 : Int) + (k : Int) := by omega
      have i2 : (i0 : Int) + (k : Int) < (N : Int) := by omega
      have i3 : (0 : Int) ≤ (j0 : Int) + (k : Int) := by omega
      have i4 : (j0 : Int) + (k : Int) < (N : Int) := by omega
      have i5 : IntKind.i64.wrap ((i0 : Int) + (k : Int)) = (i0 : Int) + (k : Int) := IntWalk.i64_in _ (by omega)
      have i6 : IntKind.i64.wrap ((j0 : Int) + (k : Int)) = (j0 : Int) + (k : Int) := IntWalk.i64_in _ (by omega)
      have n1 : ((i0 : Int) + (k : Int)).toNat = i0 + k := by omega
      have n2 : ((j0 : Int) + (k : Int)).toNat = j0 + k := by omega
      clear hR hR' hsw hl1 hl2 e1 e2 hx0 hy0 s1 s2 hp1 hp2 hbt HL hxn hyn
      go_wp2_with fail
      refine wp_region_held_drew (S := (fun _ => True)) (by kernel_rfl) ?_ (fun hHeld => ?_)
      · try dsimp only
        skip
      refine wpAnyT_start [0, 1, 2, 3, 4, 5, 6, 7, 8, 9, 10, 11, 12, 14, 15, 16, 17, 18] ?_
      iterate 18
        refine wpAnyT_cons (v := ?_) rfl (by kernel_rfl) (by kernel_rfl) (by kernel_rfl) (fun _ _ _ h => h) (Or.inl ⟨by rfl, ?_⟩) (by assumption) ?_
        rotate_left
        · intro wq hSw
          try dsimp only at hSw
          go_simp
          try with_reducible rfl
        try simp only [Act.put, List.getElem_toArray, List.getElem_cons_zero, List.getElem_cons_succ, List.setIfInBounds_toArray, List.set_cons_zero, List.set_cons_succ]
      refine wpAnyT_nil ?_
      refine wpAnyH_ready (rs := [13, 19]) (by kernel_rfl) (by simp) ?_
      refine (AllReadyH.cons rfl (fun K hK => ?_) (AllReadyH.cons rfl (fun K hK => ?_) AllReadyH.nil))
      · skip
        go_simp
        skip
        go_wp2_with fail
        refine hK.out _ _ ?_ (fun hHeld => ?_)
        · try dsimp only
          skip
        clear hK K
        try simp only [Act.put, List.getElem_toArray, List.getElem_cons_zero, List.getElem_cons_succ, List.setIfInBounds_toArray, List.set_cons_zero, List.set_cons_succ]
        refine wpAnyH_ready (rs := [19]) (by kernel_rfl) (by simp) ?_
        refine AllReadyH.cons rfl (fun K hK => ?_) AllReadyH.nil
        go_simp
        skip
        go_wp2_with fail
        refine hK.out _ _ ?_ (fun hHeld => ?_)
        · try dsimp only
          skip
        clear hK K
        try simp only [Act.put, List.getElem_toArray, List.getElem_cons_zero, List.getElem_cons_succ, List.setIfInBounds_toArray, List.set_cons_zero, List.set_cons_succ]
        refine wpAnyH_take (i := 20) (v := ?_) rfl (by kernel_rfl) (by kernel_rfl) (by kernel_rfl) (fun _ _ _ h => h) (Or.inl ⟨by rfl, ?_⟩) (by assumption) ?_
        rotate_left
        · intro wq hSw
          try dsimp only at hSw
          go_simp
          try with_reducible rfl
        try simp only [Act.put, List.getElem_toArray, List.getElem_cons_zero, List.getElem_cons_succ, List.setIfInBounds_toArray, List.set_cons_zero, List.set_cons_succ]
        refine wpAnyH_ready (rs := [21]) (by kernel_rfl) (by simp) ?_
        refine AllReadyH.cons rfl (fun K hK => ?_) AllReadyH.nil
        go_simp
        skip
        go_wp2_with fail
        refine hK.out _ _ ?_ (fun hHeld => ?_)
        · try dsimp only
          skip
        clear hK K
        try simp only [Act.put, List.getElem_toArray, List.getElem_cons_zero, List.getElem_cons_succ, List.setIfInBounds_toArray, List.set_cons_zero, List.set_cons_succ]
        refine wpAnyH_take (i := 22) (v := ?_) rfl (by kernel_rfl) (by kernel_rfl) (by kernel_rfl) (fun _ _ _ h => h) (Or.inl ⟨by rfl, ?_⟩) (by assumption) ?_
        rotate_left
        · intro wq hSw
          try dsimp only at hSw
          go_simp
          try with_reducible rfl
        try simp only [Act.put, List.getElem_toArray, List.getElem_cons_zero, List.getElem_cons_succ, List.setIfInBounds_toArray, List.set_cons_zero, List.set_cons_succ]
        refine wpAnyH_ready (rs := [23]) (by kernel_rfl) (by simp) ?_
        refine AllReadyH.cons rfl (fun K hK => ?_) AllReadyH.nil
        go_simp
        skip
        go_wp2_with fail
        refine hK.out _ _ ?_ (fun hHeld => ?_)
        · try dsimp only
          skip
        clear hK K
        try simp only [Act.put, List.getElem_toArray, List.getElem_cons_zero, List.getElem_cons_succ, List.setIfInBounds_toArray, List.set_cons_zero, List.set_cons_succ]
        refine wpAnyH_done (by kernel_rfl) ?_ _
        go_wp2_with fail
        go_roundw
        case rel => exact ⟨k + 1, X1 ++ [_], X2, Y1 ++ [_], Y2, by omega, by go_num, HLN.out, HP.out, HBT.out⟩
        case measure => simp [intOf]; omega
      · skip
        go_simp
        skip
        go_wp2_with fail
        refine hK.out _ _ ?_ (fun hHeld => ?_)
        · try dsimp only
          skip
        clear hK K
        try simp only [Act.put, List.getElem_toArray, List.getElem_cons_zero, List.getElem_cons_succ, List.setIfInBounds_toArray, List.set_cons_zero, List.set_cons_succ]
        refine wpAnyH_ready (rs := [13]) (by kernel_rfl) (by simp) ?_
        refine AllReadyH.cons rfl (fun K hK => ?_) AllReadyH.nil
        go_simp
        skip
        go_wp2_with fail
        refine hK.out _ _ ?_ (fun hHeld => ?_)
        · try dsimp only
          skip
        clear hK K
        try simp only [Act.put, List.getElem_toArray, List.getElem_cons_zero, List.getElem_cons_succ, List.setIfInBounds_toArray, List.set_cons_zero, List.set_cons_succ]
        refine wpAnyH_take (i := 20) (v := ?_) rfl (by kernel_rfl) (by kernel_rfl) (by kernel_rfl) (fun _ _ _ h => h) (Or.inl ⟨by rfl, ?_⟩) (by assumption) ?_
        rotate_left
        · intro wq hSw
          try dsimp only at hSw
          go_simp
          try with_reducible rfl
        try simp only [Act.put, List.getElem_toArray, List.getElem_cons_zero, List.getElem_cons_succ, List.setIfInBounds_toArray, List.set_cons_zero, List.set_cons_succ]
        refine wpAnyH_ready (rs := [21]) (by kernel_rfl) (by simp) ?_
        refine AllReadyH.cons rfl (fun K hK => ?_) AllReadyH.nil
        go_simp
        skip
        go_wp2_with fail
        refine hK.out _ _ ?_ (fun hHeld => ?_)
        · try dsimp only
          skip
        clear hK K
        try simp only [Act.put, List.getElem_toArray, List.getElem_cons_zero, List.getElem_cons_succ, List.setIfInBounds_toArray, List.set_cons_zero, List.set_cons_succ]
        refine wpAnyH_take (i := 22) (v := ?_) rfl (by kernel_rfl) (by kernel_rfl) (by kernel_rfl) (fun _ _ _ h => h) (Or.inl ⟨by rfl, ?_⟩) (by assumption) ?_
        rotate_left
        · intro wq hSw
          try dsimp only at hSw
          go_simp
          try with_reducible rfl
        try simp only [Act.put, List.getElem_toArray, List.getElem_cons_zero, List.getElem_cons_succ, List.setIfInBounds_toArray, List.set_cons_zero, List.set_cons_succ]
        refine wpAnyH_ready (rs := [23]) (by kernel_rfl) (by simp) ?_
        refine AllReadyH.cons rfl (fun K hK => ?_) AllReadyH.nil
        go_simp
        skip
        go_wp2_with fail
        refine hK.out _ _ ?_ (fun hHeld => ?_)
        · try dsimp only
          skip
        clear hK K
        try simp only [Act.put, List.getElem_toArray, List.getElem_cons_zero, List.getElem_cons_succ, List.setIfInBounds_toArray, List.set_cons_zero, List.set_cons_succ]
        refine wpAnyH_done (by kernel_rfl) ?_ _
        go_wp2_with fail
        go_roundw
        case rel => exact ⟨k + 1, X1 ++ [_], X2, Y1 ++ [_], Y2, by omega, by go_num, HLN.out, HP.out, HBT.out⟩
        case measure => simp [intOf]; omega
    · obtain rfl : k = n := by omega
      have hfin : Arr wr b 43 (U ++ (Y ++ (M ++ (X ++ S)))) := by
        obtain ⟨hl1, hl2, e1, e2⟩ := HL.out
        have h1 : X2 = [] := List.eq_nil_of_length_eq_zero (by have := HX.out; rw [e1] at this; simp at this; omega)
        have h2 : Y2 = [] := List.eq_nil_of_length_eq_zero (by have := HY.out; rw [e2] at this; simp at this; omega)
        rw [h1] at e1 hR
        rw [h2] at e2 hR
        rw [List.append_nil] at e1 e2
        rw [e1, e2]
        simpa using hR
      have HFI := Lib.hid hfin
      clear hfin hR HL
      go_wp2_with fail
      refine bodyPost_ret (v := .tuple #[]) (by simp [results, Tryz.results136, go_sem, *]) rfl ⟨rfl, ⟨_, rfl, HFI.out⟩, hbt⟩

end Go.Proofs.YtdhjogmkhbpcgaaGreat

namespace Go.Proofs.YtdhjogmkhbpcgaaGreat
open Go.RowKit

attribute [local go_sem] ByteArray.extract_mk ba_get
attribute [local go_sem ↓] Go.wp_at_zero Go.wp_at_succ

theorem split_at {α : Type} (l : List α) (n : Nat) (h : n ≤ l.length) : ∃ a b, l = a ++ b ∧ a.length = n := ⟨l.take n, l.drop n, (List.take_append_drop n l).symm, by rw [List.length_take]; omega⟩
set_option maxRecDepth 100000 in
set_option maxHeartbeats 4000000 in
theorem rotate_any (F : Value) (b c : Nat) (U A B S : List Rc) (w : World) (hA0 : 0 < A.length) (hB0 : 0 < B.length) (hl : (U ++ (A ++ (B ++ S))).length ≤ 1000000) (hA : Arr w b 43 (U ++ (A ++ (B ++ S)))) :
    Calls Tryz.prog 129 #[.slice (some ⟨b, 0, none⟩) (U ++ (A ++ (B ++ S))).length c, .int .i64 U.length, .int .i64 ((U.length + A.length : Nat) : Int), .int .i64 ((U.length + A.length + B.length : Nat) : Int), F] w
      (RetS b 43 (fun H' => H' = U ++ (B ++ (A ++ S))) w) := by
  obtain ⟨N, hN⟩ : ∃ N, (U ++ (A ++ (B ++ S))).length = N := ⟨_, rfl⟩
  obtain ⟨T, hT⟩ : ∃ T, U ++ (B ++ (A ++ S)) = T := ⟨_, rfl⟩
  obtain ⟨m, hm⟩ : ∃ m, U.length + A.length = m := ⟨_, rfl⟩
  obtain ⟨e, he⟩ : ∃ e, U.length + A.length + B.length = e := ⟨_, rfl⟩
  obtain ⟨a0, ha0⟩ : ∃ a, U.length = a := ⟨_, rfl⟩
  have hNN := hN
  simp only [List.length_append] at hNN
  rw [hN] at hl ⊢
  rw [hT, he, hm, ha0]
  have HX0 : Hid (∃ P X Y Q : List Rc, U ++ (A ++ (B ++ S)) = P ++ (X ++ (Y ++ Q)) ∧ P ++ (Y ++ (X ++ Q)) = T ∧ P.length + X.length = m ∧ X.length = A.length ∧ Y.length = B.length) := ⟨U, A, B, S, rfl, hT, hm, rfl, rfl⟩
  have i1 : IntKind.i64.wrap ((m : Int) - (a0 : Int)) = (A.length : Int) := by rw [IntWalk.i64_in _ (by omega)]; omega
  have i2 : IntKind.i64.wrap ((e : Int) - (m : Int)) = (B.length : Int) := by rw [IntWalk.i64_in _ (by omega)]; omega
  have hmN : m ≤ 1000000 := by omega
  have HSW : Hid (∀ (P X M Y Q : List Rc) (n : Nat) (Z : World), X.length = n → Y.length = n → (P ++ (X ++ (M ++ (Y ++ Q)))).length = N → Arr Z b 43 (P ++ (X ++ (M ++ (Y ++ Q)))) →
      Calls Tryz.prog 136 #[.slice (some ⟨b, 0, none⟩) N c, .int .i64 P.length, .int .i64 ((P.length + X.length + M.length : Nat) : Int), .int .i64 n, F] Z (RetS b 43 (fun H' => H' = P ++ (Y ++ (M ++ (X ++ Q)))) Z)) := fun P X M Y Q n Z h1 h2 h3 h4 => by
    have := swapRange_any F b c n P X M Y Q Z h1 h2 (by rw [h3]; omega) h4
    rw [h3] at this
    exact this
  have HAR : Hid (Arr w b 43 (U ++ (A ++ (B ++ S)))) := hA
  obtain ⟨la, hla⟩ : ∃ n, A.length = n := ⟨_, rfl⟩
  obtain ⟨lb, hlb⟩ : ∃ n, B.length = n := ⟨_, rfl⟩
  rw [hla] at i1 hA0 HX0
  rw [hlb] at i2 hB0 HX0
  have hlN : la + lb ≤ 1000000 := by omega
  obtain ⟨H0, hH0⟩ : ∃ H, U ++ (A ++ (B ++ S)) = H := ⟨_, rfl⟩
  rw [hH0] at HX0 HAR
  have HLN : Hid (H0.length = N) := by show _ = _; rw [← hH0]; exact hN
  clear hA hN hNN hT hm he ha0 hla hlb hH0
  go_enter Tryz.func129, Tryz.ntmps129
  go_wp2_with fail
  go_loopw [10, 11] (fun s t wr => ∃ (i j : Nat) (H : List Rc), 0 < i ∧ 0 < j ∧ i + j ≤ 1000000 ∧ s = .int .i64 i ∧ t = .int .i64 j ∧ Hid (∃ P X Y Q : List Rc, H = P ++ (X ++ (Y ++ Q)) ∧ P ++ (Y ++ (X ++ Q)) = T ∧ P.length + X.length = m ∧ X.length = i ∧ Y.length = j) ∧ Hid (H.length = N) ∧ Arr wr b 43 H ∧ But b w wr) (fun s t _ => (intOf s).toNat + (intOf t).toNat)
  case atStart => exact ⟨la, lb, H0, hA0, hB0, hlN, rfl, rfl, HX0, HLN, HAR.out, But.refl _ _⟩
  case round =>
    obtain ⟨i, j, H, hi, hj, hij, rfl, rfl, HH, HL, hR, hbt⟩ := hrel
    obtain ⟨P, X, Y, Q, hH, hTT, hPX, hX, hY⟩ := HH.out
    have hlen := HL.out
    rw [hH] at hlen hR
    clear HH HL hH
    by_cases hne : i = j
    · subst hne
      have b0 : ((i : Int) != (i : Int)) = false := by simp
      have i3 : IntKind.i64.wrap ((m : Int) - (i : Int)) = (P.length : Int) := by rw [IntWalk.i64_in _ (by omega)]; omega
      have h1 := HSW.out P X [] Y Q i wr hX hY (by simpa using hlen) (by simpa using hR)
      rw [show P.length + X.length + ([] : List Rc).length = m by simpa using hPX] at h1
      have H1 := Lib.hid h1
      have hfin : P ++ (Y ++ ([] ++ (X ++ Q))) = T := by simpa using hTT
      have HF := Lib.hid hfin
      clear h1 hfin hTT hX hY hlen hR
      go_wp2_with fail
      refine H1.out.mono ?_
      rintro en w7 ⟨rfl, ⟨H', rfl, hA7⟩, hb7⟩
      rw [HF.out] at hA7
      go_wp2_with fail
      refine bodyPost_ret (v := .tuple #[]) (by simp [results, Tryz.results129, go_sem, *]) rfl ⟨rfl, ⟨_, rfl, hA7⟩, hbt.trans hb7⟩
    · have b0 : ((i : Int) != (j : Int)) = true := by rw [bne_iff_ne]; omega
      by_cases hgt : j < i
      · have g1 : (j : Int) < (i : Int) := by omega
        obtain ⟨X1, X2, rfl, hX1⟩ := split_at X j (by omega)
        simp only [List.length_append] at hX hPX
        have i3 : IntKind.i64.wrap ((m : Int) - (i : Int)) = (P.length : Int) := by rw [IntWalk.i64_in _ (by omega)]; omega
        have i4 : IntKind.i64.wrap ((i : Int) - (j : Int)) = ((i - j : Nat) : Int) := by rw [IntWalk.i64_in _ (by omega)]; omega
        have h1 := HSW.out P X1 X2 Y Q j wr hX1 hY (by simpa using hlen) (by simpa using hR)
        rw [show P.length + X1.length + X2.length = m by omega] at h1
        have H1 := Lib.hid h1
        have hnx : ∃ P' X' Y' Q' : List Rc, P ++ (Y ++ (X2 ++ (X1 ++ Q))) = P' ++ (X' ++ (Y' ++ Q')) ∧ P' ++ (Y' ++ (X' ++ Q')) = T ∧ P'.length + X'.length = m ∧ X'.length = i - j ∧ Y'.length = j := ⟨P ++ Y, X2, X1, Q, by simp, by rw [← hTT]; simp, by simp; omega, by omega, hX1⟩
        have HNX := Lib.hid hnx
        have HLN2 : Hid ((P ++ (Y ++ (X2 ++ (X1 ++ Q)))).length = N) := by show _ = _; rw [← hlen]; simp; omega
        clear h1 hnx hTT hX hY hlen hR hX1
        go_wp2_with fail
        refine H1.out.mono ?_
        rintro en w7 ⟨rfl, ⟨H', rfl, hA7⟩, hb7⟩
        go_wp2_with fail
        go_roundw
        case rel => exact ⟨i - j, j, _, by omega, hj, by omega, rfl, rfl, HNX, HLN2, hA7, hbt.trans hb7⟩
        case measure => simp [intOf]; omega
      · have g1 : ¬ ((j : Int) < (i : Int)) := by omega
        obtain ⟨Y1, Y2, rfl, hY1⟩ := split_at Y (j - i) (by omega)
        simp only [List.length_append] at hY
        have i3 : IntKind.i64.wrap ((m : Int) - (i : Int)) = (P.length : Int) := by rw [IntWalk.i64_in _ (by omega)]; omega
        have i4 : IntKind.i64.wrap ((j : Int) - (i : Int)) = ((j - i : Nat) : Int) := by rw [IntWalk.i64_in _ (by omega)]; omega
        have i5 : IntKind.i64.wrap ((m : Int) + (j : Int)) = ((m : Int) + (j : Int)) := IntWalk.i64_in _ (by omega)
        obtain ⟨e2, he2⟩ : ∃ n, P.length + X.length + Y1.length = n := ⟨_, rfl⟩
        have i6 : IntKind.i64.wrap ((m : Int) + (j : Int) - (i : Int)) = (e2 : Int) := by rw [IntWalk.i64_in _ (by omega)]; omega
        have hY2 : Y2.length = i := by omega
        have h1 := HSW.out P X Y1 Y2 Q i wr hX hY2 (by simpa using hlen) (by simpa using hR)
        rw [he2] at h1
        have H1 := Lib.hid h1
        have hnx : ∃ P' X' Y' Q' : List Rc, P ++ (Y2 ++ (Y1 ++ (X ++ Q))) = P' ++ (X' ++ (Y' ++ Q')) ∧ P' ++ (Y' ++ (X' ++ Q')) = T ∧ P'.length + X'.length = m ∧ X'.length = i ∧ Y'.length = j - i := ⟨P, Y2, Y1, X ++ Q, rfl, by rw [← hTT]; simp, by omega, hY2, hY1⟩
        have HNX := Lib.hid hnx
        have HLN2 : Hid ((P ++ (Y2 ++ (Y1 ++ (X ++ Q)))).length = N) := by show _ = _; rw [← hlen]; simp; omega
        clear h1 hnx hTT hX hY hlen hR hY1 hY2 he2
        go_wp2_with fail
        refine H1.out.mono ?_
        rintro en w7 ⟨rfl, ⟨H', rfl, hA7⟩, hb7⟩
        go_wp2_with fail
        go_roundw
        case rel => exact ⟨i, j - i, _, hi, by omega, by omega, rfl, rfl, HNX, HLN2, hA7, hbt.trans hb7⟩
        case measure => simp [intOf]; omega

end Go.Proofs.YtdhjogmkhbpcgaaGreat
