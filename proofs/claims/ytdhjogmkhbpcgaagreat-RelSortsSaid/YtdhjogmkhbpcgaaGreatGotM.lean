/- A drawn region some of whose operations change memory and may come up in many orders: one relation on what is listed carries them all. No program in sight. Words for a drawn region of calls and new variables: what each slot holds once its operation has come up. Words for a drawn region of calls that answer memory, and of one new variable. Nothing of the program's text is walked here. -/
import Derived.Deep.RegionHeld3
import Derived.Test.YtdhjogmkhbpcgaaGreatValM
import Derived.Test.YtdhjogmkhbpcgaaGreatExpr5M
namespace Go.Proofs.YtdhjogmkhbpcgaaGreat
open Go

section
variable {P : Program} {ops : Array Oper} {Q : Exit → Act → World → Prop} {md : Region.Mode} {S : World → Prop}

theorem getD_self {L : Array Bool} {i : Nat} (h : L.getD i true = false) : i < L.size := by
  rcases Nat.lt_or_ge i L.size with h1 | h1
  · exact h1
  · simp [Array.getD, Nat.not_lt.2 h1] at h

theorem getD_put_same {L : Array Bool} {i : Nat} (d : Bool) (h : i < L.size) : (L.setIfInBounds i true).getD i d = true := by
  simp [Array.getD, h]
theorem getD_put_other {L : Array Bool} {i j : Nat} (d : Bool) (h : i ≠ j) : (L.setIfInBounds i true).getD j d = L.getD j d := by
  simp only [Array.getD, Array.size_setIfInBounds]
  split
  · exact Array.getElem_setIfInBounds_ne _ h
  · rfl

/-- How many of 'ks' have not come up. -/
def todo (ks : List Nat) (L : Array Bool) : Nat := (ks.filter fun j => !L.getD j true).length

theorem todo_put : ∀ (ks : List Nat) (L : Array Bool) (i : Nat), ks.Nodup → i ∈ ks → L.getD i true = false → todo ks (L.setIfInBounds i true) + 1 = todo ks L
  | [], _, _, _, h, _ => by cases h
  | k :: r, L, i, hn, hm, hi => by
    have hn' := List.nodup_cons.1 hn
    unfold todo
    by_cases hk : i = k
    · subst hk
      have h1 : (L.setIfInBounds i true).getD i true = true := getD_put_same true (getD_self hi)
      have h2 : (r.filter fun j => !(L.setIfInBounds i true).getD j true) = r.filter fun j => !L.getD j true := by
        apply List.filter_congr
        intro j hj
        rw [getD_put_other true (fun e : i = j => hn'.1 (by rw [e]; exact hj))]
      rw [List.filter_cons, List.filter_cons, h1, hi, h2]
      simp
    · have hm' : i ∈ r := by
        rcases List.mem_cons.1 hm with h | h
        · exact absurd h hk
        · exact h
      have ih := todo_put r L i hn'.2 hm' hi
      unfold todo at ih
      rw [List.filter_cons, List.filter_cons, getD_put_other true hk]
      cases L.getD k true
      · simp only [Bool.not_false, if_true, List.length_cons]; omega
      · simp only [Bool.not_true, Bool.false_eq_true, if_false]; omega

/-- The operations 'ks' in whatever order, under the relation I; behind them all, the rest. -/
theorem wpAnyH_stage {ks : List Nat} {f0 : Nat} (hn : ks.Nodup) (I : Array Bool → Act → World → Prop)
    (hstep : ∀ L a w i, I L a w → (∃ j ∈ ks, L.getD j true = false) → i ∈ Region.ready md ops L → i ∈ ks ∧ wpOp P ops Q i (fun a' w' => S w' ∧ I (L.setIfInBounds i true) a' w') a w)
    (hsome : ∀ L a w, I L a w → (∃ j ∈ ks, L.getD j true = false) → Region.ready md ops L ≠ [])
    (hfin : ∀ L a w, I L a w → (∀ j ∈ ks, L.getD j true = true) → wpAnyH P md ops Q S f0 L a w) :
    ∀ (n : Nat) (L : Array Bool) (a : Act) (w : World), todo ks L = n → I L a w → wpAnyH P md ops Q S (n + f0) L a w := by
  intro n
  induction n with
  | zero =>
    intro L a w hz hI
    rw [Nat.zero_add]
    refine hfin L a w hI (fun j hj => ?_)
    unfold todo at hz
    have := List.filter_eq_nil_iff.1 (List.eq_nil_of_length_eq_zero hz) j hj
    simpa using this
  | succ n ih =>
    intro L a w hz hI
    have hex : ∃ j ∈ ks, L.getD j true = false := by
      unfold todo at hz
      cases hf : ks.filter fun j => !L.getD j true with
      | nil => rw [hf] at hz; cases hz
      | cons j r =>
        have : j ∈ ks.filter fun j => !L.getD j true := by rw [hf]; simp
        rw [List.mem_filter] at this
        exact ⟨j, this.1, by simpa using this.2⟩
    rw [show n + 1 + f0 = (n + f0) + 1 by omega]
    refine ⟨fun h => absurd h (hsome L a w hI hex), fun i hi => ?_⟩
    obtain ⟨hm, hw⟩ := hstep L a w i hI hex hi
    refine wpOp_mono (fun a' w' h => ⟨h.1, ih _ a' w' ?_ h.2⟩) hw
    have := todo_put ks L i hn hm (mem_ready.1 hi).1
    omega

/-- One operation, handed over as the walk's steps want it. -/
theorem wpOp_one {i : Nat} {o : Oper} {a : Act} {w : World} {K : Act → World → Prop} (ho : ops[i]? = some o)
    (h : ∀ K' : Act → World → Prop, Shut (∀ a w, K a w → K' a w) → if Region.wanted o (yielded ops a.tmps) = true then Oper.wp P o a w K' Q else K' (a.put o.dst undef) w) : wpOp P ops Q i K a w :=
  wpOp_step ho (fun K' hK => h K' (fun a w hk => hK a w hk))
end

end Go.Proofs.YtdhjogmkhbpcgaaGreat

namespace Go.Proofs.YtdhjogmkhbpcgaaGreat
open Go.RowKit

/-- Operation i has come up. -/
def Up (L : Array Bool) (i : Nat) : Prop := L.getD i true = true
instance (L : Array Bool) (i : Nat) : Decidable (Up L i) := inferInstanceAs (Decidable (_ = _))
def Slot (L : Array Bool) (i : Nat) (u v : Value) : Prop := Up L i → u = v
/-- The slot of a new variable. -/
def Newv (L : Array Bool) (i : Nat) (B : Nat) (w : World) (u : Value) : Prop := Up L i → ∃ g, u = .pointer (some ⟨g, 0, none⟩) ∧ B ≤ g ∧ Blk w g 26 #[.int .i64 0, .int .i64 0, .string ⟨#[]⟩]
def Diff (L : Array Bool) (i j : Nat) (u v : Value) : Prop := Up L i → Up L j → u ≠ v
theorem Up.put {L : Array Bool} {i j : Nat} (h : Up (L.setIfInBounds i true) j) (hne : i ≠ j) : Up L j := by unfold Up at *; rwa [getD_put_other true hne] at h
theorem Up.more {L : Array Bool} {i j : Nat} (h : Up L j) : Up (L.setIfInBounds i true) j := by
  unfold Up at *
  by_cases e : i = j
  · subst e
    by_cases hlt : i < L.size
    · exact getD_put_same true hlt
    · simp [Array.getD, hlt]
  · rw [getD_put_other true e]; exact h
theorem up_of {L : Array Bool} {i : Nat} (h : L.getD i false = true) : Up L i := by
  unfold Up
  by_cases hlt : i < L.size
  · simp [Array.getD, hlt] at h ⊢; exact h
  · simp [Array.getD, hlt] at h
theorem getF {L : Array Bool} {i : Nat} (h : Up L i) (hi : i < L.size) : L.getD i false = true := by
  unfold Up at h
  simp [Array.getD, hi] at h ⊢; exact h
theorem ready_some {md : Region.Mode} {ops : Array Oper} {L : Array Bool} (i : Nat) {o : Oper} (hn : L.getD i true = false) (ho : ops[i]? = some o) (h : ∀ e ∈ o.after, Region.binds md e = true → L.getD e.on false = true) : Region.ready md ops L ≠ [] :=
  List.ne_nil_of_mem (mem_ready.2 ⟨hn, o, ho, h⟩)
theorem not_up {L : Array Bool} {i : Nat} (h : L.getD i true = false) (h2 : Up L i) : False := by unfold Up at h2; rw [h] at h2; cases h2
theorem Slot.put {L : Array Bool} {i j : Nat} {u v : Value} (h : Slot L j u v) (hne : i ≠ j) : Slot (L.setIfInBounds i true) j u v := fun hu => h (hu.put hne)
theorem Slot.new {L : Array Bool} {i : Nat} {v : Value} : Slot L i v v := fun _ => rfl
theorem Newv.put {L : Array Bool} {i j B : Nat} {w w' : World} {u : Value} (h : Newv L j B w u) (hne : i ≠ j) (hb : Below w.heap.size w w') : Newv (L.setIfInBounds i true) j B w' u := fun hu => by
  obtain ⟨g, e, h1, h2⟩ := h (hu.put hne)
  exact ⟨g, e, h1, h2.below hb h2.lt⟩
theorem Newv.new {L : Array Bool} {i B : Nat} {w : World} (hB : B ≤ w.heap.size) : Newv L i B (w.alloc (.cells #[.int .i64 0, .int .i64 0, .string ⟨#[]⟩] 26)) (.pointer (some ⟨w.heap.size, 0, none⟩)) :=
  fun _ => ⟨_, rfl, hB, Blk.new w _ _⟩
theorem Diff.put {L : Array Bool} {i j k : Nat} {u v : Value} (h : Diff L j k u v) (h1 : i ≠ j) (h2 : i ≠ k) : Diff (L.setIfInBounds i true) j k u v := fun a b => h (a.put h1) (b.put h2)
theorem Diff.newL {L : Array Bool} {i k B : Nat} {w : World} {v : Value} (h : Newv L k B w v) (hne : i ≠ k) : Diff (L.setIfInBounds i true) i k (.pointer (some ⟨w.heap.size, 0, none⟩)) v := fun _ b e => by
  obtain ⟨g, rfl, _, h2⟩ := h (b.put hne)
  have := h2.lt
  injection e with e
  injection e with e
  injection e with e
  omega
theorem Diff.newR {L : Array Bool} {i k B : Nat} {w : World} {v : Value} (h : Newv L k B w v) (hne : i ≠ k) : Diff (L.setIfInBounds i true) k i v (.pointer (some ⟨w.heap.size, 0, none⟩)) := fun b _ e => by
  obtain ⟨g, rfl, _, h2⟩ := h (b.put hne)
  have := h2.lt
  injection e with e
  injection e with e
  injection e with e
  omega

end Go.Proofs.YtdhjogmkhbpcgaaGreat

namespace Go.Proofs.YtdhjogmkhbpcgaaGreat
open Go.RowKit

/-- What a call answered: memory in blocks of a kind. -/
def GotX (E : Ex) (u : Value) (Q : Nat → Prop) (w : World) : Prop := ∃ A c, u = .agg #[.string ⟨E.op.toArray⟩, .int .i64 E.v.k, .int .i64 E.v.i, .string ⟨E.v.s.toArray⟩, .string ⟨E.s.toArray⟩, .slice A E.l.length c] ∧ ExR Q E A c w
def GotK (l : List Col) (u : Value) (Q : Nat → Prop) (w : World) : Prop := ∃ A c, u = .slice A l.length c ∧ CQ l A Q w
def GotT (t : Tb) (u : Value) (Q : Nat → Prop) (w : World) : Prop := ∃ p : TbP, u = .agg (t.cells p).toArray ∧ TbQ 1000 t p Q w
def Keep1 (G : (Nat → Prop) → World → Prop) : Prop := ∀ (Q Q' : Nat → Prop) (w w' : World), (∀ b, Q b → Q' b ∧ ∀ o, w'.cell? ⟨b, o, none⟩ = w.cell? ⟨b, o, none⟩) → G Q w → G Q' w'
theorem GotX.keeps (E : Ex) (u : Value) : Keep1 (GotX E u) := fun _ _ _ _ hk ⟨A, c, h1, h2⟩ => ⟨A, c, h1, h2.keep hk⟩
theorem GotK.keeps (l : List Col) (u : Value) : Keep1 (GotK l u) := fun _ _ _ _ hk ⟨A, c, h1, h2⟩ => ⟨A, c, h1, h2.keep hk⟩
theorem GotT.keeps (t : Tb) (u : Value) : Keep1 (GotT t u) := fun _ _ _ _ hk ⟨p, h1, h2⟩ => ⟨p, h1, h2.keep hk⟩
/-- Blocks that are not a new variable's. -/
def Av1 (L : Array Bool) (i B : Nat) (u : Value) (w : World) (b : Nat) : Prop := (B ≤ b ∧ b < w.heap.size) ∧ (Up L i → u ≠ .pointer (some ⟨b, 0, none⟩))
/-- The slot of a new variable. -/
def New1 (L : Array Bool) (i B : Nat) (t : TypeId) (cs : Array Value) (w : World) (u : Value) : Prop := Up L i → ∃ g, u = .pointer (some ⟨g, 0, none⟩) ∧ B ≤ g ∧ Blk w g t cs
theorem New1.put {L : Array Bool} {i j B : Nat} {t : TypeId} {cs : Array Value} {w w' : World} {u : Value} (h : New1 L j B t cs w u) (hne : i ≠ j) (hb : Below w.heap.size w w') : New1 (L.setIfInBounds i true) j B t cs w' u := fun hu => by
  obtain ⟨g, e, h1, h2⟩ := h (hu.put hne)
  exact ⟨g, e, h1, h2.below hb h2.lt⟩
theorem New1.new {L : Array Bool} {i B : Nat} {t : TypeId} {cs : Array Value} {w : World} (hB : B ≤ w.heap.size) : New1 L i B t cs (w.alloc (.cells cs t)) (.pointer (some ⟨w.heap.size, 0, none⟩)) :=
  fun _ => ⟨_, rfl, hB, Blk.new w _ _⟩
section
variable {L : Array Bool} {i a B k : Nat} {t : TypeId} {cs : Array Value} {U : Value} {w w' : World} {G : (Nat → Prop) → World → Prop}
theorem ptr1_ne {g b : Nat} (h : g ≠ b) : (Value.pointer (some ⟨g, 0, none⟩)) ≠ .pointer (some ⟨b, 0, none⟩) := fun e => by
  injection e with e
  injection e with e
  injection e with e
  exact h e
theorem Av1.call (h1 : i ≠ a) (hb : Below w.heap.size w w') (b : Nat) (h : Av1 L a B U w b) : Av1 (L.setIfInBounds i true) a B U w' b := ⟨⟨h.1.1, Nat.lt_of_lt_of_le h.1.2 hb.size⟩, fun hu => h.2 (hu.put h1)⟩
theorem Av1.new (o : Obj) (b : Nat) (h : Av1 L a B U w b) : Av1 (L.setIfInBounds a true) a B (.pointer (some ⟨w.heap.size, 0, none⟩)) (w.alloc o) b :=
  ⟨by have := h.1; simp; omega, fun _ => ptr1_ne (by have := h.1; omega)⟩
theorem Av1.fresh (hA : New1 L a B t cs w U) (h1 : i ≠ a) (hB : B ≤ w.heap.size) (b : Nat) (h : w.heap.size ≤ b ∧ b < w'.heap.size) : Av1 (L.setIfInBounds i true) a B U w' b :=
  ⟨⟨Nat.le_trans hB h.1, h.2⟩, fun hu => by
    obtain ⟨g, rfl, _, hk⟩ := hA (hu.put h1)
    have := hk.lt
    exact ptr1_ne (by omega)⟩
theorem Av1.parts {g b : Nat} (z1 : Up L a) (h : Av1 L a B (.pointer (some ⟨g, 0, none⟩)) w b) : (B ≤ b ∧ b < w.heap.size) ∧ b ≠ g := ⟨h.1, fun e => h.2 z1 (by rw [e])⟩
def Had1 (L : Array Bool) (k : Nat) (G : (Nat → Prop) → World → Prop) (Q : Nat → Prop) (w : World) : Prop := Up L k → G Q w
theorem Had1.put {U' : Value} (h : Had1 L k G (Av1 L a B U w) w) (hG : Keep1 G) (hne : i ≠ k) (hb : Below w.heap.size w w') (hav : ∀ b, Av1 L a B U w b → Av1 (L.setIfInBounds i true) a B U' w' b) : Had1 (L.setIfInBounds i true) k G (Av1 (L.setIfInBounds i true) a B U' w') w' :=
  fun hu => hG _ _ _ _ (fun b hq => ⟨hav b hq, fun o => hb.cell (p := ⟨b, o, none⟩) hq.1.2⟩) (h (hu.put hne))
end
theorem GotX.fresh {E : Ex} {A : Option Addr} {c : Nat} {w w' : World} {Q : Nat → Prop} (h : ExR (fun b => w.heap.size ≤ b ∧ b < w'.heap.size) E A c w') (hq : ∀ b, w.heap.size ≤ b ∧ b < w'.heap.size → Q b) :
    GotX E (.agg #[.string ⟨E.op.toArray⟩, .int .i64 E.v.k, .int .i64 E.v.i, .string ⟨E.v.s.toArray⟩, .string ⟨E.s.toArray⟩, .slice A E.l.length c]) Q w' := ⟨A, c, rfl, h.keep fun b hb => ⟨hq b hb, fun _ => rfl⟩⟩
theorem GotK.fresh {l : List Col} {A : Option Addr} {c : Nat} {w w' : World} {Q : Nat → Prop} (h : ColF w' w.heap.size w'.heap.size A l) (hq : ∀ b, w.heap.size ≤ b ∧ b < w'.heap.size → Q b) : GotK l (.slice A l.length c) Q w' :=
  ⟨A, c, rfl, CQ.ofF h (fun b h1 h2 => hq b ⟨h1, h2⟩)⟩

end Go.Proofs.YtdhjogmkhbpcgaaGreat
