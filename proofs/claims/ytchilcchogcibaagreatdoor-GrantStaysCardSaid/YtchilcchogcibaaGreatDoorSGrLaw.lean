/- Words for a drawn region of calls that answer memory, and of one new variable; A drawn region in which calls stand in a chain, and one new variable may be made ahead of, among, or behind them; Statements and grants in memory; Grants as sets that rise. -/
import Derived.Test.YtchilcchogcibaaGreatDoorSClones
import Derived.Test.YtchilcchogcibaaGreatDoorSOpenEx
namespace Go.Proofs.YtchilcchogcibaaGreatDoor
open Go.RowKit
/-- What a call answered: memory in blocks of a kind. -/
def GotX (E : Ex) (u : Value) (Q : Nat → Prop) (w : World) : Prop := ∃ A c, u = .agg #[.string ⟨E.op.toArray⟩, .int .i64 E.v.k, .int .i64 E.v.i, .string ⟨E.v.s.toArray⟩, .string ⟨E.s.toArray⟩, .slice A E.l.length c] ∧ ExR Q E A c w
def GotK (l : List Col) (u : Value) (Q : Nat → Prop) (w : World) : Prop := ∃ A c, u = .slice A l.length c ∧ CQ l A Q w
def GotT (t : Tb) (u : Value) (Q : Nat → Prop) (w : World) : Prop := ∃ p : TbP, u = .agg (t.cells p).toArray ∧ TbQ 1000 t p Q w
def Keep1 (G : (Nat → Prop) → World → Prop) : Prop := ∀ (Q Q' : Nat → Prop) (w w' : World), (∀ b, Q b → Q' b ∧ ∀ o, w'.cell? ⟨b, o, none⟩ = w.cell? ⟨b, o, none⟩) → G Q w → G Q' w'
theorem GotX.keeps (E : Ex) (u : Value) : Keep1 (GotX E u) := fun _ _ _ _ hk ⟨A, c, h1, h2⟩ => ⟨A, c, h1, h2.keep hk⟩
theorem GotK.keeps (l : List Col) (u : Value) : Keep1 (GotK l u) := fun _ _ _ _ hk ⟨A, c, h1, h2⟩ => ⟨A, c, h1, h2.keep hk⟩
theorem GotT.keeps (t : Tb) (u : Value) : Keep1 (GotT t u) := fun _ _ _ _ hk ⟨p, h1, h2⟩ => ⟨p, h1, h2.keep hk⟩
/-- Blocks that are not a new variable's. -/
def Av1 (L : Array Bool) (i B : Nat) (u : Value) (w : World) (b : Nat) : Prop := (B ≤ b ∧ b < w.heap.size) ∧ (Up L i → u ≠ .pointer (some ⟨b, 0, none⟩))
/-- The slot of a new variable. -/
def New1 (L : Array Bool) (i B : Nat) (t : TypeId) (cs : Array Value) (w : World) (u : Value) : Prop := Up L i → ∃ g, u = .pointer (some ⟨g, 0, none⟩) ∧ B ≤ g ∧ Blk w g t cs
theorem New1.put {L : Array Bool} {i j B : Nat} {t : TypeId} {cs : Array Value} {w w' : World} {u : Value} (h : New1 L j B t cs w u) (hne : i ≠ j) (hb : Below w.heap.size w w') : New1 (L.setIfInBounds i true) j B t cs w' u := fun hu => by
 obtain ⟨g, e, h1, h2⟩ := h (hu.put hne)
 exact ⟨g, e, h1, h2.below hb h2.lt⟩
theorem New1.new {L : Array Bool} {i B : Nat} {t : TypeId} {cs : Array Value} {w : World} (hB : B ≤ w.heap.size) : New1 L i B t cs (w.alloc (.cells cs t)) (.pointer (some ⟨w.heap.size, 0, none⟩)) :=
 fun _ => ⟨_, rfl, hB, Blk.new w _ _⟩
section
variable {L : Array Bool} {i a B k : Nat} {t : TypeId} {cs : Array Value} {U : Value} {w w' : World} {G : (Nat → Prop) → World → Prop}
theorem ptr1_ne {g b : Nat} (h : g ≠ b) : (Value.pointer (some ⟨g, 0, none⟩)) ≠ .pointer (some ⟨b, 0, none⟩) := fun e => by
 injection e with e
 injection e with e
 injection e with e
 exact h e
theorem Av1.call (h1 : i ≠ a) (hb : Below w.heap.size w w') (b : Nat) (h : Av1 L a B U w b) : Av1 (L.setIfInBounds i true) a B U w' b := ⟨⟨h.1.1, Nat.lt_of_lt_of_le h.1.2 hb.size⟩, fun hu => h.2 (hu.put h1)⟩
theorem Av1.new (o : Obj) (b : Nat) (h : Av1 L a B U w b) : Av1 (L.setIfInBounds a true) a B (.pointer (some ⟨w.heap.size, 0, none⟩)) (w.alloc o) b :=
 ⟨by have := h.1; simp; omega, fun _ => ptr1_ne (by have := h.1; omega)⟩
theorem Av1.fresh (hA : New1 L a B t cs w U) (h1 : i ≠ a) (hB : B ≤ w.heap.size) (b : Nat) (h : w.heap.size ≤ b ∧ b < w'.heap.size) : Av1 (L.setIfInBounds i true) a B U w' b :=
 ⟨⟨Nat.le_trans hB h.1, h.2⟩, fun hu => by
  obtain ⟨g, rfl, _, hk⟩ := hA (hu.put h1)
  have := hk.lt
  exact ptr1_ne (by omega)⟩
theorem Av1.parts {g b : Nat} (z1 : Up L a) (h : Av1 L a B (.pointer (some ⟨g, 0, none⟩)) w b) : (B ≤ b ∧ b < w.heap.size) ∧ b ≠ g := ⟨h.1, fun e => h.2 z1 (by rw [e])⟩
def Had1 (L : Array Bool) (k : Nat) (G : (Nat → Prop) → World → Prop) (Q : Nat → Prop) (w : World) : Prop := Up L k → G Q w
theorem Had1.put {U' : Value} (h : Had1 L k G (Av1 L a B U w) w) (hG : Keep1 G) (hne : i ≠ k) (hb : Below w.heap.size w w') (hav : ∀ b, Av1 L a B U w b → Av1 (L.setIfInBounds i true) a B U' w' b) : Had1 (L.setIfInBounds i true) k G (Av1 (L.setIfInBounds i true) a B U' w') w' :=
 fun hu => hG _ _ _ _ (fun b hq => ⟨hav b hq, fun o => hb.cell (p := ⟨b, o, none⟩) hq.1.2⟩) (h (hu.put hne))
end
theorem GotX.fresh {E : Ex} {A : Option Addr} {c : Nat} {w w' : World} {Q : Nat → Prop} (h : ExR (fun b => w.heap.size ≤ b ∧ b < w'.heap.size) E A c w') (hq : ∀ b, w.heap.size ≤ b ∧ b < w'.heap.size → Q b) :
  GotX E (.agg #[.string ⟨E.op.toArray⟩, .int .i64 E.v.k, .int .i64 E.v.i, .string ⟨E.v.s.toArray⟩, .string ⟨E.s.toArray⟩, .slice A E.l.length c]) Q w' := ⟨A, c, rfl, h.keep fun b hb => ⟨hq b hb, fun _ => rfl⟩⟩
theorem GotK.fresh {l : List Col} {A : Option Addr} {c : Nat} {w w' : World} {Q : Nat → Prop} (h : ColF w' w.heap.size w'.heap.size A l) (hq : ∀ b, w.heap.size ≤ b ∧ b < w'.heap.size → Q b) : GotK l (.slice A l.length c) Q w' :=
 ⟨A, c, rfl, CQ.ofF h (fun b h1 h2 => hq b ⟨h1, h2⟩)⟩
end Go.Proofs.YtchilcchogcibaaGreatDoor
namespace Go.Proofs.YtchilcchogcibaaGreatDoor
open Go Go.RowKit
section
variable {P : Program} {ops : Array Oper} {Q : Exit → Act → World → Prop} {md : Region.Mode} {S : World → Prop}
/-- What is listed: the first j of a chain, and the new variable's operation. -/
def uptoC (base : Array Bool) (ks : List Nat) (z j : Nat) (d : Bool) : Array Bool :=
 if d then ((ks.take j).foldl (fun L i => L.setIfInBounds i true) base).setIfInBounds z true else (ks.take j).foldl (fun L i => L.setIfInBounds i true) base
theorem chain_new {n z f0 : Nat} {kk : Nat → Nat} {Ls : Nat → Bool → Array Bool} (I : Nat → Option Nat → Act → World → Prop)
  (hL : ∀ j, j < n → ∀ d, (Ls j d).setIfInBounds (kk j) true = Ls (j + 1) d) (hZ : ∀ j, j < n + 1 → (Ls j false).setIfInBounds z true = Ls j true)
  (hr1 : ∀ j, j < n → Region.ready md ops (Ls j true) = [kk j]) (hr2 : ∀ j, j < n → (Region.ready md ops (Ls j false)).all (fun i => i == kk j || i == z) = true ∧ (Region.ready md ops (Ls j false)).isEmpty = false) (hr3 : Region.ready md ops (Ls n false) = [z])
  (hcall : ∀ j d a w, j < n → I j d a w → wpOp P ops Q (kk j) (fun a' w' => S w' ∧ I (j + 1) d a' w') a w)
  (hnew : ∀ j a w, j < n + 1 → I j none a w → wpOp P ops Q z (fun a' w' => S w' ∧ ∃ g, I j (some g) a' w') a w)
  (hfin : ∀ g a w, I n (some g) a w → wpAnyH P md ops Q S f0 (Ls n true) a w) :
  ∀ (m j : Nat) (d : Option Nat) (a : Act) (w : World), m = (n - j) + (if d.isSome then 0 else 1) → j ≤ n → I j d a w → wpAnyH P md ops Q S (m + f0) (Ls j d.isSome) a w := by
 intro m
 induction m with
 | zero =>
  intro j d a w hm hj hI
  cases d with
  | none => simp at hm
  | some g =>
   simp at hm
   obtain rfl : j = n := by omega
   rw [Nat.zero_add]
   exact hfin g a w hI
 | succ m ih =>
  intro j d a w hm hj hI
  rw [show m + 1 + f0 = (m + f0) + 1 by omega]
  have call : j < n → wpOp P ops Q (kk j) (fun a' w' => S w' ∧ wpAnyH P md ops Q S (m + f0) ((Ls j d.isSome).setIfInBounds (kk j) true) a' w') a w := fun hlt => by
   refine wpOp_mono (fun a' w' h => ⟨h.1, ?_⟩) (hcall j d a w hlt hI)
   rw [hL j hlt]
   refine ih (j + 1) d a' w' ?_ (by omega) h.2
   cases d <;> simp at hm ⊢ <;> omega
  cases d with
  | some g =>
   have hlt : j < n := by simp at hm; omega
   refine ⟨fun h => ?_, fun i hi => ?_⟩
   ·rw [show (some g).isSome = true from rfl, hr1 j hlt] at h; cases h
   ·rw [show (some g).isSome = true from rfl, hr1 j hlt] at hi
    obtain rfl := List.mem_singleton.1 hi
    exact call hlt
  | none =>
   have new : wpOp P ops Q z (fun a' w' => S w' ∧ wpAnyH P md ops Q S (m + f0) ((Ls j (none : Option Nat).isSome).setIfInBounds z true) a' w') a w := by
    refine wpOp_mono (fun a' w' h => ⟨h.1, ?_⟩) (hnew j a w (by omega) hI)
    obtain ⟨_, g, hg⟩ := h
    rw [show (none : Option Nat).isSome = false from rfl, hZ j (by omega)]
    exact ih j (some g) a' w' (by simp at hm ⊢; omega) hj hg
   by_cases hlt : j < n
   ·obtain ⟨h1, h2⟩ := hr2 j hlt
    refine ⟨fun h => ?_, fun i hi => ?_⟩
    ·rw [show (none : Option Nat).isSome = false from rfl] at h
     rw [h] at h2; cases h2
    ·have := List.all_eq_true.1 h1 i hi
     simp only [Bool.or_eq_true, beq_iff_eq] at this
     rcases this with rfl | rfl
     ·exact call hlt
     ·exact new
   ·obtain rfl : j = n := by omega
    refine ⟨fun h => ?_, fun i hi => ?_⟩
    ·rw [show (none : Option Nat).isSome = false from rfl, hr3] at h; cases h
    ·rw [show (none : Option Nat).isSome = false from rfl, hr3] at hi
     obtain rfl := List.mem_singleton.1 hi
     exact new
/-- One more slot is known. -/
def updV (V : Nat → Value) (j : Nat) (u : Value) : Nat → Value := fun i => if i = j then u else V i
theorem updV_other (V : Nat → Value) {i j : Nat} (u : Value) (h : i ≠ j) : updV V j u i = V i := if_neg h
def ptrV : Option Nat → Value
 | some g => .pointer (some ⟨g, 0, none⟩)
 | none => undef
/-- What holds when j of the chain's calls have come up: what each answered, in blocks that are not the new variable's. -/
def ChainI (F : (Nat → Value) → Value → Array Value) (w0 : World) (t : TypeId) (zs : Array Value) (A : Nat → (Nat → Value) → (Nat → Prop) → World → Prop) (S : World → Prop) (j : Nat) (d : Option Nat) (a : Act) (w : World) : Prop :=
 ∃ V : Nat → Value, a = ⟨F V (ptrV d), []⟩ ∧ Below w0.heap.size w0 w ∧ S w ∧ (∀ i, i < j → A i V (fun b => (w0.heap.size ≤ b ∧ b < w.heap.size) ∧ d ≠ some b) w) ∧ ∀ g, d = some g → w0.heap.size ≤ g ∧ Blk w g t zs
theorem chain_go {n z f0 sz : Nat} {kk sl : Nat → Nat} {Ls : Nat → Bool → Array Bool} {F : (Nat → Value) → Value → Array Value} {w0 : World} {t : TypeId} {zs : Array Value} {A : Nat → (Nat → Value) → (Nat → Prop) → World → Prop}
  (hL : ∀ j, j < n → ∀ d, (Ls j d).setIfInBounds (kk j) true = Ls (j + 1) d) (hZ : ∀ j, j < n + 1 → (Ls j false).setIfInBounds z true = Ls j true)
  (hr1 : ∀ j, j < n → Region.ready md ops (Ls j true) = [kk j]) (hr2 : ∀ j, j < n → (Region.ready md ops (Ls j false)).all (fun i => i == kk j || i == z) = true ∧ (Region.ready md ops (Ls j false)).isEmpty = false) (hr3 : Region.ready md ops (Ls n false) = [z])
  (hput : ∀ j, j < n → ∀ V x u, (Act.mk (F V x) []).put (some (sl j)) u = ⟨F (updV V j u) x, []⟩) (hputz : ∀ V u, (Act.mk (F V undef) []).put (some sz) u = ⟨F V u, []⟩)
  (hA : ∀ (j : Nat) (V : Nat → Value) (Q Q' : Nat → Prop) (w w' : World), (∀ b, Q b → Q' b ∧ ∀ o, w'.cell? ⟨b, o, none⟩ = w.cell? ⟨b, o, none⟩) → A j V Q w → A j V Q' w') (hE : ∀ (j k : Nat) (V : Nat → Value) (u : Value) (Q : Nat → Prop) (w : World), j < k → A j V Q w → A j (updV V k u) Q w)
  (hstep : ∀ j, j < n → ∀ (V : Nat → Value) (x : Value) (Qd : Nat → Prop) (w : World), Below w0.heap.size w0 w → S w → (∀ i, i < j → A i V Qd w) →
   wpOp P ops Q (kk j) (fun a' w' => S w' ∧ ∃ u, a' = (Act.mk (F V x) []).put (some (sl j)) u ∧ A j (updV V j u) (fun b => w.heap.size ≤ b ∧ b < w'.heap.size) w' ∧ Below w.heap.size w w') ⟨F V x, []⟩ w)
  (hnew : ∀ (V : Nat → Value) (w : World), Below w0.heap.size w0 w → S w →
   wpOp P ops Q z (fun a' w' => S w' ∧ a' = (Act.mk (F V undef) []).put (some sz) (.pointer (some ⟨w.heap.size, 0, none⟩)) ∧ w' = w.alloc (.cells zs t)) ⟨F V undef, []⟩ w)
  (hfin : ∀ (g : Nat) (V : Nat → Value) (w : World), Below w0.heap.size w0 w → S w → w0.heap.size ≤ g → Blk w g t zs → (∀ i, i < n → A i V (fun b => (w0.heap.size ≤ b ∧ b < w.heap.size) ∧ b ≠ g) w) → wpAnyH P md ops Q S f0 (Ls n true) ⟨F V (.pointer (some ⟨g, 0, none⟩)), []⟩ w)
  (w : World) (hw : Below w0.heap.size w0 w) (hS : S w) (a : Act) (ha : a = ⟨F (fun _ => undef) undef, []⟩) (Ln : Array Bool) (hLn : Ln = Ls 0 false) (fuel : Nat) (hf : fuel = n + 1 + f0) : wpAnyH P md ops Q S fuel Ln a w := by
 subst ha hLn hf
 refine chain_new (n := n) (z := z) (f0 := f0) (kk := kk) (Ls := Ls) (ChainI F w0 t zs A S) hL hZ hr1 hr2 hr3 ?_ ?_ ?_ (n + 1) 0 none _ w (by simp) (Nat.zero_le _) ⟨fun _ => undef, rfl, hw, hS, fun i h => absurd h (Nat.not_lt_zero _), fun g h => by cases h⟩
 ·rintro j d a w hj ⟨V, rfl, hb, hs, hans, hg⟩
  refine wpOp_mono ?_ (hstep j hj V (ptrV d) _ w hb hs hans)
  rintro a' w' ⟨hs', u, rfl, hu, hb'⟩
  have hz := hb'.size
  refine ⟨hs', updV V j u, hput j hj V _ u, hb.trans (hb'.mono hb.size), hs', fun i hi => ?_, fun g e => ?_⟩
  ·rcases Nat.lt_or_ge i j with h | h
   ·refine hA _ _ _ _ _ _ (fun b hb2 => ⟨⟨⟨hb2.1.1, Nat.lt_of_lt_of_le hb2.1.2 hz⟩, hb2.2⟩, fun o => hb'.cell (p := ⟨b, o, none⟩) hb2.1.2⟩) (hE i j V u _ w h (hans i h))
   ·obtain rfl : i = j := by omega
    refine hA _ _ _ _ _ _ (fun b hb2 => ⟨⟨⟨Nat.le_trans hb.size hb2.1, hb2.2⟩, fun e => ?_⟩, fun o => rfl⟩) hu
    have := (hg b e).2.lt
    omega
  ·obtain ⟨h1, h2⟩ := hg g e
   exact ⟨h1, h2.below hb' h2.lt⟩
 ·rintro j a w hj ⟨V, rfl, hb, hs, hans, _⟩
  refine wpOp_mono ?_ (hnew V w hb hs)
  rintro a' w' ⟨hs', rfl, rfl⟩
  have hbn : Below w.heap.size w (w.alloc (.cells zs t)) := (Below.refl _ _).alloc (Nat.le_refl _) _
  refine ⟨hs', w.heap.size, V, hputz V _, hb.trans (hbn.mono hb.size), hs', fun i hi => ?_, fun g e => ?_⟩
  ·refine hA _ _ _ _ _ _ (fun b hb2 => ⟨⟨⟨hb2.1.1, Nat.lt_of_lt_of_le hb2.1.2 hbn.size⟩, fun e => ?_⟩, fun o => hbn.cell (p := ⟨b, o, none⟩) hb2.1.2⟩) (hans i hi)
   injection e with e
   have := hb2.1.2
   omega
  ·injection e with e
   subst e
   exact ⟨hb.size, Blk.new w _ _⟩
 ·rintro g a w ⟨V, rfl, hb, hs, hans, hg⟩
  obtain ⟨h1, h2⟩ := hg g rfl
  exact hfin g V w hb hs h1 h2 fun i hi => hA _ _ _ _ _ _ (fun b hb2 => ⟨⟨hb2.1, fun e => hb2.2 (by rw [e])⟩, fun o => rfl⟩) (hans i hi)
end
end Go.Proofs.YtchilcchogcibaaGreatDoor
namespace Go.Proofs.YtchilcchogcibaaGreatDoor
open Go.RowKit
/-- A column that refers to a table. -/
structure Rf where
 c : List UInt8
 t : List UInt8
/-- What an UPDATE gives a column. -/
structure Se where
 n : List UInt8
 e : Ex
/-- A statement. -/
structure St where
 op : List UInt8
 tb : List UInt8
 ot : List UInt8
 names : List (List UInt8)
 cols : List Col
 key : List UInt8
 uniq : List (List UInt8)
 refs : List Rf
 chk : Ex
 row : List V
 sets : List Se
 whr : Ex
 role : List UInt8
structure StP where
 names : Sl
 cols : Sl
 uniq : Sl
 refs : Sl
 chk : Sl
 row : Sl
 sets : Sl
 whr : Sl
/-- A grant. -/
structure Gr where
 r : List UInt8
 t : List UInt8
 w : Bool
def St.cells (s : St) (p : StP) : List Value :=
 [.string ⟨s.op.toArray⟩, .string ⟨s.tb.toArray⟩, .string ⟨s.ot.toArray⟩, .slice p.names.a s.names.length p.names.c, .slice p.cols.a s.cols.length p.cols.c, .string ⟨s.key.toArray⟩, .slice p.uniq.a s.uniq.length p.uniq.c, .slice p.refs.a s.refs.length p.refs.c,
  .string ⟨s.chk.op.toArray⟩, .int .i64 s.chk.v.k, .int .i64 s.chk.v.i, .string ⟨s.chk.v.s.toArray⟩, .string ⟨s.chk.s.toArray⟩, .slice p.chk.a s.chk.l.length p.chk.c, .slice p.row.a s.row.length p.row.c, .slice p.sets.a s.sets.length p.sets.c,
  .string ⟨s.whr.op.toArray⟩, .int .i64 s.whr.v.k, .int .i64 s.whr.v.i, .string ⟨s.whr.v.s.toArray⟩, .string ⟨s.whr.s.toArray⟩, .slice p.whr.a s.whr.l.length p.whr.c, .string ⟨s.role.toArray⟩]
/-- Slices of texts, of references, of what is set, of grants, whose block is of a kind. -/
def SQ (l : List (List UInt8)) (A : Option Addr) (Q : Nat → Prop) (w : World) : Prop := 0 < l.length → ∃ b off, A = some ⟨b, off, none⟩ ∧ Q b ∧ ∀ i x, l[i]? = some x → w.cell? ⟨b, off + i, none⟩ = some (.string ⟨x.toArray⟩)
def XQ (l : List Rf) (A : Option Addr) (Q : Nat → Prop) (w : World) : Prop := 0 < l.length → ∃ b off, A = some ⟨b, off, none⟩ ∧ Q b ∧ ∀ i x, l[i]? = some x → w.cell? ⟨b, off + i * 2, none⟩ = some (.string ⟨x.c.toArray⟩) ∧ w.cell? ⟨b, off + i * 2 + 1, none⟩ = some (.string ⟨x.t.toArray⟩)
def ZQ (K n : Nat) (l : List Se) (A : Option Addr) (Q : Nat → Prop) (w : World) : Prop := 0 < l.length → ∃ b off, A = some ⟨b, off, none⟩ ∧ Q b ∧ ∀ i x, l[i]? = some x → w.cell? ⟨b, off + i * 7, none⟩ = some (.string ⟨x.n.toArray⟩) ∧
 ∃ A' c', x.e.fit K ∧ x.e.l.length ≤ c' ∧ c' ≤ maxLen ∧ Six w b (off + i * 7 + 1) x.e A' c' ∧ ExQ K n w Q A' x.e.l
def GQ (l : List Gr) (A : Option Addr) (Q : Nat → Prop) (w : World) : Prop := 0 < l.length → ∃ b off, A = some ⟨b, off, none⟩ ∧ Q b ∧ ∀ i x, l[i]? = some x → w.cell? ⟨b, off + i * 3, none⟩ = some (.string ⟨x.r.toArray⟩) ∧ w.cell? ⟨b, off + i * 3 + 1, none⟩ = some (.string ⟨x.t.toArray⟩) ∧ w.cell? ⟨b, off + i * 3 + 2, none⟩ = some (.bool x.w)
section
variable {A : Option Addr} {Q Q' : Nat → Prop} {w w' : World}
theorem SQ.keep {l : List (List UInt8)} (h : SQ l A Q w) (hk : ∀ b, Q b → Q' b ∧ ∀ o, w'.cell? ⟨b, o, none⟩ = w.cell? ⟨b, o, none⟩) : SQ l A Q' w' := fun hl => by
 obtain ⟨b, off, rfl, h1, h2⟩ := h hl
 exact ⟨b, off, rfl, (hk b h1).1, fun i x hx => ((hk b h1).2 _).trans (h2 i x hx)⟩
theorem XQ.keep {l : List Rf} (h : XQ l A Q w) (hk : ∀ b, Q b → Q' b ∧ ∀ o, w'.cell? ⟨b, o, none⟩ = w.cell? ⟨b, o, none⟩) : XQ l A Q' w' := fun hl => by
 obtain ⟨b, off, rfl, h1, h2⟩ := h hl
 exact ⟨b, off, rfl, (hk b h1).1, fun i x hx => ⟨((hk b h1).2 _).trans (h2 i x hx).1, ((hk b h1).2 _).trans (h2 i x hx).2⟩⟩
theorem ZQ.keep {K n : Nat} {l : List Se} (h : ZQ K n l A Q w) (hk : ∀ b, Q b → Q' b ∧ ∀ o, w'.cell? ⟨b, o, none⟩ = w.cell? ⟨b, o, none⟩) : ZQ K n l A Q' w' := fun hl => by
 obtain ⟨b, off, rfl, h1, h2⟩ := h hl
 refine ⟨b, off, rfl, (hk b h1).1, fun i x hx => ?_⟩
 obtain ⟨c0, A', c', f, g1, g2, g3, g4⟩ := h2 i x hx
 exact ⟨((hk b h1).2 _).trans c0, A', c', f, g1, g2, g3.keep (hk b h1).2, g4.keep hk n⟩
theorem ZQ.ups {K n m : Nat} {l : List Se} (h : ZQ K n l A Q w) (hm : n ≤ m) : ZQ K m l A Q w := fun hl => by
 obtain ⟨b, off, rfl, h1, h2⟩ := h hl
 refine ⟨b, off, rfl, h1, fun i x hx => ?_⟩
 obtain ⟨c0, A', c', f, g1, g2, g3, g4⟩ := h2 i x hx
 exact ⟨c0, A', c', f, g1, g2, g3, g4.ups m hm⟩
theorem GQ.keep {l : List Gr} (h : GQ l A Q w) (hk : ∀ b, Q b → Q' b ∧ ∀ o, w'.cell? ⟨b, o, none⟩ = w.cell? ⟨b, o, none⟩) : GQ l A Q' w' := fun hl => by
 obtain ⟨b, off, rfl, h1, h2⟩ := h hl
 exact ⟨b, off, rfl, (hk b h1).1, fun i x hx => ⟨((hk b h1).2 _).trans (h2 i x hx).1, ((hk b h1).2 _).trans (h2 i x hx).2.1, ((hk b h1).2 _).trans (h2 i x hx).2.2⟩⟩
theorem SQ.nil : SQ [] A Q w := fun h => absurd h (by simp)
theorem XQ.nil : XQ [] A Q w := fun h => absurd h (by simp)
theorem ZQ.nil {K n : Nat} : ZQ K n [] A Q w := fun h => absurd h (by simp)
theorem GQ.nil : GQ [] A Q w := fun h => absurd h (by simp)
theorem SQ.at_ {l : List (List UInt8)} (h : SQ l A Q w) {j : Nat} (hj : j < l.length) : ∃ b off x, A = some ⟨b, off, none⟩ ∧ Q b ∧ l[j]? = some x ∧ w.cell? ⟨b, off + j, none⟩ = some (.string ⟨x.toArray⟩) := by
 obtain ⟨b, off, rfl, hb, hr⟩ := h (by omega)
 exact ⟨b, off, l[j], rfl, hb, List.getElem?_eq_getElem hj, hr j _ (List.getElem?_eq_getElem hj)⟩
theorem XQ.at_ {l : List Rf} (h : XQ l A Q w) {j : Nat} (hj : j < l.length) : ∃ b off x, A = some ⟨b, off, none⟩ ∧ Q b ∧ l[j]? = some x ∧ w.cell? ⟨b, off + j * 2, none⟩ = some (.string ⟨x.c.toArray⟩) ∧ w.cell? ⟨b, off + j * 2 + 1, none⟩ = some (.string ⟨x.t.toArray⟩) := by
 obtain ⟨b, off, rfl, hb, hr⟩ := h (by omega)
 exact ⟨b, off, l[j], rfl, hb, List.getElem?_eq_getElem hj, hr j _ (List.getElem?_eq_getElem hj)⟩
theorem ZQ.at_ {K n : Nat} {l : List Se} (h : ZQ K n l A Q w) {j : Nat} (hj : j < l.length) : ∃ b off x A' c', A = some ⟨b, off, none⟩ ∧ Q b ∧ l[j]? = some x ∧ w.cell? ⟨b, off + j * 7, none⟩ = some (.string ⟨x.n.toArray⟩) ∧
  x.e.fit K ∧ x.e.l.length ≤ c' ∧ c' ≤ maxLen ∧ Six w b (off + j * 7 + 1) x.e A' c' ∧ ExQ K n w Q A' x.e.l := by
 obtain ⟨b, off, rfl, hb, hr⟩ := h (by omega)
 obtain ⟨c0, A', c', f, g1, g2, g3, g4⟩ := hr j _ (List.getElem?_eq_getElem hj)
 exact ⟨b, off, l[j], A', c', rfl, hb, List.getElem?_eq_getElem hj, c0, f, g1, g2, g3, g4⟩
theorem GQ.at_ {l : List Gr} (h : GQ l A Q w) {j : Nat} (hj : j < l.length) : ∃ b off x, A = some ⟨b, off, none⟩ ∧ Q b ∧ l[j]? = some x ∧ w.cell? ⟨b, off + j * 3, none⟩ = some (.string ⟨x.r.toArray⟩) ∧ w.cell? ⟨b, off + j * 3 + 1, none⟩ = some (.string ⟨x.t.toArray⟩) ∧ w.cell? ⟨b, off + j * 3 + 2, none⟩ = some (.bool x.w) := by
 obtain ⟨b, off, rfl, hb, hr⟩ := h (by omega)
 exact ⟨b, off, l[j], rfl, hb, List.getElem?_eq_getElem hj, hr j _ (List.getElem?_eq_getElem hj)⟩
end
/-- A statement's memory, in blocks of a kind; texts no longer than K in its expressions. -/
def StQ (K : Nat) (s : St) (p : StP) (Q : Nat → Prop) (w : World) : Prop :=
 SQ s.names p.names.a Q w ∧ CQ s.cols p.cols.a Q w ∧ SQ s.uniq p.uniq.a Q w ∧ XQ s.refs p.refs.a Q w ∧ (∃ n, ExQ K n w Q p.chk.a s.chk.l) ∧ WQ s.row p.row.a Q w ∧ (∃ n, ZQ K n s.sets p.sets.a Q w) ∧ ∃ n, ExQ K n w Q p.whr.a s.whr.l
theorem StQ.keep {K : Nat} {s : St} {p : StP} {Q Q' : Nat → Prop} {w w' : World} (h : StQ K s p Q w) (hk : ∀ b, Q b → Q' b ∧ ∀ o, w'.cell? ⟨b, o, none⟩ = w.cell? ⟨b, o, none⟩) : StQ K s p Q' w' := by
 obtain ⟨h1, h2, h3, h4, ⟨n, h5⟩, h6, ⟨m, h7⟩, k, h8⟩ := h
 exact ⟨h1.keep hk, h2.keep hk, h3.keep hk, h4.keep hk, ⟨n, h5.keep hk n⟩, h6.keep hk, ⟨m, h7.keep hk⟩, k, h8.keep hk k⟩
instance grDec : DecidableEq Gr := fun a b =>
 if h : a.r = b.r ∧ a.t = b.t ∧ a.w = b.w then isTrue (by cases a; cases b; simp_all) else isFalse (by rintro rfl; simp at h)
theorem lessTri : ∀ (s t : List UInt8), s = t ∨ (Op.bytesLess s t = true ∧ Op.bytesLess t s = false ∧ s ≠ t) ∨ (Op.bytesLess t s = true ∧ Op.bytesLess s t = false ∧ s ≠ t)
 | [], [] => .inl rfl
 | [], y :: t => .inr (.inl ⟨rfl, rfl, by simp⟩)
 | x :: s, [] => .inr (.inr ⟨rfl, rfl, by simp⟩)
 | x :: s, y :: t => by
  rcases Nat.lt_trichotomy x.toNat y.toNat with h | h | h
  ·have h1 : x < y := by rw [UInt8.lt_iff_toNat_lt]; exact h
   have h2 : ¬ y < x := by rw [UInt8.lt_iff_toNat_lt]; omega
   have h3 : ¬ y = x := by rintro rfl; omega
   have h4 : ¬ x = y := by rintro rfl; omega
   exact .inr (.inl ⟨by simp [Op.bytesLess, h1], by simp [Op.bytesLess, h2, h3], by simp [h4]⟩)
  ·have hxy : x = y := UInt8.toNat_inj.1 h
   subst hxy
   have hn : ¬ x < x := by rw [UInt8.lt_iff_toNat_lt]; omega
   rcases lessTri s t with rfl | ⟨h1, h2, h3⟩ | ⟨h1, h2, h3⟩
   ·exact .inl rfl
   ·exact .inr (.inl ⟨by simp [Op.bytesLess, h1], by simp [Op.bytesLess, h2, hn], by simp [h3]⟩)
   ·exact .inr (.inr ⟨by simp [Op.bytesLess, h1], by simp [Op.bytesLess, h2, hn], by simp [h3]⟩)
  ·have h1 : y < x := by rw [UInt8.lt_iff_toNat_lt]; exact h
   have h2 : ¬ x < y := by rw [UInt8.lt_iff_toNat_lt]; omega
   have h3 : ¬ x = y := by rintro rfl; omega
   exact .inr (.inr ⟨by simp [Op.bytesLess, h1], by simp [Op.bytesLess, h2, h3], by simp [h3]⟩)
theorem blessT : ∀ (a b c : List UInt8), Op.bytesLess a b = true → Op.bytesLess b c = true → Op.bytesLess a c = true
 | _, [], _, h, _ => by cases ‹List UInt8› <;> simp [Op.bytesLess] at h
 | _, _ :: _, [], _, h => by simp [Op.bytesLess] at h
 | [], _ :: _, _ :: _, _, _ => by simp [Op.bytesLess]
 | x :: a, y :: b, z :: c, h1, h2 => by
  simp only [Op.bytesLess, Bool.or_eq_true, decide_eq_true_eq, Bool.and_eq_true, beq_iff_eq] at h1 h2 ⊢
  rcases h1 with h1 | ⟨e1, h1⟩
  ·rcases h2 with h2 | ⟨e2, h2⟩
   ·exact .inl (UInt8.lt_trans h1 h2)
   ·subst e2; exact .inl h1
  ·subst e1
   rcases h2 with h2 | ⟨e2, h2⟩
   ·exact .inl h2
   ·exact .inr ⟨e2, blessT a b c h1 h2⟩
/-- Is one grant ahead of another one? -/
def glt (a b : Gr) : Bool := if a.r = b.r then (if a.t = b.t then !a.w && b.w else Op.bytesLess a.t b.t) else Op.bytesLess a.r b.r
/-- Two texts held against each other. -/
def cmpG (a b : List UInt8) : Int := if a = b then 0 else if Op.bytesLess a b then -1 else 1
/-- The order, as the code reckons it. -/
def gord (a b : Gr) : Int := if cmpG a.r b.r = 0 then (if cmpG a.t b.t = 0 then (if a.w = b.w then 0 else if b.w then -1 else 1) else cmpG a.t b.t) else cmpG a.r b.r
theorem cmpG_zero {a b : List UInt8} : cmpG a b = 0 ↔ a = b := by
 unfold cmpG
 by_cases h : a = b
 ·simp [h]
 ·simp only [h, if_false, iff_false]
  split <;> omega
theorem gord_tri (a b : Gr) : (gord a b = 0 ∧ a = b ∧ glt a b = false ∧ glt b a = false) ∨ (gord a b = -1 ∧ a ≠ b ∧ glt a b = true ∧ glt b a = false) ∨ (gord a b = 1 ∧ a ≠ b ∧ glt a b = false ∧ glt b a = true) := by
 obtain ⟨r, t, w⟩ := a
 obtain ⟨r', t', w'⟩ := b
 unfold gord glt
 simp only [cmpG_zero]
 rcases lessTri r r' with rfl | ⟨h1, h2, h3⟩ | ⟨h1, h2, h3⟩
 ·rcases lessTri t t' with rfl | ⟨g1, g2, g3⟩ | ⟨g1, g2, g3⟩
  ·cases w <;> cases w' <;> simp
  ·have g4 : ¬ t' = t := fun e => g3 e.symm
   simp [cmpG, g1, g2, g3, g4]
  ·have g4 : ¬ t' = t := fun e => g3 e.symm
   simp [cmpG, g1, g2, g3, g4]
 ·have h4 : ¬ r' = r := fun e => h3 e.symm
  simp [cmpG, h1, h2, h3, h4]
 ·have h4 : ¬ r' = r := fun e => h3 e.symm
  simp [cmpG, h1, h2, h3, h4]
theorem glt_self (a : Gr) : glt a a = false := by
 rcases gord_tri a a with ⟨_, _, h, _⟩ | ⟨_, h, _⟩ | ⟨_, h, _⟩
 ·exact h
 ·exact absurd rfl h
 ·exact absurd rfl h
theorem glt_asymm {a b : Gr} (h : glt a b = true) : glt b a = false := by
 rcases gord_tri a b with ⟨_, _, h1, _⟩ | ⟨_, _, _, h1⟩ | ⟨_, _, h1, _⟩
 ·rw [h] at h1; cases h1
 ·exact h1
 ·rw [h] at h1; cases h1
theorem glt_trans {a b c : Gr} (h1 : glt a b = true) (h2 : glt b c = true) : glt a c = true := by
 obtain ⟨r, t, w⟩ := a
 obtain ⟨r', t', w'⟩ := b
 obtain ⟨r'', t'', w''⟩ := c
 unfold glt at *
 simp only at *
 by_cases e1 : r = r'
 ·subst e1
  by_cases e2 : r = r''
  ·subst e2
   rw [if_pos rfl] at h1 h2 ⊢
   by_cases f1 : t = t'
   ·subst f1
    by_cases f2 : t = t''
    ·subst f2
     rw [if_pos rfl] at h1 h2 ⊢
     cases w <;> cases w' <;> cases w'' <;> simp_all
    ·rw [if_neg f2] at h2 ⊢; exact h2
   ·rw [if_neg f1] at h1
    by_cases f2 : t' = t''
    ·subst f2
     rw [if_neg f1]; exact h1
    ·rw [if_neg f2] at h2
     have h3 := blessT _ _ _ h1 h2
     by_cases f3 : t = t''
     ·subst f3
      rcases lessTri t t with _ | ⟨_, q, _⟩ | ⟨_, q, _⟩
      ·rcases lessTri t t' with e | ⟨_, q, _⟩ | ⟨_, q, _⟩
       ·exact absurd e f1
       ·rw [q] at h2; cases h2
       ·rw [q] at h1; cases h1
      ·rw [q] at h3; cases h3
      ·rw [q] at h3; cases h3
     ·rw [if_neg f3]; exact h3
  ·rw [if_neg e2] at h2 ⊢; exact h2
 ·rw [if_neg e1] at h1
  by_cases e2 : r' = r''
  ·subst e2
   rw [if_neg e1]; exact h1
  ·rw [if_neg e2] at h2
   have h3 := blessT _ _ _ h1 h2
   by_cases e3 : r = r''
   ·subst e3
    rcases lessTri r r' with e | ⟨_, q, _⟩ | ⟨_, q, _⟩
    ·exact absurd e e1
    ·rw [q] at h2; cases h2
    ·rw [q] at h1; cases h1
   ·rw [if_neg e3]; exact h3
def Ris (l : List Gr) : Prop := l.Pairwise fun x y => glt x y = true
def risB : List Gr → Bool
 | [] => true
 | [_] => true
 | a :: b :: r => glt a b && risB (b :: r)
theorem ris_of : ∀ {l : List Gr}, risB l = true → Ris l
 | [], _ => List.Pairwise.nil
 | [a], _ => List.pairwise_singleton _ _
 | a :: b :: r, h => by
  simp only [risB, Bool.and_eq_true] at h
  have ih := ris_of h.2
  refine List.pairwise_cons.2 ⟨fun y hy => ?_, ih⟩
  rcases List.mem_cons.1 hy with rfl | hy
  ·exact h.1
  ·exact glt_trans h.1 ((List.pairwise_cons.1 ih).1 y hy)
theorem of_ris : ∀ {l : List Gr}, Ris l → risB l = true
 | [], _ => rfl
 | [a], _ => rfl
 | a :: b :: r, h => by
  simp only [risB, Bool.and_eq_true]
  exact ⟨(List.pairwise_cons.1 h).1 b (by simp), of_ris (List.pairwise_cons.1 h).2⟩
theorem ris_uniq : ∀ {l l' : List Gr}, Ris l → Ris l' → (∀ x, x ∈ l ↔ x ∈ l') → l = l'
 | [], [], _, _, _ => rfl
 | [], y :: r, _, _, h => absurd ((h y).2 (by simp)) (by simp)
 | x :: r, [], _, _, h => absurd ((h x).1 (by simp)) (by simp)
 | x :: r, y :: r', h1, h2, h => by
  have a1 := (List.pairwise_cons.1 h1).1
  have a2 := (List.pairwise_cons.1 h2).1
  have e : x = y := by
   rcases List.mem_cons.1 ((h x).1 (by simp)) with e | e
   ·exact e
   ·rcases List.mem_cons.1 ((h y).2 (by simp)) with e' | e'
    ·exact e'.symm
    ·have b1 := a1 y e'
     have b2 := glt_asymm (a2 x e)
     rw [b1] at b2; cases b2
  subst e
  have n1 : x ∉ r := fun hx => by have := a1 x hx; rw [glt_self] at this; cases this
  have n2 : x ∉ r' := fun hx => by have := a2 x hx; rw [glt_self] at this; cases this
  rw [ris_uniq (List.pairwise_cons.1 h1).2 (List.pairwise_cons.1 h2).2 fun z => by
   have := h z
   simp only [List.mem_cons] at this
   constructor
   ·intro hz
    rcases this.1 (.inr hz) with e | e
    ·subst e; exact absurd hz n1
    ·exact e
   ·intro hz
    rcases this.2 (.inr hz) with e | e
    ·subst e; exact absurd hz n2
    ·exact e]
/-- Grants with one more, as the code puts it in. -/
def addG (l : List Gr) (g : Gr) : List Gr := if g ∈ l then l else l.takeWhile (fun x => !decide (0 < gord x g)) ++ g :: l.dropWhile (fun x => !decide (0 < gord x g))
/-- .. and as the document says it. -/
def withG (l : List Gr) (g : Gr) : List Gr := l.filter (fun x => glt x g) ++ g :: l.filter (fun x => glt g x)
def delG (l : List Gr) (g : Gr) : List Gr := l.filter fun x => !decide (x = g)
theorem ris_withG {l : List Gr} (h : Ris l) (g : Gr) : Ris (withG l g) := by
 refine List.pairwise_append.2 ⟨h.sublist List.filter_sublist, List.pairwise_cons.2 ⟨fun y hy => (List.mem_filter.1 hy).2, h.sublist List.filter_sublist⟩, fun x hx y hy => ?_⟩
 have hx' := (List.mem_filter.1 hx).2
 rcases List.mem_cons.1 hy with rfl | hy
 ·exact hx'
 ·exact glt_trans hx' (List.mem_filter.1 hy).2
theorem mem_delG {l : List Gr} {g x : Gr} : x ∈ delG l g ↔ x ∈ l ∧ x ≠ g := by
 unfold delG
 simp [List.mem_filter]
theorem ris_delG {l : List Gr} (h : Ris l) (g : Gr) : Ris (delG l g) := h.sublist List.filter_sublist
theorem filter_nil_of {p : Gr → Bool} {l : List Gr} (h : ∀ x ∈ l, p x = false) : l.filter p = [] := List.filter_eq_nil_iff.2 fun x hx => by rw [h x hx]; simp
theorem filter_all_of {p : Gr → Bool} {l : List Gr} (h : ∀ x ∈ l, p x = true) : l.filter p = l := List.filter_eq_self.2 h
theorem add_eq : ∀ {l : List Gr}, Ris l → ∀ g, addG l g = withG l g
 | [], _, g => by simp [addG, withG]
 | x :: r, h, g => by
  have h1 := (List.pairwise_cons.1 h).1
  have h2 := (List.pairwise_cons.1 h).2
  have ih := add_eq h2 g
  rcases gord_tri x g with ⟨e0, e, e1, e2⟩ | ⟨e0, e, e1, e2⟩ | ⟨e0, e, e1, e2⟩
  ·subst e
   unfold addG withG
   rw [if_pos (by simp), List.filter_cons, List.filter_cons, glt_self, filter_nil_of (p := fun y => glt y x) fun y hy => glt_asymm (h1 y hy), filter_all_of (p := fun y => glt x y) h1]
   simp
  ·have hw : withG (x :: r) g = x :: withG r g := by
    unfold withG
    rw [List.filter_cons, List.filter_cons, if_pos e1, if_neg (by rw [e2]; simp), List.cons_append]
   rw [hw, ← ih]
   unfold addG
   by_cases hm : g ∈ r
   ·rw [if_pos hm, if_pos (by simp [hm])]
   ·rw [if_neg hm, if_neg (by simp [hm, Ne.symm e]), List.takeWhile_cons, List.dropWhile_cons, e0]
    simp
  ·have hn : g ∉ x :: r := fun hm => by
    rcases List.mem_cons.1 hm with rfl | hm
    ·exact e rfl
    ·have := glt_asymm (h1 g hm); rw [e2] at this; cases this
   unfold addG withG
   rw [if_neg hn, List.takeWhile_cons, List.dropWhile_cons, e0, filter_nil_of (p := fun y => glt y g) (l := x :: r) fun y hy => ?_, filter_all_of (p := fun y => glt g y) (l := x :: r) fun y hy => ?_]
   ·simp
   ·rcases List.mem_cons.1 hy with rfl | hy
    ·exact e2
    ·exact glt_trans e2 (h1 y hy)
   ·rcases List.mem_cons.1 hy with rfl | hy
    ·exact e1
    ·exact glt_asymm (glt_trans e2 (h1 y hy))
end Go.Proofs.YtchilcchogcibaaGreatDoor
