/- Words for a drawn region of calls that answer memory, and of one new variable. Nothing of the program's text is walked here. -/
import Derived.Test.YtdhjogmkhbpcgaaGreatStageM
import Derived.Test.YtdhjogmkhbpcgaaGreatRelW
namespace Go.Proofs.YtdhjogmkhbpcgaaGreat
open Go.RowKit

/-- What a call answered: memory in blocks of a kind. -/
def GotX (E : Ex) (u : Value) (Q : Nat → Prop) (w : World) : Prop := ∃ A c, u = .agg #[.string ⟨E.op.toArray⟩, .int .i64 E.v.k, .int .i64 E.v.i, .string ⟨E.v.s.toArray⟩, .string ⟨E.s.toArray⟩, .slice A E.l.length c] ∧ ExR Q E A c w
def GotK (l : List Col) (u : Value) (Q : Nat → Prop) (w : World) : Prop := ∃ A c, u = .slice A l.length c ∧ CQ l A Q w
def GotT (t : Tb) (u : Value) (Q : Nat → Prop) (w : World) : Prop := ∃ p : TbP, u = .agg (t.cells p).toArray ∧ TbQ 1000 t p Q w
def Keep1 (G : (Nat → Prop) → World → Prop) : Prop := ∀ (Q Q' : Nat → Prop) (w w' : World), (∀ b, Q b → Q' b ∧ ∀ o, w'.cell? ⟨b, o, none⟩ = w.cell? ⟨b, o, none⟩) → G Q w → G Q' w'
theorem GotX.keeps (E : Ex) (u : Value) : Keep1 (GotX E u) := fun _ _ _ _ hk ⟨A, c, h1, h2⟩ => ⟨A, c, h1, h2.keep hk⟩
theorem GotK.keeps (l : List Col) (u : Value) : Keep1 (GotK l u) := fun _ _ _ _ hk ⟨A, c, h1, h2⟩ => ⟨A, c, h1, h2.keep hk⟩
theorem GotT.keeps (t : Tb) (u : Value) : Keep1 (GotT t u) := fun _ _ _ _ hk ⟨p, h1, h2⟩ => ⟨p, h1, h2.keep hk⟩
/-- Blocks that are not a new variable's. -/
def Av1 (L : Array Bool) (i B : Nat) (u : Value) (w : World) (b : Nat) : Prop := (B ≤ b ∧ b < w.heap.size) ∧ (Up L i → u ≠ .pointer (some ⟨b, 0, none⟩))
/-- The slot of a new variable. -/
def New1 (L : Array Bool) (i B : Nat) (t : TypeId) (cs : Array Value) (w : World) (u : Value) : Prop := Up L i → ∃ g, u = .pointer (some ⟨g, 0, none⟩) ∧ B ≤ g ∧ Blk w g t cs
theorem New1.put {L : Array Bool} {i j B : Nat} {t : TypeId} {cs : Array Value} {w w' : World} {u : Value} (h : New1 L j B t cs w u) (hne : i ≠ j) (hb : Below w.heap.size w w') : New1 (L.setIfInBounds i true) j B t cs w' u := fun hu => by
  obtain ⟨g, e, h1, h2⟩ := h (hu.put hne)
  exact ⟨g, e, h1, h2.below hb h2.lt⟩
theorem New1.new {L : Array Bool} {i B : Nat} {t : TypeId} {cs : Array Value} {w : World} (hB : B ≤ w.heap.size) : New1 L i B t cs (w.alloc (.cells cs t)) (.pointer (some ⟨w.heap.size, 0, none⟩)) :=
  fun _ => ⟨_, rfl, hB, Blk.new w _ _⟩
section
variable {L : Array Bool} {i a B k : Nat} {t : TypeId} {cs : Array Value} {U : Value} {w w' : World} {G : (Nat → Prop) → World → Prop}
theorem ptr1_ne {g b : Nat} (h : g ≠ b) : (Value.pointer (some ⟨g, 0, none⟩)) ≠ .pointer (some ⟨b, 0, none⟩) := fun e => by
  injection e with e
  injection e with e
  injection e with e
  exact h e
theorem Av1.call (h1 : i ≠ a) (hb : Below w.heap.size w w') (b : Nat) (h : Av1 L a B U w b) : Av1 (L.setIfInBounds i true) a B U w' b := ⟨⟨h.1.1, Nat.lt_of_lt_of_le h.1.2 hb.size⟩, fun hu => h.2 (hu.put h1)⟩
theorem Av1.new (o : Obj) (b : Nat) (h : Av1 L a B U w b) : Av1 (L.setIfInBounds a true) a B (.pointer (some ⟨w.heap.size, 0, none⟩)) (w.alloc o) b :=
  ⟨by have := h.1; simp; omega, fun _ => ptr1_ne (by have := h.1; omega)⟩
theorem Av1.fresh (hA : New1 L a B t cs w U) (h1 : i ≠ a) (hB : B ≤ w.heap.size) (b : Nat) (h : w.heap.size ≤ b ∧ b < w'.heap.size) : Av1 (L.setIfInBounds i true) a B U w' b :=
  ⟨⟨Nat.le_trans hB h.1, h.2⟩, fun hu => by
    obtain ⟨g, rfl, _, hk⟩ := hA (hu.put h1)
    have := hk.lt
    exact ptr1_ne (by omega)⟩
theorem Av1.parts {g b : Nat} (z1 : Up L a) (h : Av1 L a B (.pointer (some ⟨g, 0, none⟩)) w b) : (B ≤ b ∧ b < w.heap.size) ∧ b ≠ g := ⟨h.1, fun e => h.2 z1 (by rw [e])⟩
def Had1 (L : Array Bool) (k : Nat) (G : (Nat → Prop) → World → Prop) (Q : Nat → Prop) (w : World) : Prop := Up L k → G Q w
theorem Had1.put {U' : Value} (h : Had1 L k G (Av1 L a B U w) w) (hG : Keep1 G) (hne : i ≠ k) (hb : Below w.heap.size w w') (hav : ∀ b, Av1 L a B U w b → Av1 (L.setIfInBounds i true) a B U' w' b) : Had1 (L.setIfInBounds i true) k G (Av1 (L.setIfInBounds i true) a B U' w') w' :=
  fun hu => hG _ _ _ _ (fun b hq => ⟨hav b hq, fun o => hb.cell (p := ⟨b, o, none⟩) hq.1.2⟩) (h (hu.put hne))
end
theorem GotX.fresh {E : Ex} {A : Option Addr} {c : Nat} {w w' : World} {Q : Nat → Prop} (h : ExR (fun b => w.heap.size ≤ b ∧ b < w'.heap.size) E A c w') (hq : ∀ b, w.heap.size ≤ b ∧ b < w'.heap.size → Q b) :
    GotX E (.agg #[.string ⟨E.op.toArray⟩, .int .i64 E.v.k, .int .i64 E.v.i, .string ⟨E.v.s.toArray⟩, .string ⟨E.s.toArray⟩, .slice A E.l.length c]) Q w' := ⟨A, c, rfl, h.keep fun b hb => ⟨hq b hb, fun _ => rfl⟩⟩
theorem GotK.fresh {l : List Col} {A : Option Addr} {c : Nat} {w w' : World} {Q : Nat → Prop} (h : ColF w' w.heap.size w'.heap.size A l) (hq : ∀ b, w.heap.size ≤ b ∧ b < w'.heap.size → Q b) : GotK l (.slice A l.length c) Q w' :=
  ⟨A, c, rfl, CQ.ofF h (fun b h1 h2 => hq b ⟨h1, h2⟩)⟩

end Go.Proofs.YtdhjogmkhbpcgaaGreat
