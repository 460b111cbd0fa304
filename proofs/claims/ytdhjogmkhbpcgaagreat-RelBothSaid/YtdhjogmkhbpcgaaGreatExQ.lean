/- Expressions whose memory lies in blocks of a kind. Nothing of the program stands here. -/
import Derived.Test.YtdhjogmkhbpcgaaGreatEx
namespace Go.Proofs.YtdhjogmkhbpcgaaGreat
open Go.RowKit

/-- No expression. -/
def exZero : Ex := .mk [] V.zero [] []
theorem exZero_fit : exZero.fit 1000 := ⟨⟨by simp [exZero, Ex.v, V.zero], by simp [exZero, Ex.v, V.zero]⟩, by simp [exZero, Ex.op], by simp [exZero, Ex.s], by simp [exZero, Ex.v, V.zero]⟩
/-- As ExS; each block that the tree reaches is of the kind Q. -/
def ExQ (K : Nat) : Nat → World → (Nat → Prop) → Option Addr → List Ex → Prop
  | 0, _, _, _, l => l = []
  | n + 1, w, Q, A, l => 0 < l.length → ∃ b off, A = some ⟨b, off, none⟩ ∧ Q b ∧ ∀ i e, l[i]? = some e →
      ∃ A' c', e.fit K ∧ e.l.length ≤ c' ∧ c' ≤ maxLen ∧ Six w b (off + i * 6) e A' c' ∧ ExQ K n w Q A' e.l
theorem ExQ.nil {K : Nat} {w : World} {Q : Nat → Prop} {A : Option Addr} : ∀ n, ExQ K n w Q A []
  | 0 => rfl
  | _ + 1 => fun h => absurd h (by simp)
theorem ExQ.keep {K : Nat} {w w' : World} {Q Q' : Nat → Prop} (hk : ∀ b, Q b → Q' b ∧ ∀ o, w'.cell? ⟨b, o, none⟩ = w.cell? ⟨b, o, none⟩) : ∀ (n : Nat) {A : Option Addr} {l : List Ex}, ExQ K n w Q A l → ExQ K n w' Q' A l
  | 0, _, _, h => h
  | n + 1, _, _, h => fun hl => by
    obtain ⟨b, off, rfl, hb, hr⟩ := h hl
    refine ⟨b, off, rfl, (hk b hb).1, fun i e he => ?_⟩
    obtain ⟨A', c', hf, h1, h2, h3, h4⟩ := hr i e he
    exact ⟨A', c', hf, h1, h2, h3.keep (hk b hb).2, h4.keep hk n⟩
theorem ExQ.toS {K : Nat} {w : World} {Q : Nat → Prop} {B : Nat} (hk : ∀ b, Q b → b < B) : ∀ (n : Nat) {A : Option Addr} {l : List Ex}, ExQ K n w Q A l → ExS K n w B A l
  | 0, _, _, h => h
  | n + 1, _, _, h => fun hl => by
    obtain ⟨b, off, rfl, hb, hr⟩ := h hl
    refine ⟨b, off, rfl, hk b hb, fun i e he => ?_⟩
    obtain ⟨A', c', hf, h1, h2, h3, h4⟩ := hr i e he
    exact ⟨A', c', hf, h1, h2, h3, h4.toS hk n⟩
theorem ExQ.up {K : Nat} {w : World} {Q : Nat → Prop} : ∀ (n : Nat) {A : Option Addr} {l : List Ex}, ExQ K n w Q A l → ExQ K (n + 1) w Q A l
  | 0, _, _, h => by cases h; exact ExQ.nil 1
  | n + 1, _, _, h => fun hl => by
    obtain ⟨b, off, rfl, hb, hr⟩ := h hl
    refine ⟨b, off, rfl, hb, fun i e he => ?_⟩
    obtain ⟨A', c', hf, h1, h2, h3, h4⟩ := hr i e he
    exact ⟨A', c', hf, h1, h2, h3, h4.up n⟩
theorem ExQ.ups {K : Nat} {w : World} {Q : Nat → Prop} {A : Option Addr} {l : List Ex} {n : Nat} (h : ExQ K n w Q A l) : ∀ m, n ≤ m → ExQ K m w Q A l
  | 0, hm => by
    have : n = 0 := by omega
    subst this; exact h
  | m + 1, hm => by
    by_cases e : n = m + 1
    · subst e; exact h
    · exact (h.ups m (by omega)).up m
theorem exQ_one {K : Nat} {w : World} {Q : Nat → Prop} {g n : Nat} {t : TypeId} {e : Ex} {A : Option Addr} {c : Nat} (h : Blk w g t (e.cells A c).toArray) (hq : Q g) (hf : e.fit K) (h1 : e.l.length ≤ c) (h2 : c ≤ maxLen) (h3 : ExQ K n w Q A e.l) :
    ExQ K (n + 1) w Q (some ⟨g, 0, none⟩) [e] := fun _ => by
  refine ⟨g, 0, rfl, hq, fun i x hx => ?_⟩
  match i, hx with
  | 0, hx =>
    simp at hx; subst hx
    exact ⟨A, c, hf, h1, h2, ⟨h.cell 0, h.cell 1, h.cell 2, h.cell 3, h.cell 4, h.cell 5⟩, h3⟩
theorem exQ_two {K : Nat} {w : World} {Q : Nat → Prop} {g n : Nat} {t : TypeId} {e e' : Ex} {A A' : Option Addr} {c c' : Nat} (h : Blk w g t (e.cells A c ++ e'.cells A' c').toArray) (hq : Q g) (hf : e.fit K) (h1 : e.l.length ≤ c) (h2 : c ≤ maxLen) (h3 : ExQ K n w Q A e.l)
    (hf' : e'.fit K) (h1' : e'.l.length ≤ c') (h2' : c' ≤ maxLen) (h3' : ExQ K n w Q A' e'.l) : ExQ K (n + 1) w Q (some ⟨g, 0, none⟩) [e, e'] := fun _ => by
  refine ⟨g, 0, rfl, hq, fun i x hx => ?_⟩
  match i, hx with
  | 0, hx =>
    simp at hx; subst hx
    exact ⟨A, c, hf, h1, h2, ⟨h.cell 0, h.cell 1, h.cell 2, h.cell 3, h.cell 4, h.cell 5⟩, h3⟩
  | 1, hx =>
    simp at hx; subst hx
    exact ⟨A', c', hf', h1', h2', ⟨h.cell 6, h.cell 7, h.cell 8, h.cell 9, h.cell 10, h.cell 11⟩, h3'⟩

/-- An expression that a call answers: its parts lie in blocks of the kind Q. -/
def ExR (Q : Nat → Prop) (e : Ex) (A : Option Addr) (c : Nat) (w : World) : Prop := e.fit 1000 ∧ e.l.length ≤ c ∧ c ≤ maxLen ∧ ∃ n, ExQ 1000 n w Q A e.l
theorem ExR.keep {Q Q' : Nat → Prop} {e : Ex} {A : Option Addr} {c : Nat} {w w' : World} (h : ExR Q e A c w) (hk : ∀ b, Q b → Q' b ∧ ∀ o, w'.cell? ⟨b, o, none⟩ = w.cell? ⟨b, o, none⟩) : ExR Q' e A c w' := by
  obtain ⟨h1, h2, h3, n, h4⟩ := h
  exact ⟨h1, h2, h3, n, h4.keep hk n⟩
theorem ExR.two {Q : Nat → Prop} {op : List UInt8} {e e' : Ex} {A A' : Option Addr} {c c' g : Nat} {t : TypeId} {w : World} (h : ExR Q e A c w) (h' : ExR Q e' A' c' w) (k : Blk w g t (e.cells A c ++ e'.cells A' c').toArray) (hq : Q g) (ho : op.length ≤ 1000) :
    ExR Q (.mk op V.zero [] [e, e']) (some ⟨g, 0, none⟩) 2 w := by
  obtain ⟨h1, h2, h3, n, h4⟩ := h
  obtain ⟨h1', h2', h3', n', h4'⟩ := h'
  refine ⟨⟨⟨by simp [Ex.v, V.zero], by simp [Ex.v, V.zero]⟩, ho, by simp [Ex.s], by simp [Ex.v, V.zero]⟩, by simp [Ex.l], by unfold maxLen; omega, max n n' + 1, ?_⟩
  exact exQ_two k hq h1 h2 h3 (h4.ups _ (Nat.le_max_left _ _)) h1' h2' h3' (h4'.ups _ (Nat.le_max_right _ _))
theorem ExR.one {Q : Nat → Prop} {op : List UInt8} {e : Ex} {A : Option Addr} {c g : Nat} {t : TypeId} {w : World} (h : ExR Q e A c w) (k : Blk w g t (e.cells A c).toArray) (hq : Q g) (ho : op.length ≤ 1000) :
    ExR Q (.mk op V.zero [] [e]) (some ⟨g, 0, none⟩) 1 w := by
  obtain ⟨h1, h2, h3, n, h4⟩ := h
  exact ⟨⟨⟨by simp [Ex.v, V.zero], by simp [Ex.v, V.zero]⟩, ho, by simp [Ex.s], by simp [Ex.v, V.zero]⟩, by simp [Ex.l], by unfold maxLen; omega, n + 1, exQ_one k hq h1 h2 h3 h4⟩
theorem But.cell {p : Nat} {w w' : World} (h : But p w w') {b : Nat} (hb : b < w.heap.size) (hp : b ≠ p) (o : Nat) : w'.cell? ⟨b, o, none⟩ = w.cell? ⟨b, o, none⟩ := by
  have hk := h.block b hb hp
  unfold World.cell?
  simp only [hk]
theorem But.own {p : Nat} {a w : World} (h : But p a w) {g : Nat} (hg : a.heap.size ≤ g) (i : Nat) (u : Value) : But p a (w.setCell ⟨g, i, none⟩ u) := by
  have hb : Below 0 w (w.setCell ⟨g, i, none⟩ u) := by ((with_reducible repeat' (first | exact Below.refl _ _ | assumption | refine Below.drew ?_ | refine below_drewN ?_ _ | refine Below.setCell ?_ ?_ _ | refine Below.alloc ?_ ?_ _ | refine Below.trans ?_ (Below.mono (by assumption) ?_))) <;> first | (simp; done) | (simp; omega) | omega)
  exact ⟨hb.os.trans h.os, hb.tape.trans h.tape, hb.output.trans h.output, Nat.le_trans h.size hb.size, fun k hk hp => (Below.heap_setCell w ⟨g, i, none⟩ u k (show k ≠ g by omega)).trans (h.block k hk hp)⟩

end Go.Proofs.YtdhjogmkhbpcgaaGreat
