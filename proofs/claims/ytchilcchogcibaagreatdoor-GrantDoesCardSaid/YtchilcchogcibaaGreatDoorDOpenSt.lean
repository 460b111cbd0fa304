/- Statements and grants in memory; Grants as sets that rise; How arguments of the laws are opened. -/
import Derived.Test.YtchilcchogcibaaGreatDoorDClones
set_option maxRecDepth 100000
namespace Go.Proofs.YtchilcchogcibaaGreatDoor
open Go.RowKit
structure Rf where
 c : List UInt8
 t : List UInt8
structure Se where
 n : List UInt8
 e : Ex
structure St where
 op : List UInt8
 tb : List UInt8
 ot : List UInt8
 names : List (List UInt8)
 cols : List Col
 key : List UInt8
 uniq : List (List UInt8)
 refs : List Rf
 chk : Ex
 row : List V
 sets : List Se
 whr : Ex
 role : List UInt8
structure StP where
 names : Sl
 cols : Sl
 uniq : Sl
 refs : Sl
 chk : Sl
 row : Sl
 sets : Sl
 whr : Sl
structure Gr where
 r : List UInt8
 t : List UInt8
 w : Bool
def St.cells (s : St) (p : StP) : List Value :=
 [.string ⟨s.op.toArray⟩, .string ⟨s.tb.toArray⟩, .string ⟨s.ot.toArray⟩, .slice p.names.a s.names.length p.names.c, .slice p.cols.a s.cols.length p.cols.c, .string ⟨s.key.toArray⟩, .slice p.uniq.a s.uniq.length p.uniq.c, .slice p.refs.a s.refs.length p.refs.c,
  .string ⟨s.chk.op.toArray⟩, .int .i64 s.chk.v.k, .int .i64 s.chk.v.i, .string ⟨s.chk.v.s.toArray⟩, .string ⟨s.chk.s.toArray⟩, .slice p.chk.a s.chk.l.length p.chk.c, .slice p.row.a s.row.length p.row.c, .slice p.sets.a s.sets.length p.sets.c,
  .string ⟨s.whr.op.toArray⟩, .int .i64 s.whr.v.k, .int .i64 s.whr.v.i, .string ⟨s.whr.v.s.toArray⟩, .string ⟨s.whr.s.toArray⟩, .slice p.whr.a s.whr.l.length p.whr.c, .string ⟨s.role.toArray⟩]
def SQ (l : List (List UInt8)) (A : Option Addr) (Q : Nat → Prop) (w : World) : Prop := 0 < l.length → ∃ b off, A = some ⟨b, off, none⟩ ∧ Q b ∧ ∀ i x, l[i]? = some x → w.cell? ⟨b, off + i, none⟩ = some (.string ⟨x.toArray⟩)
def XQ (l : List Rf) (A : Option Addr) (Q : Nat → Prop) (w : World) : Prop := 0 < l.length → ∃ b off, A = some ⟨b, off, none⟩ ∧ Q b ∧ ∀ i x, l[i]? = some x → w.cell? ⟨b, off + i * 2, none⟩ = some (.string ⟨x.c.toArray⟩) ∧ w.cell? ⟨b, off + i * 2 + 1, none⟩ = some (.string ⟨x.t.toArray⟩)
def ZQ (K n : Nat) (l : List Se) (A : Option Addr) (Q : Nat → Prop) (w : World) : Prop := 0 < l.length → ∃ b off, A = some ⟨b, off, none⟩ ∧ Q b ∧ ∀ i x, l[i]? = some x → w.cell? ⟨b, off + i * 7, none⟩ = some (.string ⟨x.n.toArray⟩) ∧
 ∃ A' c', x.e.fit K ∧ x.e.l.length ≤ c' ∧ c' ≤ maxLen ∧ Six w b (off + i * 7 + 1) x.e A' c' ∧ ExQ K n w Q A' x.e.l
def GQ (l : List Gr) (A : Option Addr) (Q : Nat → Prop) (w : World) : Prop := 0 < l.length → ∃ b off, A = some ⟨b, off, none⟩ ∧ Q b ∧ ∀ i x, l[i]? = some x → w.cell? ⟨b, off + i * 3, none⟩ = some (.string ⟨x.r.toArray⟩) ∧ w.cell? ⟨b, off + i * 3 + 1, none⟩ = some (.string ⟨x.t.toArray⟩) ∧ w.cell? ⟨b, off + i * 3 + 2, none⟩ = some (.bool x.w)
section
variable {A : Option Addr} {Q Q' : Nat → Prop} {w w' : World}
theorem SQ.keep {l : List (List UInt8)} (h : SQ l A Q w) (hk : ∀ b, Q b → Q' b ∧ ∀ o, w'.cell? ⟨b, o, none⟩ = w.cell? ⟨b, o, none⟩) : SQ l A Q' w' := fun hl => by
 obtain ⟨b, off, rfl, h1, h2⟩ := h hl
 exact ⟨b, off, rfl, (hk b h1).1, fun i x hx => ((hk b h1).2 _).trans (h2 i x hx)⟩
theorem XQ.keep {l : List Rf} (h : XQ l A Q w) (hk : ∀ b, Q b → Q' b ∧ ∀ o, w'.cell? ⟨b, o, none⟩ = w.cell? ⟨b, o, none⟩) : XQ l A Q' w' := fun hl => by
 obtain ⟨b, off, rfl, h1, h2⟩ := h hl
 exact ⟨b, off, rfl, (hk b h1).1, fun i x hx => ⟨((hk b h1).2 _).trans (h2 i x hx).1, ((hk b h1).2 _).trans (h2 i x hx).2⟩⟩
theorem ZQ.keep {K n : Nat} {l : List Se} (h : ZQ K n l A Q w) (hk : ∀ b, Q b → Q' b ∧ ∀ o, w'.cell? ⟨b, o, none⟩ = w.cell? ⟨b, o, none⟩) : ZQ K n l A Q' w' := fun hl => by
 obtain ⟨b, off, rfl, h1, h2⟩ := h hl
 refine ⟨b, off, rfl, (hk b h1).1, fun i x hx => ?_⟩
 obtain ⟨c0, A', c', f, g1, g2, g3, g4⟩ := h2 i x hx
 exact ⟨((hk b h1).2 _).trans c0, A', c', f, g1, g2, g3.keep (hk b h1).2, g4.keep hk n⟩
theorem ZQ.ups {K n m : Nat} {l : List Se} (h : ZQ K n l A Q w) (hm : n ≤ m) : ZQ K m l A Q w := fun hl => by
 obtain ⟨b, off, rfl, h1, h2⟩ := h hl
 refine ⟨b, off, rfl, h1, fun i x hx => ?_⟩
 obtain ⟨c0, A', c', f, g1, g2, g3, g4⟩ := h2 i x hx
 exact ⟨c0, A', c', f, g1, g2, g3, g4.ups m hm⟩
theorem GQ.keep {l : List Gr} (h : GQ l A Q w) (hk : ∀ b, Q b → Q' b ∧ ∀ o, w'.cell? ⟨b, o, none⟩ = w.cell? ⟨b, o, none⟩) : GQ l A Q' w' := fun hl => by
 obtain ⟨b, off, rfl, h1, h2⟩ := h hl
 exact ⟨b, off, rfl, (hk b h1).1, fun i x hx => ⟨((hk b h1).2 _).trans (h2 i x hx).1, ((hk b h1).2 _).trans (h2 i x hx).2.1, ((hk b h1).2 _).trans (h2 i x hx).2.2⟩⟩
theorem SQ.nil : SQ [] A Q w := fun h => absurd h (by simp)
theorem XQ.nil : XQ [] A Q w := fun h => absurd h (by simp)
theorem ZQ.nil {K n : Nat} : ZQ K n [] A Q w := fun h => absurd h (by simp)
theorem GQ.nil : GQ [] A Q w := fun h => absurd h (by simp)
theorem SQ.at_ {l : List (List UInt8)} (h : SQ l A Q w) {j : Nat} (hj : j < l.length) : ∃ b off x, A = some ⟨b, off, none⟩ ∧ Q b ∧ l[j]? = some x ∧ w.cell? ⟨b, off + j, none⟩ = some (.string ⟨x.toArray⟩) := by
 obtain ⟨b, off, rfl, hb, hr⟩ := h (by omega)
 exact ⟨b, off, l[j], rfl, hb, List.getElem?_eq_getElem hj, hr j _ (List.getElem?_eq_getElem hj)⟩
theorem XQ.at_ {l : List Rf} (h : XQ l A Q w) {j : Nat} (hj : j < l.length) : ∃ b off x, A = some ⟨b, off, none⟩ ∧ Q b ∧ l[j]? = some x ∧ w.cell? ⟨b, off + j * 2, none⟩ = some (.string ⟨x.c.toArray⟩) ∧ w.cell? ⟨b, off + j * 2 + 1, none⟩ = some (.string ⟨x.t.toArray⟩) := by
 obtain ⟨b, off, rfl, hb, hr⟩ := h (by omega)
 exact ⟨b, off, l[j], rfl, hb, List.getElem?_eq_getElem hj, hr j _ (List.getElem?_eq_getElem hj)⟩
theorem ZQ.at_ {K n : Nat} {l : List Se} (h : ZQ K n l A Q w) {j : Nat} (hj : j < l.length) : ∃ b off x A' c', A = some ⟨b, off, none⟩ ∧ Q b ∧ l[j]? = some x ∧ w.cell? ⟨b, off + j * 7, none⟩ = some (.string ⟨x.n.toArray⟩) ∧
  x.e.fit K ∧ x.e.l.length ≤ c' ∧ c' ≤ maxLen ∧ Six w b (off + j * 7 + 1) x.e A' c' ∧ ExQ K n w Q A' x.e.l := by
 obtain ⟨b, off, rfl, hb, hr⟩ := h (by omega)
 obtain ⟨c0, A', c', f, g1, g2, g3, g4⟩ := hr j _ (List.getElem?_eq_getElem hj)
 exact ⟨b, off, l[j], A', c', rfl, hb, List.getElem?_eq_getElem hj, c0, f, g1, g2, g3, g4⟩
theorem GQ.at_ {l : List Gr} (h : GQ l A Q w) {j : Nat} (hj : j < l.length) : ∃ b off x, A = some ⟨b, off, none⟩ ∧ Q b ∧ l[j]? = some x ∧ w.cell? ⟨b, off + j * 3, none⟩ = some (.string ⟨x.r.toArray⟩) ∧ w.cell? ⟨b, off + j * 3 + 1, none⟩ = some (.string ⟨x.t.toArray⟩) ∧ w.cell? ⟨b, off + j * 3 + 2, none⟩ = some (.bool x.w) := by
 obtain ⟨b, off, rfl, hb, hr⟩ := h (by omega)
 exact ⟨b, off, l[j], rfl, hb, List.getElem?_eq_getElem hj, hr j _ (List.getElem?_eq_getElem hj)⟩
end
def StQ (K : Nat) (s : St) (p : StP) (Q : Nat → Prop) (w : World) : Prop :=
 SQ s.names p.names.a Q w ∧ CQ s.cols p.cols.a Q w ∧ SQ s.uniq p.uniq.a Q w ∧ XQ s.refs p.refs.a Q w ∧ (∃ n, ExQ K n w Q p.chk.a s.chk.l) ∧ WQ s.row p.row.a Q w ∧ (∃ n, ZQ K n s.sets p.sets.a Q w) ∧ ∃ n, ExQ K n w Q p.whr.a s.whr.l
theorem StQ.keep {K : Nat} {s : St} {p : StP} {Q Q' : Nat → Prop} {w w' : World} (h : StQ K s p Q w) (hk : ∀ b, Q b → Q' b ∧ ∀ o, w'.cell? ⟨b, o, none⟩ = w.cell? ⟨b, o, none⟩) : StQ K s p Q' w' := by
 obtain ⟨h1, h2, h3, h4, ⟨n, h5⟩, h6, ⟨m, h7⟩, k, h8⟩ := h
 exact ⟨h1.keep hk, h2.keep hk, h3.keep hk, h4.keep hk, ⟨n, h5.keep hk n⟩, h6.keep hk, ⟨m, h7.keep hk⟩, k, h8.keep hk k⟩
instance grDec : DecidableEq Gr := fun a b =>
 if h : a.r = b.r ∧ a.t = b.t ∧ a.w = b.w then isTrue (by cases a; cases b; simp_all) else isFalse (by rintro rfl; simp at h)
theorem lessTri : ∀ (s t : List UInt8), s = t ∨ (Op.bytesLess s t = true ∧ Op.bytesLess t s = false ∧ s ≠ t) ∨ (Op.bytesLess t s = true ∧ Op.bytesLess s t = false ∧ s ≠ t)
 | [], [] => .inl rfl
 | [], y :: t => .inr (.inl ⟨rfl, rfl, by simp⟩)
 | x :: s, [] => .inr (.inr ⟨rfl, rfl, by simp⟩)
 | x :: s, y :: t => by
  rcases Nat.lt_trichotomy x.toNat y.toNat with h | h | h
  ·have h1 : x < y := by rw [UInt8.lt_iff_toNat_lt]; exact h
   have h2 : ¬ y < x := by rw [UInt8.lt_iff_toNat_lt]; omega
   have h3 : ¬ y = x := by rintro rfl; omega
   have h4 : ¬ x = y := by rintro rfl; omega
   exact .inr (.inl ⟨by simp [Op.bytesLess, h1], by simp [Op.bytesLess, h2, h3], by simp [h4]⟩)
  ·have hxy : x = y := UInt8.toNat_inj.1 h
   subst hxy
   have hn : ¬ x < x := by rw [UInt8.lt_iff_toNat_lt]; omega
   rcases lessTri s t with rfl | ⟨h1, h2, h3⟩ | ⟨h1, h2, h3⟩
   ·exact .inl rfl
   ·exact .inr (.inl ⟨by simp [Op.bytesLess, h1], by simp [Op.bytesLess, h2, hn], by simp [h3]⟩)
   ·exact .inr (.inr ⟨by simp [Op.bytesLess, h1], by simp [Op.bytesLess, h2, hn], by simp [h3]⟩)
  ·have h1 : y < x := by rw [UInt8.lt_iff_toNat_lt]; exact h
   have h2 : ¬ x < y := by rw [UInt8.lt_iff_toNat_lt]; omega
   have h3 : ¬ x = y := by rintro rfl; omega
   exact .inr (.inr ⟨by simp [Op.bytesLess, h1], by simp [Op.bytesLess, h2, h3], by simp [h3]⟩)
theorem blessT : ∀ (a b c : List UInt8), Op.bytesLess a b = true → Op.bytesLess b c = true → Op.bytesLess a c = true
 | _, [], _, h, _ => by cases ‹List UInt8› <;> simp [Op.bytesLess] at h
 | _, _ :: _, [], _, h => by simp [Op.bytesLess] at h
 | [], _ :: _, _ :: _, _, _ => by simp [Op.bytesLess]
 | x :: a, y :: b, z :: c, h1, h2 => by
  simp only [Op.bytesLess, Bool.or_eq_true, decide_eq_true_eq, Bool.and_eq_true, beq_iff_eq] at h1 h2 ⊢
  rcases h1 with h1 | ⟨e1, h1⟩
  ·rcases h2 with h2 | ⟨e2, h2⟩
   ·exact .inl (UInt8.lt_trans h1 h2)
   ·subst e2; exact .inl h1
  ·subst e1
   rcases h2 with h2 | ⟨e2, h2⟩
   ·exact .inl h2
   ·exact .inr ⟨e2, blessT a b c h1 h2⟩
def glt (a b : Gr) : Bool := if a.r = b.r then (if a.t = b.t then !a.w && b.w else Op.bytesLess a.t b.t) else Op.bytesLess a.r b.r
def cmpG (a b : List UInt8) : Int := if a = b then 0 else if Op.bytesLess a b then -1 else 1
def gord (a b : Gr) : Int := if cmpG a.r b.r = 0 then (if cmpG a.t b.t = 0 then (if a.w = b.w then 0 else if b.w then -1 else 1) else cmpG a.t b.t) else cmpG a.r b.r
theorem cmpG_zero {a b : List UInt8} : cmpG a b = 0 ↔ a = b := by
 unfold cmpG
 by_cases h : a = b
 ·simp [h]
 ·simp only [h, if_false, iff_false]
  split <;> omega
theorem gord_tri (a b : Gr) : (gord a b = 0 ∧ a = b ∧ glt a b = false ∧ glt b a = false) ∨ (gord a b = -1 ∧ a ≠ b ∧ glt a b = true ∧ glt b a = false) ∨ (gord a b = 1 ∧ a ≠ b ∧ glt a b = false ∧ glt b a = true) := by
 obtain ⟨r, t, w⟩ := a
 obtain ⟨r', t', w'⟩ := b
 unfold gord glt
 simp only [cmpG_zero]
 rcases lessTri r r' with rfl | ⟨h1, h2, h3⟩ | ⟨h1, h2, h3⟩
 ·rcases lessTri t t' with rfl | ⟨g1, g2, g3⟩ | ⟨g1, g2, g3⟩
  ·cases w <;> cases w' <;> simp
  ·have g4 : ¬ t' = t := fun e => g3 e.symm
   simp [cmpG, g1, g2, g3, g4]
  ·have g4 : ¬ t' = t := fun e => g3 e.symm
   simp [cmpG, g1, g2, g3, g4]
 ·have h4 : ¬ r' = r := fun e => h3 e.symm
  simp [cmpG, h1, h2, h3, h4]
 ·have h4 : ¬ r' = r := fun e => h3 e.symm
  simp [cmpG, h1, h2, h3, h4]
theorem glt_self (a : Gr) : glt a a = false := by
 rcases gord_tri a a with ⟨_, _, h, _⟩ | ⟨_, h, _⟩ | ⟨_, h, _⟩
 ·exact h
 ·exact absurd rfl h
 ·exact absurd rfl h
theorem glt_asymm {a b : Gr} (h : glt a b = true) : glt b a = false := by
 rcases gord_tri a b with ⟨_, _, h1, _⟩ | ⟨_, _, _, h1⟩ | ⟨_, _, h1, _⟩
 ·rw [h] at h1; cases h1
 ·exact h1
 ·rw [h] at h1; cases h1
theorem glt_trans {a b c : Gr} (h1 : glt a b = true) (h2 : glt b c = true) : glt a c = true := by
 obtain ⟨r, t, w⟩ := a
 obtain ⟨r', t', w'⟩ := b
 obtain ⟨r'', t'', w''⟩ := c
 unfold glt at *
 simp only at *
 by_cases e1 : r = r'
 ·subst e1
  by_cases e2 : r = r''
  ·subst e2
   rw [if_pos rfl] at h1 h2 ⊢
   by_cases f1 : t = t'
   ·subst f1
    by_cases f2 : t = t''
    ·subst f2
     rw [if_pos rfl] at h1 h2 ⊢
     cases w <;> cases w' <;> cases w'' <;> simp_all
    ·rw [if_neg f2] at h2 ⊢; exact h2
   ·rw [if_neg f1] at h1
    by_cases f2 : t' = t''
    ·subst f2
     rw [if_neg f1]; exact h1
    ·rw [if_neg f2] at h2
     have h3 := blessT _ _ _ h1 h2
     by_cases f3 : t = t''
     ·subst f3
      rcases lessTri t t with _ | ⟨_, q, _⟩ | ⟨_, q, _⟩
      ·rcases lessTri t t' with e | ⟨_, q, _⟩ | ⟨_, q, _⟩
       ·exact absurd e f1
       ·rw [q] at h2; cases h2
       ·rw [q] at h1; cases h1
      ·rw [q] at h3; cases h3
      ·rw [q] at h3; cases h3
     ·rw [if_neg f3]; exact h3
  ·rw [if_neg e2] at h2 ⊢; exact h2
 ·rw [if_neg e1] at h1
  by_cases e2 : r' = r''
  ·subst e2
   rw [if_neg e1]; exact h1
  ·rw [if_neg e2] at h2
   have h3 := blessT _ _ _ h1 h2
   by_cases e3 : r = r''
   ·subst e3
    rcases lessTri r r' with e | ⟨_, q, _⟩ | ⟨_, q, _⟩
    ·exact absurd e e1
    ·rw [q] at h2; cases h2
    ·rw [q] at h1; cases h1
   ·rw [if_neg e3]; exact h3
def Ris (l : List Gr) : Prop := l.Pairwise fun x y => glt x y = true
def risB : List Gr → Bool
 | [] => true
 | [_] => true
 | a :: b :: r => glt a b && risB (b :: r)
theorem ris_of : ∀ {l : List Gr}, risB l = true → Ris l
 | [], _ => List.Pairwise.nil
 | [a], _ => List.pairwise_singleton _ _
 | a :: b :: r, h => by
  simp only [risB, Bool.and_eq_true] at h
  have ih := ris_of h.2
  refine List.pairwise_cons.2 ⟨fun y hy => ?_, ih⟩
  rcases List.mem_cons.1 hy with rfl | hy
  ·exact h.1
  ·exact glt_trans h.1 ((List.pairwise_cons.1 ih).1 y hy)
theorem of_ris : ∀ {l : List Gr}, Ris l → risB l = true
 | [], _ => rfl
 | [a], _ => rfl
 | a :: b :: r, h => by
  simp only [risB, Bool.and_eq_true]
  exact ⟨(List.pairwise_cons.1 h).1 b (by simp), of_ris (List.pairwise_cons.1 h).2⟩
def addG (l : List Gr) (g : Gr) : List Gr := if g ∈ l then l else l.takeWhile (fun x => !decide (0 < gord x g)) ++ g :: l.dropWhile (fun x => !decide (0 < gord x g))
def withG (l : List Gr) (g : Gr) : List Gr := l.filter (fun x => glt x g) ++ g :: l.filter (fun x => glt g x)
def delG (l : List Gr) (g : Gr) : List Gr := l.filter fun x => !decide (x = g)
theorem filter_nil_of {p : Gr → Bool} {l : List Gr} (h : ∀ x ∈ l, p x = false) : l.filter p = [] := List.filter_eq_nil_iff.2 fun x hx => by rw [h x hx]; simp
theorem filter_all_of {p : Gr → Bool} {l : List Gr} (h : ∀ x ∈ l, p x = true) : l.filter p = l := List.filter_eq_self.2 h
theorem add_eq : ∀ {l : List Gr}, Ris l → ∀ g, addG l g = withG l g
 | [], _, g => by simp [addG, withG]
 | x :: r, h, g => by
  have h1 := (List.pairwise_cons.1 h).1
  have h2 := (List.pairwise_cons.1 h).2
  have ih := add_eq h2 g
  rcases gord_tri x g with ⟨e0, e, e1, e2⟩ | ⟨e0, e, e1, e2⟩ | ⟨e0, e, e1, e2⟩
  ·subst e
   unfold addG withG
   rw [if_pos (by simp), List.filter_cons, List.filter_cons, glt_self, filter_nil_of (p := fun y => glt y x) fun y hy => glt_asymm (h1 y hy), filter_all_of (p := fun y => glt x y) h1]
   simp
  ·have hw : withG (x :: r) g = x :: withG r g := by
    unfold withG
    rw [List.filter_cons, List.filter_cons, if_pos e1, if_neg (by rw [e2]; simp), List.cons_append]
   rw [hw, ← ih]
   unfold addG
   by_cases hm : g ∈ r
   ·rw [if_pos hm, if_pos (by simp [hm])]
   ·rw [if_neg hm, if_neg (by simp [hm, Ne.symm e]), List.takeWhile_cons, List.dropWhile_cons, e0]
    simp
  ·have hn : g ∉ x :: r := fun hm => by
    rcases List.mem_cons.1 hm with rfl | hm
    ·exact e rfl
    ·have := glt_asymm (h1 g hm); rw [e2] at this; cases this
   unfold addG withG
   rw [if_neg hn, List.takeWhile_cons, List.dropWhile_cons, e0, filter_nil_of (p := fun y => glt y g) (l := x :: r) fun y hy => ?_, filter_all_of (p := fun y => glt g y) (l := x :: r) fun y hy => ?_]
   ·simp
   ·rcases List.mem_cons.1 hy with rfl | hy
    ·exact e2
    ·exact glt_trans e2 (h1 y hy)
   ·rcases List.mem_cons.1 hy with rfl | hy
    ·exact e1
    ·exact glt_asymm (glt_trans e2 (h1 y hy))
end Go.Proofs.YtchilcchogcibaaGreatDoor
namespace Go.Proofs.YtchilcchogcibaaGreatDoor
open Go.ChangeShapes Go.WideShapes Go.ChangeAt Go.RowKit Go.Deep Go.Joins
theorem open_wide {H : Type} {enc : TypeId × Value → H} {W : World} {fuel : Nat} {t e : TypeId} {cs : List Value} {x : DataW H × List MemPlace} {α : Type} (z : α) (k : Nat) (G : α → List Value → Prop)
  (ht : Tryz.prog.underlying t = some (.slice e)) (h1 : Tryz.prog.cellsOf e = k) (hk : 0 < k)
  (hG : ∀ (f : Nat) (v : List Value) (y : DataW H × List MemPlace), v.length = k → DataW.trod enc Tryz.prog W 0 (fun _ => true) true f e v = some y → ∃ a, G a v)
  (h : DataW.trod enc Tryz.prog W 0 (fun _ => true) true fuel t cs = some x) :
  ∃ (A : Option Addr) (l : List α) (c : Nat), cs = [.slice A l.length c] ∧ l.length ≤ c ∧ c ≤ maxLen ∧ (0 < l.length → ∃ b off, A = some ⟨b, off, none⟩ ∧ b < W.heap.size ∧ ∀ i a, l[i]? = some a → ∃ v : List Value, G a v ∧ ∀ j, j < k → W.cell? ⟨b, off + i * k + j, none⟩ = v[j]?) := by
 rcases DataW.trod_slice ht h with ⟨rfl, _⟩ | ⟨a, len, cap, elems, rest, n', hn, rfl, _, _, hl, hm, hlen, hel, _, _⟩
 ·exact ⟨none, [], 0, rfl, Nat.le_refl _, Nat.zero_le _, fun h => absurd h (by simp)⟩
 ·rw [h1] at hel
  have key : ∀ i, i < len → ∃ (g : α) (v : List Value), v.length = k ∧ G g v ∧ ∀ j, j < k → W.cell? ((a.add (i * k)).add j) = v[j]? := by
   intro i hi
   have hb := hel i hi
   rw [List.getElem?_eq_getElem (by omega)] at hb
   obtain ⟨cs', hc, ht'⟩ := Option.bind_eq_some_iff.1 hb
   obtain ⟨_, hcl, hat⟩ := World.cells?_some hc
   obtain ⟨g, hg⟩ := hG _ _ _ hcl ht'
   exact ⟨g, cs', hcl, hg, hat⟩
  have key2 : ∃ f : Nat → α, ∀ i, i < len → ∃ v : List Value, v.length = k ∧ G (f i) v ∧ ∀ j, j < k → W.cell? ((a.add (i * k)).add j) = v[j]? := by
   refine ⟨fun i => if h : i < len then (key i h).choose else z, fun i h => ?_⟩
   simp only [h, dite_true]
   exact (key i h).choose_spec
  obtain ⟨f, hfk⟩ := key2
  refine ⟨some a, (List.range len).map f, cap, by simp, by simpa using hl, hm, ?_⟩
  intro hpos
  obtain ⟨v0, hv0, _, h0⟩ := hfk 0 (by simpa using hpos)
  have h00 := h0 0 hk
  rw [List.getElem?_eq_getElem (by omega)] at h00
  have hspot : a.spot = none := by simpa [Addr.add] using World.cell?_spot h00
  obtain ⟨b, off, spot⟩ := a
  simp only at hspot
  subst hspot
  have hb : b < W.heap.size := by
   have := World.block_lt_of_cell? W _ h00
   simpa [add_mid] using this
  refine ⟨b, off, rfl, hb, fun i x hx => ?_⟩
  rw [List.getElem?_map] at hx
  by_cases hil : i < len
  ·rw [List.getElem?_range hil] at hx
   simp at hx
   subst hx
   obtain ⟨v, _, hg, hv⟩ := hfk i hil
   refine ⟨v, hg, fun j hj => ?_⟩
   have := hv j hj
   rw [add_mid, add_mid] at this
   exact this
  ·rw [List.getElem?_eq_none (by simpa using hil)] at hx
   simp at hx
theorem cellsB1 : Tryz.prog.cellsOf 4 = 1 := by kernel_rfl
theorem cellsSs : Tryz.prog.cellsOf 23 = 1 := by kernel_rfl
theorem cellsCs : Tryz.prog.cellsOf 24 = 1 := by kernel_rfl
theorem cellsRs : Tryz.prog.cellsOf 25 = 1 := by kernel_rfl
theorem cellsVs : Tryz.prog.cellsOf 31 = 1 := by kernel_rfl
theorem cellsSets : Tryz.prog.cellsOf 32 = 1 := by kernel_rfl
theorem cellsRf : Tryz.prog.cellsOf 74 = 2 := by kernel_rfl
theorem cellsSe : Tryz.prog.cellsOf 76 = 7 := by kernel_rfl
theorem cellsGr : Tryz.prog.cellsOf 54 = 3 := by kernel_rfl
theorem cellsSt : Tryz.prog.cellsOf 34 = 23 := by kernel_rfl
theorem open_strs_t {H : Type} {enc : TypeId × Value → H} {W : World} {fuel : Nat} {cs : List Value} {x : DataW H × List MemPlace} (hf : DataW.trod enc Tryz.prog W 0 (fun _ => true) true fuel 23 cs = some x) :
  ∃ (A : Option Addr) (l : List (List UInt8)) (c : Nat), cs = [.slice A l.length c] ∧ l.length ≤ c ∧ c ≤ maxLen ∧ SQ l A (Old W.heap.size) W ∧ ∀ s ∈ l, s.length ≤ maxLen := by
 obtain ⟨A, l, c, h1, h2, h3, h4⟩ := open_wide ([] : List UInt8) 1 (fun s v => v = [.string ⟨s.toArray⟩] ∧ s.length ≤ maxLen) Tryz.underlying23 cells1s (by decide) (fun f v y hl h => by
  obtain ⟨s, e, _, ws⟩ := DataW.trod_string Tryz.underlying9 h
  exact ⟨s.data.toList, e, str_len ws⟩) hf
 refine ⟨A, l, c, h1, h2, h3, fun hl => ?_, fun s hs => ?_⟩
 ·obtain ⟨b, off, rfl, hb, hr⟩ := h4 hl
  refine ⟨b, off, rfl, hb, fun i n hn => ?_⟩
  obtain ⟨v, ⟨rfl, _⟩, hc⟩ := hr i n hn
  have := hc 0 (by decide)
  simpa using this
 ·obtain ⟨i, hi⟩ := List.mem_iff_getElem?.1 hs
  have hpos : 0 < l.length := by have := (List.getElem?_eq_some_iff.1 hi).1; omega
  obtain ⟨b, off, _, _, hr⟩ := h4 hpos
  obtain ⟨v, ⟨_, ho⟩, _⟩ := hr i s hi
  exact ho
theorem open_refs_t {H : Type} {enc : TypeId × Value → H} {W : World} {fuel : Nat} {cs : List Value} {x : DataW H × List MemPlace} (hf : DataW.trod enc Tryz.prog W 0 (fun _ => true) true fuel 25 cs = some x) :
  ∃ (A : Option Addr) (l : List Rf) (c : Nat), cs = [.slice A l.length c] ∧ l.length ≤ c ∧ c ≤ maxLen ∧ XQ l A (Old W.heap.size) W ∧ ∀ s ∈ l, s.c.length ≤ maxLen ∧ s.t.length ≤ maxLen := by
 obtain ⟨A, l, c, h1, h2, h3, h4⟩ := open_wide (⟨[], []⟩ : Rf) 2 (fun s v => v = [.string ⟨s.c.toArray⟩, .string ⟨s.t.toArray⟩] ∧ s.c.length ≤ maxLen ∧ s.t.length ≤ maxLen) Tryz.underlying25 cellsRf (by decide) (fun f v y hl h => by
  obtain ⟨ys, n, _, _, hcl, hlen, hg⟩ := DataW.trod_struct Tryz.underlying74 h
  match v, hl with
  | [c0, c1], _ =>
   match ys, hlen with
   | [y0, y1], _ =>
    have t0 : DataW.trod enc Tryz.prog W 0 (fun _ => true) true n 9 (([c0, c1].drop 0).take (Tryz.prog.cellsOf 9)) = some y0 := hg 0 _ rfl
    have t1 : DataW.trod enc Tryz.prog W 0 (fun _ => true) true n 9 (([c0, c1].drop 1).take (Tryz.prog.cellsOf 9)) = some y1 := hg 1 _ rfl
    rw [cells1s] at t0 t1
    obtain ⟨s, e0, _, w0⟩ := DataW.trod_string Tryz.underlying9 t0
    obtain ⟨u, e1, _, w1⟩ := DataW.trod_string Tryz.underlying9 t1
    simp at e0 e1
    subst e0 e1
    exact ⟨⟨s.data.toList, u.data.toList⟩, rfl, str_len w0, str_len w1⟩) hf
 refine ⟨A, l, c, h1, h2, h3, fun hl => ?_, fun s hs => ?_⟩
 ·obtain ⟨b, off, rfl, hb, hr⟩ := h4 hl
  refine ⟨b, off, rfl, hb, fun i n hn => ?_⟩
  obtain ⟨v, ⟨rfl, _⟩, hc⟩ := hr i n hn
  exact ⟨hc 0 (by decide), hc 1 (by decide)⟩
 ·obtain ⟨i, hi⟩ := List.mem_iff_getElem?.1 hs
  have hpos : 0 < l.length := by have := (List.getElem?_eq_some_iff.1 hi).1; omega
  obtain ⟨b, off, _, _, hr⟩ := h4 hpos
  obtain ⟨v, ⟨_, ho⟩, _⟩ := hr i s hi
  exact ho
theorem open_grs_t {H : Type} {enc : TypeId × Value → H} {W : World} {fuel : Nat} {cs : List Value} {x : DataW H × List MemPlace} (hf : DataW.trod enc Tryz.prog W 0 (fun _ => true) true fuel 22 cs = some x) :
  ∃ (A : Option Addr) (l : List Gr) (c : Nat), cs = [.slice A l.length c] ∧ l.length ≤ c ∧ c ≤ maxLen ∧ GQ l A (Old W.heap.size) W ∧ ∀ s ∈ l, s.r.length ≤ maxLen ∧ s.t.length ≤ maxLen := by
 obtain ⟨A, l, c, h1, h2, h3, h4⟩ := open_wide (⟨[], [], false⟩ : Gr) 3 (fun s v => v = [.string ⟨s.r.toArray⟩, .string ⟨s.t.toArray⟩, .bool s.w] ∧ s.r.length ≤ maxLen ∧ s.t.length ≤ maxLen) Tryz.underlying22 cellsGr (by decide) (fun f v y hl h => by
  obtain ⟨ys, n, _, _, hcl, hlen, hg⟩ := DataW.trod_struct Tryz.underlying54 h
  match v, hl with
  | [c0, c1, c2], _ =>
   match ys, hlen with
   | [y0, y1, y2], _ =>
    have t0 : DataW.trod enc Tryz.prog W 0 (fun _ => true) true n 9 (([c0, c1, c2].drop 0).take (Tryz.prog.cellsOf 9)) = some y0 := hg 0 _ rfl
    have t1 : DataW.trod enc Tryz.prog W 0 (fun _ => true) true n 9 (([c0, c1, c2].drop 1).take (Tryz.prog.cellsOf 9)) = some y1 := hg 1 _ rfl
    have t2 : DataW.trod enc Tryz.prog W 0 (fun _ => true) true n 4 (([c0, c1, c2].drop 2).take (Tryz.prog.cellsOf 4)) = some y2 := hg 2 _ rfl
    rw [cells1s] at t0 t1
    rw [cellsB1] at t2
    obtain ⟨s, e0, _, w0⟩ := DataW.trod_string Tryz.underlying9 t0
    obtain ⟨u, e1, _, w1⟩ := DataW.trod_string Tryz.underlying9 t1
    obtain ⟨b, e2, _⟩ := DataW.trod_bool Tryz.underlying4 t2
    simp at e0 e1 e2
    subst e0 e1 e2
    exact ⟨⟨s.data.toList, u.data.toList, b⟩, rfl, str_len w0, str_len w1⟩) hf
 refine ⟨A, l, c, h1, h2, h3, fun hl => ?_, fun s hs => ?_⟩
 ·obtain ⟨b, off, rfl, hb, hr⟩ := h4 hl
  refine ⟨b, off, rfl, hb, fun i n hn => ?_⟩
  obtain ⟨v, ⟨rfl, _⟩, hc⟩ := hr i n hn
  exact ⟨hc 0 (by decide), hc 1 (by decide), hc 2 (by decide)⟩
 ·obtain ⟨i, hi⟩ := List.mem_iff_getElem?.1 hs
  have hpos : 0 < l.length := by have := (List.getElem?_eq_some_iff.1 hi).1; omega
  obtain ⟨b, off, _, _, hr⟩ := h4 hpos
  obtain ⟨v, ⟨_, ho⟩, _⟩ := hr i s hi
  exact ho
def Se.cells (s : Se) (A : Option Addr) (c : Nat) : List Value := .string ⟨s.n.toArray⟩ :: s.e.cells A c
theorem open_sets_t {H : Type} {enc : TypeId × Value → H} {W : World} {fuel : Nat} {cs : List Value} {x : DataW H × List MemPlace} (hf : DataW.trod enc Tryz.prog W 0 (fun _ => true) true fuel 32 cs = some x) :
  ∃ (A : Option Addr) (l : List Se) (c n : Nat), cs = [.slice A l.length c] ∧ l.length ≤ c ∧ c ≤ maxLen ∧ ZQ maxLen n l A (Old W.heap.size) W ∧ ∀ s ∈ l, s.n.length ≤ maxLen := by
 obtain ⟨A, l, c, h1, h2, h3, h4⟩ := open_wide (⟨[], .mk [] V.zero [] []⟩ : Se) 7 (fun s v => ∃ (A' : Option Addr) (c' m : Nat), v = s.cells A' c' ∧ s.n.length ≤ maxLen ∧ s.e.fit maxLen ∧ s.e.l.length ≤ c' ∧ c' ≤ maxLen ∧ ExQ maxLen m W (Old W.heap.size) A' s.e.l) Tryz.underlying32 cellsSe (by decide) (fun f v y hl h => by
  obtain ⟨ys, n, _, _, hcl, hlen, hg⟩ := DataW.trod_struct Tryz.underlying76 h
  match v, hl with
  | [c0, c1, c2, c3, c4, c5, c6], _ =>
   match ys, hlen with
   | [y0, y1], _ =>
    have t0 : DataW.trod enc Tryz.prog W 0 (fun _ => true) true n 9 (([c0, c1, c2, c3, c4, c5, c6].drop 0).take (Tryz.prog.cellsOf 9)) = some y0 := hg 0 _ rfl
    have t1 : DataW.trod enc Tryz.prog W 0 (fun _ => true) true n 30 (([c0, c1, c2, c3, c4, c5, c6].drop 1).take (Tryz.prog.cellsOf 30)) = some y1 := hg 1 _ rfl
    rw [cells1s] at t0
    rw [cellsE] at t1
    obtain ⟨s, e0, _, w0⟩ := DataW.trod_string Tryz.underlying9 t0
    obtain ⟨e, A4, k4, e5, f1, f2, f3, f4⟩ := (open_ex_both n).1 _ _ t1
    simp at e0
    subst e0
    refine ⟨⟨s.data.toList, e⟩, A4, k4, n, ?_, str_len w0, f1, f2, f3, f4.toQ n⟩
    have e5' : [c1, c2, c3, c4, c5, c6] = e.cells A4 k4 := e5
    show _ = _ :: _
    rw [← e5']) hf
 have hall : ∀ s ∈ l, ∃ (A' : Option Addr) (c' m : Nat), s.n.length ≤ maxLen ∧ s.e.fit maxLen ∧ s.e.l.length ≤ c' ∧ c' ≤ maxLen ∧ ExQ maxLen m W (Old W.heap.size) A' s.e.l := by
  intro s hs
  obtain ⟨i, hi⟩ := List.mem_iff_getElem?.1 hs
  have hpos : 0 < l.length := by have := (List.getElem?_eq_some_iff.1 hi).1; omega
  obtain ⟨b, off, _, _, hr⟩ := h4 hpos
  obtain ⟨v, ⟨A', c', m, _, g1, g2, g3, g4, g5⟩, _⟩ := hr i s hi
  exact ⟨A', c', m, g1, g2, g3, g4, g5⟩
 have hmax : ∃ n, 0 < l.length → ∃ b off, A = some ⟨b, off, none⟩ ∧ b < W.heap.size ∧ ∀ i s, l[i]? = some s → ∃ (A' : Option Addr) (c' : Nat), s.n.length ≤ maxLen ∧ s.e.fit maxLen ∧ s.e.l.length ≤ c' ∧ c' ≤ maxLen ∧ ExQ maxLen n W (Old W.heap.size) A' s.e.l ∧ ∀ j, j < 7 → W.cell? ⟨b, off + i * 7 + j, none⟩ = (s.cells A' c')[j]? := by
  rcases Nat.eq_zero_or_pos l.length with h0 | h0
  ·exact ⟨0, fun h => by omega⟩
  obtain ⟨b, off, hA, hb, hr⟩ := h4 h0
  have hN : ∀ k, k ≤ l.length → ∃ n, ∀ i s, i < k → l[i]? = some s → ∃ (A' : Option Addr) (c' : Nat), s.n.length ≤ maxLen ∧ s.e.fit maxLen ∧ s.e.l.length ≤ c' ∧ c' ≤ maxLen ∧ ExQ maxLen n W (Old W.heap.size) A' s.e.l ∧ ∀ j, j < 7 → W.cell? ⟨b, off + i * 7 + j, none⟩ = (s.cells A' c')[j]? := by
   intro k
   induction k with
   | zero => intro _; exact ⟨0, fun i s h => absurd h (by omega)⟩
   | succ k ih =>
    intro hk
    obtain ⟨n, hn⟩ := ih (by omega)
    obtain ⟨v, ⟨A', c', m, rfl, g1, g2, g3, g4, g5⟩, hc⟩ := hr k _ (List.getElem?_eq_getElem (by omega))
    refine ⟨n + m, fun i s hi hs => ?_⟩
    by_cases e : i = k
    ·subst e
     rw [List.getElem?_eq_getElem (by omega)] at hs
     injection hs with hs
     subst hs
     exact ⟨A', c', g1, g2, g3, g4, g5.ups (n + m) (by omega), hc⟩
    ·obtain ⟨A2, c2, q1, q2, q3, q4, q5, q6⟩ := hn i s (by omega) hs
     exact ⟨A2, c2, q1, q2, q3, q4, q5.ups (n + m) (by omega), q6⟩
  obtain ⟨n, hn⟩ := hN l.length (Nat.le_refl _)
  exact ⟨n, fun _ => ⟨b, off, hA, hb, fun i s hs => hn i s (List.getElem?_eq_some_iff.1 hs).1 hs⟩⟩
 obtain ⟨n, hn⟩ := hmax
 refine ⟨A, l, c, n, h1, h2, h3, fun hl => ?_, fun s hs => ?_⟩
 ·obtain ⟨b, off, rfl, hb, hr⟩ := hn hl
  refine ⟨b, off, rfl, hb, fun i s hs => ?_⟩
  obtain ⟨A', c', q1, q2, q3, q4, q5, q6⟩ := hr i s hs
  exact ⟨q6 0 (by decide), A', c', q2, q3, q4, ⟨q6 1 (by decide), q6 2 (by decide), q6 3 (by decide), q6 4 (by decide), q6 5 (by decide), q6 6 (by decide)⟩, q5⟩
 ·obtain ⟨_, _, _, q, _⟩ := hall s hs
  exact q
structure St.big (s : St) : Prop where
 op : s.op.length ≤ maxLen
 tb : s.tb.length ≤ maxLen
 ot : s.ot.length ≤ maxLen
 key : s.key.length ≤ maxLen
 role : s.role.length ≤ maxLen
 nN : s.names.length ≤ maxLen
 nC : s.cols.length ≤ maxLen
 nU : s.uniq.length ≤ maxLen
 nR : s.refs.length ≤ maxLen
 nW : s.row.length ≤ maxLen
 nS : s.sets.length ≤ maxLen
 names : ∀ x ∈ s.names, x.length ≤ maxLen
 cols : ∀ c ∈ s.cols, c.n.length ≤ maxLen
 uniq : ∀ x ∈ s.uniq, x.length ≤ maxLen
 refs : ∀ x ∈ s.refs, x.c.length ≤ maxLen ∧ x.t.length ≤ maxLen
 chk : s.chk.fit maxLen
 whr : s.whr.fit maxLen
 chkL : s.chk.l.length ≤ maxLen
 whrL : s.whr.l.length ≤ maxLen
 row : ∀ v ∈ s.row, v.ok
 sets : ∀ x ∈ s.sets, x.n.length ≤ maxLen
theorem open_st_t {H : Type} {enc : TypeId × Value → H} {W : World} {fuel : Nat} {cs : List Value} {x : DataW H × List MemPlace} (hf : DataW.trod enc Tryz.prog W 0 (fun _ => true) true fuel 34 cs = some x) :
  ∃ (s : St) (p : StP), cs = s.cells p ∧ s.big ∧ StQ maxLen s p (Old W.heap.size) W := by
 obtain ⟨ys, n, _, _, hcl, hlen, hg⟩ := DataW.trod_struct Tryz.underlying34 hf
 rw [cellsSt] at hcl
 match cs, hcl with
 | [c0, c1, c2, c3, c4, c5, c6, c7, c8, c9, c10, c11, c12, c13, c14, c15, c16, c17, c18, c19, c20, c21, c22], _ =>
  match ys, hlen with
  | [y0, y1, y2, y3, y4, y5, y6, y7, y8, y9, y10, y11, y12], _ =>
   obtain ⟨cs, hcs⟩ : ∃ cs, cs = [c0, c1, c2, c3, c4, c5, c6, c7, c8, c9, c10, c11, c12, c13, c14, c15, c16, c17, c18, c19, c20, c21, c22] := ⟨_, rfl⟩
   rw [← hcs] at hg ⊢
   have t0 : DataW.trod enc Tryz.prog W 0 (fun _ => true) true n 9 ((cs.drop 0).take (Tryz.prog.cellsOf 9)) = some y0 := hg 0 _ rfl
   have t1 : DataW.trod enc Tryz.prog W 0 (fun _ => true) true n 9 ((cs.drop 1).take (Tryz.prog.cellsOf 9)) = some y1 := hg 1 _ rfl
   have t2 : DataW.trod enc Tryz.prog W 0 (fun _ => true) true n 9 ((cs.drop 2).take (Tryz.prog.cellsOf 9)) = some y2 := hg 2 _ rfl
   have t3 : DataW.trod enc Tryz.prog W 0 (fun _ => true) true n 23 ((cs.drop 3).take (Tryz.prog.cellsOf 23)) = some y3 := hg 3 _ rfl
   have t4 : DataW.trod enc Tryz.prog W 0 (fun _ => true) true n 24 ((cs.drop 4).take (Tryz.prog.cellsOf 24)) = some y4 := hg 4 _ rfl
   have t5 : DataW.trod enc Tryz.prog W 0 (fun _ => true) true n 9 ((cs.drop 5).take (Tryz.prog.cellsOf 9)) = some y5 := hg 5 _ rfl
   have t6 : DataW.trod enc Tryz.prog W 0 (fun _ => true) true n 23 ((cs.drop 6).take (Tryz.prog.cellsOf 23)) = some y6 := hg 6 _ rfl
   have t7 : DataW.trod enc Tryz.prog W 0 (fun _ => true) true n 25 ((cs.drop 7).take (Tryz.prog.cellsOf 25)) = some y7 := hg 7 _ rfl
   have t8 : DataW.trod enc Tryz.prog W 0 (fun _ => true) true n 30 ((cs.drop 8).take (Tryz.prog.cellsOf 30)) = some y8 := hg 8 _ rfl
   have t9 : DataW.trod enc Tryz.prog W 0 (fun _ => true) true n 31 ((cs.drop 14).take (Tryz.prog.cellsOf 31)) = some y9 := hg 9 _ rfl
   have t10 : DataW.trod enc Tryz.prog W 0 (fun _ => true) true n 32 ((cs.drop 15).take (Tryz.prog.cellsOf 32)) = some y10 := hg 10 _ rfl
   have t11 : DataW.trod enc Tryz.prog W 0 (fun _ => true) true n 30 ((cs.drop 16).take (Tryz.prog.cellsOf 30)) = some y11 := hg 11 _ rfl
   have t12 : DataW.trod enc Tryz.prog W 0 (fun _ => true) true n 9 ((cs.drop 22).take (Tryz.prog.cellsOf 9)) = some y12 := hg 12 _ rfl
   clear hg hf
   subst hcs
   rw [cells1s] at t0 t1 t2 t5 t12
   rw [cellsSs] at t3 t6
   rw [cellsCs] at t4
   rw [cellsRs] at t7
   rw [cellsE] at t8 t11
   rw [cellsVs] at t9
   rw [cellsSets] at t10
   obtain ⟨s0, e0, _, w0⟩ := DataW.trod_string Tryz.underlying9 t0
   obtain ⟨s1, e1, _, w1⟩ := DataW.trod_string Tryz.underlying9 t1
   obtain ⟨s2, e2, _, w2⟩ := DataW.trod_string Tryz.underlying9 t2
   obtain ⟨A3, l3, k3, e3, g3, g3', h3, n3⟩ := open_strs_t t3
   obtain ⟨A4, l4, k4, e4, g4, g4', h4, n4⟩ := open_cols_t t4
   obtain ⟨s5, e5, _, w5⟩ := DataW.trod_string Tryz.underlying9 t5
   obtain ⟨A6, l6, k6, e6, g6, g6', h6, n6⟩ := open_strs_t t6
   obtain ⟨A7, l7, k7, e7, g7, g7', h7, n7⟩ := open_refs_t t7
   obtain ⟨x8, A8, k8, e8, f8, g8, g8', h8⟩ := (open_ex_both n).1 _ _ t8
   obtain ⟨A9, l9, k9, e9, g9, g9', h9, n9⟩ := open_vals_t t9
   obtain ⟨A10, l10, k10, m10, e10, g10, g10', h10, n10⟩ := open_sets_t t10
   obtain ⟨x11, A11, k11, e11, f11, g11, g11', h11⟩ := (open_ex_both n).1 _ _ t11
   obtain ⟨s12, e12, _, w12⟩ := DataW.trod_string Tryz.underlying9 t12
   clear t0 t1 t2 t3 t4 t5 t6 t7 t8 t9 t10 t11 t12
   simp only [List.drop_zero, List.drop_succ_cons, List.take_succ_cons, List.take_zero, List.cons.injEq, and_true] at e0 e1 e2 e3 e4 e5 e6 e7 e9 e10 e12
   have e8' : [c8, c9, c10, c11, c12, c13] = x8.cells A8 k8 := e8
   have e11' : [c16, c17, c18, c19, c20, c21] = x11.cells A11 k11 := e11
   clear e8 e11
   simp only [Ex.cells, List.cons.injEq, and_true] at e8' e11'
   obtain ⟨rfl, rfl, rfl, rfl, rfl, rfl⟩ := e8'
   obtain ⟨rfl, rfl, rfl, rfl, rfl, rfl⟩ := e11'
   subst e0 e1 e2 e3 e4 e5 e6 e7 e9 e10 e12
   exact ⟨⟨s0.data.toList, s1.data.toList, s2.data.toList, l3, l4, s5.data.toList, l6, l7, x8, l9, l10, x11, s12.data.toList⟩, ⟨⟨A3, k3⟩, ⟨A4, k4⟩, ⟨A6, k6⟩, ⟨A7, k7⟩, ⟨A8, k8⟩, ⟨A9, k9⟩, ⟨A10, k10⟩, ⟨A11, k11⟩⟩, rfl,
    ⟨str_len w0, str_len w1, str_len w2, str_len w5, str_len w12, Nat.le_trans g3 g3', Nat.le_trans g4 g4', Nat.le_trans g6 g6', Nat.le_trans g7 g7', Nat.le_trans g9 g9', Nat.le_trans g10 g10', n3, n4, n6, n7, f8, f11, Nat.le_trans g8 g8', Nat.le_trans g11 g11', n9, n10⟩,
    ⟨h3, h4, h6, h7, ⟨n, h8.toQ n⟩, h9, ⟨m10, h10⟩, ⟨n, h11.toQ n⟩⟩⟩
theorem open_st {H : Type} {enc : TypeId × Value → H} {W : World} {base : Nat} {v : Value} {d : DataW H} {p : List MemPlace}
  (hv : Value.okWide Tryz.prog W .any base 34 v) (h : DataW.Trod enc Tryz.prog W 0 (fun _ => true) true 34 v d p) :
  ∃ (s : St) (q : StP), v = .agg (s.cells q).toArray ∧ s.big ∧ StQ maxLen s q (Old W.heap.size) W := by
 obtain ⟨cs, rfl, _⟩ := okWide_struct Tryz.underlying34 hv
 obtain ⟨fuel, hf⟩ := h
 obtain ⟨x, q, hcs, h1, h2⟩ := open_st_t hf
 refine ⟨x, q, ?_, h1, h2⟩
 have : cs.toList = x.cells q := by simpa [Value.cells] using hcs
 rw [← this]
theorem open_grs {H : Type} {enc : TypeId × Value → H} {W : World} {base : Nat} {v : Value} {d : DataW H} {p : List MemPlace}
  (hv : Value.okWide Tryz.prog W .any base 22 v) (h : DataW.Trod enc Tryz.prog W 0 (fun _ => true) true 22 v d p) :
  ∃ (A : Option Addr) (l : List Gr) (c : Nat), v = .slice A l.length c ∧ l.length ≤ maxLen ∧ GQ l A (Old W.heap.size) W ∧ ∀ s ∈ l, s.r.length ≤ maxLen ∧ s.t.length ≤ maxLen := by
 obtain ⟨a0, len0, cap0, rfl⟩ := okWide_slice Tryz.underlying22 hv
 obtain ⟨fuel, hf⟩ := h
 obtain ⟨A, l, c, hcs, h1, h2, h3, h4⟩ := open_grs_t hf
 exact ⟨A, l, c, by simpa [Value.cells] using hcs, Nat.le_trans h1 h2, h3, h4⟩
end Go.Proofs.YtchilcchogcibaaGreatDoor
