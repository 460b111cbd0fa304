/- Tables with rows in memory. Nothing of the program stands here. -/
import Derived.Test.YtdhjogmkhbpcgaaGreatExQ
import Derived.Test.YtdhjogmkhbpcgaaGreatFewsM
import Derived.Test.YtdhjogmkhbpcgaaGreatInts
import Derived.Test.YtdhjogmkhbpcgaaGreatExLaw3
import Derived.Test.YtdhjogmkhbpcgaaGreatExprLaw4
namespace Go.Proofs.YtdhjogmkhbpcgaaGreat
open Go.RowKit

/-- A column's place, and a table's name. -/
structure Fr where
  c : Int
  t : List UInt8
/-- A table. -/
structure Tb where
  n : List UInt8
  cols : List Col
  key : Int
  uniq : List Int
  refs : List Fr
  chk : Ex
/-- A table with rows. -/
structure Rl where
  t : Tb
  rows : List (List V)
/-- Where a slice lies, and how many it could hold. -/
structure Sl where
  a : Option Addr
  c : Nat
structure TbP where
  cols : Sl
  uniq : Sl
  refs : Sl
  chk : Sl
structure RlP where
  t : TbP
  rows : Sl
def Tb.cells (t : Tb) (p : TbP) : List Value :=
  [.string ⟨t.n.toArray⟩, .slice p.cols.a t.cols.length p.cols.c, .int .i64 t.key, .slice p.uniq.a t.uniq.length p.uniq.c, .slice p.refs.a t.refs.length p.refs.c,
    .string ⟨t.chk.op.toArray⟩, .int .i64 t.chk.v.k, .int .i64 t.chk.v.i, .string ⟨t.chk.v.s.toArray⟩, .string ⟨t.chk.s.toArray⟩, .slice p.chk.a t.chk.l.length p.chk.c]
def Rl.cells (x : Rl) (p : RlP) : List Value :=
  [.string ⟨x.t.n.toArray⟩, .slice p.t.cols.a x.t.cols.length p.t.cols.c, .int .i64 x.t.key, .slice p.t.uniq.a x.t.uniq.length p.t.uniq.c, .slice p.t.refs.a x.t.refs.length p.t.refs.c,
    .string ⟨x.t.chk.op.toArray⟩, .int .i64 x.t.chk.v.k, .int .i64 x.t.chk.v.i, .string ⟨x.t.chk.v.s.toArray⟩, .string ⟨x.t.chk.s.toArray⟩, .slice p.t.chk.a x.t.chk.l.length p.t.chk.c, .slice p.rows.a x.rows.length p.rows.c]

/-- Slices whose block is of a kind. -/
def CQ (l : List Col) (A : Option Addr) (Q : Nat → Prop) (w : World) : Prop := 0 < l.length → ∃ b off, A = some ⟨b, off, none⟩ ∧ Q b ∧ ColRow w b off l
def WQ (l : List V) (A : Option Addr) (Q : Nat → Prop) (w : World) : Prop := 0 < l.length → ∃ b off, A = some ⟨b, off, none⟩ ∧ Q b ∧ VRow w b off l
def IQ (l : List Int) (A : Option Addr) (Q : Nat → Prop) (w : World) : Prop := 0 < l.length → ∃ b off, A = some ⟨b, off, none⟩ ∧ Q b ∧ ∀ i x, l[i]? = some x → w.cell? ⟨b, off + i, none⟩ = some (.int .i64 x)
def FQ (l : List Fr) (A : Option Addr) (Q : Nat → Prop) (w : World) : Prop := 0 < l.length → ∃ b off, A = some ⟨b, off, none⟩ ∧ Q b ∧ ∀ i x, l[i]? = some x → w.cell? ⟨b, off + i * 2, none⟩ = some (.int .i64 x.c) ∧ w.cell? ⟨b, off + i * 2 + 1, none⟩ = some (.string ⟨x.t.toArray⟩)
def RQ (l : List (List V)) (A : Option Addr) (Q : Nat → Prop) (w : World) : Prop := 0 < l.length → ∃ b off, A = some ⟨b, off, none⟩ ∧ Q b ∧ ∀ i r, l[i]? = some r → ∃ A' c', w.cell? ⟨b, off + i, none⟩ = some (.slice A' r.length c') ∧ WQ r A' Q w
section
variable {A : Option Addr} {Q Q' : Nat → Prop} {w w' : World}
theorem CQ.keep {l : List Col} (h : CQ l A Q w) (hk : ∀ b, Q b → Q' b ∧ ∀ o, w'.cell? ⟨b, o, none⟩ = w.cell? ⟨b, o, none⟩) : CQ l A Q' w' := fun hl => by
  obtain ⟨b, off, rfl, h1, h2⟩ := h hl
  refine ⟨b, off, rfl, (hk b h1).1, fun i x hx => ?_⟩
  obtain ⟨c0, c1, c2⟩ := h2 i x hx
  exact ⟨((hk b h1).2 _).trans c0, ((hk b h1).2 _).trans c1, ((hk b h1).2 _).trans c2⟩
theorem WQ.keep {l : List V} (h : WQ l A Q w) (hk : ∀ b, Q b → Q' b ∧ ∀ o, w'.cell? ⟨b, o, none⟩ = w.cell? ⟨b, o, none⟩) : WQ l A Q' w' := fun hl => by
  obtain ⟨b, off, rfl, h1, h2⟩ := h hl
  exact ⟨b, off, rfl, (hk b h1).1, h2.keep (hk b h1).2⟩
theorem IQ.keep {l : List Int} (h : IQ l A Q w) (hk : ∀ b, Q b → Q' b ∧ ∀ o, w'.cell? ⟨b, o, none⟩ = w.cell? ⟨b, o, none⟩) : IQ l A Q' w' := fun hl => by
  obtain ⟨b, off, rfl, h1, h2⟩ := h hl
  exact ⟨b, off, rfl, (hk b h1).1, fun i x hx => ((hk b h1).2 _).trans (h2 i x hx)⟩
theorem FQ.keep {l : List Fr} (h : FQ l A Q w) (hk : ∀ b, Q b → Q' b ∧ ∀ o, w'.cell? ⟨b, o, none⟩ = w.cell? ⟨b, o, none⟩) : FQ l A Q' w' := fun hl => by
  obtain ⟨b, off, rfl, h1, h2⟩ := h hl
  exact ⟨b, off, rfl, (hk b h1).1, fun i x hx => ⟨((hk b h1).2 _).trans (h2 i x hx).1, ((hk b h1).2 _).trans (h2 i x hx).2⟩⟩
theorem RQ.keep {l : List (List V)} (h : RQ l A Q w) (hk : ∀ b, Q b → Q' b ∧ ∀ o, w'.cell? ⟨b, o, none⟩ = w.cell? ⟨b, o, none⟩) : RQ l A Q' w' := fun hl => by
  obtain ⟨b, off, rfl, h1, h2⟩ := h hl
  refine ⟨b, off, rfl, (hk b h1).1, fun i r hr => ?_⟩
  obtain ⟨A', c', h3, h4⟩ := h2 i r hr
  exact ⟨A', c', ((hk b h1).2 _).trans h3, h4.keep hk⟩
theorem CQ.s {l : List Col} (h : CQ l A Q w) {B : Nat} (hq : ∀ b, Q b → b < B) : ColS w B A l := fun hl => by
  obtain ⟨b, off, rfl, h1, h2⟩ := h hl
  exact ⟨b, off, rfl, hq b h1, h2⟩
theorem WQ.s {l : List V} (h : WQ l A Q w) {B : Nat} (hq : ∀ b, Q b → b < B) : VS w B A l := fun hl => by
  obtain ⟨b, off, rfl, h1, h2⟩ := h hl
  exact ⟨b, off, rfl, hq b h1, h2⟩
theorem CQ.ofF {l : List Col} {lo hi : Nat} (h : ColF w lo hi A l) (hq : ∀ b, lo ≤ b → b < hi → Q b) : CQ l A Q w := fun hl => by
  obtain ⟨b, off, rfl, h1, h2, h3⟩ := h hl
  exact ⟨b, off, rfl, hq b h1 h2, h3⟩
theorem WQ.ofF {l : List V} {lo hi : Nat} (h : VF w lo hi A l) (hq : ∀ b, lo ≤ b → b < hi → Q b) : WQ l A Q w := fun hl => by
  obtain ⟨b, off, rfl, h1, h2, h3⟩ := h hl
  exact ⟨b, off, rfl, hq b h1 h2, h3⟩
theorem IQ.ofF {l : List Int} {lo hi : Nat} (h : IF w lo hi A l) (hq : ∀ b, lo ≤ b → b < hi → Q b) : IQ l A Q w := fun hl => by
  obtain ⟨b, off, rfl, h1, h2, h3⟩ := h hl
  exact ⟨b, off, rfl, hq b h1 h2, h3⟩
theorem WQ.nil : WQ [] A Q w := fun h => absurd h (by simp)
theorem CQ.nil : CQ [] A Q w := fun h => absurd h (by simp)
theorem IQ.nil : IQ [] A Q w := fun h => absurd h (by simp)
theorem FQ.nil : FQ [] A Q w := fun h => absurd h (by simp)
theorem RQ.nil : RQ [] A Q w := fun h => absurd h (by simp)
theorem IQ.at_ {l : List Int} (h : IQ l A Q w) {j : Nat} (hj : j < l.length) : ∃ b off x, A = some ⟨b, off, none⟩ ∧ Q b ∧ l[j]? = some x ∧ w.cell? ⟨b, off + j, none⟩ = some (.int .i64 x) := by
  obtain ⟨b, off, rfl, hb, hr⟩ := h (by omega)
  exact ⟨b, off, l[j], rfl, hb, List.getElem?_eq_getElem hj, hr j _ (List.getElem?_eq_getElem hj)⟩
theorem FQ.at_ {l : List Fr} (h : FQ l A Q w) {j : Nat} (hj : j < l.length) : ∃ b off x, A = some ⟨b, off, none⟩ ∧ Q b ∧ l[j]? = some x ∧ w.cell? ⟨b, off + j * 2, none⟩ = some (.int .i64 x.c) ∧ w.cell? ⟨b, off + j * 2 + 1, none⟩ = some (.string ⟨x.t.toArray⟩) := by
  obtain ⟨b, off, rfl, hb, hr⟩ := h (by omega)
  exact ⟨b, off, l[j], rfl, hb, List.getElem?_eq_getElem hj, hr j _ (List.getElem?_eq_getElem hj)⟩
theorem RQ.at_ {l : List (List V)} (h : RQ l A Q w) {j : Nat} (hj : j < l.length) : ∃ b off r A' c', A = some ⟨b, off, none⟩ ∧ Q b ∧ l[j]? = some r ∧ w.cell? ⟨b, off + j, none⟩ = some (.slice A' r.length c') ∧ WQ r A' Q w := by
  obtain ⟨b, off, rfl, hb, hr⟩ := h (by omega)
  obtain ⟨A', c', h1, h2⟩ := hr j _ (List.getElem?_eq_getElem hj)
  exact ⟨b, off, l[j], A', c', rfl, hb, List.getElem?_eq_getElem hj, h1, h2⟩
theorem RQ.take {l : List (List V)} (h : RQ l A Q w) (n : Nat) : RQ (l.take n) A Q w := fun hl => by
  obtain ⟨b, off, rfl, h1, h2⟩ := h (by rw [List.length_take] at hl; omega)
  refine ⟨b, off, rfl, h1, fun i r hr => h2 i r ?_⟩
  rw [List.getElem?_take] at hr
  split at hr
  · exact hr
  · cases hr
end
/-- A table's memory, in blocks of a kind; texts no longer than K in its check. -/
def TbQ (K : Nat) (t : Tb) (p : TbP) (Q : Nat → Prop) (w : World) : Prop := CQ t.cols p.cols.a Q w ∧ IQ t.uniq p.uniq.a Q w ∧ FQ t.refs p.refs.a Q w ∧ ∃ n, ExQ K n w Q p.chk.a t.chk.l
def RlQ (K : Nat) (x : Rl) (p : RlP) (Q : Nat → Prop) (w : World) : Prop := TbQ K x.t p.t Q w ∧ RQ x.rows p.rows.a Q w
theorem TbQ.keep {K : Nat} {t : Tb} {p : TbP} {Q Q' : Nat → Prop} {w w' : World} (h : TbQ K t p Q w) (hk : ∀ b, Q b → Q' b ∧ ∀ o, w'.cell? ⟨b, o, none⟩ = w.cell? ⟨b, o, none⟩) : TbQ K t p Q' w' := by
  obtain ⟨h1, h2, h3, n, h4⟩ := h
  exact ⟨h1.keep hk, h2.keep hk, h3.keep hk, n, h4.keep hk n⟩
theorem RlQ.keep {K : Nat} {x : Rl} {p : RlP} {Q Q' : Nat → Prop} {w w' : World} (h : RlQ K x p Q w) (hk : ∀ b, Q b → Q' b ∧ ∀ o, w'.cell? ⟨b, o, none⟩ = w.cell? ⟨b, o, none⟩) : RlQ K x p Q' w' := ⟨h.1.keep hk, h.2.keep hk⟩
/-- All blocks that there are. -/
def Old (B : Nat) (b : Nat) : Prop := b < B
theorem old_keep {B B' : Nat} {w w' : World} (hb : Below B w w') (hB : B ≤ B') : ∀ b, Old B b → Old B' b ∧ ∀ o, w'.cell? ⟨b, o, none⟩ = w.cell? ⟨b, o, none⟩ := fun b h => ⟨Nat.lt_of_lt_of_le h hB, fun o => hb.cell (p := ⟨b, o, none⟩) h⟩
theorem ExS.toQ {K : Nat} {w : World} {B : Nat} : ∀ (n : Nat) {A : Option Addr} {l : List Ex}, ExS K n w B A l → ExQ K n w (Old B) A l
  | 0, _, _, h => h
  | n + 1, _, _, h => fun hl => by
    obtain ⟨b, off, rfl, hb, hr⟩ := h hl
    refine ⟨b, off, rfl, hb, fun i e he => ?_⟩
    obtain ⟨A', c', hf, h1, h2, h3, h4⟩ := hr i e he
    exact ⟨A', c', hf, h1, h2, h3, h4.toQ n⟩
/-- The sizes of a table with rows that came in. -/
def Rl.big (x : Rl) : Prop := x.t.n.length ≤ maxLen ∧ x.t.cols.length ≤ maxLen ∧ (∀ c ∈ x.t.cols, c.n.length ≤ maxLen) ∧ x.t.uniq.length ≤ maxLen ∧ x.t.refs.length ≤ maxLen ∧ (∀ r ∈ x.t.refs, r.t.length ≤ maxLen) ∧ x.t.chk.fit maxLen ∧ x.t.chk.l.length ≤ maxLen ∧
  x.rows.length ≤ maxLen ∧ ∀ r ∈ x.rows, r.length ≤ maxLen ∧ ∀ v ∈ r, fitI v.i
def Tb.few (t : Tb) : Tb := ⟨t.n.take 20, fewCols t.cols, t.key, t.uniq.take 10, (t.refs.take 10).map fun r => ⟨r.c, r.t.take 20⟩, fewX t.chk⟩
def Rl.few (x : Rl) : Rl := ⟨x.t.few, (x.rows.take (if 200 < x.rows.length then 201 else 40)).map fewL⟩

end Go.Proofs.YtdhjogmkhbpcgaaGreat
