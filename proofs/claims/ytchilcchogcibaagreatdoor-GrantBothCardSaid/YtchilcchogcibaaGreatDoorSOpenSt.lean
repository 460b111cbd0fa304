/- Statements and grants in memory; How arguments of the laws are opened. -/
import Derived.Test.YtchilcchogcibaaGreatDoorSMay
import Derived.Test.YtchilcchogcibaaGreatDoorSOpenS
import Derived.Test.YtchilcchogcibaaGreatDoorSRef1Text
namespace Go.Proofs.YtchilcchogcibaaGreatDoor
open Go.RowKit
/-- A column that refers to a table. -/
structure Rf where
 c : List UInt8
 t : List UInt8
/-- What an UPDATE gives a column. -/
structure Se where
 n : List UInt8
 e : Ex
/-- A statement. -/
structure St where
 op : List UInt8
 tb : List UInt8
 ot : List UInt8
 names : List (List UInt8)
 cols : List Col
 key : List UInt8
 uniq : List (List UInt8)
 refs : List Rf
 chk : Ex
 row : List V
 sets : List Se
 whr : Ex
 role : List UInt8
structure StP where
 names : Sl
 cols : Sl
 uniq : Sl
 refs : Sl
 chk : Sl
 row : Sl
 sets : Sl
 whr : Sl
/-- A grant. -/
structure Gr where
 r : List UInt8
 t : List UInt8
 w : Bool
def St.cells (s : St) (p : StP) : List Value :=
 [.string ⟨s.op.toArray⟩, .string ⟨s.tb.toArray⟩, .string ⟨s.ot.toArray⟩, .slice p.names.a s.names.length p.names.c, .slice p.cols.a s.cols.length p.cols.c, .string ⟨s.key.toArray⟩, .slice p.uniq.a s.uniq.length p.uniq.c, .slice p.refs.a s.refs.length p.refs.c,
  .string ⟨s.chk.op.toArray⟩, .int .i64 s.chk.v.k, .int .i64 s.chk.v.i, .string ⟨s.chk.v.s.toArray⟩, .string ⟨s.chk.s.toArray⟩, .slice p.chk.a s.chk.l.length p.chk.c, .slice p.row.a s.row.length p.row.c, .slice p.sets.a s.sets.length p.sets.c,
  .string ⟨s.whr.op.toArray⟩, .int .i64 s.whr.v.k, .int .i64 s.whr.v.i, .string ⟨s.whr.v.s.toArray⟩, .string ⟨s.whr.s.toArray⟩, .slice p.whr.a s.whr.l.length p.whr.c, .string ⟨s.role.toArray⟩]
/-- Slices of texts, of references, of what is set, of grants, whose block is of a kind. -/
def SQ (l : List (List UInt8)) (A : Option Addr) (Q : Nat → Prop) (w : World) : Prop := 0 < l.length → ∃ b off, A = some ⟨b, off, none⟩ ∧ Q b ∧ ∀ i x, l[i]? = some x → w.cell? ⟨b, off + i, none⟩ = some (.string ⟨x.toArray⟩)
def XQ (l : List Rf) (A : Option Addr) (Q : Nat → Prop) (w : World) : Prop := 0 < l.length → ∃ b off, A = some ⟨b, off, none⟩ ∧ Q b ∧ ∀ i x, l[i]? = some x → w.cell? ⟨b, off + i * 2, none⟩ = some (.string ⟨x.c.toArray⟩) ∧ w.cell? ⟨b, off + i * 2 + 1, none⟩ = some (.string ⟨x.t.toArray⟩)
def ZQ (K n : Nat) (l : List Se) (A : Option Addr) (Q : Nat → Prop) (w : World) : Prop := 0 < l.length → ∃ b off, A = some ⟨b, off, none⟩ ∧ Q b ∧ ∀ i x, l[i]? = some x → w.cell? ⟨b, off + i * 7, none⟩ = some (.string ⟨x.n.toArray⟩) ∧
 ∃ A' c', x.e.fit K ∧ x.e.l.length ≤ c' ∧ c' ≤ maxLen ∧ Six w b (off + i * 7 + 1) x.e A' c' ∧ ExQ K n w Q A' x.e.l
def GQ (l : List Gr) (A : Option Addr) (Q : Nat → Prop) (w : World) : Prop := 0 < l.length → ∃ b off, A = some ⟨b, off, none⟩ ∧ Q b ∧ ∀ i x, l[i]? = some x → w.cell? ⟨b, off + i * 3, none⟩ = some (.string ⟨x.r.toArray⟩) ∧ w.cell? ⟨b, off + i * 3 + 1, none⟩ = some (.string ⟨x.t.toArray⟩) ∧ w.cell? ⟨b, off + i * 3 + 2, none⟩ = some (.bool x.w)
section
variable {A : Option Addr} {Q Q' : Nat → Prop} {w w' : World}
theorem SQ.keep {l : List (List UInt8)} (h : SQ l A Q w) (hk : ∀ b, Q b → Q' b ∧ ∀ o, w'.cell? ⟨b, o, none⟩ = w.cell? ⟨b, o, none⟩) : SQ l A Q' w' := fun hl => by
 obtain ⟨b, off, rfl, h1, h2⟩ := h hl
 exact ⟨b, off, rfl, (hk b h1).1, fun i x hx => ((hk b h1).2 _).trans (h2 i x hx)⟩
theorem XQ.keep {l : List Rf} (h : XQ l A Q w) (hk : ∀ b, Q b → Q' b ∧ ∀ o, w'.cell? ⟨b, o, none⟩ = w.cell? ⟨b, o, none⟩) : XQ l A Q' w' := fun hl => by
 obtain ⟨b, off, rfl, h1, h2⟩ := h hl
 exact ⟨b, off, rfl, (hk b h1).1, fun i x hx => ⟨((hk b h1).2 _).trans (h2 i x hx).1, ((hk b h1).2 _).trans (h2 i x hx).2⟩⟩
theorem ZQ.keep {K n : Nat} {l : List Se} (h : ZQ K n l A Q w) (hk : ∀ b, Q b → Q' b ∧ ∀ o, w'.cell? ⟨b, o, none⟩ = w.cell? ⟨b, o, none⟩) : ZQ K n l A Q' w' := fun hl => by
 obtain ⟨b, off, rfl, h1, h2⟩ := h hl
 refine ⟨b, off, rfl, (hk b h1).1, fun i x hx => ?_⟩
 obtain ⟨c0, A', c', f, g1, g2, g3, g4⟩ := h2 i x hx
 exact ⟨((hk b h1).2 _).trans c0, A', c', f, g1, g2, g3.keep (hk b h1).2, g4.keep hk n⟩
theorem ZQ.ups {K n m : Nat} {l : List Se} (h : ZQ K n l A Q w) (hm : n ≤ m) : ZQ K m l A Q w := fun hl => by
 obtain ⟨b, off, rfl, h1, h2⟩ := h hl
 refine ⟨b, off, rfl, h1, fun i x hx => ?_⟩
 obtain ⟨c0, A', c', f, g1, g2, g3, g4⟩ := h2 i x hx
 exact ⟨c0, A', c', f, g1, g2, g3, g4.ups m hm⟩
theorem GQ.keep {l : List Gr} (h : GQ l A Q w) (hk : ∀ b, Q b → Q' b ∧ ∀ o, w'.cell? ⟨b, o, none⟩ = w.cell? ⟨b, o, none⟩) : GQ l A Q' w' := fun hl => by
 obtain ⟨b, off, rfl, h1, h2⟩ := h hl
 exact ⟨b, off, rfl, (hk b h1).1, fun i x hx => ⟨((hk b h1).2 _).trans (h2 i x hx).1, ((hk b h1).2 _).trans (h2 i x hx).2.1, ((hk b h1).2 _).trans (h2 i x hx).2.2⟩⟩
theorem SQ.nil : SQ [] A Q w := fun h => absurd h (by simp)
theorem XQ.nil : XQ [] A Q w := fun h => absurd h (by simp)
theorem ZQ.nil {K n : Nat} : ZQ K n [] A Q w := fun h => absurd h (by simp)
theorem GQ.nil : GQ [] A Q w := fun h => absurd h (by simp)
theorem SQ.at_ {l : List (List UInt8)} (h : SQ l A Q w) {j : Nat} (hj : j < l.length) : ∃ b off x, A = some ⟨b, off, none⟩ ∧ Q b ∧ l[j]? = some x ∧ w.cell? ⟨b, off + j, none⟩ = some (.string ⟨x.toArray⟩) := by
 obtain ⟨b, off, rfl, hb, hr⟩ := h (by omega)
 exact ⟨b, off, l[j], rfl, hb, List.getElem?_eq_getElem hj, hr j _ (List.getElem?_eq_getElem hj)⟩
theorem XQ.at_ {l : List Rf} (h : XQ l A Q w) {j : Nat} (hj : j < l.length) : ∃ b off x, A = some ⟨b, off, none⟩ ∧ Q b ∧ l[j]? = some x ∧ w.cell? ⟨b, off + j * 2, none⟩ = some (.string ⟨x.c.toArray⟩) ∧ w.cell? ⟨b, off + j * 2 + 1, none⟩ = some (.string ⟨x.t.toArray⟩) := by
 obtain ⟨b, off, rfl, hb, hr⟩ := h (by omega)
 exact ⟨b, off, l[j], rfl, hb, List.getElem?_eq_getElem hj, hr j _ (List.getElem?_eq_getElem hj)⟩
theorem ZQ.at_ {K n : Nat} {l : List Se} (h : ZQ K n l A Q w) {j : Nat} (hj : j < l.length) : ∃ b off x A' c', A = some ⟨b, off, none⟩ ∧ Q b ∧ l[j]? = some x ∧ w.cell? ⟨b, off + j * 7, none⟩ = some (.string ⟨x.n.toArray⟩) ∧
  x.e.fit K ∧ x.e.l.length ≤ c' ∧ c' ≤ maxLen ∧ Six w b (off + j * 7 + 1) x.e A' c' ∧ ExQ K n w Q A' x.e.l := by
 obtain ⟨b, off, rfl, hb, hr⟩ := h (by omega)
 obtain ⟨c0, A', c', f, g1, g2, g3, g4⟩ := hr j _ (List.getElem?_eq_getElem hj)
 exact ⟨b, off, l[j], A', c', rfl, hb, List.getElem?_eq_getElem hj, c0, f, g1, g2, g3, g4⟩
theorem GQ.at_ {l : List Gr} (h : GQ l A Q w) {j : Nat} (hj : j < l.length) : ∃ b off x, A = some ⟨b, off, none⟩ ∧ Q b ∧ l[j]? = some x ∧ w.cell? ⟨b, off + j * 3, none⟩ = some (.string ⟨x.r.toArray⟩) ∧ w.cell? ⟨b, off + j * 3 + 1, none⟩ = some (.string ⟨x.t.toArray⟩) ∧ w.cell? ⟨b, off + j * 3 + 2, none⟩ = some (.bool x.w) := by
 obtain ⟨b, off, rfl, hb, hr⟩ := h (by omega)
 exact ⟨b, off, l[j], rfl, hb, List.getElem?_eq_getElem hj, hr j _ (List.getElem?_eq_getElem hj)⟩
end
/-- A statement's memory, in blocks of a kind; texts no longer than K in its expressions. -/
def StQ (K : Nat) (s : St) (p : StP) (Q : Nat → Prop) (w : World) : Prop :=
 SQ s.names p.names.a Q w ∧ CQ s.cols p.cols.a Q w ∧ SQ s.uniq p.uniq.a Q w ∧ XQ s.refs p.refs.a Q w ∧ (∃ n, ExQ K n w Q p.chk.a s.chk.l) ∧ WQ s.row p.row.a Q w ∧ (∃ n, ZQ K n s.sets p.sets.a Q w) ∧ ∃ n, ExQ K n w Q p.whr.a s.whr.l
theorem StQ.keep {K : Nat} {s : St} {p : StP} {Q Q' : Nat → Prop} {w w' : World} (h : StQ K s p Q w) (hk : ∀ b, Q b → Q' b ∧ ∀ o, w'.cell? ⟨b, o, none⟩ = w.cell? ⟨b, o, none⟩) : StQ K s p Q' w' := by
 obtain ⟨h1, h2, h3, h4, ⟨n, h5⟩, h6, ⟨m, h7⟩, k, h8⟩ := h
 exact ⟨h1.keep hk, h2.keep hk, h3.keep hk, h4.keep hk, ⟨n, h5.keep hk n⟩, h6.keep hk, ⟨m, h7.keep hk⟩, k, h8.keep hk k⟩
end Go.Proofs.YtchilcchogcibaaGreatDoor
namespace Go.Proofs.YtchilcchogcibaaGreatDoor
open Go.ChangeShapes Go.WideShapes Go.ChangeAt Go.RowKit Go.Deep Go.Joins
/-- A slice whose things take k cells each. -/
theorem open_wide {H : Type} {enc : TypeId × Value → H} {W : World} {fuel : Nat} {t e : TypeId} {cs : List Value} {x : DataW H × List MemPlace} {α : Type} (z : α) (k : Nat) (G : α → List Value → Prop)
  (ht : Tryz.prog.underlying t = some (.slice e)) (h1 : Tryz.prog.cellsOf e = k) (hk : 0 < k)
  (hG : ∀ (f : Nat) (v : List Value) (y : DataW H × List MemPlace), v.length = k → DataW.trod enc Tryz.prog W 0 (fun _ => true) true f e v = some y → ∃ a, G a v)
  (h : DataW.trod enc Tryz.prog W 0 (fun _ => true) true fuel t cs = some x) :
  ∃ (A : Option Addr) (l : List α) (c : Nat), cs = [.slice A l.length c] ∧ l.length ≤ c ∧ c ≤ maxLen ∧ (0 < l.length → ∃ b off, A = some ⟨b, off, none⟩ ∧ b < W.heap.size ∧ ∀ i a, l[i]? = some a → ∃ v : List Value, G a v ∧ ∀ j, j < k → W.cell? ⟨b, off + i * k + j, none⟩ = v[j]?) := by
 rcases DataW.trod_slice ht h with ⟨rfl, _⟩ | ⟨a, len, cap, elems, rest, n', hn, rfl, _, _, hl, hm, hlen, hel, _, _⟩
 ·exact ⟨none, [], 0, rfl, Nat.le_refl _, Nat.zero_le _, fun h => absurd h (by simp)⟩
 ·rw [h1] at hel
  have key : ∀ i, i < len → ∃ (g : α) (v : List Value), v.length = k ∧ G g v ∧ ∀ j, j < k → W.cell? ((a.add (i * k)).add j) = v[j]? := by
   intro i hi
   have hb := hel i hi
   rw [List.getElem?_eq_getElem (by omega)] at hb
   obtain ⟨cs', hc, ht'⟩ := Option.bind_eq_some_iff.1 hb
   obtain ⟨_, hcl, hat⟩ := World.cells?_some hc
   obtain ⟨g, hg⟩ := hG _ _ _ hcl ht'
   exact ⟨g, cs', hcl, hg, hat⟩
  have key2 : ∃ f : Nat → α, ∀ i, i < len → ∃ v : List Value, v.length = k ∧ G (f i) v ∧ ∀ j, j < k → W.cell? ((a.add (i * k)).add j) = v[j]? := by
   refine ⟨fun i => if h : i < len then (key i h).choose else z, fun i h => ?_⟩
   simp only [h, dite_true]
   exact (key i h).choose_spec
  obtain ⟨f, hfk⟩ := key2
  refine ⟨some a, (List.range len).map f, cap, by simp, by simpa using hl, hm, ?_⟩
  intro hpos
  obtain ⟨v0, hv0, _, h0⟩ := hfk 0 (by simpa using hpos)
  have h00 := h0 0 hk
  rw [List.getElem?_eq_getElem (by omega)] at h00
  have hspot : a.spot = none := by simpa [Addr.add] using World.cell?_spot h00
  obtain ⟨b, off, spot⟩ := a
  simp only at hspot
  subst hspot
  have hb : b < W.heap.size := by
   have := World.block_lt_of_cell? W _ h00
   simpa [add_mid] using this
  refine ⟨b, off, rfl, hb, fun i x hx => ?_⟩
  rw [List.getElem?_map] at hx
  by_cases hil : i < len
  ·rw [List.getElem?_range hil] at hx
   simp at hx
   subst hx
   obtain ⟨v, _, hg, hv⟩ := hfk i hil
   refine ⟨v, hg, fun j hj => ?_⟩
   have := hv j hj
   rw [add_mid, add_mid] at this
   exact this
  ·rw [List.getElem?_eq_none (by simpa using hil)] at hx
   simp at hx
theorem cellsB1 : Tryz.prog.cellsOf 4 = 1 := by kernel_rfl
theorem cellsGr : Tryz.prog.cellsOf 54 = 3 := by kernel_rfl
theorem open_strs_t {H : Type} {enc : TypeId × Value → H} {W : World} {fuel : Nat} {cs : List Value} {x : DataW H × List MemPlace} (hf : DataW.trod enc Tryz.prog W 0 (fun _ => true) true fuel 23 cs = some x) :
  ∃ (A : Option Addr) (l : List (List UInt8)) (c : Nat), cs = [.slice A l.length c] ∧ l.length ≤ c ∧ c ≤ maxLen ∧ SQ l A (Old W.heap.size) W ∧ ∀ s ∈ l, s.length ≤ maxLen := by
 obtain ⟨A, l, c, h1, h2, h3, h4⟩ := open_wide ([] : List UInt8) 1 (fun s v => v = [.string ⟨s.toArray⟩] ∧ s.length ≤ maxLen) Tryz.underlying23 cells1s (by decide) (fun f v y hl h => by
  obtain ⟨s, e, _, ws⟩ := DataW.trod_string Tryz.underlying9 h
  exact ⟨s.data.toList, e, str_len ws⟩) hf
 refine ⟨A, l, c, h1, h2, h3, fun hl => ?_, fun s hs => ?_⟩
 ·obtain ⟨b, off, rfl, hb, hr⟩ := h4 hl
  refine ⟨b, off, rfl, hb, fun i n hn => ?_⟩
  obtain ⟨v, ⟨rfl, _⟩, hc⟩ := hr i n hn
  have := hc 0 (by decide)
  simpa using this
 ·obtain ⟨i, hi⟩ := List.mem_iff_getElem?.1 hs
  have hpos : 0 < l.length := by have := (List.getElem?_eq_some_iff.1 hi).1; omega
  obtain ⟨b, off, _, _, hr⟩ := h4 hpos
  obtain ⟨v, ⟨_, ho⟩, _⟩ := hr i s hi
  exact ho
set_option maxRecDepth 100000 in
theorem open_grs_t {H : Type} {enc : TypeId × Value → H} {W : World} {fuel : Nat} {cs : List Value} {x : DataW H × List MemPlace} (hf : DataW.trod enc Tryz.prog W 0 (fun _ => true) true fuel 22 cs = some x) :
  ∃ (A : Option Addr) (l : List Gr) (c : Nat), cs = [.slice A l.length c] ∧ l.length ≤ c ∧ c ≤ maxLen ∧ GQ l A (Old W.heap.size) W ∧ ∀ s ∈ l, s.r.length ≤ maxLen ∧ s.t.length ≤ maxLen := by
 obtain ⟨A, l, c, h1, h2, h3, h4⟩ := open_wide (⟨[], [], false⟩ : Gr) 3 (fun s v => v = [.string ⟨s.r.toArray⟩, .string ⟨s.t.toArray⟩, .bool s.w] ∧ s.r.length ≤ maxLen ∧ s.t.length ≤ maxLen) Tryz.underlying22 cellsGr (by decide) (fun f v y hl h => by
  obtain ⟨ys, n, _, _, hcl, hlen, hg⟩ := DataW.trod_struct Tryz.underlying54 h
  match v, hl with
  | [c0, c1, c2], _ =>
   match ys, hlen with
   | [y0, y1, y2], _ =>
    have t0 : DataW.trod enc Tryz.prog W 0 (fun _ => true) true n 9 (([c0, c1, c2].drop 0).take (Tryz.prog.cellsOf 9)) = some y0 := hg 0 _ rfl
    have t1 : DataW.trod enc Tryz.prog W 0 (fun _ => true) true n 9 (([c0, c1, c2].drop 1).take (Tryz.prog.cellsOf 9)) = some y1 := hg 1 _ rfl
    have t2 : DataW.trod enc Tryz.prog W 0 (fun _ => true) true n 4 (([c0, c1, c2].drop 2).take (Tryz.prog.cellsOf 4)) = some y2 := hg 2 _ rfl
    rw [cells1s] at t0 t1
    rw [cellsB1] at t2
    obtain ⟨s, e0, _, w0⟩ := DataW.trod_string Tryz.underlying9 t0
    obtain ⟨u, e1, _, w1⟩ := DataW.trod_string Tryz.underlying9 t1
    obtain ⟨b, e2, _⟩ := DataW.trod_bool Tryz.underlying4 t2
    simp at e0 e1 e2
    subst e0 e1 e2
    exact ⟨⟨s.data.toList, u.data.toList, b⟩, rfl, str_len w0, str_len w1⟩) hf
 refine ⟨A, l, c, h1, h2, h3, fun hl => ?_, fun s hs => ?_⟩
 ·obtain ⟨b, off, rfl, hb, hr⟩ := h4 hl
  refine ⟨b, off, rfl, hb, fun i n hn => ?_⟩
  obtain ⟨v, ⟨rfl, _⟩, hc⟩ := hr i n hn
  exact ⟨hc 0 (by decide), hc 1 (by decide), hc 2 (by decide)⟩
 ·obtain ⟨i, hi⟩ := List.mem_iff_getElem?.1 hs
  have hpos : 0 < l.length := by have := (List.getElem?_eq_some_iff.1 hi).1; omega
  obtain ⟨b, off, _, _, hr⟩ := h4 hpos
  obtain ⟨v, ⟨_, ho⟩, _⟩ := hr i s hi
  exact ho
def Se.cells (s : Se) (A : Option Addr) (c : Nat) : List Value := .string ⟨s.n.toArray⟩ :: s.e.cells A c
set_option maxRecDepth 100000 in
theorem open_grs {H : Type} {enc : TypeId × Value → H} {W : World} {base : Nat} {v : Value} {d : DataW H} {p : List MemPlace}
  (hv : Value.okWide Tryz.prog W .any base 22 v) (h : DataW.Trod enc Tryz.prog W 0 (fun _ => true) true 22 v d p) :
  ∃ (A : Option Addr) (l : List Gr) (c : Nat), v = .slice A l.length c ∧ l.length ≤ maxLen ∧ GQ l A (Old W.heap.size) W ∧ ∀ s ∈ l, s.r.length ≤ maxLen ∧ s.t.length ≤ maxLen := by
 obtain ⟨a0, len0, cap0, rfl⟩ := okWide_slice Tryz.underlying22 hv
 obtain ⟨fuel, hf⟩ := h
 obtain ⟨A, l, c, hcs, h1, h2, h3, h4⟩ := open_grs_t hf
 exact ⟨A, l, c, by simpa [Value.cells] using hcs, Nat.le_trans h1 h2, h3, h4⟩
set_option maxRecDepth 100000 in
theorem open_strs {H : Type} {enc : TypeId × Value → H} {W : World} {base : Nat} {v : Value} {d : DataW H} {p : List MemPlace}
  (hv : Value.okWide Tryz.prog W .any base 23 v) (h : DataW.Trod enc Tryz.prog W 0 (fun _ => true) true 23 v d p) :
  ∃ (A : Option Addr) (l : List (List UInt8)) (c : Nat), v = .slice A l.length c ∧ l.length ≤ maxLen ∧ SQ l A (Old W.heap.size) W ∧ ∀ s ∈ l, s.length ≤ maxLen := by
 obtain ⟨a0, len0, cap0, rfl⟩ := okWide_slice Tryz.underlying23 hv
 obtain ⟨fuel, hf⟩ := h
 obtain ⟨A, l, c, hcs, h1, h2, h3, h4⟩ := open_strs_t hf
 exact ⟨A, l, c, by simpa [Value.cells] using hcs, Nat.le_trans h1 h2, h3, h4⟩
end Go.Proofs.YtchilcchogcibaaGreatDoor
