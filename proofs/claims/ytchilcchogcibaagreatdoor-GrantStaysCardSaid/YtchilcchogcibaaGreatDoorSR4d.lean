/- How arguments of the laws are opened; Plain laws; Plain law; Plain laws; The document's number of nodes, May and Type of an expression, as plain functions. -/
import Derived.Lib.AtoiAllCases
import Derived.Lib.ParseIntBTie
import Derived.Test.YtchilcchogcibaaGreatDoorSCols
import Derived.Test.YtchilcchogcibaaGreatDoorSEnvL
import Derived.Test.YtchilcchogcibaaGreatDoorSGr1
import Derived.Test.YtchilcchogcibaaGreatDoorSGrLaw
import Derived.Test.YtchilcchogcibaaGreatDoorSLift
import Derived.Test.YtchilcchogcibaaGreatDoorSOpenEx
import Derived.Test.YtchilcchogcibaaGreatDoorSR4c
namespace Go.Proofs.YtchilcchogcibaaGreatDoor
open Go.ChangeShapes Go.WideShapes Go.ChangeAt Go.RowKit Go.Deep Go.Joins
/-- A slice whose things take k cells each. -/
theorem open_wide {H : Type} {enc : TypeId × Value → H} {W : World} {fuel : Nat} {t e : TypeId} {cs : List Value} {x : DataW H × List MemPlace} {α : Type} (z : α) (k : Nat) (G : α → List Value → Prop)
  (ht : Tryz.prog.underlying t = some (.slice e)) (h1 : Tryz.prog.cellsOf e = k) (hk : 0 < k)
  (hG : ∀ (f : Nat) (v : List Value) (y : DataW H × List MemPlace), v.length = k → DataW.trod enc Tryz.prog W 0 (fun _ => true) true f e v = some y → ∃ a, G a v)
  (h : DataW.trod enc Tryz.prog W 0 (fun _ => true) true fuel t cs = some x) :
  ∃ (A : Option Addr) (l : List α) (c : Nat), cs = [.slice A l.length c] ∧ l.length ≤ c ∧ c ≤ maxLen ∧ (0 < l.length → ∃ b off, A = some ⟨b, off, none⟩ ∧ b < W.heap.size ∧ ∀ i a, l[i]? = some a → ∃ v : List Value, G a v ∧ ∀ j, j < k → W.cell? ⟨b, off + i * k + j, none⟩ = v[j]?) := by
 rcases DataW.trod_slice ht h with ⟨rfl, _⟩ | ⟨a, len, cap, elems, rest, n', hn, rfl, _, _, hl, hm, hlen, hel, _, _⟩
 ·exact ⟨none, [], 0, rfl, Nat.le_refl _, Nat.zero_le _, fun h => absurd h (by simp)⟩
 ·rw [h1] at hel
  have key : ∀ i, i < len → ∃ (g : α) (v : List Value), v.length = k ∧ G g v ∧ ∀ j, j < k → W.cell? ((a.add (i * k)).add j) = v[j]? := by
   intro i hi
   have hb := hel i hi
   rw [List.getElem?_eq_getElem (by omega)] at hb
   obtain ⟨cs', hc, ht'⟩ := Option.bind_eq_some_iff.1 hb
   obtain ⟨_, hcl, hat⟩ := World.cells?_some hc
   obtain ⟨g, hg⟩ := hG _ _ _ hcl ht'
   exact ⟨g, cs', hcl, hg, hat⟩
  have key2 : ∃ f : Nat → α, ∀ i, i < len → ∃ v : List Value, v.length = k ∧ G (f i) v ∧ ∀ j, j < k → W.cell? ((a.add (i * k)).add j) = v[j]? := by
   refine ⟨fun i => if h : i < len then (key i h).choose else z, fun i h => ?_⟩
   simp only [h, dite_true]
   exact (key i h).choose_spec
  obtain ⟨f, hfk⟩ := key2
  refine ⟨some a, (List.range len).map f, cap, by simp, by simpa using hl, hm, ?_⟩
  intro hpos
  obtain ⟨v0, hv0, _, h0⟩ := hfk 0 (by simpa using hpos)
  have h00 := h0 0 hk
  rw [List.getElem?_eq_getElem (by omega)] at h00
  have hspot : a.spot = none := by simpa [Addr.add] using World.cell?_spot h00
  obtain ⟨b, off, spot⟩ := a
  simp only at hspot
  subst hspot
  have hb : b < W.heap.size := by
   have := World.block_lt_of_cell? W _ h00
   simpa [add_mid] using this
  refine ⟨b, off, rfl, hb, fun i x hx => ?_⟩
  rw [List.getElem?_map] at hx
  by_cases hil : i < len
  ·rw [List.getElem?_range hil] at hx
   simp at hx
   subst hx
   obtain ⟨v, _, hg, hv⟩ := hfk i hil
   refine ⟨v, hg, fun j hj => ?_⟩
   have := hv j hj
   rw [add_mid, add_mid] at this
   exact this
  ·rw [List.getElem?_eq_none (by simpa using hil)] at hx
   simp at hx
theorem cellsB1 : Tryz.prog.cellsOf 4 = 1 := by kernel_rfl
theorem cellsSs : Tryz.prog.cellsOf 23 = 1 := by kernel_rfl
theorem cellsCs : Tryz.prog.cellsOf 24 = 1 := by kernel_rfl
theorem cellsRs : Tryz.prog.cellsOf 25 = 1 := by kernel_rfl
theorem cellsVs : Tryz.prog.cellsOf 31 = 1 := by kernel_rfl
theorem cellsSets : Tryz.prog.cellsOf 32 = 1 := by kernel_rfl
theorem cellsRf : Tryz.prog.cellsOf 74 = 2 := by kernel_rfl
theorem cellsSe : Tryz.prog.cellsOf 76 = 7 := by kernel_rfl
theorem cellsGr : Tryz.prog.cellsOf 54 = 3 := by kernel_rfl
theorem cellsSt : Tryz.prog.cellsOf 34 = 23 := by kernel_rfl
theorem open_strs_t {H : Type} {enc : TypeId × Value → H} {W : World} {fuel : Nat} {cs : List Value} {x : DataW H × List MemPlace} (hf : DataW.trod enc Tryz.prog W 0 (fun _ => true) true fuel 23 cs = some x) :
  ∃ (A : Option Addr) (l : List (List UInt8)) (c : Nat), cs = [.slice A l.length c] ∧ l.length ≤ c ∧ c ≤ maxLen ∧ SQ l A (Old W.heap.size) W ∧ ∀ s ∈ l, s.length ≤ maxLen := by
 obtain ⟨A, l, c, h1, h2, h3, h4⟩ := open_wide ([] : List UInt8) 1 (fun s v => v = [.string ⟨s.toArray⟩] ∧ s.length ≤ maxLen) Tryz.underlying23 cells1s (by decide) (fun f v y hl h => by
  obtain ⟨s, e, _, ws⟩ := DataW.trod_string Tryz.underlying9 h
  exact ⟨s.data.toList, e, str_len ws⟩) hf
 refine ⟨A, l, c, h1, h2, h3, fun hl => ?_, fun s hs => ?_⟩
 ·obtain ⟨b, off, rfl, hb, hr⟩ := h4 hl
  refine ⟨b, off, rfl, hb, fun i n hn => ?_⟩
  obtain ⟨v, ⟨rfl, _⟩, hc⟩ := hr i n hn
  have := hc 0 (by decide)
  simpa using this
 ·obtain ⟨i, hi⟩ := List.mem_iff_getElem?.1 hs
  have hpos : 0 < l.length := by have := (List.getElem?_eq_some_iff.1 hi).1; omega
  obtain ⟨b, off, _, _, hr⟩ := h4 hpos
  obtain ⟨v, ⟨_, ho⟩, _⟩ := hr i s hi
  exact ho
set_option maxRecDepth 100000 in
theorem open_refs_t {H : Type} {enc : TypeId × Value → H} {W : World} {fuel : Nat} {cs : List Value} {x : DataW H × List MemPlace} (hf : DataW.trod enc Tryz.prog W 0 (fun _ => true) true fuel 25 cs = some x) :
  ∃ (A : Option Addr) (l : List Rf) (c : Nat), cs = [.slice A l.length c] ∧ l.length ≤ c ∧ c ≤ maxLen ∧ XQ l A (Old W.heap.size) W ∧ ∀ s ∈ l, s.c.length ≤ maxLen ∧ s.t.length ≤ maxLen := by
 obtain ⟨A, l, c, h1, h2, h3, h4⟩ := open_wide (⟨[], []⟩ : Rf) 2 (fun s v => v = [.string ⟨s.c.toArray⟩, .string ⟨s.t.toArray⟩] ∧ s.c.length ≤ maxLen ∧ s.t.length ≤ maxLen) Tryz.underlying25 cellsRf (by decide) (fun f v y hl h => by
  obtain ⟨ys, n, _, _, hcl, hlen, hg⟩ := DataW.trod_struct Tryz.underlying74 h
  match v, hl with
  | [c0, c1], _ =>
   match ys, hlen with
   | [y0, y1], _ =>
    have t0 : DataW.trod enc Tryz.prog W 0 (fun _ => true) true n 9 (([c0, c1].drop 0).take (Tryz.prog.cellsOf 9)) = some y0 := hg 0 _ rfl
    have t1 : DataW.trod enc Tryz.prog W 0 (fun _ => true) true n 9 (([c0, c1].drop 1).take (Tryz.prog.cellsOf 9)) = some y1 := hg 1 _ rfl
    rw [cells1s] at t0 t1
    obtain ⟨s, e0, _, w0⟩ := DataW.trod_string Tryz.underlying9 t0
    obtain ⟨u, e1, _, w1⟩ := DataW.trod_string Tryz.underlying9 t1
    simp at e0 e1
    subst e0 e1
    exact ⟨⟨s.data.toList, u.data.toList⟩, rfl, str_len w0, str_len w1⟩) hf
 refine ⟨A, l, c, h1, h2, h3, fun hl => ?_, fun s hs => ?_⟩
 ·obtain ⟨b, off, rfl, hb, hr⟩ := h4 hl
  refine ⟨b, off, rfl, hb, fun i n hn => ?_⟩
  obtain ⟨v, ⟨rfl, _⟩, hc⟩ := hr i n hn
  exact ⟨hc 0 (by decide), hc 1 (by decide)⟩
 ·obtain ⟨i, hi⟩ := List.mem_iff_getElem?.1 hs
  have hpos : 0 < l.length := by have := (List.getElem?_eq_some_iff.1 hi).1; omega
  obtain ⟨b, off, _, _, hr⟩ := h4 hpos
  obtain ⟨v, ⟨_, ho⟩, _⟩ := hr i s hi
  exact ho
set_option maxRecDepth 100000 in
theorem open_grs_t {H : Type} {enc : TypeId × Value → H} {W : World} {fuel : Nat} {cs : List Value} {x : DataW H × List MemPlace} (hf : DataW.trod enc Tryz.prog W 0 (fun _ => true) true fuel 22 cs = some x) :
  ∃ (A : Option Addr) (l : List Gr) (c : Nat), cs = [.slice A l.length c] ∧ l.length ≤ c ∧ c ≤ maxLen ∧ GQ l A (Old W.heap.size) W ∧ ∀ s ∈ l, s.r.length ≤ maxLen ∧ s.t.length ≤ maxLen := by
 obtain ⟨A, l, c, h1, h2, h3, h4⟩ := open_wide (⟨[], [], false⟩ : Gr) 3 (fun s v => v = [.string ⟨s.r.toArray⟩, .string ⟨s.t.toArray⟩, .bool s.w] ∧ s.r.length ≤ maxLen ∧ s.t.length ≤ maxLen) Tryz.underlying22 cellsGr (by decide) (fun f v y hl h => by
  obtain ⟨ys, n, _, _, hcl, hlen, hg⟩ := DataW.trod_struct Tryz.underlying54 h
  match v, hl with
  | [c0, c1, c2], _ =>
   match ys, hlen with
   | [y0, y1, y2], _ =>
    have t0 : DataW.trod enc Tryz.prog W 0 (fun _ => true) true n 9 (([c0, c1, c2].drop 0).take (Tryz.prog.cellsOf 9)) = some y0 := hg 0 _ rfl
    have t1 : DataW.trod enc Tryz.prog W 0 (fun _ => true) true n 9 (([c0, c1, c2].drop 1).take (Tryz.prog.cellsOf 9)) = some y1 := hg 1 _ rfl
    have t2 : DataW.trod enc Tryz.prog W 0 (fun _ => true) true n 4 (([c0, c1, c2].drop 2).take (Tryz.prog.cellsOf 4)) = some y2 := hg 2 _ rfl
    rw [cells1s] at t0 t1
    rw [cellsB1] at t2
    obtain ⟨s, e0, _, w0⟩ := DataW.trod_string Tryz.underlying9 t0
    obtain ⟨u, e1, _, w1⟩ := DataW.trod_string Tryz.underlying9 t1
    obtain ⟨b, e2, _⟩ := DataW.trod_bool Tryz.underlying4 t2
    simp at e0 e1 e2
    subst e0 e1 e2
    exact ⟨⟨s.data.toList, u.data.toList, b⟩, rfl, str_len w0, str_len w1⟩) hf
 refine ⟨A, l, c, h1, h2, h3, fun hl => ?_, fun s hs => ?_⟩
 ·obtain ⟨b, off, rfl, hb, hr⟩ := h4 hl
  refine ⟨b, off, rfl, hb, fun i n hn => ?_⟩
  obtain ⟨v, ⟨rfl, _⟩, hc⟩ := hr i n hn
  exact ⟨hc 0 (by decide), hc 1 (by decide), hc 2 (by decide)⟩
 ·obtain ⟨i, hi⟩ := List.mem_iff_getElem?.1 hs
  have hpos : 0 < l.length := by have := (List.getElem?_eq_some_iff.1 hi).1; omega
  obtain ⟨b, off, _, _, hr⟩ := h4 hpos
  obtain ⟨v, ⟨_, ho⟩, _⟩ := hr i s hi
  exact ho
def Se.cells (s : Se) (A : Option Addr) (c : Nat) : List Value := .string ⟨s.n.toArray⟩ :: s.e.cells A c
set_option maxRecDepth 100000 in
theorem open_sets_t {H : Type} {enc : TypeId × Value → H} {W : World} {fuel : Nat} {cs : List Value} {x : DataW H × List MemPlace} (hf : DataW.trod enc Tryz.prog W 0 (fun _ => true) true fuel 32 cs = some x) :
  ∃ (A : Option Addr) (l : List Se) (c n : Nat), cs = [.slice A l.length c] ∧ l.length ≤ c ∧ c ≤ maxLen ∧ ZQ maxLen n l A (Old W.heap.size) W ∧ ∀ s ∈ l, s.n.length ≤ maxLen := by
 obtain ⟨A, l, c, h1, h2, h3, h4⟩ := open_wide (⟨[], .mk [] V.zero [] []⟩ : Se) 7 (fun s v => ∃ (A' : Option Addr) (c' m : Nat), v = s.cells A' c' ∧ s.n.length ≤ maxLen ∧ s.e.fit maxLen ∧ s.e.l.length ≤ c' ∧ c' ≤ maxLen ∧ ExQ maxLen m W (Old W.heap.size) A' s.e.l) Tryz.underlying32 cellsSe (by decide) (fun f v y hl h => by
  obtain ⟨ys, n, _, _, hcl, hlen, hg⟩ := DataW.trod_struct Tryz.underlying76 h
  match v, hl with
  | [c0, c1, c2, c3, c4, c5, c6], _ =>
   match ys, hlen with
   | [y0, y1], _ =>
    have t0 : DataW.trod enc Tryz.prog W 0 (fun _ => true) true n 9 (([c0, c1, c2, c3, c4, c5, c6].drop 0).take (Tryz.prog.cellsOf 9)) = some y0 := hg 0 _ rfl
    have t1 : DataW.trod enc Tryz.prog W 0 (fun _ => true) true n 30 (([c0, c1, c2, c3, c4, c5, c6].drop 1).take (Tryz.prog.cellsOf 30)) = some y1 := hg 1 _ rfl
    rw [cells1s] at t0
    rw [cellsE] at t1
    obtain ⟨s, e0, _, w0⟩ := DataW.trod_string Tryz.underlying9 t0
    obtain ⟨e, A4, k4, e5, f1, f2, f3, f4⟩ := (open_ex_both n).1 _ _ t1
    simp at e0
    subst e0
    refine ⟨⟨s.data.toList, e⟩, A4, k4, n, ?_, str_len w0, f1, f2, f3, f4.toQ n⟩
    have e5' : [c1, c2, c3, c4, c5, c6] = e.cells A4 k4 := e5
    show _ = _ :: _
    rw [← e5']) hf
 have hall : ∀ s ∈ l, ∃ (A' : Option Addr) (c' m : Nat), s.n.length ≤ maxLen ∧ s.e.fit maxLen ∧ s.e.l.length ≤ c' ∧ c' ≤ maxLen ∧ ExQ maxLen m W (Old W.heap.size) A' s.e.l := by
  intro s hs
  obtain ⟨i, hi⟩ := List.mem_iff_getElem?.1 hs
  have hpos : 0 < l.length := by have := (List.getElem?_eq_some_iff.1 hi).1; omega
  obtain ⟨b, off, _, _, hr⟩ := h4 hpos
  obtain ⟨v, ⟨A', c', m, _, g1, g2, g3, g4, g5⟩, _⟩ := hr i s hi
  exact ⟨A', c', m, g1, g2, g3, g4, g5⟩
 have hmax : ∃ n, 0 < l.length → ∃ b off, A = some ⟨b, off, none⟩ ∧ b < W.heap.size ∧ ∀ i s, l[i]? = some s → ∃ (A' : Option Addr) (c' : Nat), s.n.length ≤ maxLen ∧ s.e.fit maxLen ∧ s.e.l.length ≤ c' ∧ c' ≤ maxLen ∧ ExQ maxLen n W (Old W.heap.size) A' s.e.l ∧ ∀ j, j < 7 → W.cell? ⟨b, off + i * 7 + j, none⟩ = (s.cells A' c')[j]? := by
  rcases Nat.eq_zero_or_pos l.length with h0 | h0
  ·exact ⟨0, fun h => by omega⟩
  obtain ⟨b, off, hA, hb, hr⟩ := h4 h0
  have hN : ∀ k, k ≤ l.length → ∃ n, ∀ i s, i < k → l[i]? = some s → ∃ (A' : Option Addr) (c' : Nat), s.n.length ≤ maxLen ∧ s.e.fit maxLen ∧ s.e.l.length ≤ c' ∧ c' ≤ maxLen ∧ ExQ maxLen n W (Old W.heap.size) A' s.e.l ∧ ∀ j, j < 7 → W.cell? ⟨b, off + i * 7 + j, none⟩ = (s.cells A' c')[j]? := by
   intro k
   induction k with
   | zero => intro _; exact ⟨0, fun i s h => absurd h (by omega)⟩
   | succ k ih =>
    intro hk
    obtain ⟨n, hn⟩ := ih (by omega)
    obtain ⟨v, ⟨A', c', m, rfl, g1, g2, g3, g4, g5⟩, hc⟩ := hr k _ (List.getElem?_eq_getElem (by omega))
    refine ⟨n + m, fun i s hi hs => ?_⟩
    by_cases e : i = k
    ·subst e
     rw [List.getElem?_eq_getElem (by omega)] at hs
     injection hs with hs
     subst hs
     exact ⟨A', c', g1, g2, g3, g4, g5.ups (n + m) (by omega), hc⟩
    ·obtain ⟨A2, c2, q1, q2, q3, q4, q5, q6⟩ := hn i s (by omega) hs
     exact ⟨A2, c2, q1, q2, q3, q4, q5.ups (n + m) (by omega), q6⟩
  obtain ⟨n, hn⟩ := hN l.length (Nat.le_refl _)
  exact ⟨n, fun _ => ⟨b, off, hA, hb, fun i s hs => hn i s (List.getElem?_eq_some_iff.1 hs).1 hs⟩⟩
 obtain ⟨n, hn⟩ := hmax
 refine ⟨A, l, c, n, h1, h2, h3, fun hl => ?_, fun s hs => ?_⟩
 ·obtain ⟨b, off, rfl, hb, hr⟩ := hn hl
  refine ⟨b, off, rfl, hb, fun i s hs => ?_⟩
  obtain ⟨A', c', q1, q2, q3, q4, q5, q6⟩ := hr i s hs
  exact ⟨q6 0 (by decide), A', c', q2, q3, q4, ⟨q6 1 (by decide), q6 2 (by decide), q6 3 (by decide), q6 4 (by decide), q6 5 (by decide), q6 6 (by decide)⟩, q5⟩
 ·obtain ⟨_, _, _, q, _⟩ := hall s hs
  exact q
/-- A statement as it comes: its texts and lists are no longer than may be. -/
structure St.big (s : St) : Prop where
 op : s.op.length ≤ maxLen
 tb : s.tb.length ≤ maxLen
 ot : s.ot.length ≤ maxLen
 key : s.key.length ≤ maxLen
 role : s.role.length ≤ maxLen
 nN : s.names.length ≤ maxLen
 nC : s.cols.length ≤ maxLen
 nU : s.uniq.length ≤ maxLen
 nR : s.refs.length ≤ maxLen
 nW : s.row.length ≤ maxLen
 nS : s.sets.length ≤ maxLen
 names : ∀ x ∈ s.names, x.length ≤ maxLen
 cols : ∀ c ∈ s.cols, c.n.length ≤ maxLen
 uniq : ∀ x ∈ s.uniq, x.length ≤ maxLen
 refs : ∀ x ∈ s.refs, x.c.length ≤ maxLen ∧ x.t.length ≤ maxLen
 chk : s.chk.fit maxLen
 whr : s.whr.fit maxLen
 chkL : s.chk.l.length ≤ maxLen
 whrL : s.whr.l.length ≤ maxLen
 row : ∀ v ∈ s.row, v.ok
 sets : ∀ x ∈ s.sets, x.n.length ≤ maxLen
set_option maxRecDepth 100000 in
theorem open_st_t {H : Type} {enc : TypeId × Value → H} {W : World} {fuel : Nat} {cs : List Value} {x : DataW H × List MemPlace} (hf : DataW.trod enc Tryz.prog W 0 (fun _ => true) true fuel 34 cs = some x) :
  ∃ (s : St) (p : StP), cs = s.cells p ∧ s.big ∧ StQ maxLen s p (Old W.heap.size) W := by
 obtain ⟨ys, n, _, _, hcl, hlen, hg⟩ := DataW.trod_struct Tryz.underlying34 hf
 rw [cellsSt] at hcl
 match cs, hcl with
 | [c0, c1, c2, c3, c4, c5, c6, c7, c8, c9, c10, c11, c12, c13, c14, c15, c16, c17, c18, c19, c20, c21, c22], _ =>
  match ys, hlen with
  | [y0, y1, y2, y3, y4, y5, y6, y7, y8, y9, y10, y11, y12], _ =>
   obtain ⟨cs, hcs⟩ : ∃ cs, cs = [c0, c1, c2, c3, c4, c5, c6, c7, c8, c9, c10, c11, c12, c13, c14, c15, c16, c17, c18, c19, c20, c21, c22] := ⟨_, rfl⟩
   rw [← hcs] at hg ⊢
   have t0 : DataW.trod enc Tryz.prog W 0 (fun _ => true) true n 9 ((cs.drop 0).take (Tryz.prog.cellsOf 9)) = some y0 := hg 0 _ rfl
   have t1 : DataW.trod enc Tryz.prog W 0 (fun _ => true) true n 9 ((cs.drop 1).take (Tryz.prog.cellsOf 9)) = some y1 := hg 1 _ rfl
   have t2 : DataW.trod enc Tryz.prog W 0 (fun _ => true) true n 9 ((cs.drop 2).take (Tryz.prog.cellsOf 9)) = some y2 := hg 2 _ rfl
   have t3 : DataW.trod enc Tryz.prog W 0 (fun _ => true) true n 23 ((cs.drop 3).take (Tryz.prog.cellsOf 23)) = some y3 := hg 3 _ rfl
   have t4 : DataW.trod enc Tryz.prog W 0 (fun _ => true) true n 24 ((cs.drop 4).take (Tryz.prog.cellsOf 24)) = some y4 := hg 4 _ rfl
   have t5 : DataW.trod enc Tryz.prog W 0 (fun _ => true) true n 9 ((cs.drop 5).take (Tryz.prog.cellsOf 9)) = some y5 := hg 5 _ rfl
   have t6 : DataW.trod enc Tryz.prog W 0 (fun _ => true) true n 23 ((cs.drop 6).take (Tryz.prog.cellsOf 23)) = some y6 := hg 6 _ rfl
   have t7 : DataW.trod enc Tryz.prog W 0 (fun _ => true) true n 25 ((cs.drop 7).take (Tryz.prog.cellsOf 25)) = some y7 := hg 7 _ rfl
   have t8 : DataW.trod enc Tryz.prog W 0 (fun _ => true) true n 30 ((cs.drop 8).take (Tryz.prog.cellsOf 30)) = some y8 := hg 8 _ rfl
   have t9 : DataW.trod enc Tryz.prog W 0 (fun _ => true) true n 31 ((cs.drop 14).take (Tryz.prog.cellsOf 31)) = some y9 := hg 9 _ rfl
   have t10 : DataW.trod enc Tryz.prog W 0 (fun _ => true) true n 32 ((cs.drop 15).take (Tryz.prog.cellsOf 32)) = some y10 := hg 10 _ rfl
   have t11 : DataW.trod enc Tryz.prog W 0 (fun _ => true) true n 30 ((cs.drop 16).take (Tryz.prog.cellsOf 30)) = some y11 := hg 11 _ rfl
   have t12 : DataW.trod enc Tryz.prog W 0 (fun _ => true) true n 9 ((cs.drop 22).take (Tryz.prog.cellsOf 9)) = some y12 := hg 12 _ rfl
   clear hg hf
   subst hcs
   rw [cells1s] at t0 t1 t2 t5 t12
   rw [cellsSs] at t3 t6
   rw [cellsCs] at t4
   rw [cellsRs] at t7
   rw [cellsE] at t8 t11
   rw [cellsVs] at t9
   rw [cellsSets] at t10
   obtain ⟨s0, e0, _, w0⟩ := DataW.trod_string Tryz.underlying9 t0
   obtain ⟨s1, e1, _, w1⟩ := DataW.trod_string Tryz.underlying9 t1
   obtain ⟨s2, e2, _, w2⟩ := DataW.trod_string Tryz.underlying9 t2
   obtain ⟨A3, l3, k3, e3, g3, g3', h3, n3⟩ := open_strs_t t3
   obtain ⟨A4, l4, k4, e4, g4, g4', h4, n4⟩ := open_cols_t t4
   obtain ⟨s5, e5, _, w5⟩ := DataW.trod_string Tryz.underlying9 t5
   obtain ⟨A6, l6, k6, e6, g6, g6', h6, n6⟩ := open_strs_t t6
   obtain ⟨A7, l7, k7, e7, g7, g7', h7, n7⟩ := open_refs_t t7
   obtain ⟨x8, A8, k8, e8, f8, g8, g8', h8⟩ := (open_ex_both n).1 _ _ t8
   obtain ⟨A9, l9, k9, e9, g9, g9', h9, n9⟩ := open_vals_t t9
   obtain ⟨A10, l10, k10, m10, e10, g10, g10', h10, n10⟩ := open_sets_t t10
   obtain ⟨x11, A11, k11, e11, f11, g11, g11', h11⟩ := (open_ex_both n).1 _ _ t11
   obtain ⟨s12, e12, _, w12⟩ := DataW.trod_string Tryz.underlying9 t12
   clear t0 t1 t2 t3 t4 t5 t6 t7 t8 t9 t10 t11 t12
   simp only [List.drop_zero, List.drop_succ_cons, List.take_succ_cons, List.take_zero, List.cons.injEq, and_true] at e0 e1 e2 e3 e4 e5 e6 e7 e9 e10 e12
   have e8' : [c8, c9, c10, c11, c12, c13] = x8.cells A8 k8 := e8
   have e11' : [c16, c17, c18, c19, c20, c21] = x11.cells A11 k11 := e11
   clear e8 e11
   simp only [Ex.cells, List.cons.injEq, and_true] at e8' e11'
   obtain ⟨rfl, rfl, rfl, rfl, rfl, rfl⟩ := e8'
   obtain ⟨rfl, rfl, rfl, rfl, rfl, rfl⟩ := e11'
   subst e0 e1 e2 e3 e4 e5 e6 e7 e9 e10 e12
   exact ⟨⟨s0.data.toList, s1.data.toList, s2.data.toList, l3, l4, s5.data.toList, l6, l7, x8, l9, l10, x11, s12.data.toList⟩, ⟨⟨A3, k3⟩, ⟨A4, k4⟩, ⟨A6, k6⟩, ⟨A7, k7⟩, ⟨A8, k8⟩, ⟨A9, k9⟩, ⟨A10, k10⟩, ⟨A11, k11⟩⟩, rfl,
    ⟨str_len w0, str_len w1, str_len w2, str_len w5, str_len w12, Nat.le_trans g3 g3', Nat.le_trans g4 g4', Nat.le_trans g6 g6', Nat.le_trans g7 g7', Nat.le_trans g9 g9', Nat.le_trans g10 g10', n3, n4, n6, n7, f8, f11, Nat.le_trans g8 g8', Nat.le_trans g11 g11', n9, n10⟩,
    ⟨h3, h4, h6, h7, ⟨n, h8.toQ n⟩, h9, ⟨m10, h10⟩, ⟨n, h11.toQ n⟩⟩⟩
set_option maxRecDepth 100000 in
theorem open_st {H : Type} {enc : TypeId × Value → H} {W : World} {base : Nat} {v : Value} {d : DataW H} {p : List MemPlace}
  (hv : Value.okWide Tryz.prog W .any base 34 v) (h : DataW.Trod enc Tryz.prog W 0 (fun _ => true) true 34 v d p) :
  ∃ (s : St) (q : StP), v = .agg (s.cells q).toArray ∧ s.big ∧ StQ maxLen s q (Old W.heap.size) W := by
 obtain ⟨cs, rfl, _⟩ := okWide_struct Tryz.underlying34 hv
 obtain ⟨fuel, hf⟩ := h
 obtain ⟨x, q, hcs, h1, h2⟩ := open_st_t hf
 refine ⟨x, q, ?_, h1, h2⟩
 have : cs.toList = x.cells q := by simpa [Value.cells] using hcs
 rw [← this]
set_option maxRecDepth 100000 in
theorem open_grs {H : Type} {enc : TypeId × Value → H} {W : World} {base : Nat} {v : Value} {d : DataW H} {p : List MemPlace}
  (hv : Value.okWide Tryz.prog W .any base 22 v) (h : DataW.Trod enc Tryz.prog W 0 (fun _ => true) true 22 v d p) :
  ∃ (A : Option Addr) (l : List Gr) (c : Nat), v = .slice A l.length c ∧ l.length ≤ maxLen ∧ GQ l A (Old W.heap.size) W ∧ ∀ s ∈ l, s.r.length ≤ maxLen ∧ s.t.length ≤ maxLen := by
 obtain ⟨a0, len0, cap0, rfl⟩ := okWide_slice Tryz.underlying22 hv
 obtain ⟨fuel, hf⟩ := h
 obtain ⟨A, l, c, hcs, h1, h2, h3, h4⟩ := open_grs_t hf
 exact ⟨A, l, c, by simpa [Value.cells] using hcs, Nat.le_trans h1 h2, h3, h4⟩
end Go.Proofs.YtchilcchogcibaaGreatDoor
namespace Go.Proofs.YtchilcchogcibaaGreatDoor
open Go.RowKit
def wd (s : List UInt8) : Tok := ⟨1, s⟩
def sg (c : UInt8) : Tok := ⟨4, [c]⟩
/-- A value's tokens. -/
def valK (v : V) : List Tok :=
 if v.k = 1 then (if v.i < 0 then [sg 45, ⟨2, Lib.decDigits v.i.natAbs⟩] else [⟨2, Lib.decDigits v.i.toNat⟩])
 else if v.k = 2 then [⟨3, v.s⟩] else if v.k = 3 then (if v.i = 1 then [wd [84, 82, 85, 69]] else [wd [70, 65, 76, 83, 69]]) else [wd [78, 85, 76, 76]]
def opK (op : List UInt8) : Tok := if op = opAnd then wd [65, 78, 68] else if op = opOr then wd [79, 82] else ⟨4, op⟩
/-- An expression's tokens. -/
def tokX : Nat → Ex → List Tok
 | 0, _ => []
 | n + 1, e =>
  if e.op = opLit then valK e.v else if e.op = opCol then [wd e.s]
  else if e.op = opNot then sg 40 :: wd [78, 79, 84] :: (tokX n (e.l.getD 0 exZero) ++ [sg 41])
  else if e.op = opNull then sg 40 :: (tokX n (e.l.getD 0 exZero) ++ [wd [73, 83], wd [78, 85, 76, 76], sg 41])
  else sg 40 :: (tokX n (e.l.getD 0 exZero) ++ opK e.op :: (tokX n (e.l.getD 1 exZero) ++ [sg 41]))
/-- All its numbers fit. -/
def fitE : Nat → Ex → Prop
 | 0, e => fitI e.v.i
 | n + 1, e => fitI e.v.i ∧ ∀ x ∈ e.l, fitE n x
theorem fitE_v {n : Nat} {e : Ex} (h : fitE n e) : fitI e.v.i := by cases n with | zero => exact h | succ n => exact h.1
theorem dec_len : ∀ (k u : Nat), u < 10 ^ (k + 1) → (Lib.decDigits u).length ≤ k + 1
 | 0, u, h => by
  rw [Lib.decDigits_one (by omega)]
  simp
 | k + 1, u, h => by
  by_cases hu : u < 10
  ·rw [Lib.decDigits_one hu]; simp
  ·rw [Lib.decDigits, dif_neg hu, List.length_append]
   have := dec_len k (u / 10) (by rw [Nat.pow_succ] at h; omega)
   simp only [List.length_cons, List.length_nil]
   omega
/-- What an expression of a form is. -/
theorem form_cases {n : Nat} {e : Ex} (h : formE (n + 1) e = true) :
  (e = .mk opLit e.v [] [] ∧ mayB e.v.k e.v.i e.v.s = true) ∨ (e = .mk opCol V.zero e.s [] ∧ nameB e.s = true ∧ reserved e.s = false) ∨
  (∃ a, e = .mk opNot V.zero [] [a] ∧ formE n a = true) ∨ (∃ a, e = .mk opNull V.zero [] [a] ∧ formE n a = true) ∨ ∃ op a b, e = .mk op V.zero [] [a, b] ∧ twoB op = true ∧ formE n a = true ∧ formE n b = true := by
 have hz : ∀ v : V, veq v V.zero = true → v = V.zero := fun v h => by
  obtain ⟨k, i, s⟩ := v
  simp only [veq, Bool.and_eq_true, beq_iff_eq, decide_eq_true_eq] at h
  obtain ⟨h1, h2, h3⟩ := h
  show V.mk k i s = V.mk 0 0 []
  rw [show k = 0 from h1, show i = 0 from h2, show s = [] from h3]
 by_cases hl : e.op = opLit
 ·rw [form_lit hl] at h
  simp only [Bool.and_eq_true, beq_iff_eq, decide_eq_true_eq] at h
  obtain ⟨h1, h2, h3⟩ := h
  refine .inl ⟨?_, h1⟩
  rw [← hl]
  conv => lhs; rw [Ex.eta e]
  rw [h2, List.eq_nil_of_length_eq_zero h3]
 ·by_cases hc : e.op = opCol
  ·rw [form_col hl hc] at h
   simp only [Bool.and_eq_true, Bool.not_eq_true', decide_eq_true_eq] at h
   obtain ⟨h1, h2, h3, h4⟩ := h
   refine .inr (.inl ⟨?_, h2, h3⟩)
   rw [← hc]
   conv => lhs; rw [Ex.eta e]
   rw [hz _ h1, List.eq_nil_of_length_eq_zero h4]
  ·by_cases ho : e.op = opNot ∨ e.op = opNull
   ·rw [form_one hl hc ho] at h
    obtain ⟨op, v, s, l⟩ := e
    simp only [Bool.and_eq_true, beq_iff_eq, Ex.v, Ex.s, Ex.l] at h
    obtain ⟨h1, h2, h3, h4⟩ := h
    match l, h3, h4 with
    | [a], _, h4 =>
     rcases ho with ho | ho
     ·exact .inr (.inr (.inl ⟨a, by rw [hz v h1, h2, show op = opNot from ho], h4⟩))
     ·exact .inr (.inr (.inr (.inl ⟨a, by rw [hz v h1, h2, show op = opNull from ho], h4⟩)))
   ·by_cases ht : twoB e.op = true
    ·rw [form_two hl hc ho ht] at h
     obtain ⟨op, v, s, l⟩ := e
     simp only [Bool.and_eq_true, beq_iff_eq, Ex.v, Ex.s, Ex.l] at h
     obtain ⟨h1, h2, h3, h4, h5⟩ := h
     match l, h3, h4, h5 with
     | [a, b], _, h4, h5 => exact .inr (.inr (.inr (.inr ⟨op, a, b, by rw [hz v h1, h2], ht, h4, h5⟩)))
    ·rw [form_no hl hc ho ht] at h
     cases h
theorem twoB_ne {op : List UInt8} (h : twoB op = true) : ¬ op = opLit ∧ ¬ op = opCol ∧ ¬ op = opNot ∧ ¬ op = opNull := by
 rw [twoB_iff] at h
 rcases h with rfl | rfl | rfl | rfl | rfl | rfl <;> decide
theorem mayX_form {e : Ex} (h : mayX e = true) : formE 12 e = true := by
 have := (may_form 12 1 0 e (by omega) (by omega)).1
 unfold mayX may at h
 rw [this] at h
 simp only [Bool.and_eq_true] at h
 exact h.1
theorem form_up : ∀ (n : Nat) (e : Ex), formE n e = true → formE (n + 1) e = true := by
 intro n
 induction n with
 | zero => intro e h; simp [formE] at h
 | succ n ih =>
  intro e h
  rcases form_cases h with ⟨he, hm⟩ | ⟨he, hn, hr⟩ | ⟨a, rfl, ha⟩ | ⟨a, rfl, ha⟩ | ⟨op, a, b, rfl, ho, ha, hb⟩
  ·have hop : e.op = opLit := by rw [he]; rfl
   rw [form_lit hop] at h ⊢
   exact h
  ·have hop : e.op = opCol := by rw [he]; rfl
   have hne : ¬ e.op = opLit := by rw [hop]; decide
   rw [form_col hne hop] at h ⊢
   exact h
  ·rw [form_one (e := .mk opNot V.zero [] [a]) (show ¬ opNot = opLit by decide) (show ¬ opNot = opCol by decide) (.inl rfl)] at h ⊢
   simp only [Bool.and_eq_true] at h ⊢
   exact ⟨h.1, h.2.1, h.2.2.1, ih _ h.2.2.2⟩
  ·rw [form_one (e := .mk opNull V.zero [] [a]) (show ¬ opNull = opLit by decide) (show ¬ opNull = opCol by decide) (.inr rfl)] at h ⊢
   simp only [Bool.and_eq_true] at h ⊢
   exact ⟨h.1, h.2.1, h.2.2.1, ih _ h.2.2.2⟩
  ·obtain ⟨n1, n2, n3, n4⟩ := twoB_ne ho
   rw [form_two (e := .mk op V.zero [] [a, b]) n1 n2 (by rintro (h | h); exact n3 h; exact n4 h) ho] at h ⊢
   simp only [Bool.and_eq_true] at h ⊢
   exact ⟨h.1, h.2.1, h.2.2.1, ih _ h.2.2.2.1, ih _ h.2.2.2.2⟩
theorem tokX_two {n : Nat} {op : List UInt8} {a b : Ex} (n1 : ¬ op = opLit) (n2 : ¬ op = opCol) (n3 : ¬ op = opNot) (n4 : ¬ op = opNull) : tokX (n + 1) (.mk op V.zero [] [a, b]) = sg 40 :: (tokX n a ++ opK op :: (tokX n b ++ [sg 41])) := by
 conv => lhs; unfold tokX
 rw [if_neg (c := (Ex.mk op V.zero [] [a, b]).op = opLit) n1, if_neg (c := (Ex.mk op V.zero [] [a, b]).op = opCol) n2, if_neg (c := (Ex.mk op V.zero [] [a, b]).op = opNot) n3, if_neg (c := (Ex.mk op V.zero [] [a, b]).op = opNull) n4]
 rfl
theorem textN_two {n : Nat} {op : List UInt8} {a b : Ex} (n1 : ¬ op = opLit) (n2 : ¬ op = opCol) (n3 : ¬ op = opNot) (n4 : ¬ op = opNull) : textN (n + 1) (.mk op V.zero [] [a, b]) = ((([40] ++ textN n a) ++ [32]) ++ upperB op) ++ [32] ++ textN n b ++ [41] := by
 conv => lhs; unfold textN
 rw [if_neg (c := (Ex.mk op V.zero [] [a, b]).op = opLit) n1, if_neg (c := (Ex.mk op V.zero [] [a, b]).op = opCol) n2, if_neg (c := (Ex.mk op V.zero [] [a, b]).op = opNot) n3, if_neg (c := (Ex.mk op V.zero [] [a, b]).op = opNull) n4]
 rfl
theorem tok_up : ∀ (n : Nat) (e : Ex), formE n e = true → tokX (n + 1) e = tokX n e ∧ textN (n + 1) e = textN n e := by
 intro n
 induction n with
 | zero => intro e h; simp [formE] at h
 | succ n ih =>
  intro e h
  rcases form_cases h with ⟨he, hm⟩ | ⟨he, hn, hr⟩ | ⟨a, rfl, ha⟩ | ⟨a, rfl, ha⟩ | ⟨op, a, b, rfl, ho, ha, hb⟩
  ·rw [he]; exact ⟨rfl, rfl⟩
  ·rw [he]; exact ⟨rfl, rfl⟩
  ·obtain ⟨h1, h2⟩ := ih a ha
   refine ⟨?_, ?_⟩
   ·show sg 40 :: wd [78, 79, 84] :: (tokX (n + 1) a ++ [sg 41]) = sg 40 :: wd [78, 79, 84] :: (tokX n a ++ [sg 41])
    rw [h1]
   ·show ([40, 78, 79, 84, 32] ++ textN (n + 1) a) ++ [41] = ([40, 78, 79, 84, 32] ++ textN n a) ++ [41]
    rw [h2]
  ·obtain ⟨h1, h2⟩ := ih a ha
   refine ⟨?_, ?_⟩
   ·show sg 40 :: (tokX (n + 1) a ++ [wd [73, 83], wd [78, 85, 76, 76], sg 41]) = sg 40 :: (tokX n a ++ [wd [73, 83], wd [78, 85, 76, 76], sg 41])
    rw [h1]
   ·show ([40] ++ textN (n + 1) a) ++ [32, 73, 83, 32, 78, 85, 76, 76, 41] = ([40] ++ textN n a) ++ [32, 73, 83, 32, 78, 85, 76, 76, 41]
    rw [h2]
  ·obtain ⟨h1, h2⟩ := ih a ha
   obtain ⟨h3, h4⟩ := ih b hb
   obtain ⟨n1, n2, n3, n4⟩ := twoB_ne ho
   refine ⟨?_, ?_⟩
   ·rw [tokX_two n1 n2 n3 n4, tokX_two n1 n2 n3 n4, h1, h3]
   ·rw [textN_two n1 n2 n3 n4, textN_two n1 n2 n3 n4, h2, h4]
theorem nameG_B {s : List UInt8} (h : nameG s = true) : nameB s = true := by unfold nameG at h; simp only [Bool.and_eq_true] at h; exact h.1
/-- All numbers of a statement fit. -/
def fitS (s : St) : Prop := fitE 13 s.chk ∧ fitE 13 s.whr ∧ (∀ v ∈ s.row, fitI v.i) ∧ ∀ x ∈ s.sets, fitE 13 x.e
theorem many_all {α : Type} {l : List α} {lo hi : Nat} {p : α → Bool} (h : manyB l lo hi p = true) : lo ≤ l.length ∧ l.length ≤ hi ∧ ∀ x ∈ l, p x = true := by
 unfold manyB at h
 simp only [Bool.and_eq_true, decide_eq_true_eq, List.all_eq_true] at h
 exact ⟨h.1.1, h.1.2, h.2⟩
theorem getD_all {α : Type} {l : List α} {p : α → Bool} {d : α} (h : ∀ x ∈ l, p x = true) {k : Nat} (hk : k < l.length) : p (l.getD k d) = true := by
 have e : l.getD k d = l[k] := by simp [List.getD, List.getElem?_eq_getElem hk]
 rw [e]
 exact h _ (List.getElem_mem _)
end Go.Proofs.YtchilcchogcibaaGreatDoor
namespace Go.Proofs.YtchilcchogcibaaGreatDoor
open Go.RowKit
attribute [local go_sem] ByteArray.extract_mk ba_get ba_append
attribute [local go_sem ↓] Go.wp_at_zero Go.wp_at_succ run_eql_V run_neq_V
theorem sum_step (f : Ex → Nat) (l : List Ex) (j : Nat) (x : Ex) (h : l[j]? = some x) : ((l.take (j + 1)).map f).sum = ((l.take j).map f).sum + f x ∧ ((l.take j).map f).sum + f x ≤ (l.map f).sum := by
 obtain ⟨hj, rfl⟩ := List.getElem?_eq_some_iff.1 h
 have h1 : ((l.take (j + 1)).map f).sum = ((l.take j).map f).sum + f l[j] := by rw [List.take_succ_eq_append_getElem hj, List.map_append, List.sum_append]; simp
 refine ⟨h1, ?_⟩
 have h2 : (l.map f).sum = ((l.take (j + 1)).map f).sum + ((l.drop (j + 1)).map f).sum := by rw [← List.sum_append, ← List.map_append, List.take_append_drop]
 omega
set_option maxHeartbeats 2000000 in
theorem nodes_any : ∀ (n : Nat) (e : Ex) (A : Option Addr) (c : Nat) (w : World), nodesE n e ≤ 100000 → e.l.length ≤ 100000 → ExS 1000 n w w.heap.size A e.l →
  Calls Tryz.prog 183 #[.agg (e.cells A c).toArray] w (Ret (.int .i64 (nodesE n e)) w) := by
 intro n
 induction n with
 | zero =>
  intro e A c w _ _ hE
  have hl : e.l = [] := hE
  have b0 : ¬ ((0 : Int) < ((e.l.length : Nat) : Int)) := by rw [hl]; simp
  have q5 : (w.alloc (.cells (e.cells A c).toArray 30)).cell? ⟨w.heap.size, 5, none⟩ = some (.slice A e.l.length c) := (Blk.six (Blk.new w _ _)).2.2.2.2.2
  have hb0 : Below w.heap.size w (w.alloc (.cells (e.cells A c).toArray 30)) := by exact bl
  obtain ⟨w0, hw0⟩ : ∃ w0, w.alloc (.cells (e.cells A c).toArray 30) = w0 := ⟨_, rfl⟩
  rw [hw0] at q5 hb0
  have HW := Lib.hid hw0
  clear hw0 hE hl
  go_enter Tryz.func183, Tryz.ntmps183
  go_upto_region 1 with fail
  rw [show w.alloc _ = w0 from HW.out]
  go_wp2_with fail
  go_loopw [3, 4] (fun s3 s4 wr => s3 = .int .i64 1 ∧ s4 = .int .i64 0 ∧ wr = w0) (fun _ _ _ => 0)
  case atStart => exact ⟨rfl, rfl, rfl⟩
  case round =>
   obtain ⟨rfl, rfl, rfl⟩ := hrel
   go_wp2_with fail
   go_ret
   exact ⟨rfl, hb0⟩
 | succ n ih =>
  intro e A c w hN hlen hE
  obtain ⟨w0, hw0⟩ : ∃ w0, w.alloc (.cells (e.cells A c).toArray 30) = w0 := ⟨_, rfl⟩
  have kq0 : Blk w0 w.heap.size 30 (e.cells A c).toArray := by rw [← hw0]; exact Blk.new _ _ _
  have hb0 : Below w.heap.size w w0 := by rw [← hw0]; exact bl
  have HSH : Hid (∀ w' : World, Below w0.heap.size w0 w' → (w'.cell? ⟨w.heap.size, 0, none⟩ = some (.string ⟨e.op.toArray⟩) ∧ w'.cell? ⟨w.heap.size, 1, none⟩ = some (.int .i64 e.v.k) ∧ w'.cell? ⟨w.heap.size, 2, none⟩ = some (.int .i64 e.v.i) ∧ w'.cell? ⟨w.heap.size, 3, none⟩ = some (.string ⟨e.v.s.toArray⟩) ∧ w'.cell? ⟨w.heap.size, 4, none⟩ = some (.string ⟨e.s.toArray⟩) ∧ w'.cell? ⟨w.heap.size, 5, none⟩ = some (.slice A e.l.length c))) := fun w' h => (kq0.below h kq0.lt).six
  have HE : Hid (∀ Y : World, Below w0.heap.size w0 Y → ExS 1000 (n + 1) Y Y.heap.size A e.l) := fun Y h => ((hE.below (n + 1) (hb0.trans (h.mono hb0.size)))).more (Nat.le_trans hb0.size h.size) (n + 1)
  have HW := Lib.hid hw0
  obtain ⟨R, hR⟩ : ∃ R, nodesE (n + 1) e = R := ⟨_, rfl⟩
  rw [hR] at hN ⊢
  have hR' : 1 + (e.l.map (nodesE n)).sum = R := hR
  have HR := Lib.hid hR'
  have HIH := Lib.hid ih
  clear ih hw0 hE kq0 hR hR'
  obtain ⟨q0, q1, q2, q3, q4, q5⟩ := HSH.out w0 (Below.refl _ _)
  go_enter Tryz.func183, Tryz.ntmps183
  go_upto_region 1 with fail
  rw [show w.alloc _ = w0 from HW.out]
  clear HW
  go_wp2_with fail
  go_loopw [3, 4] (fun s3 s4 wr => ∃ j s : Nat, j ≤ e.l.length ∧ s3 = .int .i64 s ∧ s4 = .int .i64 j ∧ Hid (s = 1 + ((e.l.take j).map (nodesE n)).sum) ∧ Below w0.heap.size w0 wr) (fun _ i _ => e.l.length - (intOf i).toNat)
  case atStart => exact ⟨0, 1, by omega, rfl, rfl, rfl, Below.refl _ _⟩
  case round =>
   obtain ⟨j, s, hj, rfl, rfl, HS, hbr⟩ := hrel
   clear q0 q1 q2 q3 q4 q5
   obtain ⟨q0, q1, q2, q3, q4, q5⟩ := HSH.out wr hbr
   have hzr := hbr.size
   by_cases hlt : j < e.l.length
   ·obtain ⟨b1, o1, x, A', c', rfl, hbB, hv, hfx, hxc, hxm, ⟨c0, c1, c2, c3, c4, c5⟩, hx⟩ := (HE.out wr hbr).at_ hlt
    obtain ⟨hs1, hs2⟩ := sum_step (nodesE n) e.l j x hv
    have hs := HS.out
    have hr := HR.out
    obtain ⟨t, ht⟩ : ∃ t, nodesE n x = t := ⟨_, rfl⟩
    rw [ht] at hs1 hs2
    have hsl : x.l.length ≤ 100000 := by
     have h1 := ht
     cases n with
     | zero => rw [show x.l = [] from hx]; simp
     | succ n =>
      have h2 : 1 + (x.l.map (nodesE n)).sum = t := ht
      have h3 : x.l.length ≤ (x.l.map (nodesE n)).sum := by
       generalize x.l = l
       induction l with
       | nil => simp
       | cons a r ihh => have := nodes_pos n a; simp only [List.length_cons, List.map_cons, List.sum_cons]; omega
      omega
    have HX : Hid (Calls Tryz.prog 183 #[.agg #[.string ⟨x.op.toArray⟩, .int .i64 x.v.k, .int .i64 x.v.i, .string ⟨x.v.s.toArray⟩, .string ⟨x.s.toArray⟩, .slice A' x.l.length c']] wr (Ret (.int .i64 (t : Nat)) wr)) := by
     have := HIH.out x A' c' wr (by rw [ht]; omega) hsl hx
     rw [ht] at this
     exact this
    have i1 : (0 : Int) ≤ (j : Int) := by omega
    have i2 : (j : Int) < (e.l.length : Int) := by omega
    have i3 : IntKind.i64.wrap ((s : Int) + (t : Int)) = ((s + t : Nat) : Int) := by rw [IntWalk.i64_in _ (by omega)]; omega
    have HN : Hid (s + t = 1 + ((e.l.take (j + 1)).map (nodesE n)).sum) := by show _ = _; rw [hs1, hs]; omega
    clear hs hr hs1 hs2 hv hx hxm hxc hsl HS ht
    go_wp2_with fail
    refine HX.out.mono ?_
    rintro en w2 ⟨rfl, hb2⟩
    go_wp2_with fail
    go_roundw
    case rel => exact ⟨j + 1, s + t, by omega, by go_num, by go_num, HN, hbr.trans (hb2.mono hzr)⟩
    case measure => simp [intOf]; omega
   ·obtain rfl : j = e.l.length := by omega
    have hs := HS.out
    rw [List.take_length, HR.out] at hs
    subst hs
    have b0 : ¬ ((e.l.length : Int) < (e.l.length : Int)) := by omega
    clear HS
    go_wp2_with fail
    go_ret
    exact ⟨rfl, hb0.trans (hbr.mono hb0.size)⟩
set_option maxHeartbeats 1000000 in
theorem may4_any (n : Nat) (e : Ex) (A : Option Addr) (c : Nat) (w : World) (hf : e.fit 1000) (hE : ExS 1000 n w w.heap.size A e.l) :
  Calls Tryz.prog 112 #[.agg (e.cells A c).toArray] w (Ret (.bool (mayX e)) w) := by
 obtain ⟨w0, hw0⟩ : ∃ w0, w.alloc (.cells (e.cells A c).toArray 30) = w0 := ⟨_, rfl⟩
 have kq0 : Blk w0 w.heap.size 30 (e.cells A c).toArray := by rw [← hw0]; exact Blk.new _ _ _
 have hb0 : Below w.heap.size w w0 := by rw [← hw0]; exact bl
 have HSH : Hid (∀ w' : World, Below w0.heap.size w0 w' → (w'.cell? ⟨w.heap.size, 0, none⟩ = some (.string ⟨e.op.toArray⟩) ∧ w'.cell? ⟨w.heap.size, 1, none⟩ = some (.int .i64 e.v.k) ∧ w'.cell? ⟨w.heap.size, 2, none⟩ = some (.int .i64 e.v.i) ∧ w'.cell? ⟨w.heap.size, 3, none⟩ = some (.string ⟨e.v.s.toArray⟩) ∧ w'.cell? ⟨w.heap.size, 4, none⟩ = some (.string ⟨e.s.toArray⟩) ∧ w'.cell? ⟨w.heap.size, 5, none⟩ = some (.slice A e.l.length c))) := fun w' h => (kq0.below h kq0.lt).six
 have HE : Hid (∀ Y : World, Below w0.heap.size w0 Y → ExS 1000 n Y Y.heap.size A e.l) := fun Y h => ((hE.below n (hb0.trans (h.mono hb0.size)))).more (Nat.le_trans hb0.size h.size) n
 have hlaw := may_R n e (ExS.hgt n hE)
 obtain ⟨R, hR⟩ : ∃ R, mayX e = R := ⟨_, rfl⟩
 rw [hR] at hlaw ⊢
 have hfm := form_any 12 e A c n w0 (by omega) hf (HE.out w0 (Below.refl _ _))
 obtain ⟨F, hF⟩ : ∃ F, formE 12 e = F := ⟨_, rfl⟩
 have hnb : F = true → nodesE n e ≤ 100000 ∧ e.l.length ≤ 100000 := fun h => by
  have h1 := nodes_form 12 n e (by rw [hF, h])
  refine ⟨by omega, ?_⟩
  have h2 := nodes_form 12 1 e (by rw [hF, h])
  have h3 : 1 + (e.l.map (nodesE 0)).sum = nodesE 1 e := rfl
  have h4 : e.l.length ≤ (e.l.map (nodesE 0)).sum := by
   generalize e.l = l
   induction l with
   | nil => simp
   | cons a r ihh => have := nodes_pos 0 a; simp only [List.length_cons, List.map_cons, List.sum_cons]; omega
  omega
 rw [hF] at hfm hlaw
 have HFM := Lib.hid hfm
 have HL := Lib.hid hlaw
 have HNB := Lib.hid hnb
 have HW := Lib.hid hw0
 dsimp only [Ex.cells] at HFM
 clear hfm hlaw hnb hw0 hE kq0 hR hF
 obtain ⟨q0, q1, q2, q3, q4, q5⟩ := HSH.out w0 (Below.refl _ _)
 go_enter Tryz.func112, Tryz.ntmps112
 go_upto_region 1 with fail
 rw [show w.alloc _ = w0 from HW.out]
 clear HW
 go_wp2_with fail
 refine HFM.out.mono ?_
 rintro en w1 ⟨rfl, hb1⟩
 clear q0 q1 q2 q3 q4 q5
 obtain ⟨q0, q1, q2, q3, q4, q5⟩ := HSH.out w1 hb1
 cases F
 ·go_wp2_with fail
  go_ret
  exact ⟨by rw [← HL.out]; rfl, hb0.trans (hb1.mono hb0.size)⟩
 ·have hno := nodes_any n e A c w1 (HNB.out rfl).1 (HNB.out rfl).2 (HE.out w1 hb1)
  obtain ⟨t, ht⟩ : ∃ t, nodesE n e = t := ⟨_, rfl⟩
  have hl := HL.out
  rw [ht] at hno hl
  have HNO := Lib.hid hno
  dsimp only [Ex.cells] at HNO
  have e1 : decide ((t : Int) ≤ 60) = R := by rw [← hl, Bool.eq_iff_iff]; simp; omega
  have HEE := Lib.hid e1
  clear hno hl ht HL e1
  go_wp2_with fail
  refine HNO.out.mono ?_
  rintro en w2 ⟨rfl, hb2⟩
  have he := HEE.out
  go_wp2_with fail
  go_ret
  exact ⟨rfl, hb0.trans ((hb1.trans (hb2.mono hb1.size)).mono hb0.size)⟩
end Go.Proofs.YtchilcchogcibaaGreatDoor
