/- A map of values whose keys are texts, entered in whatever order: each entry is of a kind. Condition: the map lies in its block. Words for a drawn region of calls that answer memory, and of new variables; the plain law of an expression's parts. Nothing of the program's text is walked here. -/
import Derived.Test.YtdnkkkgneikhkaaGreatDoorExpr3
import Derived.Maps.RangeRun
import Derived.Test.YtdnkkkgneikhkaaGreatDoorStageM
import Derived.Test.YtdnkkkgneikhkaaGreatDoorExprLaw4
namespace Go.Proofs.YtdnkkkgneikhkaaGreatDoor
open Go.RowKit Go.ChangeMaps Go.MapKept

def EntOk (O : List UInt8 → V → Prop) (x : MapEntry) : Prop := ∃ (op : List UInt8) (v : V), x.key = .string ⟨op.toArray⟩ ∧ x.val = .agg #[.int .i64 (v).k, .int .i64 (v).i, .string ⟨(v).s.toArray⟩] ∧ O op v
/-- Block b is a map each of whose entries is of the kind O. -/
def MapS (O : List UInt8 → V → Prop) (w : World) (b : Nat) : Prop := ∃ es clock, w.heap[b]? = some (.map es clock) ∧ Stamped es clock ∧ ∀ x ∈ es.toList, EntOk O x
section
variable {O : List UInt8 → V → Prop} {w w' : World} {b : Nat}
theorem MapS.new (w : World) : MapS O (w.alloc (.map #[] 0)) w.heap.size := ⟨#[], 0, heap_alloc_new w _, ⟨by simp, by simp, by simp⟩, by simp⟩
theorem MapS.lt (h : MapS O w b) : b < w.heap.size := by
  obtain ⟨es, c, h1, _⟩ := h
  exact (Array.getElem?_eq_some_iff.1 h1).1
theorem MapS.below {B : Nat} (h : MapS O w b) (hb : Below B w w') (hB : b < B) : MapS O w' b := by
  obtain ⟨es, c, h1, h2⟩ := h
  exact ⟨es, c, (hb.block b hB).trans h1, h2⟩
theorem MapS.upd (h : MapS O w b) {op : List UInt8} {v : V} (hO : O op v) :
    ∃ w' : World, (Instr.mapUpdate 38 (.map (some b)) (.string ⟨op.toArray⟩) (.agg #[.int .i64 (v).k, .int .i64 (v).i, .string ⟨(v).s.toArray⟩])).run Tryz.prog w = .ok () w' ∧ MapS O w' b ∧ w.grownBy w' (some b) := by
  obtain ⟨es, clock, hb, hs, he⟩ := h
  have hlt : b < w.heap.size := (Array.getElem?_eq_some_iff.1 hb).1
  have hk : IsKey .string (.string ⟨op.toArray⟩) := by simp [IsKey]
  have hks : ∀ x ∈ es.toList, IsKey .string x.key := fun x hx => by
    obtain ⟨o, u, h1, _⟩ := he x hx
    rw [h1]
    simp [IsKey]
  have hg : ∀ o, w.grownBy (setBlock w b o) (some b) := fun o => ⟨rfl, rfl, rfl, by simp [setBlock], fun k _ hne => by
    have : k ≠ b := fun e => hne (by rw [e])
    simp [setBlock, Ne.symm this]⟩
  rcases findNow_spec hk es.toList 0 hks with ⟨h1, h2⟩ | ⟨j, e, h1, h2, h3⟩
  · obtain ⟨es1, h5⟩ : ∃ es1, es.push (⟨.string ⟨op.toArray⟩, .agg #[.int .i64 (v).k, .int .i64 (v).i, .string ⟨(v).s.toArray⟩], clock⟩ : MapEntry) = es1 := ⟨_, rfl⟩
    have hst : Stamped es1 (clock + 1) := by rw [← h5]; exact stamped_push hs h2
    have hbk : (setBlock w b (.map es1 (clock + 1))).heap[b]? = some (.map es1 (clock + 1)) := by simp [setBlock, hlt]
    refine ⟨setBlock w b (.map es1 (clock + 1)), ?_, ⟨es1, clock + 1, hbk, hst, fun x hx => ?_⟩, hg _⟩
    · simp [Instr.mapUpdate, run_underlying Tryz.underlying38, MapKept.run_getObj_map hb, MapKept.run_checkKey Tryz.underlying9 hk, MapKept.run_findKey Tryz.underlying9 h1, MapKept.run_setObj_map _ hb, Result.andThen, setBlock, ← h5]
    · rw [← h5] at hx
      simp only [Array.toList_push, List.mem_append, List.mem_singleton] at hx
      rcases hx with hx | rfl
      · exact he x hx
      · exact ⟨op, v, rfl, rfl, hO⟩
  · have hj : es[j]? = some e := by simpa using h2
    obtain ⟨F, hF⟩ : ∃ F : MapEntry → MapEntry, F = fun x => { x with key := .string ⟨op.toArray⟩, val := .agg #[.int .i64 (v).k, .int .i64 (v).i, .string ⟨(v).s.toArray⟩] } := ⟨_, rfl⟩
    have hkey : ∀ e', es[j]? = some e' → (F e').key = e'.key := fun e' he' => by rw [hj] at he'; cases he'; rw [hF]; exact h3.symm
    have hst : Stamped (es.modify j F) clock := stamped_modify hs _ _ (fun _ _ => by rw [hF]) (fun e' _ he' => hkey e' he')
    have hbk : (setBlock w b (.map (es.modify j F) clock)).heap[b]? = some (.map (es.modify j F) clock) := by simp [setBlock, hlt]
    refine ⟨setBlock w b (.map (es.modify j F) clock), ?_, ⟨_, clock, hbk, hst, fun x hx => ?_⟩, hg _⟩
    · simp [Instr.mapUpdate, run_underlying Tryz.underlying38, MapKept.run_getObj_map hb, MapKept.run_checkKey Tryz.underlying9 hk, MapKept.run_findKey Tryz.underlying9 h1, hj, h3, run_keyThatStays hk, MapKept.run_setObj_map _ hb, Result.andThen, setBlock, hF]
    · obtain ⟨i, hi⟩ := List.mem_iff_getElem?.1 hx
      rw [Array.getElem?_toList, Array.getElem?_modify] at hi
      split at hi
      · rename_i hij
        subst hij
        rw [hj] at hi
        simp only [Option.map_some, Option.some.injEq] at hi
        rw [← hi, hF]
        exact ⟨op, v, rfl, rfl, hO⟩
      · exact he x (by rw [List.mem_iff_getElem?]; exact ⟨i, by rw [Array.getElem?_toList]; exact hi⟩)
theorem MapS.make (w : World) : (Instr.makeMap 38 none).run Tryz.prog w = .ok (.map (some w.heap.size)) (w.alloc (.map #[] 0)) := run_makeMap_plain w _

/-- Block r is an iterator over the map in block b, some of whose entries were met. -/
def IterS (w : World) (r b : Nat) (es : Array MapEntry) (clock : Nat) (seen : Array Nat) : Prop := w.heap[r]? = some (.mapIter (some b) clock seen clock) ∧ w.heap[b]? = some (.map es clock)
theorem IterS.range {es : Array MapEntry} {clock : Nat} (hb : w.heap[b]? = some (.map es clock)) :
    (Instr.range 38 (.map (some b))).run Tryz.prog w = .ok (.pointer (some ⟨w.heap.size, 0, none⟩)) (w.alloc (.mapIter (some b) clock #[] clock)) ∧ IterS (w.alloc (.mapIter (some b) clock #[] clock)) w.heap.size b es clock #[] :=
  ⟨run_range_map w _ _ _ b es clock Tryz.underlying38 hb, heap_alloc_new w _, (heap_alloc_old w _ (Array.getElem?_eq_some_iff.1 hb).1).trans hb⟩
theorem IterS.below {B r : Nat} {es : Array MapEntry} {clock : Nat} {seen : Array Nat} (h : IterS w r b es clock seen) (hb : Below B w w') (h1 : b < B) (h2 : r < B) : IterS w' r b es clock seen := ⟨(hb.block r h2).trans h.1, (hb.block b h1).trans h.2⟩
/-- A step: nothing is left, or an entry comes, and is read. -/
theorem IterS.next {r : Nat} {es : Array MapEntry} {clock : Nat} {seen : Array Nat} (h : IterS w r b es clock seen) (hs : Stamped es clock) (he : ∀ x ∈ es.toList, EntOk O x) (hne : b ≠ r) (ty : TypeId) :
    (Instr.next (.pointer (some ⟨r, 0, none⟩)) false ty).run Tryz.prog w = .ok (.tuple #[.bool false]) w ∨
    ∃ (op : List UInt8) (v : V) (w1 : World) (seen' : Array Nat), O op v ∧ (Instr.next (.pointer (some ⟨r, 0, none⟩)) false ty).run Tryz.prog w = .ok (.tuple #[.bool true, .string ⟨op.toArray⟩, .agg #[.int .i64 (v).k, .int .i64 (v).i, .string ⟨(v).s.toArray⟩]]) w1 ∧
      (Instr.entry (.pointer (some ⟨r, 0, none⟩))).run Tryz.prog w1 = .ok (.tuple #[.string ⟨op.toArray⟩, .agg #[.int .i64 (v).k, .int .i64 (v).i, .string ⟨(v).s.toArray⟩]]) w1 ∧ IterS w1 r b es clock seen' ∧ (leftOf es seen').size < (leftOf es seen).size ∧ w1.heap.size = w.heap.size ∧ (∀ B, B ≤ r → Below B w w1) := by
  obtain ⟨hr, hb⟩ := h
  rcases run_next_at (P := Tryz.prog) w ty r b clock clock seen es clock hr hb hs.1 (Nat.le_refl _) with ⟨_, h⟩ | ⟨e, hm, w1, hw1, h⟩
  · exact Or.inl h
  · right
    obtain ⟨hmem, _⟩ := mem_left hm
    obtain ⟨op, v, hk, hv, hO⟩ := he e hmem
    have hrlt : r < w.heap.size := (Array.getElem?_eq_some_iff.1 hr).1
    have hh : w1.heap = w.heap := by rcases hw1 with rfl | rfl <;> rfl
    have hr1 : (setBlock w1 r (.mapIter (some b) clock (seen.push e.born) clock)).heap[r]? = some (.mapIter (some b) clock (seen.push e.born) clock) := by simp [setBlock, hh, hrlt]
    have hb1 : (setBlock w1 r (.mapIter (some b) clock (seen.push e.born) clock)).heap[b]? = some (.map es clock) := by
      simp only [setBlock, hh, Array.getElem?_setIfInBounds_ne (Ne.symm hne)]
      exact hb
    refine ⟨op, v, _, seen.push e.born, hO, by rw [h, hk, hv], by rw [run_entry_at _ r b clock seen es clock e hr1 hb1 hmem hs.2.1, hk, hv], ⟨hr1, hb1⟩, left_shrinks es seen e hm, by simp [setBlock, hh], fun B hB => ?_⟩
    have hg : w1.grownBy (setBlock w1 r (.mapIter (some b) clock (seen.push e.born) clock)) (some r) := ⟨rfl, rfl, rfl, by simp [setBlock], fun k _ hne => by
      have : k ≠ r := fun e => hne (by rw [e])
      simp [setBlock, Ne.symm this]⟩
    have h0 : Below B w w1 := by rcases hw1 with rfl | rfl <;> ((repeat' (first | with_reducible exact Below.refl _ _ | with_reducible assumption | with_reducible refine Below.drew ?_ | with_reducible refine below_drewN ?_ _ | with_reducible refine Below.setCell ?_ ?_ _ | with_reducible refine Below.alloc ?_ ?_ _ | with_reducible refine Below.trans ?_ (Below.mono (by assumption) ?_))) <;> (first | (simp; done) | (simp; omega) | omega))
    exact h0.grown hg (by rw [hh]; omega) (fun k hk => by cases hk; exact hB)
theorem IterS.seen {r : Nat} {es : Array MapEntry} {clock : Nat} {seen : Array Nat} (h : IterS w r b es clock seen) : w.iterSeen r = seen := by unfold World.iterSeen; rw [h.1]
theorem iter_less {r : Nat} {es : Array MapEntry} {clock : Nat} {seen seen' : Array Nat} {w1 : World} (h : IterS w1 r b es clock seen') (hb : Below w1.heap.size w1 w') (h1 : b < w1.heap.size) (h2 : r < w1.heap.size) (hs : w.iterSeen r = seen) (hl : (leftOf es seen').size < (leftOf es seen).size) :
    (leftOf es (w'.iterSeen r)).size < (leftOf es (w.iterSeen r)).size := by rw [(h.below hb h1 h2).seen, hs]; exact hl
end

end Go.Proofs.YtdnkkkgneikhkaaGreatDoor

namespace Go.Proofs.YtdnkkkgneikhkaaGreatDoor
open Go.RowKit Go.ChangeMaps

/-- What a call answered: memory in blocks of a kind. -/
def GotE (E : Ex) (u : Value) (Q : Nat → Prop) (w : World) : Prop := ∃ A c, u = .agg #[.string ⟨E.op.toArray⟩, .int .i64 E.v.k, .int .i64 E.v.i, .string ⟨E.v.s.toArray⟩, .string ⟨E.s.toArray⟩, .slice A E.l.length c] ∧ ExR Q E A c w
def ColQ (l : List Col) (A : Option Addr) (Q : Nat → Prop) (w : World) : Prop := 0 < l.length → ∃ b off, A = some ⟨b, off, none⟩ ∧ Q b ∧ ColRow w b off l
def VQ (l : List V) (A : Option Addr) (Q : Nat → Prop) (w : World) : Prop := 0 < l.length → ∃ b off, A = some ⟨b, off, none⟩ ∧ Q b ∧ VRow w b off l
def GotC (l : List Col) (u : Value) (Q : Nat → Prop) (w : World) : Prop := ∃ A c, u = .slice A l.length c ∧ ColQ l A Q w
def GotV (l : List V) (u : Value) (Q : Nat → Prop) (w : World) : Prop := ∃ A c, u = .slice A l.length c ∧ VQ l A Q w
def Keeps (G : (Nat → Prop) → World → Prop) : Prop := ∀ (Q Q' : Nat → Prop) (w w' : World), (∀ b, Q b → Q' b ∧ ∀ o, w'.cell? ⟨b, o, none⟩ = w.cell? ⟨b, o, none⟩) → G Q w → G Q' w'
theorem GotE.keeps (E : Ex) (u : Value) : Keeps (GotE E u) := fun _ _ _ _ hk ⟨A, c, h1, h2⟩ => ⟨A, c, h1, h2.keep hk⟩
theorem ColQ.keep {l : List Col} {A : Option Addr} {Q Q' : Nat → Prop} {w w' : World} (h : ColQ l A Q w) (hk : ∀ b, Q b → Q' b ∧ ∀ o, w'.cell? ⟨b, o, none⟩ = w.cell? ⟨b, o, none⟩) : ColQ l A Q' w' := fun hl => by
  obtain ⟨b, off, rfl, h1, h2⟩ := h hl
  refine ⟨b, off, rfl, (hk b h1).1, fun i x hx => ?_⟩
  obtain ⟨c0, c1, c2⟩ := h2 i x hx
  exact ⟨((hk b h1).2 _).trans c0, ((hk b h1).2 _).trans c1, ((hk b h1).2 _).trans c2⟩
theorem VQ.keep {l : List V} {A : Option Addr} {Q Q' : Nat → Prop} {w w' : World} (h : VQ l A Q w) (hk : ∀ b, Q b → Q' b ∧ ∀ o, w'.cell? ⟨b, o, none⟩ = w.cell? ⟨b, o, none⟩) : VQ l A Q' w' := fun hl => by
  obtain ⟨b, off, rfl, h1, h2⟩ := h hl
  exact ⟨b, off, rfl, (hk b h1).1, h2.keep (hk b h1).2⟩
theorem GotC.keeps (l : List Col) (u : Value) : Keeps (GotC l u) := fun _ _ _ _ hk ⟨A, c, h1, h2⟩ => ⟨A, c, h1, h2.keep hk⟩
theorem GotV.keeps (l : List V) (u : Value) : Keeps (GotV l u) := fun _ _ _ _ hk ⟨A, c, h1, h2⟩ => ⟨A, c, h1, h2.keep hk⟩
/-- Blocks that are none of two new variables'. -/
def Av (L : Array Bool) (i j : Nat) (u v : Value) (w : World) (b : Nat) : Prop := b < w.heap.size ∧ (Up L i → u ≠ .pointer (some ⟨b, 0, none⟩)) ∧ (Up L j → v ≠ .pointer (some ⟨b, 0, none⟩))
/-- The slot of a new expression. -/
def NewE (L : Array Bool) (i B : Nat) (w : World) (u : Value) : Prop := Up L i → ∃ g, u = .pointer (some ⟨g, 0, none⟩) ∧ B ≤ g ∧ Blk w g 26 #[.string ⟨#[]⟩, .int .i64 0, .int .i64 0, .string ⟨#[]⟩, .string ⟨#[]⟩, .slice none 0 0]
theorem NewE.put {L : Array Bool} {i j B : Nat} {w w' : World} {u : Value} (h : NewE L j B w u) (hne : i ≠ j) (hb : Below w.heap.size w w') : NewE (L.setIfInBounds i true) j B w' u := fun hu => by
  obtain ⟨g, e, h1, h2⟩ := h (hu.put hne)
  exact ⟨g, e, h1, h2.below hb h2.lt⟩
theorem NewE.new {L : Array Bool} {i B : Nat} {w : World} (hB : B ≤ w.heap.size) : NewE L i B (w.alloc (.cells #[.string ⟨#[]⟩, .int .i64 0, .int .i64 0, .string ⟨#[]⟩, .string ⟨#[]⟩, .slice none 0 0] 26)) (.pointer (some ⟨w.heap.size, 0, none⟩)) :=
  fun _ => ⟨_, rfl, hB, Blk.new w _ _⟩
theorem Diff.newLE {L : Array Bool} {i k B : Nat} {w : World} {v : Value} (h : NewE L k B w v) (hne : i ≠ k) : Diff (L.setIfInBounds i true) i k (.pointer (some ⟨w.heap.size, 0, none⟩)) v := fun _ b e => by
  obtain ⟨g, rfl, _, h2⟩ := h (b.put hne)
  have := h2.lt
  injection e with e
  injection e with e
  injection e with e
  omega
theorem Diff.newRE {L : Array Bool} {i k B : Nat} {w : World} {v : Value} (h : NewE L k B w v) (hne : i ≠ k) : Diff (L.setIfInBounds i true) k i v (.pointer (some ⟨w.heap.size, 0, none⟩)) := fun b _ e => by
  obtain ⟨g, rfl, _, h2⟩ := h (b.put hne)
  have := h2.lt
  injection e with e
  injection e with e
  injection e with e
  omega
section
variable {L : Array Bool} {i a c B k : Nat} {U V' : Value} {w w' : World} {G : (Nat → Prop) → World → Prop}
theorem Av.call (h1 : i ≠ a) (h2 : i ≠ c) (hb : Below w.heap.size w w') (b : Nat) (h : Av L a c U V' w b) : Av (L.setIfInBounds i true) a c U V' w' b := ⟨Nat.lt_of_lt_of_le h.1 hb.size, fun hu => h.2.1 (hu.put h1), fun hu => h.2.2 (hu.put h2)⟩
theorem ptr_ne {g b : Nat} (h : g ≠ b) : (Value.pointer (some ⟨g, 0, none⟩)) ≠ .pointer (some ⟨b, 0, none⟩) := fun e => by
  injection e with e
  injection e with e
  injection e with e
  exact h e
theorem Av.newL (h2 : a ≠ c) (o : Obj) (b : Nat) (h : Av L a c U V' w b) : Av (L.setIfInBounds a true) a c (.pointer (some ⟨w.heap.size, 0, none⟩)) V' (w.alloc o) b :=
  ⟨by have := h.1; simp; omega, fun _ => ptr_ne (by have := h.1; omega), fun hu => h.2.2 (hu.put h2)⟩
theorem Av.newR (h2 : c ≠ a) (o : Obj) (b : Nat) (h : Av L a c U V' w b) : Av (L.setIfInBounds c true) a c U (.pointer (some ⟨w.heap.size, 0, none⟩)) (w.alloc o) b :=
  ⟨by have := h.1; simp; omega, fun hu => h.2.1 (hu.put h2), fun _ => ptr_ne (by have := h.1; omega)⟩
theorem Av.fresh {Ba Bc : Nat} (hA : NewE L a Ba w U) (hC : NewE L c Bc w V') (h1 : i ≠ a) (h2 : i ≠ c) (b : Nat) (h : w.heap.size ≤ b ∧ b < w'.heap.size) : Av (L.setIfInBounds i true) a c U V' w' b :=
  ⟨h.2, fun hu => by
    obtain ⟨g, rfl, _, hk⟩ := hA (hu.put h1)
    have := hk.lt
    exact ptr_ne (by omega), fun hu => by
    obtain ⟨g, rfl, _, hk⟩ := hC (hu.put h2)
    have := hk.lt
    exact ptr_ne (by omega)⟩
theorem Av.parts {g1 g2 b : Nat} (z1 : Up L a) (z2 : Up L c) (h : Av L a c (.pointer (some ⟨g1, 0, none⟩)) (.pointer (some ⟨g2, 0, none⟩)) w b) : b < w.heap.size ∧ b ≠ g1 ∧ b ≠ g2 := ⟨h.1, fun e => h.2.1 z1 (by rw [e]), fun e => h.2.2 z2 (by rw [e])⟩
def Had (L : Array Bool) (k : Nat) (G : (Nat → Prop) → World → Prop) (Q : Nat → Prop) (w : World) : Prop := Up L k → G Q w
theorem Had.put {U' V'' : Value} (h : Had L k G (Av L a c U V' w) w) (hG : Keeps G) (hne : i ≠ k) (hb : Below w.heap.size w w') (hav : ∀ b, Av L a c U V' w b → Av (L.setIfInBounds i true) a c U' V'' w' b) : Had (L.setIfInBounds i true) k G (Av (L.setIfInBounds i true) a c U' V'' w') w' :=
  fun hu => hG _ _ _ _ (fun b hq => ⟨hav b hq, fun o => hb.cell (p := ⟨b, o, none⟩) hq.1⟩) (h (hu.put hne))
end
theorem GotE.fresh {E : Ex} {A : Option Addr} {c : Nat} {w w' : World} {Q : Nat → Prop} (h : ExR (fun b => w.heap.size ≤ b ∧ b < w'.heap.size) E A c w') (hq : ∀ b, w.heap.size ≤ b ∧ b < w'.heap.size → Q b) :
    GotE E (.agg #[.string ⟨E.op.toArray⟩, .int .i64 E.v.k, .int .i64 E.v.i, .string ⟨E.v.s.toArray⟩, .string ⟨E.s.toArray⟩, .slice A E.l.length c]) Q w' := ⟨A, c, rfl, h.keep fun b hb => ⟨hq b hb, fun _ => rfl⟩⟩
theorem GotC.fresh {l : List Col} {A : Option Addr} {c : Nat} {w w' : World} {Q : Nat → Prop} (h : ColF w' w.heap.size w'.heap.size A l) (hq : ∀ b, w.heap.size ≤ b ∧ b < w'.heap.size → Q b) : GotC l (.slice A l.length c) Q w' :=
  ⟨A, c, rfl, fun hl => by
    obtain ⟨b, off, rfl, h1, h2, h3⟩ := h hl
    exact ⟨b, off, rfl, hq b ⟨h1, h2⟩, h3⟩⟩
theorem GotV.fresh {l : List V} {A : Option Addr} {c : Nat} {w w' : World} {Q : Nat → Prop} (h : VF w' w.heap.size w'.heap.size A l) (hq : ∀ b, w.heap.size ≤ b ∧ b < w'.heap.size → Q b) : GotV l (.slice A l.length c) Q w' :=
  ⟨A, c, rfl, fun hl => by
    obtain ⟨b, off, rfl, h1, h2, h3⟩ := h hl
    exact ⟨b, off, rfl, hq b ⟨h1, h2⟩, h3⟩⟩
/-- Two expressions in variables, columns and a row. -/
def Parts1 (W : World) (X Y : Ex) (CO : List Col) (RO : List V) (s3 s4 s5 s6 : Value) (wx : World) : Prop :=
  ∃ g1 g2 A5 c5 A6 c6 A3 c3 A4 c4, s3 = .pointer (some ⟨g1, 0, none⟩) ∧ s4 = .pointer (some ⟨g2, 0, none⟩) ∧ s5 = .slice A3 CO.length c3 ∧ s6 = .slice A4 RO.length c4 ∧ Blk wx g1 26 (X.cells A5 c5).toArray ∧ Blk wx g2 26 (Y.cells A6 c6).toArray ∧
    Hid (ExR (fun b => b < wx.heap.size) X A5 c5 wx) ∧ Hid (ExR (fun b => b < wx.heap.size) Y A6 c6 wx) ∧ Hid (ColS wx wx.heap.size A3 CO) ∧ Hid (VS wx wx.heap.size A4 RO) ∧ W.heap.size ≤ g1 ∧ W.heap.size ≤ g2 ∧ Below W.heap.size W wx
theorem parts_end {W wv : World} {g1 g2 : Nat} {X Y : Ex} {CO : List Col} {RO : List V} {A5 A6 A3 A4 : Option Addr} {c5 c6 c3 c4 : Nat} {Q : Nat → Prop} (hQ : ∀ b, Q b → b < wv.heap.size ∧ b ≠ g1 ∧ b ≠ g2)
    (hX : ExR Q X A5 c5 wv) (hY : ExR Q Y A6 c6 wv) (hC : ColQ CO A3 Q wv) (hV : VQ RO A4 Q wv) (k1 : Blk wv g1 26 #[.string ⟨#[]⟩, .int .i64 0, .int .i64 0, .string ⟨#[]⟩, .string ⟨#[]⟩, .slice none 0 0])
    (k2 : Blk wv g2 26 #[.string ⟨#[]⟩, .int .i64 0, .int .i64 0, .string ⟨#[]⟩, .string ⟨#[]⟩, .slice none 0 0]) (hne : g1 ≠ g2) (hb : Below W.heap.size W wv) (m1 : W.heap.size ≤ g1) (m2 : W.heap.size ≤ g2) :
    Parts1 W X Y CO RO (.pointer (some ⟨g1, 0, none⟩)) (.pointer (some ⟨g2, 0, none⟩)) (.slice A3 CO.length c3) (.slice A4 RO.length c4)
      ((((((((((((wv.setCell ⟨g1, 0, none⟩ (.string ⟨X.op.toArray⟩)).setCell ⟨g1, 1, none⟩ (.int .i64 X.v.k)).setCell ⟨g1, 2, none⟩ (.int .i64 X.v.i)).setCell ⟨g1, 3, none⟩ (.string ⟨X.v.s.toArray⟩)).setCell ⟨g1, 4, none⟩ (.string ⟨X.s.toArray⟩)).setCell ⟨g1, 5, none⟩ (.slice A5 X.l.length c5)).setCell
        ⟨g2, 0, none⟩ (.string ⟨Y.op.toArray⟩)).setCell ⟨g2, 1, none⟩ (.int .i64 Y.v.k)).setCell ⟨g2, 2, none⟩ (.int .i64 Y.v.i)).setCell ⟨g2, 3, none⟩ (.string ⟨Y.v.s.toArray⟩)).setCell ⟨g2, 4, none⟩ (.string ⟨Y.s.toArray⟩)).setCell ⟨g2, 5, none⟩ (.slice A6 Y.l.length c6)) := by
  have b1 := But.sixSet wv g1 (.string ⟨X.op.toArray⟩) (.int .i64 X.v.k) (.int .i64 X.v.i) (.string ⟨X.v.s.toArray⟩) (.string ⟨X.s.toArray⟩) (.slice A5 X.l.length c5)
  have q1 := Blk.sixSet (e0 := exZero) (show Blk wv g1 26 (exZero.cells none 0).toArray from k1) (.string ⟨X.op.toArray⟩) (.int .i64 X.v.k) (.int .i64 X.v.i) (.string ⟨X.v.s.toArray⟩) (.string ⟨X.s.toArray⟩) (.slice A5 X.l.length c5)
  obtain ⟨w1, hw1⟩ : ∃ w1, w1 = ((((((wv.setCell ⟨g1, 0, none⟩ (.string ⟨X.op.toArray⟩)).setCell ⟨g1, 1, none⟩ (.int .i64 X.v.k)).setCell ⟨g1, 2, none⟩ (.int .i64 X.v.i)).setCell ⟨g1, 3, none⟩ (.string ⟨X.v.s.toArray⟩)).setCell ⟨g1, 4, none⟩ (.string ⟨X.s.toArray⟩)).setCell ⟨g1, 5, none⟩ (.slice A5 X.l.length c5)) := ⟨_, rfl⟩
  have z1 : w1.heap.size = wv.heap.size := by rw [hw1]; simp
  have hb1 : Below W.heap.size W w1 := by rw [hw1]; ((repeat' (first | with_reducible exact Below.refl _ _ | with_reducible assumption | with_reducible refine Below.drew ?_ | with_reducible refine below_drewN ?_ _ | with_reducible refine Below.setCell ?_ ?_ _ | with_reducible refine Below.alloc ?_ ?_ _ | with_reducible refine Below.trans ?_ (Below.mono (by assumption) ?_))) <;> (first | (simp; done) | (simp; omega) | omega))
  rw [← hw1] at b1 q1 ⊢
  clear hw1
  have k2' : Blk w1 g2 26 (exZero.cells none 0).toArray := (b1.block g2 k2.lt (Ne.symm hne)).trans k2
  have b2 := But.sixSet w1 g2 (.string ⟨Y.op.toArray⟩) (.int .i64 Y.v.k) (.int .i64 Y.v.i) (.string ⟨Y.v.s.toArray⟩) (.string ⟨Y.s.toArray⟩) (.slice A6 Y.l.length c6)
  have q2 := Blk.sixSet (e0 := exZero) k2' (.string ⟨Y.op.toArray⟩) (.int .i64 Y.v.k) (.int .i64 Y.v.i) (.string ⟨Y.v.s.toArray⟩) (.string ⟨Y.s.toArray⟩) (.slice A6 Y.l.length c6)
  obtain ⟨w2, hw2⟩ : ∃ w2, w2 = ((((((w1.setCell ⟨g2, 0, none⟩ (.string ⟨Y.op.toArray⟩)).setCell ⟨g2, 1, none⟩ (.int .i64 Y.v.k)).setCell ⟨g2, 2, none⟩ (.int .i64 Y.v.i)).setCell ⟨g2, 3, none⟩ (.string ⟨Y.v.s.toArray⟩)).setCell ⟨g2, 4, none⟩ (.string ⟨Y.s.toArray⟩)).setCell ⟨g2, 5, none⟩ (.slice A6 Y.l.length c6)) := ⟨_, rfl⟩
  have z2 : w2.heap.size = w1.heap.size := by rw [hw2]; simp
  have hb2 : Below W.heap.size W w2 := by rw [hw2]; ((repeat' (first | with_reducible exact Below.refl _ _ | with_reducible assumption | with_reducible refine Below.drew ?_ | with_reducible refine below_drewN ?_ _ | with_reducible refine Below.setCell ?_ ?_ _ | with_reducible refine Below.alloc ?_ ?_ _ | with_reducible refine Below.trans ?_ (Below.mono (by assumption) ?_))) <;> (first | (simp; done) | (simp; omega) | omega))
  rw [← hw2] at b2 q2 ⊢
  clear hw2
  have hk : ∀ b, Q b → b < w2.heap.size ∧ ∀ o, w2.cell? ⟨b, o, none⟩ = wv.cell? ⟨b, o, none⟩ := fun b hq => by
    obtain ⟨h1, h2, h3⟩ := hQ b hq
    exact ⟨by omega, fun o => (b2.cell (by omega) h3 o).trans (b1.cell h1 h2 o)⟩
  refine ⟨g1, g2, A5, c5, A6, c6, A3, c3, A4, c4, rfl, rfl, rfl, rfl, (b2.block g1 q1.lt hne).trans q1, q2, hX.keep hk, hY.keep hk, fun hl => ?_, fun hl => ?_, m1, m2, hb2⟩
  · obtain ⟨b, off, rfl, h1, h2⟩ := hC.keep hk hl
    exact ⟨b, off, rfl, h1, h2⟩
  · obtain ⟨b, off, rfl, h1, h2⟩ := hV.keep hk hl
    exact ⟨b, off, rfl, h1, h2⟩

theorem fewL_s (l : List V) : ∀ x ∈ fewL l, x.s.length ≤ 1000 := by
  intro x hx
  unfold fewL at hx
  rw [List.mem_map] at hx
  obtain ⟨y, _, rfl⟩ := hx
  show (y.s.take 60).length ≤ 1000
  rw [List.length_take]
  omega

/-- Two values in variables. -/
def Held2 (W w : World) (p q : Value) (x y : V) : Prop :=
  ∃ g1 g2, p = .pointer (some ⟨g1, 0, none⟩) ∧ q = .pointer (some ⟨g2, 0, none⟩) ∧ Blk w g1 23 #[.int .i64 (x).k, .int .i64 (x).i, .string ⟨(x).s.toArray⟩] ∧ Blk w g2 23 #[.int .i64 (y).k, .int .i64 (y).i, .string ⟨(y).s.toArray⟩] ∧ Below W.heap.size W w

theorem doF_s (op : List UInt8) (a b : V) : (doF op a b).s = [] := by
  have ht : ∀ n, (truthV n).s = [] := fun n => by unfold truthV; split <;> rfl
  have hi : ∀ (p : Prop) [Decidable p] (x y : V), x.s = [] → y.s = [] → (if p then x else y).s = [] := fun p _ x y h1 h2 => by split <;> assumption
  unfold doF
  refine hi _ _ _ (ht _) (hi _ _ _ (ht _) (hi _ _ _ (ht _) (hi _ _ _ ?_ (hi _ _ _ ?_ (hi _ _ _ ?_ (hi _ _ _ ?_ rfl))))))
  · exact hi _ _ _ rfl rfl
  · exact hi _ _ _ rfl rfl
  · exact hi _ _ _ rfl rfl
  · exact hi _ _ _ rfl rfl
theorem evalE_s (n : Nat) (cols : List Col) (row : List V) (e : Ex) (K : Nat) (he : e.v.s.length ≤ K) (hr : ∀ x ∈ row, x.s.length ≤ K) : (evalE n cols row e).s.length ≤ K := by
  unfold evalE
  split
  · exact he
  · split
    · split
      · exact Nat.zero_le _
      · rw [List.getD_eq_getElem?_getD]
        cases hg : row[(placeF cols e.s).toNat]? with
        | none => exact Nat.zero_le _
        | some x => exact hr x (List.mem_of_getElem? hg)
    · cases n with
      | zero => simp only; rw [doF_s]; exact Nat.zero_le _
      | succ n => simp only; rw [doF_s]; exact Nat.zero_le _
theorem evalX_s (cols : List Col) (row : List V) (e : Ex) (K : Nat) (he : e.v.s.length ≤ K) (hr : ∀ x ∈ row, x.s.length ≤ K) : (evalX cols row e).s.length ≤ K := by
  unfold evalX
  split
  · exact evalE_s 12 cols row e K he hr
  · exact Nat.zero_le _
theorem evalX_in (cols : List Col) (row : List V) (e : Ex) (he : fitI e.v.i) (hr : ∀ x ∈ row, fitI x.i) : fitI (evalX cols row e).i := by
  unfold evalX
  split
  · exact evalE_in 12 cols row e he hr
  · exact zero_in
theorem part_two {cols : List Col} {row : List V} {op : List UInt8} {X Y : Ex} (hX : mayX X = true) (hY : mayX Y = true) (h1 : ¬ op = opLit) (h2 : ¬ op = opCol) (hm : mayX (.mk op V.zero [] [X, Y]) = true) :
    evalX cols row (.mk op V.zero [] [X, Y]) = doF op (evalX cols row X) (evalX cols row Y) := by
  have g := hgt_two (mayX_hgt hm)
  rw [val_may hm, val_may hX, val_may hY, val_two h1 h2 g.1 g.2]
theorem part_not {cols : List Col} {row : List V} {X : Ex} (hX : mayX X = true) (hm : mayX (.mk opNot V.zero [] [X]) = true) : evalX cols row (.mk opNot V.zero [] [X]) = notV (evalX cols row X) := by
  have g := hgt_one (mayX_hgt hm)
  rw [val_may hm, val_may hX, val_one (by decide) (by decide) g]
  rfl
/-- What two parts come to, one with the other, by an Op. -/
def PartOk (CO : List Col) (RO : List V) (X Y : Ex) (op : List UInt8) (v : V) : Prop := op.length ≤ 1000 ∧ (mayX (.mk op V.zero [] [X, Y]) = true → evalX CO RO (.mk op V.zero [] [X, Y]) = v)
theorem part_ok {CO : List Col} {RO : List V} {X Y : Ex} {op : List UInt8} {x y : V} (hX : mayX X = true) (hY : mayX Y = true) (ex : evalX CO RO X = x) (ey : evalX CO RO Y = y) (h1 : ¬ op = opLit) (h2 : ¬ op = opCol) (hl : op.length ≤ 1000) : PartOk CO RO X Y op (doF op x y) :=
  ⟨hl, fun hm => by rw [part_two hX hY h1 h2 hm, ex, ey]⟩

end Go.Proofs.YtdnkkkgneikhkaaGreatDoor
