/- A region that draws its order and loads, or stores, a whole row of cells: the row is taken as one. No program in sight. The statement parser's expr, value and where, as plain functions. Condition: no more than 990 tokens that memory reaches, below the parser, of texts no longer than a thousand; strconv's errors lie as they were laid. The statement parser's where, and what stands behind SELECT, DELETE and DROP, as plain functions. Condition: no more than 990 tokens that memory reaches, below the parser, of texts no longer than a thousand; strconv's errors lie as they were laid. The statement parser's choose, delete and drop, as plain functions. Condition: no more than 990 tokens that memory reaches, below the parser, of texts no longer than a thousand; strconv's errors lie as they were laid. The statement parser's list and inside, over what an item does. Condition: no more than 990 tokens that memory reaches, below the parser. -/
import Derived.Test.YtchilcchogcibaaGreatDoorEAppend
import Derived.Deep.RegionHeld3
import Derived.Deep.WholeRow
import Derived.Test.YtchilcchogcibaaGreatDoorEPs5
import Derived.Test.YtchilcchogcibaaGreatDoorEParse9
import Derived.Deep.MidRow
import Derived.Test.YtchilcchogcibaaGreatDoorEAppend
namespace Go.Proofs.YtchilcchogcibaaGreatDoor
open Go

section
variable {P : Program} {ops : Array Oper} {Q : Exit → Act → World → Prop} {S : World → Prop}
theorem yields_row {o : Oper} {a : Act} (ty : TypeId) (x : Operand) (ho : o.op = .load ty x) (hw : Region.wanted o (yielded ops a.tmps) = true)
    (g : Nat) (hx : a.eval x = .pointer (some ⟨g, 0, none⟩)) (t : TypeId) (cs : Array Value) (d : TypeDesc) (hu : P.underlying ty = some d) (hd : (match d with | .struct _ | .array _ _ => true | _ => false) = true) (hi : (P.info? ty).map (·.size) = some cs.size)
    (hg : ∀ w : World, S w → w.heap[g]? = some (.cells cs t (0, 0))) : YieldsIf P ops S o (.agg cs) a := .inl ⟨hw, fun w hS => by
  unfold execOp
  simp only [ho, hx, Instr.loadAt, Instr.sureAddr, Sem.run_bind, Sem.run_pure, Result.andThen_ok, run_loadVar_row w g t ty cs (0, 0) d (hg w hS) hu hd hi]⟩
theorem step_store_row {o : Oper} {a : Act} {w : World} {K : Act → World → Prop} {E : Prop} (hw : Region.wanted o (yielded ops a.tmps) = true) (ty : TypeId) (x y : Operand) (ho : o.op = .store ty x y)
    (g : Nat) (cells : Array Value) (hx : a.eval x = .pointer (some ⟨g, 0, none⟩)) (hy : a.eval y = .agg cells)
    (t : TypeId) (hg : ∃ old : Array Value, old.size = cells.size ∧ w.heap[g]? = some (.cells old t (0, 0))) (hi : (P.info? ty).map (·.size) = some cells.size) (h1 : cells.all (·.oneCell') = true)
    (h : K (a.put o.dst undef) (w.setRow g cells)) : if Region.wanted o (yielded ops a.tmps) = true then Oper.wp P o a w K Q else E := by
  rw [if_pos hw]
  obtain ⟨old, hold, hg⟩ := hg
  exact wp_store_row ty x y ho g cells hx hy t old hg hi hold h1 h
end

end Go.Proofs.YtchilcchogcibaaGreatDoor

namespace Go.Proofs.YtchilcchogcibaaGreatDoor
open Go.RowKit

attribute [local go_sem] ByteArray.extract_mk ba_get ba_append
attribute [local go_sem ↓] Go.wp_at_zero Go.wp_at_succ run_eql_V run_neq_V

/-- Cells are laid, one behind the other. -/
def setA (cs : Array Value) : Nat → List Value → Array Value
  | _, [] => cs
  | o, v :: r => setA (cs.setIfInBounds o v) (o + 1) r
theorem Blk.setL {t : TypeId} {b : Nat} : ∀ (vs : List Value) (o : Nat) {w : World} {cs : Array Value}, Blk w b t cs → Blk (w.setCells b o vs) b t (setA cs o vs)
  | [], _, _, _, h => h
  | v :: r, o, _, _, h => Blk.setL r (o + 1) (h.set_ o v)
theorem Blk.farL {t : TypeId} {b k : Nat} (hk : k ≠ b) : ∀ (vs : List Value) (o : Nat) {w : World} {cs : Array Value}, Blk w k t cs → Blk (w.setCells b o vs) k t cs
  | [], _, _, _, h => h
  | v :: r, o, _, _, h => Blk.farL hk r (o + 1) (h.far (p := ⟨b, o, none⟩) hk v)
theorem PsS.setL {g : Nat} {A : Option Addr} {c : Nat} {l : List Tok} {a : Nat} : ∀ (vs : List Value) (o : Nat) {cs : Array Value} {w : World}, 2 ≤ o → PsS g A c l a cs w → PsS g A c l a (setA cs o vs) (w.setCells g o vs)
  | [], _, _, _, _, h => h
  | v :: r, o, _, _, ho, h => PsS.setL r (o + 1) (by omega) (h.set o ho v)
theorem PsS.farL {g b : Nat} (hb : g < b) {A : Option Addr} {c : Nat} {l : List Tok} {a : Nat} {cs : Array Value} : ∀ (vs : List Value) (o : Nat) {w : World}, PsS g A c l a cs w → PsS g A c l a cs (w.setCells b o vs)
  | [], _, _, h => h
  | v :: r, o, _, h => PsS.farL hb r (o + 1) ⟨h.blk.far (p := ⟨b, o, none⟩) (Nat.ne_of_lt hb) v, h.c0, h.c1, h.tk.below (bwS bwR (Nat.le_of_lt hb))⟩
theorem But.setL {g : Nat} {w : World} : ∀ (vs : List Value) (o : Nat) {w' : World}, But g w w' → But g w (w'.setCells g o vs)
  | [], _, _, h => h
  | v :: r, o, _, h => But.setL r (o + 1) (h.set o v)
/-- strconv's errors lie below a block. -/
def ErG (g : Nat) (w : World) : Prop := ∃ W0 : World, Errs W0 ∧ W0.heap.size ≤ g ∧ Below W0.heap.size W0 w
theorem ErG.out {g : Nat} {w : World} (h : ErG g w) : Errs w := by
  obtain ⟨W0, h1, _, h3⟩ := h
  exact h1.below h3 rfl
theorem ErG.below {g B : Nat} {w w' : World} (h : ErG g w) (hb : Below B w w') (hB : g ≤ B) : ErG g w' := by
  obtain ⟨W0, h1, h2, h3⟩ := h
  exact ⟨W0, h1, h2, h3.trans (hb.mono (by omega))⟩
theorem ErG.but {g : Nat} {w w' : World} (h : ErG g w) (hb : But g w w') : ErG g w' := by
  obtain ⟨W0, h1, h2, h3⟩ := h
  exact ⟨W0, h1, h2, But.inside h3 h2 hb⟩
/-- Tokens from a place on. -/
theorem tk_from {w : World} {B : Nat} {A : Option Addr} {l : List Tok} {a c : Nat} (h : TkS w B A l) (hc : l.length ≤ c) : TkS w B (if c = a then A else A.map (·.add (a * 2))) (l.drop a) := by
  intro hl
  rw [List.length_drop] at hl
  obtain ⟨b, o, rfl, hb, hr⟩ := h (by omega)
  rw [if_neg (by omega)]
  refine ⟨b, o + a * 2, by rw [Option.map_some, Addr.add_mid], hb, fun i v hv => ?_⟩
  rw [List.getElem?_drop] at hv
  have := hr (a + i) v hv
  rw [show o + (a + i) * 2 = o + a * 2 + i * 2 by omega] at this
  exact this
theorem parseX_le (l : List Tok) (hll : l.length ≤ 990) (hl : ∀ t ∈ l, t.s.length ≤ 1000000) : (parseX l).2.1 ≤ l.length := by
  unfold parseX
  split
  · exact ((levN_part 0 none 0 l hll hl 65536 0 rfl).2.1 0 (Nat.zero_le _)).2
  · exact Nat.zero_le _
/-- The expression at a place, and what stands behind it. -/
def exprAt (l : List Tok) (a : Nat) : Option (Ex × Nat) := if (parseX (l.drop a)).2.2 = 0 then some ((parseX (l.drop a)).1, a + (parseX (l.drop a)).2.1) else none
/-- What expr leaves. -/
def RetXr (r : Option (Ex × Nat)) (g b o : Nat) (w : World) (en : Ending) (w' : World) : Prop :=
  match r with
  | none => en = .returned (.bool false) ∧ Below w.heap.size w w'
  | some r => ∃ A' c' w1, en = .returned (.bool true) ∧ Below w.heap.size w w1 ∧ ExR (fun k => w.heap.size ≤ k ∧ k < w1.heap.size) r.1 A' c' w1 ∧ w' = (w1.setCells b o (r.1.cells A' c')).setCell ⟨g, 1, none⟩ (.int .i64 (r.2 : Nat))

theorem cell_of_block {w w' : World} {k : Nat} (h : w'.heap[k]? = w.heap[k]?) (o : Nat) : w'.cell? ⟨k, o, none⟩ = w.cell? ⟨k, o, none⟩ := by unfold World.cell?; rw [h]
theorem rangeAt_blk {w : World} {k : Nat} {t : TypeId} {cs : List Value} (h : Blk w k t cs.toArray) : w.rangeAt k 0 cs := fun j v hv => by rw [Nat.zero_add, h.cell]; simpa using hv
theorem infoE6 : (Tryz.prog.info? 30).map (·.size) = some 6 := by kernel_rfl
theorem infoV3 : (Tryz.prog.info? 27).map (·.size) = some 3 := by kernel_rfl
theorem exOne (e : Ex) (A : Option Addr) (c : Nat) : (e.cells A c).toArray.all (·.oneCell') = true := by simp [Ex.cells, Value.oneCell']
set_option maxRecDepth 100000 in
set_option maxHeartbeats 4000000 in
theorem pexpr_raw (g : Nat) (A : Option Addr) (c : Nat) (l : List Tok) (a : Nat) (cs : Array Value) (b o : Nat) (w : World) (hl : l.length ≤ 990) (hs : ∀ t ∈ l, t.s.length ≤ 1000) (hc : l.length ≤ c) (ha : a ≤ l.length) (h : PsS g A c l a cs w) (hE : ErG g w) (hb : b ≠ g ∨ 2 ≤ o) (ht : w.there b o 6) (hbl : b < w.heap.size) :
    Calls Tryz.prog 175 #[.pointer (some ⟨g, 0, none⟩), .pointer (some ⟨b, o, none⟩)] w (RetXr (exprAt l a) g b o w) := by
  have lp := h.blk.lt
  have hld : (l.drop a).length ≤ 990 := by rw [List.length_drop]; omega
  have hsd : ∀ t ∈ l.drop a, t.s.length ≤ 1000000 := fun t ht => Nat.le_trans (hs t (List.mem_of_mem_drop ht)) (by decide)
  have hn := parseX_le (l.drop a) hld hsd
  rw [List.length_drop] at hn
  obtain ⟨A1, hA1⟩ : ∃ x, (if c = a then A else A.map (·.add (a * 2))) = x := ⟨_, rfl⟩
  have hT1 := tk_from (a := a) h.tk hc
  rw [hA1] at hT1
  have HX : Hid (∀ Z : World, Below w.heap.size w Z → Calls Tryz.prog 213 #[.slice A1 (l.length - a) (c - a)] Z (RetParse (parseX (l.drop a)) Z)) := fun Z hz => by
    have := parseX_any A1 (c - a) (l.drop a) Z hld hsd (((hT1.below (hz.mono (Nat.le_of_lt lp))).more (Nat.le_trans (Nat.le_of_lt lp) hz.size))) (hE.below hz (Nat.le_of_lt lp)).out
    rw [List.length_drop] at this
    exact this
  obtain ⟨R, hR⟩ : ∃ R, parseX (l.drop a) = R := ⟨_, rfl⟩
  have hX : exprAt l a = if R.2.2 = 0 then some (R.1, a + R.2.1) else none := by unfold exprAt; rw [hR]
  rw [hX]
  rw [hR] at HX hn
  obtain ⟨e, n, err⟩ := R
  obtain ⟨R', hR'⟩ : ∃ x, (if err = 0 then some (e, a + n) else none) = x := ⟨_, rfl⟩
  have HR := Lib.hid hR'
  simp only at hn ⊢
  rw [hR']
  have i1 : (0 : Int) ≤ (a : Int) := by omega
  have i2 : (a : Int) ≤ (l.length : Int) := by omega
  have HSH : Hid (∀ w' : World, Below w.heap.size w w' → (w'.cell? ⟨g, 0, none⟩ = some (.slice A l.length c) ∧ w'.cell? ⟨g, 1, none⟩ = some (.int .i64 (a : Nat)))) :=
    fun w' hb => ⟨((h.blk.below hb lp).cell 0).trans h.c0, ((h.blk.below hb lp).cell 1).trans h.c1⟩
  have HTH : Hid (∀ w' : World, Below w.heap.size w w' → w'.there b o 6) := fun w' hb j hj => ⟨by rw [hb.cell (p := ⟨b, o + j, none⟩) hbl]; exact (ht j hj).1, by rw [(bcell hb).2 b (o + j) hbl]; exact (ht j hj).2⟩
  have HF1 := Lib.hid (h.blk.frozen 1)
  have HA1 := Lib.hid hA1
  have HB := Lib.hid hb
  obtain ⟨L, hL⟩ : ∃ L, l.length = L := ⟨_, rfl⟩
  rw [hL] at HX hn i2 HSH hl
  clear hX hT1 hR hR' hA1 h hE hs hc ha ht hb hsd hld
  go_enter Tryz.func175, Tryz.ntmps175
  go_upto_region 1 with fail
  refine rgn HSH fun hHeld => ?_
  refine tS [0, 1, 2, 3, 4, 5, 6, 7] ?_
  iterate 8 (refine tC ?_; refine ap ?_)
  refine tN ?_
  refine tS [8] (tC (v := .slice A1 (L - a) (c - a)) (hy := by refine Or.inl ⟨by rfl, ?_⟩; intro wq hSw; (try dsimp only at hSw); go_simp; first | done | (rw [← HA1.out])) ?_) <;> refine ap (tN ?_)
  refine wpAnyH_ready (rs := [9, 14]) (by kernel_rfl) (by simp) ?_
  refine (AllReadyH.cons rfl (fun K hK => ?_) (AllReadyH.cons rfl (fun K hK => ?_) AllReadyH.nil))
  · skip
    go_simp
    refine (HX.out _ (by exact bl)).mono ?_ <;> rintro en w5 ⟨A5, c5, rfl, hE5, hb5⟩ <;> have hz5 := hb5.size <;> have hb15 : Below w.heap.size w w5 := (by first | exact (Below.drew (Below.refl _ w)).trans hb5 | exact ((Below.drew (Below.refl _ w)).alloc (Nat.le_refl _) _).trans (hb5.mono (by simp))) <;> have hz15 := hb15.size <;> (try have HKZ : Hid (Blk w5 w.heap.size 30 #[.string ⟨#[]⟩, .int .i64 0, .int .i64 0, .string ⟨#[]⟩, .string ⟨#[]⟩, .slice none 0 0]) := Blk.below (Blk.new' w.drew w.heap.size _ _ rfl) hb5 (by simp))
    go_wp2_with fail
    refine hK.out _ _ (HSH.out _ (by exact bl)) fun hHeld => ?_
    clear hK K
    refine ap ?_
    refine tS [10, 11, 12, 13] ?_
    iterate 4 (refine tC ?_; refine ap ?_)
    refine tN ?_
    refine rdy 14 fun K hK => ?_
    go_simp
    skip
    go_wp2_with fail
    refine hK.out _ _ (HSH.out _ (by exact bl)) fun hHeld => ?_
    clear hK K
    refine ap ?_
    refine rdy 15 fun K hK => ?_
    first
    |
      refine step_store_row (by rfl) 30 _ _ rfl w5.heap.size (e.cells A5 c5).toArray rfl rfl 30 ⟨#[.string ⟨#[]⟩, .int .i64 0, .int .i64 0, .string ⟨#[]⟩, .string ⟨#[]⟩, .slice none 0 0], rfl, heap_alloc_last _ _⟩ infoE6 (exOne _ _ _) ?_
      refine hK.out _ _ (HSH.out _ (bwRow (by exact bl) hb15.size _)) (fun hHeld => ?_)
      clear hK K
      refine ap ?_
      obtain ⟨w6, hw6⟩ : ∃ x, World.setRow (w5.alloc (.cells #[.string ⟨#[]⟩, .int .i64 0, .int .i64 0, .string ⟨#[]⟩, .string ⟨#[]⟩, .slice none 0 0] 30)) w5.heap.size (e.cells A5 c5).toArray = x := ⟨_, rfl⟩
      have hb6 : Below w.heap.size w w6 := by rw [← hw6]; exact bwRow (by exact bl) hb15.size _
      have k6 : Blk w6 w5.heap.size 30 (e.cells A5 c5).toArray := by rw [← hw6]; exact Blk.row (heap_alloc_last _ _) _
      have hE6 := hE5.keep (Q' := fun x => w.heap.size ≤ x ∧ x < w6.heap.size) (w' := w6) fun x hx => ⟨⟨by first | exact hx.1 | (have := hx.1; simp at this; omega), by rw [← hw6, setRow_size]; have := hx.2; simp; omega⟩, fun o => by rw [← hw6]; exact cell_of_block ((setRow_block _ _ _ _ (by have := hx.2; omega)).trans (Below.heap_alloc _ _ _ hx.2)) o⟩
      have hkw : w.heap.size ≤ w5.heap.size := hb15.size
      have hkl : w5.heap.size < w6.heap.size := k6.lt
      rw [hw6] at hHeld ⊢
      obtain ⟨k, hk⟩ : ∃ k, w5.heap.size = k := ⟨_, rfl⟩
      rw [hk] at k6 hkw hkl ⊢
      clear hw6 hk
    |
      refine step_store_row (by rfl) 30 _ _ rfl w.heap.size (e.cells A5 c5).toArray rfl rfl 30 ⟨#[.string ⟨#[]⟩, .int .i64 0, .int .i64 0, .string ⟨#[]⟩, .string ⟨#[]⟩, .slice none 0 0], rfl, HKZ.out⟩ infoE6 (exOne _ _ _) ?_
      refine hK.out _ _ (HSH.out _ (bwRow hb15 (Nat.le_refl _) _)) (fun hHeld => ?_)
      clear hK K
      refine ap ?_
      obtain ⟨w6, hw6⟩ : ∃ x, World.setRow w5 w.heap.size (e.cells A5 c5).toArray = x := ⟨_, rfl⟩
      have hb6 : Below w.heap.size w w6 := by rw [← hw6]; exact bwRow hb15 (Nat.le_refl _) _
      have k6 : Blk w6 w.heap.size 30 (e.cells A5 c5).toArray := by rw [← hw6]; exact Blk.row HKZ.out _
      have hE6 := hE5.keep (Q' := fun x => w.heap.size ≤ x ∧ x < w6.heap.size) (w' := w6) fun x hx => ⟨⟨by have := hx.1; simp at this; omega, by rw [← hw6, setRow_size]; exact hx.2⟩, fun o => by rw [← hw6]; exact cell_of_block (setRow_block _ _ _ _ (by have := hx.1; simp at this; omega)) o⟩
      have hkw : w.heap.size ≤ w.heap.size := Nat.le_refl _
      have hkl : w.heap.size < w6.heap.size := k6.lt
      rw [hw6] at hHeld ⊢
      obtain ⟨k, hk⟩ : ∃ k, w.heap.size = k := ⟨_, rfl⟩
      rw [show Value.pointer (some ⟨w.heap.size, 0, none⟩) = .pointer (some ⟨k, 0, none⟩) by rw [hk]]
      rw [hk] at k6
      have hkw : w.heap.size ≤ k := Nat.le_of_eq hk
      have hkl : k < w6.heap.size := k6.lt
      clear hw6 hk
    refine tS [16, 17] ?_
    iterate 2 (refine tC ?_; refine ap ?_)
    refine tN ?_
    refine wpAnyH_done (by kernel_rfl) ?_ _
    have HRG := Lib.hid (rangeAt_blk k6)
    have HT6 := Lib.hid (HTH.out w6 hb6)
    have x1 : w6.cell? ⟨g, 1, none⟩ = some (.int .i64 (a : Nat)) := (HSH.out w6 hb6).2
    have f1 : w6.frozen? ⟨g, 1, none⟩ = false := by rw [(bcell hb6).2 g 1 lp]; exact HF1.out
    have HE6 := Lib.hid hE6
    have HB6 := Lib.hid hb6
    clear k6 hE5 hE6 hb5 hb15 hz5 hb6
    by_cases he : err = 0
    · have hR : some (e, a + n) = R' := by rw [← HR.out, if_pos he]
      subst hR
      subst he
      obtain ⟨w7, hw7⟩ : ∃ x, w6.setCells b o (e.cells A5 c5) = x := ⟨_, rfl⟩
      have x7 : w7.cell? ⟨g, 1, none⟩ = some (.int .i64 (a : Nat)) := by
        rw [← hw7, World.cell?_setCells_out _ _ _ _ _ (fun h1 _ => by rcases HB.out with h2 | h2; exact absurd h1.symm h2; exact .inl (Nat.lt_of_lt_of_le Nat.one_lt_two h2))]
        exact x1
      have f7 : w7.frozen? ⟨g, 1, none⟩ = false := by rw [← hw7, World.frozen?_setCells]; exact f1
      have HW7 := Lib.hid hw7
      clear hw7 x1 f1
      go_wp2_with (first | refine wpList_load_midG (by rfl) 30 _ rfl k 0 rfl (e.cells A5 c5) _ HRG.out Tryz.underlying30 rfl infoE6 ?_ | (refine wpList_store_mid rfl 30 _ _ rfl b o (e.cells A5 c5).toArray rfl rfl HT6.out infoE6 (exOne _ _ _) ?_; rw [show World.setCells w6 b o _ = w7 from HW7.out]))
      go_ret
      exact ⟨A5, c5, w6, rfl, HB6.out, HE6.out, by rw [show World.setCells w6 b o _ = w7 from HW7.out]; go_num⟩
    · have hR : none = R' := by rw [← HR.out, if_neg he]
      subst hR
      have e1 : (err != 0) = true := by simpa using he
      clear x1 f1
      go_wp2_with fail
      go_ret
      exact ⟨rfl, HB6.out⟩
  · skip
    go_simp
    skip
    go_wp2_with fail
    refine hK.out _ _ (HSH.out _ (by exact bl)) fun hHeld => ?_
    clear hK K
    refine ap ?_
    refine rdy 9 fun K hK => ?_
    go_simp
    refine (HX.out _ (by exact bl)).mono ?_ <;> rintro en w5 ⟨A5, c5, rfl, hE5, hb5⟩ <;> have hz5 := hb5.size <;> have hb15 : Below w.heap.size w w5 := (by first | exact (Below.drew (Below.refl _ w)).trans hb5 | exact ((Below.drew (Below.refl _ w)).alloc (Nat.le_refl _) _).trans (hb5.mono (by simp))) <;> have hz15 := hb15.size <;> (try have HKZ : Hid (Blk w5 w.heap.size 30 #[.string ⟨#[]⟩, .int .i64 0, .int .i64 0, .string ⟨#[]⟩, .string ⟨#[]⟩, .slice none 0 0]) := Blk.below (Blk.new' w.drew w.heap.size _ _ rfl) hb5 (by simp))
    go_wp2_with fail
    refine hK.out _ _ (HSH.out _ (by exact bl)) fun hHeld => ?_
    clear hK K
    refine ap ?_
    refine tS [10, 11, 12, 13] ?_
    iterate 4 (refine tC ?_; refine ap ?_)
    refine tN ?_
    refine rdy 15 fun K hK => ?_
    first
    |
      refine step_store_row (by rfl) 30 _ _ rfl w5.heap.size (e.cells A5 c5).toArray rfl rfl 30 ⟨#[.string ⟨#[]⟩, .int .i64 0, .int .i64 0, .string ⟨#[]⟩, .string ⟨#[]⟩, .slice none 0 0], rfl, heap_alloc_last _ _⟩ infoE6 (exOne _ _ _) ?_
      refine hK.out _ _ (HSH.out _ (bwRow (by exact bl) hb15.size _)) (fun hHeld => ?_)
      clear hK K
      refine ap ?_
      obtain ⟨w6, hw6⟩ : ∃ x, World.setRow (w5.alloc (.cells #[.string ⟨#[]⟩, .int .i64 0, .int .i64 0, .string ⟨#[]⟩, .string ⟨#[]⟩, .slice none 0 0] 30)) w5.heap.size (e.cells A5 c5).toArray = x := ⟨_, rfl⟩
      have hb6 : Below w.heap.size w w6 := by rw [← hw6]; exact bwRow (by exact bl) hb15.size _
      have k6 : Blk w6 w5.heap.size 30 (e.cells A5 c5).toArray := by rw [← hw6]; exact Blk.row (heap_alloc_last _ _) _
      have hE6 := hE5.keep (Q' := fun x => w.heap.size ≤ x ∧ x < w6.heap.size) (w' := w6) fun x hx => ⟨⟨by first | exact hx.1 | (have := hx.1; simp at this; omega), by rw [← hw6, setRow_size]; have := hx.2; simp; omega⟩, fun o => by rw [← hw6]; exact cell_of_block ((setRow_block _ _ _ _ (by have := hx.2; omega)).trans (Below.heap_alloc _ _ _ hx.2)) o⟩
      have hkw : w.heap.size ≤ w5.heap.size := hb15.size
      have hkl : w5.heap.size < w6.heap.size := k6.lt
      rw [hw6] at hHeld ⊢
      obtain ⟨k, hk⟩ : ∃ k, w5.heap.size = k := ⟨_, rfl⟩
      rw [hk] at k6 hkw hkl ⊢
      clear hw6 hk
    |
      refine step_store_row (by rfl) 30 _ _ rfl w.heap.size (e.cells A5 c5).toArray rfl rfl 30 ⟨#[.string ⟨#[]⟩, .int .i64 0, .int .i64 0, .string ⟨#[]⟩, .string ⟨#[]⟩, .slice none 0 0], rfl, HKZ.out⟩ infoE6 (exOne _ _ _) ?_
      refine hK.out _ _ (HSH.out _ (bwRow hb15 (Nat.le_refl _) _)) (fun hHeld => ?_)
      clear hK K
      refine ap ?_
      obtain ⟨w6, hw6⟩ : ∃ x, World.setRow w5 w.heap.size (e.cells A5 c5).toArray = x := ⟨_, rfl⟩
      have hb6 : Below w.heap.size w w6 := by rw [← hw6]; exact bwRow hb15 (Nat.le_refl _) _
      have k6 : Blk w6 w.heap.size 30 (e.cells A5 c5).toArray := by rw [← hw6]; exact Blk.row HKZ.out _
      have hE6 := hE5.keep (Q' := fun x => w.heap.size ≤ x ∧ x < w6.heap.size) (w' := w6) fun x hx => ⟨⟨by have := hx.1; simp at this; omega, by rw [← hw6, setRow_size]; exact hx.2⟩, fun o => by rw [← hw6]; exact cell_of_block (setRow_block _ _ _ _ (by have := hx.1; simp at this; omega)) o⟩
      have hkw : w.heap.size ≤ w.heap.size := Nat.le_refl _
      have hkl : w.heap.size < w6.heap.size := k6.lt
      rw [hw6] at hHeld ⊢
      obtain ⟨k, hk⟩ : ∃ k, w.heap.size = k := ⟨_, rfl⟩
      rw [show Value.pointer (some ⟨w.heap.size, 0, none⟩) = .pointer (some ⟨k, 0, none⟩) by rw [hk]]
      rw [hk] at k6
      have hkw : w.heap.size ≤ k := Nat.le_of_eq hk
      have hkl : k < w6.heap.size := k6.lt
      clear hw6 hk
    refine tS [16, 17] ?_
    iterate 2 (refine tC ?_; refine ap ?_)
    refine tN ?_
    refine wpAnyH_done (by kernel_rfl) ?_ _
    have HRG := Lib.hid (rangeAt_blk k6)
    have HT6 := Lib.hid (HTH.out w6 hb6)
    have x1 : w6.cell? ⟨g, 1, none⟩ = some (.int .i64 (a : Nat)) := (HSH.out w6 hb6).2
    have f1 : w6.frozen? ⟨g, 1, none⟩ = false := by rw [(bcell hb6).2 g 1 lp]; exact HF1.out
    have HE6 := Lib.hid hE6
    have HB6 := Lib.hid hb6
    clear k6 hE5 hE6 hb5 hb15 hz5 hb6
    by_cases he : err = 0
    · have hR : some (e, a + n) = R' := by rw [← HR.out, if_pos he]
      subst hR
      subst he
      obtain ⟨w7, hw7⟩ : ∃ x, w6.setCells b o (e.cells A5 c5) = x := ⟨_, rfl⟩
      have x7 : w7.cell? ⟨g, 1, none⟩ = some (.int .i64 (a : Nat)) := by
        rw [← hw7, World.cell?_setCells_out _ _ _ _ _ (fun h1 _ => by rcases HB.out with h2 | h2; exact absurd h1.symm h2; exact .inl (Nat.lt_of_lt_of_le Nat.one_lt_two h2))]
        exact x1
      have f7 : w7.frozen? ⟨g, 1, none⟩ = false := by rw [← hw7, World.frozen?_setCells]; exact f1
      have HW7 := Lib.hid hw7
      clear hw7 x1 f1
      go_wp2_with (first | refine wpList_load_midG (by rfl) 30 _ rfl k 0 rfl (e.cells A5 c5) _ HRG.out Tryz.underlying30 rfl infoE6 ?_ | (refine wpList_store_mid rfl 30 _ _ rfl b o (e.cells A5 c5).toArray rfl rfl HT6.out infoE6 (exOne _ _ _) ?_; rw [show World.setCells w6 b o _ = w7 from HW7.out]))
      go_ret
      exact ⟨A5, c5, w6, rfl, HB6.out, HE6.out, by rw [show World.setCells w6 b o _ = w7 from HW7.out]; go_num⟩
    · have hR : none = R' := by rw [← HR.out, if_neg he]
      subst hR
      have e1 : (err != 0) = true := by simpa using he
      clear x1 f1
      go_wp2_with fail
      go_ret
      exact ⟨rfl, HB6.out⟩

end Go.Proofs.YtchilcchogcibaaGreatDoor

namespace Go.Proofs.YtchilcchogcibaaGreatDoor
open Go.RowKit

attribute [local go_sem] ByteArray.extract_mk ba_get ba_append
attribute [local go_sem ↓] Go.wp_at_zero Go.wp_at_succ

/-- What the parser needs: few tokens, of texts that are not long, in a slice; strconv's errors. -/
structure PsE (g : Nat) (c : Nat) (l : List Tok) (w : World) : Prop where
  n : l.length ≤ 990
  s : ∀ t ∈ l, t.s.length ≤ 1000
  c : l.length ≤ c
  e : ErG g w
theorem PsE.but {g c : Nat} {l : List Tok} {w w' : World} (h : PsE g c l w) (hb : But g w w') : PsE g c l w' := ⟨h.n, h.s, h.c, h.e.but hb⟩
theorem PsE.below {g c B : Nat} {l : List Tok} {w w' : World} (h : PsE g c l w) (hb : Below B w w') (hB : g ≤ B) : PsE g c l w' := ⟨h.n, h.s, h.c, h.e.below hb hB⟩
/-- What expr leaves, and where. -/
def RetPx (r : Option (Ex × Nat)) (at_ : Nat) (g : Nat) (A : Option Addr) (c : Nat) (l : List Tok) (cs : Array Value) (w : World) (en : Ending) (w' : World) : Prop :=
  match r with
  | none => en = .returned (.bool false) ∧ But g w w'
  | some r => ∃ A' c', en = .returned (.bool true) ∧ PsS g A c l r.2 (goAt (setA cs at_ (r.1.cells A' c')) r.2) w' ∧ ExR (fun k => w.heap.size ≤ k ∧ k < w'.heap.size) r.1 A' c' w' ∧ But g w w'
theorem setCells_size (b : Nat) : ∀ (vs : List Value) (o : Nat) (w : World), (w.setCells b o vs).heap.size = w.heap.size
  | [], _, _ => rfl
  | v :: r, o, w => by rw [World.setCells, setCells_size b r]; simp
theorem setA_size : ∀ (vs : List Value) (o : Nat) (cs : Array Value), (setA cs o vs).size = cs.size
  | [], _, _ => rfl
  | v :: r, o, cs => by rw [setA, setA_size r]; simp
theorem there_blk {w : World} {b : Nat} {t : TypeId} {cs : Array Value} (h : Blk w b t cs) {o n : Nat} (ho : o + n ≤ cs.size) : w.there b o n := fun j hj => ⟨by rw [h.cell, Array.getElem?_eq_getElem (by omega)]; rfl, h.frozen _⟩
theorem pexpr_g (g : Nat) (A : Option Addr) (c : Nat) (l : List Tok) (a : Nat) (cs : Array Value) (o : Nat) (w : World) (hp : PsE g c l w) (ha : a ≤ l.length) (h : PsS g A c l a cs w) (ho : 2 ≤ o) (hsz : o + 6 ≤ cs.size) :
    Calls Tryz.prog 175 #[.pointer (some ⟨g, 0, none⟩), .pointer (some ⟨g, o, none⟩)] w (RetPx (exprAt l a) o g A c l cs w) := by
  refine (pexpr_raw g A c l a cs g o w hp.n hp.s hp.c ha h hp.e (.inr ho) (there_blk h.blk hsz) h.blk.lt).mono fun en w' hr => ?_
  cases hx : exprAt l a with
  | none =>
    rw [hx] at hr
    exact ⟨hr.1, But.of_below hr.2⟩
  | some r =>
    rw [hx] at hr
    obtain ⟨A', c', w1, rfl, hb, hE, rfl⟩ := hr
    have hP := h.below hb
    refine ⟨A', c', rfl, (hP.setL (r.1.cells A' c') o ho).move r.2, hE.keep fun k hk => ⟨⟨hk.1, by simp [setCells_size]; exact hk.2⟩, fun o' => ?_⟩, (But.setL _ _ (But.of_below hb)).set 1 _⟩
    have hg : k ≠ g := by have := h.blk.lt; omega
    rw [World.cell?_setCell_other _ _ _ _ (fun e => hg (congrArg Addr.block e).symm), World.cell?_setCells_out _ _ _ _ _ (fun e _ => absurd e hg)]
/-- The condition at a place, if there is one, and what stands behind it. -/
def whereAt (l : List Tok) (a : Nat) : Option (Ex × Nat) := if hit l a [87, 72, 69, 82, 69] then exprAt l (a + 1) else some (ex0, a)
theorem hitLt {l : List Tok} {a : Nat} {s : List UInt8} (h : hit l a s = true) : a < l.length := by
  unfold hit at h
  cases hv : l[a]? with
  | none => rw [hv] at h; cases h
  | some t => exact (List.getElem?_eq_some_iff.1 hv).1
theorem goAt_size (cs : Array Value) (a : Nat) : (goAt cs a).size = cs.size := by unfold goAt; simp
theorem setA_goAt (a : Nat) : ∀ (vs : List Value) (o : Nat) (cs : Array Value), 2 ≤ o → setA (goAt cs a) o vs = goAt (setA cs o vs) a
  | [], _, _, _ => rfl
  | v :: r, o, cs, ho => by rw [setA, goAt_set _ _ _ _ (by omega), setA_goAt a r (o + 1) _ (by omega)]; rfl
theorem ex0_R (Q : Nat → Prop) (w : World) : ExR Q ex0 none 0 w := ⟨exZero_fit, Nat.le_refl _, Nat.zero_le _, 0, rfl⟩
set_option maxRecDepth 100000 in
set_option maxHeartbeats 4000000 in
theorem pwhere_any (g : Nat) (A : Option Addr) (c : Nat) (l : List Tok) (a : Nat) (cs : Array Value) (w : World) (hp : PsE g c l w) (ha : a ≤ l.length) (h : PsS g A c l a cs w) (hsz : 24 ≤ cs.size) (hz : setA cs 18 (ex0.cells none 0) = cs) :
    Calls Tryz.prog 176 #[.pointer (some ⟨g, 0, none⟩)] w (RetPx (whereAt l a) 18 g A c l cs w) := by
  have hn := hp.n
  have HT := Lib.hid (ptake2_any g A c l a cs [87, 72, 69, 82, 69] w (by omega) h)
  obtain ⟨R, hR⟩ : ∃ R, whereAt l a = R := ⟨_, rfl⟩
  rw [hR]
  unfold whereAt at hR
  have HA : Hid (hit l a [87, 72, 69, 82, 69] = true → a + 1 ≤ l.length) := fun h => hitLt h
  obtain ⟨B, hB⟩ : ∃ B, hit l a [87, 72, 69, 82, 69] = B := ⟨_, rfl⟩
  rw [hB] at HT hR HA
  have HPE := Lib.hid hp
  have HSZ := Lib.hid hsz
  have HZ := Lib.hid hz
  have HR := Lib.hid hR
  clear hR hB h hp hsz hz ha hn
  go_enter Tryz.func176, Tryz.ntmps176
  go_wp2_with fail
  refine HT.out.mono ?_
  rintro en w1 ⟨rfl, hP1, hb1⟩
  have HB1 := Lib.hid hb1
  cases B with
  | false =>
    have hR : R = some (ex0, a) := HR.out.symm
    subst hR
    have HP1 : Hid (PsS g A c l a (goAt cs a) w1) := hP1
    clear hP1 hb1
    go_wp2_with fail
    go_ret
    exact ⟨none, 0, rfl, by rw [HZ.out]; exact HP1.out, ex0_R _ _, HB1.out⟩
  | true =>
    have hR : R = exprAt l (a + 1) := HR.out.symm
    have hP1' : PsS g A c l (a + 1) (goAt cs (a + 1)) w1 := hP1
    have HX := Lib.hid (pexpr_g g A c l (a + 1) (goAt cs (a + 1)) 18 w1 (HPE.out.but hb1) (HA.out rfl) hP1' (by decide) (by rw [goAt_size]; exact HSZ.out))
    rw [← hR] at HX
    clear hP1 hP1' hb1 hR HR
    go_wp2_with fail
    refine HX.out.mono ?_
    intro en w2 hr
    cases R with
    | none =>
      obtain ⟨rfl, hb2⟩ := hr
      have HB2 := Lib.hid (HB1.out.trans hb2)
      clear hb2
      go_wp2_with fail
      go_ret
      exact ⟨rfl, HB2.out⟩
    | some r =>
      obtain ⟨A', c', rfl, hP2, hE2, hb2⟩ := hr
      rw [setA_goAt _ _ _ _ (by decide), goAt_goAt] at hP2
      have HP2 := Lib.hid hP2
      have HE2 := Lib.hid (hE2.keep (Q' := fun k => w.heap.size ≤ k ∧ k < w2.heap.size) (w' := w2) fun k hk => ⟨⟨Nat.le_trans HB1.out.size hk.1, hk.2⟩, fun _ => rfl⟩)
      have HB2 := Lib.hid (HB1.out.trans hb2)
      clear hb2 hE2 hP2
      go_wp2_with fail
      go_ret
      exact ⟨A', c', rfl, HP2.out, HE2.out, HB2.out⟩

end Go.Proofs.YtchilcchogcibaaGreatDoor

namespace Go.Proofs.YtchilcchogcibaaGreatDoor
open Go.RowKit

attribute [local go_sem] ByteArray.extract_mk ba_get ba_append
attribute [local go_sem ↓] Go.wp_at_zero Go.wp_at_succ

/-- The parser's cells. -/
def psC (A : Option Addr) (n c a : Nat) (vs : List Value) : Array Value := (.slice A n c :: .int .i64 (a : Nat) :: vs).toArray
/-- What a statement's parser leaves: the statement, and where it stands. -/
def RetSm (o : Option (St × Nat)) (g : Nat) (A : Option Addr) (c : Nat) (l : List Tok) (w : World) (en : Ending) (w' : World) : Prop :=
  match o with
  | none => en = .returned (.bool false) ∧ But g w w'
  | some r => ∃ p, en = .returned (.bool true) ∧ PsS g A c l r.2 (psC A l.length c r.2 (r.1.cells p)) w' ∧ StQ 1000 r.1 p (fun b => w.heap.size ≤ b ∧ b < w'.heap.size) w' ∧ r.1.Ok ∧ But g w w'
theorem fitE_Q {Q : Nat → Prop} {w : World} : ∀ (m n : Nat) (A : Option Addr) (l : List Ex), ExQ 1000 n w Q A l → ∀ x ∈ l, fitE m x
  | m, 0, A, l, h => fun x hx => by rw [show l = [] from h] at hx; cases hx
  | m, n + 1, A, l, h => fun x hx => by
    obtain ⟨i, hi, rfl⟩ := List.getElem_of_mem hx
    obtain ⟨b, off, rfl, -, hr⟩ := h (by omega)
    obtain ⟨A', c', hf, -, -, -, hq⟩ := hr i _ (List.getElem?_eq_getElem hi)
    cases m with
    | zero => exact hf.1
    | succ m => exact ⟨hf.1, fitE_Q m n A' _ hq⟩
theorem fitE_R {Q : Nat → Prop} {e : Ex} {A : Option Addr} {c : Nat} {w : World} (h : ExR Q e A c w) : ∀ m, fitE m e
  | 0 => h.1.1
  | m + 1 => by
    obtain ⟨n, hn⟩ := h.2.2.2
    exact ⟨h.1.1, fitE_Q m n A _ hn⟩
theorem fitE_0 : ∀ m, fitE m ex0
  | 0 => ⟨by decide, by decide⟩
  | m + 1 => ⟨⟨by decide, by decide⟩, fun x hx => by cases hx⟩
/-- A statement with a condition. -/
def stW (op tb : List UInt8) (e : Ex) : St := ⟨op, tb, [], [], [], [], [], [], ex0, [], [], e, []⟩
def pW (A : Option Addr) (c : Nat) : StP := ⟨slZ, slZ, slZ, slZ, slZ, slZ, slZ, ⟨A, c⟩⟩
theorem stW_mem {op tb : List UInt8} {e : Ex} {A : Option Addr} {c : Nat} {Q : Nat → Prop} {w : World} (h : ExR Q e A c w) : StQ 1000 (stW op tb e) (pW A c) Q w :=
  ⟨SQ.nil, fun h => absurd h (by simp [stW]), SQ.nil, XQ.nil, ⟨0, rfl⟩, fun h => absurd h (by simp [stW]), ⟨0, ZQ.nil⟩, h.2.2.2⟩
theorem stW_ok {op tb : List UInt8} {e : Ex} {A : Option Addr} {c : Nat} {Q : Nat → Prop} {w : World} (h : ExR Q e A c w) (h1 : op.length ≤ 1000) (h2 : tb.length ≤ 1000) : (stW op tb e).Ok where
  op := h1
  tb := h2
  ot := Nat.zero_le _
  key := Nat.zero_le _
  role := Nat.zero_le _
  nN := Nat.zero_le _
  nC := Nat.zero_le _
  nU := Nat.zero_le _
  nR := Nat.zero_le _
  nW := Nat.zero_le _
  nS := Nat.zero_le _
  names := fun x hx => by cases hx
  cols := fun x hx => by cases hx
  uniq := fun x hx => by cases hx
  refs := fun x hx => by cases hx
  chk := exZero_fit
  whr := h.1
  row := fun x hx => by cases hx
  sets := fun x hx => by cases hx
  num := ⟨fitE_0 _, fitE_R h _, (fun x hx => by cases hx), (fun x hx => by cases hx)⟩
theorem psC_go (A : Option Addr) (n c a b : Nat) (vs : List Value) : goAt (psC A n c a vs) b = psC A n c b vs := by
  simp only [goAt, psC, List.setIfInBounds_toArray]
  rfl
theorem psC_op (A : Option Addr) (n c a : Nat) (op : List UInt8) : (psC A n c a ((stZ [] []).cells stPZ)).setIfInBounds 2 (.string ⟨op.toArray⟩) = psC A n c a ((stW op [] ex0).cells (pW none 0)) := by
  simp only [psC, List.setIfInBounds_toArray]
  rfl
theorem psC_tb (A : Option Addr) (n c a : Nat) (op t u : List UInt8) (e : Ex) (A' : Option Addr) (c' : Nat) : (psC A n c a ((stW op u e).cells (pW A' c'))).setIfInBounds 3 (.string ⟨t.toArray⟩) = psC A n c a ((stW op t e).cells (pW A' c')) := by
  simp only [psC, List.setIfInBounds_toArray]
  rfl
theorem psC_wh (A : Option Addr) (n c a : Nat) (op t : List UInt8) (e e' : Ex) (A' A'' : Option Addr) (c' c'' : Nat) : setA (psC A n c a ((stW op t e).cells (pW A' c'))) 18 (e'.cells A'' c'') = psC A n c a ((stW op t e').cells (pW A'' c'')) := by
  simp only [psC, Ex.cells, setA, List.setIfInBounds_toArray]
  rfl
theorem nameAt_lt {l : List Tok} {a : Nat} {s : List UInt8} (h : nameAt l a = some s) : a < l.length := by
  unfold nameAt at h
  cases hv : l[a]? with
  | none => rw [hv] at h; cases h
  | some t => exact (List.getElem?_eq_some_iff.1 hv).1
def strP (s : List UInt8) : Value := .string ⟨s.toArray⟩
theorem sq_blk {w : World} {b : Nat} {t : TypeId} {ws : List (List UInt8)} {Q : Nat → Prop} (h : Blk w b t (ws.map strP).toArray) (hQ : Q b) : SQ ws (some ⟨b, 0, none⟩) Q w := fun _ =>
  ⟨b, 0, rfl, hQ, fun i x hx => by rw [Nat.zero_add, h.cell]; simp [hx, strP]⟩
/-- What stands behind some words: a table, perhaps a condition. -/
def fromP (l : List Tok) (op : List UInt8) (ws : List (List UInt8)) : Option (St × Nat) :=
  if wordsN l 1 ws = ws.length then (nameAt l (1 + ws.length)).bind fun t => (whereAt l (2 + ws.length)).map fun r => (stW op t r.1, r.2) else none
set_option maxRecDepth 100000 in
set_option maxHeartbeats 4000000 in
theorem choose_any (g : Nat) (A : Option Addr) (c : Nat) (l : List Tok) (w : World) (hp : PsE g c l w) (h : PsS g A c l 1 (psC A l.length c 1 ((stZ [] []).cells stPZ)) w) :
    Calls Tryz.prog 102 #[.pointer (some ⟨g, 0, none⟩)] w (RetSm (fromP l [115, 101, 108, 101, 99, 116] [[42], [70, 82, 79, 77]]) g A c l w) := by
  have hn := hp.n
  have HS := Lib.hid hp.s
  obtain ⟨R, hR⟩ : ∃ R, fromP l [115, 101, 108, 101, 99, 116] [[42], [70, 82, 79, 77]] = R := ⟨_, rfl⟩
  have hR1 : (if wordsN l 1 [[42], [70, 82, 79, 77]] = 2 then (nameAt l (1 + 2)).bind fun t => (whereAt l (2 + 2)).map fun r => (stW [115, 101, 108, 101, 99, 116] t r.1, r.2) else none) = R := hR
  rw [hR]
  have x2 : w.cell? ⟨g, 2, none⟩ = some (.string ⟨#[]⟩) := h.blk.cell 2
  have f2 := h.blk.frozen 2
  obtain ⟨w2, hw2⟩ : ∃ w2, w.setCell ⟨g, 2, none⟩ (.string ⟨([115, 101, 108, 101, 99, 116] : List UInt8).toArray⟩) = w2 := ⟨_, rfl⟩
  have hP2 := h.set 2 (Nat.le_refl _) (.string ⟨([115, 101, 108, 101, 99, 116] : List UInt8).toArray⟩)
  rw [hw2] at hP2
  have hb2 : But g w w2 := by rw [← hw2]; exact (But.refl _ _).set 2 _
  rw [psC_op] at hP2
  obtain ⟨cs2, hcs⟩ : ∃ x, psC A l.length c 1 ((stW [115, 101, 108, 101, 99, 116] [] ex0).cells (pW none 0)) = x := ⟨_, rfl⟩
  rw [hcs] at hP2
  have H3 : Hid (∀ b, (goAt cs2 b)[3]? = some (.string ⟨#[]⟩)) := fun b => by rw [← hcs, psC_go]; rfl
  have HZ : Hid (∀ (t : List UInt8) b, setA (goAt (cs2.setIfInBounds 3 (.string ⟨t.toArray⟩)) b) 18 (ex0.cells none 0) = goAt (cs2.setIfInBounds 3 (.string ⟨t.toArray⟩)) b) := fun t b => by rw [← hcs, psC_tb, psC_go, psC_wh]
  have HF : Hid (∀ (t : List UInt8) (e : Ex) A' c' b, goAt (setA (cs2.setIfInBounds 3 (.string ⟨t.toArray⟩)) 18 (e.cells A' c')) b = psC A l.length c b ((stW [115, 101, 108, 101, 99, 116] t e).cells (pW A' c'))) := fun t e A' c' b => by rw [← hcs, psC_tb, psC_wh, psC_go]
  have HZS : Hid (∀ (t : List UInt8) b, 24 ≤ (goAt (cs2.setIfInBounds 3 (.string ⟨t.toArray⟩)) b).size) := fun t b => by rw [← hcs, psC_tb, psC_go]; exact (by decide : 24 ≤ 25)
  obtain ⟨w3, hw3⟩ : ∃ w3, w2.alloc (.cells #[.string ⟨([42] : List UInt8).toArray⟩, .string ⟨([70, 82, 79, 77] : List UInt8).toArray⟩] 9) = w3 := ⟨_, rfl⟩
  have k3 : Blk w3 w2.heap.size 9 #[.string ⟨([42] : List UInt8).toArray⟩, .string ⟨([70, 82, 79, 77] : List UInt8).toArray⟩] := by rw [← hw3]; exact Blk.new _ _ _
  have hb23 : Below w2.heap.size w2 w3 := by rw [← hw3]; exact bl
  have hP3 := hP2.below hb23
  have hg2 : g < w2.heap.size := hP2.blk.lt
  have hwd := pwords_any g A c l 1 cs2 [[42], [70, 82, 79, 77]] (some ⟨w2.heap.size, 0, none⟩) 2 w3 (by decide) hP3 (sq_blk k3 ⟨k3.lt, by omega⟩)
  have HB3 := Lib.hid (hb2.trans (But.of_below (p := g) hb23))
  have HPE := Lib.hid hp
  have HW2 := Lib.hid hw2
  have HW3 := Lib.hid hw3
  obtain ⟨K, hK⟩ : ∃ K, wordsN l 1 [[42], [70, 82, 79, 77]] = K := ⟨_, rfl⟩
  rw [hK] at hwd hR1
  obtain ⟨B, hB⟩ : ∃ B, decide (K = 2) = B := ⟨_, rfl⟩
  have HWD : Hid (Calls Tryz.prog 160 #[.pointer (some ⟨g, 0, none⟩), .slice (some ⟨w2.heap.size, 0, none⟩) 2 2] w3 (RetPs1 B g A c l (1 + K) (goAt cs2 (1 + K)) w3)) := by
    rw [← hB]
    exact hwd
  have HR := Lib.hid hR1
  have HBK := Lib.hid hB
  clear hR hR1 hw2 hP2 hw3 k3 hP3 hK hB hb23 hb2 hwd hcs h hp
  go_enter Tryz.func102, Tryz.ntmps102
  go_upto_region 2 with fail
  rw [show World.setCell w _ _ = w2 from HW2.out]
  clear x2 f2
  go_wp2_with fail
  rw [show World.alloc w2 _ = w3 from HW3.out]
  refine HWD.out.mono ?_
  rintro en w4 ⟨rfl, hP4, hb4⟩
  have HB4 := Lib.hid (HB3.out.trans hb4)
  cases B with
  | false =>
    have hR : R = none := by rw [← HR.out, if_neg (of_decide_eq_false HBK.out)]
    subst hR
    clear hP4 hb4 HWD
    go_wp2_with fail
    go_ret
    exact ⟨rfl, HB4.out⟩
  | true =>
    have hk : K = 2 := of_decide_eq_true HBK.out
    have hR : ((nameAt l (1 + 2)).bind fun t => (whereAt l (2 + 2)).map fun r => (stW [115, 101, 108, 101, 99, 116] t r.1, r.2)) = R := by rw [← HR.out, if_pos hk]
    rw [hk] at hP4
    have HNM := Lib.hid (pname_any g A c l (1 + 2) (goAt cs2 (1 + 2)) 3 [] w4 (by decide) hP4 (by decide) (H3.out _) HS.out)
    have HNL : Hid (∀ s, nameAt l (1 + 2) = some s → s.length ≤ 1000 ∧ 2 + 2 ≤ l.length) := fun s h => by
      obtain ⟨t, ht, rfl⟩ := nameAt_mem h
      exact ⟨HS.out t ht, by have := nameAt_lt h; omega⟩
    obtain ⟨ON, hON⟩ : ∃ x, nameAt l (1 + 2) = x := ⟨_, rfl⟩
    rw [hON] at HNM hR HNL
    clear hP4 hb4 hON HR HWD HBK hk
    go_wp2_with fail
    refine HNM.out.mono ?_
    cases ON with
    | none =>
      have hR : R = none := hR.symm
      subst hR
      rintro en w5 ⟨rfl, hP5, hb5⟩
      have HB5 := Lib.hid (HB4.out.trans hb5)
      clear hP5 hb5
      go_wp2_with fail
      go_ret
      exact ⟨rfl, HB5.out⟩
    | some s =>
      have hR : ((whereAt l (2 + 2)).map fun r => (stW [115, 101, 108, 101, 99, 116] s r.1, r.2)) = R := hR
      rintro en w5 ⟨rfl, hP5, hb5⟩
      have HB5 := Lib.hid (HB4.out.trans hb5)
      rw [goAt_set _ _ _ _ (by decide), goAt_goAt] at hP5
      have hP5' : PsS g A c l (2 + 2) (goAt (cs2.setIfInBounds 3 (.string ⟨s.toArray⟩)) (2 + 2)) w5 := hP5
      have HWH := Lib.hid (pwhere_any g A c l (2 + 2) _ w5 (HPE.out.but HB5.out) (HNL.out s rfl).2 hP5' (HZS.out _ _) (HZ.out _ _))
      obtain ⟨OW, hOW⟩ : ∃ x, whereAt l (2 + 2) = x := ⟨_, rfl⟩
      rw [hOW] at HWH hR
      have HR := Lib.hid hR
      clear hP5 hP5' hb5 hOW hR HNM
      go_wp2_with fail
      refine HWH.out.mono ?_
      cases OW with
      | none =>
        have hR : R = none := HR.out.symm
        subst hR
        rintro en w6 ⟨rfl, hb6⟩
        have HB6 := Lib.hid (HB5.out.trans hb6)
        clear hb6
        go_wp2_with fail
        go_ret
        exact ⟨rfl, HB6.out⟩
      | some r =>
        have hR : R = some _ := HR.out.symm
        subst hR
        rintro en w6 ⟨A', c', rfl, hP6, hE6, hb6⟩
        rw [setA_goAt _ _ _ _ (by decide), goAt_goAt, HF.out] at hP6
        have HP6 := Lib.hid hP6
        have HE6 := Lib.hid (hE6.keep (Q' := fun k => w.heap.size ≤ k ∧ k < w6.heap.size) (w' := w6) fun k hk => ⟨⟨Nat.le_trans HB5.out.size hk.1, hk.2⟩, fun _ => rfl⟩)
        have HB6 := Lib.hid (HB5.out.trans hb6)
        clear hP6 hE6 hb6 HR
        go_wp2_with fail
        go_ret
        exact ⟨pW A' c', rfl, HP6.out, stW_mem HE6.out, stW_ok HE6.out (by decide) (HNL.out s rfl).1, HB6.out⟩
set_option maxRecDepth 100000 in
set_option maxHeartbeats 4000000 in
theorem delete_any (g : Nat) (A : Option Addr) (c : Nat) (l : List Tok) (w : World) (hp : PsE g c l w) (h : PsS g A c l 1 (psC A l.length c 1 ((stZ [] []).cells stPZ)) w) :
    Calls Tryz.prog 101 #[.pointer (some ⟨g, 0, none⟩)] w (RetSm (fromP l [100, 101, 108, 101, 116, 101] [[70, 82, 79, 77]]) g A c l w) := by
  have hn := hp.n
  have HS := Lib.hid hp.s
  obtain ⟨R, hR⟩ : ∃ R, fromP l [100, 101, 108, 101, 116, 101] [[70, 82, 79, 77]] = R := ⟨_, rfl⟩
  have hR1 : (if wordsN l 1 [[70, 82, 79, 77]] = 1 then (nameAt l (1 + 1)).bind fun t => (whereAt l (2 + 1)).map fun r => (stW [100, 101, 108, 101, 116, 101] t r.1, r.2) else none) = R := hR
  rw [hR]
  have x2 : w.cell? ⟨g, 2, none⟩ = some (.string ⟨#[]⟩) := h.blk.cell 2
  have f2 := h.blk.frozen 2
  obtain ⟨w2, hw2⟩ : ∃ w2, w.setCell ⟨g, 2, none⟩ (.string ⟨([100, 101, 108, 101, 116, 101] : List UInt8).toArray⟩) = w2 := ⟨_, rfl⟩
  have hP2 := h.set 2 (Nat.le_refl _) (.string ⟨([100, 101, 108, 101, 116, 101] : List UInt8).toArray⟩)
  rw [hw2] at hP2
  have hb2 : But g w w2 := by rw [← hw2]; exact (But.refl _ _).set 2 _
  rw [psC_op] at hP2
  obtain ⟨cs2, hcs⟩ : ∃ x, psC A l.length c 1 ((stW [100, 101, 108, 101, 116, 101] [] ex0).cells (pW none 0)) = x := ⟨_, rfl⟩
  rw [hcs] at hP2
  have H3 : Hid (∀ b, (goAt cs2 b)[3]? = some (.string ⟨#[]⟩)) := fun b => by rw [← hcs, psC_go]; rfl
  have HZ : Hid (∀ (t : List UInt8) b, setA (goAt (cs2.setIfInBounds 3 (.string ⟨t.toArray⟩)) b) 18 (ex0.cells none 0) = goAt (cs2.setIfInBounds 3 (.string ⟨t.toArray⟩)) b) := fun t b => by rw [← hcs, psC_tb, psC_go, psC_wh]
  have HF : Hid (∀ (t : List UInt8) (e : Ex) A' c' b, goAt (setA (cs2.setIfInBounds 3 (.string ⟨t.toArray⟩)) 18 (e.cells A' c')) b = psC A l.length c b ((stW [100, 101, 108, 101, 116, 101] t e).cells (pW A' c'))) := fun t e A' c' b => by rw [← hcs, psC_tb, psC_wh, psC_go]
  have HZS : Hid (∀ (t : List UInt8) b, 24 ≤ (goAt (cs2.setIfInBounds 3 (.string ⟨t.toArray⟩)) b).size) := fun t b => by rw [← hcs, psC_tb, psC_go]; exact (by decide : 24 ≤ 25)
  obtain ⟨w3, hw3⟩ : ∃ w3, w2.alloc (.cells #[.string ⟨([70, 82, 79, 77] : List UInt8).toArray⟩] 9) = w3 := ⟨_, rfl⟩
  have k3 : Blk w3 w2.heap.size 9 #[.string ⟨([70, 82, 79, 77] : List UInt8).toArray⟩] := by rw [← hw3]; exact Blk.new _ _ _
  have hb23 : Below w2.heap.size w2 w3 := by rw [← hw3]; exact bl
  have hP3 := hP2.below hb23
  have hg2 : g < w2.heap.size := hP2.blk.lt
  have hwd := pwords_any g A c l 1 cs2 [[70, 82, 79, 77]] (some ⟨w2.heap.size, 0, none⟩) 1 w3 (by decide) hP3 (sq_blk k3 ⟨k3.lt, by omega⟩)
  have HB3 := Lib.hid (hb2.trans (But.of_below (p := g) hb23))
  have HPE := Lib.hid hp
  have HW2 := Lib.hid hw2
  have HW3 := Lib.hid hw3
  obtain ⟨K, hK⟩ : ∃ K, wordsN l 1 [[70, 82, 79, 77]] = K := ⟨_, rfl⟩
  rw [hK] at hwd hR1
  obtain ⟨B, hB⟩ : ∃ B, decide (K = 1) = B := ⟨_, rfl⟩
  have HWD : Hid (Calls Tryz.prog 160 #[.pointer (some ⟨g, 0, none⟩), .slice (some ⟨w2.heap.size, 0, none⟩) 1 1] w3 (RetPs1 B g A c l (1 + K) (goAt cs2 (1 + K)) w3)) := by
    rw [← hB]
    exact hwd
  have HR := Lib.hid hR1
  have HBK := Lib.hid hB
  clear hR hR1 hw2 hP2 hw3 k3 hP3 hK hB hb23 hb2 hwd hcs h hp
  go_enter Tryz.func101, Tryz.ntmps101
  go_upto_region 2 with fail
  rw [show World.setCell w _ _ = w2 from HW2.out]
  clear x2 f2
  go_wp2_with fail
  rw [show World.alloc w2 _ = w3 from HW3.out]
  refine HWD.out.mono ?_
  rintro en w4 ⟨rfl, hP4, hb4⟩
  have HB4 := Lib.hid (HB3.out.trans hb4)
  cases B with
  | false =>
    have hR : R = none := by rw [← HR.out, if_neg (of_decide_eq_false HBK.out)]
    subst hR
    clear hP4 hb4 HWD
    go_wp2_with fail
    go_ret
    exact ⟨rfl, HB4.out⟩
  | true =>
    have hk : K = 1 := of_decide_eq_true HBK.out
    have hR : ((nameAt l (1 + 1)).bind fun t => (whereAt l (2 + 1)).map fun r => (stW [100, 101, 108, 101, 116, 101] t r.1, r.2)) = R := by rw [← HR.out, if_pos hk]
    rw [hk] at hP4
    have HNM := Lib.hid (pname_any g A c l (1 + 1) (goAt cs2 (1 + 1)) 3 [] w4 (by decide) hP4 (by decide) (H3.out _) HS.out)
    have HNL : Hid (∀ s, nameAt l (1 + 1) = some s → s.length ≤ 1000 ∧ 2 + 1 ≤ l.length) := fun s h => by
      obtain ⟨t, ht, rfl⟩ := nameAt_mem h
      exact ⟨HS.out t ht, by have := nameAt_lt h; omega⟩
    obtain ⟨ON, hON⟩ : ∃ x, nameAt l (1 + 1) = x := ⟨_, rfl⟩
    rw [hON] at HNM hR HNL
    clear hP4 hb4 hON HR HWD HBK hk
    go_wp2_with fail
    refine HNM.out.mono ?_
    cases ON with
    | none =>
      have hR : R = none := hR.symm
      subst hR
      rintro en w5 ⟨rfl, hP5, hb5⟩
      have HB5 := Lib.hid (HB4.out.trans hb5)
      clear hP5 hb5
      go_wp2_with fail
      go_ret
      exact ⟨rfl, HB5.out⟩
    | some s =>
      have hR : ((whereAt l (2 + 1)).map fun r => (stW [100, 101, 108, 101, 116, 101] s r.1, r.2)) = R := hR
      rintro en w5 ⟨rfl, hP5, hb5⟩
      have HB5 := Lib.hid (HB4.out.trans hb5)
      rw [goAt_set _ _ _ _ (by decide), goAt_goAt] at hP5
      have hP5' : PsS g A c l (2 + 1) (goAt (cs2.setIfInBounds 3 (.string ⟨s.toArray⟩)) (2 + 1)) w5 := hP5
      have HWH := Lib.hid (pwhere_any g A c l (2 + 1) _ w5 (HPE.out.but HB5.out) (HNL.out s rfl).2 hP5' (HZS.out _ _) (HZ.out _ _))
      obtain ⟨OW, hOW⟩ : ∃ x, whereAt l (2 + 1) = x := ⟨_, rfl⟩
      rw [hOW] at HWH hR
      have HR := Lib.hid hR
      clear hP5 hP5' hb5 hOW hR HNM
      go_wp2_with fail
      refine HWH.out.mono ?_
      cases OW with
      | none =>
        have hR : R = none := HR.out.symm
        subst hR
        rintro en w6 ⟨rfl, hb6⟩
        have HB6 := Lib.hid (HB5.out.trans hb6)
        clear hb6
        go_wp2_with fail
        go_ret
        exact ⟨rfl, HB6.out⟩
      | some r =>
        have hR : R = some _ := HR.out.symm
        subst hR
        rintro en w6 ⟨A', c', rfl, hP6, hE6, hb6⟩
        rw [setA_goAt _ _ _ _ (by decide), goAt_goAt, HF.out] at hP6
        have HP6 := Lib.hid hP6
        have HE6 := Lib.hid (hE6.keep (Q' := fun k => w.heap.size ≤ k ∧ k < w6.heap.size) (w' := w6) fun k hk => ⟨⟨Nat.le_trans HB5.out.size hk.1, hk.2⟩, fun _ => rfl⟩)
        have HB6 := Lib.hid (HB5.out.trans hb6)
        clear hP6 hE6 hb6 HR
        go_wp2_with fail
        go_ret
        exact ⟨pW A' c', rfl, HP6.out, stW_mem HE6.out, stW_ok HE6.out (by decide) (HNL.out s rfl).1, HB6.out⟩

/-- What stands behind DROP. -/
def dropP (l : List Tok) : Option (St × Nat) := if hit l 1 [84, 65, 66, 76, 69] then (nameAt l 2).map fun t => (stW [100, 114, 111, 112] t ex0, 3) else none
set_option maxRecDepth 100000 in
set_option maxHeartbeats 4000000 in
theorem drop_any (g : Nat) (A : Option Addr) (c : Nat) (l : List Tok) (w : World) (hp : PsE g c l w) (h : PsS g A c l 1 (psC A l.length c 1 ((stZ [] []).cells stPZ)) w) :
    Calls Tryz.prog 98 #[.pointer (some ⟨g, 0, none⟩)] w (RetSm (dropP l) g A c l w) := by
  have hn := hp.n
  have HS := Lib.hid hp.s
  obtain ⟨R, hR⟩ : ∃ R, dropP l = R := ⟨_, rfl⟩
  have hR1 : (if hit l 1 [84, 65, 66, 76, 69] then (nameAt l 2).map fun t => (stW [100, 114, 111, 112] t ex0, 3) else none) = R := hR
  rw [hR]
  have x2 : w.cell? ⟨g, 2, none⟩ = some (.string ⟨#[]⟩) := h.blk.cell 2
  have f2 := h.blk.frozen 2
  obtain ⟨w2, hw2⟩ : ∃ w2, w.setCell ⟨g, 2, none⟩ (.string ⟨([100, 114, 111, 112] : List UInt8).toArray⟩) = w2 := ⟨_, rfl⟩
  have hP2 := h.set 2 (Nat.le_refl _) (.string ⟨([100, 114, 111, 112] : List UInt8).toArray⟩)
  rw [hw2] at hP2
  have hb2 : But g w w2 := by rw [← hw2]; exact (But.refl _ _).set 2 _
  rw [psC_op] at hP2
  obtain ⟨cs2, hcs⟩ : ∃ x, psC A l.length c 1 ((stW [100, 114, 111, 112] [] ex0).cells (pW none 0)) = x := ⟨_, rfl⟩
  rw [hcs] at hP2
  have H3 : Hid (∀ b, (goAt cs2 b)[3]? = some (.string ⟨#[]⟩)) := fun b => by rw [← hcs, psC_go]; rfl
  have HF : Hid (∀ (t : List UInt8) b, goAt (cs2.setIfInBounds 3 (.string ⟨t.toArray⟩)) b = psC A l.length c b ((stW [100, 114, 111, 112] t ex0).cells (pW none 0))) := fun t b => by rw [← hcs, psC_tb, psC_go]
  obtain ⟨w3, hw3⟩ : ∃ w3, w2.alloc (.cells #[.string ⟨([84, 65, 66, 76, 69] : List UInt8).toArray⟩] 9) = w3 := ⟨_, rfl⟩
  have k3 : Blk w3 w2.heap.size 9 #[.string ⟨([84, 65, 66, 76, 69] : List UInt8).toArray⟩] := by rw [← hw3]; exact Blk.new _ _ _
  have hb23 : Below w2.heap.size w2 w3 := by rw [← hw3]; exact bl
  have hP3 := hP2.below hb23
  have hg2 : g < w2.heap.size := hP2.blk.lt
  have HWD := Lib.hid (pword_any g A c l 1 cs2 [84, 65, 66, 76, 69] w2.heap.size 1 w3 (by decide) hP3 (k3.cell 0) (by omega))
  have HB3 := Lib.hid (hb2.trans (But.of_below (p := g) hb23))
  have HW2 := Lib.hid hw2
  have HW3 := Lib.hid hw3
  obtain ⟨B, hB⟩ : ∃ B, hit l 1 [84, 65, 66, 76, 69] = B := ⟨_, rfl⟩
  rw [hB] at HWD hR1
  have HR := Lib.hid hR1
  clear hR hR1 hw2 hP2 hw3 k3 hP3 hB hb23 hb2 hcs h hp
  go_enter Tryz.func98, Tryz.ntmps98
  go_upto_region 2 with fail
  rw [show World.setCell w _ _ = w2 from HW2.out]
  clear x2 f2
  go_wp2_with fail
  rw [show World.alloc w2 _ = w3 from HW3.out]
  refine HWD.out.mono ?_
  rintro en w4 ⟨rfl, hP4, hb4⟩
  have HB4 := Lib.hid (HB3.out.trans hb4)
  cases B with
  | false =>
    have hR : R = none := HR.out.symm
    subst hR
    clear hP4 hb4 HWD
    go_wp2_with fail
    go_ret
    exact ⟨rfl, HB4.out⟩
  | true =>
    have hR : ((nameAt l 2).map fun t => (stW [100, 114, 111, 112] t ex0, 3)) = R := HR.out
    have hP4' : PsS g A c l 2 (goAt cs2 2) w4 := hP4
    have HNM := Lib.hid (pname_any g A c l 2 (goAt cs2 2) 3 [] w4 (by decide) hP4' (by decide) (H3.out _) HS.out)
    have HNL : Hid (∀ s, nameAt l 2 = some s → s.length ≤ 1000) := fun s h => by
      obtain ⟨t, ht, rfl⟩ := nameAt_mem h
      exact HS.out t ht
    obtain ⟨ON, hON⟩ : ∃ x, nameAt l 2 = x := ⟨_, rfl⟩
    rw [hON] at HNM hR HNL
    clear hP4 hP4' hb4 hON HR HWD
    go_wp2_with fail
    refine HNM.out.mono ?_
    cases ON with
    | none =>
      have hR : R = none := hR.symm
      subst hR
      rintro en w5 ⟨rfl, hP5, hb5⟩
      have HB5 := Lib.hid (HB4.out.trans hb5)
      clear hP5 hb5
      go_wp2_with fail
      go_ret
      exact ⟨rfl, HB5.out⟩
    | some s =>
      have hR : R = some _ := hR.symm
      subst hR
      rintro en w5 ⟨rfl, hP5, hb5⟩
      have HB5 := Lib.hid (HB4.out.trans hb5)
      rw [goAt_set _ _ _ _ (by decide), goAt_goAt, HF.out] at hP5
      have HP5 := Lib.hid hP5
      clear hP5 hb5
      go_wp2_with fail
      go_ret
      exact ⟨pW none 0, rfl, HP5.out, stW_mem (ex0_R _ _), stW_ok (ex0_R (fun _ => True) w) (by decide) (HNL.out s rfl), HB5.out⟩

end Go.Proofs.YtchilcchogcibaaGreatDoor

namespace Go.Proofs.YtchilcchogcibaaGreatDoor
open Go.RowKit

attribute [local go_sem] ByteArray.extract_mk ba_get ba_append
attribute [local go_sem ↓] Go.wp_at_zero Go.wp_at_succ

/-- Things with , between. -/
def listP {α : Type} (l : List Tok) (step : Nat → Option (α × Nat)) : Nat → Nat → Option (List α × Nat)
  | 0, _ => none
  | f + 1, a => (step a).bind fun r => if hit l r.2 [44] then (listP l step f (r.2 + 1)).map fun q => (r.1 :: q.1, q.2) else some ([r.1], r.2)
/-- What stands in ( and ). -/
def insideP {α : Type} (l : List Tok) (a : Nat) (o : Option (α × Nat)) : Option (α × Nat) := if hit l a [40] then o.bind fun r => if hit l r.2 [41] then some (r.1, r.2 + 1) else none else none
/-- What an item leaves: something, kept in the parser's cells and in memory. -/
def RetK {α : Type} (o : Option (α × Nat)) (g : Nat) (A : Option Addr) (c : Nat) (l : List Tok) (K : α → Array Value → World → Prop) (w : World) (en : Ending) (w' : World) : Prop :=
  match o with
  | none => en = .returned (.bool false) ∧ But g w w'
  | some r => en = .returned (.bool true) ∧ ∃ cs, PsS g A c l r.2 cs w' ∧ K r.1 cs w' ∧ But g w w'
/-- What is kept stays, whatever else of the parser's block, but for the cells that it names, is changed. -/
def StayK {α : Type} (g : Nat) (K : α → Array Value → World → Prop) : Prop := ∀ x cs W W' b, K x cs W → But g W W' → K x (goAt cs b) W'
/-- Where the parser stands. -/
def atOf (g : Nat) (w : World) : Nat := match w.cell? ⟨g, 1, none⟩ with | some (.int _ i) => i.toNat | _ => 0
theorem PsS.at_ {g : Nat} {A : Option Addr} {c : Nat} {l : List Tok} {a : Nat} {cs : Array Value} {w : World} (h : PsS g A c l a cs w) : atOf g w = a := by
  unfold atOf
  rw [(h.blk.cell 1).trans h.c1]
  simp
theorem RetK.imp {α : Type} {o : Option (α × Nat)} {g : Nat} {A : Option Addr} {c : Nat} {l : List Tok} {K K' : α → Array Value → World → Prop} {w w0 : World} {en : Ending} {w' : World} (h : RetK o g A c l K w en w') (hb : But g w0 w) (hK : ∀ x cs W, K x cs W → K' x cs W) : RetK o g A c l K' w0 en w' := by
  cases o with
  | none => exact ⟨h.1, hb.trans h.2⟩
  | some r =>
    obtain ⟨h1, cs, h2, h3, h4⟩ := h
    exact ⟨h1, cs, h2, hK _ _ _ h3, hb.trans h4⟩
set_option maxRecDepth 100000 in
set_option maxHeartbeats 4000000 in
theorem plist_ins {α : Type} (pv : Nat) (step : Nat → Option (α × Nat)) (K : List α → Array Value → World → Prop) (g : Nat) (A : Option Addr) (c : Nat) (l : List Tok) (a : Nat) (cs : Array Value) (w : World) (hl : l.length ≤ 990) (ha : a ≤ l.length) (h : PsS g A c l a cs w) (hK : StayK g K) (hK0 : K [] cs w) (hs : ∀ b r, step b = some r → b < r.2 ∧ r.2 ≤ l.length)
    (hI : ∀ xs b cs' W, But g w W → xs.length ≤ b → b ≤ l.length → PsS g A c l b cs' W → K xs cs' W → Calls Tryz.prog 170 #[.pointer (some ⟨pv, 0, none⟩)] W (RetK ((step b).map fun r => (xs ++ [r.1], r.2)) g A c l K w)) :
    Calls Tryz.prog 173 #[.pointer (some ⟨g, 0, none⟩), .func (.func 170) #[] #[.pointer (some ⟨pv, 0, none⟩)]] w (RetK (listP l step (l.length + 1) a) g A c l K w) := by
  obtain ⟨R, hR⟩ : ∃ R, listP l step (l.length + 1) a = R := ⟨_, rfl⟩
  rw [hR]
  have HR0 : Hid ((listP l step (l.length + 1) a).map (fun q => ([] ++ q.1, q.2)) = R) := by
    show _ = _
    rw [hR]
    cases R <;> simp
  obtain ⟨N, hN⟩ : ∃ N, l.length = N := ⟨_, rfl⟩
  rw [hN] at HR0 ha hs hI hl
  have HI := Lib.hid hI
  have HK := Lib.hid hK
  have HS := Lib.hid hs
  have HP0 := Lib.hid h
  have HK0 := Lib.hid hK0
  have HN := Lib.hid hN
  clear hR hN h hI hK hs hK0
  go_enter Tryz.func173, Tryz.ntmps173
  go_wp2_with fail
  go_loopw [] (fun wr => ∃ (f : Nat) (xs : List α) (b : Nat) (cs' : Array Value), N + 1 ≤ f + b ∧ xs.length ≤ b ∧ b ≤ N ∧ Hid ((listP l step f b).map (fun q => (xs ++ q.1, q.2)) = R) ∧ Hid (PsS g A c l b cs' wr) ∧ Hid (K xs cs' wr) ∧ But g w wr) (fun wr => N - atOf g wr)
  case atStart => exact ⟨N + 1, [], a, cs, by omega, Nat.zero_le _, ha, HR0, HP0, HK0, But.refl _ _⟩
  case round =>
    obtain ⟨f, xs, b, cs', hf, hxb, hbn, HJ, HP, HKW, hbw⟩ := hrel
    obtain ⟨W, rfl⟩ : ∃ W, W = wr := ⟨_, rfl⟩
    obtain ⟨f, rfl⟩ : ∃ k, f = k + 1 := ⟨f - 1, by omega⟩
    have hJ : ((step b).bind fun r => if hit l r.2 [44] then (listP l step f (r.2 + 1)).map fun q => (r.1 :: q.1, q.2) else some ([r.1], r.2)).map (fun q => (xs ++ q.1, q.2)) = R := HJ.out
    have HC := Lib.hid (HI.out xs b cs' W hbw hxb hbn HP.out HKW.out)
    have HSB := Lib.hid (fun r => HS.out b r)
    obtain ⟨o, ho⟩ : ∃ o, step b = o := ⟨_, rfl⟩
    rw [ho] at HC hJ HSB
    have HJ2 := Lib.hid hJ
    clear ho hJ HJ
    go_wp2_with fail
    refine HC.out.mono ?_
    cases o with
    | none =>
      have hR : R = none := HJ2.out.symm
      subst hR
      rintro en w1 ⟨rfl, hb1⟩
      have HB1 := Lib.hid hb1
      clear hb1
      go_wp2_with fail
      go_ret
      exact ⟨rfl, HB1.out⟩
    | some r =>
      obtain ⟨x, b'⟩ := r
      obtain ⟨hlt, hle⟩ : b < b' ∧ b' ≤ N := HSB.out _ rfl
      have hJ : (if hit l b' [44] then (listP l step f (b' + 1)).map fun q => (x :: q.1, q.2) else some ([x], b')).map (fun q => (xs ++ q.1, q.2)) = R := HJ2.out
      rintro en w1 ⟨rfl, cs1, hP1, hK1, hb1⟩
      have HT := Lib.hid (ptake2_any g A c l b' cs1 [44] w1 (by omega) hP1)
      have HL : Hid (hit l b' [44] = true → b' + 1 ≤ N) := fun h => by have := hitLt h; rw [HN.out] at this; omega
      obtain ⟨D, hD⟩ : ∃ D, hit l b' [44] = D := ⟨_, rfl⟩
      rw [hD] at HT hJ HL
      have HJ := Lib.hid hJ
      have HB1 := Lib.hid hb1
      have HK1 := Lib.hid hK1
      have HPA := Lib.hid (PsS.at_ HP.out)
      clear hD hJ HJ2 HC hP1 hb1 hK1
      go_wp2_with fail
      refine HT.out.mono ?_
      rintro en w2 ⟨rfl, hP2, hb2⟩
      have HB2 := Lib.hid hb2
      have HP2 := Lib.hid hP2
      clear hP2 hb2
      cases D with
      | false =>
        have hR : R = some (xs ++ [x], b') := HJ.out.symm
        subst hR
        go_wp2_with fail
        go_ret
        exact ⟨rfl, _, HP2.out, HK.out _ _ _ _ _ HK1.out HB2.out, HB1.out.trans HB2.out⟩
      | true =>
        have hl2 : b' + 1 ≤ N := HL.out rfl
        have HF : Hid ((listP l step f (b' + 1)).map (fun q => ((xs ++ [x]) ++ q.1, q.2)) = R) := by
          show _ = _
          rw [← HJ.out, if_pos rfl, Option.map_map]
          cases listP l step f (b' + 1) <;> simp
        clear HJ
        go_wp2_with fail
        go_roundw
        case rel => exact ⟨f, xs ++ [x], b' + 1, _, by omega, by simp; omega, hl2, HF, HP2, Lib.hid (HK.out _ _ _ _ _ HK1.out HB2.out), HB1.out.trans HB2.out⟩
        case measure =>
          have e2 : atOf g w2 = b' + 1 := PsS.at_ HP2.out
          have e1 := HPA.out
          omega
set_option maxRecDepth 100000 in
set_option maxHeartbeats 4000000 in
theorem pinside_ins {α : Type} (pv ib : Nat) (o : Option (α × Nat)) (K : α → Array Value → World → Prop) (g : Nat) (A : Option Addr) (c : Nat) (l : List Tok) (a : Nat) (cs : Array Value) (w : World) (hl : l.length ≤ 990) (ha : a ≤ l.length) (h : PsS g A c l a cs w) (hK : StayK g K) (ho : a + 1 ≤ l.length → ∀ r, o = some r → r.2 ≤ l.length)
    (hI : ∀ W, But g w W → a + 1 ≤ l.length → PsS g A c l (a + 1) (goAt cs (a + 1)) W → Calls Tryz.prog 172 #[.pointer (some ⟨pv, 0, none⟩), .pointer (some ⟨ib, 0, none⟩)] W (RetK o g A c l K W)) :
    Calls Tryz.prog 164 #[.pointer (some ⟨g, 0, none⟩), .func (.func 172) #[] #[.pointer (some ⟨pv, 0, none⟩), .pointer (some ⟨ib, 0, none⟩)]] w (RetK (insideP l a o) g A c l K w) := by
  have HT := Lib.hid (ptake2_any g A c l a cs [40] w (by omega) h)
  obtain ⟨R, hR⟩ : ∃ R, insideP l a o = R := ⟨_, rfl⟩
  rw [hR]
  unfold insideP at hR
  have HA : Hid (hit l a [40] = true → a + 1 ≤ l.length) := fun h => hitLt h
  obtain ⟨B, hB⟩ : ∃ B, hit l a [40] = B := ⟨_, rfl⟩
  rw [hB] at HT hR HA
  have HR := Lib.hid hR
  have HI := Lib.hid hI
  have HK := Lib.hid hK
  have HO := Lib.hid ho
  clear hR hB h hI hK ho ha
  go_enter Tryz.func164, Tryz.ntmps164
  go_wp2_with fail
  refine HT.out.mono ?_
  rintro en w1 ⟨rfl, hP1, hb1⟩
  have HB1 := Lib.hid hb1
  cases B with
  | false =>
    have hR : R = none := HR.out.symm
    subst hR
    clear hP1 hb1
    go_wp2_with fail
    go_ret
    exact ⟨rfl, HB1.out⟩
  | true =>
    have HR : Hid ((o.bind fun r => if hit l r.2 [41] then some (r.1, r.2 + 1) else none) = R) := HR.out
    have hP1' : PsS g A c l (a + 1) (goAt cs (a + 1)) w1 := hP1
    have HX := Lib.hid (HI.out w1 hb1 (HA.out rfl) hP1')
    have HAL := Lib.hid (HA.out rfl)
    clear hP1 hP1' hb1 HI HT
    go_wp2_with fail
    refine HX.out.mono ?_
    cases o with
    | none =>
      have hR : R = none := HR.out.symm
      subst hR
      rintro en w2 ⟨rfl, hb2⟩
      have HB2 := Lib.hid (HB1.out.trans hb2)
      clear hb2
      go_wp2_with fail
      go_ret
      exact ⟨rfl, HB2.out⟩
    | some r =>
      obtain ⟨x, b⟩ := r
      have hR : (if hit l b [41] then some (x, b + 1) else none) = R := HR.out
      rintro en w2 ⟨rfl, cs2, hP2, hK2, hb2⟩
      have hbl : b ≤ l.length := HO.out HAL.out (x, b) rfl
      have HT2 := Lib.hid (ptake2_any g A c l b cs2 [41] w2 (by omega) hP2)
      have HB2 := Lib.hid (HB1.out.trans hb2)
      have HK2 := Lib.hid hK2
      obtain ⟨D, hD⟩ : ∃ D, hit l b [41] = D := ⟨_, rfl⟩
      rw [hD] at HT2 hR
      have HR2 := Lib.hid hR
      clear hP2 hK2 hb2 hD hR HR HX hbl
      go_wp2_with fail
      refine HT2.out.mono ?_
      rintro en w3 ⟨rfl, hP3, hb3⟩
      have HP3 := Lib.hid hP3
      have HB3 := Lib.hid hb3
      clear hP3 hb3
      cases D with
      | false =>
        have hR : R = none := HR2.out.symm
        subst hR
        go_wp2_with fail
        go_ret
        exact ⟨rfl, HB2.out.trans HB3.out⟩
      | true =>
        have hR : R = some (x, b + 1) := HR2.out.symm
        subst hR
        go_wp2_with fail
        go_ret
        exact ⟨rfl, _, HP3.out, HK.out _ _ _ _ _ HK2.out HB3.out, HB2.out.trans HB3.out⟩

end Go.Proofs.YtchilcchogcibaaGreatDoor
