/- caddislaw02.Few: the first 14 values of a row, each with a text of at most 60 octets. Condition: the slice reads as a list of values. caddislaw04.Cols: columns, no more than are looked at. Condition: the slice reads as a list of columns. Expressions whose memory lies in blocks of a kind. Nothing of the program stands here. A variable of six cells is stored anew: what its block, and the others, are then. Nothing of the program stands here. -/
import Derived.Test.YtdhjogmkhbpcgaaGreatValM
import Derived.Test.YtdhjogmkhbpcgaaGreatExAM
import Derived.Test.YtdhjogmkhbpcgaaGreatExpr2
namespace Go.Proofs.YtdhjogmkhbpcgaaGreat
open Go.RowKit

attribute [local go_sem] ByteArray.extract_mk ba_get

theorem infoV : (Tryz.prog.info? 26).map (fun i => (i.zero, i.size, i.bytes)) = some (some (.agg #[.int .i64 0, .int .i64 0, .string ⟨#[]⟩]), 3, 32) := by kernel_rfl

def fewV (v : V) : V := ⟨v.k, v.i, v.s.take 60⟩
def fewL (l : List V) : List V := (l.take 14).map fewV

theorem fewL_snoc (l : List V) (j : Nat) (v : V) (h : l[j]? = some v) : (l.take (j + 1)).map fewV = (l.take j).map fewV ++ [fewV v] := by
  rw [List.take_add_one, h]; simp

set_option maxRecDepth 100000 in
set_option maxHeartbeats 400000 in
theorem few_any (A : Option Addr) (c : Nat) (l : List V) (w : World) (hl : l.length ≤ maxLen) (h : VS w w.heap.size A l) :
    Calls Tryz.prog 21 #[.slice A l.length c] w (RetVS (fewL l) w) := by
  unfold maxLen at hl
  obtain ⟨i0, hi0, zi0, zi1, zi2⟩ := info_parts infoV
  go_enter Tryz.func21, Tryz.ntmps21
  go_wp2
  go_loopw [3, 4] (fun v i wr => ∃ j : Nat, j ≤ l.length ∧ j ≤ 14 ∧ i = .int .i64 j ∧ wr.ownsRow w.heap.size 26 3 v j (((l.take j).map fewV).flatMap V.cells) ∧ Below w.heap.size w wr) (fun _ i _ => l.length - (intOf i).toNat)
  case atStart => exact ⟨0, by omega, by omega, rfl, World.ownsRow_nil _ _ _ _, Below.refl _ _⟩
  case round =>
    obtain ⟨j, hj1, hj2, rfl, hown, hbw⟩ := hrel
    by_cases hlt : j < l.length
    · by_cases h14 : j < 14
      · obtain ⟨b, off, v, rfl, hbB, hv, c0, c1, c2⟩ := (h.below hbw).at_ hlt
        have HV := Lib.hid hv
        clear hv
        go_wp2_with fail
        refine (few1_any _ _ _ _).mono ?_
        rintro e w1 ⟨rfl, hb1⟩
        have hz1 := hb1.size
        have hown1 : w1.ownsRow w.heap.size 26 3 u3 j (((l.take j).map fewV).flatMap V.cells) := own_below hown hb1
        have hzw := hbw.size
        go_wp2_with (at_builtin; refine wpList_append_own _ rfl _ _ 43 rfl w.heap.size 26 i0 _ 3 32 Tryz.underlying43 hi0 zi0 zi1 zi2 rfl (by decide) _ _ _ rfl (hown1.alloc _) ⟨w1.heap.size, 0, none⟩ 1 1 (fewV v).cells rfl rfl ?c1 ?c2 ?c3 ?c4 ?c5 ?_)
        case c1 =>
          exact World.news_of_block (cs := #[.int .i64 v.k, .int .i64 v.i, .string ⟨(v.s.take 60).toArray⟩]) (t := 26) (fr := (0, 0)) (heap_alloc_new w1 _)
        case c2 => exact fun u hu => cells_one [fewV v] u (by simpa using hu)
        case c3 => unfold maxLen; omega
        case c4 => omega
        case c5 => simp; omega
        intro v' w2 hown2 hg2 _
        go_wp2
        go_roundw
        case rel =>
          refine ⟨j + 1, by omega, by omega, by go_num, ?_, ?_⟩
          · rw [fewL_snoc l j v HV.out, List.flatMap_append]
            simpa using hown2
          · refine Below.grown (w := w1.alloc (.cells #[.int .i64 v.k, .int .i64 v.i, .string ⟨(v.s.take 60).toArray⟩] 26)) ?_ hg2 (by simp; omega) (fun k hk => (hown.lt k hk).1)
            exact bl
        case measure => simp [intOf]; omega
      · go_wp2
        go_ret
        obtain ⟨A', c', rfl, hc1, hc2, hv⟩ := VS.own hown
        have e : fewL l = (l.take j).map fewV := by unfold fewL; rw [show j = 14 by omega]
        refine ⟨A', c', ?_, ?_, hc2, ?_, hbw⟩
        · rw [e]; rfl
        · rw [e]; exact hc1
        · rw [e]; exact hv
    · go_wp2
      go_ret
      obtain ⟨A', c', rfl, hc1, hc2, hv⟩ := VS.own hown
      have e : fewL l = (l.take j).map fewV := by unfold fewL; rw [List.take_of_length_le (i := 14) (by omega), List.take_of_length_le (by omega)]
      refine ⟨A', c', ?_, ?_, hc2, ?_, hbw⟩
      · rw [e]; rfl
      · rw [e]; exact hc1
      · rw [e]; exact hv
end Go.Proofs.YtdhjogmkhbpcgaaGreat

namespace Go.Proofs.YtdhjogmkhbpcgaaGreat
open Go.RowKit

attribute [local go_sem] ByteArray.extract_mk ba_get
attribute [local go_sem ↓] Go.wp_at_zero Go.wp_at_succ

theorem infoC : (Tryz.prog.info? 77).map (fun i => (i.zero, i.size, i.bytes)) = some (some (.agg #[.string ⟨#[]⟩, .int .i64 0, .bool false]), 3, 32) := by kernel_rfl
theorem Col.cells_length (v : Col) : v.cells.length = 3 := rfl
theorem col_at : ∀ (l : List Col) (i j : Nat) (v : Col), l[i]? = some v → j < 3 → (l.flatMap Col.cells)[i * 3 + j]? = v.cells[j]? := by
  intro l
  induction l with
  | nil => intro i j v h; simp at h
  | cons x r ih =>
    intro i j v h hj
    cases i with
    | zero =>
      simp at h; subst h
      rw [List.flatMap_cons, List.getElem?_append_left (by rw [Col.cells_length]; omega)]
      simp
    | succ i =>
      rw [List.flatMap_cons, List.getElem?_append_right (by rw [Col.cells_length]; omega), Col.cells_length]
      have e : (i + 1) * 3 + j - 3 = i * 3 + j := by omega
      rw [e]
      exact ih i j v (by simpa using h) hj
theorem col_len (l : List Col) : (l.flatMap Col.cells).length = l.length * 3 := by
  induction l with
  | nil => rfl
  | cons x r ih => rw [List.flatMap_cons, List.length_append, ih, Col.cells_length, List.length_cons]; omega
theorem col_one (l : List Col) : ∀ u ∈ l.flatMap Col.cells, u.oneCell' = true := by
  intro u hu
  rw [List.mem_flatMap] at hu
  obtain ⟨v, _, hv⟩ := hu
  simp only [Col.cells, List.mem_cons, List.not_mem_nil, or_false] at hv
  rcases hv with rfl | rfl | rfl <;> rfl
/-- As ColS, with bounds on the block. -/
def ColF (w : World) (lo hi : Nat) (A : Option Addr) (l : List Col) : Prop := 0 < l.length → ∃ b off, A = some ⟨b, off, none⟩ ∧ lo ≤ b ∧ b < hi ∧ ColRow w b off l
theorem ColF.s {w : World} {lo hi : Nat} {A : Option Addr} {l : List Col} (h : ColF w lo hi A l) {B : Nat} (hB : hi ≤ B) : ColS w B A l := fun hl => by
  obtain ⟨b, off, rfl, _, h2, h3⟩ := h hl
  exact ⟨b, off, rfl, by omega, h3⟩
theorem ColRow.keep {w w' : World} {b off : Nat} {l : List Col} (h : ColRow w b off l) (hk : ∀ o, w'.cell? ⟨b, o, none⟩ = w.cell? ⟨b, o, none⟩) : ColRow w' b off l := by
  intro i v hv
  obtain ⟨h0, h1, h2⟩ := h i v hv
  exact ⟨(hk _).trans h0, (hk _).trans h1, (hk _).trans h2⟩
theorem ColF.keep {w w' : World} {lo hi lo' hi' : Nat} {A : Option Addr} {l : List Col} (h : ColF w lo hi A l) (hk : ∀ b, lo ≤ b → b < hi → (lo' ≤ b ∧ b < hi') ∧ ∀ o, w'.cell? ⟨b, o, none⟩ = w.cell? ⟨b, o, none⟩) : ColF w' lo' hi' A l := fun hl => by
  obtain ⟨b, off, rfl, h1, h2, h3⟩ := h hl
  exact ⟨b, off, rfl, (hk b h1 h2).1.1, (hk b h1 h2).1.2, h3.keep (hk b h1 h2).2⟩
theorem ColF.own {w : World} {base : Nat} {e : TypeId} {sv : Value} {n : Nat} {l : List Col} (h : w.ownsRow base e 3 sv n (l.flatMap Col.cells)) :
    ∃ A c, sv = .slice A l.length c ∧ l.length ≤ c ∧ c ≤ maxLen ∧ ColF w base w.heap.size A l := by
  have hn : l.length = n := by have := h.1; rw [col_len] at this; omega
  rcases h.2 with ⟨rfl, h0⟩ | ⟨g, cap, cur, rfl, hb, hg, hnc, hcm, hcs, htk⟩
  · refine ⟨none, 0, ?_, by omega, Nat.zero_le _, fun hl => absurd hl (by omega)⟩
    rw [hn, h0]
  · refine ⟨some ⟨g, 0, none⟩, cap, by rw [hn], by omega, hcm, fun _ => ⟨g, 0, rfl, hb, ?_, ?_⟩⟩
    · exact (Array.getElem?_eq_some_iff.1 hg).1
    · intro i v hv
      have hc := h.cells (g := g) rfl
      have key : ∀ j u, j < 3 → v.cells[j]? = some u → w.cell? ⟨g, 0 + i * 3 + j, none⟩ = some u := by
        intro j u hj hu
        have := hc (i * 3 + j) u (by rw [col_at l i j v hv hj]; exact hu)
        rw [add_mid] at this
        rw [Nat.add_assoc]
        exact this
      exact ⟨key 0 _ (by omega) rfl, key 1 _ (by omega) rfl, key 2 _ (by omega) rfl⟩
theorem col_block {w : World} {g : Nat} {e : TypeId} {l : List Col} (h : Blk w g e (l.flatMap Col.cells).toArray) : ColS w w.heap.size (some ⟨g, 0, none⟩) l := by
  intro _
  refine ⟨g, 0, rfl, h.lt, fun i v hv => ?_⟩
  have key : ∀ j u, j < 3 → v.cells[j]? = some u → w.cell? ⟨g, 0 + i * 3 + j, none⟩ = some u := by
    intro j u hj hu
    rw [h.cell, List.getElem?_toArray, Nat.zero_add, col_at l i j v hv hj]
    exact hu
  exact ⟨key 0 _ (by omega) rfl, key 1 _ (by omega) rfl, key 2 _ (by omega) rfl⟩

def fewC (c : Col) : Col := ⟨c.n.take 20, c.t, c.b⟩
def fewCols (l : List Col) : List Col := (l.take 9).map fewC
theorem fewCols_snoc (l : List Col) (j : Nat) (v : Col) (h : l[j]? = some v) : (l.take (j + 1)).map fewC = (l.take j).map fewC ++ [fewC v] := by
  rw [List.take_add_one, h]; simp
/-- What Cols leaves. -/
def RetCols (l : List Col) (w : World) (e : Ending) (w' : World) : Prop :=
  ∃ A c, e = .returned (.slice A l.length c) ∧ l.length ≤ c ∧ c ≤ maxLen ∧ ColF w' w.heap.size w'.heap.size A l ∧ Below w.heap.size w w'

set_option maxRecDepth 100000 in
set_option maxHeartbeats 1000000 in
theorem cols_any (A : Option Addr) (c : Nat) (l : List Col) (w : World) (hl : l.length ≤ maxLen) (h : ColS w w.heap.size A l) (hn : ∀ x ∈ l, x.n.length ≤ maxLen) :
    Calls Tryz.prog 46 #[.slice A l.length c] w (RetCols (fewCols l) w) := by
  unfold maxLen at hl
  have HN := Lib.hid hn
  clear hn
  obtain ⟨i0, hi0, zi0, zi1, zi2⟩ := info_parts infoC
  go_enter Tryz.func46, Tryz.ntmps46
  go_wp2
  go_loopw [3, 4] (fun v i wr => ∃ j : Nat, j ≤ l.length ∧ j ≤ 9 ∧ i = .int .i64 j ∧ wr.ownsRow w.heap.size 77 3 v j (((l.take j).map fewC).flatMap Col.cells) ∧ Below w.heap.size w wr) (fun _ i _ => l.length - (intOf i).toNat)
  case atStart => exact ⟨0, by omega, by omega, rfl, World.ownsRow_nil _ _ _ _, Below.refl _ _⟩
  case round =>
    obtain ⟨j, hj1, hj2, rfl, hown, hbw⟩ := hrel
    by_cases hlt : j < l.length
    · by_cases h14 : j < 9
      · obtain ⟨b, off, v, rfl, hbB, hv, c0, c1, c2⟩ := (h.below hbw).at_ hlt
        have HV := Lib.hid hv
        have hnl := HN.out v (List.mem_of_getElem? hv)
        unfold maxLen at hnl
        clear hv
        have hzw := hbw.size
        by_cases hn20 : v.n.length ≤ 20
        · have HF : Hid ((fewC v).cells = [.string ⟨v.n.toArray⟩, .int .i64 v.t, .bool v.b]) := by show _ = _; simp only [fewC, Col.cells]; rw [List.take_of_length_le hn20]
          go_wp2_with (at_builtin; refine wpList_append_own _ rfl _ _ 22 rfl w.heap.size 77 i0 _ 3 32 Tryz.underlying22 hi0 zi0 zi1 zi2 rfl (by decide) _ _ _ rfl ((hown.alloc _).alloc _) ⟨wr.heap.size + 1, 0, none⟩ 1 1 (fewC v).cells rfl rfl ?c1 ?c2 ?c3 ?c4 ?c5 ?_)
          case c1 =>
            rw [HF.out]
            exact World.news_of_block (cs := #[.string ⟨(v.n).toArray⟩, .int .i64 v.t, .bool v.b]) (t := 77) (fr := (0, 0)) (Blk.new' _ _ _ _ (by simp))
          case c2 => exact fun u hu => col_one [fewC v] u (by simpa using hu)
          case c3 => unfold maxLen; omega
          case c4 => omega
          case c5 => simp; omega
          intro v' w2 hown2 hg2 _
          go_wp2
          go_roundw
          case rel =>
            refine ⟨j + 1, by omega, by omega, by go_num, ?_, ?_⟩
            · rw [fewCols_snoc l j v HV.out, List.flatMap_append]
              simpa using hown2
            · refine Below.grown ?_ hg2 (by simp; omega) (fun k hk => (hown.lt k hk).1)
              exact bl
          case measure => simp [intOf]; omega
        · have HF : Hid ((fewC v).cells = [.string ⟨(v.n.take 20).toArray⟩, .int .i64 v.t, .bool v.b]) := rfl
          go_wp2_with (at_builtin; refine wpList_append_own _ rfl _ _ 22 rfl w.heap.size 77 i0 _ 3 32 Tryz.underlying22 hi0 zi0 zi1 zi2 rfl (by decide) _ _ _ rfl ((hown.alloc _).alloc _) ⟨wr.heap.size + 1, 0, none⟩ 1 1 (fewC v).cells rfl rfl ?c1 ?c2 ?c3 ?c4 ?c5 ?_)
          case c1 =>
            rw [HF.out]
            exact World.news_of_block (cs := #[.string ⟨(v.n.take 20).toArray⟩, .int .i64 v.t, .bool v.b]) (t := 77) (fr := (0, 0)) (Blk.new' _ _ _ _ (by simp))
          case c2 => exact fun u hu => col_one [fewC v] u (by simpa using hu)
          case c3 => unfold maxLen; omega
          case c4 => omega
          case c5 => simp; omega
          intro v' w2 hown2 hg2 _
          go_wp2
          go_roundw
          case rel =>
            refine ⟨j + 1, by omega, by omega, by go_num, ?_, ?_⟩
            · rw [fewCols_snoc l j v HV.out, List.flatMap_append]
              simpa using hown2
            · refine Below.grown ?_ hg2 (by simp; omega) (fun k hk => (hown.lt k hk).1)
              exact bl
          case measure => simp [intOf]; omega
      · go_wp2
        go_ret
        obtain ⟨A', c', rfl, hc1, hc2, hv⟩ := ColF.own hown
        have e : fewCols l = (l.take j).map fewC := by unfold fewCols; rw [show j = 9 by omega]
        refine ⟨A', c', ?_, ?_, hc2, ?_, hbw⟩
        · rw [e]; rfl
        · rw [e]; exact hc1
        · rw [e]; exact hv
    · go_wp2
      go_ret
      obtain ⟨A', c', rfl, hc1, hc2, hv⟩ := ColF.own hown
      have e : fewCols l = (l.take j).map fewC := by unfold fewCols; rw [List.take_of_length_le (i := 9) (by omega), List.take_of_length_le (by omega)]
      refine ⟨A', c', ?_, ?_, hc2, ?_, hbw⟩
      · rw [e]; rfl
      · rw [e]; exact hc1
      · rw [e]; exact hv
end Go.Proofs.YtdhjogmkhbpcgaaGreat

namespace Go.Proofs.YtdhjogmkhbpcgaaGreat
open Go.RowKit

/-- No expression. -/
def exZero : Ex := .mk [] V.zero [] []
theorem exZero_fit : exZero.fit 1000 := ⟨⟨by simp [exZero, Ex.v, V.zero], by simp [exZero, Ex.v, V.zero]⟩, by simp [exZero, Ex.op], by simp [exZero, Ex.s], by simp [exZero, Ex.v, V.zero]⟩
/-- As ExS; each block that the tree reaches is of the kind Q. -/
def ExQ (K : Nat) : Nat → World → (Nat → Prop) → Option Addr → List Ex → Prop
  | 0, _, _, _, l => l = []
  | n + 1, w, Q, A, l => 0 < l.length → ∃ b off, A = some ⟨b, off, none⟩ ∧ Q b ∧ ∀ i e, l[i]? = some e →
      ∃ A' c', e.fit K ∧ e.l.length ≤ c' ∧ c' ≤ maxLen ∧ Six w b (off + i * 6) e A' c' ∧ ExQ K n w Q A' e.l
theorem ExQ.nil {K : Nat} {w : World} {Q : Nat → Prop} {A : Option Addr} : ∀ n, ExQ K n w Q A []
  | 0 => rfl
  | _ + 1 => fun h => absurd h (by simp)
theorem ExQ.keep {K : Nat} {w w' : World} {Q Q' : Nat → Prop} (hk : ∀ b, Q b → Q' b ∧ ∀ o, w'.cell? ⟨b, o, none⟩ = w.cell? ⟨b, o, none⟩) : ∀ (n : Nat) {A : Option Addr} {l : List Ex}, ExQ K n w Q A l → ExQ K n w' Q' A l
  | 0, _, _, h => h
  | n + 1, _, _, h => fun hl => by
    obtain ⟨b, off, rfl, hb, hr⟩ := h hl
    refine ⟨b, off, rfl, (hk b hb).1, fun i e he => ?_⟩
    obtain ⟨A', c', hf, h1, h2, h3, h4⟩ := hr i e he
    exact ⟨A', c', hf, h1, h2, h3.keep (hk b hb).2, h4.keep hk n⟩
theorem ExQ.toS {K : Nat} {w : World} {Q : Nat → Prop} {B : Nat} (hk : ∀ b, Q b → b < B) : ∀ (n : Nat) {A : Option Addr} {l : List Ex}, ExQ K n w Q A l → ExS K n w B A l
  | 0, _, _, h => h
  | n + 1, _, _, h => fun hl => by
    obtain ⟨b, off, rfl, hb, hr⟩ := h hl
    refine ⟨b, off, rfl, hk b hb, fun i e he => ?_⟩
    obtain ⟨A', c', hf, h1, h2, h3, h4⟩ := hr i e he
    exact ⟨A', c', hf, h1, h2, h3, h4.toS hk n⟩
theorem ExQ.up {K : Nat} {w : World} {Q : Nat → Prop} : ∀ (n : Nat) {A : Option Addr} {l : List Ex}, ExQ K n w Q A l → ExQ K (n + 1) w Q A l
  | 0, _, _, h => by cases h; exact ExQ.nil 1
  | n + 1, _, _, h => fun hl => by
    obtain ⟨b, off, rfl, hb, hr⟩ := h hl
    refine ⟨b, off, rfl, hb, fun i e he => ?_⟩
    obtain ⟨A', c', hf, h1, h2, h3, h4⟩ := hr i e he
    exact ⟨A', c', hf, h1, h2, h3, h4.up n⟩
theorem ExQ.ups {K : Nat} {w : World} {Q : Nat → Prop} {A : Option Addr} {l : List Ex} {n : Nat} (h : ExQ K n w Q A l) : ∀ m, n ≤ m → ExQ K m w Q A l
  | 0, hm => by
    have : n = 0 := by omega
    subst this; exact h
  | m + 1, hm => by
    by_cases e : n = m + 1
    · subst e; exact h
    · exact (h.ups m (by omega)).up m
theorem exQ_one {K : Nat} {w : World} {Q : Nat → Prop} {g n : Nat} {t : TypeId} {e : Ex} {A : Option Addr} {c : Nat} (h : Blk w g t (e.cells A c).toArray) (hq : Q g) (hf : e.fit K) (h1 : e.l.length ≤ c) (h2 : c ≤ maxLen) (h3 : ExQ K n w Q A e.l) :
    ExQ K (n + 1) w Q (some ⟨g, 0, none⟩) [e] := fun _ => by
  refine ⟨g, 0, rfl, hq, fun i x hx => ?_⟩
  match i, hx with
  | 0, hx =>
    simp at hx; subst hx
    exact ⟨A, c, hf, h1, h2, ⟨h.cell 0, h.cell 1, h.cell 2, h.cell 3, h.cell 4, h.cell 5⟩, h3⟩
theorem exQ_two {K : Nat} {w : World} {Q : Nat → Prop} {g n : Nat} {t : TypeId} {e e' : Ex} {A A' : Option Addr} {c c' : Nat} (h : Blk w g t (e.cells A c ++ e'.cells A' c').toArray) (hq : Q g) (hf : e.fit K) (h1 : e.l.length ≤ c) (h2 : c ≤ maxLen) (h3 : ExQ K n w Q A e.l)
    (hf' : e'.fit K) (h1' : e'.l.length ≤ c') (h2' : c' ≤ maxLen) (h3' : ExQ K n w Q A' e'.l) : ExQ K (n + 1) w Q (some ⟨g, 0, none⟩) [e, e'] := fun _ => by
  refine ⟨g, 0, rfl, hq, fun i x hx => ?_⟩
  match i, hx with
  | 0, hx =>
    simp at hx; subst hx
    exact ⟨A, c, hf, h1, h2, ⟨h.cell 0, h.cell 1, h.cell 2, h.cell 3, h.cell 4, h.cell 5⟩, h3⟩
  | 1, hx =>
    simp at hx; subst hx
    exact ⟨A', c', hf', h1', h2', ⟨h.cell 6, h.cell 7, h.cell 8, h.cell 9, h.cell 10, h.cell 11⟩, h3'⟩

/-- An expression that a call answers: its parts lie in blocks of the kind Q. -/
def ExR (Q : Nat → Prop) (e : Ex) (A : Option Addr) (c : Nat) (w : World) : Prop := e.fit 1000 ∧ e.l.length ≤ c ∧ c ≤ maxLen ∧ ∃ n, ExQ 1000 n w Q A e.l
theorem ExR.keep {Q Q' : Nat → Prop} {e : Ex} {A : Option Addr} {c : Nat} {w w' : World} (h : ExR Q e A c w) (hk : ∀ b, Q b → Q' b ∧ ∀ o, w'.cell? ⟨b, o, none⟩ = w.cell? ⟨b, o, none⟩) : ExR Q' e A c w' := by
  obtain ⟨h1, h2, h3, n, h4⟩ := h
  exact ⟨h1, h2, h3, n, h4.keep hk n⟩
theorem ExR.two {Q : Nat → Prop} {op : List UInt8} {e e' : Ex} {A A' : Option Addr} {c c' g : Nat} {t : TypeId} {w : World} (h : ExR Q e A c w) (h' : ExR Q e' A' c' w) (k : Blk w g t (e.cells A c ++ e'.cells A' c').toArray) (hq : Q g) (ho : op.length ≤ 1000) :
    ExR Q (.mk op V.zero [] [e, e']) (some ⟨g, 0, none⟩) 2 w := by
  obtain ⟨h1, h2, h3, n, h4⟩ := h
  obtain ⟨h1', h2', h3', n', h4'⟩ := h'
  refine ⟨⟨⟨by simp [Ex.v, V.zero], by simp [Ex.v, V.zero]⟩, ho, by simp [Ex.s], by simp [Ex.v, V.zero]⟩, by simp [Ex.l], by unfold maxLen; omega, max n n' + 1, ?_⟩
  exact exQ_two k hq h1 h2 h3 (h4.ups _ (Nat.le_max_left _ _)) h1' h2' h3' (h4'.ups _ (Nat.le_max_right _ _))
theorem ExR.one {Q : Nat → Prop} {op : List UInt8} {e : Ex} {A : Option Addr} {c g : Nat} {t : TypeId} {w : World} (h : ExR Q e A c w) (k : Blk w g t (e.cells A c).toArray) (hq : Q g) (ho : op.length ≤ 1000) :
    ExR Q (.mk op V.zero [] [e]) (some ⟨g, 0, none⟩) 1 w := by
  obtain ⟨h1, h2, h3, n, h4⟩ := h
  exact ⟨⟨⟨by simp [Ex.v, V.zero], by simp [Ex.v, V.zero]⟩, ho, by simp [Ex.s], by simp [Ex.v, V.zero]⟩, by simp [Ex.l], by unfold maxLen; omega, n + 1, exQ_one k hq h1 h2 h3 h4⟩
theorem But.cell {p : Nat} {w w' : World} (h : But p w w') {b : Nat} (hb : b < w.heap.size) (hp : b ≠ p) (o : Nat) : w'.cell? ⟨b, o, none⟩ = w.cell? ⟨b, o, none⟩ := by
  have hk := h.block b hb hp
  unfold World.cell?
  simp only [hk]
theorem But.own {p : Nat} {a w : World} (h : But p a w) {g : Nat} (hg : a.heap.size ≤ g) (i : Nat) (u : Value) : But p a (w.setCell ⟨g, i, none⟩ u) := by
  have hb : Below 0 w (w.setCell ⟨g, i, none⟩ u) := by exact bl
  exact ⟨hb.os.trans h.os, hb.tape.trans h.tape, hb.output.trans h.output, Nat.le_trans h.size hb.size, fun k hk hp => (Below.heap_setCell w ⟨g, i, none⟩ u k (show k ≠ g by omega)).trans (h.block k hk hp)⟩

end Go.Proofs.YtdhjogmkhbpcgaaGreat

namespace Go.Proofs.YtdhjogmkhbpcgaaGreat
open Go.RowKit

theorem Blk.sixF {w : World} {g : Nat} {t : TypeId} {cs : Array Value} (h : Blk w g t cs) : w.frozen? ⟨g, 0, none⟩ = false ∧ w.frozen? ⟨g, 1, none⟩ = false ∧ w.frozen? ⟨g, 2, none⟩ = false ∧ w.frozen? ⟨g, 3, none⟩ = false ∧ w.frozen? ⟨g, 4, none⟩ = false ∧ w.frozen? ⟨g, 5, none⟩ = false :=
  ⟨h.frozen 0, h.frozen 1, h.frozen 2, h.frozen 3, h.frozen 4, h.frozen 5⟩
theorem Blk.sixSet {w : World} {g : Nat} {t : TypeId} {e0 : Ex} {A0 : Option Addr} {c0 : Nat} (h : Blk w g t (e0.cells A0 c0).toArray) (y0 y1 y2 y3 y4 y5 : Value) :
    Blk ((((((w.setCell ⟨g, 0, none⟩ y0).setCell ⟨g, 1, none⟩ y1).setCell ⟨g, 2, none⟩ y2).setCell ⟨g, 3, none⟩ y3).setCell ⟨g, 4, none⟩ y4).setCell ⟨g, 5, none⟩ y5) g t #[y0, y1, y2, y3, y4, y5] :=
  (((((h.set_ 0 y0).set_ 1 y1).set_ 2 y2).set_ 3 y3).set_ 4 y4).set_ 5 y5
theorem But.sixSet (w : World) (g : Nat) (y0 y1 y2 y3 y4 y5 : Value) :
    But g w ((((((w.setCell ⟨g, 0, none⟩ y0).setCell ⟨g, 1, none⟩ y1).setCell ⟨g, 2, none⟩ y2).setCell ⟨g, 3, none⟩ y3).setCell ⟨g, 4, none⟩ y4).setCell ⟨g, 5, none⟩ y5) :=
  ((((((But.refl g w).set 0 y0).set 1 y1).set 2 y2).set 3 y3).set 4 y4).set 5 y5
theorem But.sixOwn {p : Nat} {a w : World} (h : But p a w) {g : Nat} (hg : a.heap.size ≤ g) (y0 y1 y2 y3 y4 y5 : Value) :
    But p a ((((((w.setCell ⟨g, 0, none⟩ y0).setCell ⟨g, 1, none⟩ y1).setCell ⟨g, 2, none⟩ y2).setCell ⟨g, 3, none⟩ y3).setCell ⟨g, 4, none⟩ y4).setCell ⟨g, 5, none⟩ y5) :=
  (((((h.own hg 0 y0).own hg 1 y1).own hg 2 y2).own hg 3 y3).own hg 4 y4).own hg 5 y5

end Go.Proofs.YtdhjogmkhbpcgaaGreat
