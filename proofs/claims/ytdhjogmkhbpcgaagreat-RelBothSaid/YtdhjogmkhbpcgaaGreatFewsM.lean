/- caddislaw02.Few: the first 14 values of a row, each with a text of at most 60 octets. Condition: the slice reads as a list of values. caddislaw04.Cols: columns, no more than are looked at. Condition: the slice reads as a list of columns. -/
import Derived.Test.YtdhjogmkhbpcgaaGreatRef1
import Derived.Test.YtdhjogmkhbpcgaaGreatEx
import Derived.Test.YtdhjogmkhbpcgaaGreatExpr2
namespace Go.Proofs.YtdhjogmkhbpcgaaGreat
open Go.RowKit

attribute [local go_sem] ByteArray.extract_mk ba_get

theorem infoV : (Tryz.prog.info? 26).map (fun i => (i.zero, i.size, i.bytes)) = some (some (.agg #[.int .i64 0, .int .i64 0, .string ⟨#[]⟩]), 3, 32) := by kernel_rfl

def fewV (v : V) : V := ⟨v.k, v.i, v.s.take 60⟩
def fewL (l : List V) : List V := (l.take 14).map fewV

theorem fewL_snoc (l : List V) (j : Nat) (v : V) (h : l[j]? = some v) : (l.take (j + 1)).map fewV = (l.take j).map fewV ++ [fewV v] := by
  rw [List.take_add_one, h]; simp

set_option maxRecDepth 100000 in
set_option maxHeartbeats 400000 in
theorem few_any (A : Option Addr) (c : Nat) (l : List V) (w : World) (hl : l.length ≤ maxLen) (h : VS w w.heap.size A l) :
    Calls Tryz.prog 21 #[.slice A l.length c] w (RetVS (fewL l) w) := by
  unfold maxLen at hl
  obtain ⟨i0, hi0, zi0, zi1, zi2⟩ := info_parts infoV
  go_enter Tryz.func21, Tryz.ntmps21
  go_wp2
  go_loopw [3, 4] (fun v i wr => ∃ j : Nat, j ≤ l.length ∧ j ≤ 14 ∧ i = .int .i64 j ∧ wr.ownsRow w.heap.size 26 3 v j (((l.take j).map fewV).flatMap V.cells) ∧ Below w.heap.size w wr) (fun _ i _ => l.length - (intOf i).toNat)
  case atStart => exact ⟨0, by omega, by omega, rfl, World.ownsRow_nil _ _ _ _, Below.refl _ _⟩
  case round =>
    obtain ⟨j, hj1, hj2, rfl, hown, hbw⟩ := hrel
    by_cases hlt : j < l.length
    · by_cases h14 : j < 14
      · obtain ⟨b, off, v, rfl, hbB, hv, c0, c1, c2⟩ := (h.below hbw).at_ hlt
        have HV := Lib.hid hv
        clear hv
        go_wp2_with fail
        refine (few1_any _ _ _ _).mono ?_
        rintro e w1 ⟨rfl, hb1⟩
        have hz1 := hb1.size
        have hown1 : w1.ownsRow w.heap.size 26 3 u3 j (((l.take j).map fewV).flatMap V.cells) := own_below hown hb1
        have hzw := hbw.size
        go_wp2_with (at_builtin; refine wpList_append_own _ rfl _ _ 43 rfl w.heap.size 26 i0 _ 3 32 Tryz.underlying43 hi0 zi0 zi1 zi2 rfl (by decide) _ _ _ rfl (hown1.alloc _) ⟨w1.heap.size, 0, none⟩ 1 1 (fewV v).cells rfl rfl ?c1 ?c2 ?c3 ?c4 ?c5 ?_)
        case c1 =>
          exact World.news_of_block (cs := #[.int .i64 v.k, .int .i64 v.i, .string ⟨(v.s.take 60).toArray⟩]) (t := 26) (fr := (0, 0)) (heap_alloc_new w1 _)
        case c2 => exact fun u hu => cells_one [fewV v] u (by simpa using hu)
        case c3 => unfold maxLen; omega
        case c4 => omega
        case c5 => simp; omega
        intro v' w2 hown2 hg2 _
        go_wp2
        go_roundw
        case rel =>
          refine ⟨j + 1, by omega, by omega, by go_num, ?_, ?_⟩
          · rw [fewL_snoc l j v HV.out, List.flatMap_append]
            simpa using hown2
          · refine Below.grown (w := w1.alloc (.cells #[.int .i64 v.k, .int .i64 v.i, .string ⟨(v.s.take 60).toArray⟩] 26)) ?_ hg2 (by simp; omega) (fun k hk => (hown.lt k hk).1)
            ((with_reducible repeat' (first | exact Below.refl _ _ | assumption | refine Below.drew ?_ | refine below_drewN ?_ _ | refine Below.setCell ?_ ?_ _ | refine Below.alloc ?_ ?_ _ | refine Below.trans ?_ (Below.mono (by assumption) ?_))) <;> first | (simp; done) | (simp; omega) | omega)
        case measure => simp [intOf]; omega
      · go_wp2
        go_ret
        obtain ⟨A', c', rfl, hc1, hc2, hv⟩ := VS.own hown
        have e : fewL l = (l.take j).map fewV := by unfold fewL; rw [show j = 14 by omega]
        refine ⟨A', c', ?_, ?_, hc2, ?_, hbw⟩
        · rw [e]; rfl
        · rw [e]; exact hc1
        · rw [e]; exact hv
    · go_wp2
      go_ret
      obtain ⟨A', c', rfl, hc1, hc2, hv⟩ := VS.own hown
      have e : fewL l = (l.take j).map fewV := by unfold fewL; rw [List.take_of_length_le (i := 14) (by omega), List.take_of_length_le (by omega)]
      refine ⟨A', c', ?_, ?_, hc2, ?_, hbw⟩
      · rw [e]; rfl
      · rw [e]; exact hc1
      · rw [e]; exact hv
end Go.Proofs.YtdhjogmkhbpcgaaGreat

namespace Go.Proofs.YtdhjogmkhbpcgaaGreat
open Go.RowKit

attribute [local go_sem] ByteArray.extract_mk ba_get
attribute [local go_sem ↓] Go.wp_at_zero Go.wp_at_succ

theorem infoC : (Tryz.prog.info? 77).map (fun i => (i.zero, i.size, i.bytes)) = some (some (.agg #[.string ⟨#[]⟩, .int .i64 0, .bool false]), 3, 32) := by kernel_rfl
theorem Col.cells_length (v : Col) : v.cells.length = 3 := rfl
theorem col_at : ∀ (l : List Col) (i j : Nat) (v : Col), l[i]? = some v → j < 3 → (l.flatMap Col.cells)[i * 3 + j]? = v.cells[j]? := by
  intro l
  induction l with
  | nil => intro i j v h; simp at h
  | cons x r ih =>
    intro i j v h hj
    cases i with
    | zero =>
      simp at h; subst h
      rw [List.flatMap_cons, List.getElem?_append_left (by rw [Col.cells_length]; omega)]
      simp
    | succ i =>
      rw [List.flatMap_cons, List.getElem?_append_right (by rw [Col.cells_length]; omega), Col.cells_length]
      have e : (i + 1) * 3 + j - 3 = i * 3 + j := by omega
      rw [e]
      exact ih i j v (by simpa using h) hj
theorem col_len (l : List Col) : (l.flatMap Col.cells).length = l.length * 3 := by
  induction l with
  | nil => rfl
  | cons x r ih => rw [List.flatMap_cons, List.length_append, ih, Col.cells_length, List.length_cons]; omega
theorem col_one (l : List Col) : ∀ u ∈ l.flatMap Col.cells, u.oneCell' = true := by
  intro u hu
  rw [List.mem_flatMap] at hu
  obtain ⟨v, _, hv⟩ := hu
  simp only [Col.cells, List.mem_cons, List.not_mem_nil, or_false] at hv
  rcases hv with rfl | rfl | rfl <;> rfl
/-- As ColS, with bounds on the block. -/
def ColF (w : World) (lo hi : Nat) (A : Option Addr) (l : List Col) : Prop := 0 < l.length → ∃ b off, A = some ⟨b, off, none⟩ ∧ lo ≤ b ∧ b < hi ∧ ColRow w b off l
theorem ColF.s {w : World} {lo hi : Nat} {A : Option Addr} {l : List Col} (h : ColF w lo hi A l) {B : Nat} (hB : hi ≤ B) : ColS w B A l := fun hl => by
  obtain ⟨b, off, rfl, _, h2, h3⟩ := h hl
  exact ⟨b, off, rfl, by omega, h3⟩
theorem ColRow.keep {w w' : World} {b off : Nat} {l : List Col} (h : ColRow w b off l) (hk : ∀ o, w'.cell? ⟨b, o, none⟩ = w.cell? ⟨b, o, none⟩) : ColRow w' b off l := by
  intro i v hv
  obtain ⟨h0, h1, h2⟩ := h i v hv
  exact ⟨(hk _).trans h0, (hk _).trans h1, (hk _).trans h2⟩
theorem ColF.keep {w w' : World} {lo hi lo' hi' : Nat} {A : Option Addr} {l : List Col} (h : ColF w lo hi A l) (hk : ∀ b, lo ≤ b → b < hi → (lo' ≤ b ∧ b < hi') ∧ ∀ o, w'.cell? ⟨b, o, none⟩ = w.cell? ⟨b, o, none⟩) : ColF w' lo' hi' A l := fun hl => by
  obtain ⟨b, off, rfl, h1, h2, h3⟩ := h hl
  exact ⟨b, off, rfl, (hk b h1 h2).1.1, (hk b h1 h2).1.2, h3.keep (hk b h1 h2).2⟩
theorem ColF.own {w : World} {base : Nat} {e : TypeId} {sv : Value} {n : Nat} {l : List Col} (h : w.ownsRow base e 3 sv n (l.flatMap Col.cells)) :
    ∃ A c, sv = .slice A l.length c ∧ l.length ≤ c ∧ c ≤ maxLen ∧ ColF w base w.heap.size A l := by
  have hn : l.length = n := by have := h.1; rw [col_len] at this; omega
  rcases h.2 with ⟨rfl, h0⟩ | ⟨g, cap, cur, rfl, hb, hg, hnc, hcm, hcs, htk⟩
  · refine ⟨none, 0, ?_, by omega, Nat.zero_le _, fun hl => absurd hl (by omega)⟩
    rw [hn, h0]
  · refine ⟨some ⟨g, 0, none⟩, cap, by rw [hn], by omega, hcm, fun _ => ⟨g, 0, rfl, hb, ?_, ?_⟩⟩
    · exact (Array.getElem?_eq_some_iff.1 hg).1
    · intro i v hv
      have hc := h.cells (g := g) rfl
      have key : ∀ j u, j < 3 → v.cells[j]? = some u → w.cell? ⟨g, 0 + i * 3 + j, none⟩ = some u := by
        intro j u hj hu
        have := hc (i * 3 + j) u (by rw [col_at l i j v hv hj]; exact hu)
        rw [add_mid] at this
        rw [Nat.add_assoc]
        exact this
      exact ⟨key 0 _ (by omega) rfl, key 1 _ (by omega) rfl, key 2 _ (by omega) rfl⟩
theorem col_block {w : World} {g : Nat} {e : TypeId} {l : List Col} (h : Blk w g e (l.flatMap Col.cells).toArray) : ColS w w.heap.size (some ⟨g, 0, none⟩) l := by
  intro _
  refine ⟨g, 0, rfl, h.lt, fun i v hv => ?_⟩
  have key : ∀ j u, j < 3 → v.cells[j]? = some u → w.cell? ⟨g, 0 + i * 3 + j, none⟩ = some u := by
    intro j u hj hu
    rw [h.cell, List.getElem?_toArray, Nat.zero_add, col_at l i j v hv hj]
    exact hu
  exact ⟨key 0 _ (by omega) rfl, key 1 _ (by omega) rfl, key 2 _ (by omega) rfl⟩

def fewC (c : Col) : Col := ⟨c.n.take 20, c.t, c.b⟩
def fewCols (l : List Col) : List Col := (l.take 9).map fewC
theorem fewCols_snoc (l : List Col) (j : Nat) (v : Col) (h : l[j]? = some v) : (l.take (j + 1)).map fewC = (l.take j).map fewC ++ [fewC v] := by
  rw [List.take_add_one, h]; simp
/-- What Cols leaves. -/
def RetCols (l : List Col) (w : World) (e : Ending) (w' : World) : Prop :=
  ∃ A c, e = .returned (.slice A l.length c) ∧ l.length ≤ c ∧ c ≤ maxLen ∧ ColF w' w.heap.size w'.heap.size A l ∧ Below w.heap.size w w'

set_option maxRecDepth 100000 in
set_option maxHeartbeats 1000000 in
theorem cols_any (A : Option Addr) (c : Nat) (l : List Col) (w : World) (hl : l.length ≤ maxLen) (h : ColS w w.heap.size A l) (hn : ∀ x ∈ l, x.n.length ≤ maxLen) :
    Calls Tryz.prog 46 #[.slice A l.length c] w (RetCols (fewCols l) w) := by
  unfold maxLen at hl
  have HN := Lib.hid hn
  clear hn
  obtain ⟨i0, hi0, zi0, zi1, zi2⟩ := info_parts infoC
  go_enter Tryz.func46, Tryz.ntmps46
  go_wp2
  go_loopw [3, 4] (fun v i wr => ∃ j : Nat, j ≤ l.length ∧ j ≤ 9 ∧ i = .int .i64 j ∧ wr.ownsRow w.heap.size 77 3 v j (((l.take j).map fewC).flatMap Col.cells) ∧ Below w.heap.size w wr) (fun _ i _ => l.length - (intOf i).toNat)
  case atStart => exact ⟨0, by omega, by omega, rfl, World.ownsRow_nil _ _ _ _, Below.refl _ _⟩
  case round =>
    obtain ⟨j, hj1, hj2, rfl, hown, hbw⟩ := hrel
    by_cases hlt : j < l.length
    · by_cases h14 : j < 9
      · obtain ⟨b, off, v, rfl, hbB, hv, c0, c1, c2⟩ := (h.below hbw).at_ hlt
        have HV := Lib.hid hv
        have hnl := HN.out v (List.mem_of_getElem? hv)
        unfold maxLen at hnl
        clear hv
        have hzw := hbw.size
        by_cases hn20 : v.n.length ≤ 20
        · have HF : Hid ((fewC v).cells = [.string ⟨v.n.toArray⟩, .int .i64 v.t, .bool v.b]) := by show _ = _; simp only [fewC, Col.cells]; rw [List.take_of_length_le hn20]
          go_wp2_with (at_builtin; refine wpList_append_own _ rfl _ _ 22 rfl w.heap.size 77 i0 _ 3 32 Tryz.underlying22 hi0 zi0 zi1 zi2 rfl (by decide) _ _ _ rfl ((hown.alloc _).alloc _) ⟨wr.heap.size + 1, 0, none⟩ 1 1 (fewC v).cells rfl rfl ?c1 ?c2 ?c3 ?c4 ?c5 ?_)
          case c1 =>
            rw [HF.out]
            exact World.news_of_block (cs := #[.string ⟨(v.n).toArray⟩, .int .i64 v.t, .bool v.b]) (t := 77) (fr := (0, 0)) (Blk.new' _ _ _ _ (by simp))
          case c2 => exact fun u hu => col_one [fewC v] u (by simpa using hu)
          case c3 => unfold maxLen; omega
          case c4 => omega
          case c5 => simp; omega
          intro v' w2 hown2 hg2 _
          go_wp2
          go_roundw
          case rel =>
            refine ⟨j + 1, by omega, by omega, by go_num, ?_, ?_⟩
            · rw [fewCols_snoc l j v HV.out, List.flatMap_append]
              simpa using hown2
            · refine Below.grown ?_ hg2 (by simp; omega) (fun k hk => (hown.lt k hk).1)
              ((with_reducible repeat' (first | exact Below.refl _ _ | assumption | refine Below.drew ?_ | refine below_drewN ?_ _ | refine Below.setCell ?_ ?_ _ | refine Below.alloc ?_ ?_ _ | refine Below.trans ?_ (Below.mono (by assumption) ?_))) <;> first | (simp; done) | (simp; omega) | omega)
          case measure => simp [intOf]; omega
        · have HF : Hid ((fewC v).cells = [.string ⟨(v.n.take 20).toArray⟩, .int .i64 v.t, .bool v.b]) := rfl
          go_wp2_with (at_builtin; refine wpList_append_own _ rfl _ _ 22 rfl w.heap.size 77 i0 _ 3 32 Tryz.underlying22 hi0 zi0 zi1 zi2 rfl (by decide) _ _ _ rfl ((hown.alloc _).alloc _) ⟨wr.heap.size + 1, 0, none⟩ 1 1 (fewC v).cells rfl rfl ?c1 ?c2 ?c3 ?c4 ?c5 ?_)
          case c1 =>
            rw [HF.out]
            exact World.news_of_block (cs := #[.string ⟨(v.n.take 20).toArray⟩, .int .i64 v.t, .bool v.b]) (t := 77) (fr := (0, 0)) (Blk.new' _ _ _ _ (by simp))
          case c2 => exact fun u hu => col_one [fewC v] u (by simpa using hu)
          case c3 => unfold maxLen; omega
          case c4 => omega
          case c5 => simp; omega
          intro v' w2 hown2 hg2 _
          go_wp2
          go_roundw
          case rel =>
            refine ⟨j + 1, by omega, by omega, by go_num, ?_, ?_⟩
            · rw [fewCols_snoc l j v HV.out, List.flatMap_append]
              simpa using hown2
            · refine Below.grown ?_ hg2 (by simp; omega) (fun k hk => (hown.lt k hk).1)
              ((with_reducible repeat' (first | exact Below.refl _ _ | assumption | refine Below.drew ?_ | refine below_drewN ?_ _ | refine Below.setCell ?_ ?_ _ | refine Below.alloc ?_ ?_ _ | refine Below.trans ?_ (Below.mono (by assumption) ?_))) <;> first | (simp; done) | (simp; omega) | omega)
          case measure => simp [intOf]; omega
      · go_wp2
        go_ret
        obtain ⟨A', c', rfl, hc1, hc2, hv⟩ := ColF.own hown
        have e : fewCols l = (l.take j).map fewC := by unfold fewCols; rw [show j = 9 by omega]
        refine ⟨A', c', ?_, ?_, hc2, ?_, hbw⟩
        · rw [e]; rfl
        · rw [e]; exact hc1
        · rw [e]; exact hv
    · go_wp2
      go_ret
      obtain ⟨A', c', rfl, hc1, hc2, hv⟩ := ColF.own hown
      have e : fewCols l = (l.take j).map fewC := by unfold fewCols; rw [List.take_of_length_le (i := 9) (by omega), List.take_of_length_le (by omega)]
      refine ⟨A', c', ?_, ?_, hc2, ?_, hbw⟩
      · rw [e]; rfl
      · rw [e]; exact hc1
      · rw [e]; exact hv
end Go.Proofs.YtdhjogmkhbpcgaaGreat
