/- caddislaw07.some: rows of one number each. Condition: numbers that read as such, not too many. A table with rows that is stored anew; what the laws of layer 7 share. Nothing of the program stands here but the contracts of Few and Where. -/
import Derived.Test.YtdhjogmkhbpcgaaGreatTake
import Derived.Test.YtdhjogmkhbpcgaaGreatFew67M
import Derived.Test.YtdhjogmkhbpcgaaGreatWhere
namespace Go.Proofs.YtdhjogmkhbpcgaaGreat
open Go.RowKit

attribute [local go_sem] ByteArray.extract_mk ba_get ba_append
attribute [local go_sem ↓] Go.wp_at_zero Go.wp_at_succ run_eql_V run_neq_V

theorem vs_blockK {w : World} {g : Nat} {e : TypeId} {l : List V} (h : Blk w g e (l.flatMap V.cells).toArray) : VS w w.heap.size (some ⟨g, 0, none⟩) l := by
  intro _
  refine ⟨g, 0, rfl, h.lt, fun i v hv => ?_⟩
  have key : ∀ j u, j < 3 → v.cells[j]? = some u → w.cell? ⟨g, 0 + i * 3 + j, none⟩ = some u := by
    intro j u hj hu
    rw [h.cell, List.getElem?_toArray, Nat.zero_add, cells_at l i j v hv hj]
    exact hu
  exact ⟨key 0 _ (by omega) rfl, key 1 _ (by omega) rfl, key 2 _ (by omega) rfl⟩
def colK : List Col := [⟨[107], 1, true⟩]
/-- The table of the example. -/
def tbK : Tb := ⟨[116], colK, 0, [], [], .mk [] V.zero [] []⟩
def rowK (k : Int) : List V := [⟨1, k, []⟩]
theorem tbK_Q {g : Nat} {W : World} {Q : Nat → Prop} (hk : Blk W g 77 #[.string ⟨#[107]⟩, .int .i64 1, .bool true]) (hQ : Q g) : TbQ 1000 tbK ⟨⟨some ⟨g, 0, none⟩, 1⟩, ⟨none, 0⟩, ⟨none, 0⟩, ⟨none, 0⟩⟩ Q W := by
  refine ⟨fun _ => ⟨g, 0, rfl, hQ, ?_⟩, IQ.nil, FQ.nil, 1, ExQ.nil 1⟩
  obtain ⟨b, off, e, _, h⟩ := col_block (l := colK) hk (by decide)
  cases e
  exact h
set_option maxRecDepth 100000 in
set_option maxHeartbeats 4000000 in
theorem some_any (ks : List Int) (A : Option Addr) (c : Nat) (w : World) (hl : ks.length ≤ 200) (hk : IQ ks A (Old w.heap.size) w) : Calls Tryz.prog 29 #[.slice A ks.length c] w (RetRl ⟨tbK, ks.map rowK⟩ w) := by
  obtain ⟨i0, hi0, zi0, zi1, zi2⟩ := info_parts infoR
  obtain ⟨w0, hw0⟩ : ∃ w0, w.alloc (.cells #[.string ⟨#[]⟩, .slice none 0 0, .int .i64 0, .slice none 0 0, .slice none 0 0, .string ⟨#[]⟩, .int .i64 0, .int .i64 0, .string ⟨#[]⟩, .string ⟨#[]⟩, .slice none 0 0, .slice none 0 0] 34) = w0 := ⟨_, rfl⟩
  have hz0 : w0.heap.size = w.heap.size + 1 := by rw [← hw0]; simp
  have kr0 : Blk w0 w.heap.size 34 #[.string ⟨#[]⟩, .slice none 0 0, .int .i64 0, .slice none 0 0, .slice none 0 0, .string ⟨#[]⟩, .int .i64 0, .int .i64 0, .string ⟨#[]⟩, .string ⟨#[]⟩, .slice none 0 0, .slice none 0 0] := by rw [← hw0]; exact Blk.new _ _ _
  have hb0 : Below w.heap.size w w0 := by rw [← hw0]; exact bl
  obtain ⟨W1, hW1⟩ : ∃ W1, (w0.alloc (.cells #[.string ⟨#[107]⟩, .int .i64 1, .bool true] 77)).alloc (.cells #[.string ⟨#[116]⟩, .slice (some ⟨w0.heap.size, 0, none⟩) 1 1, .int .i64 0, .slice none 0 0, .slice none 0 0, .string ⟨#[]⟩, .int .i64 0, .int .i64 0, .string ⟨#[]⟩, .string ⟨#[]⟩, .slice none 0 0, .slice none 0 0] 34) = W1 := ⟨_, rfl⟩
  have kc1 : Blk W1 w0.heap.size 77 #[.string ⟨#[107]⟩, .int .i64 1, .bool true] := by rw [← hW1]; exact (Blk.new _ _ _).alloc _
  have ky1 : Blk W1 (w0.heap.size + 1) 34 #[.string ⟨#[116]⟩, .slice (some ⟨w0.heap.size, 0, none⟩) 1 1, .int .i64 0, .slice none 0 0, .slice none 0 0, .string ⟨#[]⟩, .int .i64 0, .int .i64 0, .string ⟨#[]⟩, .string ⟨#[]⟩, .slice none 0 0, .slice none 0 0] := by rw [← hW1]; exact Blk.new' _ _ _ _ (by simp)
  have hb01 : Below w0.heap.size w0 W1 := by rw [← hW1]; exact bl
  have hz1 : W1.heap.size = w0.heap.size + 2 := by rw [← hW1]; simp
  have hbw1 : Below w.heap.size w W1 := hb0.trans (hb01.mono hb0.size)
  have HKS : Hid (∀ Y : World, Below w.heap.size w Y → IQ ks A (Old w.heap.size) Y) := fun Y h => hk.keep (fun b hb => ⟨hb, fun o => h.cell (p := ⟨b, o, none⟩) hb⟩)
  have HW0 := Lib.hid hw0
  have HW1 := Lib.hid hW1
  have kr1 := kr0.below hb01 kr0.lt
  have HZ0 := Lib.hid hz0
  have HZ1 := Lib.hid hz1
  clear hw0 hW1 hk hz0 hz1
  go_enter Tryz.func29, Tryz.ntmps29
  go_upto_region 1 with fail
  rw [HW0.out]
  clear HW0 kr0
  go_upto_region 2 with fail
  rw [HW1.out]
  clear HW1
  obtain ⟨gc, hgc⟩ : ∃ g, w0.heap.size = g := ⟨_, rfl⟩
  rw [hgc] at kc1 ky1
  rw [hgc]
  have hz0 := HZ0.out
  have hz1 := HZ1.out
  have hgz : gc + 2 ≤ W1.heap.size := by omega
  have hgz' : W1.heap.size ≤ gc + 2 := by omega
  have hgw : w.heap.size < gc := by omega
  have hgw0 : w0.heap.size ≤ gc := by omega
  clear hz0 hz1 hgc
  go_upto_block 0 with fail
  go_cut [4] from 9 to 25 (fun _ wx => ∃ v : Value, Blk wx (gc + 1) 34 #[.string ⟨#[116]⟩, .slice (some ⟨gc, 0, none⟩) 1 1, .int .i64 0, .slice none 0 0, .slice none 0 0, .string ⟨#[]⟩, .int .i64 0, .int .i64 0, .string ⟨#[]⟩, .string ⟨#[]⟩, .slice none 0 0, v] ∧ RowsOwn wx 43 W1.heap.size v (ks.map rowK) ∧ But (gc + 1) W1 wx)
  case first =>
    go_wp2_with fail
    go_loopw [4] (fun i wr => ∃ (j N : Nat) (v : Value) (L : List (List V)), j ≤ ks.length ∧ N ≤ 200 ∧ i = .int .i64 j ∧ Hid (N = j) ∧ Hid (L = (ks.take j).map rowK) ∧ Blk wr (gc + 1) 34 #[.string ⟨#[116]⟩, .slice (some ⟨gc, 0, none⟩) 1 1, .int .i64 0, .slice none 0 0, .slice none 0 0, .string ⟨#[]⟩, .int .i64 0, .int .i64 0, .string ⟨#[]⟩, .string ⟨#[]⟩, .slice none 0 0, v] ∧ RowsOwn wr 43 W1.heap.size v L ∧ But (gc + 1) W1 wr) (fun i _ => ks.length - (intOf i).toNat)
    case atStart => exact ⟨0, 0, .slice none 0 0, [], by omega, by omega, rfl, rfl, rfl, ky1, RowsOwn.nil, But.refl _ _⟩
    case round =>
      obtain ⟨j, N, v, L, hj1, hN200, rfl, HN, HL, hk, hro, hbut⟩ := hrel
      have hb0r : Below w0.heap.size w0 wr := But.inside hb01 (by omega) hbut
      have hbwr : Below w.heap.size w wr := hb0.trans (hb0r.mono hb0.size)
      have hzr := hbut.size
      have lkr := hk.lt
      by_cases hlt : j < ks.length
      · obtain ⟨b, off, k, rfl, hbB, hv, ck⟩ := (HKS.out wr hbwr).at_ hlt
        have hbB' : b < w.heap.size := hbB
        have HTK : Hid ((ks.take (j + 1)).map rowK = (ks.take j).map rowK ++ [rowK k]) := by show _ = _; rw [List.take_add_one, hv]; simp
        have i1 : (0 : Int) ≤ (j : Int) := by omega
        have i2 : (j : Int) < (ks.length : Int) := by omega
        obtain ⟨W, rfl⟩ : ∃ W, W = wr := ⟨_, rfl⟩
        have x4 : W.cell? ⟨gc + 1, 11, none⟩ = some v := hk.cell 11
        obtain ⟨recs, hrl1, hown, hrec⟩ := hro
        have HOL := Lib.hid hown.lt
        have hLN : L.length = N := by rw [HL.out, HN.out, List.length_map, List.length_take]; omega
        rw [hLN] at hown
        have HLN := Lib.hid hLN.symm
        have HRL := Lib.hid hrl1
        obtain ⟨w7, hw7⟩ : ∃ w7, W.alloc (.cells #[.int .i64 1, .int .i64 k, .string ⟨#[]⟩] 26) = w7 := ⟨_, rfl⟩
        have hbW7 : Below W.heap.size W w7 := by rw [← hw7]; exact bl
        have kV7 : Blk w7 W.heap.size 26 #[.int .i64 1, .int .i64 k, .string ⟨#[]⟩] := by rw [← hw7]; exact Blk.new _ _ _
        have hz7' : w7.heap.size = W.heap.size + 1 := by rw [← hw7]; simp
        have hz7 : W.heap.size + 1 ≤ w7.heap.size := by omega
        have hown7 := own_below hown hbW7
        have HREC : Hid (∀ q ∈ recs, WQ q.r q.s.a (fun b => W1.heap.size ≤ b ∧ b < w7.heap.size ∧ some b ≠ v.ownBlock) w7) := fun q hq => (hrec q hq).keep fun b hb' => ⟨⟨hb'.1, Nat.lt_of_lt_of_le hb'.2.1 hbW7.size, hb'.2.2⟩, fun o => hbW7.cell (p := ⟨b, o, none⟩) hb'.2.1⟩
        have HV5 : Hid (WQ (rowK k) (some ⟨W.heap.size, 0, none⟩) (fun b => W1.heap.size ≤ b ∧ b < w7.heap.size ∧ some b ≠ v.ownBlock) w7) := fun _ => by
          obtain ⟨b', off', e, _, h⟩ := vs_blockK (l := rowK k) kV7 (by simp [rowK])
          cases e
          exact ⟨W.heap.size, 0, rfl, ⟨hzr, by omega, fun e1 => by have := (HOL.out _ e1.symm).2; omega⟩, h⟩
        have HNEW : Hid (∀ j x, ([.slice (some ⟨W.heap.size, 0, none⟩) 1 1] : List Value)[j]? = some x → (w7.alloc (.cells #[.slice (some ⟨W.heap.size, 0, none⟩) 1 1] 43)).cell? ((⟨w7.heap.size, 0, none⟩ : Addr).add j) = some x) := World.news_of_block (cs := #[.slice (some ⟨W.heap.size, 0, none⟩) 1 1]) (t := 43) (fr := (0, 0)) (heap_alloc_new w7 _)
        have HOW7 : Hid ((w7.alloc (.cells #[.slice (some ⟨W.heap.size, 0, none⟩) 1 1] 43)).ownsRow W1.heap.size 43 1 v N (recs.map Rc.cell)) := hown7.alloc _
        have hk7 := hk.below hbW7 lkr
        have hd : W.drew.heap.size = W.heap.size := rfl
        rw [hz7'] at HNEW
        have lg7 : gc + 1 < w7.heap.size := by omega
        have hbut7 := hbut.after hbW7
        have lW : w0.heap.size ≤ W.heap.size := hb0r.size
        have HSK : Hid (∀ w' : World, Below w0.heap.size W w' → w'.cell? ⟨b, off + j, none⟩ = some (.int .i64 k)) := fun w' h => (h.cell (p := ⟨b, off + j, none⟩) (show b < _ by have := hb0.size; omega)).trans ck
        have hbw7 : Below w0.heap.size W w7 := hbW7.mono hb0r.size
        have HZ7 := Lib.hid hz7'
        subst hw7
        have x4b : (W.alloc (.cells #[.int .i64 1, .int .i64 k, .string ⟨#[]⟩] 26)).cell? ⟨gc + 1, 11, none⟩ = some v := hk7.cell 11
        have x4c : ((W.alloc (.cells #[.int .i64 1, .int .i64 k, .string ⟨#[]⟩] 26)).alloc (.cells #[.slice (some ⟨W.heap.size, 0, none⟩) 1 1] 43)).cell? ⟨gc + 1, 11, none⟩ = some v := (hk7.alloc _).cell 11
        clear hv hown hrec hrl1 hLN hz7' hown7 kV7 hk kc1 kr1
        go_wp2_with fail
        refine wp_region_held_drew (S := (fun w' => w'.cell? ⟨b, off + j, none⟩ = some (.int .i64 k))) (by kernel_rfl) ?_ (fun hHeld => ?_)
        · try dsimp only
          exact HSK.out _ (by exact bl)
        refine wpAnyT_start [0, 2, 3, 4, 5, 6] ?_
        iterate 6
          refine wpAnyT_cons (v := ?_) rfl (by kernel_rfl) (by kernel_rfl) (by kernel_rfl) (fun _ _ _ h => h) (Or.inl ⟨by rfl, ?_⟩) (by assumption) ?_
          rotate_left
          · intro wq hSw
            try dsimp only at hSw
            go_simp
            try with_reducible rfl
          try simp only [Act.put, List.getElem_toArray, List.getElem_cons_zero, List.getElem_cons_succ, List.setIfInBounds_toArray, List.set_cons_zero, List.set_cons_succ]
        refine wpAnyT_nil ?_
        refine wpAnyH_ready (rs := [1, 7]) (by kernel_rfl) (by simp) ?_
        refine (AllReadyH.cons rfl (fun K hK => ?_) (AllReadyH.cons rfl (fun K hK => ?_) AllReadyH.nil))
        · skip
          go_simp
          skip
          go_wp2_with fail
          refine hK.out _ _ ?_ (fun hHeld => ?_)
          · try dsimp only
            exact HSK.out _ (by exact bl)
          clear hK K
          try simp only [Act.put, List.getElem_toArray, List.getElem_cons_zero, List.getElem_cons_succ, List.setIfInBounds_toArray, List.set_cons_zero, List.set_cons_succ]
          refine wpAnyH_ready (rs := [7]) (by kernel_rfl) (by simp) ?_
          refine AllReadyH.cons rfl (fun K hK => ?_) AllReadyH.nil
          go_simp
          skip
          go_wp2_with fail
          refine hK.out _ _ ?_ (fun hHeld => ?_)
          · try dsimp only
            exact HSK.out _ (by exact bl)
          clear hK K
          try simp only [Act.put, List.getElem_toArray, List.getElem_cons_zero, List.getElem_cons_succ, List.setIfInBounds_toArray, List.set_cons_zero, List.set_cons_succ]
          refine wpAnyH_ready (rs := [8]) (by kernel_rfl) (by simp) ?_
          refine AllReadyH.cons rfl (fun K hK => ?_) AllReadyH.nil
          go_simp
          skip
          go_wp2_with fail
          refine hK.out _ _ ?_ (fun hHeld => ?_)
          · try dsimp only
            exact HSK.out _ (by exact bl)
          clear hK K
          try simp only [Act.put, List.getElem_toArray, List.getElem_cons_zero, List.getElem_cons_succ, List.setIfInBounds_toArray, List.set_cons_zero, List.set_cons_succ]
          refine wpAnyH_ready (rs := [9]) (by kernel_rfl) (by simp) ?_
          refine AllReadyH.cons rfl (fun K hK => ?_) AllReadyH.nil
          refine step_append_lies _ rfl (.tmp 16) (.tmp 23) 32 rfl W1.heap.size 43 i0 _ 1 24 Tryz.underlying32 hi0 zi0 zi1 zi2 rfl (by decide) v N (recs.map Rc.cell) (by simp [Act.eval]) HOW7.out ⟨W.heap.size + 1, 0, none⟩ 1 1 [.slice (some ⟨W.heap.size, 0, none⟩) 1 1] (by simp [Act.eval]) rfl HNEW.out (by simp [Value.oneCell']) (by omega) (by unfold maxLen; omega) (by omega) (by simp; omega) _ rfl ?_; intro g5 cap w5 hown5 hg5 hor5 hl5; have hg5 : ((W.alloc (.cells #[.int .i64 1, .int .i64 k, .string ⟨#[]⟩] 26)).alloc (.cells #[.slice (some ⟨W.heap.size, 0, none⟩) 1 1] 43)).grownBy w5 v.ownBlock := ⟨hg5.1, hg5.2, hg5.3, hg5.4, hg5.5⟩; have hk5 := (hk7.alloc (.cells #[.slice (some ⟨W.heap.size, 0, none⟩) 1 1] 43)).grown hg5 (fun e => (by have := (HOL.out _ e.symm).1; omega)); have hfr5 := hk5.frozen 11; have hcl5 : w5.cell? ⟨gc + 1, 11, none⟩ = some v := hk5.cell 11; have hbw5 : Below w0.heap.size W w5 := (hbw7.alloc (by simp; omega) _).grown hg5 (by simp; omega) (fun k hk => by have := (HOL.out k hk).1; omega); have HST := Lib.hid (RowsOwn.step (w := (W.alloc (.cells #[.int .i64 1, .int .i64 k, .string ⟨#[]⟩] 26))) (l := L) HRL.out HREC.out HV5.out HLN.out hown5 ((Below.refl _ _).alloc (Nat.le_refl _) _) hg5 (by simpa using hor5))
          refine hK.out _ _ ?_ (fun hHeld => ?_)
          · try dsimp only
            exact HSK.out _ (by exact bl)
          clear hK K
          try simp only [Act.put, List.getElem_toArray, List.getElem_cons_zero, List.getElem_cons_succ, List.setIfInBounds_toArray, List.set_cons_zero, List.set_cons_succ]
          refine wpAnyH_take (i := 10) (v := ?_) rfl (by kernel_rfl) (by kernel_rfl) (by kernel_rfl) (fun _ _ _ h => h) (Or.inl ⟨by rfl, ?_⟩) (by assumption) ?_
          rotate_left
          · intro wq hSw
            try dsimp only at hSw
            go_simp
            try with_reducible rfl
          try simp only [Act.put, List.getElem_toArray, List.getElem_cons_zero, List.getElem_cons_succ, List.setIfInBounds_toArray, List.set_cons_zero, List.set_cons_succ]
          refine wpAnyH_ready (rs := [11]) (by kernel_rfl) (by simp) ?_
          refine AllReadyH.cons rfl (fun K hK => ?_) AllReadyH.nil
          go_simp
          skip
          go_wp2_with fail
          refine hK.out _ _ ?_ (fun hHeld => ?_)
          · try dsimp only
            exact HSK.out _ (by exact bl)
          clear hK K
          try simp only [Act.put, List.getElem_toArray, List.getElem_cons_zero, List.getElem_cons_succ, List.setIfInBounds_toArray, List.set_cons_zero, List.set_cons_succ]
          refine wpAnyH_done (by kernel_rfl) ?_ _
          go_wp2_with fail
          go_roundw
          case rel =>
            refine ⟨j + 1, N + 1, .slice (some ⟨g5, 0, none⟩) (N + 1) cap, L ++ [rowK k], by omega, by have := HN.out; omega, by go_num, by rw [HN.out]; rfl, by rw [HL.out, HTK.out]; rfl, by simpa using hk5.set_ 11 (.slice (some ⟨g5, 0, none⟩) (N + 1) cap), ?_, ?_⟩
            · exact HST.out.but ((But.refl (gc + 1) w5).set 11 _) (by omega)
            · exact ((hbut7.alloc _).grown hg5 (fun k hk => (HOL.out k hk).1)).set 11 _
          case measure => simp [intOf]; omega
        · skip
          go_simp
          skip
          go_wp2_with fail
          refine hK.out _ _ ?_ (fun hHeld => ?_)
          · try dsimp only
            exact HSK.out _ (by exact bl)
          clear hK K
          try simp only [Act.put, List.getElem_toArray, List.getElem_cons_zero, List.getElem_cons_succ, List.setIfInBounds_toArray, List.set_cons_zero, List.set_cons_succ]
          refine wpAnyH_ready (rs := [1, 8]) (by kernel_rfl) (by simp) ?_
          refine (AllReadyH.cons rfl (fun K hK => ?_) (AllReadyH.cons rfl (fun K hK => ?_) AllReadyH.nil))
          · skip
            go_simp
            skip
            go_wp2_with fail
            refine hK.out _ _ ?_ (fun hHeld => ?_)
            · try dsimp only
              exact HSK.out _ (by exact bl)
            clear hK K
            try simp only [Act.put, List.getElem_toArray, List.getElem_cons_zero, List.getElem_cons_succ, List.setIfInBounds_toArray, List.set_cons_zero, List.set_cons_succ]
            refine wpAnyH_ready (rs := [8]) (by kernel_rfl) (by simp) ?_
            refine AllReadyH.cons rfl (fun K hK => ?_) AllReadyH.nil
            go_simp
            skip
            go_wp2_with fail
            refine hK.out _ _ ?_ (fun hHeld => ?_)
            · try dsimp only
              exact HSK.out _ (by exact bl)
            clear hK K
            try simp only [Act.put, List.getElem_toArray, List.getElem_cons_zero, List.getElem_cons_succ, List.setIfInBounds_toArray, List.set_cons_zero, List.set_cons_succ]
            refine wpAnyH_ready (rs := [9]) (by kernel_rfl) (by simp) ?_
            refine AllReadyH.cons rfl (fun K hK => ?_) AllReadyH.nil
            refine step_append_lies _ rfl (.tmp 16) (.tmp 23) 32 rfl W1.heap.size 43 i0 _ 1 24 Tryz.underlying32 hi0 zi0 zi1 zi2 rfl (by decide) v N (recs.map Rc.cell) (by simp [Act.eval]) HOW7.out ⟨W.heap.size + 1, 0, none⟩ 1 1 [.slice (some ⟨W.heap.size, 0, none⟩) 1 1] (by simp [Act.eval]) rfl HNEW.out (by simp [Value.oneCell']) (by omega) (by unfold maxLen; omega) (by omega) (by simp; omega) _ rfl ?_; intro g5 cap w5 hown5 hg5 hor5 hl5; have hg5 : ((W.alloc (.cells #[.int .i64 1, .int .i64 k, .string ⟨#[]⟩] 26)).alloc (.cells #[.slice (some ⟨W.heap.size, 0, none⟩) 1 1] 43)).grownBy w5 v.ownBlock := ⟨hg5.1, hg5.2, hg5.3, hg5.4, hg5.5⟩; have hk5 := (hk7.alloc (.cells #[.slice (some ⟨W.heap.size, 0, none⟩) 1 1] 43)).grown hg5 (fun e => (by have := (HOL.out _ e.symm).1; omega)); have hfr5 := hk5.frozen 11; have hcl5 : w5.cell? ⟨gc + 1, 11, none⟩ = some v := hk5.cell 11; have hbw5 : Below w0.heap.size W w5 := (hbw7.alloc (by simp; omega) _).grown hg5 (by simp; omega) (fun k hk => by have := (HOL.out k hk).1; omega); have HST := Lib.hid (RowsOwn.step (w := (W.alloc (.cells #[.int .i64 1, .int .i64 k, .string ⟨#[]⟩] 26))) (l := L) HRL.out HREC.out HV5.out HLN.out hown5 ((Below.refl _ _).alloc (Nat.le_refl _) _) hg5 (by simpa using hor5))
            refine hK.out _ _ ?_ (fun hHeld => ?_)
            · try dsimp only
              exact HSK.out _ (by exact bl)
            clear hK K
            try simp only [Act.put, List.getElem_toArray, List.getElem_cons_zero, List.getElem_cons_succ, List.setIfInBounds_toArray, List.set_cons_zero, List.set_cons_succ]
            refine wpAnyH_take (i := 10) (v := ?_) rfl (by kernel_rfl) (by kernel_rfl) (by kernel_rfl) (fun _ _ _ h => h) (Or.inl ⟨by rfl, ?_⟩) (by assumption) ?_
            rotate_left
            · intro wq hSw
              try dsimp only at hSw
              go_simp
              try with_reducible rfl
            try simp only [Act.put, List.getElem_toArray, List.getElem_cons_zero, List.getElem_cons_succ, List.setIfInBounds_toArray, List.set_cons_zero, List.set_cons_succ]
            refine wpAnyH_ready (rs := [11]) (by kernel_rfl) (by simp) ?_
            refine AllReadyH.cons rfl (fun K hK => ?_) AllReadyH.nil
            go_simp
            skip
            go_wp2_with fail
            refine hK.out _ _ ?_ (fun hHeld => ?_)
            · try dsimp only
              exact HSK.out _ (by exact bl)
            clear hK K
            try simp only [Act.put, List.getElem_toArray, List.getElem_cons_zero, List.getElem_cons_succ, List.setIfInBounds_toArray, List.set_cons_zero, List.set_cons_succ]
            refine wpAnyH_done (by kernel_rfl) ?_ _
            go_wp2_with fail
            go_roundw
            case rel =>
              refine ⟨j + 1, N + 1, .slice (some ⟨g5, 0, none⟩) (N + 1) cap, L ++ [rowK k], by omega, by have := HN.out; omega, by go_num, by rw [HN.out]; rfl, by rw [HL.out, HTK.out]; rfl, by simpa using hk5.set_ 11 (.slice (some ⟨g5, 0, none⟩) (N + 1) cap), ?_, ?_⟩
              · exact HST.out.but ((But.refl (gc + 1) w5).set 11 _) (by omega)
              · exact ((hbut7.alloc _).grown hg5 (fun k hk => (HOL.out k hk).1)).set 11 _
            case measure => simp [intOf]; omega
          · skip
            go_simp
            skip
            go_wp2_with fail
            refine hK.out _ _ ?_ (fun hHeld => ?_)
            · try dsimp only
              exact HSK.out _ (by exact bl)
            clear hK K
            try simp only [Act.put, List.getElem_toArray, List.getElem_cons_zero, List.getElem_cons_succ, List.setIfInBounds_toArray, List.set_cons_zero, List.set_cons_succ]
            refine wpAnyH_ready (rs := [1]) (by kernel_rfl) (by simp) ?_
            refine AllReadyH.cons rfl (fun K hK => ?_) AllReadyH.nil
            go_simp
            skip
            go_wp2_with fail
            refine hK.out _ _ ?_ (fun hHeld => ?_)
            · try dsimp only
              exact HSK.out _ (by exact bl)
            clear hK K
            try simp only [Act.put, List.getElem_toArray, List.getElem_cons_zero, List.getElem_cons_succ, List.setIfInBounds_toArray, List.set_cons_zero, List.set_cons_succ]
            refine wpAnyH_ready (rs := [9]) (by kernel_rfl) (by simp) ?_
            refine AllReadyH.cons rfl (fun K hK => ?_) AllReadyH.nil
            refine step_append_lies _ rfl (.tmp 16) (.tmp 23) 32 rfl W1.heap.size 43 i0 _ 1 24 Tryz.underlying32 hi0 zi0 zi1 zi2 rfl (by decide) v N (recs.map Rc.cell) (by simp [Act.eval]) HOW7.out ⟨W.heap.size + 1, 0, none⟩ 1 1 [.slice (some ⟨W.heap.size, 0, none⟩) 1 1] (by simp [Act.eval]) rfl HNEW.out (by simp [Value.oneCell']) (by omega) (by unfold maxLen; omega) (by omega) (by simp; omega) _ rfl ?_; intro g5 cap w5 hown5 hg5 hor5 hl5; have hg5 : ((W.alloc (.cells #[.int .i64 1, .int .i64 k, .string ⟨#[]⟩] 26)).alloc (.cells #[.slice (some ⟨W.heap.size, 0, none⟩) 1 1] 43)).grownBy w5 v.ownBlock := ⟨hg5.1, hg5.2, hg5.3, hg5.4, hg5.5⟩; have hk5 := (hk7.alloc (.cells #[.slice (some ⟨W.heap.size, 0, none⟩) 1 1] 43)).grown hg5 (fun e => (by have := (HOL.out _ e.symm).1; omega)); have hfr5 := hk5.frozen 11; have hcl5 : w5.cell? ⟨gc + 1, 11, none⟩ = some v := hk5.cell 11; have hbw5 : Below w0.heap.size W w5 := (hbw7.alloc (by simp; omega) _).grown hg5 (by simp; omega) (fun k hk => by have := (HOL.out k hk).1; omega); have HST := Lib.hid (RowsOwn.step (w := (W.alloc (.cells #[.int .i64 1, .int .i64 k, .string ⟨#[]⟩] 26))) (l := L) HRL.out HREC.out HV5.out HLN.out hown5 ((Below.refl _ _).alloc (Nat.le_refl _) _) hg5 (by simpa using hor5))
            refine hK.out _ _ ?_ (fun hHeld => ?_)
            · try dsimp only
              exact HSK.out _ (by exact bl)
            clear hK K
            try simp only [Act.put, List.getElem_toArray, List.getElem_cons_zero, List.getElem_cons_succ, List.setIfInBounds_toArray, List.set_cons_zero, List.set_cons_succ]
            refine wpAnyH_take (i := 10) (v := ?_) rfl (by kernel_rfl) (by kernel_rfl) (by kernel_rfl) (fun _ _ _ h => h) (Or.inl ⟨by rfl, ?_⟩) (by assumption) ?_
            rotate_left
            · intro wq hSw
              try dsimp only at hSw
              go_simp
              try with_reducible rfl
            try simp only [Act.put, List.getElem_toArray, List.getElem_cons_zero, List.getElem_cons_succ, List.setIfInBounds_toArray, List.set_cons_zero, List.set_cons_succ]
            refine wpAnyH_ready (rs := [11]) (by kernel_rfl) (by simp) ?_
            refine AllReadyH.cons rfl (fun K hK => ?_) AllReadyH.nil
            go_simp
            skip
            go_wp2_with fail
            refine hK.out _ _ ?_ (fun hHeld => ?_)
            · try dsimp only
              exact HSK.out _ (by exact bl)
            clear hK K
            try simp only [Act.put, List.getElem_toArray, List.getElem_cons_zero, List.getElem_cons_succ, List.setIfInBounds_toArray, List.set_cons_zero, List.set_cons_succ]
            refine wpAnyH_done (by kernel_rfl) ?_ _
            go_wp2_with fail
            go_roundw
            case rel =>
              refine ⟨j + 1, N + 1, .slice (some ⟨g5, 0, none⟩) (N + 1) cap, L ++ [rowK k], by omega, by have := HN.out; omega, by go_num, by rw [HN.out]; rfl, by rw [HL.out, HTK.out]; rfl, by simpa using hk5.set_ 11 (.slice (some ⟨g5, 0, none⟩) (N + 1) cap), ?_, ?_⟩
              · exact HST.out.but ((But.refl (gc + 1) w5).set 11 _) (by omega)
              · exact ((hbut7.alloc _).grown hg5 (fun k hk => (HOL.out k hk).1)).set 11 _
            case measure => simp [intOf]; omega
      · obtain rfl : j = ks.length := by omega
        have b0 : ¬ ((ks.length : Int) < (ks.length : Int)) := by omega
        have hL : L = ks.map rowK := by rw [HL.out, List.take_length]
        rw [hL] at hro
        have HEX := Lib.hid hro
        clear hro hL HL
        go_wp2_with fail
        go_meet
        exact ⟨v, hk, HEX.out, hbut⟩
  obtain ⟨vR, hk3, hro3, hbut3⟩ := hcut
  obtain ⟨W3, rfl⟩ : ∃ W, W = wc := ⟨_, rfl⟩
  have hz3 := hbut3.size
  obtain ⟨LL, hLL⟩ : ∃ L, ks.map rowK = L := ⟨_, rfl⟩
  rw [hLL] at hro3
  obtain ⟨AR, cR, rfl, hcR1, hcR2, hRQ⟩ := hro3.out
  have hb03 : Below w0.heap.size w0 W3 := But.inside hb01 (by omega) hbut3
  have HBW3 : Hid (Below w.heap.size w W3) := hb0.trans (hb03.mono hb0.size)
  have kr3 := hbut3.blk kr1 (by omega)
  have kc3 := hbut3.blk kc1 (by omega)
  have lk3 := hk3.lt
  have lr3 := kr3.lt
  have HTQ3 : Hid (TbQ 1000 tbK ⟨⟨some ⟨gc, 0, none⟩, 1⟩, ⟨none, 0⟩, ⟨none, 0⟩, ⟨none, 0⟩⟩ (fun b => w.heap.size < b ∧ b < W3.heap.size) W3) := tbK_Q kc3 ⟨by omega, by omega⟩
  have HRQ3 : Hid (RQ LL AR (fun b => w.heap.size < b ∧ b < W3.heap.size) W3) := hRQ.keep fun b hb => ⟨⟨by omega, hb.2⟩, fun _ => rfl⟩
  have e0 : W3.cell? ⟨gc + 1, 0, none⟩ = some (.string ⟨#[116]⟩) := hk3.cell 0
  have e1 : W3.cell? ⟨gc + 1, 1, none⟩ = some (.slice (some ⟨gc, 0, none⟩) 1 1) := hk3.cell 1
  have e2 : W3.cell? ⟨gc + 1, 2, none⟩ = some (.int .i64 0) := hk3.cell 2
  have e3 : W3.cell? ⟨gc + 1, 3, none⟩ = some (.slice none 0 0) := hk3.cell 3
  have e4 : W3.cell? ⟨gc + 1, 4, none⟩ = some (.slice none 0 0) := hk3.cell 4
  have e5 : W3.cell? ⟨gc + 1, 5, none⟩ = some (.string ⟨#[]⟩) := hk3.cell 5
  have e6 : W3.cell? ⟨gc + 1, 6, none⟩ = some (.int .i64 0) := hk3.cell 6
  have e7 : W3.cell? ⟨gc + 1, 7, none⟩ = some (.int .i64 0) := hk3.cell 7
  have e8 : W3.cell? ⟨gc + 1, 8, none⟩ = some (.string ⟨#[]⟩) := hk3.cell 8
  have e9 : W3.cell? ⟨gc + 1, 9, none⟩ = some (.string ⟨#[]⟩) := hk3.cell 9
  have e10 : W3.cell? ⟨gc + 1, 10, none⟩ = some (.slice none 0 0) := hk3.cell 10
  have e11 : W3.cell? ⟨gc + 1, 11, none⟩ = some (.slice AR LL.length cR) := hk3.cell 11
  have r0 : W3.cell? ⟨w.heap.size, 0, none⟩ = some (.string ⟨#[]⟩) := kr3.cell 0
  have f0 := kr3.frozen 0
  have r1 : W3.cell? ⟨w.heap.size, 1, none⟩ = some (.slice none 0 0) := kr3.cell 1
  have f1 := kr3.frozen 1
  have r2 : W3.cell? ⟨w.heap.size, 2, none⟩ = some (.int .i64 0) := kr3.cell 2
  have f2 := kr3.frozen 2
  have r3 : W3.cell? ⟨w.heap.size, 3, none⟩ = some (.slice none 0 0) := kr3.cell 3
  have f3 := kr3.frozen 3
  have r4 : W3.cell? ⟨w.heap.size, 4, none⟩ = some (.slice none 0 0) := kr3.cell 4
  have f4 := kr3.frozen 4
  have r5 : W3.cell? ⟨w.heap.size, 5, none⟩ = some (.string ⟨#[]⟩) := kr3.cell 5
  have f5 := kr3.frozen 5
  have r6 : W3.cell? ⟨w.heap.size, 6, none⟩ = some (.int .i64 0) := kr3.cell 6
  have f6 := kr3.frozen 6
  have r7 : W3.cell? ⟨w.heap.size, 7, none⟩ = some (.int .i64 0) := kr3.cell 7
  have f7 := kr3.frozen 7
  have r8 : W3.cell? ⟨w.heap.size, 8, none⟩ = some (.string ⟨#[]⟩) := kr3.cell 8
  have f8 := kr3.frozen 8
  have r9 : W3.cell? ⟨w.heap.size, 9, none⟩ = some (.string ⟨#[]⟩) := kr3.cell 9
  have f9 := kr3.frozen 9
  have r10 : W3.cell? ⟨w.heap.size, 10, none⟩ = some (.slice none 0 0) := kr3.cell 10
  have f10 := kr3.frozen 10
  have r11 : W3.cell? ⟨w.heap.size, 11, none⟩ = some (.slice none 0 0) := kr3.cell 11
  have f11 := kr3.frozen 11
  clear hro3 hRQ hb03 hbut3
  have HLL := Lib.hid hLL
  clear hLL
  go_wp2_with fail
  refine bodyPost_ret (v := .agg #[.string ⟨#[116]⟩, .slice (some ⟨gc, 0, none⟩) 1 1, .int .i64 0, .slice none 0 0, .slice none 0 0, .string ⟨#[]⟩, .int .i64 0, .int .i64 0, .string ⟨#[]⟩, .string ⟨#[]⟩, .slice none 0 0, .slice AR LL.length cR]) (by simp [results, Tryz.results29, go_sem, *]) rfl ?_
  rw [HLL.out]
  exact few7_fin (T := tbK) (b1 := some ⟨gc, 0, none⟩) (l1 := 1) (b2 := none) (l2 := 0) (b3 := none) (l3 := 0) (b4 := none) (l4 := 0) HBW3.out (Nat.le_refl _) HTQ3.out HRQ3.out hcR1 hcR2

end Go.Proofs.YtdhjogmkhbpcgaaGreat

namespace Go.Proofs.YtdhjogmkhbpcgaaGreat
open Go.RowKit

theorem put12 {w : World} {r : Nat} {ty : TypeId} {v0 v1 v2 v3 v4 v5 v6 v7 v8 v9 v10 v11 u0 u1 u2 u3 u4 u5 u6 u7 u8 u9 u10 u11 : Value} (hk : Blk w r ty #[u0, u1, u2, u3, u4, u5, u6, u7, u8, u9, u10, u11]) : Blk ((((((((((((w.setCell ⟨r, 0, none⟩ (v0)).setCell ⟨r, 1, none⟩ (v1)).setCell ⟨r, 2, none⟩ (v2)).setCell ⟨r, 3, none⟩ (v3)).setCell ⟨r, 4, none⟩ (v4)).setCell ⟨r, 5, none⟩ (v5)).setCell ⟨r, 6, none⟩ (v6)).setCell ⟨r, 7, none⟩ (v7)).setCell ⟨r, 8, none⟩ (v8)).setCell ⟨r, 9, none⟩ (v9)).setCell ⟨r, 10, none⟩ (v10)).setCell ⟨r, 11, none⟩ (v11)) r ty #[v0, v1, v2, v3, v4, v5, v6, v7, v8, v9, v10, v11] ∧ But r w ((((((((((((w.setCell ⟨r, 0, none⟩ (v0)).setCell ⟨r, 1, none⟩ (v1)).setCell ⟨r, 2, none⟩ (v2)).setCell ⟨r, 3, none⟩ (v3)).setCell ⟨r, 4, none⟩ (v4)).setCell ⟨r, 5, none⟩ (v5)).setCell ⟨r, 6, none⟩ (v6)).setCell ⟨r, 7, none⟩ (v7)).setCell ⟨r, 8, none⟩ (v8)).setCell ⟨r, 9, none⟩ (v9)).setCell ⟨r, 10, none⟩ (v10)).setCell ⟨r, 11, none⟩ (v11)) :=
  ⟨by simpa using ((((((((((((hk.set_ 0 v0).set_ 1 v1).set_ 2 v2).set_ 3 v3).set_ 4 v4).set_ 5 v5).set_ 6 v6).set_ 7 v7).set_ 8 v8).set_ 9 v9).set_ 10 v10).set_ 11 v11), (((((((((((((But.refl r w).set 0 _).set 1 _).set 2 _).set 3 _).set 4 _).set 5 _).set 6 _).set 7 _).set 8 _).set 9 _).set 10 _).set 11 _)⟩
theorem few_small {x : Rl} (h : x.big) : x.few.small := by
  obtain ⟨_, _, _, _, _, _, _, _, _, hr⟩ := h
  refine ⟨?_, ?_, ?_⟩
  · have := fewCols_len x.t.cols
    show (fewCols x.t.cols).length ≤ 1000
    omega
  · show ((x.rows.take (if 200 < x.rows.length then 201 else 40)).map fewL).length ≤ 1000
    rw [List.length_map, List.length_take]
    split <;> omega
  · intro r hm
    have hm' : r ∈ (x.rows.take (if 200 < x.rows.length then 201 else 40)).map fewL := hm
    rw [List.mem_map] at hm'
    obtain ⟨s, hs, rfl⟩ := hm'
    have := hr s (List.mem_of_mem_take hs)
    refine ⟨by have := fewL_len s; omega, fewL_in s this.2⟩
theorem small_len {x : Rl} (h : x.small) : x.rows.length ≤ 1000000 ∧ ∀ r ∈ x.rows, r.length ≤ maxLen := ⟨by have := h.2.1; omega, fun r hr => by have := (h.2.2 r hr).1; unfold maxLen; omega⟩
/-- A table with rows in blocks that keep off one is kept as that one is written. -/
theorem RlQ.but {K : Nat} {x : Rl} {p : RlP} {w w' : World} {r lo : Nat} (h : RlQ K x p (fun b => lo ≤ b ∧ b < w.heap.size) w) (hb : But r w w') (hr : r < lo) : RlQ K x p (Old w'.heap.size) w' :=
  h.keep fun b hb' => ⟨by have := hb.size; show b < _; omega, fun o => hb.cell hb'.2 (by omega) o⟩
def exL (v : V) : Ex := .mk opLit v [] []
theorem exL_fit {v : V} (h : fitI v.i) (hs : v.s.length ≤ 1000) : (exL v).fit 1000 := ⟨h, by simp [exL, Ex.op, opLit], by simp [exL, Ex.s], hs⟩
theorem where_T (cols : List Col) (rows : List (List V)) : whereX cols rows (exL ⟨3, 1, []⟩) = (rows, 0) := by
  have h1 : typeX cols (exL ⟨3, 1, []⟩) = (3, 0) := by kernel_rfl
  have h2 : ∀ r, trueB cols (exL ⟨3, 1, []⟩) r = true := fun r => by kernel_rfl
  have h3 : rows.filter (trueB cols (exL ⟨3, 1, []⟩)) = rows := List.filter_eq_self.2 fun r _ => h2 r
  unfold whereX
  rw [h1, h3, if_neg (by decide)]
  simp
theorem where_F (cols : List Col) (rows : List (List V)) : whereX cols rows (exL ⟨3, 0, []⟩) = ([], 0) := by
  have h1 : typeX cols (exL ⟨3, 0, []⟩) = (3, 0) := by kernel_rfl
  have h2 : ∀ r, trueB cols (exL ⟨3, 0, []⟩) r = false := fun r => by kernel_rfl
  have h3 : rows.filter (trueB cols (exL ⟨3, 0, []⟩)) = [] := List.filter_eq_nil_iff.2 fun r _ => by rw [h2 r]; simp
  unfold whereX
  rw [h1, h3, if_neg (by decide)]
  simp
theorem where_0 (cols : List Col) (rows : List (List V)) : whereX cols rows (exL ⟨0, 0, []⟩) = ([], 0) := by
  have h1 : typeX cols (exL ⟨0, 0, []⟩) = (0, 0) := by kernel_rfl
  have h2 : ∀ r, trueB cols (exL ⟨0, 0, []⟩) r = false := fun r => by kernel_rfl
  have h3 : rows.filter (trueB cols (exL ⟨0, 0, []⟩)) = [] := List.filter_eq_nil_iff.2 fun r _ => by rw [h2 r]; simp
  unfold whereX
  rw [h1, h3, if_neg (by decide)]
  simp
theorem where_E (cols : List Col) (rows : List (List V)) : whereX cols rows (.mk [] ⟨0, 0, []⟩ [] []) = (rows, 0) := by
  unfold whereX
  simp [Ex.op]

end Go.Proofs.YtdhjogmkhbpcgaaGreat
