/- The document's Same of two expressions, Place and check, as plain functions. Condition: expressions and columns that read as such. The document's May of a table is the program's. Condition: a table that reads as one, of the sizes that are looked at. -/
import Derived.Test.YtdhjogmkhbpcgaaGreatTake
import Derived.Test.YtdhjogmkhbpcgaaGreatR4M
import Derived.Test.YtdhjogmkhbpcgaaGreatSchM
namespace Go.Proofs.YtdhjogmkhbpcgaaGreat
open Go.RowKit

attribute [local go_sem] ByteArray.extract_mk ba_get ba_append
attribute [local go_sem ↓] Go.wp_at_zero Go.wp_at_succ run_eql_V run_neq_V

/-- Are two expressions the same, so deep? -/
def sameE : Nat → Ex → Ex → Bool
  | n, a, b => (a.op == b.op) && ((veq a.v b.v) && ((a.s == b.s) && (decide (a.l.length = b.l.length) && match n with | 0 => true | n + 1 => (a.l.zip b.l).all fun p => sameE n p.1 p.2)))
/-- Are the parts the same? -/
def partsB : Nat → List (Ex × Ex) → Bool
  | 0, _ => true
  | n + 1, l => l.all fun p => sameE n p.1 p.2
theorem sameE_eq (n : Nat) (a b : Ex) : sameE n a b = ((a.op == b.op) && ((veq a.v b.v) && ((a.s == b.s) && (decide (a.l.length = b.l.length) && partsB n (a.l.zip b.l))))) := by
  cases n <;> (unfold sameE partsB; rfl)
theorem partsB_nil (n : Nat) : partsB n [] = true := by cases n <;> rfl
theorem sameE_0 (n : Nat) (e : Ex) : sameE n e ex0 = same0 e := by
  unfold sameE same0
  cases n <;> simp [ex0, Ex.op, Ex.v, Ex.s, Ex.l]
theorem sameE_self : ∀ (n : Nat) (e : Ex), sameE n e e = true
  | 0, e => by simp [sameE, veq]
  | n + 1, e => by
    rw [sameE]
    have h : (e.l.zip e.l).all (fun p => sameE n p.1 p.2) = true := by
      rw [List.all_eq_true]
      intro p hp
      have : p.1 = p.2 := by
        obtain ⟨i, hi, rfl⟩ := List.getElem_of_mem hp
        simp
      rw [this]
      exact sameE_self n p.2
    simp [h, veq]
set_option maxRecDepth 100000 in
set_option maxHeartbeats 8000000 in
theorem same4_step (n : Nat) (ih : ∀ m, n = m + 1 → ∀ (a b : Ex) (A B : Option Addr) (c d : Nat) (w : World), a.l.length ≤ maxLen → ExS 1000 m w w.heap.size A a.l → ExS 1000 m w w.heap.size B b.l →
      Calls Tryz.prog 60 #[.agg (a.cells A c).toArray, .agg (b.cells B d).toArray] w (Ret (.bool (sameE m a b)) w))
    (a b : Ex) (A B : Option Addr) (c d : Nat) (w : World) (hal : a.l.length ≤ maxLen) (hA : ExS 1000 n w w.heap.size A a.l) (hB : ExS 1000 n w w.heap.size B b.l) :
    Calls Tryz.prog 60 #[.agg (a.cells A c).toArray, .agg (b.cells B d).toArray] w (Ret (.bool (sameE n a b)) w) := by
  obtain ⟨w0, hw0⟩ : ∃ w0, (w.alloc (.cells (a.cells A c).toArray 29)).alloc (.cells (b.cells B d).toArray 29) = w0 := ⟨_, rfl⟩
  have ka0 : Blk w0 w.heap.size 29 (a.cells A c).toArray := by rw [← hw0]; exact (Blk.new _ _ _).alloc _
  have kb0 : Blk w0 (w.heap.size + 1) 29 (b.cells B d).toArray := by rw [← hw0]; exact Blk.new' _ _ _ _ (by simp)
  have hb0 : Below w.heap.size w w0 := by rw [← hw0]; exact bl
  have HSH : Hid (∀ w' : World, Below w0.heap.size w0 w' → (w'.cell? ⟨w.heap.size, 0, none⟩ = some (.string ⟨a.op.toArray⟩) ∧ w'.cell? ⟨w.heap.size, 1, none⟩ = some (.int .i64 a.v.k) ∧ w'.cell? ⟨w.heap.size, 2, none⟩ = some (.int .i64 a.v.i) ∧ w'.cell? ⟨w.heap.size, 3, none⟩ = some (.string ⟨a.v.s.toArray⟩) ∧ w'.cell? ⟨w.heap.size, 4, none⟩ = some (.string ⟨a.s.toArray⟩) ∧ w'.cell? ⟨w.heap.size, 5, none⟩ = some (.slice A a.l.length c) ∧ w'.cell? ⟨w.heap.size + 1, 0, none⟩ = some (.string ⟨b.op.toArray⟩) ∧ w'.cell? ⟨w.heap.size + 1, 1, none⟩ = some (.int .i64 b.v.k) ∧ w'.cell? ⟨w.heap.size + 1, 2, none⟩ = some (.int .i64 b.v.i) ∧ w'.cell? ⟨w.heap.size + 1, 3, none⟩ = some (.string ⟨b.v.s.toArray⟩) ∧ w'.cell? ⟨w.heap.size + 1, 4, none⟩ = some (.string ⟨b.s.toArray⟩) ∧ w'.cell? ⟨w.heap.size + 1, 5, none⟩ = some (.slice B b.l.length d))) := fun w' h => by
    obtain ⟨h0, h1, h2, h3, h4, h5⟩ := (ka0.below h ka0.lt).six
    obtain ⟨g0, g1, g2, g3, g4, g5⟩ := (kb0.below h kb0.lt).six
    exact ⟨h0, h1, h2, h3, h4, h5, g0, g1, g2, g3, g4, g5⟩
  have HA : Hid (∀ Y : World, Below w0.heap.size w0 Y → ExS 1000 n Y Y.heap.size A a.l) := fun Y h => ((hA.below n (hb0.trans (h.mono hb0.size)))).more (Nat.le_trans hb0.size h.size) n
  have HB : Hid (∀ Y : World, Below w0.heap.size w0 Y → ExS 1000 n Y Y.heap.size B b.l) := fun Y h => ((hB.below n (hb0.trans (h.mono hb0.size)))).more (Nat.le_trans hb0.size h.size) n
  have HW := Lib.hid hw0
  have HBW : Hid (∀ Y : World, Below w0.heap.size w0 Y → Below w.heap.size w Y) := fun Y h => hb0.trans (h.mono hb0.size)
  have hbr0 : Below w0.heap.size w0 w0 := Below.refl _ _
  have HIH := Lib.hid ih
  unfold maxLen at hal
  obtain ⟨R, hR⟩ : ∃ R, sameE n a b = R := ⟨_, rfl⟩
  rw [hR]
  rw [sameE_eq] at hR
  obtain ⟨ob, ho⟩ : ∃ x, (a.op == b.op) = x := ⟨_, rfl⟩
  obtain ⟨vb, hv⟩ : ∃ x, veq a.v b.v = x := ⟨_, rfl⟩
  obtain ⟨sb, hs⟩ : ∃ x, (a.s == b.s) = x := ⟨_, rfl⟩
  obtain ⟨lb, hl⟩ : ∃ x, decide (a.l.length = b.l.length) = x := ⟨_, rfl⟩
  rw [ho, hv, hs, hl] at hR
  have o1 : (a.op != b.op) = !ob := by rw [← ho]; rfl
  have v1 : veq ⟨a.v.k, a.v.i, a.v.s⟩ ⟨b.v.k, b.v.i, b.v.s⟩ = vb := hv
  have s1 : (a.s != b.s) = !sb := by rw [← hs]; rfl
  have l1 : ((a.l.length : Int) != (b.l.length : Int)) = !lb := by rw [← hl, Bool.eq_iff_iff]; simp; omega
  have hl2 : lb = true → a.l.length = b.l.length := fun h => by rw [h] at hl; simpa using hl
  have HL2 := Lib.hid hl2
  have HK := Lib.hid hR
  clear hw0 hA hB ka0 kb0 hb0 ih hR hv hl hl2
  obtain ⟨q0, q1, q2, q3, q4, q5, y0, y1, y2, y3, y4, y5⟩ := HSH.out w0 hbr0
  go_enter Tryz.func60, Tryz.ntmps60
  go_upto_region 1 with fail
  rw [HW.out]
  clear HW
  cases ob
  · have HF : Hid (R = false) := by show _ = _; rw [← HK.out]; rfl
    go_wp2_with fail
    go_ret
    exact ⟨by rw [HF.out]; rfl, HBW.out _ (by exact bl)⟩
  cases vb
  · have HF : Hid (R = false) := by show _ = _; rw [← HK.out]; rfl
    go_wp2_with fail
    go_ret
    exact ⟨by rw [HF.out]; rfl, HBW.out _ (by exact bl)⟩
  cases sb
  · have HF : Hid (R = false) := by show _ = _; rw [← HK.out]; rfl
    go_wp2_with fail
    go_ret
    exact ⟨by rw [HF.out]; rfl, HBW.out _ (by exact bl)⟩
  cases lb
  · have HF : Hid (R = false) := by show _ = _; rw [← HK.out]; rfl
    go_wp2_with fail
    go_ret
    exact ⟨by rw [HF.out]; rfl, HBW.out _ (by exact bl)⟩
  have hlen := HL2.out rfl
  have HLN := Lib.hid hlen
  have HK2 : Hid (partsB n ((a.l.zip b.l).drop 0) = R) := by
    show _ = _
    rw [← HK.out]
    rfl
  clear HK HL2 hlen
  go_wp2_with fail
  go_loopw [5] (fun i wr => ∃ j : Nat, j ≤ a.l.length ∧ i = .int .i64 j ∧ Hid (partsB n ((a.l.zip b.l).drop j) = R) ∧ Below w0.heap.size w0 wr) (fun i _ => a.l.length - (intOf i).toNat)
  case atStart => exact ⟨0, by omega, rfl, HK2, hbr0⟩
  case round =>
    obtain ⟨j, hj, rfl, HJ, hbr⟩ := hrel
    clear q0 q1 q2 q3 q4 q5 y0 y1 y2 y3 y4 y5
    obtain ⟨W, rfl⟩ : ∃ W, W = wr := ⟨_, rfl⟩
    obtain ⟨q0, q1, q2, q3, q4, q5, y0, y1, y2, y3, y4, y5⟩ := HSH.out W hbr
    have hzr := hbr.size
    by_cases hlt : j < a.l.length
    · obtain ⟨m, b1, o1', x, A', c', hnm, rfl, hbB, hvx, _, _, hxc, hxm, ⟨c0, c1, c2, c3, c4, c5⟩, hx⟩ := six0 (HA.out W hbr) hlt
      obtain ⟨m', b2, o2', y, B', d', hnm', rfl, hbB2, hvy, _, _, _, _, ⟨d0, d1, d2, d3, d4, d5⟩, hy⟩ := six0 (HB.out W hbr) (j := j) (by rw [← HLN.out]; exact hlt)
      subst hnm
      obtain rfl : m = m' := by omega
      have hJ := HJ.out
      have hz : (a.l.zip b.l)[j]? = some (x, y) := by rw [List.getElem?_zip_eq_some]; exact ⟨hvx, hvy⟩
      have hd : (a.l.zip b.l).drop j = (x, y) :: (a.l.zip b.l).drop (j + 1) := by
        obtain ⟨hj', e⟩ := List.getElem?_eq_some_iff.1 hz
        rw [← e]
        exact List.drop_eq_getElem_cons hj'
      rw [hd, partsB, List.all_cons] at hJ
      have HX : Hid (∀ Y : World, Below W.heap.size W Y → Calls Tryz.prog 60 #[.agg #[.string ⟨x.op.toArray⟩, .int .i64 x.v.k, .int .i64 x.v.i, .string ⟨x.v.s.toArray⟩, .string ⟨x.s.toArray⟩, .slice A' x.l.length c'], .agg #[.string ⟨y.op.toArray⟩, .int .i64 y.v.k, .int .i64 y.v.i, .string ⟨y.v.s.toArray⟩, .string ⟨y.s.toArray⟩, .slice B' y.l.length d']] Y (Ret (.bool (sameE m x y)) Y)) := fun Y h => HIH.out m rfl x y A' B' c' d' Y (Nat.le_trans hxc hxm) ((hx.below m h).more h.size m) ((hy.below m h).more h.size m)
      obtain ⟨T, hT⟩ : ∃ T, sameE m x y = T := ⟨_, rfl⟩
      rw [hT] at HX hJ
      have HJ2 := Lib.hid hJ
      have i1 : (0 : Int) ≤ (j : Int) := by omega
      have i2 : (j : Int) < (a.l.length : Int) := by omega
      have i3 : (j : Int) < (b.l.length : Int) := by have := HLN.out; omega
      have lw : w.heap.size + 1 < W.heap.size := Blk_lt_of_cell y0
      have HSK : Hid (∀ w' : World, Below W.heap.size W w' → (w'.cell? ⟨w.heap.size, 5, none⟩ = some (.slice (some ⟨b1, o1', none⟩) a.l.length c) ∧ w'.cell? ⟨w.heap.size + 1, 5, none⟩ = some (.slice (some ⟨b2, o2', none⟩) b.l.length d) ∧ (w'.cell? ⟨b1, o1' + j * 6, none⟩ = some (.string ⟨x.op.toArray⟩) ∧ w'.cell? ⟨b1, o1' + j * 6 + 1, none⟩ = some (.int .i64 x.v.k) ∧ w'.cell? ⟨b1, o1' + j * 6 + 2, none⟩ = some (.int .i64 x.v.i) ∧ w'.cell? ⟨b1, o1' + j * 6 + 3, none⟩ = some (.string ⟨x.v.s.toArray⟩) ∧ w'.cell? ⟨b1, o1' + j * 6 + 4, none⟩ = some (.string ⟨x.s.toArray⟩) ∧ w'.cell? ⟨b1, o1' + j * 6 + 5, none⟩ = some (.slice A' x.l.length c')) ∧ (w'.cell? ⟨b2, o2' + j * 6, none⟩ = some (.string ⟨y.op.toArray⟩) ∧ w'.cell? ⟨b2, o2' + j * 6 + 1, none⟩ = some (.int .i64 y.v.k) ∧ w'.cell? ⟨b2, o2' + j * 6 + 2, none⟩ = some (.int .i64 y.v.i) ∧ w'.cell? ⟨b2, o2' + j * 6 + 3, none⟩ = some (.string ⟨y.v.s.toArray⟩) ∧ w'.cell? ⟨b2, o2' + j * 6 + 4, none⟩ = some (.string ⟨y.s.toArray⟩) ∧ w'.cell? ⟨b2, o2' + j * 6 + 5, none⟩ = some (.slice B' y.l.length d')))) := fun w' h => by
        have f : ∀ o, w'.cell? ⟨w.heap.size, o, none⟩ = W.cell? ⟨w.heap.size, o, none⟩ := fun o => h.cell (p := ⟨w.heap.size, o, none⟩) (show w.heap.size < _ by omega)
        have f' : ∀ o, w'.cell? ⟨w.heap.size + 1, o, none⟩ = W.cell? ⟨w.heap.size + 1, o, none⟩ := fun o => h.cell (p := ⟨w.heap.size + 1, o, none⟩) lw
        have g : ∀ o, w'.cell? ⟨b1, o, none⟩ = W.cell? ⟨b1, o, none⟩ := fun o => h.cell (p := ⟨b1, o, none⟩) hbB
        have g' : ∀ o, w'.cell? ⟨b2, o, none⟩ = W.cell? ⟨b2, o, none⟩ := fun o => h.cell (p := ⟨b2, o, none⟩) hbB2
        exact ⟨(f _).trans q5, (f' _).trans y5, ⟨(g _).trans c0, (g _).trans c1, (g _).trans c2, (g _).trans c3, (g _).trans c4, (g _).trans c5⟩, ⟨(g' _).trans d0, (g' _).trans d1, (g' _).trans d2, (g' _).trans d3, (g' _).trans d4, (g' _).trans d5⟩⟩
      clear hJ hd hz hvx hvy HJ hx hy hT HIH hxc hxm
      go_wp2_with fail
      skip
      refine wp_region_held_drew (S := (fun w' => w'.cell? ⟨w.heap.size, 5, none⟩ = some (.slice (some ⟨b1, o1', none⟩) a.l.length c) ∧ w'.cell? ⟨w.heap.size + 1, 5, none⟩ = some (.slice (some ⟨b2, o2', none⟩) b.l.length d) ∧ (w'.cell? ⟨b1, o1' + j * 6, none⟩ = some (.string ⟨x.op.toArray⟩) ∧ w'.cell? ⟨b1, o1' + j * 6 + 1, none⟩ = some (.int .i64 x.v.k) ∧ w'.cell? ⟨b1, o1' + j * 6 + 2, none⟩ = some (.int .i64 x.v.i) ∧ w'.cell? ⟨b1, o1' + j * 6 + 3, none⟩ = some (.string ⟨x.v.s.toArray⟩) ∧ w'.cell? ⟨b1, o1' + j * 6 + 4, none⟩ = some (.string ⟨x.s.toArray⟩) ∧ w'.cell? ⟨b1, o1' + j * 6 + 5, none⟩ = some (.slice A' x.l.length c')) ∧ (w'.cell? ⟨b2, o2' + j * 6, none⟩ = some (.string ⟨y.op.toArray⟩) ∧ w'.cell? ⟨b2, o2' + j * 6 + 1, none⟩ = some (.int .i64 y.v.k) ∧ w'.cell? ⟨b2, o2' + j * 6 + 2, none⟩ = some (.int .i64 y.v.i) ∧ w'.cell? ⟨b2, o2' + j * 6 + 3, none⟩ = some (.string ⟨y.v.s.toArray⟩) ∧ w'.cell? ⟨b2, o2' + j * 6 + 4, none⟩ = some (.string ⟨y.s.toArray⟩) ∧ w'.cell? ⟨b2, o2' + j * 6 + 5, none⟩ = some (.slice B' y.l.length d')))) (by kernel_rfl) ?_ (fun hHeld => ?_)
      · try dsimp only
        exact HSK.out _ (by exact bl)
      refine wpAnyT_start [0, 1, 2, 3, 4, 5, 6, 7, 8, 9] ?_
      iterate 10
        refine wpAnyT_cons (v := ?_) rfl (by kernel_rfl) (by kernel_rfl) (by kernel_rfl) (fun _ _ _ h => h) (Or.inl ⟨by rfl, ?_⟩) (by assumption) ?_
        rotate_left
        · intro wq hSw
          try dsimp only at hSw
          go_simp
          try with_reducible rfl
        try simp only [Act.put, List.getElem_toArray, List.getElem_cons_zero, List.getElem_cons_succ, List.setIfInBounds_toArray, List.set_cons_zero, List.set_cons_succ]
      refine wpAnyT_nil ?_
      refine wpAnyH_ready (rs := [10]) (by kernel_rfl) (by simp) ?_
      refine AllReadyH.cons rfl (fun K hK => ?_) AllReadyH.nil
      go_simp
      (refine (HX.out _ (by exact bl)).mono ?_) <;> rintro en w9 ⟨rfl, hb9⟩ <;> have hz9 := hb9.size <;> (try simp at hz9)
      go_wp2_with fail
      refine hK.out _ _ ?_ (fun hHeld => ?_)
      · try dsimp only
        exact HSK.out _ (by exact bl)
      clear hK K
      try simp only [Act.put, List.getElem_toArray, List.getElem_cons_zero, List.getElem_cons_succ, List.setIfInBounds_toArray, List.set_cons_zero, List.set_cons_succ]
      refine wpAnyH_take (i := 11) (v := ?_) rfl (by kernel_rfl) (by kernel_rfl) (by kernel_rfl) (fun _ _ _ h => h) (Or.inl ⟨by rfl, ?_⟩) (by assumption) ?_
      rotate_left
      · intro wq hSw
        try dsimp only at hSw
        go_simp
        try with_reducible rfl
      try simp only [Act.put, List.getElem_toArray, List.getElem_cons_zero, List.getElem_cons_succ, List.setIfInBounds_toArray, List.set_cons_zero, List.set_cons_succ]
      refine wpAnyH_done (by kernel_rfl) ?_ _
      have hb09 : Below w0.heap.size w0 w9 := by exact bl
      cases T
      · have HF : Hid (R = false) := by show _ = _; rw [← HJ2.out]; rfl
        go_wp2_with fail
        go_ret
        exact ⟨by rw [HF.out]; rfl, HBW.out _ (by exact bl)⟩
      · have HN : Hid (partsB (m + 1) ((a.l.zip b.l).drop (j + 1)) = R) := by show _ = _; rw [← HJ2.out]; rfl
        go_wp2_with fail
        go_roundw
        case rel => exact ⟨j + 1, by omega, by go_num, HN, by exact bl⟩
        case measure => simp [intOf]; omega
    · obtain rfl : j = a.l.length := by omega
      have HF : Hid (R = true) := by
        show _ = _
        rw [← HJ.out, List.drop_of_length_le (by rw [List.length_zip]; omega)]
        exact partsB_nil n
      have b0 : ¬ ((a.l.length : Int) < (a.l.length : Int)) := by omega
      clear HJ
      go_wp2_with fail
      go_ret
      exact ⟨by rw [HF.out]; rfl, HBW.out _ (by exact bl)⟩
theorem same4_any : ∀ (n : Nat) (a b : Ex) (A B : Option Addr) (c d : Nat) (w : World), a.l.length ≤ maxLen → ExS 1000 n w w.heap.size A a.l → ExS 1000 n w w.heap.size B b.l →
      Calls Tryz.prog 60 #[.agg (a.cells A c).toArray, .agg (b.cells B d).toArray] w (Ret (.bool (sameE n a b)) w) := by
  intro n
  induction n with
  | zero => exact same4_step 0 (fun m h => absurd h (by omega))
  | succ n ih =>
    refine same4_step (n + 1) (fun m h => ?_)
    obtain rfl : n = m := by omega
    exact ih

set_option maxHeartbeats 1000000 in
theorem place6_any (cols : List Col) (s : List UInt8) (A1 : Option Addr) (c1 : Nat) (w : World) (hcl : cols.length ≤ 1000) (hC : ColS w w.heap.size A1 cols) :
    Calls Tryz.prog 42 #[.slice A1 cols.length c1, .string ⟨s.toArray⟩] w (Ret (.int .i64 (placeF cols s)) w) := by
  obtain ⟨P, hP⟩ : ∃ P, placeF cols s = P := ⟨_, rfl⟩
  rw [hP]
  have HP : Hid (placeFrom s (cols.drop 0) 0 = P) := hP
  have HC := Lib.hid hC
  clear hP hC
  go_enter Tryz.func42, Tryz.ntmps42
  go_wp2_with fail
  go_loopw [5] (fun i wr => ∃ j : Nat, j ≤ cols.length ∧ i = .int .i64 j ∧ Hid (placeFrom s (cols.drop j) j = P) ∧ Below w.heap.size w wr) (fun i _ => cols.length - (intOf i).toNat)
  case atStart => exact ⟨0, by omega, rfl, HP, Below.refl _ _⟩
  case round =>
    obtain ⟨j, hj, rfl, HJ, hbr⟩ := hrel
    by_cases hlt : j < cols.length
    · obtain ⟨b1, o1', x, rfl, hbB, hv, d0, d1, d2⟩ := HC.out.at_ hlt
      have hJ := HJ.out
      rw [dropCo cols j x hv] at hJ
      simp only [placeFrom] at hJ
      obtain ⟨B, hB⟩ : ∃ B, (x.n == s) = B := ⟨_, rfl⟩
      have i1 : (0 : Int) ≤ (j : Int) := by omega
      have i2 : (j : Int) < (cols.length : Int) := by omega
      have d0' : wr.cell? ⟨b1, o1' + j * 3, none⟩ = some (.string ⟨x.n.toArray⟩) := (hbr.cell (p := ⟨b1, o1' + j * 3, none⟩) hbB).trans d0
      cases B
      · have HN : Hid (placeFrom s (cols.drop (j + 1)) (j + 1) = P) := by show _ = _; rw [if_neg (by simpa using hB)] at hJ; exact hJ
        clear hJ hv HJ d0 d1 d2
        go_wp2_with fail
        go_roundw
        case rel => exact ⟨j + 1, by omega, by go_num, HN, by exact bl⟩
        case measure => simp [intOf]; omega
      · have HF : Hid (P = (j : Int)) := by show _ = _; rw [if_pos (by simpa using hB)] at hJ; exact hJ.symm
        clear hJ hv HJ d0 d1 d2
        go_wp2_with fail
        go_ret
        exact ⟨by rw [HF.out]; rfl, by exact bl⟩
    · have HF : Hid (P = -1) := by
        show _ = _
        have hJ := HJ.out
        rw [List.drop_of_length_le (by omega)] at hJ
        simp only [placeFrom] at hJ
        exact hJ.symm
      have b0 : ¬ ((j : Int) < (cols.length : Int)) := by omega
      clear HJ
      go_wp2_with fail
      go_ret
      exact ⟨by rw [HF.out]; rfl, hbr⟩

theorem may_formE {e : Ex} (h : mayX e = true) : formE 12 e = true := by
  have := (may_form 12 1 0 e (by omega) (by omega)).1
  rw [show (mayE 12 1 0 e).1 = mayX e from rfl, h] at this
  simp at this
  exact this.1
theorem typed_X (n : Nat) (cols : List Col) (e : Ex) (h : Hgt n e.l) (hm : mayX e = true) : typedE n cols e = typeX cols e := by
  have h1 := type_X n cols e h
  unfold typeF at h1
  rw [may_X n e h, hm] at h1
  exact h1
set_option maxHeartbeats 2000000 in
theorem check6_any (n : Nat) (e : Ex) (A A1 : Option Addr) (c c1 : Nat) (cols : List Col) (w : World) (hf : e.fit 1000) (hel : e.l.length ≤ maxLen) (hE : ExS 1000 n w w.heap.size A e.l) (hcl : cols.length ≤ 1000) (hC : ColS w w.heap.size A1 cols) :
    Calls Tryz.prog 43 #[.agg (e.cells A c).toArray, .slice A1 cols.length c1] w (Ret (.int .i64 (checkX cols e)) w) := by
  obtain ⟨w0, hw0⟩ : ∃ w0, w.alloc (.cells (e.cells A c).toArray 29) = w0 := ⟨_, rfl⟩
  have kq0 : Blk w0 w.heap.size 29 (e.cells A c).toArray := by rw [← hw0]; exact Blk.new _ _ _
  have hb0 : Below w.heap.size w w0 := by rw [← hw0]; exact bl
  have HSH : Hid (∀ w' : World, Below w0.heap.size w0 w' → (w'.cell? ⟨w.heap.size, 0, none⟩ = some (.string ⟨e.op.toArray⟩) ∧ w'.cell? ⟨w.heap.size, 1, none⟩ = some (.int .i64 e.v.k) ∧ w'.cell? ⟨w.heap.size, 2, none⟩ = some (.int .i64 e.v.i) ∧ w'.cell? ⟨w.heap.size, 3, none⟩ = some (.string ⟨e.v.s.toArray⟩) ∧ w'.cell? ⟨w.heap.size, 4, none⟩ = some (.string ⟨e.s.toArray⟩) ∧ w'.cell? ⟨w.heap.size, 5, none⟩ = some (.slice A e.l.length c))) := fun w' h => (kq0.below h kq0.lt).six
  have hEY : ∀ Y : World, Below w0.heap.size w0 Y → ExS 1000 n Y Y.heap.size A e.l := fun Y h => ((hE.below n (hb0.trans (h.mono hb0.size)))).more (Nat.le_trans hb0.size h.size) n
  have HW := Lib.hid hw0
  have HBW : Hid (∀ Y : World, Below w0.heap.size w0 Y → Below w.heap.size w Y) := fun Y h => hb0.trans (h.mono hb0.size)
  have hbr0 : Below w0.heap.size w0 w0 := Below.refl _ _
  have hCY : ∀ Y : World, Below w0.heap.size w0 Y → ColS Y Y.heap.size A1 cols := fun Y h hl => by
    obtain ⟨b, off, h1, h2, h3⟩ := hC hl
    have hb := hb0.trans (h.mono hb0.size)
    refine ⟨b, off, h1, Nat.lt_of_lt_of_le h2 hb.size, fun i v hv => ?_⟩
    obtain ⟨u0, u1, u2⟩ := h3 i v hv
    exact ⟨(hb.cell (p := ⟨b, off + i * 3, none⟩) h2).trans u0, (hb.cell (p := ⟨b, off + i * 3 + 1, none⟩) h2).trans u1, (hb.cell (p := ⟨b, off + i * 3 + 2, none⟩) h2).trans u2⟩
  obtain ⟨R, hR⟩ : ∃ R, checkX cols e = R := ⟨_, rfl⟩
  rw [hR]
  unfold checkX at hR
  have hgt := ExS.hgt n hE
  by_cases ho : e.op = []
  · have o1 : (e.op == []) = true := by rw [ho]; rfl
    have o2 : e.op.isEmpty = true := by rw [ho]; rfl
    have hsm := same4_any n e ex0 A none c 0 w0 hel (hEY w0 hbr0) (ExS.nil n)
    rw [sameE_0] at hsm
    obtain ⟨S, hS⟩ : ∃ S, same0 e = S := ⟨_, rfl⟩
    rw [hS] at hsm hR
    have HSM : Hid (Calls Tryz.prog 60 #[.agg #[.string ⟨e.op.toArray⟩, .int .i64 e.v.k, .int .i64 e.v.i, .string ⟨e.v.s.toArray⟩, .string ⟨e.s.toArray⟩, .slice A e.l.length c], .agg #[.string ⟨#[]⟩, .int .i64 0, .int .i64 0, .string ⟨#[]⟩, .string ⟨#[]⟩, .slice none 0 0]] w0 (Ret (.bool S) w0)) := hsm
    have hR2 : (if S = true then (0 : Int) else 1) = R := by
      rw [← hR]
      have ht : typeX cols e = (0, 1) := by
        unfold typeX
        have : mayX e = false := by
          cases hm : mayX e
          · rfl
          · have := form_parts (may_formE hm)
            rw [ho] at this
            rcases this with ⟨h, _⟩ | ⟨h, _⟩ | ⟨h | h, _⟩ | ⟨h | h | h | h | h | h, _⟩ <;> cases h
        rw [this]
        rfl
      rw [ht]
      simp
    have HK := Lib.hid hR2
    clear hw0 hE kq0 hb0 hC hR hR2 hsm hS ho hEY hCY hgt hf
    obtain ⟨q0, q1, q2, q3, q4, q5⟩ := HSH.out w0 hbr0
    go_enter Tryz.func43, Tryz.ntmps43
    go_upto_region 1 with fail
    rw [show w.alloc _ = w0 from HW.out]
    clear HW
    cases S
    · have HF : Hid (R = 1) := by show _ = _; rw [← HK.out]; rfl
      go_wp2_with fail
      refine HSM.out.mono ?_
      rintro en w1 ⟨rfl, hb1⟩
      go_wp2_with fail
      go_ret
      exact ⟨by rw [HF.out]; rfl, HBW.out _ (by exact bl)⟩
    · have HF : Hid (R = 0) := by show _ = _; rw [← HK.out]; rfl
      go_wp2_with fail
      refine HSM.out.mono ?_
      rintro en w1 ⟨rfl, hb1⟩
      go_wp2_with fail
      go_ret
      exact ⟨by rw [HF.out]; rfl, HBW.out _ (by exact bl)⟩
  · have o1 : (e.op == []) = false := by rw [beq_eq_false_iff_ne]; exact ho
    have o2 : e.op.isEmpty = false := by cases he : e.op with | nil => exact absurd he ho | cons _ _ => rfl
    have hs0 : same0 e = false := by unfold same0; rw [o1]; rfl
    rw [hs0] at hR
    have hmy := may4_any n e A c w0 hf (hEY w0 hbr0)
    obtain ⟨M, hM⟩ : ∃ M, mayX e = M := ⟨_, rfl⟩
    rw [hM] at hmy
    have HMY : Hid (Calls Tryz.prog 68 #[.agg #[.string ⟨e.op.toArray⟩, .int .i64 e.v.k, .int .i64 e.v.i, .string ⟨e.v.s.toArray⟩, .string ⟨e.s.toArray⟩, .slice A e.l.length c]] w0 (Ret (.bool M) w0)) := hmy
    have HTY : Hid (M = true → ∀ Y : World, Below w0.heap.size w0 Y → Calls Tryz.prog 69 #[.agg #[.string ⟨e.op.toArray⟩, .int .i64 e.v.k, .int .i64 e.v.i, .string ⟨e.v.s.toArray⟩, .string ⟨e.s.toArray⟩, .slice A e.l.length c], .slice A1 cols.length c1] Y (Ret (.tuple #[.int .i64 (typeX cols e).1, .int .i64 (typeX cols e).2]) Y)) := fun hm Y h => by
      rw [hm] at hM
      have := type4_any n 12 e A A1 c c1 cols Y (may_formE hM) hf (hEY Y h) hcl (hCY Y h)
      rw [typed_X n cols e hgt hM] at this
      exact this
    have hT0 : M = false → typeX cols e = (0, 1) := fun h => by unfold typeX; rw [hM, h]; rfl
    have HT0 := Lib.hid hT0
    obtain ⟨T, hT⟩ : ∃ T, typeX cols e = T := ⟨_, rfl⟩
    rw [hT] at hR HTY HT0
    obtain ⟨t, f⟩ := T
    have HK := Lib.hid hR
    clear hw0 hE kq0 hb0 hC hR hmy hM ho hEY hCY hgt hf hT hT0 hs0
    obtain ⟨q0, q1, q2, q3, q4, q5⟩ := HSH.out w0 hbr0
    go_enter Tryz.func43, Tryz.ntmps43
    go_upto_region 1 with fail
    rw [show w.alloc _ = w0 from HW.out]
    clear HW
    cases M
    · have HF : Hid (R = 1) := by show _ = _; rw [← HK.out, (Prod.mk.inj (HT0.out rfl)).2]; rfl
      go_wp2_with fail
      refine HMY.out.mono ?_
      rintro en w1 ⟨rfl, hb1⟩
      go_wp2_with fail
      go_ret
      exact ⟨by rw [HF.out]; rfl, HBW.out _ (by exact bl)⟩
    · go_wp2_with fail
      refine HMY.out.mono ?_
      rintro en w1 ⟨rfl, hb1⟩
      clear q0 q1 q2 q3 q4 q5 HMY
      obtain ⟨q0, q1, q2, q3, q4, q5⟩ := HSH.out w1 hb1
      go_wp2_with fail
      refine (HTY.out trivial w1 hb1).mono ?_
      rintro en w2 ⟨rfl, hb2⟩
      have hb02 : Below w0.heap.size w0 w2 := hb1.trans (hb2.mono hb1.size)
      clear q0 q1 q2 q3 q4 q5 HTY
      obtain ⟨fb, hfb⟩ : ∃ b, (f != 0) = b := ⟨_, rfl⟩
      obtain ⟨t0, ht0⟩ : ∃ b, (t != 0) = b := ⟨_, rfl⟩
      obtain ⟨t3, ht3⟩ : ∃ b, (t != 3) = b := ⟨_, rfl⟩
      have hk : (if fb = true then f else if t0 = true ∧ t3 = true then (5 : Int) else 0) = R := by
        rw [← HK.out, ← hfb, ← ht0, ← ht3]
        by_cases h1 : f = 0 <;> by_cases h2 : t = 0 <;> by_cases h3 : t = 3 <;> simp [h1, h2, h3]
      have HK2 := Lib.hid hk
      clear hk HK
      cases fb
      · cases t0
        · have HF : Hid (R = 0) := by show _ = _; rw [← HK2.out]; rfl
          go_wp2_with fail
          go_ret
          exact ⟨by rw [HF.out]; rfl, HBW.out _ hb02⟩
        · cases t3
          · have HF : Hid (R = 0) := by show _ = _; rw [← HK2.out]; rfl
            go_wp2_with fail
            go_ret
            exact ⟨by rw [HF.out]; rfl, HBW.out _ hb02⟩
          · have HF : Hid (R = 5) := by show _ = _; rw [← HK2.out]; rfl
            go_wp2_with fail
            go_ret
            exact ⟨by rw [HF.out]; rfl, HBW.out _ hb02⟩
      · have HF : Hid (R = f) := by show _ = _; rw [← HK2.out]; rfl
        go_wp2_with fail
        go_ret
        exact ⟨by rw [HF.out]; rfl, HBW.out _ hb02⟩

end Go.Proofs.YtdhjogmkhbpcgaaGreat

namespace Go.Proofs.YtdhjogmkhbpcgaaGreat
open Go.RowKit

attribute [local go_sem] ByteArray.extract_mk ba_get ba_append
attribute [local go_sem ↓] Go.wp_at_zero Go.wp_at_succ run_eql_V run_neq_V

set_option maxRecDepth 100000 in
set_option maxHeartbeats 8000000 in
theorem may6_any (t : Tb) (p : TbP) (w : World) (hs : t.small) (hQ : TbQ 1000 t p (Old w.heap.size) w) : Calls Tryz.prog 18 #[.agg (t.cells p).toArray] w (Ret (.bool (mayTb t)) w) := by
  obtain ⟨hn, hcl, hcn, hul, hrl, hrt, hcf, hck⟩ := hs
  obtain ⟨⟨a1, k1⟩, ⟨a2, k2⟩, ⟨a3, k3⟩, ⟨a4, k4⟩⟩ := p
  obtain ⟨w0, hw0⟩ : ∃ w0, w.alloc (.cells #[.string ⟨t.n.toArray⟩, .slice a1 t.cols.length k1, .int .i64 t.key, .slice a2 t.uniq.length k2, .slice a3 t.refs.length k3, .string ⟨t.chk.op.toArray⟩, .int .i64 t.chk.v.k, .int .i64 t.chk.v.i, .string ⟨t.chk.v.s.toArray⟩, .string ⟨t.chk.s.toArray⟩, .slice a4 t.chk.l.length k4] 31) = w0 := ⟨_, rfl⟩
  have kt0 : Blk w0 w.heap.size 31 #[.string ⟨t.n.toArray⟩, .slice a1 t.cols.length k1, .int .i64 t.key, .slice a2 t.uniq.length k2, .slice a3 t.refs.length k3, .string ⟨t.chk.op.toArray⟩, .int .i64 t.chk.v.k, .int .i64 t.chk.v.i, .string ⟨t.chk.v.s.toArray⟩, .string ⟨t.chk.s.toArray⟩, .slice a4 t.chk.l.length k4] := by rw [← hw0]; exact Blk.new _ _ _
  have hb0 : Below w.heap.size w w0 := by rw [← hw0]; exact bl
  have hz0 := hb0.size
  have HSH : Hid (∀ w' : World, Below w0.heap.size w0 w' → (w'.cell? ⟨w.heap.size, 0, none⟩ = some (.string ⟨t.n.toArray⟩) ∧ w'.cell? ⟨w.heap.size, 1, none⟩ = some (.slice a1 t.cols.length k1) ∧ w'.cell? ⟨w.heap.size, 2, none⟩ = some (.int .i64 t.key) ∧ w'.cell? ⟨w.heap.size, 3, none⟩ = some (.slice a2 t.uniq.length k2) ∧ w'.cell? ⟨w.heap.size, 4, none⟩ = some (.slice a3 t.refs.length k3) ∧ w'.cell? ⟨w.heap.size, 5, none⟩ = some (.string ⟨t.chk.op.toArray⟩) ∧ w'.cell? ⟨w.heap.size, 6, none⟩ = some (.int .i64 t.chk.v.k) ∧ w'.cell? ⟨w.heap.size, 7, none⟩ = some (.int .i64 t.chk.v.i) ∧ w'.cell? ⟨w.heap.size, 8, none⟩ = some (.string ⟨t.chk.v.s.toArray⟩) ∧ w'.cell? ⟨w.heap.size, 9, none⟩ = some (.string ⟨t.chk.s.toArray⟩) ∧ w'.cell? ⟨w.heap.size, 10, none⟩ = some (.slice a4 t.chk.l.length k4))) := fun w' h => by
    have k := kt0.below h kt0.lt
    exact ⟨k.cell 0, k.cell 1, k.cell 2, k.cell 3, k.cell 4, k.cell 5, k.cell 6, k.cell 7, k.cell 8, k.cell 9, k.cell 10⟩
  have hQY : ∀ Y : World, Below w0.heap.size w0 Y → TbQ 1000 t ⟨⟨a1, k1⟩, ⟨a2, k2⟩, ⟨a3, k3⟩, ⟨a4, k4⟩⟩ (Old Y.heap.size) Y := fun Y h => hQ.keep (old_keep (hb0.trans (h.mono hz0)) (hb0.trans (h.mono hz0)).size)
  have HC : Hid (∀ Y : World, Below w0.heap.size w0 Y → ColS Y Y.heap.size a1 t.cols) := fun Y h => (hQY Y h).1.s (fun b h => h)
  have HU : Hid (∀ Y : World, Below w0.heap.size w0 Y → IQ t.uniq a2 (Old Y.heap.size) Y) := fun Y h => (hQY Y h).2.1
  have HFQ : Hid (∀ Y : World, Below w0.heap.size w0 Y → FQ t.refs a3 (Old Y.heap.size) Y) := fun Y h => (hQY Y h).2.2.1
  have HCK : Hid (∀ Y : World, Below w0.heap.size w0 Y → Calls Tryz.prog 43 #[.agg #[.string ⟨t.chk.op.toArray⟩, .int .i64 t.chk.v.k, .int .i64 t.chk.v.i, .string ⟨t.chk.v.s.toArray⟩, .string ⟨t.chk.s.toArray⟩, .slice a4 t.chk.l.length k4], .slice a1 t.cols.length k1] Y (Ret (.int .i64 (checkX t.cols t.chk)) Y)) := fun Y h => by
    obtain ⟨hC, _, _, n, hE⟩ := hQY Y h
    exact check6_any n t.chk a4 a1 k4 k1 t.cols Y hcf hck (hE.toS (B := Y.heap.size) (fun b h => h) n) hcl (hC.s (fun b h => h))
  have HPL : Hid (∀ (Y : World) (s : List UInt8), Below w0.heap.size w0 Y → Calls Tryz.prog 42 #[.slice a1 t.cols.length k1, .string ⟨s.toArray⟩] Y (Ret (.int .i64 (placeF t.cols s)) Y)) := fun Y s h => place6_any t.cols s a1 k1 Y hcl ((hQY Y h).1.s (fun b h => h))
  have HNM : Hid (∀ (Y : World) (s : List UInt8), s.length ≤ 1000 → Calls Tryz.prog 41 #[.string ⟨s.toArray⟩] Y (Ret (.bool (nameR s)) Y)) := fun Y s h => rname5_any s Y (by omega)
  have HCN := Lib.hid hcn
  have HRT := Lib.hid hrt
  have HW := Lib.hid hw0
  have HBW : Hid (∀ Y : World, Below w0.heap.size w0 Y → Below w.heap.size w Y) := fun Y h => hb0.trans (h.mono hz0)
  have hbr0 : Below w0.heap.size w0 w0 := Below.refl _ _
  obtain ⟨R, hR⟩ : ∃ R, mayTb t = R := ⟨_, rfl⟩
  rw [hR]
  unfold mayTb lastB at hR
  have HN0 := Lib.hid (HNM.out w0 t.n hn)
  obtain ⟨nb, hnb⟩ : ∃ b, nameR t.n = b := ⟨_, rfl⟩
  rw [hnb] at hR HN0
  have HK := Lib.hid hR
  dsimp only [Tb.cells]
  clear hw0 kt0 hb0 hQ hQY hR hnb hcn hrt hcf hck hn
  obtain ⟨x0, x1, x2, x3, x4, x5, x6, x7, x8, x9, x10⟩ := HSH.out w0 hbr0
  go_enter Tryz.func18, Tryz.ntmps18
  go_upto_region 1 with fail
  rw [HW.out]
  clear HW
  go_wp2_with fail
  refine HN0.out.mono ?_
  rintro en w1 ⟨rfl, hb1⟩
  clear HN0 x0 x1 x2 x3 x4 x5 x6 x7 x8 x9 x10
  obtain ⟨x0, x1, x2, x3, x4, x5, x6, x7, x8, x9, x10⟩ := HSH.out w1 hb1
  cases nb
  · skip
    have HF : Hid (R = false) := by show _ = _; rw [← HK.out]; rfl
    go_wp2_with fail
    go_ret
    exact ⟨by rw [HF.out]; rfl, HBW.out _ (by exact bl)⟩
  by_cases g1 : (t.cols.length : Int) < 1
  · have d1 : decide (1 ≤ t.cols.length) = false := decide_eq_false (by omega)
    have HF : Hid (R = false) := by show _ = _; rw [← HK.out]; rw [d1]; simp
    go_wp2_with fail
    go_ret
    exact ⟨by rw [HF.out]; rfl, HBW.out _ (by exact bl)⟩
  by_cases g2 : (8 : Int) < (t.cols.length : Int)
  · have d2 : decide (t.cols.length ≤ 8) = false := by simp; omega
    have HF : Hid (R = false) := by show _ = _; rw [← HK.out]; rw [d2]; simp
    go_wp2_with fail
    go_ret
    exact ⟨by rw [HF.out]; rfl, HBW.out _ (by exact bl)⟩
  by_cases g3 : t.key < 0
  · have d3 : inB t.cols.length t.key = false := by unfold inB; simp; omega
    have HF : Hid (R = false) := by show _ = _; rw [← HK.out]; rw [d3]; simp
    go_wp2_with fail
    go_ret
    exact ⟨by rw [HF.out]; rfl, HBW.out _ (by exact bl)⟩
  by_cases g4 : (t.cols.length : Int) ≤ t.key
  · have d4 : inB t.cols.length t.key = false := by unfold inB; simp; omega
    have g4' : decide (t.key ≥ (t.cols.length : Int)) = true := by simpa using g4
    have HF : Hid (R = false) := by show _ = _; rw [← HK.out]; rw [d4]; simp
    go_wp2_with fail
    go_ret
    exact ⟨by rw [HF.out]; rfl, HBW.out _ (by exact bl)⟩
  have g4' : decide (t.key ≥ (t.cols.length : Int)) = false := by simpa using g4
  have d1 : decide (1 ≤ t.cols.length) = true := decide_eq_true (by omega)
  have d2 : decide (t.cols.length ≤ 8) = true := by simp; omega
  have d4 : inB t.cols.length t.key = true := by unfold inB; simp; omega
  obtain ⟨kn, hkn⟩ : ∃ kn : Nat, t.key = (kn : Int) := ⟨t.key.toNat, by omega⟩
  obtain ⟨bk, ok, cK, rfl, hbK, hvK, z0, z1, z2⟩ := (HC.out w1 hb1).at_ (j := kn) (by omega)
  have hgk : t.cols.getD t.key.toNat ⟨[], 0, false⟩ = cK := by rw [hkn, Int.toNat_natCast, List.getD_eq_getElem?_getD, hvK]; rfl
  have hk := HK.out
  rw [d1, d2, d4, hgk] at hk
  obtain ⟨cb, hcb⟩ : ∃ b, cK.b = b := ⟨_, rfl⟩
  rw [hcb] at hk z2
  have HK2 := Lib.hid hk
  clear HK hk hgk hvK hcb d1 d2 d4 z0 z1
  rw [hkn] at x2 g3 g4 g4'
  have i0 : (0 : Int) ≤ (kn : Int) := by omega
  have i1 : (kn : Int) < (t.cols.length : Int) := by omega
  have f1 : decide ((t.cols.length : Int) < 1) = false := decide_eq_false g1
  have f2 : decide ((8 : Int) < (t.cols.length : Int)) = false := decide_eq_false g2
  have f3 : decide ((kn : Int) < 0) = false := decide_eq_false g3
  have f4 : decide (t.cols.length ≤ kn) = false := decide_eq_false (by omega)
  have f5 : decide ((t.cols.length : Int) ≤ (kn : Int)) = false := decide_eq_false (by omega)
  clear g1 g2 g3 g4 g4'
  cases cb
  · have HF : Hid (R = false) := by show _ = _; rw [← HK2.out]; simp
    go_wp2_with fail
    go_ret
    exact ⟨by rw [HF.out]; rfl, HBW.out _ (by exact bl)⟩
  have HK3 : Hid ((colsFrom t.cols (t.cols.drop 0) 0 && (t.uniq.all (inB t.cols.length) && (t.refs.all (refB t.cols.length) && decide (checkX t.cols t.chk = 0)))) = R) := by
    show _ = _
    rw [← HK2.out, List.drop_zero]
    simp
  clear HK2
  go_wp2_with fail
  go_loopw [4] (fun i wr => ∃ j : Nat, j ≤ t.cols.length ∧ i = .int .i64 j ∧ Hid ((colsFrom t.cols (t.cols.drop j) j && (t.uniq.all (inB t.cols.length) && (t.refs.all (refB t.cols.length) && decide (checkX t.cols t.chk = 0)))) = R) ∧ Below w0.heap.size w0 wr) (fun i _ => t.cols.length - (intOf i).toNat)
  case atStart => exact ⟨0, by omega, rfl, HK3, hb1⟩
  case round =>
    obtain ⟨j, hj, rfl, HJ, hbr⟩ := hrel
    clear x0 x1 x2 x3 x4 x5 x6 x7 x8 x9 x10
    obtain ⟨W, rfl⟩ : ∃ W, W = wr := ⟨_, rfl⟩
    obtain ⟨x0, x1, x2, x3, x4, x5, x6, x7, x8, x9, x10⟩ := HSH.out W hbr
    have hzr := hbr.size
    by_cases hlt : j < t.cols.length
    · obtain ⟨b1, o1, x, e1, hbB, hv, c0, c1, c2⟩ := (HC.out W hbr).at_ hlt
      cases e1
      have hJ := HJ.out
      rw [dropCo t.cols j x hv] at hJ
      simp only [colsFrom, colB] at hJ
      have hxl := HCN.out x (List.mem_of_getElem? hv)
      obtain ⟨W1, hW1⟩ : ∃ W1, W.alloc (.cells #[.string ⟨x.n.toArray⟩, .int .i64 x.t, .bool x.b] 77) = W1 := ⟨_, rfl⟩
      have kx : Blk W1 W.heap.size 77 #[.string ⟨x.n.toArray⟩, .int .i64 x.t, .bool x.b] := by rw [← hW1]; exact Blk.new _ _ _
      have hb11 : Below W.heap.size W W1 := by rw [← hW1]; exact bl
      have hb01 : Below w0.heap.size w0 W1 := hbr.trans (hb11.mono hzr)
      have HN1 := Lib.hid (HNM.out W1 x.n hxl)
      obtain ⟨nb, hnb⟩ : ∃ b, nameR x.n = b := ⟨_, rfl⟩
      rw [hnb] at HN1 hJ
      have HK := Lib.hid hJ
      have HW1 := Lib.hid hW1
      have i2 : (0 : Int) ≤ (j : Int) := by omega
      have i3 : (j : Int) < (t.cols.length : Int) := by omega
      obtain ⟨⟨y0, y1, y2⟩, _⟩ := kx.three
      clear hJ HJ hv hnb hW1 hxl
      go_upto_region 8 with fail
      rw [HW1.out]
      clear HW1 c0 c1 c2 x0 x1 x2 x3 x4 x5 x6 x7 x8 x9 x10
      obtain ⟨x0, x1, x2, x3, x4, x5, x6, x7, x8, x9, x10⟩ := HSH.out W1 hb01
      go_wp2_with fail
      refine HN1.out.mono ?_
      rintro en w2 ⟨rfl, hb2⟩
      have hb02 : Below w0.heap.size w0 w2 := hb01.trans (hb2.mono hb01.size)
      have kx2 := kx.below hb2 kx.lt
      clear HN1 x0 x1 x2 x3 x4 x5 x6 x7 x8 x9 x10 y0 y1 y2
      obtain ⟨x0, x1, x2, x3, x4, x5, x6, x7, x8, x9, x10⟩ := HSH.out w2 hb02
      obtain ⟨⟨y0, y1, y2⟩, _⟩ := kx2.three
      cases nb
      · skip
        have HF : Hid (R = false) := by show _ = _; rw [← HK.out]; rfl
        go_wp2_with fail
        go_ret
        exact ⟨by rw [HF.out]; rfl, HBW.out _ (by exact bl)⟩
      by_cases g5 : x.t < 1
      · have d5 : decide (1 ≤ x.t) = false := by simp; omega
        have HF : Hid (R = false) := by show _ = _; rw [← HK.out]; rw [d5]; simp
        go_wp2_with fail
        go_ret
        exact ⟨by rw [HF.out]; rfl, HBW.out _ (by exact bl)⟩
      by_cases g6 : 3 < x.t
      · have d6 : decide (x.t ≤ 3) = false := by simp; omega
        have HF : Hid (R = false) := by show _ = _; rw [← HK.out]; rw [d6]; simp
        go_wp2_with fail
        go_ret
        exact ⟨by rw [HF.out]; rfl, HBW.out _ (by exact bl)⟩
      have d5 : decide (1 ≤ x.t) = true := by simp; omega
      have d6 : decide (x.t ≤ 3) = true := by simp; omega
      have HP1 := Lib.hid (HPL.out w2 x.n hb02)
      obtain ⟨P, hP⟩ : ∃ P, placeF t.cols x.n = P := ⟨_, rfl⟩
      have hk := HK.out
      rw [hP] at HP1 hk
      rw [d5, d6] at hk
      obtain ⟨pb, hpb⟩ : ∃ b, decide (P = (j : Int)) = b := ⟨_, rfl⟩
      rw [hpb] at hk
      have n1 : (P != (j : Int)) = !pb := by rw [← hpb, Bool.eq_iff_iff]; simp
      have HK2 := Lib.hid hk
      clear hk HK hP hpb d5 d6
      go_wp2_with fail
      refine HP1.out.mono ?_
      rintro en w3 ⟨rfl, hb3⟩
      have hb03 : Below w0.heap.size w0 w3 := hb02.trans (hb3.mono hb02.size)
      clear HP1 x0 x1 x2 x3 x4 x5 x6 x7 x8 x9 x10 y0 y1 y2
      cases pb
      · have HF : Hid (R = false) := by show _ = _; rw [← HK2.out]; simp
        go_wp2_with fail
        go_ret
        exact ⟨by rw [HF.out]; rfl, HBW.out _ (by exact bl)⟩
      · have HN : Hid ((colsFrom t.cols (t.cols.drop (j + 1)) (j + 1) && (t.uniq.all (inB t.cols.length) && (t.refs.all (refB t.cols.length) && decide (checkX t.cols t.chk = 0)))) = R) := by show _ = _; rw [← HK2.out]; simp
        go_wp2_with fail
        go_roundw
        case rel => exact ⟨j + 1, by omega, by go_num, HN, hb03⟩
        case measure => simp [intOf]; omega
    obtain rfl : j = t.cols.length := by omega
    have HU0 : Hid (((t.uniq.drop 0).all (inB t.cols.length) && (t.refs.all (refB t.cols.length) && decide (checkX t.cols t.chk = 0))) = R) := by
      show _ = _
      rw [← HJ.out, List.drop_zero, List.drop_of_length_le (Nat.le_refl _)]
      rfl
    have b0 : ¬ ((t.cols.length : Int) < (t.cols.length : Int)) := by omega
    clear HJ hlt
    go_wp2_with fail
    go_loopw [6] (fun i wr => ∃ j : Nat, j ≤ t.uniq.length ∧ i = .int .i64 j ∧ Hid (((t.uniq.drop j).all (inB t.cols.length) && (t.refs.all (refB t.cols.length) && decide (checkX t.cols t.chk = 0))) = R) ∧ Below w0.heap.size w0 wr) (fun i _ => t.uniq.length - (intOf i).toNat)
    case atStart => exact ⟨0, by omega, rfl, HU0, hbr⟩
    case round =>
      obtain ⟨j, hj, rfl, HJ, hbr⟩ := hrel
      clear x0 x1 x2 x3 x4 x5 x6 x7 x8 x9 x10
      obtain ⟨W, rfl⟩ : ∃ W, W = wr := ⟨_, rfl⟩
      obtain ⟨x0, x1, x2, x3, x4, x5, x6, x7, x8, x9, x10⟩ := HSH.out W hbr
      have hzr := hbr.size
      by_cases hlt : j < t.uniq.length
      · obtain ⟨b1, o1, x, rfl, hbB, hv, c0⟩ := (HU.out W hbr).at_ hlt
        have hJ := HJ.out
        rw [dropI t.uniq j x hv, List.all_cons] at hJ
        have HK := Lib.hid hJ
        have i2 : (0 : Int) ≤ (j : Int) := by omega
        have i3 : (j : Int) < (t.uniq.length : Int) := by omega
        clear hJ HJ hv
        by_cases g5 : x < 0
        · have d5 : inB t.cols.length x = false := by unfold inB; simp; omega
          have HF : Hid (R = false) := by show _ = _; rw [← HK.out]; rw [d5]; simp
          go_wp2_with fail
          go_ret
          exact ⟨by rw [HF.out]; rfl, HBW.out _ (by exact bl)⟩
        by_cases g6 : (t.cols.length : Int) ≤ x
        · have d5 : inB t.cols.length x = false := by unfold inB; simp; omega
          have g6' : decide (x ≥ (t.cols.length : Int)) = true := by simpa using g6
          have HF : Hid (R = false) := by show _ = _; rw [← HK.out]; rw [d5]; simp
          go_wp2_with fail
          go_ret
          exact ⟨by rw [HF.out]; rfl, HBW.out _ (by exact bl)⟩
        have g6' : decide (x ≥ (t.cols.length : Int)) = false := by simpa using g6
        have d5 : inB t.cols.length x = true := by unfold inB; simp; omega
        have HN : Hid (((t.uniq.drop (j + 1)).all (inB t.cols.length) && (t.refs.all (refB t.cols.length) && decide (checkX t.cols t.chk = 0))) = R) := by show _ = _; rw [← HK.out, d5]; simp
        clear HK d5
        go_wp2_with fail
        go_roundw
        case rel => exact ⟨j + 1, by omega, by go_num, HN, by exact bl⟩
        case measure => simp [intOf]; omega
      obtain rfl : j = t.uniq.length := by omega
      have HR0 : Hid (((t.refs.drop 0).all (refB t.cols.length) && decide (checkX t.cols t.chk = 0)) = R) := by
        show _ = _
        rw [← HJ.out, List.drop_zero, List.drop_of_length_le (Nat.le_refl _)]
        rfl
      have b0 : ¬ ((t.uniq.length : Int) < (t.uniq.length : Int)) := by omega
      clear HJ hlt
      go_wp2_with fail
      go_loopw [7] (fun i wr => ∃ j : Nat, j ≤ t.refs.length ∧ i = .int .i64 j ∧ Hid (((t.refs.drop j).all (refB t.cols.length) && decide (checkX t.cols t.chk = 0)) = R) ∧ Below w0.heap.size w0 wr) (fun i _ => t.refs.length - (intOf i).toNat)
      case atStart => exact ⟨0, by omega, rfl, HR0, hbr⟩
      case round =>
        obtain ⟨j, hj, rfl, HJ, hbr⟩ := hrel
        clear x0 x1 x2 x3 x4 x5 x6 x7 x8 x9 x10
        obtain ⟨W, rfl⟩ : ∃ W, W = wr := ⟨_, rfl⟩
        obtain ⟨x0, x1, x2, x3, x4, x5, x6, x7, x8, x9, x10⟩ := HSH.out W hbr
        have hzr := hbr.size
        by_cases hlt : j < t.refs.length
        · obtain ⟨b1, o1, x, rfl, hbB, hv, c0, c1⟩ := (HFQ.out W hbr).at_ hlt
          have hJ := HJ.out
          rw [dropF t.refs j x hv, List.all_cons] at hJ
          have hxl := HRT.out x (List.mem_of_getElem? hv)
          have HN1 := Lib.hid (HNM.out W x.t hxl)
          obtain ⟨nb, hnb⟩ : ∃ b, nameR x.t = b := ⟨_, rfl⟩
          unfold refB at hJ
          rw [hnb] at HN1 hJ
          have HK := Lib.hid hJ
          have i2 : (0 : Int) ≤ (j : Int) := by omega
          have i3 : (j : Int) < (t.refs.length : Int) := by omega
          clear hJ HJ hv hnb hxl
          by_cases g5 : x.c < 0
          · have d5 : inB t.cols.length x.c = false := by unfold inB; simp; omega
            have HF2 : Hid (R = false) := by show _ = _; rw [← HK.out]; rw [d5]; simp
            go_wp2_with fail
            go_ret
            exact ⟨by rw [HF2.out]; rfl, HBW.out _ (by exact bl)⟩
          by_cases g6 : (t.cols.length : Int) ≤ x.c
          · have d5 : inB t.cols.length x.c = false := by unfold inB; simp; omega
            have g6' : decide (x.c ≥ (t.cols.length : Int)) = true := by simpa using g6
            have HF2 : Hid (R = false) := by show _ = _; rw [← HK.out]; rw [d5]; simp
            go_wp2_with fail
            go_ret
            exact ⟨by rw [HF2.out]; rfl, HBW.out _ (by exact bl)⟩
          have g6' : decide (x.c ≥ (t.cols.length : Int)) = false := by simpa using g6
          have d5 : inB t.cols.length x.c = true := by unfold inB; simp; omega
          go_wp2_with fail
          refine HN1.out.mono ?_
          rintro en w2 ⟨rfl, hb2⟩
          have hb02 : Below w0.heap.size w0 w2 := hbr.trans (hb2.mono hzr)
          cases nb
          · have HF2 : Hid (R = false) := by show _ = _; rw [← HK.out, d5]; rfl
            clear HK d5
            go_wp2_with fail
            go_ret
            exact ⟨by rw [HF2.out]; rfl, HBW.out _ (by exact bl)⟩
          · have HN : Hid (((t.refs.drop (j + 1)).all (refB t.cols.length) && decide (checkX t.cols t.chk = 0)) = R) := by show _ = _; rw [← HK.out, d5]; rfl
            clear HK d5
            go_wp2_with fail
            go_roundw
            case rel => exact ⟨j + 1, by omega, by go_num, HN, by exact bl⟩
            case measure => simp [intOf]; omega
        obtain rfl : j = t.refs.length := by omega
        have hk : decide (checkX t.cols t.chk = 0) = R := by
          rw [← HJ.out, List.drop_of_length_le (Nat.le_refl _)]
          rfl
        have b0 : ¬ ((t.refs.length : Int) < (t.refs.length : Int)) := by omega
        have HC1 := Lib.hid (HCK.out W hbr)
        obtain ⟨ck, hck⟩ : ∃ c, checkX t.cols t.chk = c := ⟨_, rfl⟩
        rw [hck] at HC1 hk
        have hk' : (ck == 0) = R := by rw [← hk, Bool.eq_iff_iff]; simp
        have HKK := Lib.hid hk'
        clear HJ hlt hk hck hk'
        go_wp2_with fail
        refine HC1.out.mono ?_
        rintro en w2 ⟨rfl, hb2⟩
        have hb02 : Below w0.heap.size w0 w2 := hbr.trans (hb2.mono hzr)
        have hkk := HKK.out
        go_wp2_with fail
        go_ret
        exact ⟨rfl, HBW.out _ hb02⟩

end Go.Proofs.YtdhjogmkhbpcgaaGreat
