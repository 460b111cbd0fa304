/- caddislaw01.ValueOrders answers true, whatever three values: the order of values is one: either way round, and on from one to the next; two that are the same are equal, but NULLs. No condition beyond the row's own. -/
import Derived.Test.YtdoonajhplcmlaaDoorValueLess
namespace Go.Proofs.YtdoonajhplcmlaaDoor
open Go.RowKit

attribute [local go_sem] ByteArray.extract_mk ba_get ba_append
attribute [local go_sem ↓] Go.wp_at_zero Go.wp_at_succ run_eql_V run_neq_V run_field0 run_field1 run_field2
attribute [local go_sem] veq_self

def V.gd (v : V) : V := goodV v.k v.i v.s
theorem ret_may' {k i : Int} {s : List UInt8} {w : World} {b : Bool} (h : mayB k i s = b) : Calls Tryd.prog 16 #[.agg #[.int .i64 k, .int .i64 i, .string ⟨s.toArray⟩]] w (Ret (.bool b) w) := by
  subst h; exact may_any k i s w
theorem bless_trans : ∀ (a b c : List UInt8), Op.bytesLess a b = true → Op.bytesLess b c = true → Op.bytesLess a c = true
  | _, [], _, h, _ => by cases ‹List UInt8› <;> simp [Op.bytesLess] at h
  | _, _ :: _, [], _, h => by simp [Op.bytesLess] at h
  | [], _ :: _, _ :: _, _, _ => by simp [Op.bytesLess]
  | x :: a, y :: b, z :: c, h1, h2 => by
    simp only [Op.bytesLess, Bool.or_eq_true, decide_eq_true_eq, Bool.and_eq_true, beq_iff_eq] at h1 h2 ⊢
    rcases h1 with h1 | ⟨e1, h1⟩
    · rcases h2 with h2 | ⟨e2, h2⟩
      · exact .inl (UInt8.lt_trans h1 h2)
      · subst e2; exact .inl h1
    · subst e1
      rcases h2 with h2 | ⟨e2, h2⟩
      · exact .inl h2
      · exact .inr ⟨e2, bless_trans a b c h1 h2⟩
theorem vlt_trans (a b c : V) (h1 : vlt a b = true) (h2 : vlt b c = true) : vlt a c = true := by
  unfold vlt at *
  simp only [Bool.or_eq_true, decide_eq_true_eq, Bool.and_eq_true] at *
  rcases h1 with h1 | ⟨e1, h1⟩
  · rcases h2 with h2 | ⟨e2, h2⟩
    · exact .inl (by omega)
    · exact .inl (by omega)
  · rcases h2 with h2 | ⟨e2, h2⟩
    · exact .inl (by omega)
    · refine .inr ⟨by omega, ?_⟩
      rcases h1 with h1 | ⟨e3, h1⟩
      · rcases h2 with h2 | ⟨e4, h2⟩
        · exact .inl (by omega)
        · exact .inl (by omega)
      · rcases h2 with h2 | ⟨e4, h2⟩
        · exact .inl (by omega)
        · exact .inr ⟨by omega, bless_trans _ _ _ h1 h2⟩
theorem veq_iff (a b : V) : veq a b = true ↔ a = b := by
  unfold veq
  simp only [Bool.and_eq_true, decide_eq_true_eq, beq_iff_eq]
  constructor
  · rintro ⟨h1, h2, h3⟩
    obtain ⟨k, i, s⟩ := a
    obtain ⟨k', i', s'⟩ := b
    simp only at h1 h2 h3
    subst h1 h2 h3
    rfl
  · rintro rfl; simp
theorem vord_cases (a b : V) : (vord a b = 0 ∧ vord b a = 0 ∧ a = b) ∨ (vord a b = -1 ∧ vord b a = 1 ∧ vlt a b = true ∧ a ≠ b) ∨ (vord a b = 1 ∧ vord b a = -1 ∧ vlt b a = true ∧ a ≠ b) := by
  unfold vord
  rcases tri a b with ⟨h1, h2⟩ | ⟨h1, h2, h3, h4⟩ | ⟨h1, h2, h3, h4⟩
  · exact .inl ⟨by rw [h1]; rfl, by rw [h2]; rfl, (veq_iff a b).1 h1⟩
  · exact .inr (.inl ⟨by rw [h2, h1]; rfl, by rw [h4, h3]; rfl, h1, fun e => by rw [(veq_iff a b).2 e] at h2; cases h2⟩)
  · exact .inr (.inr ⟨by rw [h4, h3]; rfl, by rw [h2, h1]; rfl, h1, fun e => by rw [(veq_iff a b).2 e] at h4; cases h4⟩)
theorem vord_trans (a b c : V) (h1 : vord a b ≤ 0) (h2 : vord b c ≤ 0) : vord a c ≤ 0 := by
  rcases vord_cases a b with ⟨e, _, rfl⟩ | ⟨e, _, g, _⟩ | ⟨e, _⟩
  · exact h2
  · rcases vord_cases b c with ⟨e', _, rfl⟩ | ⟨e', _, g', _⟩ | ⟨e', _⟩
    · exact h1
    · have g2 := vlt_trans a b c g g'
      rcases vord_cases a c with ⟨e2, _⟩ | ⟨e2, _⟩ | ⟨e2, _, g3, hne⟩
      · omega
      · omega
      · rcases tri a c with ⟨q, _⟩ | ⟨_, _, q, _⟩ | ⟨_, _, q, _⟩
        · exact absurd ((veq_iff a c).1 q) hne
        · rw [g3] at q; cases q
        · rw [g2] at q; cases q
    · omega
  · omega
/-- What the law asks of Order, Equal, Less, as plain facts. -/
theorem order_facts (a b c : V) (X Y Z N : Int) (hX : vord a.gd b.gd = X) (hY : vord b.gd c.gd = Y) (hZ : vord a.gd c.gd = Z) (hN : vord b.gd a.gd = N) :
    X = -N ∧ (-1 ≤ X ∧ X ≤ 1) ∧ (-1 ≤ N ∧ N ≤ 1) ∧ (X ≤ 0 → Y ≤ 0 → Z ≤ 0) ∧ (a.may = true → b.may = true → (X == 0) = veq a b) := by
  refine ⟨?_, ?_, ?_, ?_, ?_⟩
  · rcases vord_cases a.gd b.gd with ⟨h1, h2, _⟩ | ⟨h1, h2, _⟩ | ⟨h1, h2, _⟩ <;> omega
  · rcases vord_cases a.gd b.gd with ⟨h1, h2, _⟩ | ⟨h1, h2, _⟩ | ⟨h1, h2, _⟩ <;> omega
  · rcases vord_cases a.gd b.gd with ⟨h1, h2, _⟩ | ⟨h1, h2, _⟩ | ⟨h1, h2, _⟩ <;> omega
  · intro h1 h2
    rw [← hZ]
    exact vord_trans a.gd b.gd c.gd (by omega) (by omega)
  · intro ma mb
    have ea : a.gd = a := V.good_may ma
    have eb : b.gd = b := V.good_may mb
    rw [ea, eb] at hX
    rcases vord_cases a b with ⟨h1, _, rfl⟩ | ⟨h1, _, _, hne⟩ | ⟨h1, _, _, hne⟩
    · rw [hX] at h1; subst h1; simp [veq_self]
    · rw [hX] at h1; subst h1
      cases h : veq a b
      · rfl
      · exact absurd ((veq_iff a b).1 h) hne
    · rw [hX] at h1; subst h1
      cases h : veq a b
      · rfl
      · exact absurd ((veq_iff a b).1 h) hne

theorem order_equal (x y : V) (X : Int) (hX : vord x.gd y.gd = X) : (equalV x y = ⟨0, 0, []⟩ ∧ lessV x y = ⟨0, 0, []⟩) ∨ (X = 0 ∧ equalV x y = ⟨3, 1, []⟩ ∧ lessV x y = ⟨3, 0, []⟩) ∨
    (X = -1 ∧ equalV x y = ⟨3, 0, []⟩ ∧ lessV x y = ⟨3, 1, []⟩) ∨ (X = 1 ∧ equalV x y = ⟨3, 0, []⟩ ∧ lessV x y = ⟨3, 0, []⟩) := by
  unfold lessV equalV
  cases h : alikeB x y
  · exact .inl ⟨rfl, rfl⟩
  · obtain ⟨ma, mb, _, _⟩ := alike_parts h
    have ea : goodV x.k x.i x.s = x := V.good_may ma
    have eb : goodV y.k y.i y.s = y := V.good_may mb
    have hX2 : vord x y = X := by have := hX; unfold V.gd at this; rw [ea, eb] at this; exact this
    rw [ea, eb, cord_eq, hX2]
    simp only [if_true]
    rcases vord_cases x y with ⟨h1, _, rfl⟩ | ⟨h1, _, _, hne⟩ | ⟨h1, _, _, hne⟩
    · rw [hX2] at h1; subst h1
      exact .inr (.inl ⟨rfl, by rw [veq_self]; rfl, rfl⟩)
    · rw [hX2] at h1; subst h1
      have : veq x y = false := by
        cases q : veq x y
        · rfl
        · exact absurd ((veq_iff x y).1 q) hne
      exact .inr (.inr (.inl ⟨rfl, by rw [this]; rfl, rfl⟩))
    · rw [hX2] at h1; subst h1
      have : veq x y = false := by
        cases q : veq x y
        · rfl
        · exact absurd ((veq_iff x y).1 q) hne
      exact .inr (.inr (.inr ⟨rfl, by rw [this]; rfl, rfl⟩))

/-- Two blocks, wherever they came to lie, hold two values. -/
def Held2 (W w : World) (p q : Value) (x y : V) : Prop :=
  ∃ g1 g2, p = .pointer (some ⟨g1, 0, none⟩) ∧ q = .pointer (some ⟨g2, 0, none⟩) ∧ Blk w g1 23 #[.int .i64 (x).k, .int .i64 (x).i, .string ⟨(x).s.toArray⟩] ∧ Blk w g2 23 #[.int .i64 (y).k, .int .i64 (y).i, .string ⟨(y).s.toArray⟩] ∧ Below W.heap.size W w
def OrdI (W : World) (v1 v2 : Value) (F : Value → Value → Value → Value → Array Value) (L : Array Bool) (a : Act) (w : World) : Prop :=
  L.size = 10 ∧ (Up L 0 ∧ Up L 1 ∧ Up L 3 ∧ Up L 4) ∧ (L.getD 8 true = false ∧ L.getD 9 true = false) ∧ (Up L 5 → Up L 2) ∧ Below W.heap.size W w ∧
    ∃ U10 U11 U63 U66, a = ⟨F U10 U11 U63 U66, []⟩ ∧ Slot L 2 U63 v1 ∧ Slot L 5 U66 v2 ∧ Newv L 6 W.heap.size w U10 ∧ Newv L 7 W.heap.size w U11 ∧ Diff L 6 7 U10 U11

set_option maxRecDepth 100000 in
set_option maxHeartbeats 8000000 in
theorem valueOrders_walk (a b c : V) (w : World) (_ia : inI a.i) (_ib : inI b.i) (_ic : inI c.i) (hM : MaxL w) :
    Calls Tryd.prog 4 #[.agg #[.int .i64 (a).k, .int .i64 (a).i, .string ⟨(a).s.toArray⟩], .agg #[.int .i64 (b).k, .int .i64 (b).i, .string ⟨(b).s.toArray⟩], .agg #[.int .i64 (c).k, .int .i64 (c).i, .string ⟨(c).s.toArray⟩]] w (Ret (.bool true) w) := by
  have HM := Lib.hid hM
  clear hM
  go_enter Tryd.func4, Tryd.ntmps4
  have l0 : w.heap.size < w.heap.size + 1 + 1 + 1 := by omega
  have l0' : w.heap.size + 1 < w.heap.size + 1 + 1 + 1 := by omega
  go_upto_region 1 with fail
  go_cut [] (fun wx => Three w.heap.size a.few b.few c.few wx ∧ Below w.heap.size w wx)
  case first =>
    go_region_with (go_at_call 15; refine (few1_any _ _ _ _).mono ?_; rintro e w1 ⟨rfl, hb⟩; obtain ⟨hc, hf⟩ := bcell hb; have hz := hb.size; (try simp at hz hc hf); have l1 : w.heap.size < w1.heap.size := (by omega); have l2 : w.heap.size + 1 < w1.heap.size := (by omega); have l3 : w.heap.size + 1 + 1 < w1.heap.size := (by omega))
    all_goals (go_wp2_with fail; go_meet)
    all_goals refine ⟨three_set w1 _ a.few b.few c.few (.int .i64 a.k) (.int .i64 a.i) (.string ⟨a.s.toArray⟩) (.int .i64 b.k) (.int .i64 b.i) (.string ⟨b.s.toArray⟩) (.int .i64 c.k) (.int .i64 c.i) (.string ⟨c.s.toArray⟩) ?_ ?_ ?_ ?_ ?_ ?_ ?_ ?_ ?_, ?_⟩
    all_goals first | (simp [*, go_sem]; done) | ((repeat' (first | with_reducible exact Below.refl _ _ | with_reducible assumption | with_reducible refine Below.drew ?_ | with_reducible refine below_drewN ?_ _ | with_reducible refine Below.setCell ?_ ?_ _ | with_reducible refine Below.alloc ?_ ?_ _ | with_reducible refine Below.trans ?_ (Below.mono (by assumption) ?_))) <;> (first | (simp; done) | (simp; omega) | omega))
  case rest =>
    obtain ⟨⟨⟨a0, a1, a2⟩, ⟨b0, b1, b2⟩, c0, c1, c2⟩, hbw⟩ := hcut
    have l1 : w.heap.size < wc.heap.size := Blk_lt_of_cell a0
    have l2 : w.heap.size + 1 < wc.heap.size := Blk_lt_of_cell b0
    have l3 : w.heap.size + 1 + 1 < wc.heap.size := Blk_lt_of_cell c0
    have HMW := Lib.hid (HM.out.below hbw rfl)
    generalize a.few = x at *
    generalize b.few = y at *
    generalize c.few = z at *
    obtain ⟨X, hX⟩ : ∃ X, vord x.gd y.gd = X := ⟨_, rfl⟩
    obtain ⟨Y, hY⟩ : ∃ Y, vord y.gd z.gd = Y := ⟨_, rfl⟩
    obtain ⟨Z, hZ⟩ : ∃ Z, vord x.gd z.gd = Z := ⟨_, rfl⟩
    obtain ⟨N, hN⟩ : ∃ N, vord y.gd x.gd = N := ⟨_, rfl⟩
    obtain ⟨g1, g2, g3, g4, g5⟩ := order_facts x y z X Y Z N hX hY hZ hN
    have HX := Lib.hid hX
    have HY := Lib.hid hY
    have HZ := Lib.hid hZ
    have HN := Lib.hid hN
    have HSH : Hid (∀ w' : World, Below wc.heap.size wc w' → (w'.cell? ⟨w.heap.size, 0, none⟩ = some (.int .i64 (x).k) ∧ w'.cell? ⟨w.heap.size, 1, none⟩ = some (.int .i64 (x).i) ∧ w'.cell? ⟨w.heap.size, 2, none⟩ = some (.string ⟨(x).s.toArray⟩) ∧ w'.cell? ⟨w.heap.size + 1, 0, none⟩ = some (.int .i64 (y).k) ∧ w'.cell? ⟨w.heap.size + 1, 1, none⟩ = some (.int .i64 (y).i) ∧ w'.cell? ⟨w.heap.size + 1, 2, none⟩ = some (.string ⟨(y).s.toArray⟩) ∧ w'.cell? ⟨w.heap.size + 1 + 1, 0, none⟩ = some (.int .i64 (z).k) ∧ w'.cell? ⟨w.heap.size + 1 + 1, 1, none⟩ = some (.int .i64 (z).i) ∧ w'.cell? ⟨w.heap.size + 1 + 1, 2, none⟩ = some (.string ⟨(z).s.toArray⟩))) :=
      fun w' h => ⟨(h.cell l1).trans a0, (h.cell l1).trans a1, (h.cell l1).trans a2, (h.cell l2).trans b0, (h.cell l2).trans b1, (h.cell l2).trans b2, (h.cell l3).trans c0, (h.cell l3).trans c1, (h.cell l3).trans c2⟩
    clear a0 a1 a2 b0 b1 b2 c0 c1 c2 HM hX hY hZ hN
    have G1 := Lib.hid g1
    have G4 := Lib.hid g4
    have G5 := Lib.hid g5
    clear g1 g4 g5
    obtain ⟨W, rfl⟩ : ∃ W, W = wc := ⟨_, rfl⟩
    go_upto_region 2 with fail
    go_cut [7, 8, 9] (fun s7 s8 s9 wx => s7 = .int .i64 X ∧ s8 = .int .i64 Y ∧ s9 = .int .i64 Z ∧ Below W.heap.size W wx)
    case first =>
      refine wp_region_held_drew (S := (fun w' => w'.cell? ⟨w.heap.size, 0, none⟩ = some (.int .i64 (x).k) ∧ w'.cell? ⟨w.heap.size, 1, none⟩ = some (.int .i64 (x).i) ∧ w'.cell? ⟨w.heap.size, 2, none⟩ = some (.string ⟨(x).s.toArray⟩) ∧ w'.cell? ⟨w.heap.size + 1, 0, none⟩ = some (.int .i64 (y).k) ∧ w'.cell? ⟨w.heap.size + 1, 1, none⟩ = some (.int .i64 (y).i) ∧ w'.cell? ⟨w.heap.size + 1, 2, none⟩ = some (.string ⟨(y).s.toArray⟩) ∧ w'.cell? ⟨w.heap.size + 1 + 1, 0, none⟩ = some (.int .i64 (z).k) ∧ w'.cell? ⟨w.heap.size + 1 + 1, 1, none⟩ = some (.int .i64 (z).i) ∧ w'.cell? ⟨w.heap.size + 1 + 1, 2, none⟩ = some (.string ⟨(z).s.toArray⟩))) (by kernel_rfl) ?_ (fun hHeld => ?_)
      · try dsimp only
        exact HSH.out _ (by ((repeat' (first | with_reducible exact Below.refl _ _ | with_reducible assumption | with_reducible refine Below.drew ?_ | with_reducible refine below_drewN ?_ _ | with_reducible refine Below.setCell ?_ ?_ _ | with_reducible refine Below.alloc ?_ ?_ _ | with_reducible refine Below.trans ?_ (Below.mono (by assumption) ?_))) <;> (first | (simp; done) | (simp; omega) | omega)))
      refine wpAnyH_take (i := 0) (v := ?_) rfl (by kernel_rfl) (by kernel_rfl) (by kernel_rfl) (fun _ _ _ h => h) (Or.inl ⟨by rfl, ?_⟩) (by assumption) ?_
      rotate_left
      · intro wq hSw
        try dsimp only at hSw
        go_simp
        try with_reducible rfl
      try simp only [Act.put, List.getElem_toArray, List.getElem_cons_zero, List.setIfInBounds_toArray, List.set_cons_zero, List.set_cons_succ]
      refine wpAnyH_take (i := 1) (v := ?_) rfl (by kernel_rfl) (by kernel_rfl) (by kernel_rfl) (fun _ _ _ h => h) (Or.inl ⟨by rfl, ?_⟩) (by assumption) ?_
      rotate_left
      · intro wq hSw
        try dsimp only at hSw
        go_simp
        try with_reducible rfl
      try simp only [Act.put, List.getElem_toArray, List.getElem_cons_zero, List.getElem_cons_succ, List.setIfInBounds_toArray, List.set_cons_zero, List.set_cons_succ]
      refine wpAnyH_take (i := 3) (v := ?_) rfl (by kernel_rfl) (by kernel_rfl) (by kernel_rfl) (fun _ _ _ h => h) (Or.inl ⟨by rfl, ?_⟩) (by assumption) ?_
      rotate_left
      · intro wq hSw
        try dsimp only at hSw
        go_simp
        try with_reducible rfl
      try simp only [Act.put, List.getElem_toArray, List.getElem_cons_zero, List.getElem_cons_succ, List.setIfInBounds_toArray, List.set_cons_zero, List.set_cons_succ]
      refine wpAnyH_take (i := 4) (v := ?_) rfl (by kernel_rfl) (by kernel_rfl) (by kernel_rfl) (fun _ _ _ h => h) (Or.inl ⟨by rfl, ?_⟩) (by assumption) ?_
      rotate_left
      · intro wq hSw
        try dsimp only at hSw
        go_simp
        try with_reducible rfl
      try simp only [Act.put, List.getElem_toArray, List.getElem_cons_zero, List.getElem_cons_succ, List.setIfInBounds_toArray, List.set_cons_zero, List.set_cons_succ]
      refine wpAnyH_take (i := 6) (v := ?_) rfl (by kernel_rfl) (by kernel_rfl) (by kernel_rfl) (fun _ _ _ h => h) (Or.inl ⟨by rfl, ?_⟩) (by assumption) ?_
      rotate_left
      · intro wq hSw
        try dsimp only at hSw
        go_simp
        try with_reducible rfl
      try simp only [Act.put, List.getElem_toArray, List.getElem_cons_zero, List.getElem_cons_succ, List.setIfInBounds_toArray, List.set_cons_zero, List.set_cons_succ]
      refine wpAnyH_take (i := 7) (v := ?_) rfl (by kernel_rfl) (by kernel_rfl) (by kernel_rfl) (fun _ _ _ h => h) (Or.inl ⟨by rfl, ?_⟩) (by assumption) ?_
      rotate_left
      · intro wq hSw
        try dsimp only at hSw
        go_simp
        try with_reducible rfl
      try simp only [Act.put, List.getElem_toArray, List.getElem_cons_zero, List.getElem_cons_succ, List.setIfInBounds_toArray, List.set_cons_zero, List.set_cons_succ]
      refine wpAnyH_ready (rs := [2]) (by kernel_rfl) (by simp) ?_
      refine AllReadyH.cons rfl (fun K hK => ?_) AllReadyH.nil
      go_simp
      refine (vorder_any _ _ _ _ _ _ _).mono ?_ <;> rw [cord_eq] <;> rintro e w2 ⟨rfl, hb2⟩ <;> have hz2 := hb2.size <;> (try simp at hz2)
      go_wp2_with fail
      refine hK.out _ _ ?_ (fun hHeld => ?_)
      · try dsimp only
        exact HSH.out _ (by ((repeat' (first | with_reducible exact Below.refl _ _ | with_reducible assumption | with_reducible refine Below.drew ?_ | with_reducible refine below_drewN ?_ _ | with_reducible refine Below.setCell ?_ ?_ _ | with_reducible refine Below.alloc ?_ ?_ _ | with_reducible refine Below.trans ?_ (Below.mono (by assumption) ?_))) <;> (first | (simp; done) | (simp; omega) | omega)))
      clear hK K
      try simp only [Act.put, List.getElem_toArray, List.getElem_cons_zero, List.getElem_cons_succ, List.setIfInBounds_toArray, List.set_cons_zero, List.set_cons_succ]
      refine wpAnyH_ready (rs := [5]) (by kernel_rfl) (by simp) ?_
      refine AllReadyH.cons rfl (fun K hK => ?_) AllReadyH.nil
      go_simp
      refine (vorder_any _ _ _ _ _ _ _).mono ?_ <;> rw [cord_eq] <;> rintro e w5 ⟨rfl, hb5⟩ <;> have hz5 := hb5.size <;> (try simp at hz5)
      go_wp2_with fail
      refine hK.out _ _ ?_ (fun hHeld => ?_)
      · try dsimp only
        exact HSH.out _ (by ((repeat' (first | with_reducible exact Below.refl _ _ | with_reducible assumption | with_reducible refine Below.drew ?_ | with_reducible refine below_drewN ?_ _ | with_reducible refine Below.setCell ?_ ?_ _ | with_reducible refine Below.alloc ?_ ?_ _ | with_reducible refine Below.trans ?_ (Below.mono (by assumption) ?_))) <;> (first | (simp; done) | (simp; omega) | omega)))
      clear hK K
      try simp only [Act.put, List.getElem_toArray, List.getElem_cons_zero, List.getElem_cons_succ, List.setIfInBounds_toArray, List.set_cons_zero, List.set_cons_succ]
      refine wpAnyH_ready (rs := [8]) (by kernel_rfl) (by simp) ?_
      refine AllReadyH.cons rfl (fun K hK => ?_) AllReadyH.nil
      go_simp
      refine (vorder_any _ _ _ _ _ _ _).mono ?_ <;> rw [cord_eq] <;> rintro e w8 ⟨rfl, hb8⟩ <;> have hz8 := hb8.size <;> (try simp at hz8)
      go_wp2_with fail
      refine hK.out _ _ ?_ (fun hHeld => ?_)
      · try dsimp only
        exact HSH.out _ (by ((repeat' (first | with_reducible exact Below.refl _ _ | with_reducible assumption | with_reducible refine Below.drew ?_ | with_reducible refine below_drewN ?_ _ | with_reducible refine Below.setCell ?_ ?_ _ | with_reducible refine Below.alloc ?_ ?_ _ | with_reducible refine Below.trans ?_ (Below.mono (by assumption) ?_))) <;> (first | (simp; done) | (simp; omega) | omega)))
      clear hK K
      try simp only [Act.put, List.getElem_toArray, List.getElem_cons_zero, List.getElem_cons_succ, List.setIfInBounds_toArray, List.set_cons_zero, List.set_cons_succ]
      refine wpAnyH_take (i := 9) (v := ?_) rfl (by kernel_rfl) (by kernel_rfl) (by kernel_rfl) (fun _ _ _ h => h) (Or.inl ⟨by rfl, ?_⟩) (by assumption) ?_
      rotate_left
      · intro wq hSw
        try dsimp only at hSw
        go_simp
        try with_reducible rfl
      try simp only [Act.put, List.getElem_toArray, List.getElem_cons_zero, List.getElem_cons_succ, List.setIfInBounds_toArray, List.set_cons_zero, List.set_cons_succ]
      refine wpAnyH_take (i := 10) (v := ?_) rfl (by kernel_rfl) (by kernel_rfl) (by kernel_rfl) (fun _ _ _ h => h) (Or.inl ⟨by rfl, ?_⟩) (by assumption) ?_
      rotate_left
      · intro wq hSw
        try dsimp only at hSw
        go_simp
        try with_reducible rfl
      try simp only [Act.put, List.getElem_toArray, List.getElem_cons_zero, List.getElem_cons_succ, List.setIfInBounds_toArray, List.set_cons_zero, List.set_cons_succ]
      refine wpAnyH_take (i := 11) (v := ?_) rfl (by kernel_rfl) (by kernel_rfl) (by kernel_rfl) (fun _ _ _ h => h) (Or.inl ⟨by rfl, ?_⟩) (by assumption) ?_
      rotate_left
      · intro wq hSw
        try dsimp only at hSw
        go_simp
        try with_reducible rfl
      try simp only [Act.put, List.getElem_toArray, List.getElem_cons_zero, List.getElem_cons_succ, List.setIfInBounds_toArray, List.set_cons_zero, List.set_cons_succ]
      refine wpAnyH_done (by kernel_rfl) ?_ _
      all_goals (go_wp2_with fail; go_meet)
      all_goals refine ⟨by rw [← HX.out]; rfl, by rw [← HY.out]; rfl, by rw [← HZ.out]; rfl, ?_⟩
      all_goals ((repeat' (first | with_reducible exact Below.refl _ _ | with_reducible assumption | with_reducible refine Below.drew ?_ | with_reducible refine below_drewN ?_ _ | with_reducible refine Below.setCell ?_ ?_ _ | with_reducible refine Below.alloc ?_ ?_ _ | with_reducible refine Below.trans ?_ (Below.mono (by assumption) ?_))) <;> (first | (simp; done) | (simp; omega) | omega))
    case rest =>
      obtain ⟨rfl, rfl, rfl, hbx⟩ := hcut
      obtain ⟨W2, rfl⟩ : ∃ W2, W2 = wc := ⟨_, rfl⟩
      have hzx := hbx.size
      have HMX := Lib.hid (HMW.out.below hbx rfl)
      have HSX : Hid (∀ w' : World, Below W2.heap.size W2 w' → (w'.cell? ⟨w.heap.size, 0, none⟩ = some (.int .i64 (x).k) ∧ w'.cell? ⟨w.heap.size, 1, none⟩ = some (.int .i64 (x).i) ∧ w'.cell? ⟨w.heap.size, 2, none⟩ = some (.string ⟨(x).s.toArray⟩) ∧ w'.cell? ⟨w.heap.size + 1, 0, none⟩ = some (.int .i64 (y).k) ∧ w'.cell? ⟨w.heap.size + 1, 1, none⟩ = some (.int .i64 (y).i) ∧ w'.cell? ⟨w.heap.size + 1, 2, none⟩ = some (.string ⟨(y).s.toArray⟩) ∧ w'.cell? ⟨w.heap.size + 1 + 1, 0, none⟩ = some (.int .i64 (z).k) ∧ w'.cell? ⟨w.heap.size + 1 + 1, 1, none⟩ = some (.int .i64 (z).i) ∧ w'.cell? ⟨w.heap.size + 1 + 1, 2, none⟩ = some (.string ⟨(z).s.toArray⟩))) := fun w' h => HSH.out w' (by ((repeat' (first | with_reducible exact Below.refl _ _ | with_reducible assumption | with_reducible refine Below.drew ?_ | with_reducible refine below_drewN ?_ _ | with_reducible refine Below.setCell ?_ ?_ _ | with_reducible refine Below.alloc ?_ ?_ _ | with_reducible refine Below.trans ?_ (Below.mono (by assumption) ?_))) <;> (first | (simp; done) | (simp; omega) | omega)))
      clear HSH HMW
      go_upto_region 3 with fail
      go_cut [60] (fun s60 wx => s60 = .bool false ∧ Below W2.heap.size W2 wx)
      case first =>
        obtain ⟨r0, r1, r2, q0, q1, q2, _⟩ := HSX.out _ (Below.refl _ _)
        have m1 : w.heap.size < W2.heap.size := by omega
        have m2 : w.heap.size + 1 < W2.heap.size := by omega
        obtain ⟨g2a, g2b⟩ := g2
        obtain ⟨g3a, g3b⟩ := g3
        have hne : (X != -N) = false := by rw [← G1.out]; simp
        clear HSX HMX
        by_cases hx : X ≤ 0
        · by_cases hy : Y ≤ 0
          · have hz : ¬ 0 < Z := by have := G4.out hx hy; omega
            cases hm : mayB x.k x.i x.s
            · have Hm := Lib.hid hm
              clear hm
              go_wp2_with fail
              refine (vorder_any _ _ _ _ _ _ _).mono ?_
              rw [cord_eq]
              rintro e w3 ⟨rfl, hb3⟩
              have hz3 := hb3.size
              obtain ⟨hc3, hf3⟩ := bcell hb3
              have eN : vord (goodV y.k y.i y.s) (goodV x.k x.i x.s) = N := HN.out
              rw [eN]
              clear eN
              go_wp2_with fail
              refine (ret_may' Hm.out).mono ?_
              rintro e w4 ⟨rfl, hb4⟩
              have hz4 := hb4.size
              go_wp2_with fail
              go_meet
              exact ⟨by first | (simp; done) | (simp; omega), by ((repeat' (first | with_reducible exact Below.refl _ _ | with_reducible assumption | with_reducible refine Below.drew ?_ | with_reducible refine below_drewN ?_ _ | with_reducible refine Below.setCell ?_ ?_ _ | with_reducible refine Below.alloc ?_ ?_ _ | with_reducible refine Below.trans ?_ (Below.mono (by assumption) ?_))) <;> (first | (simp; done) | (simp; omega) | omega))⟩
            · have Hm := Lib.hid hm
              clear hm
              cases hn : mayB y.k y.i y.s
              · have Hn := Lib.hid hn
                clear hn
                go_wp2_with fail
                refine (vorder_any _ _ _ _ _ _ _).mono ?_
                rw [cord_eq]
                rintro e w3 ⟨rfl, hb3⟩
                have hz3 := hb3.size
                obtain ⟨hc3, hf3⟩ := bcell hb3
                have eN : vord (goodV y.k y.i y.s) (goodV x.k x.i x.s) = N := HN.out
                rw [eN]
                clear eN
                go_wp2_with fail
                refine (ret_may' Hm.out).mono ?_
                rintro e w4 ⟨rfl, hb4⟩
                have hz4 := hb4.size
                obtain ⟨hc4, hf4⟩ := bcell hb4
                have l4 : w.heap.size + 1 < w3.heap.size := by omega
                go_wp2_with fail
                refine (ret_may' Hn.out).mono ?_
                rintro e w5 ⟨rfl, hb5⟩
                have hz5 := hb5.size
                go_wp2_with fail
                go_meet
                exact ⟨by first | (simp; done) | (simp; omega), by ((repeat' (first | with_reducible exact Below.refl _ _ | with_reducible assumption | with_reducible refine Below.drew ?_ | with_reducible refine below_drewN ?_ _ | with_reducible refine Below.setCell ?_ ?_ _ | with_reducible refine Below.alloc ?_ ?_ _ | with_reducible refine Below.trans ?_ (Below.mono (by assumption) ?_))) <;> (first | (simp; done) | (simp; omega) | omega))⟩
              · have Hn := Lib.hid hn
                have hq := G5.out Hm.out hn
                have HQ := Lib.hid hq
                clear hn hq
                go_wp2_with fail
                refine (vorder_any _ _ _ _ _ _ _).mono ?_
                rw [cord_eq]
                rintro e w3 ⟨rfl, hb3⟩
                have hz3 := hb3.size
                obtain ⟨hc3, hf3⟩ := bcell hb3
                have eN : vord (goodV y.k y.i y.s) (goodV x.k x.i x.s) = N := HN.out
                rw [eN]
                clear eN
                go_wp2_with fail
                refine (ret_may' Hm.out).mono ?_
                rintro e w4 ⟨rfl, hb4⟩
                have hz4 := hb4.size
                obtain ⟨hc4, hf4⟩ := bcell hb4
                have l4 : w.heap.size + 1 < w3.heap.size := by omega
                have l5 : w.heap.size < w3.heap.size := by omega
                go_wp2_with fail
                refine (ret_may' Hn.out).mono ?_
                rintro e w5 ⟨rfl, hb5⟩
                have hz5 := hb5.size
                obtain ⟨hc5, hf5⟩ := bcell hb5
                have l6 : w.heap.size + 1 < w4.heap.size := by omega
                have l7 : w.heap.size < w4.heap.size := by omega
                go_wp2_with fail
                go_meet
                exact ⟨by first | (simp; exact HQ.out) | (simp; exact ⟨by omega, HQ.out⟩), by ((repeat' (first | with_reducible exact Below.refl _ _ | with_reducible assumption | with_reducible refine Below.drew ?_ | with_reducible refine below_drewN ?_ _ | with_reducible refine Below.setCell ?_ ?_ _ | with_reducible refine Below.alloc ?_ ?_ _ | with_reducible refine Below.trans ?_ (Below.mono (by assumption) ?_))) <;> (first | (simp; done) | (simp; omega) | omega))⟩

          · cases hm : mayB x.k x.i x.s
            · have Hm := Lib.hid hm
              clear hm
              go_wp2_with fail
              refine (vorder_any _ _ _ _ _ _ _).mono ?_
              rw [cord_eq]
              rintro e w3 ⟨rfl, hb3⟩
              have hz3 := hb3.size
              obtain ⟨hc3, hf3⟩ := bcell hb3
              have eN : vord (goodV y.k y.i y.s) (goodV x.k x.i x.s) = N := HN.out
              rw [eN]
              clear eN
              go_wp2_with fail
              refine (ret_may' Hm.out).mono ?_
              rintro e w4 ⟨rfl, hb4⟩
              have hz4 := hb4.size
              go_wp2_with fail
              go_meet
              exact ⟨by first | (simp; done) | (simp; omega), by ((repeat' (first | with_reducible exact Below.refl _ _ | with_reducible assumption | with_reducible refine Below.drew ?_ | with_reducible refine below_drewN ?_ _ | with_reducible refine Below.setCell ?_ ?_ _ | with_reducible refine Below.alloc ?_ ?_ _ | with_reducible refine Below.trans ?_ (Below.mono (by assumption) ?_))) <;> (first | (simp; done) | (simp; omega) | omega))⟩
            · have Hm := Lib.hid hm
              clear hm
              cases hn : mayB y.k y.i y.s
              · have Hn := Lib.hid hn
                clear hn
                go_wp2_with fail
                refine (vorder_any _ _ _ _ _ _ _).mono ?_
                rw [cord_eq]
                rintro e w3 ⟨rfl, hb3⟩
                have hz3 := hb3.size
                obtain ⟨hc3, hf3⟩ := bcell hb3
                have eN : vord (goodV y.k y.i y.s) (goodV x.k x.i x.s) = N := HN.out
                rw [eN]
                clear eN
                go_wp2_with fail
                refine (ret_may' Hm.out).mono ?_
                rintro e w4 ⟨rfl, hb4⟩
                have hz4 := hb4.size
                obtain ⟨hc4, hf4⟩ := bcell hb4
                have l4 : w.heap.size + 1 < w3.heap.size := by omega
                go_wp2_with fail
                refine (ret_may' Hn.out).mono ?_
                rintro e w5 ⟨rfl, hb5⟩
                have hz5 := hb5.size
                go_wp2_with fail
                go_meet
                exact ⟨by first | (simp; done) | (simp; omega), by ((repeat' (first | with_reducible exact Below.refl _ _ | with_reducible assumption | with_reducible refine Below.drew ?_ | with_reducible refine below_drewN ?_ _ | with_reducible refine Below.setCell ?_ ?_ _ | with_reducible refine Below.alloc ?_ ?_ _ | with_reducible refine Below.trans ?_ (Below.mono (by assumption) ?_))) <;> (first | (simp; done) | (simp; omega) | omega))⟩
              · have Hn := Lib.hid hn
                have hq := G5.out Hm.out hn
                have HQ := Lib.hid hq
                clear hn hq
                go_wp2_with fail
                refine (vorder_any _ _ _ _ _ _ _).mono ?_
                rw [cord_eq]
                rintro e w3 ⟨rfl, hb3⟩
                have hz3 := hb3.size
                obtain ⟨hc3, hf3⟩ := bcell hb3
                have eN : vord (goodV y.k y.i y.s) (goodV x.k x.i x.s) = N := HN.out
                rw [eN]
                clear eN
                go_wp2_with fail
                refine (ret_may' Hm.out).mono ?_
                rintro e w4 ⟨rfl, hb4⟩
                have hz4 := hb4.size
                obtain ⟨hc4, hf4⟩ := bcell hb4
                have l4 : w.heap.size + 1 < w3.heap.size := by omega
                have l5 : w.heap.size < w3.heap.size := by omega
                go_wp2_with fail
                refine (ret_may' Hn.out).mono ?_
                rintro e w5 ⟨rfl, hb5⟩
                have hz5 := hb5.size
                obtain ⟨hc5, hf5⟩ := bcell hb5
                have l6 : w.heap.size + 1 < w4.heap.size := by omega
                have l7 : w.heap.size < w4.heap.size := by omega
                go_wp2_with fail
                go_meet
                exact ⟨by first | (simp; exact HQ.out) | (simp; exact ⟨by omega, HQ.out⟩), by ((repeat' (first | with_reducible exact Below.refl _ _ | with_reducible assumption | with_reducible refine Below.drew ?_ | with_reducible refine below_drewN ?_ _ | with_reducible refine Below.setCell ?_ ?_ _ | with_reducible refine Below.alloc ?_ ?_ _ | with_reducible refine Below.trans ?_ (Below.mono (by assumption) ?_))) <;> (first | (simp; done) | (simp; omega) | omega))⟩

        · cases hm : mayB x.k x.i x.s
          · have Hm := Lib.hid hm
            clear hm
            go_wp2_with fail
            refine (vorder_any _ _ _ _ _ _ _).mono ?_
            rw [cord_eq]
            rintro e w3 ⟨rfl, hb3⟩
            have hz3 := hb3.size
            obtain ⟨hc3, hf3⟩ := bcell hb3
            have eN : vord (goodV y.k y.i y.s) (goodV x.k x.i x.s) = N := HN.out
            rw [eN]
            clear eN
            go_wp2_with fail
            refine (ret_may' Hm.out).mono ?_
            rintro e w4 ⟨rfl, hb4⟩
            have hz4 := hb4.size
            go_wp2_with fail
            go_meet
            exact ⟨by first | (simp; done) | (simp; omega), by ((repeat' (first | with_reducible exact Below.refl _ _ | with_reducible assumption | with_reducible refine Below.drew ?_ | with_reducible refine below_drewN ?_ _ | with_reducible refine Below.setCell ?_ ?_ _ | with_reducible refine Below.alloc ?_ ?_ _ | with_reducible refine Below.trans ?_ (Below.mono (by assumption) ?_))) <;> (first | (simp; done) | (simp; omega) | omega))⟩
          · have Hm := Lib.hid hm
            clear hm
            cases hn : mayB y.k y.i y.s
            · have Hn := Lib.hid hn
              clear hn
              go_wp2_with fail
              refine (vorder_any _ _ _ _ _ _ _).mono ?_
              rw [cord_eq]
              rintro e w3 ⟨rfl, hb3⟩
              have hz3 := hb3.size
              obtain ⟨hc3, hf3⟩ := bcell hb3
              have eN : vord (goodV y.k y.i y.s) (goodV x.k x.i x.s) = N := HN.out
              rw [eN]
              clear eN
              go_wp2_with fail
              refine (ret_may' Hm.out).mono ?_
              rintro e w4 ⟨rfl, hb4⟩
              have hz4 := hb4.size
              obtain ⟨hc4, hf4⟩ := bcell hb4
              have l4 : w.heap.size + 1 < w3.heap.size := by omega
              go_wp2_with fail
              refine (ret_may' Hn.out).mono ?_
              rintro e w5 ⟨rfl, hb5⟩
              have hz5 := hb5.size
              go_wp2_with fail
              go_meet
              exact ⟨by first | (simp; done) | (simp; omega), by ((repeat' (first | with_reducible exact Below.refl _ _ | with_reducible assumption | with_reducible refine Below.drew ?_ | with_reducible refine below_drewN ?_ _ | with_reducible refine Below.setCell ?_ ?_ _ | with_reducible refine Below.alloc ?_ ?_ _ | with_reducible refine Below.trans ?_ (Below.mono (by assumption) ?_))) <;> (first | (simp; done) | (simp; omega) | omega))⟩
            · have Hn := Lib.hid hn
              have hq := G5.out Hm.out hn
              have HQ := Lib.hid hq
              clear hn hq
              go_wp2_with fail
              refine (vorder_any _ _ _ _ _ _ _).mono ?_
              rw [cord_eq]
              rintro e w3 ⟨rfl, hb3⟩
              have hz3 := hb3.size
              obtain ⟨hc3, hf3⟩ := bcell hb3
              have eN : vord (goodV y.k y.i y.s) (goodV x.k x.i x.s) = N := HN.out
              rw [eN]
              clear eN
              go_wp2_with fail
              refine (ret_may' Hm.out).mono ?_
              rintro e w4 ⟨rfl, hb4⟩
              have hz4 := hb4.size
              obtain ⟨hc4, hf4⟩ := bcell hb4
              have l4 : w.heap.size + 1 < w3.heap.size := by omega
              have l5 : w.heap.size < w3.heap.size := by omega
              go_wp2_with fail
              refine (ret_may' Hn.out).mono ?_
              rintro e w5 ⟨rfl, hb5⟩
              have hz5 := hb5.size
              obtain ⟨hc5, hf5⟩ := bcell hb5
              have l6 : w.heap.size + 1 < w4.heap.size := by omega
              have l7 : w.heap.size < w4.heap.size := by omega
              go_wp2_with fail
              go_meet
              exact ⟨by first | (simp; exact HQ.out) | (simp; exact ⟨by omega, HQ.out⟩), by ((repeat' (first | with_reducible exact Below.refl _ _ | with_reducible assumption | with_reducible refine Below.drew ?_ | with_reducible refine below_drewN ?_ _ | with_reducible refine Below.setCell ?_ ?_ _ | with_reducible refine Below.alloc ?_ ?_ _ | with_reducible refine Below.trans ?_ (Below.mono (by assumption) ?_))) <;> (first | (simp; done) | (simp; omega) | omega))⟩

      case rest =>
        obtain ⟨rfl, hbz⟩ := hcut
        obtain ⟨W3, rfl⟩ : ∃ W3, W3 = wc := ⟨_, rfl⟩
        have hzz := hbz.size
        have HMY := Lib.hid (HMX.out.below hbz rfl)
        have HSY : Hid (∀ w' : World, Below W3.heap.size W3 w' → (w'.cell? ⟨w.heap.size, 0, none⟩ = some (.int .i64 (x).k) ∧ w'.cell? ⟨w.heap.size, 1, none⟩ = some (.int .i64 (x).i) ∧ w'.cell? ⟨w.heap.size, 2, none⟩ = some (.string ⟨(x).s.toArray⟩) ∧ w'.cell? ⟨w.heap.size + 1, 0, none⟩ = some (.int .i64 (y).k) ∧ w'.cell? ⟨w.heap.size + 1, 1, none⟩ = some (.int .i64 (y).i) ∧ w'.cell? ⟨w.heap.size + 1, 2, none⟩ = some (.string ⟨(y).s.toArray⟩) ∧ w'.cell? ⟨w.heap.size + 1 + 1, 0, none⟩ = some (.int .i64 (z).k) ∧ w'.cell? ⟨w.heap.size + 1 + 1, 1, none⟩ = some (.int .i64 (z).i) ∧ w'.cell? ⟨w.heap.size + 1 + 1, 2, none⟩ = some (.string ⟨(z).s.toArray⟩))) := fun w' h => HSX.out w' (by ((repeat' (first | with_reducible exact Below.refl _ _ | with_reducible assumption | with_reducible refine Below.drew ?_ | with_reducible refine below_drewN ?_ _ | with_reducible refine Below.setCell ?_ ?_ _ | with_reducible refine Below.alloc ?_ ?_ _ | with_reducible refine Below.trans ?_ (Below.mono (by assumption) ?_))) <;> (first | (simp; done) | (simp; omega) | omega)))
        clear HSX HMX
        go_upto_region 5 with fail
        go_cut [10, 11] (fun s10 s11 wx => Held2 W3 wx s10 s11 (equalV x y) (lessV x y))
        case first =>
          refine wp_region_held_drew (S := (fun w' => w'.cell? ⟨w.heap.size, 0, none⟩ = some (.int .i64 (x).k) ∧ w'.cell? ⟨w.heap.size, 1, none⟩ = some (.int .i64 (x).i) ∧ w'.cell? ⟨w.heap.size, 2, none⟩ = some (.string ⟨(x).s.toArray⟩) ∧ w'.cell? ⟨w.heap.size + 1, 0, none⟩ = some (.int .i64 (y).k) ∧ w'.cell? ⟨w.heap.size + 1, 1, none⟩ = some (.int .i64 (y).i) ∧ w'.cell? ⟨w.heap.size + 1, 2, none⟩ = some (.string ⟨(y).s.toArray⟩) ∧ w'.cell? ⟨w.heap.size + 1 + 1, 0, none⟩ = some (.int .i64 (z).k) ∧ w'.cell? ⟨w.heap.size + 1 + 1, 1, none⟩ = some (.int .i64 (z).i) ∧ w'.cell? ⟨w.heap.size + 1 + 1, 2, none⟩ = some (.string ⟨(z).s.toArray⟩))) (by kernel_rfl) ?_ (fun hHeld => ?_)
          · try dsimp only
            exact HSY.out _ (by ((repeat' (first | with_reducible exact Below.refl _ _ | with_reducible assumption | with_reducible refine Below.drew ?_ | with_reducible refine below_drewN ?_ _ | with_reducible refine Below.setCell ?_ ?_ _ | with_reducible refine Below.alloc ?_ ?_ _ | with_reducible refine Below.trans ?_ (Below.mono (by assumption) ?_))) <;> (first | (simp; done) | (simp; omega) | omega)))
          refine wpAnyH_take (i := 0) (v := ?_) rfl (by kernel_rfl) (by kernel_rfl) (by kernel_rfl) (fun _ _ _ h => h) (Or.inl ⟨by rfl, ?_⟩) (by assumption) ?_
          rotate_left
          · intro wq hSw
            try dsimp only at hSw
            go_simp
            try with_reducible rfl
          try simp only [Act.put, List.getElem_toArray, List.getElem_cons_zero, List.setIfInBounds_toArray, List.set_cons_zero, List.set_cons_succ]
          refine wpAnyH_take (i := 1) (v := ?_) rfl (by kernel_rfl) (by kernel_rfl) (by kernel_rfl) (fun _ _ _ h => h) (Or.inl ⟨by rfl, ?_⟩) (by assumption) ?_
          rotate_left
          · intro wq hSw
            try dsimp only at hSw
            go_simp
            try with_reducible rfl
          try simp only [Act.put, List.getElem_toArray, List.getElem_cons_zero, List.getElem_cons_succ, List.setIfInBounds_toArray, List.set_cons_zero, List.set_cons_succ]
          refine wpAnyH_take (i := 3) (v := ?_) rfl (by kernel_rfl) (by kernel_rfl) (by kernel_rfl) (fun _ _ _ h => h) (Or.inl ⟨by rfl, ?_⟩) (by assumption) ?_
          rotate_left
          · intro wq hSw
            try dsimp only at hSw
            go_simp
            try with_reducible rfl
          try simp only [Act.put, List.getElem_toArray, List.getElem_cons_zero, List.getElem_cons_succ, List.setIfInBounds_toArray, List.set_cons_zero, List.set_cons_succ]
          refine wpAnyH_take (i := 4) (v := ?_) rfl (by kernel_rfl) (by kernel_rfl) (by kernel_rfl) (fun _ _ _ h => h) (Or.inl ⟨by rfl, ?_⟩) (by assumption) ?_
          rotate_left
          · intro wq hSw
            try dsimp only at hSw
            go_simp
            try with_reducible rfl
          try simp only [Act.put, List.getElem_toArray, List.getElem_cons_zero, List.getElem_cons_succ, List.setIfInBounds_toArray, List.set_cons_zero, List.set_cons_succ]
          refine wpAnyH_stage (ks := [2, 5, 6, 7]) (f0 := 2) (by decide) (OrdI W3 (.agg #[.int .i64 (equalV x y).k, .int .i64 (equalV x y).i, .string ⟨(equalV x y).s.toArray⟩]) (.agg #[.int .i64 (lessV x y).k, .int .i64 (lessV x y).i, .string ⟨(lessV x y).s.toArray⟩]) (fun U10 U11 U63 U66 => #[.agg #[.int .i64 (a).k, .int .i64 (a).i, .string ⟨(a).s.toArray⟩], .agg #[.int .i64 (b).k, .int .i64 (b).i, .string ⟨(b).s.toArray⟩], .agg #[.int .i64 (c).k, .int .i64 (c).i, .string ⟨(c).s.toArray⟩], .pointer (some ⟨w.heap.size, 0, none⟩), .pointer (some ⟨w.heap.size + 1, 0, none⟩), .pointer (some ⟨w.heap.size + 1 + 1, 0, none⟩), .bool false, .int .i64 X, .int .i64 Y, .int .i64 Z, U10, U11, u12, u13, u14, u15, u16, u17, u18, u19, u20, u21, u22, u23, u24, u25, u26, u27, u28, u29, u30, u31, u32, u33, u34, u35, u36, u37, u38, u39, u40, u41, u42, u43, u44, u45, u46, u47, u48, u49, u50, u51, u52, u53, u54, u55, u56, u57, u58, u59, .bool false, .agg #[.int .i64 (x).k, .int .i64 (x).i, .string ⟨(x).s.toArray⟩], .agg #[.int .i64 (y).k, .int .i64 (y).i, .string ⟨(y).s.toArray⟩], U63, .agg #[.int .i64 (x).k, .int .i64 (x).i, .string ⟨(x).s.toArray⟩], .agg #[.int .i64 (y).k, .int .i64 (y).i, .string ⟨(y).s.toArray⟩], U66, u67, u68, u69, u70, u71, u72, u73, u74, u75, u76, u77, u78, u79, u80, u81, u82, u83, u84, u85, u86, u87, u88, u89, u90, u91, u92])) ?_ ?_ ?_ 4 _ _ _ (by decide +kernel) ?_
          · rintro L ac wv i ⟨hsz, ⟨p0, p1, p3, p4⟩, ⟨n8, n9⟩, h5, hb, U10, U11, U63, U66, rfl, s2, s5, q6, q7, d1⟩ hex hi
            obtain ⟨hun, o, ho, hall⟩ := mem_ready.1 hi
            have hlt : i < 10 := by rw [← hsz]; exact getD_self hun
            have e0 : i ≠ 0 := fun e => by subst e; exact not_up hun p0
            have e1 : i ≠ 1 := fun e => by subst e; exact not_up hun p1
            have e3 : i ≠ 3 := fun e => by subst e; exact not_up hun p3
            have e4 : i ≠ 4 := fun e => by subst e; exact not_up hun p4
            have e8 : i ≠ 8 := fun e => by
              subst e
              injection ho with ho
              subst ho
              have z5 := up_of (hall ⟨5, .chain⟩ (by simp) rfl)
              have z2 := h5 z5
              have z6 := up_of (hall ⟨6, .phase⟩ (by simp) rfl)
              have z7 := up_of (hall ⟨7, .phase⟩ (by simp) rfl)
              obtain ⟨j, hj, hn⟩ := hex
              simp only [List.mem_cons, List.not_mem_nil, or_false] at hj
              rcases hj with rfl | rfl | rfl | rfl
              · exact not_up hn z2
              · exact not_up hn z5
              · exact not_up hn z6
              · exact not_up hn z7
            have e9 : i ≠ 9 := fun e => by
              subst e
              injection ho with ho
              subst ho
              exact not_up n8 (up_of (hall ⟨8, .chain⟩ (by simp) rfl))
            have hks : i = 2 ∨ i = 5 ∨ i = 6 ∨ i = 7 := by omega
            refine ⟨by simp only [List.mem_cons, List.not_mem_nil, or_false]; exact hks, ?_⟩
            clear e0 e1 e3 e4 e8 e9 hlt hex hi
            have hzv := hb.size
            rcases hks with rfl | rfl | rfl | rfl
            · injection ho with ho
              subst ho
              refine wpOp_one rfl (fun K hK => ?_)
              have Hall := Lib.hid hall
              have Hs := Lib.hid hsz
              go_simp
              refine (equal_any _ _ _ _ _ _ _).mono ?_
              rintro e w1 ⟨rfl, hb1⟩
              have hz1 := hb1.size
              go_wp2_with fail
              refine hK.out _ _ ⟨HSY.out _ (by ((repeat' (first | with_reducible exact Below.refl _ _ | with_reducible assumption | with_reducible refine Below.drew ?_ | with_reducible refine below_drewN ?_ _ | with_reducible refine Below.setCell ?_ ?_ _ | with_reducible refine Below.alloc ?_ ?_ _ | with_reducible refine Below.trans ?_ (Below.mono (by assumption) ?_))) <;> (first | (simp; done) | (simp; omega) | omega))), ?_⟩
              exact ⟨by rw [Array.size_setIfInBounds]; exact hsz, ⟨p0.more, p1.more, p3.more, p4.more⟩, ⟨(getD_put_other true (by decide)).trans n8, (getD_put_other true (by decide)).trans n9⟩, fun h => (h5 (h.put (by decide))).more, (by ((repeat' (first | with_reducible exact Below.refl _ _ | with_reducible assumption | with_reducible refine Below.drew ?_ | with_reducible refine below_drewN ?_ _ | with_reducible refine Below.setCell ?_ ?_ _ | with_reducible refine Below.alloc ?_ ?_ _ | with_reducible refine Below.trans ?_ (Below.mono (by assumption) ?_))) <;> (first | (simp; done) | (simp; omega) | omega))), _, _, _, _, rfl, Slot.new, s5.put (by decide), q6.put (by decide) hb1, q7.put (by decide) hb1, d1.put (by decide) (by decide)⟩
            · injection ho with ho
              subst ho
              refine wpOp_one rfl (fun K hK => ?_)
              have Hall := Lib.hid hall
              have Hs := Lib.hid hsz
              go_simp
              refine (less_any _ _ _ _ _ _ _).mono ?_
              rintro e w1 ⟨rfl, hb1⟩
              have hz1 := hb1.size
              go_wp2_with fail
              refine hK.out _ _ ⟨HSY.out _ (by ((repeat' (first | with_reducible exact Below.refl _ _ | with_reducible assumption | with_reducible refine Below.drew ?_ | with_reducible refine below_drewN ?_ _ | with_reducible refine Below.setCell ?_ ?_ _ | with_reducible refine Below.alloc ?_ ?_ _ | with_reducible refine Below.trans ?_ (Below.mono (by assumption) ?_))) <;> (first | (simp; done) | (simp; omega) | omega))), ?_⟩
              exact ⟨by rw [Array.size_setIfInBounds]; exact hsz, ⟨p0.more, p1.more, p3.more, p4.more⟩, ⟨(getD_put_other true (by decide)).trans n8, (getD_put_other true (by decide)).trans n9⟩, fun h => (up_of (hall ⟨2, .chain⟩ (by simp) rfl)).more, (by ((repeat' (first | with_reducible exact Below.refl _ _ | with_reducible assumption | with_reducible refine Below.drew ?_ | with_reducible refine below_drewN ?_ _ | with_reducible refine Below.setCell ?_ ?_ _ | with_reducible refine Below.alloc ?_ ?_ _ | with_reducible refine Below.trans ?_ (Below.mono (by assumption) ?_))) <;> (first | (simp; done) | (simp; omega) | omega))), _, _, _, _, rfl, s2.put (by decide), Slot.new, q6.put (by decide) hb1, q7.put (by decide) hb1, d1.put (by decide) (by decide)⟩
            · injection ho with ho
              subst ho
              refine wpOp_one rfl (fun K hK => ?_)
              have Hall := Lib.hid hall
              have Hs := Lib.hid hsz
              go_simp
              go_wp2_with fail
              refine hK.out _ _ ⟨HSY.out _ (by ((repeat' (first | with_reducible exact Below.refl _ _ | with_reducible assumption | with_reducible refine Below.drew ?_ | with_reducible refine below_drewN ?_ _ | with_reducible refine Below.setCell ?_ ?_ _ | with_reducible refine Below.alloc ?_ ?_ _ | with_reducible refine Below.trans ?_ (Below.mono (by assumption) ?_))) <;> (first | (simp; done) | (simp; omega) | omega))), ?_⟩
              exact ⟨by rw [Array.size_setIfInBounds]; exact hsz, ⟨p0.more, p1.more, p3.more, p4.more⟩, ⟨(getD_put_other true (by decide)).trans n8, (getD_put_other true (by decide)).trans n9⟩, fun h => (h5 (h.put (by decide))).more, (by ((repeat' (first | with_reducible exact Below.refl _ _ | with_reducible assumption | with_reducible refine Below.drew ?_ | with_reducible refine below_drewN ?_ _ | with_reducible refine Below.setCell ?_ ?_ _ | with_reducible refine Below.alloc ?_ ?_ _ | with_reducible refine Below.trans ?_ (Below.mono (by assumption) ?_))) <;> (first | (simp; done) | (simp; omega) | omega))), _, _, _, _, rfl, s2.put (by decide), s5.put (by decide), Newv.new hb.size, q7.put (by decide) ((Below.refl _ _).alloc (Nat.le_refl _) _), Diff.newL q7 (by decide)⟩
            · injection ho with ho
              subst ho
              refine wpOp_one rfl (fun K hK => ?_)
              have Hall := Lib.hid hall
              have Hs := Lib.hid hsz
              go_simp
              go_wp2_with fail
              refine hK.out _ _ ⟨HSY.out _ (by ((repeat' (first | with_reducible exact Below.refl _ _ | with_reducible assumption | with_reducible refine Below.drew ?_ | with_reducible refine below_drewN ?_ _ | with_reducible refine Below.setCell ?_ ?_ _ | with_reducible refine Below.alloc ?_ ?_ _ | with_reducible refine Below.trans ?_ (Below.mono (by assumption) ?_))) <;> (first | (simp; done) | (simp; omega) | omega))), ?_⟩
              exact ⟨by rw [Array.size_setIfInBounds]; exact hsz, ⟨p0.more, p1.more, p3.more, p4.more⟩, ⟨(getD_put_other true (by decide)).trans n8, (getD_put_other true (by decide)).trans n9⟩, fun h => (h5 (h.put (by decide))).more, (by ((repeat' (first | with_reducible exact Below.refl _ _ | with_reducible assumption | with_reducible refine Below.drew ?_ | with_reducible refine below_drewN ?_ _ | with_reducible refine Below.setCell ?_ ?_ _ | with_reducible refine Below.alloc ?_ ?_ _ | with_reducible refine Below.trans ?_ (Below.mono (by assumption) ?_))) <;> (first | (simp; done) | (simp; omega) | omega))), _, _, _, _, rfl, s2.put (by decide), s5.put (by decide), q6.put (by decide) ((Below.refl _ _).alloc (Nat.le_refl _) _), Newv.new hb.size, Diff.newR q6 (by decide)⟩
          · rintro L ac wv ⟨hsz, ⟨p0, p1, p3, p4⟩, ⟨n8, n9⟩, h5, hb, _⟩ ⟨j, hj, hn⟩
            simp only [List.mem_cons, List.not_mem_nil, or_false] at hj
            rcases hj with rfl | rfl | rfl | rfl
            · exact ready_some 2 hn rfl (fun e he _ => by simp at he; rcases he with rfl | rfl <;> first | exact getF p0 (by rw [hsz]; decide) | exact getF p1 (by rw [hsz]; decide))
            · cases y2 : L.getD 2 true
              · exact ready_some 2 y2 rfl (fun e he _ => by simp at he; rcases he with rfl | rfl <;> first | exact getF p0 (by rw [hsz]; decide) | exact getF p1 (by rw [hsz]; decide))
              · exact ready_some 5 hn rfl (fun e he _ => by simp at he; rcases he with rfl | rfl | rfl <;> first | exact getF p3 (by rw [hsz]; decide) | exact getF p4 (by rw [hsz]; decide) | exact getF y2 (by rw [hsz]; decide))
            · exact ready_some 6 hn rfl (fun e he _ => by simp at he)
            · exact ready_some 7 hn rfl (fun e he _ => by simp at he)
          · rintro L ac wv ⟨hsz, ⟨p0, p1, p3, p4⟩, ⟨n8, n9⟩, h5, hb, U10, U11, U63, U66, rfl, s2, s5, q6, q7, d1⟩ hall
            have z2 : Up L 2 := hall 2 (by simp)
            have z5 : Up L 5 := hall 5 (by simp)
            have z6 : Up L 6 := hall 6 (by simp)
            have z7 : Up L 7 := hall 7 (by simp)
            obtain rfl := s2 z2
            obtain rfl := s5 z5
            obtain ⟨g1, rfl, m1, k1⟩ := q6 z6
            obtain ⟨g2, rfl, m2, k2⟩ := q7 z7
            have f12 : g1 ≠ g2 := fun e => d1 z6 z7 (by rw [e])
            have f21 : g2 ≠ g1 := Ne.symm f12
            obtain ⟨l⟩ := L
            match l, hsz with
            | [b0, b1, b2, b3, b4, b5, b6, b7, b8, b9], _ =>
              obtain rfl : b0 = true := p0
              obtain rfl : b1 = true := p1
              obtain rfl : b2 = true := z2
              obtain rfl : b3 = true := p3
              obtain rfl : b4 = true := p4
              obtain rfl : b5 = true := z5
              obtain rfl : b6 = true := z6
              obtain rfl : b7 = true := z7
              obtain rfl : b8 = false := n8
              obtain rfl : b9 = false := n9
              clear s2 s5 q6 q7 d1 hall h5 hsz
              have hHeld := HSY.out wv hb
              have hzv := hb.size
              obtain ⟨⟨x10, x11, x12⟩, xf10, xf11, xf12⟩ := k1.three
              have B1 : Blk3 wv g1 23 := ⟨_, _, _, k1⟩
              obtain ⟨⟨x20, x21, x22⟩, xf20, xf21, xf22⟩ := k2.three
              have B2 : Blk3 wv g2 23 := ⟨_, _, _, k2⟩
              refine wpAnyH_ready (rs := [8]) (by kernel_rfl) (by simp) ?_
              refine AllReadyH.cons rfl (fun K hK => ?_) AllReadyH.nil
              go_simp
              go_wp2_with fail
              refine hK.out _ _ ?_ (fun hHeld => ?_)
              · try dsimp only
                exact HSY.out _ (by ((repeat' (first | with_reducible exact Below.refl _ _ | with_reducible assumption | with_reducible refine Below.drew ?_ | with_reducible refine below_drewN ?_ _ | with_reducible refine Below.setCell ?_ ?_ _ | with_reducible refine Below.alloc ?_ ?_ _ | with_reducible refine Below.trans ?_ (Below.mono (by assumption) ?_))) <;> (first | (simp; done) | (simp; omega) | omega)))
              clear hK K
              refine wpAnyH_ready (rs := [9]) (by kernel_rfl) (by simp) ?_
              refine AllReadyH.cons rfl (fun K hK => ?_) AllReadyH.nil
              go_simp
              go_wp2_with fail
              refine hK.out _ _ ?_ (fun hHeld => ?_)
              · try dsimp only
                exact HSY.out _ (by ((repeat' (first | with_reducible exact Below.refl _ _ | with_reducible assumption | with_reducible refine Below.drew ?_ | with_reducible refine below_drewN ?_ _ | with_reducible refine Below.setCell ?_ ?_ _ | with_reducible refine Below.alloc ?_ ?_ _ | with_reducible refine Below.trans ?_ (Below.mono (by assumption) ?_))) <;> (first | (simp; done) | (simp; omega) | omega)))
              clear hK K
              refine wpAnyH_done (by kernel_rfl) ?_ _
              all_goals (go_wp2_with fail; go_meet)
              refine ⟨g1, g2, rfl, rfl, ?_, ?_, ?_⟩
              · ((repeat' (first | with_reducible assumption | with_reducible refine Blk.drew ?_ | with_reducible refine Blk.drewN ?_ _ | with_reducible refine Blk.set3 ?_ _ _ _ | with_reducible refine Blk.far ?_ ?_ _ | ((with_reducible refine Blk.new' _ _ _ _ ?_) <;> (first | (simp; done) | (simp; omega) | omega) <;> done) | with_reducible refine Blk.alloc ?_ _ | with_reducible refine Blk3.drew ?_ | with_reducible refine Blk3.drewN ?_ _ | ((with_reducible refine Blk3.new' _ _ _ _ _ _ ?_) <;> (first | (simp; done) | (simp; omega) | omega) <;> done) | with_reducible refine Blk3.alloc ?_ _ | with_reducible refine Blk3.far ?_ ?_ _ | with_reducible refine Blk3.below ?_ (by assumption) ?_ | with_reducible refine Blk.below ?_ (by assumption) ?_)) <;> (first | (simp; done) | (simp; omega) | omega))
              · ((repeat' (first | with_reducible assumption | with_reducible refine Blk.drew ?_ | with_reducible refine Blk.drewN ?_ _ | with_reducible refine Blk.set3 ?_ _ _ _ | with_reducible refine Blk.far ?_ ?_ _ | ((with_reducible refine Blk.new' _ _ _ _ ?_) <;> (first | (simp; done) | (simp; omega) | omega) <;> done) | with_reducible refine Blk.alloc ?_ _ | with_reducible refine Blk3.drew ?_ | with_reducible refine Blk3.drewN ?_ _ | ((with_reducible refine Blk3.new' _ _ _ _ _ _ ?_) <;> (first | (simp; done) | (simp; omega) | omega) <;> done) | with_reducible refine Blk3.alloc ?_ _ | with_reducible refine Blk3.far ?_ ?_ _ | with_reducible refine Blk3.below ?_ (by assumption) ?_ | with_reducible refine Blk.below ?_ (by assumption) ?_)) <;> (first | (simp; done) | (simp; omega) | omega))
              · ((repeat' (first | with_reducible exact Below.refl _ _ | with_reducible assumption | with_reducible refine Below.drew ?_ | with_reducible refine below_drewN ?_ _ | with_reducible refine Below.setCell ?_ ?_ _ | with_reducible refine Below.alloc ?_ ?_ _ | with_reducible refine Below.trans ?_ (Below.mono (by assumption) ?_))) <;> (first | (simp; done) | (simp; omega) | omega))
          · refine ⟨by decide +kernel, ⟨by decide +kernel, by decide +kernel, by decide +kernel, by decide +kernel⟩, ⟨by decide +kernel, by decide +kernel⟩, by decide +kernel, by ((repeat' (first | with_reducible exact Below.refl _ _ | with_reducible assumption | with_reducible refine Below.drew ?_ | with_reducible refine below_drewN ?_ _ | with_reducible refine Below.setCell ?_ ?_ _ | with_reducible refine Below.alloc ?_ ?_ _ | with_reducible refine Below.trans ?_ (Below.mono (by assumption) ?_))) <;> (first | (simp; done) | (simp; omega) | omega)), _, _, _, _, rfl, ?_, ?_, ?_, ?_, ?_⟩
            all_goals (intro h; exact absurd h (by decide +kernel))
        case rest =>
          clear g2 g3
          obtain ⟨g1, g2, rfl, rfl, k1, k2, hbv⟩ := hcut
          have HMV := Lib.hid (HMY.out.below hbv rfl)
          have hzv := hbv.size
          clear HSY HMY G1 G4 G5
          have hoe := order_equal x y X HX.out
          rcases hoe with ⟨e1, e2⟩ | ⟨hX, e1, e2⟩ | ⟨hX, e1, e2⟩ | ⟨hX, e1, e2⟩
          · rw [e1] at k1
            rw [e2] at k2
            obtain ⟨⟨x0, x1, x2⟩, _⟩ := k1.three
            obtain ⟨⟨y0, y1, y2⟩, _⟩ := k2.three
            clear k1 k2 e1 e2
            go_wp2_with fail
            refine (awake1_any _ HMV.out).mono ?_
            rintro e w9 ⟨rfl, hb9⟩
            go_wp2
            go_ret
            exact ⟨rfl, by ((repeat' (first | with_reducible exact Below.refl _ _ | with_reducible assumption | with_reducible refine Below.drew ?_ | with_reducible refine below_drewN ?_ _ | with_reducible refine Below.setCell ?_ ?_ _ | with_reducible refine Below.alloc ?_ ?_ _ | with_reducible refine Below.trans ?_ (Below.mono (by assumption) ?_))) <;> (first | (simp; done) | (simp; omega) | omega))⟩
          all_goals
            subst hX
            rw [e1] at k1
            rw [e2] at k2
            obtain ⟨⟨x0, x1, x2⟩, _⟩ := k1.three
            obtain ⟨⟨y0, y1, y2⟩, _⟩ := k2.three
            clear k1 k2 e1 e2
            go_wp2_with fail
            refine (awake1_any _ HMV.out).mono ?_
            rintro e w9 ⟨rfl, hb9⟩
            go_wp2
            go_ret
            exact ⟨rfl, by ((repeat' (first | with_reducible exact Below.refl _ _ | with_reducible assumption | with_reducible refine Below.drew ?_ | with_reducible refine below_drewN ?_ _ | with_reducible refine Below.setCell ?_ ?_ _ | with_reducible refine Below.alloc ?_ ?_ _ | with_reducible refine Below.trans ?_ (Below.mono (by assumption) ?_))) <;> (first | (simp; done) | (simp; omega) | omega))⟩

end Go.Proofs.YtdoonajhplcmlaaDoor
