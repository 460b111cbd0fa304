/- caddislaw01.ValueLess answers true, whatever two values: of two that can be held against each other just one holds. No condition beyond the row's own. -/
import Derived.Test.YtdoonajhplcmlaaDoorLaw1
import Derived.Test.YtdoonajhplcmlaaDoorRef1Reck
import Derived.Test.YtdoonajhplcmlaaDoorStage2
import Derived.Test.YtdoonajhplcmlaaDoorLess
namespace Go.Proofs.YtdoonajhplcmlaaDoor
open Go.RowKit

attribute [local go_sem] ByteArray.extract_mk ba_get ba_append
attribute [local go_sem ↓] Go.wp_at_zero Go.wp_at_succ run_eql_V run_neq_V run_field0 run_field1 run_field2
attribute [local go_sem] veq_self

/-- Three blocks, wherever they came to lie, hold three values. -/
def Held3 (W w : World) (p q r : Value) (x y z : V) : Prop :=
  ∃ g1 g2 g3, p = .pointer (some ⟨g1, 0, none⟩) ∧ q = .pointer (some ⟨g2, 0, none⟩) ∧ r = .pointer (some ⟨g3, 0, none⟩) ∧
    Blk w g1 23 #[.int .i64 (x).k, .int .i64 (x).i, .string ⟨(x).s.toArray⟩] ∧ Blk w g2 23 #[.int .i64 (y).k, .int .i64 (y).i, .string ⟨(y).s.toArray⟩] ∧ Blk w g3 23 #[.int .i64 (z).k, .int .i64 (z).i, .string ⟨(z).s.toArray⟩] ∧ Below W.heap.size W w

theorem alike_comm (a b : V) : alikeB a b = alikeB b a := by
  unfold alikeB
  rw [Bool.eq_iff_iff]
  simp
  omega
theorem tri (a b : V) : (veq a b = true ∧ veq b a = true) ∨ (vlt a b = true ∧ veq a b = false ∧ vlt b a = false ∧ veq b a = false) ∨ (vlt b a = true ∧ veq b a = false ∧ vlt a b = false ∧ veq a b = false) := by
  unfold veq vlt
  rcases Int.lt_trichotomy a.k b.k with h | h | h
  · exact .inr (.inl ⟨by simp [h], by simp; omega, by simp; omega, by simp; omega⟩)
  · rcases Int.lt_trichotomy a.i b.i with g | g | g
    · exact .inr (.inl ⟨by simp [h, g], by simp; omega, by simp [h]; omega, by simp; omega⟩)
    · rcases less_tri a.s b.s with e | ⟨e1, e2, e3⟩ | ⟨e1, e2, e3⟩
      · exact .inl ⟨by simp [h, g, e], by simp [h, g, e]⟩
      · exact .inr (.inl ⟨by simp [h, g, e1], by simp [h, g, e3], by simp [h, g, e2], by simp [h, g]; exact fun e => e3 e.symm⟩)
      · exact .inr (.inr ⟨by simp [h, g, e1], by simp [h, g]; exact fun e => e3 e.symm, by simp [h, g, e2], by simp [h, g, e3]⟩)
    · exact .inr (.inr ⟨by simp [h, g], by simp; omega, by simp [h]; omega, by simp; omega⟩)
  · exact .inr (.inr ⟨by simp [h], by simp; omega, by simp; omega, by simp; omega⟩)
theorem less_three (x y : V) : (lessV x y = ⟨0, 0, []⟩ ∧ lessV y x = ⟨0, 0, []⟩ ∧ equalV x y = ⟨0, 0, []⟩) ∨ (lessV x y = ⟨3, 1, []⟩ ∧ lessV y x = ⟨3, 0, []⟩ ∧ equalV x y = ⟨3, 0, []⟩) ∨
    (lessV x y = ⟨3, 0, []⟩ ∧ lessV y x = ⟨3, 1, []⟩ ∧ equalV x y = ⟨3, 0, []⟩) ∨ (lessV x y = ⟨3, 0, []⟩ ∧ lessV y x = ⟨3, 0, []⟩ ∧ equalV x y = ⟨3, 1, []⟩) := by
  unfold lessV equalV
  rw [alike_comm y x]
  cases h : alikeB x y
  · exact .inl ⟨rfl, rfl, rfl⟩
  · obtain ⟨ma, mb, _, _⟩ := alike_parts h
    have ea : goodV x.k x.i x.s = x := V.good_may ma
    have eb : goodV y.k y.i y.s = y := V.good_may mb
    rw [ea, eb, cord_eq, cord_eq]
    simp only [if_true]
    unfold vord
    rcases tri x y with ⟨h1, h2⟩ | ⟨h1, h2, h3, h4⟩ | ⟨h1, h2, h3, h4⟩
    · rw [h1, h2]; exact .inr (.inr (.inr ⟨rfl, rfl, rfl⟩))
    · rw [h1, h2, h3, h4]; exact .inr (.inl ⟨rfl, rfl, rfl⟩)
    · rw [h1, h2, h3, h4]; exact .inr (.inr (.inl ⟨rfl, rfl, rfl⟩))

def LessI (W : World) (v1 v2 v3 : Value) (F : Value → Value → Value → Value → Value → Value → Array Value) (L : Array Bool) (a : Act) (w : World) : Prop :=
  L.size = 15 ∧ (Up L 0 ∧ Up L 1 ∧ Up L 3 ∧ Up L 4 ∧ Up L 6 ∧ Up L 7) ∧ (L.getD 12 true = false ∧ L.getD 13 true = false ∧ L.getD 14 true = false) ∧ (Up L 8 → Up L 5) ∧ (Up L 5 → Up L 2) ∧ Below W.heap.size W w ∧
    ∃ U5 U6 U7 U14 U17 U20, a = ⟨F U5 U6 U7 U14 U17 U20, []⟩ ∧ Slot L 2 U14 v1 ∧ Slot L 5 U17 v2 ∧ Slot L 8 U20 v3 ∧ Newv L 9 W.heap.size w U5 ∧ Newv L 10 W.heap.size w U6 ∧ Newv L 11 W.heap.size w U7 ∧ Diff L 9 10 U5 U6 ∧ Diff L 9 11 U5 U7 ∧ Diff L 10 11 U6 U7

set_option maxRecDepth 100000 in
set_option maxHeartbeats 8000000 in
theorem valueLess_walk (a b : V) (w : World) (ia : inI a.i) (ib : inI b.i) (hM : MaxL w) :
    Calls Tryd.prog 5 #[.agg #[.int .i64 (a).k, .int .i64 (a).i, .string ⟨(a).s.toArray⟩], .agg #[.int .i64 (b).k, .int .i64 (b).i, .string ⟨(b).s.toArray⟩]] w (Ret (.bool true) w) := by
  have HM := Lib.hid hM
  have IA : Hid (inI a.few.i) := ia
  have IB : Hid (inI b.few.i) := ib
  have LA : Hid (a.few.s.length ≤ 60) := few_le a
  have LB : Hid (b.few.s.length ≤ 60) := few_le b
  clear hM ia ib
  go_enter Tryd.func5, Tryd.ntmps5
  have l0 : w.heap.size < w.heap.size + 1 + 1 := by omega
  go_upto_region 1 with fail
  go_cut [] (fun wx => Two w.heap.size a.few b.few wx ∧ Below w.heap.size w wx)
  case first =>
    go_region_with (go_at_call 15; refine (few1_any _ _ _ _).mono ?_; rintro e w1 ⟨rfl, hb⟩; obtain ⟨hc, hf⟩ := bcell hb; have hz := hb.size; (try simp at hz hc hf); have l1 : w.heap.size < w1.heap.size := (by omega); have l2 : w.heap.size + 1 < w1.heap.size := (by omega))
    all_goals (go_wp2_with fail; go_meet)
    all_goals refine ⟨two_set w1 _ a.few b.few (.int .i64 a.k) (.int .i64 a.i) (.string ⟨a.s.toArray⟩) (.int .i64 b.k) (.int .i64 b.i) (.string ⟨b.s.toArray⟩) ?_ ?_ ?_ ?_ ?_ ?_, ?_⟩
    all_goals first | (simp [*, go_sem]; done) | ((repeat' (first | with_reducible exact Below.refl _ _ | with_reducible assumption | with_reducible refine Below.drew ?_ | with_reducible refine below_drewN ?_ _ | with_reducible refine Below.setCell ?_ ?_ _ | with_reducible refine Below.alloc ?_ ?_ _ | with_reducible refine Below.trans ?_ (Below.mono (by assumption) ?_))) <;> (first | (simp; done) | (simp; omega) | omega))
  case rest =>
    obtain ⟨hcu, hbw⟩ := hcut
    obtain ⟨⟨a0, a1, a2⟩, b0, b1, b2⟩ := hcu
    have l1 : w.heap.size < wc.heap.size := Blk_lt_of_cell a0
    have l2 : w.heap.size + 1 < wc.heap.size := Blk_lt_of_cell b0
    have HMW := Lib.hid (HM.out.below hbw rfl)
    generalize a.few = x at *
    generalize b.few = y at *
    have HSH : Hid (∀ w' : World, Below wc.heap.size wc w' → (w'.cell? ⟨w.heap.size, 0, none⟩ = some (.int .i64 (x).k) ∧ w'.cell? ⟨w.heap.size, 1, none⟩ = some (.int .i64 (x).i) ∧ w'.cell? ⟨w.heap.size, 2, none⟩ = some (.string ⟨(x).s.toArray⟩) ∧ w'.cell? ⟨w.heap.size + 1, 0, none⟩ = some (.int .i64 (y).k) ∧ w'.cell? ⟨w.heap.size + 1, 1, none⟩ = some (.int .i64 (y).i) ∧ w'.cell? ⟨w.heap.size + 1, 2, none⟩ = some (.string ⟨(y).s.toArray⟩))) :=
      fun w' h => ⟨(h.cell l1).trans a0, (h.cell l1).trans a1, (h.cell l1).trans a2, (h.cell l2).trans b0, (h.cell l2).trans b1, (h.cell l2).trans b2⟩
    clear a0 a1 a2 b0 b1 b2 HM
    obtain ⟨W, rfl⟩ : ∃ W, W = wc := ⟨_, rfl⟩
    go_upto_region 2 with fail
    go_cut [5, 6, 7] (fun s5 s6 s7 wx => Held3 W wx s5 s6 s7 (lessV x y) (lessV y x) (equalV x y))
    case first =>
      refine wp_region_held_drew (S := (fun w' => w'.cell? ⟨w.heap.size, 0, none⟩ = some (.int .i64 (x).k) ∧ w'.cell? ⟨w.heap.size, 1, none⟩ = some (.int .i64 (x).i) ∧ w'.cell? ⟨w.heap.size, 2, none⟩ = some (.string ⟨(x).s.toArray⟩) ∧ w'.cell? ⟨w.heap.size + 1, 0, none⟩ = some (.int .i64 (y).k) ∧ w'.cell? ⟨w.heap.size + 1, 1, none⟩ = some (.int .i64 (y).i) ∧ w'.cell? ⟨w.heap.size + 1, 2, none⟩ = some (.string ⟨(y).s.toArray⟩))) (by kernel_rfl) ?_ (fun hHeld => ?_)
      · try dsimp only
        exact HSH.out _ (by ((repeat' (first | with_reducible exact Below.refl _ _ | with_reducible assumption | with_reducible refine Below.drew ?_ | with_reducible refine below_drewN ?_ _ | with_reducible refine Below.setCell ?_ ?_ _ | with_reducible refine Below.alloc ?_ ?_ _ | with_reducible refine Below.trans ?_ (Below.mono (by assumption) ?_))) <;> (first | (simp; done) | (simp; omega) | omega)))
      refine wpAnyH_take (i := 0) (v := ?_) rfl (by kernel_rfl) (by kernel_rfl) (by kernel_rfl) (fun _ _ _ h => h) (Or.inl ⟨by rfl, ?_⟩) (by assumption) ?_
      rotate_left
      · intro wq hSw
        try dsimp only at hSw
        go_simp
        try with_reducible rfl
      try simp only [Act.put, List.getElem_toArray, List.getElem_cons_zero, List.setIfInBounds_toArray, List.set_cons_zero, List.set_cons_succ]
      refine wpAnyH_take (i := 1) (v := ?_) rfl (by kernel_rfl) (by kernel_rfl) (by kernel_rfl) (fun _ _ _ h => h) (Or.inl ⟨by rfl, ?_⟩) (by assumption) ?_
      rotate_left
      · intro wq hSw
        try dsimp only at hSw
        go_simp
        try with_reducible rfl
      try simp only [Act.put, List.getElem_toArray, List.getElem_cons_zero, List.getElem_cons_succ, List.setIfInBounds_toArray, List.set_cons_zero, List.set_cons_succ]
      refine wpAnyH_take (i := 3) (v := ?_) rfl (by kernel_rfl) (by kernel_rfl) (by kernel_rfl) (fun _ _ _ h => h) (Or.inl ⟨by rfl, ?_⟩) (by assumption) ?_
      rotate_left
      · intro wq hSw
        try dsimp only at hSw
        go_simp
        try with_reducible rfl
      try simp only [Act.put, List.getElem_toArray, List.getElem_cons_zero, List.getElem_cons_succ, List.setIfInBounds_toArray, List.set_cons_zero, List.set_cons_succ]
      refine wpAnyH_take (i := 4) (v := ?_) rfl (by kernel_rfl) (by kernel_rfl) (by kernel_rfl) (fun _ _ _ h => h) (Or.inl ⟨by rfl, ?_⟩) (by assumption) ?_
      rotate_left
      · intro wq hSw
        try dsimp only at hSw
        go_simp
        try with_reducible rfl
      try simp only [Act.put, List.getElem_toArray, List.getElem_cons_zero, List.getElem_cons_succ, List.setIfInBounds_toArray, List.set_cons_zero, List.set_cons_succ]
      refine wpAnyH_take (i := 6) (v := ?_) rfl (by kernel_rfl) (by kernel_rfl) (by kernel_rfl) (fun _ _ _ h => h) (Or.inl ⟨by rfl, ?_⟩) (by assumption) ?_
      rotate_left
      · intro wq hSw
        try dsimp only at hSw
        go_simp
        try with_reducible rfl
      try simp only [Act.put, List.getElem_toArray, List.getElem_cons_zero, List.getElem_cons_succ, List.setIfInBounds_toArray, List.set_cons_zero, List.set_cons_succ]
      refine wpAnyH_take (i := 7) (v := ?_) rfl (by kernel_rfl) (by kernel_rfl) (by kernel_rfl) (fun _ _ _ h => h) (Or.inl ⟨by rfl, ?_⟩) (by assumption) ?_
      rotate_left
      · intro wq hSw
        try dsimp only at hSw
        go_simp
        try with_reducible rfl
      try simp only [Act.put, List.getElem_toArray, List.getElem_cons_zero, List.getElem_cons_succ, List.setIfInBounds_toArray, List.set_cons_zero, List.set_cons_succ]
      refine wpAnyH_stage (ks := [2, 5, 8, 9, 10, 11]) (f0 := 3) (by decide) (LessI W (.agg #[.int .i64 (lessV x y).k, .int .i64 (lessV x y).i, .string ⟨(lessV x y).s.toArray⟩]) (.agg #[.int .i64 (lessV y x).k, .int .i64 (lessV y x).i, .string ⟨(lessV y x).s.toArray⟩]) (.agg #[.int .i64 (equalV x y).k, .int .i64 (equalV x y).i, .string ⟨(equalV x y).s.toArray⟩]) (fun U5 U6 U7 U14 U17 U20 => #[.agg #[.int .i64 (a).k, .int .i64 (a).i, .string ⟨(a).s.toArray⟩], .agg #[.int .i64 (b).k, .int .i64 (b).i, .string ⟨(b).s.toArray⟩], .pointer (some ⟨w.heap.size, 0, none⟩), .pointer (some ⟨w.heap.size + 1, 0, none⟩), .bool false, U5, U6, U7, u8, u9, u10, u11, .agg #[.int .i64 (x).k, .int .i64 (x).i, .string ⟨(x).s.toArray⟩], .agg #[.int .i64 (y).k, .int .i64 (y).i, .string ⟨(y).s.toArray⟩], U14, .agg #[.int .i64 (y).k, .int .i64 (y).i, .string ⟨(y).s.toArray⟩], .agg #[.int .i64 (x).k, .int .i64 (x).i, .string ⟨(x).s.toArray⟩], U17, .agg #[.int .i64 (x).k, .int .i64 (x).i, .string ⟨(x).s.toArray⟩], .agg #[.int .i64 (y).k, .int .i64 (y).i, .string ⟨(y).s.toArray⟩], U20, u21, u22, u23, u24, u25, u26, u27, u28, u29, u30, u31, u32, u33, u34, u35, u36, u37, u38, u39, u40, u41, u42, u43, u44, u45, u46, u47, u48, u49, u50, u51, u52, u53, u54, u55, u56])) ?_ ?_ ?_ 6 _ _ _ (by decide +kernel) ?_
      · rintro L ac wv i ⟨hsz, ⟨p0, p1, p3, p4, p6, p7⟩, ⟨n12, n13, n14⟩, h85, h52, hb, U5, U6, U7, U14, U17, U20, rfl, s2, s5, s8, q9, q10, q11, d1, d2, d3⟩ hex hi
        obtain ⟨hun, o, ho, hall⟩ := mem_ready.1 hi
        have hlt : i < 15 := by rw [← hsz]; exact getD_self hun
        have e0 : i ≠ 0 := fun e => by subst e; exact not_up hun p0
        have e1 : i ≠ 1 := fun e => by subst e; exact not_up hun p1
        have e3 : i ≠ 3 := fun e => by subst e; exact not_up hun p3
        have e4 : i ≠ 4 := fun e => by subst e; exact not_up hun p4
        have e6 : i ≠ 6 := fun e => by subst e; exact not_up hun p6
        have e7 : i ≠ 7 := fun e => by subst e; exact not_up hun p7
        have e12 : i ≠ 12 := fun e => by
          subst e
          injection ho with ho
          subst ho
          have u8' := up_of (hall ⟨8, .chain⟩ (by simp) rfl)
          have u9' := up_of (hall ⟨9, .data⟩ (by simp) rfl)
          have u10' := up_of (hall ⟨10, .phase⟩ (by simp) rfl)
          have u11' := up_of (hall ⟨11, .phase⟩ (by simp) rfl)
          obtain ⟨j, hj, hn⟩ := hex
          simp only [List.mem_cons, List.not_mem_nil, or_false] at hj
          rcases hj with rfl | rfl | rfl | rfl | rfl | rfl
          · exact not_up hn (h52 (h85 u8'))
          · exact not_up hn (h85 u8')
          · exact not_up hn u8'
          · exact not_up hn u9'
          · exact not_up hn u10'
          · exact not_up hn u11'
        have e13 : i ≠ 13 := fun e => by
          subst e
          injection ho with ho
          subst ho
          exact not_up n12 (up_of (hall ⟨12, .chain⟩ (by simp) rfl))
        have e14 : i ≠ 14 := fun e => by
          subst e
          injection ho with ho
          subst ho
          exact not_up n13 (up_of (hall ⟨13, .chain⟩ (by simp) rfl))
        have hks : i = 2 ∨ i = 5 ∨ i = 8 ∨ i = 9 ∨ i = 10 ∨ i = 11 := by omega
        refine ⟨by simp only [List.mem_cons, List.not_mem_nil, or_false]; exact hks, ?_⟩
        clear e0 e1 e3 e4 e6 e7 e12 e13 e14 hlt hex hi
        have hzv := hb.size
        rcases hks with rfl | rfl | rfl | rfl | rfl | rfl
        · injection ho with ho
          subst ho
          refine wpOp_one rfl (fun K hK => ?_)
          have Hall := Lib.hid hall
          have Hs := Lib.hid hsz
          go_simp
          refine (less_any _ _ _ _ _ _ _).mono ?_
          rintro e w1 ⟨rfl, hb1⟩
          have hz1 := hb1.size
          go_wp2_with fail
          refine hK.out _ _ ⟨HSH.out _ (by ((repeat' (first | with_reducible exact Below.refl _ _ | with_reducible assumption | with_reducible refine Below.drew ?_ | with_reducible refine below_drewN ?_ _ | with_reducible refine Below.setCell ?_ ?_ _ | with_reducible refine Below.alloc ?_ ?_ _ | with_reducible refine Below.trans ?_ (Below.mono (by assumption) ?_))) <;> (first | (simp; done) | (simp; omega) | omega))), ?_⟩
          exact ⟨by rw [Array.size_setIfInBounds]; exact hsz, ⟨p0.more, p1.more, p3.more, p4.more, p6.more, p7.more⟩, ⟨(getD_put_other true (by decide)).trans n12, (getD_put_other true (by decide)).trans n13, (getD_put_other true (by decide)).trans n14⟩, fun h => (h85 (h.put (by decide))).more, fun h => (h52 (h.put (by decide))).more, (by ((repeat' (first | with_reducible exact Below.refl _ _ | with_reducible assumption | with_reducible refine Below.drew ?_ | with_reducible refine below_drewN ?_ _ | with_reducible refine Below.setCell ?_ ?_ _ | with_reducible refine Below.alloc ?_ ?_ _ | with_reducible refine Below.trans ?_ (Below.mono (by assumption) ?_))) <;> (first | (simp; done) | (simp; omega) | omega))), _, _, _, _, _, _, rfl, Slot.new, s5.put (by decide), s8.put (by decide), q9.put (by decide) hb1, q10.put (by decide) hb1, q11.put (by decide) hb1, d1.put (by decide) (by decide), d2.put (by decide) (by decide), d3.put (by decide) (by decide)⟩
        · injection ho with ho
          subst ho
          refine wpOp_one rfl (fun K hK => ?_)
          have Hall := Lib.hid hall
          have Hs := Lib.hid hsz
          go_simp
          refine (less_any _ _ _ _ _ _ _).mono ?_
          rintro e w1 ⟨rfl, hb1⟩
          have hz1 := hb1.size
          go_wp2_with fail
          refine hK.out _ _ ⟨HSH.out _ (by ((repeat' (first | with_reducible exact Below.refl _ _ | with_reducible assumption | with_reducible refine Below.drew ?_ | with_reducible refine below_drewN ?_ _ | with_reducible refine Below.setCell ?_ ?_ _ | with_reducible refine Below.alloc ?_ ?_ _ | with_reducible refine Below.trans ?_ (Below.mono (by assumption) ?_))) <;> (first | (simp; done) | (simp; omega) | omega))), ?_⟩
          exact ⟨by rw [Array.size_setIfInBounds]; exact hsz, ⟨p0.more, p1.more, p3.more, p4.more, p6.more, p7.more⟩, ⟨(getD_put_other true (by decide)).trans n12, (getD_put_other true (by decide)).trans n13, (getD_put_other true (by decide)).trans n14⟩, fun h => (h85 (h.put (by decide))).more, fun h => (up_of (hall ⟨2, .chain⟩ (by simp) rfl)).more, (by ((repeat' (first | with_reducible exact Below.refl _ _ | with_reducible assumption | with_reducible refine Below.drew ?_ | with_reducible refine below_drewN ?_ _ | with_reducible refine Below.setCell ?_ ?_ _ | with_reducible refine Below.alloc ?_ ?_ _ | with_reducible refine Below.trans ?_ (Below.mono (by assumption) ?_))) <;> (first | (simp; done) | (simp; omega) | omega))), _, _, _, _, _, _, rfl, s2.put (by decide), Slot.new, s8.put (by decide), q9.put (by decide) hb1, q10.put (by decide) hb1, q11.put (by decide) hb1, d1.put (by decide) (by decide), d2.put (by decide) (by decide), d3.put (by decide) (by decide)⟩
        · injection ho with ho
          subst ho
          refine wpOp_one rfl (fun K hK => ?_)
          have Hall := Lib.hid hall
          have Hs := Lib.hid hsz
          go_simp
          refine (equal_any _ _ _ _ _ _ _).mono ?_
          rintro e w1 ⟨rfl, hb1⟩
          have hz1 := hb1.size
          go_wp2_with fail
          refine hK.out _ _ ⟨HSH.out _ (by ((repeat' (first | with_reducible exact Below.refl _ _ | with_reducible assumption | with_reducible refine Below.drew ?_ | with_reducible refine below_drewN ?_ _ | with_reducible refine Below.setCell ?_ ?_ _ | with_reducible refine Below.alloc ?_ ?_ _ | with_reducible refine Below.trans ?_ (Below.mono (by assumption) ?_))) <;> (first | (simp; done) | (simp; omega) | omega))), ?_⟩
          exact ⟨by rw [Array.size_setIfInBounds]; exact hsz, ⟨p0.more, p1.more, p3.more, p4.more, p6.more, p7.more⟩, ⟨(getD_put_other true (by decide)).trans n12, (getD_put_other true (by decide)).trans n13, (getD_put_other true (by decide)).trans n14⟩, fun h => (up_of (hall ⟨5, .chain⟩ (by simp) rfl)).more, fun h => (h52 (h.put (by decide))).more, (by ((repeat' (first | with_reducible exact Below.refl _ _ | with_reducible assumption | with_reducible refine Below.drew ?_ | with_reducible refine below_drewN ?_ _ | with_reducible refine Below.setCell ?_ ?_ _ | with_reducible refine Below.alloc ?_ ?_ _ | with_reducible refine Below.trans ?_ (Below.mono (by assumption) ?_))) <;> (first | (simp; done) | (simp; omega) | omega))), _, _, _, _, _, _, rfl, s2.put (by decide), s5.put (by decide), Slot.new, q9.put (by decide) hb1, q10.put (by decide) hb1, q11.put (by decide) hb1, d1.put (by decide) (by decide), d2.put (by decide) (by decide), d3.put (by decide) (by decide)⟩
        · injection ho with ho
          subst ho
          refine wpOp_one rfl (fun K hK => ?_)
          have Hall := Lib.hid hall
          have Hs := Lib.hid hsz
          go_simp
          go_wp2_with fail
          refine hK.out _ _ ⟨HSH.out _ (by ((repeat' (first | with_reducible exact Below.refl _ _ | with_reducible assumption | with_reducible refine Below.drew ?_ | with_reducible refine below_drewN ?_ _ | with_reducible refine Below.setCell ?_ ?_ _ | with_reducible refine Below.alloc ?_ ?_ _ | with_reducible refine Below.trans ?_ (Below.mono (by assumption) ?_))) <;> (first | (simp; done) | (simp; omega) | omega))), ?_⟩
          exact ⟨by rw [Array.size_setIfInBounds]; exact hsz, ⟨p0.more, p1.more, p3.more, p4.more, p6.more, p7.more⟩, ⟨(getD_put_other true (by decide)).trans n12, (getD_put_other true (by decide)).trans n13, (getD_put_other true (by decide)).trans n14⟩, fun h => (h85 (h.put (by decide))).more, fun h => (h52 (h.put (by decide))).more, (by ((repeat' (first | with_reducible exact Below.refl _ _ | with_reducible assumption | with_reducible refine Below.drew ?_ | with_reducible refine below_drewN ?_ _ | with_reducible refine Below.setCell ?_ ?_ _ | with_reducible refine Below.alloc ?_ ?_ _ | with_reducible refine Below.trans ?_ (Below.mono (by assumption) ?_))) <;> (first | (simp; done) | (simp; omega) | omega))), _, _, _, _, _, _, rfl, s2.put (by decide), s5.put (by decide), s8.put (by decide), Newv.new hb.size, q10.put (by decide) ((Below.refl _ _).alloc (Nat.le_refl _) _), q11.put (by decide) ((Below.refl _ _).alloc (Nat.le_refl _) _), Diff.newL q10 (by decide), Diff.newL q11 (by decide), d3.put (by decide) (by decide)⟩
        · injection ho with ho
          subst ho
          refine wpOp_one rfl (fun K hK => ?_)
          have Hall := Lib.hid hall
          have Hs := Lib.hid hsz
          go_simp
          go_wp2_with fail
          refine hK.out _ _ ⟨HSH.out _ (by ((repeat' (first | with_reducible exact Below.refl _ _ | with_reducible assumption | with_reducible refine Below.drew ?_ | with_reducible refine below_drewN ?_ _ | with_reducible refine Below.setCell ?_ ?_ _ | with_reducible refine Below.alloc ?_ ?_ _ | with_reducible refine Below.trans ?_ (Below.mono (by assumption) ?_))) <;> (first | (simp; done) | (simp; omega) | omega))), ?_⟩
          exact ⟨by rw [Array.size_setIfInBounds]; exact hsz, ⟨p0.more, p1.more, p3.more, p4.more, p6.more, p7.more⟩, ⟨(getD_put_other true (by decide)).trans n12, (getD_put_other true (by decide)).trans n13, (getD_put_other true (by decide)).trans n14⟩, fun h => (h85 (h.put (by decide))).more, fun h => (h52 (h.put (by decide))).more, (by ((repeat' (first | with_reducible exact Below.refl _ _ | with_reducible assumption | with_reducible refine Below.drew ?_ | with_reducible refine below_drewN ?_ _ | with_reducible refine Below.setCell ?_ ?_ _ | with_reducible refine Below.alloc ?_ ?_ _ | with_reducible refine Below.trans ?_ (Below.mono (by assumption) ?_))) <;> (first | (simp; done) | (simp; omega) | omega))), _, _, _, _, _, _, rfl, s2.put (by decide), s5.put (by decide), s8.put (by decide), q9.put (by decide) ((Below.refl _ _).alloc (Nat.le_refl _) _), Newv.new hb.size, q11.put (by decide) ((Below.refl _ _).alloc (Nat.le_refl _) _), Diff.newR q9 (by decide), d2.put (by decide) (by decide), Diff.newL q11 (by decide)⟩
        · injection ho with ho
          subst ho
          refine wpOp_one rfl (fun K hK => ?_)
          have Hall := Lib.hid hall
          have Hs := Lib.hid hsz
          go_simp
          go_wp2_with fail
          refine hK.out _ _ ⟨HSH.out _ (by ((repeat' (first | with_reducible exact Below.refl _ _ | with_reducible assumption | with_reducible refine Below.drew ?_ | with_reducible refine below_drewN ?_ _ | with_reducible refine Below.setCell ?_ ?_ _ | with_reducible refine Below.alloc ?_ ?_ _ | with_reducible refine Below.trans ?_ (Below.mono (by assumption) ?_))) <;> (first | (simp; done) | (simp; omega) | omega))), ?_⟩
          exact ⟨by rw [Array.size_setIfInBounds]; exact hsz, ⟨p0.more, p1.more, p3.more, p4.more, p6.more, p7.more⟩, ⟨(getD_put_other true (by decide)).trans n12, (getD_put_other true (by decide)).trans n13, (getD_put_other true (by decide)).trans n14⟩, fun h => (h85 (h.put (by decide))).more, fun h => (h52 (h.put (by decide))).more, (by ((repeat' (first | with_reducible exact Below.refl _ _ | with_reducible assumption | with_reducible refine Below.drew ?_ | with_reducible refine below_drewN ?_ _ | with_reducible refine Below.setCell ?_ ?_ _ | with_reducible refine Below.alloc ?_ ?_ _ | with_reducible refine Below.trans ?_ (Below.mono (by assumption) ?_))) <;> (first | (simp; done) | (simp; omega) | omega))), _, _, _, _, _, _, rfl, s2.put (by decide), s5.put (by decide), s8.put (by decide), q9.put (by decide) ((Below.refl _ _).alloc (Nat.le_refl _) _), q10.put (by decide) ((Below.refl _ _).alloc (Nat.le_refl _) _), Newv.new hb.size, d1.put (by decide) (by decide), Diff.newR q9 (by decide), Diff.newR q10 (by decide)⟩
      · rintro L ac wv ⟨hsz, ⟨p0, p1, p3, p4, p6, p7⟩, ⟨n12, n13, n14⟩, h85, h52, hb, _⟩ ⟨j, hj, hn⟩
        simp only [List.mem_cons, List.not_mem_nil, or_false] at hj
        rcases hj with rfl | rfl | rfl | rfl | rfl | rfl
        · exact ready_some 2 hn rfl (fun e he _ => by simp at he; rcases he with rfl | rfl <;> first | exact getF p0 (by rw [hsz]; decide) | exact getF p1 (by rw [hsz]; decide))
        · cases h2 : L.getD 2 true
          · exact ready_some 2 h2 rfl (fun e he _ => by simp at he; rcases he with rfl | rfl <;> first | exact getF p0 (by rw [hsz]; decide) | exact getF p1 (by rw [hsz]; decide))
          · exact ready_some 5 hn rfl (fun e he _ => by simp at he; rcases he with rfl | rfl | rfl <;> first | exact getF p3 (by rw [hsz]; decide) | exact getF p4 (by rw [hsz]; decide) | exact getF h2 (by rw [hsz]; decide))
        · cases h2 : L.getD 2 true
          · exact ready_some 2 h2 rfl (fun e he _ => by simp at he; rcases he with rfl | rfl <;> first | exact getF p0 (by rw [hsz]; decide) | exact getF p1 (by rw [hsz]; decide))
          · cases h5 : L.getD 5 true
            · exact ready_some 5 h5 rfl (fun e he _ => by simp at he; rcases he with rfl | rfl | rfl <;> first | exact getF p3 (by rw [hsz]; decide) | exact getF p4 (by rw [hsz]; decide) | exact getF h2 (by rw [hsz]; decide))
            · exact ready_some 8 hn rfl (fun e he _ => by simp at he; rcases he with rfl | rfl | rfl <;> first | exact getF p6 (by rw [hsz]; decide) | exact getF p7 (by rw [hsz]; decide) | exact getF h5 (by rw [hsz]; decide))
        · exact ready_some 9 hn rfl (fun e he _ => by simp at he)
        · exact ready_some 10 hn rfl (fun e he _ => by simp at he)
        · exact ready_some 11 hn rfl (fun e he _ => by simp at he)
      · rintro L ac wv ⟨hsz, ⟨p0, p1, p3, p4, p6, p7⟩, ⟨n12, n13, n14⟩, h85, h52, hb, U5, U6, U7, U14, U17, U20, rfl, s2, s5, s8, q9, q10, q11, d1, d2, d3⟩ hall
        have u2 : Up L 2 := hall 2 (by simp)
        have u5 : Up L 5 := hall 5 (by simp)
        have u8' : Up L 8 := hall 8 (by simp)
        have u9' : Up L 9 := hall 9 (by simp)
        have u10' : Up L 10 := hall 10 (by simp)
        have u11' : Up L 11 := hall 11 (by simp)
        obtain rfl := s2 u2
        obtain rfl := s5 u5
        obtain rfl := s8 u8'
        obtain ⟨g1, rfl, m1, k1⟩ := q9 u9'
        obtain ⟨g2, rfl, m2, k2⟩ := q10 u10'
        obtain ⟨g3, rfl, m3, k3⟩ := q11 u11'
        have f12 : g1 ≠ g2 := fun e => d1 u9' u10' (by rw [e])
        have f13 : g1 ≠ g3 := fun e => d2 u9' u11' (by rw [e])
        have f23 : g2 ≠ g3 := fun e => d3 u10' u11' (by rw [e])
        obtain ⟨l⟩ := L
        match l, hsz with
        | [b0, b1, b2, b3, b4, b5, b6, b7, b8, b9, b10, b11, b12, b13, b14], _ =>
          obtain rfl : b0 = true := p0
          obtain rfl : b1 = true := p1
          obtain rfl : b2 = true := u2
          obtain rfl : b3 = true := p3
          obtain rfl : b4 = true := p4
          obtain rfl : b5 = true := u5
          obtain rfl : b6 = true := p6
          obtain rfl : b7 = true := p7
          obtain rfl : b8 = true := u8'
          obtain rfl : b9 = true := u9'
          obtain rfl : b10 = true := u10'
          obtain rfl : b11 = true := u11'
          obtain rfl : b12 = false := n12
          obtain rfl : b13 = false := n13
          obtain rfl : b14 = false := n14
          clear s2 s5 s8 q9 q10 q11 d1 d2 d3 hall h85 h52 hsz
          have hHeld := HSH.out wv hb
          have hzv := hb.size
          obtain ⟨⟨x0, x1, x2⟩, xf0, xf1, xf2⟩ := k1.three
          obtain ⟨⟨y0, y1, y2⟩, yf0, yf1, yf2⟩ := k2.three
          obtain ⟨⟨z0, z1, z2⟩, zf0, zf1, zf2⟩ := k3.three
          have B1 : Blk3 wv g1 23 := ⟨_, _, _, k1⟩
          have B2 : Blk3 wv g2 23 := ⟨_, _, _, k2⟩
          have B3 : Blk3 wv g3 23 := ⟨_, _, _, k3⟩
          have f21 : g2 ≠ g1 := Ne.symm f12
          have f31 : g3 ≠ g1 := Ne.symm f13
          have f32 : g3 ≠ g2 := Ne.symm f23
          refine wpAnyH_ready (rs := [12]) (by kernel_rfl) (by simp) ?_
          refine AllReadyH.cons rfl (fun K hK => ?_) AllReadyH.nil
          go_simp
          go_wp2_with fail
          refine hK.out _ _ ?_ (fun hHeld => ?_)
          · try dsimp only
            exact HSH.out _ (by ((repeat' (first | with_reducible exact Below.refl _ _ | with_reducible assumption | with_reducible refine Below.drew ?_ | with_reducible refine below_drewN ?_ _ | with_reducible refine Below.setCell ?_ ?_ _ | with_reducible refine Below.alloc ?_ ?_ _ | with_reducible refine Below.trans ?_ (Below.mono (by assumption) ?_))) <;> (first | (simp; done) | (simp; omega) | omega)))
          clear hK K
          refine wpAnyH_ready (rs := [13]) (by kernel_rfl) (by simp) ?_
          refine AllReadyH.cons rfl (fun K hK => ?_) AllReadyH.nil
          go_simp
          go_wp2_with fail
          refine hK.out _ _ ?_ (fun hHeld => ?_)
          · try dsimp only
            exact HSH.out _ (by ((repeat' (first | with_reducible exact Below.refl _ _ | with_reducible assumption | with_reducible refine Below.drew ?_ | with_reducible refine below_drewN ?_ _ | with_reducible refine Below.setCell ?_ ?_ _ | with_reducible refine Below.alloc ?_ ?_ _ | with_reducible refine Below.trans ?_ (Below.mono (by assumption) ?_))) <;> (first | (simp; done) | (simp; omega) | omega)))
          clear hK K
          refine wpAnyH_ready (rs := [14]) (by kernel_rfl) (by simp) ?_
          refine AllReadyH.cons rfl (fun K hK => ?_) AllReadyH.nil
          go_simp
          go_wp2_with fail
          refine hK.out _ _ ?_ (fun hHeld => ?_)
          · try dsimp only
            exact HSH.out _ (by ((repeat' (first | with_reducible exact Below.refl _ _ | with_reducible assumption | with_reducible refine Below.drew ?_ | with_reducible refine below_drewN ?_ _ | with_reducible refine Below.setCell ?_ ?_ _ | with_reducible refine Below.alloc ?_ ?_ _ | with_reducible refine Below.trans ?_ (Below.mono (by assumption) ?_))) <;> (first | (simp; done) | (simp; omega) | omega)))
          clear hK K
          refine wpAnyH_done (by kernel_rfl) ?_ _
          all_goals (go_wp2_with fail; go_meet)
          refine ⟨g1, g2, g3, rfl, rfl, rfl, ?_, ?_, ?_, ?_⟩
          · ((repeat' (first | with_reducible assumption | with_reducible refine Blk.drew ?_ | with_reducible refine Blk.drewN ?_ _ | with_reducible refine Blk.set3 ?_ _ _ _ | with_reducible refine Blk.far ?_ ?_ _ | ((with_reducible refine Blk.new' _ _ _ _ ?_) <;> (first | (simp; done) | (simp; omega) | omega) <;> done) | with_reducible refine Blk.alloc ?_ _ | with_reducible refine Blk3.drew ?_ | with_reducible refine Blk3.drewN ?_ _ | ((with_reducible refine Blk3.new' _ _ _ _ _ _ ?_) <;> (first | (simp; done) | (simp; omega) | omega) <;> done) | with_reducible refine Blk3.alloc ?_ _ | with_reducible refine Blk3.far ?_ ?_ _ | with_reducible refine Blk3.below ?_ (by assumption) ?_ | with_reducible refine Blk.below ?_ (by assumption) ?_)) <;> (first | (simp; done) | (simp; omega) | omega))
          · ((repeat' (first | with_reducible assumption | with_reducible refine Blk.drew ?_ | with_reducible refine Blk.drewN ?_ _ | with_reducible refine Blk.set3 ?_ _ _ _ | with_reducible refine Blk.far ?_ ?_ _ | ((with_reducible refine Blk.new' _ _ _ _ ?_) <;> (first | (simp; done) | (simp; omega) | omega) <;> done) | with_reducible refine Blk.alloc ?_ _ | with_reducible refine Blk3.drew ?_ | with_reducible refine Blk3.drewN ?_ _ | ((with_reducible refine Blk3.new' _ _ _ _ _ _ ?_) <;> (first | (simp; done) | (simp; omega) | omega) <;> done) | with_reducible refine Blk3.alloc ?_ _ | with_reducible refine Blk3.far ?_ ?_ _ | with_reducible refine Blk3.below ?_ (by assumption) ?_ | with_reducible refine Blk.below ?_ (by assumption) ?_)) <;> (first | (simp; done) | (simp; omega) | omega))
          · ((repeat' (first | with_reducible assumption | with_reducible refine Blk.drew ?_ | with_reducible refine Blk.drewN ?_ _ | with_reducible refine Blk.set3 ?_ _ _ _ | with_reducible refine Blk.far ?_ ?_ _ | ((with_reducible refine Blk.new' _ _ _ _ ?_) <;> (first | (simp; done) | (simp; omega) | omega) <;> done) | with_reducible refine Blk.alloc ?_ _ | with_reducible refine Blk3.drew ?_ | with_reducible refine Blk3.drewN ?_ _ | ((with_reducible refine Blk3.new' _ _ _ _ _ _ ?_) <;> (first | (simp; done) | (simp; omega) | omega) <;> done) | with_reducible refine Blk3.alloc ?_ _ | with_reducible refine Blk3.far ?_ ?_ _ | with_reducible refine Blk3.below ?_ (by assumption) ?_ | with_reducible refine Blk.below ?_ (by assumption) ?_)) <;> (first | (simp; done) | (simp; omega) | omega))
          · ((repeat' (first | with_reducible exact Below.refl _ _ | with_reducible assumption | with_reducible refine Below.drew ?_ | with_reducible refine below_drewN ?_ _ | with_reducible refine Below.setCell ?_ ?_ _ | with_reducible refine Below.alloc ?_ ?_ _ | with_reducible refine Below.trans ?_ (Below.mono (by assumption) ?_))) <;> (first | (simp; done) | (simp; omega) | omega))
      · refine ⟨by decide +kernel, ⟨by decide +kernel, by decide +kernel, by decide +kernel, by decide +kernel, by decide +kernel, by decide +kernel⟩, ⟨by decide +kernel, by decide +kernel, by decide +kernel⟩, by decide +kernel, by decide +kernel, by ((repeat' (first | with_reducible exact Below.refl _ _ | with_reducible assumption | with_reducible refine Below.drew ?_ | with_reducible refine below_drewN ?_ _ | with_reducible refine Below.setCell ?_ ?_ _ | with_reducible refine Below.alloc ?_ ?_ _ | with_reducible refine Below.trans ?_ (Below.mono (by assumption) ?_))) <;> (first | (simp; done) | (simp; omega) | omega)), _, _, _, _, _, _, rfl, ?_, ?_, ?_, ?_, ?_, ?_, ?_, ?_, ?_⟩
        all_goals (intro h; exact absurd h (by decide +kernel))
    case rest =>
      obtain ⟨g1, g2, g3, rfl, rfl, rfl, k1, k2, k3, hbx⟩ := hcut
      have HMX := Lib.hid (HMW.out.below hbx rfl)
      have hzx := hbx.size
      clear HSH HMW
      rcases less_three x y with ⟨e1, e2, e3⟩ | ⟨e1, e2, e3⟩ | ⟨e1, e2, e3⟩ | ⟨e1, e2, e3⟩
      · rw [e1] at k1
        rw [e2] at k2
        rw [e3] at k3
        obtain ⟨⟨x0, x1, x2⟩, _⟩ := k1.three
        obtain ⟨⟨y0, y1, y2⟩, _⟩ := k2.three
        obtain ⟨⟨z0, z1, z2⟩, _⟩ := k3.three
        clear k1 k2 k3 e1 e2 e3
        go_wp2_with fail
        refine (awake1_any _ HMX.out).mono ?_
        rintro e w9 ⟨rfl, hb9⟩
        go_wp2
        go_ret
        exact ⟨rfl, by ((repeat' (first | with_reducible exact Below.refl _ _ | with_reducible assumption | with_reducible refine Below.drew ?_ | with_reducible refine below_drewN ?_ _ | with_reducible refine Below.setCell ?_ ?_ _ | with_reducible refine Below.alloc ?_ ?_ _ | with_reducible refine Below.trans ?_ (Below.mono (by assumption) ?_))) <;> (first | (simp; done) | (simp; omega) | omega))⟩
      all_goals
        rw [e1] at k1
        rw [e2] at k2
        rw [e3] at k3
        obtain ⟨⟨x0, x1, x2⟩, _⟩ := k1.three
        obtain ⟨⟨y0, y1, y2⟩, _⟩ := k2.three
        obtain ⟨⟨z0, z1, z2⟩, _⟩ := k3.three
        clear k1 k2 k3 e1 e2 e3
        go_wp2_with fail
        refine (awake1_any _ HMX.out).mono ?_
        rintro e w9 ⟨rfl, hb9⟩
        go_wp2
        go_ret
        exact ⟨rfl, by ((repeat' (first | with_reducible exact Below.refl _ _ | with_reducible assumption | with_reducible refine Below.drew ?_ | with_reducible refine below_drewN ?_ _ | with_reducible refine Below.setCell ?_ ?_ _ | with_reducible refine Below.alloc ?_ ?_ _ | with_reducible refine Below.trans ?_ (Below.mono (by assumption) ?_))) <;> (first | (simp; done) | (simp; omega) | omega))⟩

end Go.Proofs.YtdoonajhplcmlaaDoor
