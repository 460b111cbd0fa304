/- value.And, Or, Not, alike, Equal, Less, IsNull as plain functions. Condition: none. value.Plus and Minus as plain functions. Condition: the numbers are of 64 bits. -/
import Derived.Test.YtdhjogmkhbpcgaaGreatValM
namespace Go.Proofs.YtdhjogmkhbpcgaaGreat
open Go.RowKit

attribute [local go_sem] ByteArray.extract_mk ba_get
attribute [local go_sem ↓] Go.wp_at_zero Go.wp_at_succ run_eql_V run_neq_V run_field0 run_field1 run_field2

theorem dec_beq (a b : Int) : decide (a = b) = (a == b) := by rw [Bool.eq_iff_iff]; simp
def andN (x y : Int) : Int := if x = 1 ∨ y = 1 then 1 else if x = 2 ∧ y = 2 then 2 else 0
def orN (x y : Int) : Int := if x = 2 ∨ y = 2 then 2 else if x = 1 ∧ y = 1 then 1 else 0
def notN (x : Int) : Int := if x = 2 then 1 else if x = 1 then 2 else 0
theorem truth_any (n : Int) (w : World) (h : n = 0 ∨ n = 1 ∨ n = 2) : Calls Tryz.prog 119 #[.int .i64 n] w (Ret (.agg #[.int .i64 (truthV n).k, .int .i64 (truthV n).i, .string ⟨(truthV n).s.toArray⟩]) w) := by
  rcases h with rfl | rfl | rfl
  · exact truth0_any w
  · exact truth1_any w
  · exact truth2_any w

set_option maxHeartbeats 1000000 in
theorem and_any (k i : Int) (s : List UInt8) (k' i' : Int) (s' : List UInt8) (w : World) :
    Calls Tryz.prog 83 #[.agg #[.int .i64 k, .int .i64 i, .string ⟨s.toArray⟩], .agg #[.int .i64 k', .int .i64 i', .string ⟨s'.toArray⟩]] w (Ret (.agg #[.int .i64 (truthV (andN (saysF k i s) (saysF k' i' s'))).k, .int .i64 (truthV (andN (saysF k i s) (saysF k' i' s'))).i, .string ⟨(truthV (andN (saysF k i s) (saysF k' i' s'))).s.toArray⟩]) w) := by
  obtain ⟨X, hX⟩ : ∃ X, saysF k i s = X := ⟨_, rfl⟩
  obtain ⟨Y, hY⟩ : ∃ Y, saysF k' i' s' = Y := ⟨_, rfl⟩
  have rX := saysF_range k i s
  have rY := saysF_range k' i' s'
  rw [hX] at rX
  rw [hY] at rY
  rw [hX, hY]
  have HX := Lib.hid hX
  have HY := Lib.hid hY
  clear hX hY
  go_enter Tryz.func83, Tryz.ntmps83
  go_upto_region 1 with fail
  refine wp_forget (fun wx => Blk wx w.heap.size 26 #[.int .i64 k, .int .i64 i, .string ⟨s.toArray⟩] ∧ Blk wx (w.heap.size + 1) 26 #[.int .i64 k', .int .i64 i', .string ⟨s'.toArray⟩] ∧ Blk wx (w.heap.size + 1 + 1) 26 #[.int .i64 0, .int .i64 0, .string ⟨#[]⟩] ∧ Below w.heap.size w wx) ⟨by ((repeat' (first | with_reducible assumption | with_reducible refine Blk.drew ?_ | with_reducible refine Blk.drewN ?_ _ | with_reducible refine Blk.set3 ?_ _ _ _ | with_reducible refine Blk.far ?_ ?_ _ | ((with_reducible refine Blk.new' _ _ _ _ ?_) <;> (first | (simp; done) | (simp; omega) | omega) <;> done) | with_reducible refine Blk.alloc ?_ _ | with_reducible refine Blk3.drew ?_ | with_reducible refine Blk3.drewN ?_ _ | ((with_reducible refine Blk3.new' _ _ _ _ _ _ ?_) <;> (first | (simp; done) | (simp; omega) | omega) <;> done) | with_reducible refine Blk3.alloc ?_ _ | with_reducible refine Blk3.far ?_ ?_ _ | with_reducible refine Blk3.below ?_ (by assumption) ?_ | with_reducible refine Blk.below ?_ (by assumption) ?_)) <;> (first | (simp; done) | (simp; omega) | omega)), by ((repeat' (first | with_reducible assumption | with_reducible refine Blk.drew ?_ | with_reducible refine Blk.drewN ?_ _ | with_reducible refine Blk.set3 ?_ _ _ _ | with_reducible refine Blk.far ?_ ?_ _ | ((with_reducible refine Blk.new' _ _ _ _ ?_) <;> (first | (simp; done) | (simp; omega) | omega) <;> done) | with_reducible refine Blk.alloc ?_ _ | with_reducible refine Blk3.drew ?_ | with_reducible refine Blk3.drewN ?_ _ | ((with_reducible refine Blk3.new' _ _ _ _ _ _ ?_) <;> (first | (simp; done) | (simp; omega) | omega) <;> done) | with_reducible refine Blk3.alloc ?_ _ | with_reducible refine Blk3.far ?_ ?_ _ | with_reducible refine Blk3.below ?_ (by assumption) ?_ | with_reducible refine Blk.below ?_ (by assumption) ?_)) <;> (first | (simp; done) | (simp; omega) | omega)), by ((repeat' (first | with_reducible assumption | with_reducible refine Blk.drew ?_ | with_reducible refine Blk.drewN ?_ _ | with_reducible refine Blk.set3 ?_ _ _ _ | with_reducible refine Blk.far ?_ ?_ _ | ((with_reducible refine Blk.new' _ _ _ _ ?_) <;> (first | (simp; done) | (simp; omega) | omega) <;> done) | with_reducible refine Blk.alloc ?_ _ | with_reducible refine Blk3.drew ?_ | with_reducible refine Blk3.drewN ?_ _ | ((with_reducible refine Blk3.new' _ _ _ _ _ _ ?_) <;> (first | (simp; done) | (simp; omega) | omega) <;> done) | with_reducible refine Blk3.alloc ?_ _ | with_reducible refine Blk3.far ?_ ?_ _ | with_reducible refine Blk3.below ?_ (by assumption) ?_ | with_reducible refine Blk.below ?_ (by assumption) ?_)) <;> (first | (simp; done) | (simp; omega) | omega)), by exact bl⟩ ?_
  rintro W ⟨hA, hB, hR, hbw⟩
  have l0 := hR.lt
  have HSH : Hid (∀ w' : World, Below W.heap.size W w' → (w'.cell? ⟨w.heap.size, 0, none⟩ = some (.int .i64 ((⟨k, i, s⟩ : V)).k) ∧ w'.cell? ⟨w.heap.size, 1, none⟩ = some (.int .i64 ((⟨k, i, s⟩ : V)).i) ∧ w'.cell? ⟨w.heap.size, 2, none⟩ = some (.string ⟨((⟨k, i, s⟩ : V)).s.toArray⟩) ∧ w'.cell? ⟨w.heap.size + 1, 0, none⟩ = some (.int .i64 ((⟨k', i', s'⟩ : V)).k) ∧ w'.cell? ⟨w.heap.size + 1, 1, none⟩ = some (.int .i64 ((⟨k', i', s'⟩ : V)).i) ∧ w'.cell? ⟨w.heap.size + 1, 2, none⟩ = some (.string ⟨((⟨k', i', s'⟩ : V)).s.toArray⟩))) := fun w' h => by
    obtain ⟨⟨x0, x1, x2⟩, _⟩ := (hA.below h (by omega)).three
    obtain ⟨⟨y0, y1, y2⟩, _⟩ := (hB.below h (by omega)).three
    exact ⟨x0, x1, x2, y0, y1, y2⟩
  go_cut [5, 6] (fun s5 s6 wx => s5 = .int .i64 X ∧ s6 = .int .i64 Y ∧ Below W.heap.size W wx)
  case first =>
    go_region_held3 (fun w' => w'.cell? ⟨w.heap.size, 0, none⟩ = some (.int .i64 ((⟨k, i, s⟩ : V)).k) ∧ w'.cell? ⟨w.heap.size, 1, none⟩ = some (.int .i64 ((⟨k, i, s⟩ : V)).i) ∧ w'.cell? ⟨w.heap.size, 2, none⟩ = some (.string ⟨((⟨k, i, s⟩ : V)).s.toArray⟩) ∧ w'.cell? ⟨w.heap.size + 1, 0, none⟩ = some (.int .i64 ((⟨k', i', s'⟩ : V)).k) ∧ w'.cell? ⟨w.heap.size + 1, 1, none⟩ = some (.int .i64 ((⟨k', i', s'⟩ : V)).i) ∧ w'.cell? ⟨w.heap.size + 1, 2, none⟩ = some (.string ⟨((⟨k', i', s'⟩ : V)).s.toArray⟩))
      (exact HSH.out _ (by exact bl))
      (first | (go_at_call 118; refine (says_any _ _ _ _).mono ?_; rintro e w1 ⟨rfl, hb1⟩; have hz1 := hb1.size; (try simp at hz1)))
    all_goals (go_wp2_with fail; go_meet)
    all_goals refine ⟨by rw [← HX.out], by rw [← HY.out], ?_⟩
    all_goals exact bl
  case rest =>
    obtain ⟨rfl, rfl, hbx⟩ := hcut
    have hzx := hbx.size
    have hRx := hR.below hbx (by omega)
    obtain ⟨⟨r0, r1, r2⟩, f0, f1, f2⟩ := hRx.three
    have l1 : w.heap.size + 1 + 1 < wc.heap.size := by omega
    clear HSH hA hB hR HX HY
    rcases rX with rfl | rfl | rfl <;> rcases rY with rfl | rfl | rfl
    all_goals
      go_wp2_with (go_at_call 119; refine (truth_any _ _ (by simp)).mono ?_; rintro e w1 ⟨rfl, hb1⟩; have hz1 := hb1.size; obtain ⟨hc1, hf1⟩ := bcell hb1)
      refine bodyPost_ret (v := .agg #[.int .i64 (truthV _).k, .int .i64 (truthV _).i, .string ⟨(truthV _).s.toArray⟩]) (by simp [results, Tryz.results83, go_sem, *]; exact ⟨rfl, rfl, rfl⟩) rfl ⟨rfl, ?_⟩
      exact bl
set_option maxHeartbeats 1000000 in
theorem or_any (k i : Int) (s : List UInt8) (k' i' : Int) (s' : List UInt8) (w : World) :
    Calls Tryz.prog 84 #[.agg #[.int .i64 k, .int .i64 i, .string ⟨s.toArray⟩], .agg #[.int .i64 k', .int .i64 i', .string ⟨s'.toArray⟩]] w (Ret (.agg #[.int .i64 (truthV (orN (saysF k i s) (saysF k' i' s'))).k, .int .i64 (truthV (orN (saysF k i s) (saysF k' i' s'))).i, .string ⟨(truthV (orN (saysF k i s) (saysF k' i' s'))).s.toArray⟩]) w) := by
  obtain ⟨X, hX⟩ : ∃ X, saysF k i s = X := ⟨_, rfl⟩
  obtain ⟨Y, hY⟩ : ∃ Y, saysF k' i' s' = Y := ⟨_, rfl⟩
  have rX := saysF_range k i s
  have rY := saysF_range k' i' s'
  rw [hX] at rX
  rw [hY] at rY
  rw [hX, hY]
  have HX := Lib.hid hX
  have HY := Lib.hid hY
  clear hX hY
  go_enter Tryz.func84, Tryz.ntmps84
  go_upto_region 1 with fail
  refine wp_forget (fun wx => Blk wx w.heap.size 26 #[.int .i64 k, .int .i64 i, .string ⟨s.toArray⟩] ∧ Blk wx (w.heap.size + 1) 26 #[.int .i64 k', .int .i64 i', .string ⟨s'.toArray⟩] ∧ Blk wx (w.heap.size + 1 + 1) 26 #[.int .i64 0, .int .i64 0, .string ⟨#[]⟩] ∧ Below w.heap.size w wx) ⟨by ((repeat' (first | with_reducible assumption | with_reducible refine Blk.drew ?_ | with_reducible refine Blk.drewN ?_ _ | with_reducible refine Blk.set3 ?_ _ _ _ | with_reducible refine Blk.far ?_ ?_ _ | ((with_reducible refine Blk.new' _ _ _ _ ?_) <;> (first | (simp; done) | (simp; omega) | omega) <;> done) | with_reducible refine Blk.alloc ?_ _ | with_reducible refine Blk3.drew ?_ | with_reducible refine Blk3.drewN ?_ _ | ((with_reducible refine Blk3.new' _ _ _ _ _ _ ?_) <;> (first | (simp; done) | (simp; omega) | omega) <;> done) | with_reducible refine Blk3.alloc ?_ _ | with_reducible refine Blk3.far ?_ ?_ _ | with_reducible refine Blk3.below ?_ (by assumption) ?_ | with_reducible refine Blk.below ?_ (by assumption) ?_)) <;> (first | (simp; done) | (simp; omega) | omega)), by ((repeat' (first | with_reducible assumption | with_reducible refine Blk.drew ?_ | with_reducible refine Blk.drewN ?_ _ | with_reducible refine Blk.set3 ?_ _ _ _ | with_reducible refine Blk.far ?_ ?_ _ | ((with_reducible refine Blk.new' _ _ _ _ ?_) <;> (first | (simp; done) | (simp; omega) | omega) <;> done) | with_reducible refine Blk.alloc ?_ _ | with_reducible refine Blk3.drew ?_ | with_reducible refine Blk3.drewN ?_ _ | ((with_reducible refine Blk3.new' _ _ _ _ _ _ ?_) <;> (first | (simp; done) | (simp; omega) | omega) <;> done) | with_reducible refine Blk3.alloc ?_ _ | with_reducible refine Blk3.far ?_ ?_ _ | with_reducible refine Blk3.below ?_ (by assumption) ?_ | with_reducible refine Blk.below ?_ (by assumption) ?_)) <;> (first | (simp; done) | (simp; omega) | omega)), by ((repeat' (first | with_reducible assumption | with_reducible refine Blk.drew ?_ | with_reducible refine Blk.drewN ?_ _ | with_reducible refine Blk.set3 ?_ _ _ _ | with_reducible refine Blk.far ?_ ?_ _ | ((with_reducible refine Blk.new' _ _ _ _ ?_) <;> (first | (simp; done) | (simp; omega) | omega) <;> done) | with_reducible refine Blk.alloc ?_ _ | with_reducible refine Blk3.drew ?_ | with_reducible refine Blk3.drewN ?_ _ | ((with_reducible refine Blk3.new' _ _ _ _ _ _ ?_) <;> (first | (simp; done) | (simp; omega) | omega) <;> done) | with_reducible refine Blk3.alloc ?_ _ | with_reducible refine Blk3.far ?_ ?_ _ | with_reducible refine Blk3.below ?_ (by assumption) ?_ | with_reducible refine Blk.below ?_ (by assumption) ?_)) <;> (first | (simp; done) | (simp; omega) | omega)), by exact bl⟩ ?_
  rintro W ⟨hA, hB, hR, hbw⟩
  have l0 := hR.lt
  have HSH : Hid (∀ w' : World, Below W.heap.size W w' → (w'.cell? ⟨w.heap.size, 0, none⟩ = some (.int .i64 ((⟨k, i, s⟩ : V)).k) ∧ w'.cell? ⟨w.heap.size, 1, none⟩ = some (.int .i64 ((⟨k, i, s⟩ : V)).i) ∧ w'.cell? ⟨w.heap.size, 2, none⟩ = some (.string ⟨((⟨k, i, s⟩ : V)).s.toArray⟩) ∧ w'.cell? ⟨w.heap.size + 1, 0, none⟩ = some (.int .i64 ((⟨k', i', s'⟩ : V)).k) ∧ w'.cell? ⟨w.heap.size + 1, 1, none⟩ = some (.int .i64 ((⟨k', i', s'⟩ : V)).i) ∧ w'.cell? ⟨w.heap.size + 1, 2, none⟩ = some (.string ⟨((⟨k', i', s'⟩ : V)).s.toArray⟩))) := fun w' h => by
    obtain ⟨⟨x0, x1, x2⟩, _⟩ := (hA.below h (by omega)).three
    obtain ⟨⟨y0, y1, y2⟩, _⟩ := (hB.below h (by omega)).three
    exact ⟨x0, x1, x2, y0, y1, y2⟩
  go_cut [5, 6] (fun s5 s6 wx => s5 = .int .i64 X ∧ s6 = .int .i64 Y ∧ Below W.heap.size W wx)
  case first =>
    go_region_held3 (fun w' => w'.cell? ⟨w.heap.size, 0, none⟩ = some (.int .i64 ((⟨k, i, s⟩ : V)).k) ∧ w'.cell? ⟨w.heap.size, 1, none⟩ = some (.int .i64 ((⟨k, i, s⟩ : V)).i) ∧ w'.cell? ⟨w.heap.size, 2, none⟩ = some (.string ⟨((⟨k, i, s⟩ : V)).s.toArray⟩) ∧ w'.cell? ⟨w.heap.size + 1, 0, none⟩ = some (.int .i64 ((⟨k', i', s'⟩ : V)).k) ∧ w'.cell? ⟨w.heap.size + 1, 1, none⟩ = some (.int .i64 ((⟨k', i', s'⟩ : V)).i) ∧ w'.cell? ⟨w.heap.size + 1, 2, none⟩ = some (.string ⟨((⟨k', i', s'⟩ : V)).s.toArray⟩))
      (exact HSH.out _ (by exact bl))
      (first | (go_at_call 118; refine (says_any _ _ _ _).mono ?_; rintro e w1 ⟨rfl, hb1⟩; have hz1 := hb1.size; (try simp at hz1)))
    all_goals (go_wp2_with fail; go_meet)
    all_goals refine ⟨by rw [← HX.out], by rw [← HY.out], ?_⟩
    all_goals exact bl
  case rest =>
    obtain ⟨rfl, rfl, hbx⟩ := hcut
    have hzx := hbx.size
    have hRx := hR.below hbx (by omega)
    obtain ⟨⟨r0, r1, r2⟩, f0, f1, f2⟩ := hRx.three
    have l1 : w.heap.size + 1 + 1 < wc.heap.size := by omega
    clear HSH hA hB hR HX HY
    rcases rX with rfl | rfl | rfl <;> rcases rY with rfl | rfl | rfl
    all_goals
      go_wp2_with (go_at_call 119; refine (truth_any _ _ (by simp)).mono ?_; rintro e w1 ⟨rfl, hb1⟩; have hz1 := hb1.size; obtain ⟨hc1, hf1⟩ := bcell hb1)
      refine bodyPost_ret (v := .agg #[.int .i64 (truthV _).k, .int .i64 (truthV _).i, .string ⟨(truthV _).s.toArray⟩]) (by simp [results, Tryz.results84, go_sem, *]; exact ⟨rfl, rfl, rfl⟩) rfl ⟨rfl, ?_⟩
      exact bl

set_option maxHeartbeats 1000000 in
theorem not_any (k i : Int) (s : List UInt8) (w : World) :
    Calls Tryz.prog 86 #[.agg #[.int .i64 k, .int .i64 i, .string ⟨s.toArray⟩]] w (Ret (.agg #[.int .i64 (truthV (notN (saysF k i s))).k, .int .i64 (truthV (notN (saysF k i s))).i, .string ⟨(truthV (notN (saysF k i s))).s.toArray⟩]) w) := by
  obtain ⟨X, hX⟩ : ∃ X, saysF k i s = X := ⟨_, rfl⟩
  have rX := saysF_range k i s
  rw [hX] at rX
  rw [hX]
  have HX := Lib.hid hX
  clear hX
  go_enter Tryz.func86, Tryz.ntmps86
  go_wp2_with fail
  refine (says_any _ _ _ _).mono ?_
  rintro e w0 ⟨rfl, hb0⟩
  rw [HX.out]
  have hz0 := hb0.size
  obtain ⟨hc0, hf0⟩ := bcell hb0
  simp at hz0 hc0 hf0
  have l0 : w.heap.size + 1 < w0.heap.size := by omega
  clear HX
  rcases rX with rfl | rfl | rfl
  all_goals
    go_wp2_with (go_at_call 119; refine (truth_any _ _ (by simp)).mono ?_; rintro e w1 ⟨rfl, hb1⟩; have hz1 := hb1.size; obtain ⟨hc1, hf1⟩ := bcell hb1)
    refine bodyPost_ret (v := .agg #[.int .i64 (truthV _).k, .int .i64 (truthV _).i, .string ⟨(truthV _).s.toArray⟩]) (by simp [results, Tryz.results86, go_sem, *]; exact ⟨rfl, rfl, rfl⟩) rfl ⟨rfl, ?_⟩
    exact bl

def alikeB (a b : V) : Bool := !decide ((goodV a.k a.i a.s).k = 0) && decide ((goodV a.k a.i a.s).k = (goodV b.k b.i b.s).k)
set_option maxHeartbeats 1000000 in
theorem alike_any (k i : Int) (s : List UInt8) (k' i' : Int) (s' : List UInt8) (w : World) :
    Calls Tryz.prog 120 #[.agg #[.int .i64 k, .int .i64 i, .string ⟨s.toArray⟩], .agg #[.int .i64 k', .int .i64 i', .string ⟨s'.toArray⟩]] w (Ret (.bool (alikeB ⟨k, i, s⟩ ⟨k', i', s'⟩)) w) := by
  have l0 : w.heap.size < w.heap.size + 1 + 1 := by omega
  go_enter Tryz.func120, Tryz.ntmps120
  go_upto_region 1 with fail
  go_cut [] (fun wx => Two w.heap.size (goodV k i s) (goodV k' i' s') wx ∧ Below w.heap.size w wx)
  case first =>
    go_region_with (go_at_call 98; refine (known_any _ _ _ _).mono ?_; rintro e w1 ⟨rfl, hb⟩; obtain ⟨hc, hf⟩ := bcell hb; have hz := hb.size; (try simp at hz hc hf); have l1 : w.heap.size < w1.heap.size := (by omega); have l2 : w.heap.size + 1 < w1.heap.size := (by omega))
    all_goals (go_wp2_with fail; go_meet)
    all_goals refine ⟨two_set w1 _ _ _ (.int .i64 k) (.int .i64 i) (.string ⟨s.toArray⟩) (.int .i64 k') (.int .i64 i') (.string ⟨s'.toArray⟩) ?_ ?_ ?_ ?_ ?_ ?_, ?_⟩
    all_goals first | (simp [*, go_sem]; done) | exact bl
  case rest =>
    obtain ⟨hcu, hbw⟩ := hcut
    obtain ⟨a, ha⟩ : ∃ a, goodV k i s = a := ⟨_, rfl⟩
    obtain ⟨b, hb⟩ : ∃ b, goodV k' i' s' = b := ⟨_, rfl⟩
    rw [ha, hb] at hcu
    have HA := Lib.hid ha
    have HB := Lib.hid hb
    clear ha hb
    obtain ⟨⟨a0, a1, a2⟩, b0, b1, b2⟩ := hcu
    go_wp2
    all_goals go_ret
    all_goals refine ⟨?_, hbw⟩
    all_goals simp only [alikeB]
    all_goals rw [HA.out]
    all_goals try rw [HB.out]
    all_goals go_light
    all_goals clear a0 a1 a2 b0 b1 b2 HA HB hbw
    all_goals simp_all
    all_goals (rw [Bool.eq_iff_iff]; simp; try omega)

def equalV (a b : V) : V := if alikeB a b then bV (veq a b) else V.zero
def lessV (a b : V) : V := if alikeB a b then bV (decide (cord (goodV a.k a.i a.s) (goodV b.k b.i b.s) < 0)) else V.zero

set_option maxHeartbeats 1000000 in
theorem equal_any (k i : Int) (s : List UInt8) (k' i' : Int) (s' : List UInt8) (w : World) :
    Calls Tryz.prog 87 #[.agg #[.int .i64 k, .int .i64 i, .string ⟨s.toArray⟩], .agg #[.int .i64 k', .int .i64 i', .string ⟨s'.toArray⟩]] w (Ret (.agg #[.int .i64 (equalV ⟨k, i, s⟩ ⟨k', i', s'⟩).k, .int .i64 (equalV ⟨k, i, s⟩ ⟨k', i', s'⟩).i, .string ⟨(equalV ⟨k, i, s⟩ ⟨k', i', s'⟩).s.toArray⟩]) w) := by
  cases h : alikeB ⟨k, i, s⟩ ⟨k', i', s'⟩
  · have e : equalV ⟨k, i, s⟩ ⟨k', i', s'⟩ = ⟨0, 0, []⟩ := by unfold equalV; rw [h]; rfl
    rw [e]
    have H := Lib.hid h
    clear h e
    go_enter Tryz.func87, Tryz.ntmps87
    go_wp2_with fail
    refine (alike_any _ _ _ _ _ _ _).mono ?_
    rintro e w0 ⟨rfl, hb0⟩
    rw [H.out]
    have hz0 := hb0.size
    obtain ⟨hc0, hf0⟩ := bcell hb0
    simp at hz0 hc0 hf0
    have l0 : w.heap.size + 1 + 1 < w0.heap.size := by omega
    go_wp2_with fail
    refine bodyPost_ret (v := .agg #[.int .i64 0, .int .i64 0, .string ⟨#[]⟩]) (by simp [results, Tryz.results87, go_sem, *]) rfl ⟨rfl, ?_⟩
    exact bl
  · have e : equalV ⟨k, i, s⟩ ⟨k', i', s'⟩ = bV (veq ⟨k, i, s⟩ ⟨k', i', s'⟩) := by unfold equalV; rw [h]; rfl
    rw [e]
    have H := Lib.hid h
    clear h e
    go_enter Tryz.func87, Tryz.ntmps87
    go_wp2_with fail
    refine (alike_any _ _ _ _ _ _ _).mono ?_
    rintro e w0 ⟨rfl, hb0⟩
    rw [H.out]
    have hz0 := hb0.size
    obtain ⟨hc0, hf0⟩ := bcell hb0
    simp at hz0 hc0 hf0
    have l0 : w.heap.size + 1 + 1 < w0.heap.size := by omega
    have l1 : w.heap.size + 1 < w0.heap.size := by omega
    have l2 : w.heap.size < w0.heap.size := by omega
    go_wp2_with fail
    refine (whether_any _ _).mono ?_
    rintro e w1 ⟨rfl, hb1⟩
    have hz1 := hb1.size
    obtain ⟨hc1, hf1⟩ := bcell hb1
    go_wp2_with fail
    refine bodyPost_ret (v := .agg #[.int .i64 (bV (veq ⟨k, i, s⟩ ⟨k', i', s'⟩)).k, .int .i64 (bV (veq ⟨k, i, s⟩ ⟨k', i', s'⟩)).i, .string ⟨(bV (veq ⟨k, i, s⟩ ⟨k', i', s'⟩)).s.toArray⟩]) (by simp [results, Tryz.results87, go_sem, *]) rfl ⟨rfl, ?_⟩
    exact bl

set_option maxHeartbeats 1000000 in
theorem less_any (k i : Int) (s : List UInt8) (k' i' : Int) (s' : List UInt8) (w : World) :
    Calls Tryz.prog 88 #[.agg #[.int .i64 k, .int .i64 i, .string ⟨s.toArray⟩], .agg #[.int .i64 k', .int .i64 i', .string ⟨s'.toArray⟩]] w (Ret (.agg #[.int .i64 (lessV ⟨k, i, s⟩ ⟨k', i', s'⟩).k, .int .i64 (lessV ⟨k, i, s⟩ ⟨k', i', s'⟩).i, .string ⟨(lessV ⟨k, i, s⟩ ⟨k', i', s'⟩).s.toArray⟩]) w) := by
  cases h : alikeB ⟨k, i, s⟩ ⟨k', i', s'⟩
  · have e : lessV ⟨k, i, s⟩ ⟨k', i', s'⟩ = ⟨0, 0, []⟩ := by unfold lessV; rw [h]; rfl
    rw [e]
    have H := Lib.hid h
    clear h e
    go_enter Tryz.func88, Tryz.ntmps88
    go_wp2_with fail
    refine (alike_any _ _ _ _ _ _ _).mono ?_
    rintro e w0 ⟨rfl, hb0⟩
    rw [H.out]
    have hz0 := hb0.size
    obtain ⟨hc0, hf0⟩ := bcell hb0
    simp at hz0 hc0 hf0
    have l0 : w.heap.size + 1 + 1 < w0.heap.size := by omega
    go_wp2_with fail
    refine bodyPost_ret (v := .agg #[.int .i64 0, .int .i64 0, .string ⟨#[]⟩]) (by simp [results, Tryz.results88, go_sem, *]) rfl ⟨rfl, ?_⟩
    exact bl
  · have e : lessV ⟨k, i, s⟩ ⟨k', i', s'⟩ = bV (decide (cord (goodV k i s) (goodV k' i' s') < 0)) := by unfold lessV; rw [h]; rfl
    rw [e]
    have H := Lib.hid h
    clear h e
    go_enter Tryz.func88, Tryz.ntmps88
    go_wp2_with fail
    refine (alike_any _ _ _ _ _ _ _).mono ?_
    rintro e w0 ⟨rfl, hb0⟩
    rw [H.out]
    have hz0 := hb0.size
    obtain ⟨hc0, hf0⟩ := bcell hb0
    simp at hz0 hc0 hf0
    have l0 : w.heap.size + 1 + 1 < w0.heap.size := by omega
    have l1 : w.heap.size + 1 < w0.heap.size := by omega
    have l2 : w.heap.size < w0.heap.size := by omega
    go_wp2_with fail
    refine (vorder_any _ _ _ _ _ _ _).mono ?_
    rintro e w1 ⟨rfl, hb1⟩
    have hz1 := hb1.size
    obtain ⟨hc1, hf1⟩ := bcell hb1
    generalize cord (goodV k i s) (goodV k' i' s') = C at *
    have l3 : w.heap.size + 1 + 1 < w1.heap.size := by omega
    go_wp2_with fail
    refine (whether_any _ _).mono ?_
    rintro e w2 ⟨rfl, hb2⟩
    have hz2 := hb2.size
    obtain ⟨hc2, hf2⟩ := bcell hb2
    go_wp2_with fail
    refine bodyPost_ret (v := .agg #[.int .i64 (bV (decide (C < 0))).k, .int .i64 (bV (decide (C < 0))).i, .string ⟨(bV (decide (C < 0))).s.toArray⟩]) (by simp [results, Tryz.results88, go_sem, *]) rfl ⟨rfl, ?_⟩
    exact bl

set_option maxHeartbeats 1000000 in
theorem isNull_any (k i : Int) (s : List UInt8) (w : World) :
    Calls Tryz.prog 92 #[.agg #[.int .i64 k, .int .i64 i, .string ⟨s.toArray⟩]] w (Ret (.agg #[.int .i64 (bV (decide ((goodV k i s).k = 0))).k, .int .i64 (bV (decide ((goodV k i s).k = 0))).i, .string ⟨(bV (decide ((goodV k i s).k = 0))).s.toArray⟩]) w) := by
  go_enter Tryz.func92, Tryz.ntmps92
  go_wp2_with fail
  refine (known_any _ _ _ _).mono ?_
  rintro e w0 ⟨rfl, hb0⟩
  have hz0 := hb0.size
  obtain ⟨hc0, hf0⟩ := bcell hb0
  simp at hz0 hc0 hf0
  have l0 : w.heap.size + 1 < w0.heap.size := by omega
  obtain ⟨G, hG⟩ : ∃ G, goodV k i s = G := ⟨_, rfl⟩
  rw [hG]
  have HG := Lib.hid hG
  clear hG
  go_wp2_with fail
  refine (whether_any _ _).mono ?_
  rintro e w1 ⟨rfl, hb1⟩
  have hz1 := hb1.size
  obtain ⟨hc1, hf1⟩ := bcell hb1
  go_wp2_with fail
  refine bodyPost_ret (v := .agg #[.int .i64 (bV (G.k == 0)).k, .int .i64 (bV (G.k == 0)).i, .string ⟨(bV (G.k == 0)).s.toArray⟩]) (by simp [results, Tryz.results92, go_sem, *]) rfl ⟨by rw [HG.out, dec_beq], ?_⟩
  exact bl

end Go.Proofs.YtdhjogmkhbpcgaaGreat

namespace Go.Proofs.YtdhjogmkhbpcgaaGreat
open Go.RowKit

attribute [local go_sem] ByteArray.extract_mk ba_get
attribute [local go_sem ↓] Go.wp_at_zero Go.wp_at_succ run_eql_V run_neq_V run_field0 run_field1 run_field2

def fits (n : Int) : Bool := decide (-9223372036854775808 ≤ n) && decide (n ≤ 9223372036854775807)
def plusV (a b : V) : V := if alikeB a b && decide (a.k = 1) && fits (a.i + b.i) then ⟨1, a.i + b.i, []⟩ else V.zero
def minusV (a b : V) : V := if alikeB a b && decide (a.k = 1) && fits (a.i - b.i) then ⟨1, a.i - b.i, []⟩ else V.zero

theorem wrap_up (n : Int) (h1 : 9223372036854775807 < n) (h2 : n ≤ 18446744073709551615) : wrap64 n = n - 18446744073709551616 := by
  unfold wrap64; omega
theorem wrap_down (n : Int) (h1 : n < -9223372036854775808) (h2 : -18446744073709551616 ≤ n) : wrap64 n = n + 18446744073709551616 := by
  unfold wrap64; omega

set_option maxHeartbeats 1000000 in
theorem plus_no (k i : Int) (s : List UInt8) (k' i' : Int) (s' : List UInt8) (w : World) (h : alikeB ⟨k, i, s⟩ ⟨k', i', s'⟩ = false) :
    Calls Tryz.prog 89 #[.agg #[.int .i64 k, .int .i64 i, .string ⟨s.toArray⟩], .agg #[.int .i64 k', .int .i64 i', .string ⟨s'.toArray⟩]] w (Ret (.agg #[.int .i64 0, .int .i64 0, .string ⟨#[]⟩]) w) := by
    have H := Lib.hid h
    clear h
    go_enter Tryz.func89, Tryz.ntmps89
    go_wp2_with fail
    refine (alike_any _ _ _ _ _ _ _).mono ?_
    rintro e w0 ⟨rfl, hb0⟩
    rw [H.out]
    have hz0 := hb0.size
    obtain ⟨hc0, hf0⟩ := bcell hb0
    simp at hz0 hc0 hf0
    have l0 : w.heap.size + 1 + 1 < w0.heap.size := by omega
    have l1 : w.heap.size + 1 < w0.heap.size := by omega
    have l2 : w.heap.size < w0.heap.size := by omega
    go_wp2_with fail
    all_goals refine bodyPost_ret (v := .agg #[.int .i64 0, .int .i64 0, .string ⟨#[]⟩]) (by simp [results, Tryz.results89, go_sem, *]) rfl ⟨rfl, ?_⟩
    all_goals exact bl
set_option maxHeartbeats 1000000 in
theorem plus_other (k i : Int) (s : List UInt8) (k' i' : Int) (s' : List UInt8) (w : World) (h : alikeB ⟨k, i, s⟩ ⟨k', i', s'⟩ = true) (hk : (k != 1) = true) :
    Calls Tryz.prog 89 #[.agg #[.int .i64 k, .int .i64 i, .string ⟨s.toArray⟩], .agg #[.int .i64 k', .int .i64 i', .string ⟨s'.toArray⟩]] w (Ret (.agg #[.int .i64 0, .int .i64 0, .string ⟨#[]⟩]) w) := by
    have H := Lib.hid h
    clear h
    go_enter Tryz.func89, Tryz.ntmps89
    go_wp2_with fail
    refine (alike_any _ _ _ _ _ _ _).mono ?_
    rintro e w0 ⟨rfl, hb0⟩
    rw [H.out]
    have hz0 := hb0.size
    obtain ⟨hc0, hf0⟩ := bcell hb0
    simp at hz0 hc0 hf0
    have l0 : w.heap.size + 1 + 1 < w0.heap.size := by omega
    have l1 : w.heap.size + 1 < w0.heap.size := by omega
    have l2 : w.heap.size < w0.heap.size := by omega
    go_wp2_with fail
    all_goals refine bodyPost_ret (v := .agg #[.int .i64 0, .int .i64 0, .string ⟨#[]⟩]) (by simp [results, Tryz.results89, go_sem, *]) rfl ⟨rfl, ?_⟩
    all_goals exact bl
set_option maxHeartbeats 1000000 in
theorem plus_fits (i : Int) (s : List UInt8) (k' i' : Int) (s' : List UInt8) (w : World) (h : alikeB ⟨1, i, s⟩ ⟨k', i', s'⟩ = true) (h1 : -9223372036854775808 ≤ i + i') (h2 : i + i' ≤ 9223372036854775807) :
    Calls Tryz.prog 89 #[.agg #[.int .i64 1, .int .i64 i, .string ⟨s.toArray⟩], .agg #[.int .i64 k', .int .i64 i', .string ⟨s'.toArray⟩]] w (Ret (.agg #[.int .i64 1, .int .i64 (i + i'), .string ⟨#[]⟩]) w) := by
    have H := Lib.hid h
    clear h
    rcases Int.lt_trichotomy i' 0 with hs | hs | hs
    · have q1 : ¬ 0 < i' := by omega
      go_enter Tryz.func89, Tryz.ntmps89
      go_wp2_with fail
      refine (alike_any _ _ _ _ _ _ _).mono ?_
      rintro e w0 ⟨rfl, hb0⟩
      rw [H.out]
      have hz0 := hb0.size
      obtain ⟨hc0, hf0⟩ := bcell hb0
      simp at hz0 hc0 hf0
      have l0 : w.heap.size + 1 + 1 < w0.heap.size := by omega
      have l1 : w.heap.size + 1 < w0.heap.size := by omega
      have l2 : w.heap.size < w0.heap.size := by omega
      go_wp2_with fail
      all_goals refine bodyPost_ret (v := .agg #[.int .i64 1, .int .i64 (i + i'), .string ⟨#[]⟩]) (by simp [results, Tryz.results89, go_sem, *]) rfl ⟨rfl, ?_⟩
      all_goals exact bl
    · have q1 : ¬ 0 < i' := by omega
      have q2 : ¬ i' < 0 := by omega
      clear hs
      go_enter Tryz.func89, Tryz.ntmps89
      go_wp2_with fail
      refine (alike_any _ _ _ _ _ _ _).mono ?_
      rintro e w0 ⟨rfl, hb0⟩
      rw [H.out]
      have hz0 := hb0.size
      obtain ⟨hc0, hf0⟩ := bcell hb0
      simp at hz0 hc0 hf0
      have l0 : w.heap.size + 1 + 1 < w0.heap.size := by omega
      have l1 : w.heap.size + 1 < w0.heap.size := by omega
      have l2 : w.heap.size < w0.heap.size := by omega
      go_wp2_with fail
      all_goals refine bodyPost_ret (v := .agg #[.int .i64 1, .int .i64 (i + i'), .string ⟨#[]⟩]) (by simp [results, Tryz.results89, go_sem, *]) rfl ⟨rfl, ?_⟩
      all_goals exact bl
    · have q2 : ¬ i' < 0 := by omega
      go_enter Tryz.func89, Tryz.ntmps89
      go_wp2_with fail
      refine (alike_any _ _ _ _ _ _ _).mono ?_
      rintro e w0 ⟨rfl, hb0⟩
      rw [H.out]
      have hz0 := hb0.size
      obtain ⟨hc0, hf0⟩ := bcell hb0
      simp at hz0 hc0 hf0
      have l0 : w.heap.size + 1 + 1 < w0.heap.size := by omega
      have l1 : w.heap.size + 1 < w0.heap.size := by omega
      have l2 : w.heap.size < w0.heap.size := by omega
      go_wp2_with fail
      all_goals refine bodyPost_ret (v := .agg #[.int .i64 1, .int .i64 (i + i'), .string ⟨#[]⟩]) (by simp [results, Tryz.results89, go_sem, *]) rfl ⟨rfl, ?_⟩
      all_goals exact bl
set_option maxHeartbeats 1000000 in
theorem plus_up (i : Int) (s : List UInt8) (k' i' : Int) (s' : List UInt8) (w : World) (h : alikeB ⟨1, i, s⟩ ⟨k', i', s'⟩ = true) (q : 0 < i' → wrap64 (i + i') < i) (q2 : i' ≤ 0 → i' < 0 ∧ i < wrap64 (i + i')) :
    Calls Tryz.prog 89 #[.agg #[.int .i64 1, .int .i64 i, .string ⟨s.toArray⟩], .agg #[.int .i64 k', .int .i64 i', .string ⟨s'.toArray⟩]] w (Ret (.agg #[.int .i64 0, .int .i64 0, .string ⟨#[]⟩]) w) := by
    have H := Lib.hid h
    clear h
    by_cases hs : 0 < i'
    · have q3 := q hs
      clear q q2
      go_enter Tryz.func89, Tryz.ntmps89
      go_wp2_with fail
      refine (alike_any _ _ _ _ _ _ _).mono ?_
      rintro e w0 ⟨rfl, hb0⟩
      rw [H.out]
      have hz0 := hb0.size
      obtain ⟨hc0, hf0⟩ := bcell hb0
      simp at hz0 hc0 hf0
      have l0 : w.heap.size + 1 + 1 < w0.heap.size := by omega
      have l1 : w.heap.size + 1 < w0.heap.size := by omega
      have l2 : w.heap.size < w0.heap.size := by omega
      go_wp2_with fail
      all_goals refine bodyPost_ret (v := .agg #[.int .i64 0, .int .i64 0, .string ⟨#[]⟩]) (by simp [results, Tryz.results89, go_sem, *]) rfl ⟨rfl, ?_⟩
      all_goals exact bl
    · obtain ⟨q3, q4⟩ := q2 (by omega)
      have q5 : ¬ 0 < i' := by omega
      clear q q2
      go_enter Tryz.func89, Tryz.ntmps89
      go_wp2_with fail
      refine (alike_any _ _ _ _ _ _ _).mono ?_
      rintro e w0 ⟨rfl, hb0⟩
      rw [H.out]
      have hz0 := hb0.size
      obtain ⟨hc0, hf0⟩ := bcell hb0
      simp at hz0 hc0 hf0
      have l0 : w.heap.size + 1 + 1 < w0.heap.size := by omega
      have l1 : w.heap.size + 1 < w0.heap.size := by omega
      have l2 : w.heap.size < w0.heap.size := by omega
      go_wp2_with fail
      all_goals refine bodyPost_ret (v := .agg #[.int .i64 0, .int .i64 0, .string ⟨#[]⟩]) (by simp [results, Tryz.results89, go_sem, *]) rfl ⟨rfl, ?_⟩
      all_goals exact bl
set_option maxHeartbeats 1000000 in
theorem minus_no (k i : Int) (s : List UInt8) (k' i' : Int) (s' : List UInt8) (w : World) (h : alikeB ⟨k, i, s⟩ ⟨k', i', s'⟩ = false) :
    Calls Tryz.prog 90 #[.agg #[.int .i64 k, .int .i64 i, .string ⟨s.toArray⟩], .agg #[.int .i64 k', .int .i64 i', .string ⟨s'.toArray⟩]] w (Ret (.agg #[.int .i64 0, .int .i64 0, .string ⟨#[]⟩]) w) := by
    have H := Lib.hid h
    clear h
    go_enter Tryz.func90, Tryz.ntmps90
    go_wp2_with fail
    refine (alike_any _ _ _ _ _ _ _).mono ?_
    rintro e w0 ⟨rfl, hb0⟩
    rw [H.out]
    have hz0 := hb0.size
    obtain ⟨hc0, hf0⟩ := bcell hb0
    simp at hz0 hc0 hf0
    have l0 : w.heap.size + 1 + 1 < w0.heap.size := by omega
    have l1 : w.heap.size + 1 < w0.heap.size := by omega
    have l2 : w.heap.size < w0.heap.size := by omega
    go_wp2_with fail
    all_goals refine bodyPost_ret (v := .agg #[.int .i64 0, .int .i64 0, .string ⟨#[]⟩]) (by simp [results, Tryz.results90, go_sem, *]) rfl ⟨rfl, ?_⟩
    all_goals exact bl
set_option maxHeartbeats 1000000 in
theorem minus_other (k i : Int) (s : List UInt8) (k' i' : Int) (s' : List UInt8) (w : World) (h : alikeB ⟨k, i, s⟩ ⟨k', i', s'⟩ = true) (hk : (k != 1) = true) :
    Calls Tryz.prog 90 #[.agg #[.int .i64 k, .int .i64 i, .string ⟨s.toArray⟩], .agg #[.int .i64 k', .int .i64 i', .string ⟨s'.toArray⟩]] w (Ret (.agg #[.int .i64 0, .int .i64 0, .string ⟨#[]⟩]) w) := by
    have H := Lib.hid h
    clear h
    go_enter Tryz.func90, Tryz.ntmps90
    go_wp2_with fail
    refine (alike_any _ _ _ _ _ _ _).mono ?_
    rintro e w0 ⟨rfl, hb0⟩
    rw [H.out]
    have hz0 := hb0.size
    obtain ⟨hc0, hf0⟩ := bcell hb0
    simp at hz0 hc0 hf0
    have l0 : w.heap.size + 1 + 1 < w0.heap.size := by omega
    have l1 : w.heap.size + 1 < w0.heap.size := by omega
    have l2 : w.heap.size < w0.heap.size := by omega
    go_wp2_with fail
    all_goals refine bodyPost_ret (v := .agg #[.int .i64 0, .int .i64 0, .string ⟨#[]⟩]) (by simp [results, Tryz.results90, go_sem, *]) rfl ⟨rfl, ?_⟩
    all_goals exact bl
set_option maxHeartbeats 1000000 in
theorem minus_fits (i : Int) (s : List UInt8) (k' i' : Int) (s' : List UInt8) (w : World) (h : alikeB ⟨1, i, s⟩ ⟨k', i', s'⟩ = true) (h1 : -9223372036854775808 ≤ i - i') (h2 : i - i' ≤ 9223372036854775807) :
    Calls Tryz.prog 90 #[.agg #[.int .i64 1, .int .i64 i, .string ⟨s.toArray⟩], .agg #[.int .i64 k', .int .i64 i', .string ⟨s'.toArray⟩]] w (Ret (.agg #[.int .i64 1, .int .i64 (i - i'), .string ⟨#[]⟩]) w) := by
    have H := Lib.hid h
    clear h
    rcases Int.lt_trichotomy i' 0 with hs | hs | hs
    · have q1 : ¬ 0 < i' := by omega
      go_enter Tryz.func90, Tryz.ntmps90
      go_wp2_with fail
      refine (alike_any _ _ _ _ _ _ _).mono ?_
      rintro e w0 ⟨rfl, hb0⟩
      rw [H.out]
      have hz0 := hb0.size
      obtain ⟨hc0, hf0⟩ := bcell hb0
      simp at hz0 hc0 hf0
      have l0 : w.heap.size + 1 + 1 < w0.heap.size := by omega
      have l1 : w.heap.size + 1 < w0.heap.size := by omega
      have l2 : w.heap.size < w0.heap.size := by omega
      go_wp2_with fail
      all_goals refine bodyPost_ret (v := .agg #[.int .i64 1, .int .i64 (i - i'), .string ⟨#[]⟩]) (by simp [results, Tryz.results90, go_sem, *]) rfl ⟨rfl, ?_⟩
      all_goals exact bl
    · have q1 : ¬ 0 < i' := by omega
      have q2 : ¬ i' < 0 := by omega
      clear hs
      go_enter Tryz.func90, Tryz.ntmps90
      go_wp2_with fail
      refine (alike_any _ _ _ _ _ _ _).mono ?_
      rintro e w0 ⟨rfl, hb0⟩
      rw [H.out]
      have hz0 := hb0.size
      obtain ⟨hc0, hf0⟩ := bcell hb0
      simp at hz0 hc0 hf0
      have l0 : w.heap.size + 1 + 1 < w0.heap.size := by omega
      have l1 : w.heap.size + 1 < w0.heap.size := by omega
      have l2 : w.heap.size < w0.heap.size := by omega
      go_wp2_with fail
      all_goals refine bodyPost_ret (v := .agg #[.int .i64 1, .int .i64 (i - i'), .string ⟨#[]⟩]) (by simp [results, Tryz.results90, go_sem, *]) rfl ⟨rfl, ?_⟩
      all_goals exact bl
    · have q2 : ¬ i' < 0 := by omega
      go_enter Tryz.func90, Tryz.ntmps90
      go_wp2_with fail
      refine (alike_any _ _ _ _ _ _ _).mono ?_
      rintro e w0 ⟨rfl, hb0⟩
      rw [H.out]
      have hz0 := hb0.size
      obtain ⟨hc0, hf0⟩ := bcell hb0
      simp at hz0 hc0 hf0
      have l0 : w.heap.size + 1 + 1 < w0.heap.size := by omega
      have l1 : w.heap.size + 1 < w0.heap.size := by omega
      have l2 : w.heap.size < w0.heap.size := by omega
      go_wp2_with fail
      all_goals refine bodyPost_ret (v := .agg #[.int .i64 1, .int .i64 (i - i'), .string ⟨#[]⟩]) (by simp [results, Tryz.results90, go_sem, *]) rfl ⟨rfl, ?_⟩
      all_goals exact bl
set_option maxHeartbeats 1000000 in
theorem minus_up (i : Int) (s : List UInt8) (k' i' : Int) (s' : List UInt8) (w : World) (h : alikeB ⟨1, i, s⟩ ⟨k', i', s'⟩ = true) (q : 0 < i' → i < wrap64 (i - i')) (q2 : i' ≤ 0 → i' < 0 ∧ wrap64 (i - i') < i) :
    Calls Tryz.prog 90 #[.agg #[.int .i64 1, .int .i64 i, .string ⟨s.toArray⟩], .agg #[.int .i64 k', .int .i64 i', .string ⟨s'.toArray⟩]] w (Ret (.agg #[.int .i64 0, .int .i64 0, .string ⟨#[]⟩]) w) := by
    have H := Lib.hid h
    clear h
    by_cases hs : 0 < i'
    · have q3 := q hs
      clear q q2
      go_enter Tryz.func90, Tryz.ntmps90
      go_wp2_with fail
      refine (alike_any _ _ _ _ _ _ _).mono ?_
      rintro e w0 ⟨rfl, hb0⟩
      rw [H.out]
      have hz0 := hb0.size
      obtain ⟨hc0, hf0⟩ := bcell hb0
      simp at hz0 hc0 hf0
      have l0 : w.heap.size + 1 + 1 < w0.heap.size := by omega
      have l1 : w.heap.size + 1 < w0.heap.size := by omega
      have l2 : w.heap.size < w0.heap.size := by omega
      go_wp2_with fail
      all_goals refine bodyPost_ret (v := .agg #[.int .i64 0, .int .i64 0, .string ⟨#[]⟩]) (by simp [results, Tryz.results90, go_sem, *]) rfl ⟨rfl, ?_⟩
      all_goals exact bl
    · obtain ⟨q3, q4⟩ := q2 (by omega)
      have q5 : ¬ 0 < i' := by omega
      clear q q2
      go_enter Tryz.func90, Tryz.ntmps90
      go_wp2_with fail
      refine (alike_any _ _ _ _ _ _ _).mono ?_
      rintro e w0 ⟨rfl, hb0⟩
      rw [H.out]
      have hz0 := hb0.size
      obtain ⟨hc0, hf0⟩ := bcell hb0
      simp at hz0 hc0 hf0
      have l0 : w.heap.size + 1 + 1 < w0.heap.size := by omega
      have l1 : w.heap.size + 1 < w0.heap.size := by omega
      have l2 : w.heap.size < w0.heap.size := by omega
      go_wp2_with fail
      all_goals refine bodyPost_ret (v := .agg #[.int .i64 0, .int .i64 0, .string ⟨#[]⟩]) (by simp [results, Tryz.results90, go_sem, *]) rfl ⟨rfl, ?_⟩
      all_goals exact bl

theorem plus_any (k i : Int) (s : List UInt8) (k' i' : Int) (s' : List UInt8) (w : World) (h1 : -9223372036854775808 ≤ i ∧ i ≤ 9223372036854775807) (h2 : -9223372036854775808 ≤ i' ∧ i' ≤ 9223372036854775807) :
    Calls Tryz.prog 89 #[.agg #[.int .i64 k, .int .i64 i, .string ⟨s.toArray⟩], .agg #[.int .i64 k', .int .i64 i', .string ⟨s'.toArray⟩]] w (Ret (.agg #[.int .i64 (plusV ⟨k, i, s⟩ ⟨k', i', s'⟩).k, .int .i64 (plusV ⟨k, i, s⟩ ⟨k', i', s'⟩).i, .string ⟨(plusV ⟨k, i, s⟩ ⟨k', i', s'⟩).s.toArray⟩]) w) := by
  cases h : alikeB ⟨k, i, s⟩ ⟨k', i', s'⟩
  · have e : plusV ⟨k, i, s⟩ ⟨k', i', s'⟩ = ⟨0, 0, []⟩ := by unfold plusV; rw [h]; rfl
    rw [e]
    exact plus_no k i s k' i' s' w h
  · by_cases hk : k = 1
    · subst hk
      by_cases hf : -9223372036854775808 ≤ i + i' ∧ i + i' ≤ 9223372036854775807
      · have e : plusV ⟨1, i, s⟩ ⟨k', i', s'⟩ = ⟨1, i + i', []⟩ := by
          unfold plusV fits; rw [h, if_pos (by simp; exact hf)]
        rw [e]
        exact plus_fits i s k' i' s' w h hf.1 hf.2
      · have e : plusV ⟨1, i, s⟩ ⟨k', i', s'⟩ = ⟨0, 0, []⟩ := by
          unfold plusV fits; rw [h, if_neg (by simp; omega)]; rfl
        rw [e]
        refine plus_up i s k' i' s' w h (fun hs => ?_) (fun hs => ?_)
        · rw [wrap_up _ (by omega) (by omega)]; omega
        · rw [wrap_down _ (by omega) (by omega)]; omega
    · have e : plusV ⟨k, i, s⟩ ⟨k', i', s'⟩ = ⟨0, 0, []⟩ := by
        unfold plusV; rw [if_neg (by simp [hk])]; rfl
      rw [e]
      exact plus_other k i s k' i' s' w h (by simp [hk])

theorem minus_any (k i : Int) (s : List UInt8) (k' i' : Int) (s' : List UInt8) (w : World) (h1 : -9223372036854775808 ≤ i ∧ i ≤ 9223372036854775807) (h2 : -9223372036854775808 ≤ i' ∧ i' ≤ 9223372036854775807) :
    Calls Tryz.prog 90 #[.agg #[.int .i64 k, .int .i64 i, .string ⟨s.toArray⟩], .agg #[.int .i64 k', .int .i64 i', .string ⟨s'.toArray⟩]] w (Ret (.agg #[.int .i64 (minusV ⟨k, i, s⟩ ⟨k', i', s'⟩).k, .int .i64 (minusV ⟨k, i, s⟩ ⟨k', i', s'⟩).i, .string ⟨(minusV ⟨k, i, s⟩ ⟨k', i', s'⟩).s.toArray⟩]) w) := by
  cases h : alikeB ⟨k, i, s⟩ ⟨k', i', s'⟩
  · have e : minusV ⟨k, i, s⟩ ⟨k', i', s'⟩ = ⟨0, 0, []⟩ := by unfold minusV; rw [h]; rfl
    rw [e]
    exact minus_no k i s k' i' s' w h
  · by_cases hk : k = 1
    · subst hk
      by_cases hf : -9223372036854775808 ≤ i - i' ∧ i - i' ≤ 9223372036854775807
      · have e : minusV ⟨1, i, s⟩ ⟨k', i', s'⟩ = ⟨1, i - i', []⟩ := by
          unfold minusV fits; rw [h, if_pos (by simp; exact hf)]
        rw [e]
        exact minus_fits i s k' i' s' w h hf.1 hf.2
      · have e : minusV ⟨1, i, s⟩ ⟨k', i', s'⟩ = ⟨0, 0, []⟩ := by
          unfold minusV fits; rw [h, if_neg (by simp; omega)]; rfl
        rw [e]
        refine minus_up i s k' i' s' w h (fun hs => ?_) (fun hs => ?_)
        · rw [wrap_down _ (by omega) (by omega)]; omega
        · rw [wrap_up _ (by omega) (by omega)]; omega
    · have e : minusV ⟨k, i, s⟩ ⟨k', i', s'⟩ = ⟨0, 0, []⟩ := by
        unfold minusV; rw [if_neg (by simp [hk])]; rfl
      rw [e]
      exact minus_other k i s k' i' s' w h (by simp [hk])

end Go.Proofs.YtdhjogmkhbpcgaaGreat
