/- caddislaw07.awake holds. Condition: none. -/
import Derived.Test.YtdhjogmkhbpcgaaSomeM
import Derived.Test.YtdhjogmkhbpcgaaRelCheck
import Derived.Test.YtdhjogmkhbpcgaaFind
import Derived.Test.YtdhjogmkhbpcgaaSameRows
namespace Go.Proofs.Ytdhjogmkhbpcgaa
open Go.RowKit

attribute [local go_sem] ByteArray.extract_mk ba_get ba_append
attribute [local go_sem ↓] Go.wp_at_zero Go.wp_at_succ run_eql_V run_neq_V

def exKc : Ex := .mk opCol V.zero [107] []
def exLitK : Ex := .mk opLit ⟨1, 3, []⟩ [] []
theorem exLitK_fit : exLitK.fit 1000 := ⟨⟨by decide, by decide⟩, by decide, by decide, by decide⟩
def exKw : Ex := .mk opLt V.zero [] [exKc, exLitK]
def rlK (a b c : Int) : Rl := ⟨tbK, [rowK a, rowK b, rowK c]⟩
theorem iq_block {w : World} {g : Nat} {e : TypeId} {a b c : Int} (h : Blk w g e #[.int .i64 a, .int .i64 b, .int .i64 c]) : IQ [a, b, c] (some ⟨g, 0, none⟩) (Old w.heap.size) w := fun _ => ⟨g, 0, rfl, h.lt, fun i x hx => by
  rw [h.cell, Nat.zero_add]
  match i, hx with
  | 0, hx => cases hx; rfl
  | 1, hx => cases hx; rfl
  | 2, hx => cases hx; rfl⟩
theorem someK_any (a b c : Int) (X : World) (g : Nat) (hk : Blk X g 2 #[.int .i64 a, .int .i64 b, .int .i64 c]) :
    Calls Try.prog 15 #[.slice (some ⟨g, 0, none⟩) 3 3] X fun en w' => ∃ a1 k1 a2 k2 a3 k3 a4 k4 a5 k5, en = .returned (.agg #[.string ⟨#[116]⟩, .slice a1 1 k1, .int .i64 0, .slice a2 0 k2, .slice a3 0 k3, .string ⟨#[]⟩, .int .i64 0, .int .i64 0, .string ⟨#[]⟩, .string ⟨#[]⟩, .slice a4 0 k4, .slice a5 3 k5]) ∧
      RlQ 1000 (rlK a b c) ⟨⟨⟨a1, k1⟩, ⟨a2, k2⟩, ⟨a3, k3⟩, ⟨a4, k4⟩⟩, ⟨a5, k5⟩⟩ (Old w'.heap.size) w' ∧ 3 ≤ k5 ∧ Below X.heap.size X w' := by
  have h := some_any [a, b, c] (some ⟨g, 0, none⟩) 3 X (by simp) (iq_block hk)
  refine h.mono ?_
  rintro en w' ⟨⟨⟨⟨a1, k1⟩, ⟨a2, k2⟩, ⟨a3, k3⟩, ⟨a4, k4⟩⟩, ⟨a5, k5⟩⟩, rfl, hQ, hc, _, hb⟩
  exact ⟨a1, k1, a2, k2, a3, k3, a4, k4, a5, k5, rfl, hQ.keep fun b h => ⟨h.2, fun _ => rfl⟩, hc, hb⟩
theorem tbK_small : tbK.small := ⟨by decide, by decide, by decide, by decide, by decide, by decide, ⟨zero_in, by decide, by decide, by decide⟩, by decide⟩
theorem rowK_in {k : Int} (h : fitI k) : (rowK k).length ≤ 1000 ∧ ∀ v ∈ rowK k, fitI v.i := ⟨by simp [rowK], by intro v hv; simp only [rowK, List.mem_singleton] at hv; rw [hv]; exact h⟩
theorem rlK_rows {a b c : Int} (ha : fitI a) (hb : fitI b) (hc : fitI c) : ∀ r ∈ (rlK a b c).rows, r.length ≤ 1000 ∧ ∀ v ∈ r, fitI v.i := by
  intro r hr
  simp only [rlK, List.mem_cons, List.not_mem_nil, or_false] at hr
  rcases hr with rfl | rfl | rfl
  · exact rowK_in ha
  · exact rowK_in hb
  · exact rowK_in hc
theorem exK_S {X : World} {g : Nat} (h : Blk X g 29 #[.string ⟨#[99, 111, 108]⟩, .int .i64 0, .int .i64 0, .string ⟨#[]⟩, .string ⟨#[107]⟩, .slice none 0 0, .string ⟨#[108, 105, 116]⟩, .int .i64 1, .int .i64 3, .string ⟨#[]⟩, .string ⟨#[]⟩, .slice none 0 0]) : ExS 1000 1 X X.heap.size (some ⟨g, 0, none⟩) exKw.l :=
  exS_two (n := 0) (e := exKc) (e' := exLitK) (A := none) (A' := none) (c := 0) (c' := 0) h ⟨zero_in, by decide, by decide, by decide⟩ (Nat.le_refl _) (Nat.zero_le _) (ExS.nil 0) exLitK_fit (Nat.le_refl _) (Nat.zero_le _) (ExS.nil 0)
theorem whereK : whereX (rlK 1 2 3).t.cols (rlK 1 2 3).rows exKw = ([rowK 1, rowK 2], 0) := by kernel_rfl
section
variable {a1 a2 a3 a4 a5 : Option Addr} {k1 k2 k3 k4 k5 : Nat}
theorem whereK_any (X : World) (g : Nat) (hQ : RlQ 1000 (rlK 1 2 3) ⟨⟨⟨a1, k1⟩, ⟨a2, k2⟩, ⟨a3, k3⟩, ⟨a4, k4⟩⟩, ⟨a5, k5⟩⟩ (Old X.heap.size) X)
    (h : Blk X g 29 #[.string ⟨#[99, 111, 108]⟩, .int .i64 0, .int .i64 0, .string ⟨#[]⟩, .string ⟨#[107]⟩, .slice none 0 0, .string ⟨#[108, 105, 116]⟩, .int .i64 1, .int .i64 3, .string ⟨#[]⟩, .string ⟨#[]⟩, .slice none 0 0]) :
    Calls Try.prog 6 #[.agg #[.string ⟨#[116]⟩, .slice a1 1 k1, .int .i64 0, .slice a2 0 k2, .slice a3 0 k3, .string ⟨#[]⟩, .int .i64 0, .int .i64 0, .string ⟨#[]⟩, .string ⟨#[]⟩, .slice a4 0 k4, .slice a5 3 k5], .agg #[.string ⟨#[60]⟩, .int .i64 0, .int .i64 0, .string ⟨#[]⟩, .string ⟨#[]⟩, .slice (some ⟨g, 0, none⟩) 2 2]] X
      fun en w' => ∃ A c, en = .returned (.tuple #[.slice A 2 c, .int .i64 0]) ∧ RQ [rowK 1, rowK 2] A (Old w'.heap.size) w' ∧ Below X.heap.size X w' := by
  have h := where_any (rlK 1 2 3) ⟨⟨⟨a1, k1⟩, ⟨a2, k2⟩, ⟨a3, k3⟩, ⟨a4, k4⟩⟩, ⟨a5, k5⟩⟩ exKw (some ⟨g, 0, none⟩) 2 1 X ⟨by decide, by decide, rlK_rows ⟨by decide, by decide⟩ ⟨by decide, by decide⟩ ⟨by decide, by decide⟩⟩ hQ ⟨zero_in, by decide, by decide, by decide⟩ (exK_S h)
  rw [whereK] at h
  refine h.mono ?_
  rintro en w' ⟨A, c, rfl, _, _, hR, hb⟩
  exact ⟨A, c, rfl, hR.keep fun b h => ⟨h.2, fun _ => rfl⟩, hb⟩
theorem sameK_any (X : World) (A : Option Addr) (c : Nat) (hA : RQ [rowK 1, rowK 2] A (Old X.heap.size) X) (hQ : RlQ 1000 (rlK 1 2 3) ⟨⟨⟨a1, k1⟩, ⟨a2, k2⟩, ⟨a3, k3⟩, ⟨a4, k4⟩⟩, ⟨a5, k5⟩⟩ (Old X.heap.size) X) :
    Calls Try.prog 7 #[.slice A 2 c, .slice a5 2 k5] X (Ret (.bool true) X) := by
  have hB : RQ [rowK 1, rowK 2] a5 (Old X.heap.size) X := hQ.2.take 2
  have hm : ∀ r ∈ [rowK 1, rowK 2], r.length ≤ maxLen := by decide
  have h := sameRows_any A a5 c k5 [rowK 1, rowK 2] [rowK 1, rowK 2] X (by decide) (by decide) hA hB hm hm
  rw [rowsSame_self] at h
  exact h
theorem findK : findF (rlK 1 2 3) ⟨1, 2, []⟩ = 1 := by kernel_rfl
theorem findK_any (X : World) (hQ : RlQ 1000 (rlK 1 2 3) ⟨⟨⟨a1, k1⟩, ⟨a2, k2⟩, ⟨a3, k3⟩, ⟨a4, k4⟩⟩, ⟨a5, k5⟩⟩ (Old X.heap.size) X) :
    Calls Try.prog 16 #[.agg #[.string ⟨#[116]⟩, .slice a1 1 k1, .int .i64 0, .slice a2 0 k2, .slice a3 0 k3, .string ⟨#[]⟩, .int .i64 0, .int .i64 0, .string ⟨#[]⟩, .string ⟨#[]⟩, .slice a4 0 k4, .slice a5 3 k5], .agg #[.int .i64 1, .int .i64 2, .string ⟨#[]⟩]] X (Ret (.int .i64 1) X) := by
  have h := find_any (rlK 1 2 3) ⟨⟨⟨a1, k1⟩, ⟨a2, k2⟩, ⟨a3, k3⟩, ⟨a4, k4⟩⟩, ⟨a5, k5⟩⟩ ⟨1, 2, []⟩ X tbK_small (by decide) hQ
  rw [findK] at h
  exact h
theorem mayK : mayTb tbK = true := by kernel_rfl
theorem fitK1 : fitsX tbK (rowK 1) = 0 := by kernel_rfl
theorem fitK2 : fitsX tbK (rowK 2) = 0 := by kernel_rfl
theorem fitK3 : fitsX tbK (rowK 3) = 0 := by kernel_rfl
theorem ordK12 : ordV ⟨1, 1, []⟩ ⟨1, 2, []⟩ < 0 := by decide
theorem ordK23 : ordV ⟨1, 2, []⟩ ⟨1, 3, []⟩ < 0 := by decide
theorem rowsK3 : (rlK 1 2 3).rows = [rowK 1, rowK 2, rowK 3] := rfl
theorem checkK3_any (X : World) (hQ : RlQ 1000 (rlK 1 2 3) ⟨⟨⟨a1, k1⟩, ⟨a2, k2⟩, ⟨a3, k3⟩, ⟨a4, k4⟩⟩, ⟨a5, k5⟩⟩ (Old X.heap.size) X) :
    Calls Try.prog 17 #[.agg #[.string ⟨#[116]⟩, .slice a1 1 k1, .int .i64 0, .slice a2 0 k2, .slice a3 0 k3, .string ⟨#[]⟩, .int .i64 0, .int .i64 0, .string ⟨#[]⟩, .string ⟨#[]⟩, .slice a4 0 k4, .slice a5 3 k5]] X (Ret (.int .i64 0) X) := by
  have hf : ∀ r ∈ (rlK 1 2 3).rows, fitsX (rlK 1 2 3).t r = 0 := by
    intro r hr
    simp only [rowsK3, List.mem_cons, List.not_mem_nil, or_false] at hr
    rcases hr with rfl | rfl | rfl
    · exact fitK1
    · exact fitK2
    · exact fitK3
  have hc : ∀ r ∈ (rlK 1 2 3).rows, 0 < r.length ∧ ¬ (atV 0 r).k = 0 := by
    intro r hr
    simp only [rowsK3, List.mem_cons, List.not_mem_nil, or_false] at hr
    rcases hr with rfl | rfl | rfl <;> simp [rowK, atV]
  have hd : dupF [] ((rlK 1 2 3).rows.map (atV 0)) = false := by decide
  have ho : false = false → ∀ i a b, (rlK 1 2 3).rows[i]? = some a → (rlK 1 2 3).rows[i + 1]? = some b → ordV (atV 0 a) (atV 0 b) < 0 := by
    intro _ i a b h1 h2
    match i, h1, h2 with
    | 0, h1, h2 => cases h1; cases h2; exact ordK12
    | 1, h1, h2 => cases h1; cases h2; exact ordK23
    | i + 2, h1, h2 => simp [rlK] at h2
  have h := relCheck_any (rlK 1 2 3) ⟨⟨⟨a1, k1⟩, ⟨a2, k2⟩, ⟨a3, k3⟩, ⟨a4, k4⟩⟩, ⟨a5, k5⟩⟩ 0 X tbK_small (by simp [rlK]) (rlK_rows ⟨by decide, by decide⟩ ⟨by decide, by decide⟩ ⟨by decide, by decide⟩) hQ mayK hf hc rfl rfl false hd ho
  exact h
theorem rowsK2 : (rlK 1 2 2).rows = [rowK 1, rowK 2, rowK 2] := rfl
theorem checkK2_any (X : World) (hQ : RlQ 1000 (rlK 1 2 2) ⟨⟨⟨a1, k1⟩, ⟨a2, k2⟩, ⟨a3, k3⟩, ⟨a4, k4⟩⟩, ⟨a5, k5⟩⟩ (Old X.heap.size) X) :
    Calls Try.prog 17 #[.agg #[.string ⟨#[116]⟩, .slice a1 1 k1, .int .i64 0, .slice a2 0 k2, .slice a3 0 k3, .string ⟨#[]⟩, .int .i64 0, .int .i64 0, .string ⟨#[]⟩, .string ⟨#[]⟩, .slice a4 0 k4, .slice a5 3 k5]] X (Ret (.int .i64 7) X) := by
  have hf : ∀ r ∈ (rlK 1 2 2).rows, fitsX (rlK 1 2 2).t r = 0 := by
    intro r hr
    simp only [rowsK2, List.mem_cons, List.not_mem_nil, or_false] at hr
    rcases hr with rfl | rfl | rfl
    · exact fitK1
    · exact fitK2
    · exact fitK2
  have hc : ∀ r ∈ (rlK 1 2 2).rows, 0 < r.length ∧ ¬ (atV 0 r).k = 0 := by
    intro r hr
    simp only [rowsK2, List.mem_cons, List.not_mem_nil, or_false] at hr
    rcases hr with rfl | rfl | rfl <;> simp [rowK, atV]
  have hd : dupF [] ((rlK 1 2 2).rows.map (atV 0)) = true := by decide
  have ho : true = false → ∀ i a b, (rlK 1 2 2).rows[i]? = some a → (rlK 1 2 2).rows[i + 1]? = some b → ordV (atV 0 a) (atV 0 b) < 0 := by
    intro e
    cases e
  have h := relCheck_any (rlK 1 2 2) ⟨⟨⟨a1, k1⟩, ⟨a2, k2⟩, ⟨a3, k3⟩, ⟨a4, k4⟩⟩, ⟨a5, k5⟩⟩ 0 X tbK_small (by simp [rlK]) (rlK_rows ⟨by decide, by decide⟩ ⟨by decide, by decide⟩ ⟨by decide, by decide⟩) hQ mayK hf hc rfl rfl true hd ho
  exact h
end

set_option maxRecDepth 100000 in
set_option maxHeartbeats 2000000 in
theorem awake7_any (w : World) : Calls Try.prog 8 #[] w (Ret (.bool true) w) := by
  obtain ⟨w1, hw1⟩ : ∃ w1, w.alloc (.cells #[.int .i64 1, .int .i64 2, .int .i64 3] 2) = w1 := ⟨_, rfl⟩
  have hb1 : Below w.heap.size w w1 := by rw [← hw1]; ((repeat' (first | with_reducible exact Below.refl _ _ | with_reducible assumption | with_reducible refine Below.drew ?_ | with_reducible refine below_drewN ?_ _ | with_reducible refine Below.setCell ?_ ?_ _ | with_reducible refine Below.alloc ?_ ?_ _ | with_reducible refine Below.trans ?_ (Below.mono (by assumption) ?_))) <;> (first | (simp; done) | (simp; omega) | omega))
  have HS := Lib.hid (someK_any 1 2 3 w1 w.heap.size (by rw [← hw1]; exact Blk.new _ _ _))
  have HW1 := Lib.hid hw1
  clear hw1
  go_enter Try.func8, Try.ntmps8
  go_wp2_with fail
  rw [HW1.out]
  refine HS.out.mono ?_
  rintro en w2 ⟨a1, k1, a2, k2, a3, k3, a4, k4, a5, k5, rfl, hQ2, hc5, hb2⟩
  have hbw2 := hb1.trans (hb2.mono hb1.size)
  clear HW1 HS hb1 hb2
  obtain ⟨w3, hw3⟩ : ∃ w3, (w2.alloc (.cells #[.string ⟨#[116]⟩, .slice a1 1 k1, .int .i64 0, .slice a2 0 k2, .slice a3 0 k3, .string ⟨#[]⟩, .int .i64 0, .int .i64 0, .string ⟨#[]⟩, .string ⟨#[]⟩, .slice a4 0 k4, .slice a5 3 k5] 34)).alloc (.cells #[.string ⟨#[99, 111, 108]⟩, .int .i64 0, .int .i64 0, .string ⟨#[]⟩, .string ⟨#[107]⟩, .slice none 0 0, .string ⟨#[108, 105, 116]⟩, .int .i64 1, .int .i64 3, .string ⟨#[]⟩, .string ⟨#[]⟩, .slice none 0 0] 29) = w3 := ⟨_, rfl⟩
  have kx3 : Blk w3 w2.heap.size 34 #[.string ⟨#[116]⟩, .slice a1 1 k1, .int .i64 0, .slice a2 0 k2, .slice a3 0 k3, .string ⟨#[]⟩, .int .i64 0, .int .i64 0, .string ⟨#[]⟩, .string ⟨#[]⟩, .slice a4 0 k4, .slice a5 3 k5] := by rw [← hw3]; exact (Blk.new _ _ _).alloc _
  have ke3 : Blk w3 (w2.heap.size + 1) 29 #[.string ⟨#[99, 111, 108]⟩, .int .i64 0, .int .i64 0, .string ⟨#[]⟩, .string ⟨#[107]⟩, .slice none 0 0, .string ⟨#[108, 105, 116]⟩, .int .i64 1, .int .i64 3, .string ⟨#[]⟩, .string ⟨#[]⟩, .slice none 0 0] := by rw [← hw3]; exact Blk.new' _ _ _ _ (by simp)
  have hb3 : Below w2.heap.size w2 w3 := by rw [← hw3]; ((repeat' (first | with_reducible exact Below.refl _ _ | with_reducible assumption | with_reducible refine Below.drew ?_ | with_reducible refine below_drewN ?_ _ | with_reducible refine Below.setCell ?_ ?_ _ | with_reducible refine Below.alloc ?_ ?_ _ | with_reducible refine Below.trans ?_ (Below.mono (by assumption) ?_))) <;> (first | (simp; done) | (simp; omega) | omega))
  have hQY : Hid (∀ Y : World, Below w2.heap.size w2 Y → RlQ 1000 (rlK 1 2 3) ⟨⟨⟨a1, k1⟩, ⟨a2, k2⟩, ⟨a3, k3⟩, ⟨a4, k4⟩⟩, ⟨a5, k5⟩⟩ (Old Y.heap.size) Y) := fun Y h => hQ2.keep (old_keep h h.size)
  have HWH := Lib.hid (whereK_any w3 _ (hQY.out w3 hb3) ke3)
  have HW3 := Lib.hid hw3
  clear hw3 ke3 hQ2
  go_wp2_with fail
  rw [HW3.out]
  refine HWH.out.mono ?_
  rintro en w4 ⟨A, c, rfl, hR4, hb4⟩
  clear HW3 HWH
  have hbx4 : Below w2.heap.size w2 w4 := hb3.trans (hb4.mono hb3.size)
  have kx4 := kx3.below hb4 kx3.lt
  have lx4 := kx4.lt
  have HSH : Hid (∀ Y : World, Below w4.heap.size w4 Y → Blk Y w2.heap.size 34 #[.string ⟨#[116]⟩, .slice a1 1 k1, .int .i64 0, .slice a2 0 k2, .slice a3 0 k3, .string ⟨#[]⟩, .int .i64 0, .int .i64 0, .string ⟨#[]⟩, .string ⟨#[]⟩, .slice a4 0 k4, .slice a5 3 k5]) := fun Y h => kx4.below h lx4
  have hqY : Hid (∀ Y : World, Below w4.heap.size w4 Y → RlQ 1000 (rlK 1 2 3) ⟨⟨⟨a1, k1⟩, ⟨a2, k2⟩, ⟨a3, k3⟩, ⟨a4, k4⟩⟩, ⟨a5, k5⟩⟩ (Old Y.heap.size) Y) := fun Y h => hQY.out Y (hbx4.trans (h.mono hbx4.size))
  have HSM := Lib.hid (sameK_any w4 A c hR4 (hqY.out w4 (Below.refl _ _)))
  clear hQY hR4 kx3 kx4
  have q11 := (HSH.out w4 (Below.refl _ _)).cell 11
  simp at q11
  have hcap : (2 : Int) ≤ (k5 : Int) := by omega
  have hcap2 : ¬ ((k5 : Int) < 2) := by omega
  go_wp2_with fail
  refine HSM.out.mono ?_
  rintro en w5 ⟨rfl, hb5⟩
  clear HSM q11
  have HFN := Lib.hid (findK_any w5 (hqY.out w5 hb5))
  have hb5' := hb5
  have q0 := (HSH.out w5 (by ((repeat' (first | with_reducible exact Below.refl _ _ | with_reducible assumption | with_reducible refine Below.drew ?_ | with_reducible refine below_drewN ?_ _ | with_reducible refine Below.setCell ?_ ?_ _ | with_reducible refine Below.alloc ?_ ?_ _ | with_reducible refine Below.trans ?_ (Below.mono (by assumption) ?_))) <;> (first | (simp; done) | (simp; omega) | omega)))).cell 0
  have q1 := (HSH.out w5 (by ((repeat' (first | with_reducible exact Below.refl _ _ | with_reducible assumption | with_reducible refine Below.drew ?_ | with_reducible refine below_drewN ?_ _ | with_reducible refine Below.setCell ?_ ?_ _ | with_reducible refine Below.alloc ?_ ?_ _ | with_reducible refine Below.trans ?_ (Below.mono (by assumption) ?_))) <;> (first | (simp; done) | (simp; omega) | omega)))).cell 1
  have q2 := (HSH.out w5 (by ((repeat' (first | with_reducible exact Below.refl _ _ | with_reducible assumption | with_reducible refine Below.drew ?_ | with_reducible refine below_drewN ?_ _ | with_reducible refine Below.setCell ?_ ?_ _ | with_reducible refine Below.alloc ?_ ?_ _ | with_reducible refine Below.trans ?_ (Below.mono (by assumption) ?_))) <;> (first | (simp; done) | (simp; omega) | omega)))).cell 2
  have q3 := (HSH.out w5 (by ((repeat' (first | with_reducible exact Below.refl _ _ | with_reducible assumption | with_reducible refine Below.drew ?_ | with_reducible refine below_drewN ?_ _ | with_reducible refine Below.setCell ?_ ?_ _ | with_reducible refine Below.alloc ?_ ?_ _ | with_reducible refine Below.trans ?_ (Below.mono (by assumption) ?_))) <;> (first | (simp; done) | (simp; omega) | omega)))).cell 3
  have q4 := (HSH.out w5 (by ((repeat' (first | with_reducible exact Below.refl _ _ | with_reducible assumption | with_reducible refine Below.drew ?_ | with_reducible refine below_drewN ?_ _ | with_reducible refine Below.setCell ?_ ?_ _ | with_reducible refine Below.alloc ?_ ?_ _ | with_reducible refine Below.trans ?_ (Below.mono (by assumption) ?_))) <;> (first | (simp; done) | (simp; omega) | omega)))).cell 4
  have q5 := (HSH.out w5 (by ((repeat' (first | with_reducible exact Below.refl _ _ | with_reducible assumption | with_reducible refine Below.drew ?_ | with_reducible refine below_drewN ?_ _ | with_reducible refine Below.setCell ?_ ?_ _ | with_reducible refine Below.alloc ?_ ?_ _ | with_reducible refine Below.trans ?_ (Below.mono (by assumption) ?_))) <;> (first | (simp; done) | (simp; omega) | omega)))).cell 5
  have q6 := (HSH.out w5 (by ((repeat' (first | with_reducible exact Below.refl _ _ | with_reducible assumption | with_reducible refine Below.drew ?_ | with_reducible refine below_drewN ?_ _ | with_reducible refine Below.setCell ?_ ?_ _ | with_reducible refine Below.alloc ?_ ?_ _ | with_reducible refine Below.trans ?_ (Below.mono (by assumption) ?_))) <;> (first | (simp; done) | (simp; omega) | omega)))).cell 6
  have q7 := (HSH.out w5 (by ((repeat' (first | with_reducible exact Below.refl _ _ | with_reducible assumption | with_reducible refine Below.drew ?_ | with_reducible refine below_drewN ?_ _ | with_reducible refine Below.setCell ?_ ?_ _ | with_reducible refine Below.alloc ?_ ?_ _ | with_reducible refine Below.trans ?_ (Below.mono (by assumption) ?_))) <;> (first | (simp; done) | (simp; omega) | omega)))).cell 7
  have q8 := (HSH.out w5 (by ((repeat' (first | with_reducible exact Below.refl _ _ | with_reducible assumption | with_reducible refine Below.drew ?_ | with_reducible refine below_drewN ?_ _ | with_reducible refine Below.setCell ?_ ?_ _ | with_reducible refine Below.alloc ?_ ?_ _ | with_reducible refine Below.trans ?_ (Below.mono (by assumption) ?_))) <;> (first | (simp; done) | (simp; omega) | omega)))).cell 8
  have q9 := (HSH.out w5 (by ((repeat' (first | with_reducible exact Below.refl _ _ | with_reducible assumption | with_reducible refine Below.drew ?_ | with_reducible refine below_drewN ?_ _ | with_reducible refine Below.setCell ?_ ?_ _ | with_reducible refine Below.alloc ?_ ?_ _ | with_reducible refine Below.trans ?_ (Below.mono (by assumption) ?_))) <;> (first | (simp; done) | (simp; omega) | omega)))).cell 9
  have q10 := (HSH.out w5 (by ((repeat' (first | with_reducible exact Below.refl _ _ | with_reducible assumption | with_reducible refine Below.drew ?_ | with_reducible refine below_drewN ?_ _ | with_reducible refine Below.setCell ?_ ?_ _ | with_reducible refine Below.alloc ?_ ?_ _ | with_reducible refine Below.trans ?_ (Below.mono (by assumption) ?_))) <;> (first | (simp; done) | (simp; omega) | omega)))).cell 10
  have q11 := (HSH.out w5 (by ((repeat' (first | with_reducible exact Below.refl _ _ | with_reducible assumption | with_reducible refine Below.drew ?_ | with_reducible refine below_drewN ?_ _ | with_reducible refine Below.setCell ?_ ?_ _ | with_reducible refine Below.alloc ?_ ?_ _ | with_reducible refine Below.trans ?_ (Below.mono (by assumption) ?_))) <;> (first | (simp; done) | (simp; omega) | omega)))).cell 11
  simp at q0 q1 q2 q3 q4 q5 q6 q7 q8 q9 q10 q11
  go_wp2_with fail
  refine HFN.out.mono ?_
  rintro en w6 ⟨rfl, hb6⟩
  have hb46 : Below w4.heap.size w4 w6 := hb5.trans (hb6.mono hb5.size)
  clear HFN q0 q1 q2 q3 q4 q5 q6 q7 q8 q9 q10 q11
  have HCH := Lib.hid (checkK3_any w6 (hqY.out w6 hb46))
  have q0 := (HSH.out w6 (by ((repeat' (first | with_reducible exact Below.refl _ _ | with_reducible assumption | with_reducible refine Below.drew ?_ | with_reducible refine below_drewN ?_ _ | with_reducible refine Below.setCell ?_ ?_ _ | with_reducible refine Below.alloc ?_ ?_ _ | with_reducible refine Below.trans ?_ (Below.mono (by assumption) ?_))) <;> (first | (simp; done) | (simp; omega) | omega)))).cell 0
  have q1 := (HSH.out w6 (by ((repeat' (first | with_reducible exact Below.refl _ _ | with_reducible assumption | with_reducible refine Below.drew ?_ | with_reducible refine below_drewN ?_ _ | with_reducible refine Below.setCell ?_ ?_ _ | with_reducible refine Below.alloc ?_ ?_ _ | with_reducible refine Below.trans ?_ (Below.mono (by assumption) ?_))) <;> (first | (simp; done) | (simp; omega) | omega)))).cell 1
  have q2 := (HSH.out w6 (by ((repeat' (first | with_reducible exact Below.refl _ _ | with_reducible assumption | with_reducible refine Below.drew ?_ | with_reducible refine below_drewN ?_ _ | with_reducible refine Below.setCell ?_ ?_ _ | with_reducible refine Below.alloc ?_ ?_ _ | with_reducible refine Below.trans ?_ (Below.mono (by assumption) ?_))) <;> (first | (simp; done) | (simp; omega) | omega)))).cell 2
  have q3 := (HSH.out w6 (by ((repeat' (first | with_reducible exact Below.refl _ _ | with_reducible assumption | with_reducible refine Below.drew ?_ | with_reducible refine below_drewN ?_ _ | with_reducible refine Below.setCell ?_ ?_ _ | with_reducible refine Below.alloc ?_ ?_ _ | with_reducible refine Below.trans ?_ (Below.mono (by assumption) ?_))) <;> (first | (simp; done) | (simp; omega) | omega)))).cell 3
  have q4 := (HSH.out w6 (by ((repeat' (first | with_reducible exact Below.refl _ _ | with_reducible assumption | with_reducible refine Below.drew ?_ | with_reducible refine below_drewN ?_ _ | with_reducible refine Below.setCell ?_ ?_ _ | with_reducible refine Below.alloc ?_ ?_ _ | with_reducible refine Below.trans ?_ (Below.mono (by assumption) ?_))) <;> (first | (simp; done) | (simp; omega) | omega)))).cell 4
  have q5 := (HSH.out w6 (by ((repeat' (first | with_reducible exact Below.refl _ _ | with_reducible assumption | with_reducible refine Below.drew ?_ | with_reducible refine below_drewN ?_ _ | with_reducible refine Below.setCell ?_ ?_ _ | with_reducible refine Below.alloc ?_ ?_ _ | with_reducible refine Below.trans ?_ (Below.mono (by assumption) ?_))) <;> (first | (simp; done) | (simp; omega) | omega)))).cell 5
  have q6 := (HSH.out w6 (by ((repeat' (first | with_reducible exact Below.refl _ _ | with_reducible assumption | with_reducible refine Below.drew ?_ | with_reducible refine below_drewN ?_ _ | with_reducible refine Below.setCell ?_ ?_ _ | with_reducible refine Below.alloc ?_ ?_ _ | with_reducible refine Below.trans ?_ (Below.mono (by assumption) ?_))) <;> (first | (simp; done) | (simp; omega) | omega)))).cell 6
  have q7 := (HSH.out w6 (by ((repeat' (first | with_reducible exact Below.refl _ _ | with_reducible assumption | with_reducible refine Below.drew ?_ | with_reducible refine below_drewN ?_ _ | with_reducible refine Below.setCell ?_ ?_ _ | with_reducible refine Below.alloc ?_ ?_ _ | with_reducible refine Below.trans ?_ (Below.mono (by assumption) ?_))) <;> (first | (simp; done) | (simp; omega) | omega)))).cell 7
  have q8 := (HSH.out w6 (by ((repeat' (first | with_reducible exact Below.refl _ _ | with_reducible assumption | with_reducible refine Below.drew ?_ | with_reducible refine below_drewN ?_ _ | with_reducible refine Below.setCell ?_ ?_ _ | with_reducible refine Below.alloc ?_ ?_ _ | with_reducible refine Below.trans ?_ (Below.mono (by assumption) ?_))) <;> (first | (simp; done) | (simp; omega) | omega)))).cell 8
  have q9 := (HSH.out w6 (by ((repeat' (first | with_reducible exact Below.refl _ _ | with_reducible assumption | with_reducible refine Below.drew ?_ | with_reducible refine below_drewN ?_ _ | with_reducible refine Below.setCell ?_ ?_ _ | with_reducible refine Below.alloc ?_ ?_ _ | with_reducible refine Below.trans ?_ (Below.mono (by assumption) ?_))) <;> (first | (simp; done) | (simp; omega) | omega)))).cell 9
  have q10 := (HSH.out w6 (by ((repeat' (first | with_reducible exact Below.refl _ _ | with_reducible assumption | with_reducible refine Below.drew ?_ | with_reducible refine below_drewN ?_ _ | with_reducible refine Below.setCell ?_ ?_ _ | with_reducible refine Below.alloc ?_ ?_ _ | with_reducible refine Below.trans ?_ (Below.mono (by assumption) ?_))) <;> (first | (simp; done) | (simp; omega) | omega)))).cell 10
  have q11 := (HSH.out w6 (by ((repeat' (first | with_reducible exact Below.refl _ _ | with_reducible assumption | with_reducible refine Below.drew ?_ | with_reducible refine below_drewN ?_ _ | with_reducible refine Below.setCell ?_ ?_ _ | with_reducible refine Below.alloc ?_ ?_ _ | with_reducible refine Below.trans ?_ (Below.mono (by assumption) ?_))) <;> (first | (simp; done) | (simp; omega) | omega)))).cell 11
  simp at q0 q1 q2 q3 q4 q5 q6 q7 q8 q9 q10 q11
  go_wp2_with fail
  refine HCH.out.mono ?_
  rintro en w7 ⟨rfl, hb7⟩
  have hb47 : Below w4.heap.size w4 w7 := hb46.trans (hb7.mono hb46.size)
  clear HCH q0 q1 q2 q3 q4 q5 q6 q7 q8 q9 q10 q11
  obtain ⟨w8, hw8⟩ : ∃ w8, w7.alloc (.cells #[.int .i64 1, .int .i64 2, .int .i64 2] 2) = w8 := ⟨_, rfl⟩
  have hb8 : Below w7.heap.size w7 w8 := by rw [← hw8]; ((repeat' (first | with_reducible exact Below.refl _ _ | with_reducible assumption | with_reducible refine Below.drew ?_ | with_reducible refine below_drewN ?_ _ | with_reducible refine Below.setCell ?_ ?_ _ | with_reducible refine Below.alloc ?_ ?_ _ | with_reducible refine Below.trans ?_ (Below.mono (by assumption) ?_))) <;> (first | (simp; done) | (simp; omega) | omega))
  have HS2 := Lib.hid (someK_any 1 2 2 w8 w7.heap.size (by rw [← hw8]; exact Blk.new _ _ _))
  have HW8 := Lib.hid hw8
  have hb48 : Below w4.heap.size w4 w8 := hb47.trans (hb8.mono hb47.size)
  clear hw8
  go_wp2_with fail
  rw [HW8.out]
  refine HS2.out.mono ?_
  rintro en w9 ⟨c1, l1, c2, l2, c3, l3, c4, l4, c5, l5, rfl, hQ9, _, hb9⟩
  have hb49 : Below w4.heap.size w4 w9 := hb48.trans (hb9.mono hb48.size)
  have HC2 := Lib.hid (checkK2_any w9 hQ9)
  clear HS2 HW8 hQ9
  go_wp2_with fail
  refine HC2.out.mono ?_
  rintro en w10 ⟨rfl, hb10⟩
  have hb410 : Below w4.heap.size w4 w10 := hb49.trans (hb10.mono hb49.size)
  have hfin : Below w.heap.size w w10 := (hbw2.trans (hbx4.mono hbw2.size)).trans (hb410.mono (Nat.le_trans hbw2.size hbx4.size))
  go_wp2_with fail
  go_ret
  exact ⟨rfl, hfin⟩

end Go.Proofs.Ytdhjogmkhbpcgaa
