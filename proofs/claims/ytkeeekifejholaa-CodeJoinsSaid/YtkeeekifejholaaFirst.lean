/- code.First: the value with which octets begin. Condition: the text is shorter than 2^62. -/
import Derived.Test.YtkeeekifejholaaNumber
namespace Go.Proofs.Ytkeeekifejholaa
open Go.RowKit

attribute [local go_sem] ByteArray.extract_mk ba_get ba_append
attribute [local go_sem ↓] Go.wp_at_zero Go.wp_at_succ

/-- What First answers: a value, how many octets, an error's number. -/
def Ret3 (v : V) (n e : Int) (w : World) (en : Ending) (w' : World) : Prop :=
  en = .returned (.tuple #[.agg #[.int .i64 v.k, .int .i64 v.i, .string ⟨v.s.toArray⟩], .int .i64 n, .int .i64 e]) ∧ Below w.heap.size w w'

theorem only_below {B : Nat} {a b c : World} {g : Nat} (h : Below B a b) (hg : b.grownBy c (some g)) (hB : B ≤ b.heap.size) (hgB : B ≤ g) : Below B a c :=
  h.grown hg hB (fun k hk => by injection hk with hk; omega)

set_option maxRecDepth 100000 in
set_option maxHeartbeats 400000 in
theorem first_none (w : World) :
    Calls Try.prog 34 #[.string ⟨#[]⟩] w (Ret3 ⟨0, 0, []⟩ 0 17 w) := by
  have hmf : ∀ (fn : Fn) (first cap : Array Value) (w : World), (Instr.makeFunc fn first cap).run Try.prog w = .ok (.func fn first cap) w := fun _ _ _ _ => rfl
  go_enter Try.func34, Try.ntmps34
  go_wp2_with fail
  refine (octet_end (w.heap.size + 1) [] 0 _ rfl ?_).mono ?_
  · have h := Blk.new (w.alloc (.cells #[.int .i64 0, .int .i64 0, .string ⟨#[]⟩] 31)) 79 #[.string ⟨#[]⟩, .int .i64 0]
    rw [show (w.alloc (Obj.cells #[.int .i64 0, .int .i64 0, .string ⟨#[]⟩] 31)).heap.size = w.heap.size + 1 by simp] at h
    exact h
  rintro e w1 ⟨rfl, hrd1, hg1⟩
  have hz1 := hg1.size
  obtain ⟨hc1, hf1⟩ := gcell hg1
  simp at hz1 hc1 hf1
  have hbb : Below w.heap.size w w1 := only_below (by ((repeat' (first | with_reducible exact Below.refl _ _ | with_reducible assumption | with_reducible refine Below.drew ?_ | with_reducible refine below_drewN ?_ _ | with_reducible refine Below.setCell ?_ ?_ _ | with_reducible refine Below.alloc ?_ ?_ _ | with_reducible refine Below.trans ?_ (Below.mono (by assumption) ?_))) <;> (first | (simp; done) | (simp; omega) | omega))) hg1 (by simp; omega) (by omega)
  have r0 := (hc1 w.heap.size 0 (by omega) (by omega)).trans (by simp [go_sem]; rfl)
  have r1 := (hc1 w.heap.size 1 (by omega) (by omega)).trans (by simp [go_sem]; rfl)
  have r2 := (hc1 w.heap.size 2 (by omega) (by omega)).trans (by simp [go_sem]; rfl)
  clear hg1 hrd1
  go_wp2
  refine bodyPost_ret (v := .tuple #[.agg #[.int .i64 0, .int .i64 0, .string ⟨#[]⟩], .int .i64 0, .int .i64 17]) (by simp [results, Try.results34, go_sem, r0, r1, r2]) rfl ⟨rfl, ?_⟩
  ((repeat' (first | with_reducible exact Below.refl _ _ | with_reducible assumption | with_reducible refine Below.drew ?_ | with_reducible refine below_drewN ?_ _ | with_reducible refine Below.setCell ?_ ?_ _ | with_reducible refine Below.alloc ?_ ?_ _ | with_reducible refine Below.trans ?_ (Below.mono (by assumption) ?_))) <;> (first | (simp; done) | (simp; omega) | omega))


/-- The reader's block is there when First first asks. -/
theorem rd_new (w : World) (s : List UInt8) : Rd ((w.alloc (.cells #[.int .i64 0, .int .i64 0, .string ⟨#[]⟩] 31)).alloc (.cells #[.string ⟨s.toArray⟩, .int .i64 0] 79)) (w.heap.size + 1) s 0 := by
  have h := Blk.new (w.alloc (.cells #[.int .i64 0, .int .i64 0, .string ⟨#[]⟩] 31)) 79 #[.string ⟨s.toArray⟩, .int .i64 0]
  rw [show (w.alloc (Obj.cells #[.int .i64 0, .int .i64 0, .string ⟨#[]⟩] 31)).heap.size = w.heap.size + 1 by simp] at h
  exact h

/-- The state behind First's first octet. -/
theorem after_one {w w1 : World} {s : List UInt8} (hg : ((w.alloc (.cells #[.int .i64 0, .int .i64 0, .string ⟨#[]⟩] 31)).alloc (.cells #[.string ⟨s.toArray⟩, .int .i64 0] 79)).grownBy w1 (some (w.heap.size + 1))) :
    Blk w1 w.heap.size 31 #[.int .i64 0, .int .i64 0, .string ⟨#[]⟩] ∧ Below w.heap.size w w1 ∧ w.heap.size + 1 < w1.heap.size := by
  have hz := hg.size
  simp at hz
  refine ⟨?_, only_below (by ((repeat' (first | with_reducible exact Below.refl _ _ | with_reducible assumption | with_reducible refine Below.drew ?_ | with_reducible refine below_drewN ?_ _ | with_reducible refine Below.setCell ?_ ?_ _ | with_reducible refine Below.alloc ?_ ?_ _ | with_reducible refine Below.trans ?_ (Below.mono (by assumption) ?_))) <;> (first | (simp; done) | (simp; omega) | omega))) hg (by simp; omega) (by omega), by omega⟩
  have h := (Blk.new w 31 #[.int .i64 0, .int .i64 0, .string ⟨#[]⟩]).alloc (.cells #[.string ⟨s.toArray⟩, .int .i64 0] 79)
  exact h.grown hg (by simp)


set_option maxRecDepth 100000 in
set_option maxHeartbeats 400000 in
theorem first_num_ok (r : List UInt8) (w : World) (hs : r.length ≤ 4611686018427387903) (h8 : 8 ≤ r.length) :
    Calls Try.prog 34 #[.string ⟨((1 : UInt8) :: r).toArray⟩] w (Ret3 ⟨1, (beN (r.take 8) : Int) - 9223372036854775808, []⟩ 9 0 w) := by
  have hN := beN_lt (r.take 8)
  have hlen8 : (r.take 8).length ≤ 8 := List.length_take_le _ _
  have hpw : 256 ^ (r.take 8).length ≤ 256 ^ 8 := Nat.pow_le_pow_right (by omega) hlen8
  obtain ⟨N, hNN⟩ : ∃ N, beN (r.take 8) = N := ⟨_, rfl⟩
  rw [hNN] at hN ⊢
  have HN := Lib.hid hNN
  have hN2 : N < 18446744073709551616 := by omega
  clear hNN hN hlen8 hpw
  have hmf : ∀ (fn : Fn) (first cap : Array Value) (w : World), (Instr.makeFunc fn first cap).run Try.prog w = .ok (.func fn first cap) w := fun _ _ _ _ => rfl
  go_enter Try.func34, Try.ntmps34
  go_wp2_with fail
  refine (octet_one (w.heap.size + 1) ((1 : UInt8) :: r) 0 _ (by simp; omega) (by simp) (rd_new w _)).mono ?_
  rintro e w1 ⟨rfl, hrd1, hg1⟩
  rw [show ((((1 : UInt8) :: r)[0]).toNat : Int) = 1 from rfl]
  obtain ⟨hres1, hbb1, hz1⟩ := after_one hg1
  clear hg1
  go_wp2_with fail
  refine (number_any (w.heap.size + 1) (1 :: r) 1 _ (by simp; omega) (by simp) (Blk.alloc hrd1 _)).mono ?_
  intro e w2 h2
  rw [if_pos (by simp; omega)] at h2
  obtain ⟨rfl, hrd2, hg2⟩ := h2
  rw [show List.drop 1 ((1 : UInt8) :: r) = r from rfl, HN.out]
  have hz2 := hg2.size
  simp at hz2
  have hres2 := (hres1.alloc (.cells #[.int .i64 1, .int .i64 0, .string ⟨#[]⟩] 31)).grown hg2 (by simp)
  have hv2 := (Blk.new w1 31 #[.int .i64 1, .int .i64 0, .string ⟨#[]⟩]).grown hg2 (by simp; omega)
  have hbb2 : Below w.heap.size w w2 := only_below (by ((repeat' (first | with_reducible exact Below.refl _ _ | with_reducible assumption | with_reducible refine Below.drew ?_ | with_reducible refine below_drewN ?_ _ | with_reducible refine Below.setCell ?_ ?_ _ | with_reducible refine Below.alloc ?_ ?_ _ | with_reducible refine Below.trans ?_ (Below.mono (by assumption) ?_))) <;> (first | (simp; done) | (simp; omega) | omega))) hg2 (by simp; omega) (by omega)
  clear hg2
  obtain ⟨⟨v0, v1, v2⟩, f0, f1, f2⟩ := hv2.three
  have hresT := hres2.far (p := ⟨w1.heap.size, 1, none⟩) (by show w.heap.size ≠ w1.heap.size; omega) (.int .i64 (↑N - 9223372036854775808))
  have hrdT := Blk.far hrd2 (p := ⟨w1.heap.size, 1, none⟩) (by show w.heap.size + 1 ≠ w1.heap.size; omega) (.int .i64 (↑N - 9223372036854775808))
  have hvT := hv2.set_ 1 (.int .i64 (↑N - 9223372036854775808))
  have hbbT := hbb2.setCell (p := ⟨w1.heap.size, 1, none⟩) (by show w.heap.size ≤ w1.heap.size; omega) (.int .i64 (↑N - 9223372036854775808))
  have HM := Lib.hid (show mayB 1 (↑N - 9223372036854775808) [] = true from rfl)
  clear hres1 hres2 hrd1 hrd2 hv2 hbb1 hbb2
  go_wp2_with fail
  clear v0 v1 v2 f0 f1 f2
  refine (may_any _ _ _ _).mono ?_
  rintro e w9 ⟨rfl, hbT⟩
  rw [HM.out]
  have hresT3 := (hresT.below hbT (by first | (simp; done) | (simp; omega))).three
  have hrdT3 := (Blk.below hrdT hbT (by first | (simp; done) | (simp; omega))).two
  have hvT3 := (hvT.below hbT (by first | (simp; done) | (simp; omega))).three
  have hzT := hbT.size
  simp at hzT
  have hbbT2 : Below w.heap.size w w9 := hbbT.trans (hbT.mono (by simp; omega))
  obtain ⟨⟨a0, a1, a2⟩, b0, b1, b2⟩ := hresT3
  obtain ⟨⟨c0, c1⟩, d0, d1⟩ := hrdT3
  obtain ⟨⟨x0, x1, x2⟩, y0, y1, y2⟩ := hvT3
  clear hresT hrdT hvT hbT hbbT
  go_wp2_with fail
  go_region
  all_goals go_wp2
  all_goals refine bodyPost_ret (v := .tuple #[.agg #[.int .i64 1, .int .i64 (↑N - 9223372036854775808), .string ⟨#[]⟩], .int .i64 9, .int .i64 0]) (by simp [results, Try.results34, go_sem, a0, a1, a2]) rfl ⟨?_, ?_⟩
  all_goals first | rfl | ((repeat' (first | with_reducible exact Below.refl _ _ | with_reducible assumption | with_reducible refine Below.drew ?_ | with_reducible refine below_drewN ?_ _ | with_reducible refine Below.setCell ?_ ?_ _ | with_reducible refine Below.alloc ?_ ?_ _ | with_reducible refine Below.trans ?_ (Below.mono (by assumption) ?_))) <;> (first | (simp; done) | (simp; omega) | omega))

set_option maxRecDepth 100000 in
set_option maxHeartbeats 400000 in
theorem first_num_short (r : List UInt8) (w : World) (h8 : ¬ 8 ≤ r.length) :
    Calls Try.prog 34 #[.string ⟨((1 : UInt8) :: r).toArray⟩] w (Ret3 ⟨0, 0, []⟩ 0 17 w) := by
  have hmf : ∀ (fn : Fn) (first cap : Array Value) (w : World), (Instr.makeFunc fn first cap).run Try.prog w = .ok (.func fn first cap) w := fun _ _ _ _ => rfl
  go_enter Try.func34, Try.ntmps34
  go_wp2_with fail
  refine (octet_one (w.heap.size + 1) ((1 : UInt8) :: r) 0 _ (by simp; omega) (by simp) (rd_new w _)).mono ?_
  rintro e w1 ⟨rfl, hrd1, hg1⟩
  rw [show ((((1 : UInt8) :: r)[0]).toNat : Int) = 1 from rfl]
  obtain ⟨hres1, hbb1, hz1⟩ := after_one hg1
  clear hg1
  go_wp2_with fail
  refine (number_any (w.heap.size + 1) (1 :: r) 1 _ (by simp; omega) (by simp) (Blk.alloc hrd1 _)).mono ?_
  intro e w2 h2
  rw [if_neg (by simp; omega)] at h2
  obtain ⟨rfl, hrd2, hg2⟩ := h2
  have hz2 := hg2.size
  simp at hz2
  have hres2 := (hres1.alloc (.cells #[.int .i64 1, .int .i64 0, .string ⟨#[]⟩] 31)).grown hg2 (by simp)
  have hv2 := (Blk.new w1 31 #[.int .i64 1, .int .i64 0, .string ⟨#[]⟩]).grown hg2 (by simp; omega)
  have hbb2 : Below w.heap.size w w2 := only_below (by ((repeat' (first | with_reducible exact Below.refl _ _ | with_reducible assumption | with_reducible refine Below.drew ?_ | with_reducible refine below_drewN ?_ _ | with_reducible refine Below.setCell ?_ ?_ _ | with_reducible refine Below.alloc ?_ ?_ _ | with_reducible refine Below.trans ?_ (Below.mono (by assumption) ?_))) <;> (first | (simp; done) | (simp; omega) | omega))) hg2 (by simp; omega) (by omega)
  clear hg2
  obtain ⟨⟨v0, v1, v2⟩, f0, f1, f2⟩ := hv2.three
  obtain ⟨⟨a0, a1, a2⟩, b0, b1, b2⟩ := hres2.three
  clear hres1 hres2 hrd1 hrd2 hv2 hbb1
  go_wp2
  refine bodyPost_ret (v := .tuple #[.agg #[.int .i64 0, .int .i64 0, .string ⟨#[]⟩], .int .i64 0, .int .i64 17]) (by simp [results, Try.results34, go_sem, a0, a1, a2]) rfl ⟨rfl, ?_⟩
  ((repeat' (first | with_reducible exact Below.refl _ _ | with_reducible assumption | with_reducible refine Below.drew ?_ | with_reducible refine below_drewN ?_ _ | with_reducible refine Below.setCell ?_ ?_ _ | with_reducible refine Below.alloc ?_ ?_ _ | with_reducible refine Below.trans ?_ (Below.mono (by assumption) ?_))) <;> (first | (simp; done) | (simp; omega) | omega))

end Go.Proofs.Ytkeeekifejholaa
