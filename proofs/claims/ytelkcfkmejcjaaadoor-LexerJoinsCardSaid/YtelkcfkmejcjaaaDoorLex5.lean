/- The laws of layer 3: few, Same of tokens, awake, as plain functions. Condition: a text that memory reaches; the library's length lies there. -/
import Derived.Test.YtelkcfkmejcjaaaDoorLex4
namespace Go.Proofs.YtelkcfkmejcjaaaDoor
open Go.RowKit

attribute [local go_sem] ByteArray.extract_mk ba_get ba_append

def teq (a b : Tok) : Bool := decide (a.k = b.k) && a.s == b.s
theorem run_eql_T (k : Int) (s : List UInt8) (k' : Int) (s' : List UInt8) (w : World) :
    (binOp .eql 56 (.agg #[.int .i64 k, .string ⟨s.toArray⟩]) (.agg #[.int .i64 k', .string ⟨s'.toArray⟩])).run Tryd.prog w = .ok (.bool (teq ⟨k, s⟩ ⟨k', s'⟩)) w := by
  by_cases h1 : k = k' <;> by_cases h3 : s = s' <;> simp [go_sem, teq, h1, h3, Tryd.underlying56, Tryd.underlying3, Tryd.underlying9]
theorem run_neq_T (k : Int) (s : List UInt8) (k' : Int) (s' : List UInt8) (w : World) :
    (binOp .neq 56 (.agg #[.int .i64 k, .string ⟨s.toArray⟩]) (.agg #[.int .i64 k', .string ⟨s'.toArray⟩])).run Tryd.prog w = .ok (.bool (!teq ⟨k, s⟩ ⟨k', s'⟩)) w := by
  by_cases h1 : k = k' <;> by_cases h3 : s = s' <;> simp [go_sem, teq, h1, h3, Tryd.underlying56, Tryd.underlying3, Tryd.underlying9]
attribute [local go_sem ↓] Go.wp_at_zero Go.wp_at_succ run_eql_T run_neq_T

theorem few3_any (s : List UInt8) (w : World) (hs : s.length ≤ maxLen) : Calls Tryd.prog 47 #[.string ⟨s.toArray⟩] w fun e w' => e = .returned (.string ⟨(s.take 1200).toArray⟩) ∧ w = w' := by
  unfold maxLen at hs
  by_cases h : 1200 < s.length
  · have h1 : (1200 : Int) < (s.length : Int) := by omega
    go_enter Tryd.func47, Tryd.ntmps47
    go_wp2
    go_ret
    exact ⟨by simp, rfl⟩
  · have h1 : ¬ (1200 : Int) < (s.length : Int) := by omega
    have h2 : s.take 1200 = s := List.take_of_length_le (by omega)
    have H2 := Lib.hid h2
    clear h2
    go_enter Tryd.func47, Tryd.ntmps47
    go_wp2
    go_ret
    exact ⟨by rw [H2.out]; rfl, rfl⟩

def tokSame : List Tok → List Tok → Bool
  | [], [] => true
  | [], _ :: _ => false
  | _ :: _, [] => false
  | a :: r, b :: t => teq a b && tokSame r t
theorem tokSame_len : ∀ (a b : List Tok), tokSame a b = true → a.length = b.length
  | [], [], _ => rfl
  | [], _ :: _, h => by simp [tokSame] at h
  | _ :: _, [], h => by simp [tokSame] at h
  | a :: r, b :: t, h => by
    simp only [tokSame, Bool.and_eq_true] at h
    simp [tokSame_len r t h.2]
theorem teq_self (a : Tok) : teq a a = true := by simp [teq]
theorem tokSame_self : ∀ a : List Tok, tokSame a a = true
  | [] => rfl
  | a :: r => by simp [tokSame, teq_self, tokSame_self r]
theorem drop_atT (l : List Tok) (j : Nat) (v : Tok) (h : l[j]? = some v) : l.drop j = v :: l.drop (j + 1) := by
  obtain ⟨hj, rfl⟩ := List.getElem?_eq_some_iff.1 h
  exact List.drop_eq_getElem_cons hj

set_option maxHeartbeats 400000 in
theorem same3_any (A B : Option Addr) (c d : Nat) (a b : List Tok) (w : World) (ha : a.length ≤ maxLen) (_hb : b.length ≤ maxLen) (hA : TkS w w.heap.size A a) (hB : TkS w w.heap.size B b) :
    Calls Tryd.prog 46 #[.slice A a.length c, .slice B b.length d] w (Ret (.bool (tokSame a b)) w) := by
  unfold maxLen at ha
  obtain ⟨R, hR⟩ : ∃ R, tokSame a b = R := ⟨_, rfl⟩
  rw [hR]
  by_cases hlen : a.length = b.length
  · have HR := Lib.hid hR
    have HL := Lib.hid hlen
    have hne : ((a.length : Int) != (b.length : Int)) = false := by simp [hlen]
    have hle1 : a.length ≤ b.length := by omega
    have hle2 : b.length ≤ a.length := by omega
    clear hR hlen
    go_enter Tryd.func46, Tryd.ntmps46
    go_wp2
    go_loopg [5] a.length (fun g i wr => ∃ j : Nat, j + g = a.length ∧ i = .int .i64 j ∧ Hid (tokSame (a.drop j) (b.drop j) = R) ∧ Below w.heap.size w wr)
    case atStart => exact ⟨0, by omega, rfl, HR, Below.refl _ _⟩
    case round =>
      obtain ⟨j, hj, rfl, hrest, hbw⟩ := hrel
      have HJ := Lib.hid hj
      by_cases hlt : j < a.length
      · obtain ⟨b1, o1, v, rfl, hbB1, hv, c0, c1⟩ := (hA.below hbw).at_ hlt
        obtain ⟨b2, o2, v', rfl, hbB2, hv', d0, d1⟩ := (hB.below hbw).at_ (j := j) (by omega)
        have hrest' := hrest.out
        rw [drop_atT a j v hv, drop_atT b j v' hv'] at hrest'
        simp only [tokSame] at hrest'
        have i1 : (0 : Int) ≤ (j : Int) := by omega
        have i2 : (j : Int) < (a.length : Int) := by omega
        have i3 : (j : Int) < (b.length : Int) := by omega
        obtain ⟨g', rfl⟩ : ∃ g', gk = g' + 1 := ⟨gk - 1, by omega⟩
        clear hj hv hv' hrest
        cases hq : teq v v'
        · have HF : Hid (R = false) := by show R = false; rw [← hrest', hq]; rfl
          clear hrest'
          go_wp2_with fail
          go_quiet (fail)
          go_wp2
          go_ret
          exact ⟨by rw [HF.out]; rfl, below_drewN hbw _⟩
        · have HF : Hid (tokSame (a.drop (j + 1)) (b.drop (j + 1)) = R) := by show _ = R; rw [← hrest', hq]; rfl
          clear hrest'
          go_wp2_with fail
          go_quiet (fail)
          go_wp2
          go_roundg g'
          case measure => omega
          case rel => exact ⟨j + 1, by have := HJ.out; omega, by go_num, HF, below_drewN hbw _⟩
      · have HF : Hid (R = true) := by
          show R = true
          rw [← hrest.out, List.drop_of_length_le (by omega), List.drop_of_length_le (by omega)]
          rfl
        clear hj hrest
        go_wp2
        go_ret
        exact ⟨by rw [HF.out]; rfl, hbw⟩
  · have HF : Hid (R = false) := by
      show R = false
      cases hr : R
      · rfl
      · exact absurd (tokSame_len a b (hR.trans hr)) hlen
    have hne : ((a.length : Int) != (b.length : Int)) = true := by simp; omega
    clear hR
    go_enter Tryd.func46, Tryd.ntmps46
    go_wp2
    go_ret
    exact ⟨by rw [HF.out]; rfl, Below.refl _ _⟩


theorem ex3a : cutT [97, 61, 49] = some [⟨1, [97]⟩, ⟨4, [61]⟩, ⟨2, [49]⟩] := by kernel_rfl
theorem ex3b : cutT [39, 105, 116, 39, 39, 115, 39] = some [⟨3, [105, 116, 39, 115]⟩] := by kernel_rfl
theorem ex3c : cutT [49, 97] = some [⟨2, [49]⟩, ⟨1, [97]⟩] := by kernel_rfl
theorem ex3d : cutT [59] = none := by kernel_rfl

set_option maxRecDepth 100000 in
set_option maxHeartbeats 2000000 in
theorem awake3_any (w : World) (hM : MaxL w) : Calls Tryd.prog 44 #[] w (Ret (.bool true) w) := by
  have HM := Lib.hid hM
  clear hM
  go_enter Tryd.func44, Tryd.ntmps44
  go_wp2_with fail
  refine (cutT_any [97, 61, 49] w (by decide) HM.out).mono ?_
  rw [ex3a]
  rintro e w1 ⟨A1, c1, rfl, _, _, hv1, hb1⟩
  go_wp2_with fail
  refine (cutT_any [39, 105, 116, 39, 39, 115, 39] w1 (by decide) (HM.out.below hb1 rfl)).mono ?_
  rw [ex3b]
  rintro e w2 ⟨A2, c2, rfl, _, _, hv2, hb2⟩
  have hbw2 := hb1.trans (hb2.mono hb1.size)
  go_wp2_with fail
  refine (cutT_any [49, 97] w2 (by decide) (HM.out.below hbw2 rfl)).mono ?_
  rw [ex3c]
  rintro e w3 ⟨A3, c3, rfl, _, _, hv3, hb3⟩
  have hbw3 := hbw2.trans (hb3.mono hbw2.size)
  go_wp2_with fail
  refine (cutT_any [59] w3 (by decide) (HM.out.below hbw3 rfl)).mono ?_
  rw [ex3d]
  rintro e w4 ⟨A4, c4, rfl, _, _, hv4, hb4⟩
  have hbw4 := hbw3.trans (hb4.mono hbw3.size)
  have hb14 : Below w1.heap.size w1 w4 := (hb2.trans (hb3.mono hb2.size)).trans (hb4.mono (Nat.le_trans hb2.size hb3.size))
  have hb24 : Below w2.heap.size w2 w4 := hb3.trans (hb4.mono hb3.size)
  obtain ⟨w5, hw5⟩ : ∃ w5, w4.alloc (.cells #[.int .i64 1, .string ⟨#[97]⟩, .int .i64 4, .string ⟨#[61]⟩, .int .i64 2, .string ⟨#[49]⟩] 56) = w5 := ⟨_, rfl⟩
  have k5 : Blk w5 w4.heap.size 56 (([⟨1, [97]⟩, ⟨4, [61]⟩, ⟨2, [49]⟩] : List Tok).flatMap Tok.cells).toArray := by rw [← hw5]; exact Blk.new _ _ _
  have hb45 : Below w4.heap.size w4 w5 := by rw [← hw5]; ((repeat' (first | with_reducible exact Below.refl _ _ | with_reducible assumption | with_reducible refine Below.drew ?_ | with_reducible refine below_drewN ?_ _ | with_reducible refine Below.setCell ?_ ?_ _ | with_reducible refine Below.alloc ?_ ?_ _ | with_reducible refine Below.trans ?_ (Below.mono (by assumption) ?_))) <;> (first | (simp; done) | (simp; omega) | omega))
  have hb15 := hb14.trans (hb45.mono hb14.size)
  have hb25 := hb24.trans (hb45.mono hb24.size)
  have hbw5 := hbw4.trans (hb45.mono hbw4.size)
  have HW5 := Lib.hid hw5
  clear hw5 hb1 hb2 hb3 hb4 hb14 hb24 hb45 hbw2 hbw3 hv3 hv4
  have v5 := ((hv1.vs (Nat.le_refl _)).below hb15).more hb15.size
  have s5 := tk_block k5
  dsimp only [cutRes, List.length_cons, List.length_nil]
  go_wp2_with fail
  rw [HW5.out]
  refine (same3_any A1 (some ⟨w4.heap.size, 0, none⟩) c1 3 [⟨1, [97]⟩, ⟨4, [61]⟩, ⟨2, [49]⟩] [⟨1, [97]⟩, ⟨4, [61]⟩, ⟨2, [49]⟩] w5 (by decide) (by decide) v5 s5).mono ?_
  rw [tokSame_self]
  rintro e w6 ⟨rfl, hb6⟩
  obtain ⟨w7, hw7⟩ : ∃ w7, w6.alloc (.cells #[.int .i64 3, .string ⟨#[105, 116, 39, 115]⟩] 56) = w7 := ⟨_, rfl⟩
  have k7 : Blk w7 w6.heap.size 56 (([⟨3, [105, 116, 39, 115]⟩] : List Tok).flatMap Tok.cells).toArray := by rw [← hw7]; exact Blk.new _ _ _
  have hb67 : Below w6.heap.size w6 w7 := by rw [← hw7]; ((repeat' (first | with_reducible exact Below.refl _ _ | with_reducible assumption | with_reducible refine Below.drew ?_ | with_reducible refine below_drewN ?_ _ | with_reducible refine Below.setCell ?_ ?_ _ | with_reducible refine Below.alloc ?_ ?_ _ | with_reducible refine Below.trans ?_ (Below.mono (by assumption) ?_))) <;> (first | (simp; done) | (simp; omega) | omega))
  have hb57 := hb6.trans (hb67.mono hb6.size)
  have hb27 := hb25.trans (hb57.mono hb25.size)
  have hbw7 := hbw5.trans (hb57.mono hbw5.size)
  have HW7 := Lib.hid hw7
  clear hw7
  have v7 := ((hv2.vs (Nat.le_refl _)).below hb27).more hb27.size
  have s7 := tk_block k7
  go_wp2_with fail
  rw [HW7.out]
  refine (same3_any A2 (some ⟨w6.heap.size, 0, none⟩) c2 1 [⟨3, [105, 116, 39, 115]⟩] [⟨3, [105, 116, 39, 115]⟩] w7 (by decide) (by decide) v7 s7).mono ?_
  rw [tokSame_self]
  rintro e w8 ⟨rfl, hb8⟩
  go_wp2_with fail
  go_ret
  exact ⟨rfl, hbw7.trans (hb8.mono hbw7.size)⟩

end Go.Proofs.YtelkcfkmejcjaaaDoor
