/- code.Value of a number. Condition: none. -/
import Derived.Test.YtkeeekifejholaaCodeValue
namespace Go.Proofs.Ytkeeekifejholaa
open Go.RowKit

attribute [local go_sem] ByteArray.extract_mk ba_get

theorem xor63 (a : Nat) (h : a < 18446744073709551616) : a ^^^ 9223372036854775808 = if a < 9223372036854775808 then a + 9223372036854775808 else a - 9223372036854775808 := by
  have h1 : (a ^^^ 9223372036854775808) % 2 ^ 63 = a % 2 ^ 63 := by
    rw [Nat.xor_mod_two_pow]; simp
  have h2 : (a ^^^ 9223372036854775808) / 2 ^ 63 = (a / 2 ^ 63) ^^^ 1 := by
    rw [Nat.xor_div_two_pow]
  split
  · have : a / 2 ^ 63 = 0 := by omega
    rw [this] at h2
    simp at h2
    omega
  · have : a / 2 ^ 63 = 1 := by omega
    rw [this] at h2
    simp at h2
    omega

theorem xor_top (i : Int) (h1 : -9223372036854775808 ≤ i) (h2 : i ≤ 9223372036854775807) : bits BinOp.xor IntKind.u64 (IntKind.u64.wrap i) 9223372036854775808 = i + 9223372036854775808 := by
  rw [u64_xor _ _ (by rw [IntKind.wrap_u64]; omega) (by rw [IntKind.wrap_u64]; omega) (by omega) (by omega), show (9223372036854775808 : Int).toNat = 9223372036854775808 from rfl, xor63 _ (by rw [IntKind.wrap_u64]; omega), IntKind.wrap_u64]
  split <;> omega

def be8 (u j : Nat) : List UInt8 := (List.range j).map fun i => UInt8.ofNat (u / 2 ^ (56 - 8 * i))

theorem be8_succ (u j : Nat) : be8 u (j + 1) = be8 u j ++ [UInt8.ofNat (u / 2 ^ (56 - 8 * j))] := by
  unfold be8
  rw [List.range_succ, List.map_append]
  rfl

set_option maxRecDepth 100000 in
set_option maxHeartbeats 400000 in
theorem cvalue_int (i : Int) (w : World) (hi1 : -9223372036854775808 ≤ i) (hi2 : i ≤ 9223372036854775807)  :
    Calls Try.prog 15 #[.agg #[.int .i64 1, .int .i64 i, .string ⟨#[]⟩]] w (Ret (.string ⟨(1 :: be8 (i + 9223372036854775808).toNat 8).toArray⟩) w) := by
  obtain ⟨i0, hi0, zi0, zi1, zi2⟩ := info_parts infoB
  have HM := Lib.hid (show mayB 1 i [] = true from rfl)
  go_enter Try.func15, Try.ntmps15
  go_wp2_with fail
  refine (may_any _ _ _ _).mono ?_
  rintro e w1 ⟨rfl, hb1⟩
  rw [HM.out]
  obtain ⟨hc1, hf1⟩ := bcell hb1
  have hz1 := hb1.size
  simp at hz1 hc1 hf1
  have hy1 : w.heap.size < w1.heap.size := by omega
  go_wp2_with fail
  obtain ⟨U, hU⟩ : ∃ U : Nat, bits BinOp.xor IntKind.u64 (IntKind.u64.wrap i) 9223372036854775808 = (U : Int) := ⟨(i + 9223372036854775808).toNat, by rw [xor_top i hi1 hi2]; omega⟩
  rw [hU]
  have hown0 := own_new w1 (w.heap.size + 1) 5 1 1 rfl (by omega)
  have HU := Lib.hid hU
  clear hU
  go_loopw [3, 22] (fun v t wr => ∃ j : Nat, j ≤ 8 ∧ t = .int .i64 j ∧ wr.ownsRow (w.heap.size + 1) 5 1 v (1 + j) (bcs (1 :: be8 U j)) ∧ Below w.heap.size w wr) (fun _ t _ => 8 - (intOf t).toNat)
  case atStart => exact ⟨0, by omega, rfl, hown0, by ((repeat' (first | with_reducible exact Below.refl _ _ | with_reducible assumption | with_reducible refine Below.drew ?_ | with_reducible refine below_drewN ?_ _ | with_reducible refine Below.setCell ?_ ?_ _ | with_reducible refine Below.alloc ?_ ?_ _ | with_reducible refine Below.trans ?_ (Below.mono (by assumption) ?_))) <;> (first | (simp; done) | (simp; omega) | omega))⟩
  case round =>
    obtain ⟨j, hj, rfl, hown, hbw⟩ := hrel
    clear hown0 hb1 hc1 hf1
    by_cases hlt : j < 8
    · go_wp2_with (at_builtin; refine wpList_append_own _ rfl (.tmp 25) (.tmp 32) 45 rfl (w.heap.size + 1) 5 i0 _ 1 1 Try.underlying45 hi0 zi0 zi1 zi2 rfl (by decide) _ _ _ rfl (hown.alloc _) ⟨wr.heap.size, 0, none⟩ 1 1 (bcs [UInt8.ofNat (U / 2 ^ (56 - 8 * j))]) rfl rfl ?d1 ?d2 ?d3 ?d4 ?d5 ?_)
      case d1 => exact news_one wr 5 _ _ (by rw [u8_of]; simp)
      case d2 => exact bcs_one _
      case d3 => simp [maxLen]; omega
      case d4 => omega
      case d5 => have := hbw.size; simp; omega
      intro v2 w2 hown2 hg2 _
      have hl := hown.lt
      have hbw2 := grown_below hbw hg2 hbw.size (fun k hk => by have := hl k hk; omega)
      rw [← bcs_append] at hown2
      clear hown hg2 hl
      go_wp2
      go_roundw
      case rel => exact ⟨j + 1, by omega, by go_num, by rw [be8_succ]; exact hown2, hbw2⟩
      case measure => simp [intOf]; omega
    · have e8 : be8 U j = be8 ((i + 9223372036854775808).toNat) 8 := by
        rw [show j = 8 by omega]
        have := HU.out
        rw [xor_top i hi1 hi2] at this
        rw [show (i + 9223372036854775808).toNat = U by omega]
      have E8 := Lib.hid e8
      clear e8
      have hcv := own_text (P := Try.prog) Try.underlying45 Try.underlying5 Try.underlying9 hown
      clear hown
      go_wp2
      go_ret
      exact ⟨by rw [← E8.out]; rfl, hbw⟩

end Go.Proofs.Ytkeeekifejholaa
