/- code.number: what 8 octets say. Condition: the text is shorter than 2^62. -/
import Derived.Test.YtkeeekifejholaaOctet
namespace Go.Proofs.Ytkeeekifejholaa
open Go.RowKit

attribute [local go_sem] ByteArray.extract_mk ba_get ba_append
attribute [local go_sem ↓] Go.wp_at_zero Go.wp_at_succ

def beN (l : List UInt8) : Nat := l.foldl (fun n c => n * 256 + c.toNat) 0
theorem beN_snoc (l : List UInt8) (c : UInt8) : beN (l ++ [c]) = beN l * 256 + c.toNat := by simp [beN]
theorem beN_lt (l : List UInt8) : beN l < 256 ^ l.length := by
  suffices h : ∀ (l : List UInt8) (n m : Nat), n < 256 ^ m → l.foldl (fun n c => n * 256 + c.toNat) n < 256 ^ (m + l.length) by
    have := h l 0 0 (by simp)
    simpa [beN] using this
  intro l
  induction l with
  | nil => intro n m h; simpa using h
  | cons c r ih =>
    intro n m h
    simp only [List.foldl_cons, List.length_cons]
    have := ih (n * 256 + c.toNat) (m + 1) (by have := UInt8.toNat_lt c; rw [Nat.pow_succ]; omega)
    rw [show m + (r.length + 1) = m + 1 + r.length by omega]
    exact this

theorem or_byte (N C : Nat) (hC : C < 2 ^ 8) (hN : N < 72057594037927936) : bits BinOp.or IntKind.u64 ((N : Int) * 256) (C : Int) = ((N * 256 + C : Nat) : Int) := by
  have h := u64_or_nat (N * 256) C (by omega) (by omega)
  rw [show ((N * 256 : Nat) : Int) = (N : Int) * 256 by omega] at h
  rw [h]
  have := Nat.shiftLeft_add_eq_or_of_lt hC N
  rw [Nat.shiftLeft_eq] at this
  rw [← this]

theorem unxor (N : Nat) (h : N < 18446744073709551616) : wrap64 (bits BinOp.xor IntKind.u64 (N : Int) 9223372036854775808) = (N : Int) - 9223372036854775808 := by
  rw [u64_xor _ _ (by omega) (by omega) (by omega) (by omega), show (9223372036854775808 : Int).toNat = 9223372036854775808 from rfl, Int.toNat_natCast, xor63 N h]
  unfold wrap64
  split <;> omega

theorem only_trans {a b c : World} {g : Nat} (h : a.grownBy b (some g)) (k : b.grownBy c (some g)) : a.grownBy c (some g) :=
  ⟨k.os.trans h.os, k.tape.trans h.tape, k.output.trans h.output, Nat.le_trans h.size k.size, fun i hi hne => (k.block i (Nat.lt_of_lt_of_le hi h.size) hne).trans (h.block i hi hne)⟩

set_option maxHeartbeats 400000 in
theorem number_any (g : Nat) (s : List UInt8) (p : Nat) (w : World) (hs : s.length ≤ 4611686018427387904) (hp : p ≤ s.length) (h : Rd w g s p) :
    Calls Try.prog 47 #[.func (.func 46) #[.pointer (some ⟨g, 0, none⟩)] #[]] w fun e w' => 
      if p + 8 ≤ s.length then e = .returned (.tuple #[.int .i64 ((beN ((s.drop p).take 8) : Int) - 9223372036854775808), .bool true]) ∧ Rd w' g s (p + 8) ∧ w.grownBy w' (some g)
      else e = .returned (.tuple #[.int .i64 0, .bool false]) ∧ Rd w' g s s.length ∧ w.grownBy w' (some g) := by
  by_cases h8 : p + 8 ≤ s.length
  · simp only [h8, if_true]
    go_enter Try.func47, Try.ntmps47
    go_wp2
    go_loopw [4, 7] (fun n t wr => ∃ j : Nat, j ≤ 8 ∧ t = .int .i64 j ∧ n = .int .u64 (beN ((s.drop p).take j)) ∧ Rd wr g s (p + j) ∧ w.grownBy wr (some g)) (fun _ t _ => 8 - (intOf t).toNat)
    case atStart => exact ⟨0, by omega, rfl, rfl, h, World.grownBy.refl w _⟩
    case round =>
      obtain ⟨j, hj, rfl, rfl, hrd, hg⟩ := hrel
      by_cases hlt : j < 8
      · have hlen : ((s.drop p).take j).length ≤ j := List.length_take_le _ _
        have hN := beN_lt ((s.drop p).take j)
        have hpw : 256 ^ ((s.drop p).take j).length ≤ 256 ^ 7 := Nat.pow_le_pow_right (by omega) (by omega)
        have hsn : (s.drop p).take (j + 1) = (s.drop p).take j ++ [s[p + j]] := by
          rw [List.take_succ_eq_append_getElem (by rw [List.length_drop]; omega)]
          simp
        have hbe := beN_snoc ((s.drop p).take j) s[p + j]
        rw [← hsn] at hbe
        have HB := Lib.hid hbe
        clear hbe hsn
        generalize beN ((s.drop p).take j) = N at *
        have hN2 : N < 72057594037927936 := by omega
        clear hN hpw
        go_wp2_with fail
        refine (octet_one g s (p + j) _ hs (by omega) hrd).mono ?_
        rintro e w1 ⟨rfl, hrd1, hg1⟩
        have hby := UInt8.toNat_lt s[p + j]
        generalize s[p + j].toNat = C at *
        go_wp2
        go_roundw
        case rel => exact ⟨j + 1, by omega, by go_num, by rw [HB.out, or_byte N C hby hN2], hrd1, only_trans hg hg1⟩
        case measure => simp [intOf]; omega
      · have hfull : ((s.drop p).take j) = (s.drop p).take 8 := by rw [show j = 8 by omega]
        rw [hfull]
        have hN := beN_lt ((s.drop p).take 8)
        have hlen8 : ((s.drop p).take 8).length ≤ 8 := List.length_take_le _ _
        have hpw : 256 ^ ((s.drop p).take 8).length ≤ 256 ^ 8 := Nat.pow_le_pow_right (by omega) hlen8
        obtain ⟨N, hNN⟩ : ∃ N, beN ((s.drop p).take 8) = N := ⟨_, rfl⟩
        have HN := Lib.hid hNN
        rw [hNN] at hN ⊢
        have hx := unxor N (by omega)
        have HX := Lib.hid hx
        have hj8 : Rd wr g s (p + 8) := by rw [show 8 = j by omega]; exact hrd
        clear hNN hN hpw hlen8 hfull hx
        go_wp2
        go_ret2
        refine ⟨?_, hj8, hg⟩
        rw [HN.out, ← HX.out]
        rfl
  · simp only [h8, if_false]
    go_enter Try.func47, Try.ntmps47
    go_wp2
    go_loopw [4, 7] (fun n t wr => ∃ j : Nat, j ≤ 8 ∧ p + j ≤ s.length ∧ t = .int .i64 j ∧ (∃ N : Nat, N < 256 ^ j ∧ n = .int .u64 N) ∧ Rd wr g s (p + j) ∧ w.grownBy wr (some g)) (fun _ t _ => 8 - (intOf t).toNat)
    case atStart => exact ⟨0, by omega, by omega, rfl, ⟨0, by simp, rfl⟩, h, World.grownBy.refl w _⟩
    case round =>
      obtain ⟨j, hj, hjs, rfl, ⟨N, hN, rfl⟩, hrd, hg⟩ := hrel
      have hlt : j < 8 := by omega
      have hpw : 256 ^ j ≤ 256 ^ 7 := Nat.pow_le_pow_right (by omega) (by omega)
      have hN2 : N < 72057594037927936 := by omega
      have HN := Lib.hid hN
      clear hN hpw
      by_cases he : p + j < s.length
      · go_wp2_with fail
        refine (octet_one g s (p + j) _ hs he hrd).mono ?_
        rintro e w1 ⟨rfl, hrd1, hg1⟩
        have hby := UInt8.toNat_lt s[p + j]
        generalize s[p + j].toNat = C at *
        go_wp2
        go_roundw
        case rel => exact ⟨j + 1, by omega, by omega, by go_num, ⟨N * 256 + C, by have := HN.out; rw [Nat.pow_succ]; omega, by rw [or_byte N C hby hN2]⟩, hrd1, only_trans hg hg1⟩
        case measure => simp [intOf]; omega
      · go_wp2_with fail
        refine (octet_end g s (p + j) _ (by omega) hrd).mono ?_
        rintro e w1 ⟨rfl, hrd1, hg1⟩
        go_wp2
        go_ret2
        refine ⟨rfl, ?_, only_trans hg hg1⟩
        rw [show s.length = p + j by omega]
        exact hrd1

end Go.Proofs.Ytkeeekifejholaa
