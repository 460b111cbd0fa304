/- The document's Same of two rows. Condition: texts that memory reaches. -/
import Derived.Test.YtdhjogmkhbpcgaaFewsM
namespace Go.Proofs.Ytdhjogmkhbpcgaa
open Go.RowKit

attribute [local go_sem] ByteArray.extract_mk ba_get ba_append
attribute [local go_sem ↓] Go.wp_at_zero Go.wp_at_succ run_eql_V run_neq_V

def rowSame : List V → List V → Bool
  | [], [] => true
  | [], _ :: _ => false
  | _ :: _, [] => false
  | a :: r, b :: t => veq a b && rowSame r t

theorem rowSame_len : ∀ (a b : List V), rowSame a b = true → a.length = b.length
  | [], [], _ => rfl
  | [], _ :: _, h => by simp [rowSame] at h
  | _ :: _, [], h => by simp [rowSame] at h
  | a :: r, b :: t, h => by
    simp only [rowSame, Bool.and_eq_true] at h
    simp [rowSame_len r t h.2]

theorem drop_at (l : List V) (j : Nat) (v : V) (h : l[j]? = some v) : l.drop j = v :: l.drop (j + 1) := by
  obtain ⟨hj, rfl⟩ := List.getElem?_eq_some_iff.1 h
  exact List.drop_eq_getElem_cons hj

set_option maxHeartbeats 400000 in
theorem same_any (A B : Option Addr) (c d : Nat) (a b : List V) (w : World) (ha : a.length ≤ maxLen) (_hb : b.length ≤ maxLen) (hA : VS w w.heap.size A a) (hB : VS w w.heap.size B b) :
    Calls Try.prog 14 #[.slice A a.length c, .slice B b.length d] w (Ret (.bool (rowSame a b)) w) := by
  unfold maxLen at ha
  obtain ⟨R, hR⟩ : ∃ R, rowSame a b = R := ⟨_, rfl⟩
  rw [hR]
  by_cases hlen : a.length = b.length
  · have HR := Lib.hid hR
    have HL := Lib.hid hlen
    have hne : ((a.length : Int) != (b.length : Int)) = false := by simp [hlen]
    have hle1 : a.length ≤ b.length := by omega
    have hle2 : b.length ≤ a.length := by omega
    clear hR hlen
    go_enter Try.func14, Try.ntmps14
    go_wp2
    go_loopg [5] a.length (fun g i wr => ∃ j : Nat, j + g = a.length ∧ i = .int .i64 j ∧ Hid (rowSame (a.drop j) (b.drop j) = R) ∧ Below w.heap.size w wr)
    case atStart => exact ⟨0, by omega, rfl, HR, Below.refl _ _⟩
    case round =>
      obtain ⟨j, hj, rfl, hrest, hbw⟩ := hrel
      have HJ := Lib.hid hj
      by_cases hlt : j < a.length
      · obtain ⟨b1, o1, v, rfl, hbB1, hv, c0, c1, c2⟩ := (hA.below hbw).at_ hlt
        obtain ⟨b2, o2, v', rfl, hbB2, hv', d0, d1, d2⟩ := (hB.below hbw).at_ (j := j) (by omega)
        have hrest' := hrest.out
        rw [drop_at a j v hv, drop_at b j v' hv'] at hrest'
        simp only [rowSame] at hrest'
        have i1 : (0 : Int) ≤ (j : Int) := by omega
        have i2 : (j : Int) < (a.length : Int) := by omega
        have i3 : (j : Int) < (b.length : Int) := by omega
        obtain ⟨g', rfl⟩ : ∃ g', gk = g' + 1 := ⟨gk - 1, by omega⟩
        clear hj hv hv' hrest
        cases hq : veq v v'
        · have HF : Hid (R = false) := by show R = false; rw [← hrest', hq]; rfl
          clear hrest'
          go_wp2_with fail
          go_quiet (fail)
          go_wp2
          go_ret
          exact ⟨by rw [HF.out]; rfl, below_drewN hbw _⟩
        · have HF : Hid (rowSame (a.drop (j + 1)) (b.drop (j + 1)) = R) := by show _ = R; rw [← hrest', hq]; rfl
          clear hrest'
          go_wp2_with fail
          go_quiet (fail)
          go_wp2
          go_roundg g'
          case measure => omega
          case rel => exact ⟨j + 1, by have := HJ.out; omega, by go_num, HF, below_drewN hbw _⟩
      · have HF : Hid (R = true) := by
          show R = true
          rw [← hrest.out, List.drop_of_length_le (by omega), List.drop_of_length_le (by omega)]
          rfl
        clear hj hrest
        go_wp2
        go_ret
        exact ⟨by rw [HF.out]; rfl, hbw⟩
  · have HF : Hid (R = false) := by
      show R = false
      cases hr : R
      · rfl
      · exact absurd (rowSame_len a b (hR.trans hr)) hlen
    have hne : ((a.length : Int) != (b.length : Int)) = true := by simp; omega
    clear hR
    go_enter Try.func14, Try.ntmps14
    go_wp2
    go_ret
    exact ⟨by rw [HF.out]; rfl, Below.refl _ _⟩

end Go.Proofs.Ytdhjogmkhbpcgaa
