/- The document's Same and Order of two rows. Condition: texts that memory reaches. -/
import Derived.Test.YtkeeekifejholaaRef1Order
import Derived.Test.YtkeeekifejholaaFew2
namespace Go.Proofs.Ytkeeekifejholaa
open Go.RowKit

attribute [local go_sem] ByteArray.extract_mk ba_get ba_append
attribute [local go_sem ↓] Go.wp_at_zero Go.wp_at_succ run_eql_V run_neq_V

def V.ord (a b : V) : Int := vord (goodV a.k a.i a.s) (goodV b.k b.i b.s)
def rowOrd : List V → List V → Int
  | [], [] => 0
  | [], _ :: _ => -1
  | _ :: _, [] => 1
  | a :: r, b :: t => if V.ord a b != 0 then V.ord a b else rowOrd r t
def rowSame : List V → List V → Bool
  | [], [] => true
  | [], _ :: _ => false
  | _ :: _, [] => false
  | a :: r, b :: t => veq a b && rowSame r t

theorem rowSame_len : ∀ (a b : List V), rowSame a b = true → a.length = b.length
  | [], [], _ => rfl
  | [], _ :: _, h => by simp [rowSame] at h
  | _ :: _, [], h => by simp [rowSame] at h
  | a :: r, b :: t, h => by
    simp only [rowSame, Bool.and_eq_true] at h
    simp [rowSame_len r t h.2]

theorem drop_at (l : List V) (j : Nat) (v : V) (h : l[j]? = some v) : l.drop j = v :: l.drop (j + 1) := by
  obtain ⟨hj, rfl⟩ := List.getElem?_eq_some_iff.1 h
  exact List.drop_eq_getElem_cons hj

set_option maxHeartbeats 400000 in
theorem same_any (A B : Option Addr) (c d : Nat) (a b : List V) (w : World) (ha : a.length ≤ maxLen) (_hb : b.length ≤ maxLen) (hA : VS w w.heap.size A a) (hB : VS w w.heap.size B b) :
    Calls Try.prog 18 #[.slice A a.length c, .slice B b.length d] w (Ret (.bool (rowSame a b)) w) := by
  unfold maxLen at ha
  obtain ⟨R, hR⟩ : ∃ R, rowSame a b = R := ⟨_, rfl⟩
  rw [hR]
  by_cases hlen : a.length = b.length
  · have HR := Lib.hid hR
    have HL := Lib.hid hlen
    have hne : ((a.length : Int) != (b.length : Int)) = false := by simp [hlen]
    have hle1 : a.length ≤ b.length := by omega
    have hle2 : b.length ≤ a.length := by omega
    clear hR hlen
    go_enter Try.func18, Try.ntmps18
    go_wp2
    go_loopg [5] a.length (fun g i wr => ∃ j : Nat, j + g = a.length ∧ i = .int .i64 j ∧ Hid (rowSame (a.drop j) (b.drop j) = R) ∧ Below w.heap.size w wr)
    case atStart => exact ⟨0, by omega, rfl, HR, Below.refl _ _⟩
    case round =>
      obtain ⟨j, hj, rfl, hrest, hbw⟩ := hrel
      have HJ := Lib.hid hj
      by_cases hlt : j < a.length
      · obtain ⟨b1, o1, v, rfl, hbB1, hv, c0, c1, c2⟩ := (hA.below hbw).at_ hlt
        obtain ⟨b2, o2, v', rfl, hbB2, hv', d0, d1, d2⟩ := (hB.below hbw).at_ (j := j) (by omega)
        have hrest' := hrest.out
        rw [drop_at a j v hv, drop_at b j v' hv'] at hrest'
        simp only [rowSame] at hrest'
        have i1 : (0 : Int) ≤ (j : Int) := by omega
        have i2 : (j : Int) < (a.length : Int) := by omega
        have i3 : (j : Int) < (b.length : Int) := by omega
        obtain ⟨g', rfl⟩ : ∃ g', gk = g' + 1 := ⟨gk - 1, by omega⟩
        clear hj hv hv' hrest
        cases hq : veq v v'
        · have HF : Hid (R = false) := by show R = false; rw [← hrest', hq]; rfl
          clear hrest'
          go_wp2_with fail
          go_quiet (fail)
          go_wp2
          go_ret
          exact ⟨by rw [HF.out]; rfl, below_drewN hbw _⟩
        · have HF : Hid (rowSame (a.drop (j + 1)) (b.drop (j + 1)) = R) := by show _ = R; rw [← hrest', hq]; rfl
          clear hrest'
          go_wp2_with fail
          go_quiet (fail)
          go_wp2
          go_roundg g'
          case measure => omega
          case rel => exact ⟨j + 1, by have := HJ.out; omega, by go_num, HF, below_drewN hbw _⟩
      · have HF : Hid (R = true) := by
          show R = true
          rw [← hrest.out, List.drop_of_length_le (by omega), List.drop_of_length_le (by omega)]
          rfl
        clear hj hrest
        go_wp2
        go_ret
        exact ⟨by rw [HF.out]; rfl, hbw⟩
  · have HF : Hid (R = false) := by
      show R = false
      cases hr : R
      · rfl
      · exact absurd (rowSame_len a b (hR.trans hr)) hlen
    have hne : ((a.length : Int) != (b.length : Int)) = true := by simp; omega
    clear hR
    go_enter Try.func18, Try.ntmps18
    go_wp2
    go_ret
    exact ⟨by rw [HF.out]; rfl, Below.refl _ _⟩

theorem rowOrd_done : ∀ (a b : List V) (j : Nat), j ≤ a.length → j ≤ b.length → (a.length ≤ j ∨ b.length ≤ j) → rowOrd (a.drop j) (b.drop j) = if a.length = b.length then 0 else if a.length < b.length then -1 else 1
  | [], [], j, _, _, _ => by simp [rowOrd]
  | [], y :: t, j, h, _, _ => by
    obtain rfl : j = 0 := by simpa using h
    simp [rowOrd]
  | x :: r, [], j, _, h, _ => by
    obtain rfl : j = 0 := by simpa using h
    simp [rowOrd]
  | x :: r, y :: t, 0, _, _, h => by simp at h
  | x :: r, y :: t, j + 1, h1, h2, h => by
    have := rowOrd_done r t j (by simpa using h1) (by simpa using h2) (by simpa using h)
    simpa using this

set_option maxHeartbeats 400000 in
theorem order_any (A B : Option Addr) (c d : Nat) (a b : List V) (w : World) (ha : a.length ≤ maxLen) (_hb : b.length ≤ maxLen) (wa : ∀ v ∈ a, v.wf) (wb : ∀ v ∈ b, v.wf) (hA : VS w w.heap.size A a) (hB : VS w w.heap.size B b) :
    Calls Try.prog 14 #[.slice A a.length c, .slice B b.length d] w (Ret (.int .i64 (rowOrd a b)) w) := by
  unfold maxLen at ha
  obtain ⟨R, hR⟩ : ∃ R, rowOrd a b = R := ⟨_, rfl⟩
  rw [hR]
  have HR := Lib.hid hR
  clear hR
  go_enter Try.func14, Try.ntmps14
  go_wp2
  go_loopg [5] a.length (fun g i wr => ∃ j : Nat, j + g = a.length ∧ j ≤ b.length ∧ i = .int .i64 j ∧ Hid (rowOrd (a.drop j) (b.drop j) = R) ∧ Below w.heap.size w wr)
  case atStart => exact ⟨0, by omega, by omega, rfl, HR, Below.refl _ _⟩
  case round =>
    obtain ⟨j, hj, hjb, rfl, hrest, hbw⟩ := hrel
    have HJ := Lib.hid hj
    have hzw := hbw.size
    by_cases hlt : j < a.length ∧ j < b.length
    · obtain ⟨hlt, hlt2⟩ := hlt
      obtain ⟨b1, o1, v, rfl, hbB1, hv, c0, c1, c2⟩ := (hA.below hbw).at_ hlt
      obtain ⟨b2, o2, v', rfl, hbB2, hv', d0, d1, d2⟩ := (hB.below hbw).at_ (j := j) (by omega)
      have hrest' := hrest.out
      have s1 := (wa v (List.mem_of_getElem? hv)).2.2
      have s2 := (wb v' (List.mem_of_getElem? hv')).2.2
      rw [drop_at a j v hv, drop_at b j v' hv'] at hrest'
      simp only [rowOrd] at hrest'
      have i1 : (0 : Int) ≤ (j : Int) := by omega
      have i2 : (j : Int) < (a.length : Int) := by omega
      have i3 : (j : Int) < (b.length : Int) := by omega
      obtain ⟨g', rfl⟩ : ∃ g', gk = g' + 1 := ⟨gk - 1, by omega⟩
      clear hj hv hv' hrest wa wb
      obtain ⟨O, hO⟩ : ∃ O, V.ord v v' = O := ⟨_, rfl⟩
      rw [hO] at hrest'
      have HO := Lib.hid hO
      clear hO
      have HRE := Lib.hid hrest'
      clear hrest'
      go_upto_region 4 with fail
      go_cut [6] (fun s6 wx => s6 = .int .i64 O ∧ Below w.heap.size w wx)
      case first =>
        go_region_held3 (fun w' => w'.cell? ⟨b1, o1 + j * 3, none⟩ = some (.int .i64 v.k) ∧ w'.cell? ⟨b1, o1 + j * 3 + 1, none⟩ = some (.int .i64 v.i) ∧ w'.cell? ⟨b1, o1 + j * 3 + 2, none⟩ = some (.string ⟨v.s.toArray⟩) ∧ w'.cell? ⟨b2, o2 + j * 3, none⟩ = some (.int .i64 v'.k) ∧ w'.cell? ⟨b2, o2 + j * 3 + 1, none⟩ = some (.int .i64 v'.i) ∧ w'.cell? ⟨b2, o2 + j * 3 + 2, none⟩ = some (.string ⟨v'.s.toArray⟩))
          (first | go_keep)
          (first | (go_at_call 16; refine (rorder_any _ _ _ _ _ _ _ s1 s2).mono ?_; rintro e w1 ⟨rfl, hb1⟩; obtain ⟨hc1, hf1⟩ := bcell hb1; have hz1 := hb1.size; (try simp at hz1 hc1 hf1); have l1 : b1 < wr.heap.size := (by have := hbw.size; omega); have l2 : b2 < wr.heap.size := (by have := hbw.size; omega)))
        all_goals (go_wp2_with fail; go_meet)
        all_goals refine ⟨by rw [← HO.out]; rfl, ?_⟩
        all_goals ((repeat' (first | with_reducible exact Below.refl _ _ | with_reducible assumption | with_reducible refine Below.drew ?_ | with_reducible refine below_drewN ?_ _ | with_reducible refine Below.setCell ?_ ?_ _ | with_reducible refine Below.alloc ?_ ?_ _ | with_reducible refine Below.trans ?_ (Below.mono (by assumption) ?_))) <;> (first | (simp; done) | (simp; omega) | omega))
      case rest =>
        obtain ⟨rfl, hbx⟩ := hcut
        cases hq : O != 0
        · have HF : Hid (rowOrd (a.drop (j + 1)) (b.drop (j + 1)) = R) := by
            have := HRE.out; rw [hq] at this; exact this
          clear HRE HO c0 c1 c2 d0 d1 d2 hbw
          go_wp2
          go_roundg g'
          case measure => omega
          case rel => exact ⟨j + 1, by have := HJ.out; omega, by omega, by go_num, HF, hbx⟩
        · have HF : Hid (O = R) := by
            have := HRE.out; rw [hq] at this; exact this
          clear HRE HO c0 c1 c2 d0 d1 d2 hbw
          go_wp2
          go_ret
          exact ⟨by rw [← HF.out]; rfl, hbx⟩
    · have hdone := rowOrd_done a b j (by omega) hjb (by omega)
      rw [hrest.out] at hdone
      have HD := Lib.hid hdone
      clear hdone hrest hj
      by_cases h1 : j < a.length
      · have h2 : ¬ j < b.length := by omega
        have hne : ((a.length : Int) == (b.length : Int)) = false := by simp; omega
        have h3 : ¬ a.length < b.length := by omega
        have HF : Hid (R = 1) := by show R = 1; rw [HD.out, if_neg (by omega), if_neg h3]
        clear HD hlt
        go_wp2
        go_ret
        exact ⟨by rw [HF.out]; rfl, hbw⟩
      · rcases Nat.lt_trichotomy a.length b.length with h3 | h3 | h3
        · have hne : ((a.length : Int) == (b.length : Int)) = false := by simp; omega
          have HF : Hid (R = -1) := by show R = -1; rw [HD.out, if_neg (by omega), if_pos h3]
          clear HD hlt
          go_wp2
          go_ret
          exact ⟨by rw [HF.out]; rfl, hbw⟩
        · have hne : ((a.length : Int) == (b.length : Int)) = true := by simp; omega
          have HF : Hid (R = 0) := by show R = 0; rw [HD.out, if_pos h3]
          clear HD hlt h3
          go_wp2
          go_ret
          exact ⟨by rw [HF.out]; rfl, hbw⟩
        · have hne : ((a.length : Int) == (b.length : Int)) = false := by simp; omega
          have h4 : ¬ a.length < b.length := by omega
          have HF : Hid (R = 1) := by show R = 1; rw [HD.out, if_neg (by omega), if_neg (by omega)]
          clear HD hlt
          go_wp2
          go_ret
          exact ⟨by rw [HF.out]; rfl, hbw⟩

end Go.Proofs.Ytkeeekifejholaa
