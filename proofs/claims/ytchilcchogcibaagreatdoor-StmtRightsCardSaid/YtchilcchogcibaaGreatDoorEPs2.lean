/- The statement parser's words: they stand one behind the other. Condition: tokens that memory reaches, below the parser; words in a block that is not the parser's.. -/
import Derived.Test.YtchilcchogcibaaGreatDoorEPs1
set_option maxRecDepth 100000
set_option maxHeartbeats 2000000
namespace Go.Proofs.YtchilcchogcibaaGreatDoor
open Go.RowKit
attribute [local go_sem] ByteArray.extract_mk ba_get ba_append
attribute [local go_sem ↓] Go.wp_at_zero Go.wp_at_succ
theorem goAt_goAt (cs : Array Value) (a b : Nat) : goAt (goAt cs a) b = goAt cs b := by unfold goAt; simp
theorem PsS.self {g : Nat} {A : Option Addr} {c : Nat} {l : List Tok} {a : Nat} {cs : Array Value} {w : World} (h : PsS g A c l a cs w) : goAt cs a = cs := by
 unfold goAt
 apply Array.ext_getElem?
 intro i
 by_cases hi : i = 1
 ·subst hi
  rw [h.c1, Array.getElem?_setIfInBounds_self_of_lt]
  have := h.c1
  rw [Array.getElem?_eq_some_iff] at this
  exact this.1
 ·rw [Array.getElem?_setIfInBounds_ne (by omega)]
def wordsN (l : List Tok) : Nat → List (List UInt8) → Nat
 | _, [] => 0
 | a, x :: r => if hit l a x then wordsN l (a + 1) r + 1 else 0
theorem wordsN_le (l : List Tok) : ∀ (ws : List (List UInt8)) (a : Nat), wordsN l a ws ≤ ws.length
 | [], _ => Nat.le_refl _
 | x :: r, a => by
  unfold wordsN
  split
  ·have := wordsN_le l r (a + 1); simp; omega
  ·simp
theorem ptake2_any (g : Nat) (A : Option Addr) (c : Nat) (l : List Tok) (a : Nat) (cs : Array Value) (word : List UInt8) (w : World) (ha : a ≤ 1000000) (h : PsS g A c l a cs w) :
  Calls Tryz.prog 162 #[.pointer (some ⟨g, 0, none⟩), .string ⟨word.toArray⟩] w (RetPs1 (hit l a word) g A c l (a + (hit l a word).toNat) (goAt cs (a + (hit l a word).toNat)) w) := by
 have := ptake_any g A c l a cs word w ha h
 cases hb : hit l a word
 ·rw [hb] at this
  rw [show a + false.toNat = a from rfl, h.self]
  exact this
 ·rw [hb] at this
  exact this
theorem pw1_any (g pv : Nat) (A : Option Addr) (c : Nat) (l : List Tok) (a : Nat) (cs : Array Value) (word : List UInt8) (w : World) (ha : a ≤ 1000000) (h : PsS g A c l a cs w) (hv : w.cell? ⟨pv, 0, none⟩ = some (.pointer (some ⟨g, 0, none⟩))) :
  Calls Tryz.prog 208 #[.string ⟨word.toArray⟩, .pointer (some ⟨pv, 0, none⟩)] w (RetPs1 (!hit l a word) g A c l (a + (hit l a word).toNat) (goAt cs (a + (hit l a word).toNat)) w) := by
 have HT := Lib.hid (ptake2_any g A c l a cs word w ha h)
 obtain ⟨a', ha'⟩ : ∃ x, a + (hit l a word).toNat = x := ⟨_, rfl⟩
 obtain ⟨B, hB⟩ : ∃ B, hit l a word = B := ⟨_, rfl⟩
 rw [ha', hB] at HT
 rw [ha', hB]
 clear h ha' hB
 go_in
 go_wp2_with fail
 refine HT.out.mono ?_
 rintro en w1 ⟨rfl, hP, hb⟩
 go_wp2_with fail
 go_ret
 exact ⟨rfl, hP, hb⟩
def RetIx (R : Int) (g : Nat) (A : Option Addr) (c : Nat) (l : List Tok) (a : Nat) (cs : Array Value) (w : World) (en : Ending) (w' : World) : Prop := en = .returned (.int .i64 R) ∧ PsS g A c l a cs w' ∧ But g w w'
theorem pidx_any (g pv : Nat) (A : Option Addr) (c : Nat) (l : List Tok) (a : Nat) (cs : Array Value) (ws : List (List UInt8)) (A' : Option Addr) (c' : Nat) (w : World) (ha : a + ws.length ≤ 1000000) (h : PsS g A c l a cs w) (hv : w.cell? ⟨pv, 0, none⟩ = some (.pointer (some ⟨g, 0, none⟩))) (hpv : pv ≠ g) (hS : SQ ws A' (fun b => b < w.heap.size ∧ b ≠ g) w) :
  Calls Tryz.prog 73 #[.slice A' ws.length c', .func (.func 208) #[] #[.pointer (some ⟨pv, 0, none⟩)]] w (RetIx (if wordsN l a ws < ws.length then (wordsN l a ws : Nat) else -1) g A c l (a + wordsN l a ws) (goAt cs (a + wordsN l a ws)) w) := by
 have hpl : pv < w.heap.size := Blk_lt_of_cell hv
 have HV : Hid (∀ Z : World, But g w Z → Z.cell? ⟨pv, 0, none⟩ = some (.pointer (some ⟨g, 0, none⟩))) := fun Z hz => (hz.cell hpl hpv 0).trans hv
 have HQ : Hid (∀ Z : World, But g w Z → SQ ws A' (fun b => b < w.heap.size ∧ b ≠ g) Z) := fun Z hz => hS.keep fun b hb => ⟨hb, fun o => hz.cell hb.1 hb.2 o⟩
 obtain ⟨R, hR⟩ : ∃ R : Int, (if wordsN l a ws < ws.length then ((wordsN l a ws : Nat) : Int) else -1) = R := ⟨_, rfl⟩
 obtain ⟨K, hK⟩ : ∃ K, wordsN l a ws = K := ⟨_, rfl⟩
 rw [hR, hK]
 rw [hK] at hR
 obtain ⟨N, hN⟩ : ∃ N, ws.length = N := ⟨_, rfl⟩
 rw [hN] at ha hR ⊢
 have HL := Lib.hid hN
 have HR := Lib.hid hR
 have HK : Hid (wordsN l (a + 0) (ws.drop 0) + 0 = K) := hK
 have hP0 : PsS g A c l (a + 0) (goAt cs (a + 0)) w := by rw [Nat.add_zero, h.self]; exact h
 have HP0 := Lib.hid hP0
 clear h hv hS hR hK hN hP0
 go_in
 go_wp2_with fail
 go_loopw [8] (fun i wr => ∃ j : Nat, j ≤ N ∧ i = .int .i64 j ∧ Hid (wordsN l (a + j) (ws.drop j) + j = K) ∧ Hid (PsS g A c l (a + j) (goAt cs (a + j)) wr) ∧ But g w wr) (fun i _ => N - (intOf i).toNat)
 case atStart => exact ⟨0, by omega, rfl, HK, HP0, But.refl _ _⟩
 case round =>
  obtain ⟨j, hj, rfl, HJ, HP, hbw⟩ := hrel
  obtain ⟨W, rfl⟩ : ∃ W, W = wr := ⟨_, rfl⟩
  by_cases hlt : j < N
  ·obtain ⟨b, off, x, hA, hbB, hx, c0⟩ := (HQ.out W hbw).at_ (j := j) (by rw [HL.out]; exact hlt)
   subst hA
   have hdr : ws.drop j = x :: ws.drop (j + 1) := by
    obtain ⟨hj', rfl⟩ := List.getElem?_eq_some_iff.1 hx
    exact List.drop_eq_getElem_cons hj'
   have hJ := HJ.out
   rw [hdr] at hJ
   unfold wordsN at hJ
   have HT := Lib.hid (pw1_any g pv A c l (a + j) (goAt cs (a + j)) x W (by omega) HP.out (HV.out W hbw))
   rw [goAt_goAt] at HT
   obtain ⟨B, hB⟩ : ∃ B, hit l (a + j) x = B := ⟨_, rfl⟩
   rw [hB] at HT hJ
   have i1 : (0 : Int) ≤ (j : Int) := by omega
   have i2 : (j : Int) < (N : Int) := by omega
   clear hdr hx hB HJ
   cases B with
   | true =>
    have HF : Hid (wordsN l (a + (j + 1)) (ws.drop (j + 1)) + (j + 1) = K) := by
     show _ = _
     rw [if_pos rfl] at hJ
     rw [← hJ, ← Nat.add_assoc a j 1]
     omega
    clear hJ
    go_wp2_with fail
    refine HT.out.mono ?_
    rintro en w1 ⟨rfl, hP1, hb1⟩
    have HP1 := Lib.hid hP1
    clear hP1
    go_wp2_with fail
    go_roundw
    case rel => exact ⟨j + 1, by omega, by go_num, HF, HP1, hbw.trans hb1⟩
    case measure => simp [intOf]; omega
   | false =>
    have hKj : j = K := by rw [if_neg (by decide)] at hJ; omega
    have HF : Hid ((j : Int) = R) := by show _ = _; rw [← HR.out, ← hKj, if_pos hlt]
    have HKJ := Lib.hid hKj
    clear hJ hKj
    go_wp2_with fail
    refine HT.out.mono ?_
    rintro en w1 ⟨rfl, hP1, hb1⟩
    have HP1 := Lib.hid hP1
    clear hP1
    go_wp2_with fail
    go_ret
    exact ⟨by rw [HF.out]; rfl, by rw [← HKJ.out]; exact HP1.out, hbw.trans hb1⟩
  ·obtain rfl : j = N := by omega
   have hJ := HJ.out
   rw [List.drop_of_length_le (by rw [HL.out]; omega)] at hJ
   have hKj : j = K := by unfold wordsN at hJ; omega
   have HF : Hid (R = -1) := by show _ = _; rw [← HR.out, ← hKj, if_neg (by omega)]
   have HKJ := Lib.hid hKj
   have i2 : ¬ (j : Int) < (j : Int) := by omega
   clear hJ hKj HJ hlt
   go_wp2_with fail
   go_ret
   exact ⟨by rw [HF.out]; rfl, by rw [← HKJ.out]; exact HP.out, hbw⟩
theorem pcon_any (g pv : Nat) (A : Option Addr) (c : Nat) (l : List Tok) (a : Nat) (cs : Array Value) (ws : List (List UInt8)) (A' : Option Addr) (c' : Nat) (w : World) (ha : a + ws.length ≤ 1000000) (h : PsS g A c l a cs w) (hv : w.cell? ⟨pv, 0, none⟩ = some (.pointer (some ⟨g, 0, none⟩))) (hpv : pv ≠ g) (hS : SQ ws A' (fun b => b < w.heap.size ∧ b ≠ g) w) :
  Calls Tryz.prog 52 #[.slice A' ws.length c', .func (.func 208) #[] #[.pointer (some ⟨pv, 0, none⟩)]] w (RetPs1 (!decide (wordsN l a ws = ws.length)) g A c l (a + wordsN l a ws) (goAt cs (a + wordsN l a ws)) w) := by
 have HI := Lib.hid (pidx_any g pv A c l a cs ws A' c' w ha h hv hpv hS)
 obtain ⟨K, hK⟩ : ∃ K, wordsN l a ws = K := ⟨_, rfl⟩
 have hle := wordsN_le l ws a
 obtain ⟨N, hN⟩ : ∃ N, ws.length = N := ⟨_, rfl⟩
 rw [hK] at HI hle ⊢
 rw [hN] at HI hle ⊢
 obtain ⟨R, hR⟩ : ∃ R : Int, (if K < N then ((K : Nat) : Int) else -1) = R := ⟨_, rfl⟩
 rw [hR] at HI
 have hD : (!decide (K = N)) = decide (0 ≤ R) := by
  rw [← hR]
  by_cases hk : K < N
  ·rw [if_pos hk]; simp; omega
  ·rw [if_neg hk]; simp; omega
 rw [hD]
 clear h hS hv hK hN hle hR hD
 by_cases hr : 0 ≤ R
 all_goals
  have HE : Hid (decide (0 ≤ R) = decide (R ≥ 0)) := rfl
  obtain ⟨D, hD⟩ : ∃ D, decide (0 ≤ R) = D := ⟨_, rfl⟩
  rw [hD]
  have HD := Lib.hid hD
  clear hD
  go_in
  go_wp2_with fail
  refine HI.out.mono ?_
  rintro en w1 ⟨rfl, hP, hb⟩
  go_wp2_with fail
  go_ret
  exact ⟨by rw [← HD.out]; simp [hr], hP, hb⟩
theorem pwords_any (g : Nat) (A : Option Addr) (c : Nat) (l : List Tok) (a : Nat) (cs : Array Value) (ws : List (List UInt8)) (A' : Option Addr) (c' : Nat) (w : World) (ha : a + ws.length ≤ 1000000) (h : PsS g A c l a cs w) (hS : SQ ws A' (fun b => b < w.heap.size ∧ b ≠ g) w) :
  Calls Tryz.prog 160 #[.pointer (some ⟨g, 0, none⟩), .slice A' ws.length c'] w (RetPs1 (decide (wordsN l a ws = ws.length)) g A c l (a + wordsN l a ws) (goAt cs (a + wordsN l a ws)) w) := by
 have hg : g < w.heap.size := h.blk.lt
 obtain ⟨w0, hw0⟩ : ∃ w0, w.alloc (.cells #[.pointer (some ⟨g, 0, none⟩)] 97) = w0 := ⟨_, rfl⟩
 have kv : Blk w0 w.heap.size 97 #[.pointer (some ⟨g, 0, none⟩)] := by rw [← hw0]; exact Blk.new _ _ _
 have hb0 : Below w.heap.size w w0 := by rw [← hw0]; exact bl
 have HW := Lib.hid hw0
 have HI := Lib.hid (pcon_any g w.heap.size A c l a cs ws A' c' w0 ha (h.below hb0) (kv.cell 0) (by omega) (hS.keep fun b hb => ⟨⟨Nat.lt_of_lt_of_le hb.1 hb0.size, hb.2⟩, fun o => hb0.cell (p := ⟨b, o, none⟩) hb.1⟩))
 have HB0 := Lib.hid (But.of_below (p := g) hb0)
 obtain ⟨K, hK⟩ : ∃ K, wordsN l a ws = K := ⟨_, rfl⟩
 obtain ⟨N, hN⟩ : ∃ N, ws.length = N := ⟨_, rfl⟩
 rw [hK] at HI ⊢
 rw [hN] at HI ⊢
 obtain ⟨D, hD⟩ : ∃ D, decide (K = N) = D := ⟨_, rfl⟩
 rw [hD] at HI ⊢
 obtain ⟨D', hD'⟩ : ∃ D', (!D) = D' := ⟨_, rfl⟩
 rw [hD'] at HI
 have HDD : Hid (D = !D') := by show _ = _; rw [← hD']; simp
 clear h hS kv hb0 hw0 hK hN hD hD'
 go_in
 go_upto_region 1 with fail
 rw [show w.alloc _ = w0 from HW.out]
 clear HW
 go_wp2_with fail
 refine HI.out.mono ?_
 rintro en w1 ⟨rfl, hP, hb⟩
 go_wp2_with fail
 go_ret
 exact ⟨by rw [HDD.out]; rfl, hP, HB0.out.trans hb⟩
end Go.Proofs.YtchilcchogcibaaGreatDoor
