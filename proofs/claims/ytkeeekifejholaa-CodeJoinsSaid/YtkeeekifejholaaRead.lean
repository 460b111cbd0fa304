/- code.Read: octets' row. Condition: the text is no longer than a hundred million octets. -/
import Derived.Test.YtkeeekifejholaaFirstAny
import Derived.Test.YtkeeekifejholaaFew2
namespace Go.Proofs.Ytkeeekifejholaa
open Go.RowKit

attribute [local go_sem] ByteArray.extract_mk ba_get ba_append

theorem cutZero_len (r t u : List UInt8) (h : cutZero r = some (t, u)) : t.length + 1 ≤ r.length := by
  obtain ⟨rfl, _⟩ := cutZero_some r t u h
  simp

theorem firstF_ok (s : List UInt8) (h : (firstF s).2.2 = 0) : 1 ≤ (firstF s).2.1 ∧ (firstF s).2.1 ≤ s.length := by
  match s with
  | [] => simp [firstF] at h
  | c :: r =>
    simp only [firstF] at h ⊢
    by_cases h1 : c = 1
    · simp only [h1, if_true] at h ⊢
      by_cases h8 : 8 ≤ r.length
      · simp only [h8, if_true, List.length_cons] at h ⊢; omega
      · simp [h8] at h
    · simp only [h1, if_false] at h ⊢
      by_cases h2 : c = 2
      · simp only [h2, if_true] at h ⊢
        cases hz : cutZero r with
        | none => simp [hz] at h
        | some p =>
          obtain ⟨t, u⟩ := p
          have := cutZero_len r t u hz
          simp only [hz] at h ⊢
          by_cases hm : mayB 2 0 t = true
          · simp only [hm, if_true, List.length_cons] at h ⊢; omega
          · simp [hm] at h
      · simp only [h2, if_false] at h ⊢
        by_cases h3 : c = 3
        · simp only [h3, if_true] at h ⊢
          match r with
          | [] => simp at h
          | x :: r =>
            simp only at h ⊢
            by_cases hm : mayB 3 (x.toNat : Int) [] = true
            · simp only [hm, if_true, List.length_cons] at h ⊢; omega
            · simp [hm] at h
        · simp only [h3, if_false] at h ⊢
          by_cases hm : mayB (c.toNat : Int) 0 [] = true
          · simp only [hm, if_true, List.length_cons] at h ⊢; omega
          · simp [hm] at h

def readGo : Nat → List UInt8 → List V → Bool → List V × Int
  | 0, _, _, _ => ([], 0)
  | f + 1, s, l, many =>
    if s = [] then (if many then ([], 3) else (l, 0))
    else if (firstF s).2.2 ≠ 0 then ([], (firstF s).2.2)
    else if l.length = 12 then readGo f (s.drop (firstF s).2.1.toNat) l true
    else readGo f (s.drop (firstF s).2.1.toNat) (l ++ [(firstF s).1]) many
def readF (s : List UInt8) : List V × Int := readGo (s.length + 1) s [] false

/-- What Read answers. -/
def RetRead (r : List V × Int) (w : World) (e : Ending) (w' : World) : Prop :=
  ∃ A c, e = .returned (.tuple #[.slice A r.1.length c, .int .i64 r.2]) ∧ r.1.length ≤ c ∧ c ≤ maxLen ∧ VF w' w.heap.size w'.heap.size A r.1 ∧ Below w.heap.size w w'

theorem take_self (t : List UInt8) (m : Nat) : List.take (t.length - m) (List.drop m t) = List.drop m t := List.take_of_length_le (by rw [List.length_drop]; exact Nat.le_refl _)
theorem flatOne (l : List V) (v : V) : (l ++ [v]).flatMap V.cells = l.flatMap V.cells ++ v.cells := by simp

set_option maxHeartbeats 1000000 in
theorem read_any (s : List UInt8) (w : World) (hs : s.length ≤ 100000000) :
    Calls Try.prog 21 #[.string ⟨s.toArray⟩] w (RetRead (readF s) w) := by
  obtain ⟨i0, hi0, zi0, zi1, zi2⟩ := info_parts infoV
  obtain ⟨R, hR⟩ : ∃ R, readF s = R := ⟨_, rfl⟩
  rw [hR]
  have HR := Lib.hid hR
  clear hR
  go_enter Try.func21, Try.ntmps21
  go_wp2
  go_loopg [0, 4, 5] (s.length + 1) (fun gk s0 s4 s5 wr => ∃ (t : List UInt8) (l : List V) (many : Bool), s0 = .string ⟨t.toArray⟩ ∧ t.length < gk ∧ gk ≤ s.length + 1 ∧ l.length ≤ 12 ∧ s5 = .bool many ∧ wr.ownsRow w.heap.size 31 3 s4 l.length (l.flatMap V.cells) ∧ Below w.heap.size w wr ∧ Hid (readGo gk t l many = R))
  case atStart => exact ⟨s, [], false, rfl, by omega, by omega, by simp, rfl, World.ownsRow_nil _ _ _ _, Below.refl _ _, HR⟩
  case round =>
    obtain ⟨t, l, many, rfl, ht, hgk, hl, rfl, hown, hbw, hrest⟩ := hrel
    have hzw := hbw.size
    obtain ⟨g', rfl⟩ : ∃ g', gk = g' + 1 := ⟨gk - 1, by omega⟩
    by_cases he : t = []
    · have hrest' := hrest.out
      simp only [readGo, he, if_true] at hrest'
      subst he
      cases many
      · simp only [Bool.false_eq_true, if_false] at hrest'
        have HF := Lib.hid hrest'
        clear hrest' hrest
        go_wp2
        go_ret2
        obtain ⟨A', c', rfl, hc1, hc2, hv⟩ := VS.own hown
        refine ⟨A', c', ?_, ?_, hc2, ?_, hbw⟩
        · rw [← HF.out]; rfl
        · rw [← HF.out]; exact hc1
        · rw [← HF.out]; exact hv
      · simp only [if_true] at hrest'
        have HF := Lib.hid hrest'
        clear hrest' hrest
        go_wp2
        go_ret2
        refine ⟨none, 0, ?_, ?_, by unfold maxLen; omega, ?_, hbw⟩
        · rw [← HF.out]; rfl
        · rw [← HF.out]; exact Nat.le_refl _
        · rw [← HF.out]; exact fun h => absurd h (by simp)
    · have hne : (t == []) = false := by simp [he]
      have hrest' := hrest.out
      simp only [readGo, he, if_false] at hrest'
      have hok := firstF_ok t
      obtain ⟨F, hF⟩ : ∃ F, firstF t = F := ⟨_, rfl⟩
      obtain ⟨v, n, e⟩ := F
      rw [hF] at hrest' hok
      simp only at hrest' hok
      have HF := Lib.hid hF
      have HO := Lib.hid hok
      have HRE := Lib.hid hrest'
      clear hF hrest hrest' hok
      have htl : t.length ≤ 4611686018427387900 := by omega
      obtain ⟨A0, c0, rfl, hc0, hcm0, _⟩ := VS.own hown
      go_wp2_with fail
      refine (first_any t _ htl).mono ?_
      rw [HF.out]
      rintro en w1 ⟨rfl, hb1⟩
      dsimp only
      have hz1 := hb1.size
      have hown1 := own_below hown hb1
      by_cases h0 : e = 0
      · subst h0
        obtain ⟨hn1, hn2⟩ := HO.out rfl
        obtain ⟨m, rfl⟩ := Int.eq_ofNat_of_zero_le (show 0 ≤ n by omega)
        have hm1 : 1 ≤ m := by omega
        have hm2 : m ≤ t.length := by omega
        have HRE2 := HRE.out
        simp only [ne_eq, not_true_eq_false, if_false, Int.toNat_natCast] at HRE2
        clear hn1 hn2 HRE HO HF hown
        by_cases h12 : l.length = 12
        · rw [if_pos h12] at HRE2
          have HR3 := Lib.hid HRE2
          have hlen12 : ((l.length : Int) == 12) = true := by simp [h12]
          clear HRE2 h12
          go_wp2
          go_roundg g'
          case measure => omega
          case rel => exact ⟨t.drop m, l, true, by rw [take_self], by rw [List.length_drop]; omega, by omega, hl, rfl, hown1.alloc _, by ((repeat' (first | with_reducible exact Below.refl _ _ | with_reducible assumption | with_reducible refine Below.drew ?_ | with_reducible refine below_drewN ?_ _ | with_reducible refine Below.setCell ?_ ?_ _ | with_reducible refine Below.alloc ?_ ?_ _ | with_reducible refine Below.trans ?_ (Below.mono (by assumption) ?_))) <;> (first | (simp; done) | (simp; omega) | omega)), HR3⟩
        · rw [if_neg h12] at HRE2
          have HR3 := Lib.hid HRE2
          have hlen12 : ((l.length : Int) == 12) = false := by simp; omega
          have hl11 : l.length ≤ 11 := by omega
          clear HRE2 h12
          go_wp2_with (at_builtin; refine wpList_append_own _ rfl _ _ 22 rfl w.heap.size 31 i0 _ 3 32 Try.underlying22 hi0 zi0 zi1 zi2 rfl (by decide) _ _ _ rfl ((hown1.alloc _).alloc _) ⟨w1.heap.size + 1, 0, none⟩ 1 1 v.cells rfl rfl ?c1 ?c2 ?c3 ?c4 ?c5 ?_)
          case c1 =>
            have h := World.news_of_block (cs := #[.int .i64 v.k, .int .i64 v.i, .string ⟨v.s.toArray⟩]) (t := 31) (fr := (0, 0)) (heap_alloc_new (w1.alloc (.cells #[.int .i64 v.k, .int .i64 v.i, .string ⟨v.s.toArray⟩] 31)) (.cells #[.int .i64 v.k, .int .i64 v.i, .string ⟨v.s.toArray⟩] 31))
            rw [show (w1.alloc (.cells #[.int .i64 v.k, .int .i64 v.i, .string ⟨v.s.toArray⟩] 31)).heap.size = w1.heap.size + 1 by simp] at h
            exact h
          case c2 => exact fun u hu => cells_one [v] u (by simpa using hu)
          case c3 => unfold maxLen; omega
          case c4 => omega
          case c5 => simp; omega
          intro v' w2 hown2 hg2 _
          have hbx : Below w.heap.size w ((w1.alloc (.cells #[.int .i64 v.k, .int .i64 v.i, .string ⟨v.s.toArray⟩] 31)).alloc (.cells #[.int .i64 v.k, .int .i64 v.i, .string ⟨v.s.toArray⟩] 31)) := by ((repeat' (first | with_reducible exact Below.refl _ _ | with_reducible assumption | with_reducible refine Below.drew ?_ | with_reducible refine below_drewN ?_ _ | with_reducible refine Below.setCell ?_ ?_ _ | with_reducible refine Below.alloc ?_ ?_ _ | with_reducible refine Below.trans ?_ (Below.mono (by assumption) ?_))) <;> (first | (simp; done) | (simp; omega) | omega))
          have hlo := hown1.lt
          have hbx2 := hbx.grown hg2 (by simp; omega) (fun k hk => (hlo k hk).1)
          clear hown1 hlo hg2 hbx
          go_wp2
          go_roundg g'
          case measure => omega
          case rel => exact ⟨t.drop m, l ++ [v], many, by rw [take_self], by rw [List.length_drop]; omega, by omega, by simp; omega, rfl, by rw [flatOne]; simpa using hown2, hbx2, HR3⟩
      · have HRE2 := HRE.out
        rw [if_pos h0] at HRE2
        have HR3 := Lib.hid HRE2
        have hne2 : (e != 0) = true := by simpa using h0
        clear HRE2 HRE HO HF hown hown1
        go_wp2
        go_ret2
        refine ⟨none, 0, ?_, ?_, by unfold maxLen; omega, ?_, by ((repeat' (first | with_reducible exact Below.refl _ _ | with_reducible assumption | with_reducible refine Below.drew ?_ | with_reducible refine below_drewN ?_ _ | with_reducible refine Below.setCell ?_ ?_ _ | with_reducible refine Below.alloc ?_ ?_ _ | with_reducible refine Below.trans ?_ (Below.mono (by assumption) ?_))) <;> (first | (simp; done) | (simp; omega) | omega))⟩
        · rw [← HR3.out]; rfl
        · rw [← HR3.out]; exact Nat.le_refl _
        · rw [← HR3.out]; exact fun h => absurd h (by simp)

end Go.Proofs.Ytkeeekifejholaa
