/- value.May answers mayB, whatever value it is handed; so does the document's own May. Condition: none. -/
import Derived.Test.YtdhjogmkhbpcgaaGreatRows
import Derived.Test.YtdhjogmkhbpcgaaGreatBase
namespace Go.Proofs.YtdhjogmkhbpcgaaGreat
open Go.RowKit

def oddB (r : Int) : Bool := decide (r < 32) || decide (126 < r)
def oddByte (b : UInt8) : Bool := oddB (b.toNat : Int)
def oddFrom : List UInt8 → Nat → Int
  | [], _ => -1
  | b :: r, n => if oddByte b then (n : Int) else oddFrom r (n + 1)
theorem oddFrom_neg (l : List UInt8) : ∀ n, decide (oddFrom l n < 0) = !(l.any oddByte) := by
  induction l with
  | nil => intro n; simp [oddFrom]
  | cons b r ih =>
    intro n
    by_cases h : oddByte b = true
    · simp [oddFrom, h]
    · simp [oddFrom, h, ih]
theorem decode_good (s : ByteArray) (pos : Nat) (h : pos < s.size) (hb : oddByte s[pos] = false) : Utf8.decode s pos = (s[pos].toNat, 1) := by
  have e : s.get! pos = s[pos] := by
    show s.data[pos]! = s.data[pos]
    exact getElem!_pos s.data pos h
  simp only [oddByte, oddB, Bool.or_eq_false_iff, decide_eq_false_iff_not] at hb
  rw [Lib.decode_at, e]
  unfold Lib.decodeN
  rw [if_pos (by omega)]
theorem decode_odd (s : ByteArray) (pos : Nat) (h : pos < s.size) (hb : oddByte s[pos] = true) : oddB ((Utf8.decode s pos).1 : Int) = true := by
  have e : s.get! pos = s[pos] := by
    show s.data[pos]! = s.data[pos]
    exact getElem!_pos s.data pos h
  simp only [oddByte, oddB, Bool.or_eq_true, decide_eq_true_eq] at hb
  rw [Lib.decode_at, e]
  unfold Lib.decodeN
  have := UInt8.toNat_lt s[pos]
  simp only [oddB, Bool.or_eq_true, decide_eq_true_eq]
  repeat' split
  all_goals (simp only; try omega)
  all_goals (try simp_all; try omega)

set_option maxHeartbeats 400000 in
theorem may1_any (r : Int) (w : World) :
    Calls Tryz.prog 124 #[.int .i32 r] w fun e w' => e = .returned (.bool (oddB r)) ∧ w = w' := by
  by_cases h1 : r < 32
  · go_enter Tryz.func124, Tryz.ntmps124
    go_wp2
    go_ret
    exact ⟨by simp [oddB, h1], rfl⟩
  · by_cases h2 : 126 < r
    · go_enter Tryz.func124, Tryz.ntmps124
      go_wp2
      go_ret
      exact ⟨by simp [oddB, h2], rfl⟩
    · go_enter Tryz.func124, Tryz.ntmps124
      go_wp2
      go_ret
      exact ⟨by simp [oddB, h1, h2], rfl⟩

set_option maxHeartbeats 400000 in
theorem indexFunc_any (s : ByteArray) (w : World) :
    Calls Tryz.prog 135 #[.string s, .func (.func 124) #[] #[], .bool true] w fun e w' => e = .returned (.int .i64 (oddFrom s.data.toList 0)) ∧ Below w.heap.size w w' := by
  go_enter Tryz.func135, Tryz.ntmps135
  go_wp2
  go_loopg [] s.size (fun gf wx => ∃ pos : Nat, wx.heap[w.heap.size]? = some (.stringIter s pos) ∧ Below w.heap.size w wx ∧ Hid (oddFrom (s.data.toList.drop pos) pos = oddFrom s.data.toList 0) ∧ gf + pos = s.size)
  case atStart => exact ⟨0, World.iter_heap w s 0, (Below.refl _ w).alloc (Nat.le_refl _) _, rfl, by omega⟩
  case round =>
    obtain ⟨pos, hit, hbw, hleft, hfu⟩ := hrel
    by_cases hps : pos < s.size
    · obtain ⟨g', rfl⟩ : ∃ g', gk = g' + 1 := ⟨gk - 1, by omega⟩
      have hnx : ∀ ty, (Instr.next (.pointer (some ⟨w.heap.size, 0, none⟩)) true ty).run Tryz.prog wr = _ := fun ty => Lib.run_next_any_at wr w.heap.size s pos ty hit hps
      by_cases hb : oddByte s[pos] = true
      · have hd := decode_odd s pos hps hb
        obtain ⟨R, hR⟩ : ∃ R, (Utf8.decode s pos).1 = R := ⟨_, rfl⟩
        obtain ⟨K, hK⟩ : ∃ K, (Utf8.decode s pos).2 = K := ⟨_, rfl⟩
        rw [hR, hK] at hnx
        rw [hR] at hd
        have hbw2 := Lib.below_iterAt hbw (k := w.heap.size) (Nat.le_refl _) s (pos + K)
        have hl : oddFrom s.data.toList 0 = pos := by
          rw [← hleft.out, drop_cons s pos hps]; simp [oddFrom, hb]
        have HL := Lib.hid hl
        clear hl hleft hb hfu
        go_wp2_with (go_at_call 124; refine (may1_any _ _).mono ?_; rintro e w' ⟨rfl, rfl⟩)
        go_ret
        exact ⟨by rw [HL.out]; rfl, hbw2⟩
      · have hb' : oddByte s[pos] = false := by simpa using hb
        have hd := decode_good s pos hps hb'
        rw [hd] at hnx
        have hbw2 := Lib.below_iterAt hbw (k := w.heap.size) (Nat.le_refl _) s (pos + 1)
        have hit2 := Lib.iterAt_heap wr w.heap.size s pos (pos + 1) hit
        have hl : oddFrom (s.data.toList.drop (pos + 1)) (pos + 1) = oddFrom s.data.toList 0 := by
          rw [← hleft.out, drop_cons s pos hps]; simp [oddFrom, hb']
        have HL := Lib.hid hl
        have HF := Lib.hid hfu
        have ho : oddB (s[pos].toNat : Int) = false := hb'
        clear hl hleft hb hfu hb' hd
        go_wp2_with (go_at_call 124; refine (may1_any _ _).mono ?_; rintro e w' ⟨rfl, rfl⟩)
        go_roundg g'
        case measure => omega
        case rel => exact ⟨pos + 1, hit2, hbw2, HL, by have := HF.out; omega⟩
    · have hnx : ∀ ty, (Instr.next (.pointer (some ⟨w.heap.size, 0, none⟩)) true ty).run Tryz.prog wr = _ := fun ty => Lib.run_next_end_at wr w.heap.size s pos ty hit hps
      have hl : oddFrom s.data.toList 0 = -1 := by
          rw [← hleft.out, List.drop_of_length_le (by simp; omega)]; simp [oddFrom]
      have HL := Lib.hid hl
      clear hl hleft hfu
      go_wp2
      go_ret
      exact ⟨by rw [HL.out]; rfl, hbw⟩

theorem IndexFunc_any (s : List UInt8) (w : World) :
    Calls Tryz.prog 125 #[.string ⟨s.toArray⟩, .func (.func 124) #[] #[]] w fun e w' => e = .returned (.int .i64 (oddFrom s 0)) ∧ Below w.heap.size w w' := by
  go_enter Tryz.func125, Tryz.ntmps125
  go_wp2_with (go_at_call 135; refine (indexFunc_any _ _).mono ?_; rintro e w' ⟨rfl, hb⟩)
  go_ret
  exact ⟨rfl, hb⟩

def mayB (k i : Int) (s : List UInt8) : Bool :=
  if k = 0 then decide (i = 0) && s.isEmpty
  else if k = 1 then s.isEmpty
  else if k = 2 then decide (i = 0) && decide (s.length ≤ 40) && !(s.any oddByte)
  else if k = 3 then (decide (i = 0) || decide (i = 1)) && s.isEmpty
  else false

set_option maxHeartbeats 400000 in
theorem may_any (k i : Int) (s : List UInt8) (w : World) :
    Calls Tryz.prog 97 #[.agg #[.int .i64 k, .int .i64 i, .string ⟨s.toArray⟩]] w fun e w' => e = .returned (.bool (mayB k i s)) ∧ Below w.heap.size w w' := by
  go_enter Tryz.func97, Tryz.ntmps97
  go_wp2_with (go_at_call 125; refine (IndexFunc_any _ _).mono ?_; rintro e w' ⟨rfl, hb⟩)
  all_goals go_ret
  all_goals refine ⟨?_, ?_⟩
  all_goals first
    | exact (Below.refl _ _).alloc (Nat.le_refl _) _
    | exact ((Below.refl _ _).alloc (Nat.le_refl _) _).trans (hb.mono (by simp))
    | skip
  all_goals go_light
  all_goals (simp_all [mayB, oddFrom_neg])
  all_goals omega

end Go.Proofs.YtdhjogmkhbpcgaaGreat
