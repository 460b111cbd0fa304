/- The document's letters, digits and names, as plain functions. Condition: a text that memory reaches. The document's reserved words, names and Ops of two parts, as plain functions. Condition: a text that memory reaches. The document's form, nodes and May of an expression, as plain functions. Condition: an expression that reads as one. What may be, after the document's form and number of nodes, is what may be after the program's. Nothing of the program stands here. The document's number of nodes, May and Type of an expression, as plain functions. Condition: an expression and columns that read as such. The document's Type of an expression, as a plain function. Condition: an expression whose form is right, and columns that read as such. -/
import Derived.Test.YtdhjogmkhbpcgaaGreatLexAM
import Derived.Test.YtdhjogmkhbpcgaaGreatValM
import Derived.RegionTactic
import Derived.Test.YtdhjogmkhbpcgaaGreatExAM
import Derived.Test.YtdhjogmkhbpcgaaGreatSchM
import Derived.Test.YtdhjogmkhbpcgaaGreatExpr2
import Derived.Test.YtdhjogmkhbpcgaaGreatExpr34M
import Derived.IntWalk
import Derived.Test.YtdhjogmkhbpcgaaGreatFew2M
namespace Go.Proofs.YtdhjogmkhbpcgaaGreat
open Go.RowKit

attribute [local go_sem] ByteArray.extract_mk ba_get ba_append
attribute [local go_sem ↓] Go.wp_at_zero Go.wp_at_succ

theorem rdigit_any (c : UInt8) (w : World) : Calls Tryz.prog 131 #[.int .u8 (c.toNat : Int)] w (RetB (digB c) w) := by
  by_cases h1 : 48 ≤ c.toNat
  · have p1 : (48 : Int) ≤ (c.toNat : Int) := by omega
    by_cases h2 : c.toNat ≤ 57
    · have p2 : (c.toNat : Int) ≤ 57 := by omega
      go_enter Tryz.func131, Tryz.ntmps131
      go_wp2
      go_ret
      exact ⟨by simp [digB, h1, h2], rfl⟩
    · have p2 : ¬ (c.toNat : Int) ≤ 57 := by omega
      go_enter Tryz.func131, Tryz.ntmps131
      go_wp2
      go_ret
      exact ⟨by simp [digB, h2], rfl⟩
  · have p1 : ¬ (48 : Int) ≤ (c.toNat : Int) := by omega
    go_enter Tryz.func131, Tryz.ntmps131
    go_wp2
    go_ret
    exact ⟨by simp [digB, h1], rfl⟩
theorem rletter_any (c : UInt8) (w : World) : Calls Tryz.prog 110 #[.int .u8 (c.toNat : Int)] w (RetB (letB c) w) := by
  by_cases h3 : 65 ≤ c.toNat
  · have p3 : (65 : Int) ≤ (c.toNat : Int) := by omega
    by_cases h4 : c.toNat ≤ 90
    · have p4 : (c.toNat : Int) ≤ 90 := by omega
      go_enter Tryz.func110, Tryz.ntmps110
      go_wp2
      go_ret
      exact ⟨by simp [letB, h3, h4], rfl⟩
    · have p4 : ¬ (c.toNat : Int) ≤ 90 := by omega
      by_cases h1 : 97 ≤ c.toNat
      · have p1 : (97 : Int) ≤ (c.toNat : Int) := by omega
        by_cases h2 : c.toNat ≤ 122
        · have p2 : (c.toNat : Int) ≤ 122 := by omega
          go_enter Tryz.func110, Tryz.ntmps110
          go_wp2
          go_ret
          exact ⟨by simp [letB, h1, h2], rfl⟩
        · have p2 : ¬ (c.toNat : Int) ≤ 122 := by omega
          go_enter Tryz.func110, Tryz.ntmps110
          go_wp2
          go_ret
          exact ⟨by simp [letB, h2, h4], rfl⟩
      · have p1 : ¬ (97 : Int) ≤ (c.toNat : Int) := by omega
        go_enter Tryz.func110, Tryz.ntmps110
        go_wp2
        go_ret
        exact ⟨by simp [letB, h1, h4], rfl⟩
  · have p3 : ¬ (65 : Int) ≤ (c.toNat : Int) := by omega
    have p1 : ¬ (97 : Int) ≤ (c.toNat : Int) := by omega
    have h1 : ¬ 97 ≤ c.toNat := by omega
    go_enter Tryz.func110, Tryz.ntmps110
    go_wp2
    go_ret
    exact ⟨by simp [letB, h1, h3], rfl⟩
theorem rpart_any (c : UInt8) (w : World) : Calls Tryz.prog 109 #[.int .u8 (c.toNat : Int)] w (RetB (partB c) w) := by
  obtain ⟨R, hR⟩ : ∃ R, partB c = R := ⟨_, rfl⟩
  rw [hR]
  cases hd : digB c
  · have HD := Lib.hid hd
    cases hl : letB c
    · have HL := Lib.hid hl
      have HP : Hid (R = ((c.toNat : Int) == 95)) := by
        show _ = _
        rw [← hR]
        unfold partB
        rw [hl, hd]
        by_cases h : c.toNat = 95
        · simp [h]
        · have : ¬ ((c.toNat : Int) = 95) := by omega
          simp [h, this]
      clear hl hd hR
      go_enter Tryz.func109, Tryz.ntmps109
      go_wp2_with (first | (go_at_call 131; refine (rdigit_any c _).mono ?_; rw [HD.out]; rintro e w' ⟨rfl, rfl⟩) | (go_at_call 110; refine (rletter_any c _).mono ?_; rw [HL.out]; rintro e w' ⟨rfl, rfl⟩))
      go_ret
      exact ⟨by rw [HP.out]; rfl, rfl⟩
    · have HL := Lib.hid hl
      have HP : Hid (R = true) := by show _ = _; rw [← hR]; unfold partB; rw [hl]; rfl
      clear hl hd hR
      go_enter Tryz.func109, Tryz.ntmps109
      go_wp2_with (first | (go_at_call 131; refine (rdigit_any c _).mono ?_; rw [HD.out]; rintro e w' ⟨rfl, rfl⟩) | (go_at_call 110; refine (rletter_any c _).mono ?_; rw [HL.out]; rintro e w' ⟨rfl, rfl⟩))
      go_ret
      exact ⟨by rw [HP.out]; rfl, rfl⟩
  · have HD := Lib.hid hd
    have HP : Hid (R = true) := by show _ = _; rw [← hR]; unfold partB; rw [hd]; simp
    clear hd hR
    go_enter Tryz.func109, Tryz.ntmps109
    go_wp2_with (go_at_call 131; refine (rdigit_any c _).mono ?_; rw [HD.out]; rintro e w' ⟨rfl, rfl⟩)
    go_ret
    exact ⟨by rw [HP.out]; rfl, rfl⟩

/-- A name, as the document says. -/
theorem takeWhile_len (g : UInt8 → Bool) : ∀ r : List UInt8, ((r.takeWhile g).length = r.length) ↔ r.all g = true
  | [] => by simp
  | c :: r => by
    have ih := takeWhile_len g r
    rw [List.takeWhile_cons, List.all_cons]
    cases hg : g c
    · simp
    · simp only [if_true, List.length_cons, Bool.true_and]
      rw [← ih]
      omega
def headB (f : UInt8 → Bool) : List UInt8 → Bool
  | [] => false
  | c :: _ => f c
theorem runB_name (m : Nat) (f g : UInt8 → Bool) (hfg : ∀ c, f c = true → g c = true) (s : List UInt8) : runB m f g s = (s.all g && (decide (1 ≤ s.length) && decide (s.length ≤ m) && headB f s)) := by
  unfold runB
  cases s with
  | nil => simp
  | cons c r =>
    have hl : lenRun f g (c :: r) = if f c then 1 + (r.takeWhile g).length else 0 := rfl
    rw [hl]
    cases hf : f c
    · have : headB f (c :: r) = false := hf
      rw [this]
      simp
    · have hg := hfg c hf
      have hh : headB f (c :: r) = true := hf
      have key : ((1 + (r.takeWhile g).length) == (c :: r).length) = r.all g := by
        rw [Bool.eq_iff_iff, beq_iff_eq, ← takeWhile_len, List.length_cons]
        omega
      rw [hh, List.all_cons, hg]
      simp only [if_true, key, Bool.true_and, Bool.and_true]
      cases r.all g <;> simp

theorem all_at (g : UInt8 → Bool) (s : List UInt8) (j : Nat) (hj : j < s.length) : (s.drop j).all g = (g s[j] && (s.drop (j + 1)).all g) := by
  rw [List.drop_eq_getElem_cons hj, List.all_cons]

set_option maxHeartbeats 1000000 in
theorem rname_any (s : List UInt8) (w : World) (hs : s.length ≤ 1000000) : Calls Tryz.prog 78 #[.string ⟨s.toArray⟩] w (RetB (runB 16 letB partB s) w) := by
  obtain ⟨R, hR⟩ : ∃ R, runB 16 letB partB s = R := ⟨_, rfl⟩
  rw [hR]
  rw [runB_name 16 letB partB (fun c h => by unfold partB; rw [h]; rfl)] at hR
  obtain ⟨T, hT⟩ : ∃ T, (decide (1 ≤ s.length) && decide (s.length ≤ 16) && headB letB s) = T := ⟨_, rfl⟩
  rw [hT] at hR
  have HT := Lib.hid hT
  have HR : Hid (((s.drop 0).all partB && T) = R) := hR
  clear hT hR
  go_enter Tryz.func78, Tryz.ntmps78
  go_wp2
  go_loopg [3] s.length (fun g i wr => ∃ j : Nat, j + g = s.length ∧ i = .int .i64 j ∧ Hid (((s.drop j).all partB && T) = R) ∧ wr = w)
  case atStart => exact ⟨0, by omega, rfl, HR, rfl⟩
  case round =>
    obtain ⟨j, hj, rfl, hrest, rfl⟩ := hrel
    have HJ := Lib.hid hj
    by_cases hlt : j < s.length
    · obtain ⟨c, hcg⟩ : ∃ c, s[j] = c := ⟨_, rfl⟩
      have hrest' := hrest.out
      rw [all_at _ _ _ hlt, hcg] at hrest'
      obtain ⟨g', rfl⟩ : ∃ g', gk = g' + 1 := ⟨gk - 1, by omega⟩
      clear hj hrest
      cases hq : partB c
      · have HF : Hid (R = false) := by show R = false; rw [← hrest', hq]; rfl
        have HQ := Lib.hid hq
        clear hrest' hq
        go_wp2_with (go_at_call 109; refine (rpart_any c _).mono ?_; rw [HQ.out]; rintro e w' ⟨rfl, rfl⟩)
        go_ret
        exact ⟨by rw [HF.out]; rfl, rfl⟩
      · have HF : Hid (((s.drop (j + 1)).all partB && T) = R) := by show _ = R; rw [← hrest', hq]; rfl
        have HQ := Lib.hid hq
        clear hrest' hq
        go_wp2_with (go_at_call 109; refine (rpart_any c _).mono ?_; rw [HQ.out]; rintro e w' ⟨rfl, rfl⟩)
        go_roundg g'
        case measure => omega
        case rel => exact ⟨j + 1, by have := HJ.out; omega, by go_num, HF, rfl⟩
    · have HF : Hid (R = T) := by
        show R = T
        rw [← hrest.out, List.drop_of_length_le (by omega)]
        rfl
      clear hj hrest HR
      by_cases h1 : 1 ≤ s.length
      · by_cases h16 : s.length ≤ 16
        · obtain ⟨c, hc⟩ : ∃ c, s[0] = c := ⟨_, rfl⟩
          have HTL : Hid (T = letB c) := by
            show _ = _
            rw [← HT.out, ← hc]
            cases s with
            | nil => simp at h1
            | cons a r => simp at h16; simp [h16, headB]
          have h2 : (s.length : Int) ≤ 16 := by omega
          have h3 : (1 : Int) ≤ s.length := by omega
          clear HT
          go_wp2_with (go_at_call 110; refine (rletter_any c _).mono ?_; rintro e w' ⟨rfl, rfl⟩)
          go_ret
          exact ⟨by rw [HF.out, HTL.out]; rfl, rfl⟩
        · have HTL : Hid (T = false) := by show _ = _; rw [← HT.out]; simp [h16]
          have h2 : ¬ (s.length : Int) ≤ 16 := by omega
          have h3 : (1 : Int) ≤ s.length := by omega
          clear HT
          go_wp2_with fail
          go_ret
          exact ⟨by rw [HF.out, HTL.out]; rfl, rfl⟩
      · have HTL : Hid (T = false) := by show _ = _; rw [← HT.out]; simp [show ¬ 1 ≤ s.length by omega]
        have h3 : ¬ (1 : Int) ≤ s.length := by omega
        clear HT
        go_wp2_with fail
        go_ret
        exact ⟨by rw [HF.out, HTL.out]; rfl, rfl⟩

end Go.Proofs.YtdhjogmkhbpcgaaGreat

namespace Go.Proofs.YtdhjogmkhbpcgaaGreat
open Go.RowKit

attribute [local go_sem] ByteArray.extract_mk ba_get ba_append
attribute [local go_sem ↓] Go.wp_at_zero Go.wp_at_succ

def wordsR : List (List UInt8) := [[65, 78, 68], [79, 82], [78, 79, 84], [73, 83], [78, 85, 76, 76], [84, 82, 85, 69], [70, 65, 76, 83, 69], [67, 82, 69, 65, 84, 69], [84, 65, 66, 76, 69], [75, 69, 89], [85, 78, 73, 81, 85, 69], [82, 69, 70, 69, 82, 69, 78, 67, 69, 83], [67, 72, 69, 67, 75], [68, 82, 79, 80], [73, 78, 83, 69, 82, 84], [73, 78, 84, 79], [86, 65, 76, 85, 69, 83], [85, 80, 68, 65, 84, 69], [83, 69, 84], [87, 72, 69, 82, 69], [68, 69, 76, 69, 84, 69], [70, 82, 79, 77], [83, 69, 76, 69, 67, 84], [71, 82, 65, 78, 84], [82, 69, 86, 79, 75, 69], [82, 69, 65, 68], [87, 82, 73, 84, 69], [79, 78], [84, 79], [77, 73, 71, 82, 65, 84, 69], [67, 79, 80, 89], [74, 79, 73, 78], [71, 82, 79, 85, 80], [66, 89], [83, 85, 77], [73, 78, 84], [84, 69, 88, 84], [66, 79, 79, 76]]
theorem wordsR_mem (s : List UInt8) : s ∈ wordsR ↔ s ∈ words := by
  have h : List.isPerm wordsR words = true := by decide +kernel
  exact (List.isPerm_iff.1 h).mem_iff
theorem reserved_R (s : List UInt8) : reserved s = wordsR.contains s := by
  unfold reserved
  rw [Bool.eq_iff_iff]
  simp only [List.contains_iff_mem]
  exact (wordsR_mem s).symm
theorem words_cell {w : World} {g : Nat} {ty : TypeId} (h : Blk w g ty #[.string ⟨#[65, 78, 68]⟩, .string ⟨#[79, 82]⟩, .string ⟨#[78, 79, 84]⟩, .string ⟨#[73, 83]⟩, .string ⟨#[78, 85, 76, 76]⟩, .string ⟨#[84, 82, 85, 69]⟩, .string ⟨#[70, 65, 76, 83, 69]⟩, .string ⟨#[67, 82, 69, 65, 84, 69]⟩, .string ⟨#[84, 65, 66, 76, 69]⟩, .string ⟨#[75, 69, 89]⟩, .string ⟨#[85, 78, 73, 81, 85, 69]⟩, .string ⟨#[82, 69, 70, 69, 82, 69, 78, 67, 69, 83]⟩, .string ⟨#[67, 72, 69, 67, 75]⟩, .string ⟨#[68, 82, 79, 80]⟩, .string ⟨#[73, 78, 83, 69, 82, 84]⟩, .string ⟨#[73, 78, 84, 79]⟩, .string ⟨#[86, 65, 76, 85, 69, 83]⟩, .string ⟨#[85, 80, 68, 65, 84, 69]⟩, .string ⟨#[83, 69, 84]⟩, .string ⟨#[87, 72, 69, 82, 69]⟩, .string ⟨#[68, 69, 76, 69, 84, 69]⟩, .string ⟨#[70, 82, 79, 77]⟩, .string ⟨#[83, 69, 76, 69, 67, 84]⟩, .string ⟨#[71, 82, 65, 78, 84]⟩, .string ⟨#[82, 69, 86, 79, 75, 69]⟩, .string ⟨#[82, 69, 65, 68]⟩, .string ⟨#[87, 82, 73, 84, 69]⟩, .string ⟨#[79, 78]⟩, .string ⟨#[84, 79]⟩, .string ⟨#[77, 73, 71, 82, 65, 84, 69]⟩, .string ⟨#[67, 79, 80, 89]⟩, .string ⟨#[74, 79, 73, 78]⟩, .string ⟨#[71, 82, 79, 85, 80]⟩, .string ⟨#[66, 89]⟩, .string ⟨#[83, 85, 77]⟩, .string ⟨#[73, 78, 84]⟩, .string ⟨#[84, 69, 88, 84]⟩, .string ⟨#[66, 79, 79, 76]⟩]) {i : Nat} {x : List UInt8} (hx : wordsR[i]? = some x) : w.cell? ⟨g, i, none⟩ = some (.string ⟨x.toArray⟩) := by
  have h' : Blk w g ty (wordsR.map fun s => Value.string ⟨s.toArray⟩).toArray := h
  rw [h'.cell, List.getElem?_toArray, List.getElem?_map, hx]
  rfl
theorem dropW (l : List (List UInt8)) (j : Nat) (v : List UInt8) (h : l[j]? = some v) : l.drop j = v :: l.drop (j + 1) := by
  obtain ⟨hj, rfl⟩ := List.getElem?_eq_some_iff.1 h
  exact List.drop_eq_getElem_cons hj
set_option maxRecDepth 100000 in
set_option maxHeartbeats 1000000 in
theorem rreserved_any (s : List UInt8) (w : World) : Calls Tryz.prog 79 #[.string ⟨s.toArray⟩] w (Ret (.bool (reserved s)) w) := by
  obtain ⟨R, hR⟩ : ∃ R, reserved s = R := ⟨_, rfl⟩
  rw [hR]
  rw [reserved_R] at hR
  have HR : Hid ((wordsR.drop 0).contains s = R) := hR
  obtain ⟨w0, hw0⟩ : ∃ w0, w.alloc (.cells #[.string ⟨#[65, 78, 68]⟩, .string ⟨#[79, 82]⟩, .string ⟨#[78, 79, 84]⟩, .string ⟨#[73, 83]⟩, .string ⟨#[78, 85, 76, 76]⟩, .string ⟨#[84, 82, 85, 69]⟩, .string ⟨#[70, 65, 76, 83, 69]⟩, .string ⟨#[67, 82, 69, 65, 84, 69]⟩, .string ⟨#[84, 65, 66, 76, 69]⟩, .string ⟨#[75, 69, 89]⟩, .string ⟨#[85, 78, 73, 81, 85, 69]⟩, .string ⟨#[82, 69, 70, 69, 82, 69, 78, 67, 69, 83]⟩, .string ⟨#[67, 72, 69, 67, 75]⟩, .string ⟨#[68, 82, 79, 80]⟩, .string ⟨#[73, 78, 83, 69, 82, 84]⟩, .string ⟨#[73, 78, 84, 79]⟩, .string ⟨#[86, 65, 76, 85, 69, 83]⟩, .string ⟨#[85, 80, 68, 65, 84, 69]⟩, .string ⟨#[83, 69, 84]⟩, .string ⟨#[87, 72, 69, 82, 69]⟩, .string ⟨#[68, 69, 76, 69, 84, 69]⟩, .string ⟨#[70, 82, 79, 77]⟩, .string ⟨#[83, 69, 76, 69, 67, 84]⟩, .string ⟨#[71, 82, 65, 78, 84]⟩, .string ⟨#[82, 69, 86, 79, 75, 69]⟩, .string ⟨#[82, 69, 65, 68]⟩, .string ⟨#[87, 82, 73, 84, 69]⟩, .string ⟨#[79, 78]⟩, .string ⟨#[84, 79]⟩, .string ⟨#[77, 73, 71, 82, 65, 84, 69]⟩, .string ⟨#[67, 79, 80, 89]⟩, .string ⟨#[74, 79, 73, 78]⟩, .string ⟨#[71, 82, 79, 85, 80]⟩, .string ⟨#[66, 89]⟩, .string ⟨#[83, 85, 77]⟩, .string ⟨#[73, 78, 84]⟩, .string ⟨#[84, 69, 88, 84]⟩, .string ⟨#[66, 79, 79, 76]⟩] 9) = w0 := ⟨_, rfl⟩
  have k0 : Blk w0 w.heap.size 9 #[.string ⟨#[65, 78, 68]⟩, .string ⟨#[79, 82]⟩, .string ⟨#[78, 79, 84]⟩, .string ⟨#[73, 83]⟩, .string ⟨#[78, 85, 76, 76]⟩, .string ⟨#[84, 82, 85, 69]⟩, .string ⟨#[70, 65, 76, 83, 69]⟩, .string ⟨#[67, 82, 69, 65, 84, 69]⟩, .string ⟨#[84, 65, 66, 76, 69]⟩, .string ⟨#[75, 69, 89]⟩, .string ⟨#[85, 78, 73, 81, 85, 69]⟩, .string ⟨#[82, 69, 70, 69, 82, 69, 78, 67, 69, 83]⟩, .string ⟨#[67, 72, 69, 67, 75]⟩, .string ⟨#[68, 82, 79, 80]⟩, .string ⟨#[73, 78, 83, 69, 82, 84]⟩, .string ⟨#[73, 78, 84, 79]⟩, .string ⟨#[86, 65, 76, 85, 69, 83]⟩, .string ⟨#[85, 80, 68, 65, 84, 69]⟩, .string ⟨#[83, 69, 84]⟩, .string ⟨#[87, 72, 69, 82, 69]⟩, .string ⟨#[68, 69, 76, 69, 84, 69]⟩, .string ⟨#[70, 82, 79, 77]⟩, .string ⟨#[83, 69, 76, 69, 67, 84]⟩, .string ⟨#[71, 82, 65, 78, 84]⟩, .string ⟨#[82, 69, 86, 79, 75, 69]⟩, .string ⟨#[82, 69, 65, 68]⟩, .string ⟨#[87, 82, 73, 84, 69]⟩, .string ⟨#[79, 78]⟩, .string ⟨#[84, 79]⟩, .string ⟨#[77, 73, 71, 82, 65, 84, 69]⟩, .string ⟨#[67, 79, 80, 89]⟩, .string ⟨#[74, 79, 73, 78]⟩, .string ⟨#[71, 82, 79, 85, 80]⟩, .string ⟨#[66, 89]⟩, .string ⟨#[83, 85, 77]⟩, .string ⟨#[73, 78, 84]⟩, .string ⟨#[84, 69, 88, 84]⟩, .string ⟨#[66, 79, 79, 76]⟩] := by rw [← hw0]; exact Blk.new _ _ _
  have hb0 : Below w.heap.size w w0 := by rw [← hw0]; exact bl
  have HC : Hid (∀ (Y : World), Below w0.heap.size w0 Y → ∀ (i : Nat) (x : List UInt8), wordsR[i]? = some x → Y.cell? ⟨w.heap.size, i, none⟩ = some (.string ⟨x.toArray⟩)) := fun Y h i x hx => words_cell (k0.below h k0.lt) hx
  have HW := Lib.hid hw0
  have hlen : wordsR.length = 38 := rfl
  have HL := Lib.hid hlen
  clear hR hw0 k0 hlen
  go_enter Tryz.func79, Tryz.ntmps79
  go_upto_region 2 with fail
  rw [HW.out]
  clear HW
  go_wp2_with fail
  go_loopw [4] (fun i wr => ∃ j : Nat, j ≤ 38 ∧ i = .int .i64 j ∧ Hid ((wordsR.drop j).contains s = R) ∧ Below w0.heap.size w0 wr) (fun i _ => 38 - (intOf i).toNat)
  case atStart => exact ⟨0, by omega, rfl, HR, Below.refl _ _⟩
  case round =>
    obtain ⟨j, hj, rfl, HJ, hbr⟩ := hrel
    by_cases hlt : j < 38
    · obtain ⟨x, hx⟩ : ∃ x, wordsR[j]? = some x := ⟨_, List.getElem?_eq_getElem (by rw [HL.out]; exact hlt)⟩
      have c0 := HC.out wr hbr j x hx
      have hJ := HJ.out
      rw [dropW _ _ _ hx, List.contains_cons] at hJ
      obtain ⟨B, hB⟩ : ∃ B, (s == x) = B := ⟨_, rfl⟩
      rw [hB] at hJ
      have e1 : (x == s) = B := by rw [← hB, Bool.eq_iff_iff]; simp only [beq_iff_eq]; exact eq_comm
      have HJ2 := Lib.hid hJ
      have i1 : (0 : Int) ≤ (j : Int) := by omega
      have i2 : (j : Int) < 38 := by omega
      clear hx HJ hJ hB
      cases B
      · have HN : Hid ((wordsR.drop (j + 1)).contains s = R) := by show _ = _; rw [← HJ2.out, Bool.false_or]
        go_wp2_with fail
        go_roundw
        case rel => exact ⟨j + 1, by omega, by go_num, HN, by exact bl⟩
        case measure => simp [intOf]; omega
      · have HF : Hid (R = true) := by show _ = _; rw [← HJ2.out, Bool.true_or]
        go_wp2_with fail
        go_ret
        exact ⟨by rw [HF.out]; rfl, hb0.trans ((show Below w0.heap.size w0 _ by exact bl).mono hb0.size)⟩
    · obtain rfl : j = 38 := by omega
      have HF : Hid (R = false) := by show _ = _; rw [← HJ.out]; rfl
      have b0 : ¬ ((38 : Int) < 38) := by omega
      clear HJ
      go_wp2_with fail
      go_ret
      exact ⟨by rw [HF.out]; rfl, hb0.trans ((show Below w0.heap.size w0 _ by exact bl).mono hb0.size)⟩

theorem rname5_any (s : List UInt8) (w : World) (hs : s.length ≤ 1000000) : Calls Tryz.prog 41 #[.string ⟨s.toArray⟩] w (Ret (.bool (nameR s)) w) := by
  have HN := Lib.hid (rname_any s w hs)
  have HRV := Lib.hid (rreserved_any s)
  obtain ⟨R, hR⟩ : ∃ R, nameR s = R := ⟨_, rfl⟩
  rw [hR]
  unfold nameR nameB at hR
  obtain ⟨b, hb⟩ : ∃ b, runB 16 letB partB s = b := ⟨_, rfl⟩
  obtain ⟨r, hr⟩ : ∃ r, reserved s = r := ⟨_, rfl⟩
  rw [hb, hr] at hR
  rw [hb] at HN
  rw [hr] at HRV
  have HF := Lib.hid hR
  clear hb hr hR
  go_enter Tryz.func41, Tryz.ntmps41
  cases b
  · go_wp2_with fail
    refine HN.out.mono ?_
    rintro en w1 ⟨rfl, rfl⟩
    go_wp2_with fail
    go_ret
    exact ⟨by rw [← HF.out]; rfl, Below.refl _ _⟩
  · go_wp2_with fail
    refine HN.out.mono ?_
    rintro en w1 ⟨rfl, rfl⟩
    go_wp2_with fail
    refine (HRV.out _).mono ?_
    rintro en w1 ⟨rfl, hb1⟩
    go_wp2_with fail
    go_ret
    exact ⟨by rw [← HF.out]; cases r <;> rfl, hb1⟩

def twoB (op : List UInt8) : Bool := decide (op = opAnd ∨ op = opOr ∨ op = opEq ∨ op = opLt ∨ op = opPlus ∨ op = opMinus)
set_option maxHeartbeats 1000000 in
theorem two_any (op : List UInt8) (w : World) : Calls Tryz.prog 130 #[.string ⟨op.toArray⟩] w (Ret (.bool (twoB op)) w) := by
  have key : twoB op = (op == opAnd || (op == opOr || (op == opEq || (op == opLt || (op == opPlus || op == opMinus))))) := by
    unfold twoB
    rw [Bool.eq_iff_iff]
    simp
  obtain ⟨R, hR⟩ : ∃ R, twoB op = R := ⟨_, rfl⟩
  rw [hR]
  rw [hR] at key
  obtain ⟨b1, h1⟩ : ∃ b, (op == opAnd) = b := ⟨_, rfl⟩
  obtain ⟨b2, h2⟩ : ∃ b, (op == opOr) = b := ⟨_, rfl⟩
  obtain ⟨b3, h3⟩ : ∃ b, (op == opEq) = b := ⟨_, rfl⟩
  obtain ⟨b4, h4⟩ : ∃ b, (op == opLt) = b := ⟨_, rfl⟩
  obtain ⟨b5, h5⟩ : ∃ b, (op == opPlus) = b := ⟨_, rfl⟩
  obtain ⟨b6, h6⟩ : ∃ b, (op == opMinus) = b := ⟨_, rfl⟩
  rw [h1, h2, h3, h4, h5, h6] at key
  have e1 : (op == [97, 110, 100]) = b1 := h1
  have e2 : (op == [111, 114]) = b2 := h2
  have e3 : (op == [61]) = b3 := h3
  have e4 : (op == [60]) = b4 := h4
  have e5 : (op == [43]) = b5 := h5
  have e6 : (op == [45]) = b6 := h6
  have HK := Lib.hid key
  clear key h1 h2 h3 h4 h5 h6 hR
  cases b1
  · cases b2
    · cases b3
      · cases b4
        · cases b5
          · cases b6
            · go_enter Tryz.func130, Tryz.ntmps130
              go_wp2_with fail
              go_ret
              exact ⟨by rw [HK.out]; rfl, Below.refl _ _⟩
            · go_enter Tryz.func130, Tryz.ntmps130
              go_wp2_with fail
              go_ret
              exact ⟨by rw [HK.out]; rfl, Below.refl _ _⟩
          · go_enter Tryz.func130, Tryz.ntmps130
            go_wp2_with fail
            go_ret
            exact ⟨by rw [HK.out]; rfl, Below.refl _ _⟩
        · go_enter Tryz.func130, Tryz.ntmps130
          go_wp2_with fail
          go_ret
          exact ⟨by rw [HK.out]; rfl, Below.refl _ _⟩
      · go_enter Tryz.func130, Tryz.ntmps130
        go_wp2_with fail
        go_ret
        exact ⟨by rw [HK.out]; rfl, Below.refl _ _⟩
    · go_enter Tryz.func130, Tryz.ntmps130
      go_wp2_with fail
      go_ret
      exact ⟨by rw [HK.out]; rfl, Below.refl _ _⟩
  · go_enter Tryz.func130, Tryz.ntmps130
    go_wp2_with fail
    go_ret
    exact ⟨by rw [HK.out]; rfl, Below.refl _ _⟩

end Go.Proofs.YtdhjogmkhbpcgaaGreat

namespace Go.Proofs.YtdhjogmkhbpcgaaGreat
open Go.RowKit

attribute [local go_sem] ByteArray.extract_mk ba_get ba_append
attribute [local go_sem ↓] Go.wp_at_zero Go.wp_at_succ run_eql_V run_neq_V

def ex0 : Ex := .mk [] V.zero [] []
/-- Is each node as it must be, down to so deep? -/
def formE : Nat → Ex → Bool
  | 0, _ => false
  | d + 1, e =>
    if e.op = opLit then mayB e.v.k e.v.i e.v.s && ((e.s == []) && decide (e.l.length = 0))
    else if e.op = opCol then veq e.v V.zero && (nameB e.s && (!reserved e.s && decide (e.l.length = 0)))
    else if e.op = opNot ∨ e.op = opNull then veq e.v V.zero && ((e.s == []) && (decide (e.l.length = 1) && formE d (e.l.getD 0 ex0)))
    else if twoB e.op = true then veq e.v V.zero && ((e.s == []) && (decide (e.l.length = 2) && (formE d (e.l.getD 0 ex0) && formE d (e.l.getD 1 ex0))))
    else false
theorem six0 {K n : Nat} {w : World} {B : Nat} {A : Option Addr} {l : List Ex} (h : ExS K n w B A l) {j : Nat} (hj : j < l.length) :
    ∃ m b off e A' c', n = m + 1 ∧ A = some ⟨b, off, none⟩ ∧ b < B ∧ l[j]? = some e ∧ l.getD j ex0 = e ∧ e.fit K ∧ e.l.length ≤ c' ∧ c' ≤ maxLen ∧ Six w b (off + j * 6) e A' c' ∧ ExS K m w B A' e.l := by
  cases n with
  | zero => rw [show l = [] from h] at hj; simp at hj
  | succ m =>
    obtain ⟨b, off, e, A', c', h1, h2, h3, h4, h5, h6, h7, h8⟩ := h.at_ hj
    exact ⟨m, b, off, e, A', c', rfl, h1, h2, h3, by rw [List.getD_eq_getElem?_getD, h3]; rfl, h4, h5, h6, h7, h8⟩

set_option maxRecDepth 100000 in
set_option maxHeartbeats 4000000 in
theorem form_any : ∀ (d : Nat) (e : Ex) (A : Option Addr) (c n : Nat) (w : World), d ≤ 1000 → e.fit 1000 → ExS 1000 n w w.heap.size A e.l →
    Calls Tryz.prog 106 #[.agg (e.cells A c).toArray, .int .i64 d] w (Ret (.bool (formE d e)) w) := by
  intro d
  induction d with
  | zero =>
    intro e A c n w _ _ _
    go_enter Tryz.func106, Tryz.ntmps106
    go_wp2_with fail
    go_ret
    exact ⟨rfl, by exact bl⟩
  | succ d ih =>
    intro e A c n w hd hf hE
    obtain ⟨w0, hw0⟩ : ∃ w0, w.alloc (.cells (e.cells A c).toArray 29) = w0 := ⟨_, rfl⟩
    have kq0 : Blk w0 w.heap.size 29 (e.cells A c).toArray := by rw [← hw0]; exact Blk.new _ _ _
    have hb0 : Below w.heap.size w w0 := by rw [← hw0]; exact bl
    have HSH : Hid (∀ w' : World, Below w0.heap.size w0 w' → (w'.cell? ⟨w.heap.size, 0, none⟩ = some (.string ⟨e.op.toArray⟩) ∧ w'.cell? ⟨w.heap.size, 1, none⟩ = some (.int .i64 e.v.k) ∧ w'.cell? ⟨w.heap.size, 2, none⟩ = some (.int .i64 e.v.i) ∧ w'.cell? ⟨w.heap.size, 3, none⟩ = some (.string ⟨e.v.s.toArray⟩) ∧ w'.cell? ⟨w.heap.size, 4, none⟩ = some (.string ⟨e.s.toArray⟩) ∧ w'.cell? ⟨w.heap.size, 5, none⟩ = some (.slice A e.l.length c))) := fun w' h => (kq0.below h kq0.lt).six
    have HE : Hid (∀ Y : World, Below w0.heap.size w0 Y → ExS 1000 n Y Y.heap.size A e.l) := fun Y h => ((hE.below n (hb0.trans (h.mono hb0.size)))).more (Nat.le_trans hb0.size h.size) n
    have HW := Lib.hid hw0
    obtain ⟨D, hD⟩ : ∃ D, d + 1 = D := ⟨_, rfl⟩
    have hD0 : ((D : Int) == 0) = false := by rw [beq_eq_false_iff_ne]; omega
    have hD1 : IntKind.i64.wrap ((D : Int) - 1) = (d : Int) := by rw [IntWalk.i64_in _ (by omega)]; omega
    obtain ⟨R, hR⟩ : ∃ R, formE (d + 1) e = R := ⟨_, rfl⟩
    rw [hR]
    unfold formE at hR
    rw [hD]
    obtain ⟨Z, hZ⟩ : ∃ Z, veq e.v V.zero = Z := ⟨_, rfl⟩
    have hzv : veq ⟨e.v.k, e.v.i, e.v.s⟩ ⟨0, 0, []⟩ = Z := hZ
    rw [hZ] at hR
    obtain ⟨Sb, hS⟩ : ∃ b, (e.s == []) = b := ⟨_, rfl⟩
    have hS2 : e.s.isEmpty = Sb := by rw [← hS]; cases e.s <;> rfl
    rw [hS] at hR
    have HIH : Hid (∀ (x : Ex) (A' : Option Addr) (c' m : Nat) (Y : World), x.fit 1000 → ExS 1000 m Y Y.heap.size A' x.l → Calls Tryz.prog 106 #[.agg #[.string ⟨x.op.toArray⟩, .int .i64 x.v.k, .int .i64 x.v.i, .string ⟨x.v.s.toArray⟩, .string ⟨x.s.toArray⟩, .slice A' x.l.length c'], .int .i64 d] Y (Ret (.bool (formE d x)) Y)) := fun x A' c' m Y h1 h2 => ih x A' c' m Y (by omega) h1 h2
    have hvs : e.v.s.length ≤ 1000 := hf.2.2.2
    have hsl : e.s.length ≤ 1000 := hf.2.2.1
    have hbwx : ∀ Y : World, Below w0.heap.size w0 Y → Below w.heap.size w Y := fun Y h => hb0.trans (h.mono hb0.size)
    have HBW := Lib.hid hbwx
    clear ih hw0 hE hf hZ hD hd kq0 hb0 hbwx
    obtain ⟨q0, q1, q2, q3, q4, q5⟩ := HSH.out w0 (Below.refl _ _)
    go_enter Tryz.func106, Tryz.ntmps106
    go_upto_region 1 with fail
    rw [show w.alloc _ = w0 from HW.out]
    clear HW
    by_cases hLit : e.op = opLit
    · rw [if_pos hLit] at hR
      have o1 : (e.op == [108, 105, 116]) = true := by rw [hLit]; rfl
      have HM := Lib.hid (rmay_any e.v.k e.v.i e.v.s w0 (by omega))
      obtain ⟨B, hB⟩ : ∃ B, mayB e.v.k e.v.i e.v.s = B := ⟨_, rfl⟩
      rw [hB] at HM hR
      obtain ⟨Lb, hL⟩ : ∃ b, decide (e.l.length = 0) = b := ⟨_, rfl⟩
      have hL2 : ((e.l.length : Int) == 0) = Lb := by rw [← hL, Bool.eq_iff_iff]; simp
      rw [hL] at hR
      have HK := Lib.hid hR
      clear hB hR hLit hL
      go_wp2_with fail
      refine HM.out.mono ?_
      rintro en w1 ⟨rfl, hb1⟩
      clear q0 q1 q2 q3 q4 q5 HM
      obtain ⟨q0, q1, q2, q3, q4, q5⟩ := HSH.out w1 hb1
      have hbw := HBW.out w1 hb1
      cases B
      · go_wp2_with fail
        go_ret
        exact ⟨by rw [← HK.out]; rfl, hbw⟩
      · cases Sb
        · go_wp2_with fail
          go_ret
          exact ⟨by rw [← HK.out]; rfl, hbw⟩
        · go_wp2_with fail
          go_ret
          exact ⟨by rw [← HK.out]; cases Lb <;> rfl, hbw⟩
    rw [if_neg hLit] at hR
    have o1 : (e.op == [108, 105, 116]) = false := by rw [beq_eq_false_iff_ne]; exact hLit
    clear hLit
    by_cases hCol : e.op = opCol
    · rw [if_pos hCol] at hR
      have o2 : (e.op == [99, 111, 108]) = true := by rw [hCol]; rfl
      obtain ⟨Lb, hL⟩ : ∃ b, decide (e.l.length = 0) = b := ⟨_, rfl⟩
      have hL2 : ((e.l.length : Int) == 0) = Lb := by rw [← hL, Bool.eq_iff_iff]; simp
      rw [hL] at hR
      have HN : Hid (∀ Y, Calls Tryz.prog 78 #[.string ⟨e.s.toArray⟩] Y (RetB (nameB e.s) Y)) := fun Y => rname_any e.s Y (by omega)
      have HRV := Lib.hid (rreserved_any e.s)
      obtain ⟨nb, hn⟩ : ∃ b, nameB e.s = b := ⟨_, rfl⟩
      obtain ⟨rb, hr⟩ : ∃ b, reserved e.s = b := ⟨_, rfl⟩
      rw [hn, hr] at hR
      rw [hn] at HN
      rw [hr] at HRV
      have HK := Lib.hid hR
      clear hR hCol hL hn hr
      cases Z
      · go_wp2_with fail
        go_ret
        exact ⟨by rw [← HK.out]; rfl, HBW.out _ (by exact bl)⟩
      · go_wp2_with fail
        refine (HN.out _).mono ?_
        rintro en w1 ⟨rfl, rfl⟩
        cases nb
        · go_wp2_with fail
          go_ret
          exact ⟨by rw [← HK.out]; rfl, HBW.out _ (by exact bl)⟩
        · go_wp2_with fail
          refine (HRV.out _).mono ?_
          rintro en w2 ⟨rfl, hb2⟩
          clear q0 q1 q2 q3 q4 q5
          have hb02 : Below w0.heap.size w0 w2 := by exact bl
          obtain ⟨q0, q1, q2, q3, q4, q5⟩ := HSH.out w2 hb02
          have hbw := HBW.out w2 hb02
          cases rb
          · go_wp2_with fail
            go_ret
            exact ⟨by rw [← HK.out]; cases Lb <;> rfl, hbw⟩
          · go_wp2_with fail
            go_ret
            exact ⟨by rw [← HK.out]; rfl, hbw⟩
    rw [if_neg hCol] at hR
    have o2 : (e.op == [99, 111, 108]) = false := by rw [beq_eq_false_iff_ne]; exact hCol
    clear hCol
    by_cases hOne : e.op = opNot ∨ e.op = opNull
    · rw [if_pos hOne] at hR
      obtain ⟨Lb, hL⟩ : ∃ b, decide (e.l.length = 1) = b := ⟨_, rfl⟩
      have hL2 : ((e.l.length : Int) == 1) = Lb := by rw [← hL, Bool.eq_iff_iff]; simp; omega
      have hL3 : Lb = true → 0 < e.l.length := fun h => by rw [h] at hL; simp at hL; omega
      rw [hL] at hR
      have HK := Lib.hid hR
      have HL3 := Lib.hid hL3
      clear hR hL hL3
      have ho : (e.op == [110, 111, 116]) = true ∨ ((e.op == [110, 111, 116]) = false ∧ (e.op == [110, 117, 108, 108]) = true) := by
        rcases hOne with h | h
        · exact Or.inl (by rw [h]; rfl)
        · exact Or.inr ⟨by rw [h]; rfl, by rw [h]; rfl⟩
      clear hOne
      cases Z
      · rcases ho with o3 | ⟨o3, o4⟩
        all_goals
          go_wp2_with fail
          go_ret
          exact ⟨by rw [← HK.out]; rfl, HBW.out _ (by exact bl)⟩
      · cases Sb
        · rcases ho with o3 | ⟨o3, o4⟩
          all_goals
            go_wp2_with fail
            go_ret
            exact ⟨by rw [← HK.out]; rfl, HBW.out _ (by exact bl)⟩
        · cases Lb
          · rcases ho with o3 | ⟨o3, o4⟩
            all_goals
              go_wp2_with fail
              go_ret
              exact ⟨by rw [← HK.out]; rfl, HBW.out _ (by exact bl)⟩
          · have hl := HL3.out rfl
            obtain ⟨m, b1, o1', x, A', c', rfl, rfl, hbB, _, hgd, hfx, hxc, hxm, ⟨c0, c1, c2, c3, c4, c5⟩, hx⟩ := six0 (HE.out w0 (Below.refl _ _)) hl
            have i2 : (0 : Int) < (e.l.length : Int) := by omega
            have hk := HK.out
            rw [hgd] at hk
            have HK2 := Lib.hid hk
            have HX : Hid (∀ Y : World, Below w0.heap.size w0 Y → ExS 1000 m Y Y.heap.size A' x.l) := fun Y h => (hx.below m h).more h.size m
            have HFX := Lib.hid hfx
            simp only [Nat.zero_mul, Nat.add_zero] at c0 c1 c2 c3 c4 c5
            clear hk HK hgd hfx hx hxm hxc
            rcases ho with o3 | ⟨o3, o4⟩
            all_goals
              go_wp2_with fail
              refine (HIH.out x A' c' m _ HFX.out (HX.out _ (by exact bl))).mono ?_
              rintro en w2 ⟨rfl, hb2⟩
              go_wp2_with fail
              go_ret
              exact ⟨by rw [← HK2.out]; cases formE d x <;> rfl, HBW.out w2 (by exact bl)⟩
    rw [if_neg hOne] at hR
    have o3 : (e.op == [110, 111, 116]) = false := by rw [beq_eq_false_iff_ne]; exact fun h => hOne (Or.inl h)
    have o4 : (e.op == [110, 117, 108, 108]) = false := by rw [beq_eq_false_iff_ne]; exact fun h => hOne (Or.inr h)
    have HTW := Lib.hid (two_any e.op)
    obtain ⟨tb, ht⟩ : ∃ b, twoB e.op = b := ⟨_, rfl⟩
    rw [ht] at HTW hR
    obtain ⟨Lb, hL⟩ : ∃ b, decide (e.l.length = 2) = b := ⟨_, rfl⟩
    have hL2 : ((e.l.length : Int) == 2) = Lb := by rw [← hL, Bool.eq_iff_iff]; simp; omega
    have hL3 : Lb = true → 0 < e.l.length ∧ 1 < e.l.length := fun h => by rw [h] at hL; simp at hL; omega
    rw [hL] at hR
    have HK := Lib.hid hR
    have HL3 := Lib.hid hL3
    clear hR hL hL3 ht hOne
    go_wp2_with fail
    refine (HTW.out _).mono ?_
    rintro en w1 ⟨rfl, hb1⟩
    clear q0 q1 q2 q3 q4 q5
    have hb01 : Below w0.heap.size w0 w1 := by exact bl
    obtain ⟨q0, q1, q2, q3, q4, q5⟩ := HSH.out w1 hb01
    cases tb
    · go_wp2_with fail
      go_ret
      exact ⟨by rw [← HK.out]; rfl, HBW.out _ (by exact bl)⟩
    · cases Z
      · go_wp2_with fail
        go_ret
        exact ⟨by rw [← HK.out]; rfl, HBW.out _ (by exact bl)⟩
      · cases Sb
        · go_wp2_with fail
          go_ret
          exact ⟨by rw [← HK.out]; rfl, HBW.out _ (by exact bl)⟩
        · cases Lb
          · go_wp2_with fail
            go_ret
            exact ⟨by rw [← HK.out]; rfl, HBW.out _ (by exact bl)⟩
          · obtain ⟨hl, hl'⟩ := HL3.out rfl
            have i2 : (0 : Int) < (e.l.length : Int) := by omega
            have i3 : (1 : Int) < (e.l.length : Int) := by omega
            obtain ⟨m, b1, o1', x, A', c', e1, e2, hbB, _, hgd, hfx, hxc, hxm, ⟨c0, c1, c2, c3, c4, c5⟩, hx⟩ := six0 (HE.out w1 hb01) hl
            obtain ⟨m', b2, o2', y, A2, c2', e1', e2', hbB', _, hgd', hfy, hyc, hym, hsix, hy⟩ := six0 (HE.out w1 hb01) hl'
            have em : m' = m := by omega
            subst em
            subst e2
            cases e2'
            obtain ⟨d0, d1, d2, d3, d4, d5⟩ := hsix
            have hk := HK.out
            rw [hgd, hgd'] at hk
            have HK2 := Lib.hid hk
            have HX := Lib.hid hx
            have HY : Hid (∀ Y : World, Below w1.heap.size w1 Y → ExS 1000 m' Y Y.heap.size A2 y.l) := fun Y h => (hy.below m' h).more h.size m'
            have HDS : Hid (∀ Y : World, Below w1.heap.size w1 Y → Six Y b1 (o1' + 6) y A2 c2') := fun Y h => Six.keep ⟨d0, d1, d2, d3, d4, d5⟩ fun o => h.cell (p := ⟨b1, o, none⟩) hbB'
            have HFX := Lib.hid hfx
            have HFY := Lib.hid hfy
            simp only [Nat.zero_mul, Nat.add_zero] at c0 c1 c2 c3 c4 c5
            clear hk HK hgd hgd' hfx hfy hx hy hxm hxc hym hyc e1 e1' d0 d1 d2 d3 d4 d5
            go_wp2_with fail
            refine (HIH.out x A' c' m' _ HFX.out (HX.out)).mono ?_
            rintro en w2 ⟨rfl, hb2⟩
            have hb02 : Below w0.heap.size w0 w2 := hb01.trans (hb2.mono hb01.size)
            clear q0 q1 q2 q3 q4 q5 c0 c1 c2 c3 c4 c5
            obtain ⟨q0, q1, q2, q3, q4, q5⟩ := HSH.out w2 hb02
            obtain ⟨d0, d1, d2, d3, d4, d5⟩ := HDS.out w2 hb2
            cases hfxx : formE d x
            · rw [hfxx] at HK2
              clear hfxx
              go_wp2_with fail
              go_ret
              exact ⟨by rw [← HK2.out]; rfl, HBW.out w2 (by exact bl)⟩
            · rw [hfxx] at HK2
              clear hfxx
              go_wp2_with fail
              refine (HIH.out y A2 c2' m' _ HFY.out (HY.out _ hb2)).mono ?_
              rintro en w3 ⟨rfl, hb3⟩
              have hb03 : Below w0.heap.size w0 w3 := hb02.trans (hb3.mono hb02.size)
              go_wp2_with fail
              go_ret
              exact ⟨by rw [← HK2.out]; cases formE d y <;> rfl, HBW.out w3 hb03⟩

end Go.Proofs.YtdhjogmkhbpcgaaGreat

namespace Go.Proofs.YtdhjogmkhbpcgaaGreat

def nodesE : Nat → Ex → Nat
  | 0, _ => 1
  | n + 1, e => 1 + ((e.l.map (nodesE n)).sum)
theorem nodes_pos : ∀ (n : Nat) (e : Ex), 1 ≤ nodesE n e
  | 0, _ => Nat.le_refl _
  | n + 1, e => by unfold nodesE; omega
theorem nodes_nil : ∀ (n : Nat) (e : Ex), e.l.length = 0 → nodesE n e = 1
  | 0, _, _ => rfl
  | n + 1, e, h => by
    have : e.l = [] := List.eq_nil_of_length_eq_zero h
    unfold nodesE
    rw [this]
    rfl
theorem nodes_one (n : Nat) (e : Ex) (h : e.l.length = 1) : nodesE (n + 1) e = 1 + nodesE n (e.l.getD 0 ex0) := by
  match hl : e.l, h with
  | [a], _ =>
    rw [nodesE, hl]
    simp
theorem nodes_two (n : Nat) (e : Ex) (h : e.l.length = 2) : nodesE (n + 1) e = 1 + (nodesE n (e.l.getD 0 ex0) + nodesE n (e.l.getD 1 ex0)) := by
  match hl : e.l, h with
  | [a, b], _ =>
    rw [nodesE, hl]
    simp
theorem zero_eq (v : V) : isZero v = veq v V.zero := by
  unfold isZero veq V.zero
  rw [Bool.eq_iff_iff]
  simp [and_assoc]
theorem twoB_iff (op : List UInt8) : twoB op = true ↔ (op = opAnd ∨ op = opOr ∨ op = opEq ∨ op = opLt ∨ op = opPlus ∨ op = opMinus) := by unfold twoB; simp
theorem parts_lit {op : List UInt8} (h : op = opLit ∨ op = opCol) : partsF op = 0 := by unfold partsF; rw [if_pos h]
theorem parts_one {op : List UInt8} (h : op = opNot ∨ op = opNull) : partsF op = 1 := by
  unfold partsF
  rcases h with rfl | rfl <;> rfl
theorem parts_two {op : List UInt8} (h : twoB op = true) : partsF op = 2 := by
  rw [twoB_iff] at h
  rcases h with rfl | rfl | rfl | rfl | rfl | rfl <;> rfl
theorem parts_no {op : List UInt8} (h1 : ¬ op = opLit) (h2 : ¬ op = opCol) (h3 : ¬ (op = opNot ∨ op = opNull)) (h4 : ¬ twoB op = true) : partsF op = -1 := by
  rw [twoB_iff] at h4
  unfold partsF
  rw [if_neg (by rintro (h | h); exact h1 h; exact h2 h), if_neg h3, if_neg h4]
theorem form_lit {d : Nat} {e : Ex} (h : e.op = opLit) : formE (d + 1) e = (mayB e.v.k e.v.i e.v.s && ((e.s == []) && decide (e.l.length = 0))) := by rw [formE, if_pos h]
theorem form_col {d : Nat} {e : Ex} (h0 : ¬ e.op = opLit) (h : e.op = opCol) : formE (d + 1) e = (veq e.v V.zero && (nameB e.s && (!reserved e.s && decide (e.l.length = 0)))) := by rw [formE, if_neg h0, if_pos h]
theorem form_one {d : Nat} {e : Ex} (h0 : ¬ e.op = opLit) (h1 : ¬ e.op = opCol) (h : e.op = opNot ∨ e.op = opNull) : formE (d + 1) e = (veq e.v V.zero && ((e.s == []) && (decide (e.l.length = 1) && formE d (e.l.getD 0 ex0)))) := by rw [formE, if_neg h0, if_neg h1, if_pos h]
theorem form_two {d : Nat} {e : Ex} (h0 : ¬ e.op = opLit) (h1 : ¬ e.op = opCol) (h2 : ¬ (e.op = opNot ∨ e.op = opNull)) (h : twoB e.op = true) : formE (d + 1) e = (veq e.v V.zero && ((e.s == []) && (decide (e.l.length = 2) && (formE d (e.l.getD 0 ex0) && formE d (e.l.getD 1 ex0))))) := by rw [formE, if_neg h0, if_neg h1, if_neg h2, if_pos h]
theorem form_no {d : Nat} {e : Ex} (h0 : ¬ e.op = opLit) (h1 : ¬ e.op = opCol) (h2 : ¬ (e.op = opNot ∨ e.op = opNull)) (h : ¬ twoB e.op = true) : formE (d + 1) e = false := by rw [formE, if_neg h0, if_neg h1, if_neg h2, if_neg h]
theorem may_succ {n d c : Nat} {e : Ex} (hd : d ≤ 12) (hc : c < 60) : mayE (n + 1) d c e = if ¬ ((e.l.length : Int) = partsF e.op) then (false, c + 1) else if e.op = opLit then (decide (e.s = []) && mayB e.v.k e.v.i e.v.s, c + 1)
    else if e.op = opCol then (veq e.v V.zero && nameB e.s && !reserved e.s, c + 1) else if ¬ (veq e.v V.zero = true ∧ e.s = []) then (false, c + 1) else mayFold (mayE n (d + 1)) (c + 1) e.l := by
  have h1 : decide (12 < d) = false := by simp; omega
  have h2 : decide (60 < c + 1) = false := by simp; omega
  rw [mayE, h1, h2, ← zero_eq]
  by_cases hp : (e.l.length : Int) = partsF e.op
  · by_cases hz : isZero e.v = true <;> by_cases hs : e.s = [] <;> simp [hp, hz, hs]
  · simp [hp]
theorem may_form : ∀ (n d c : Nat) (e : Ex), n + d = 13 → 1 ≤ d → ((mayE n d c e).1 = (formE n e && decide (c + nodesE n e ≤ 60))) ∧ ((mayE n d c e).1 = true → (mayE n d c e).2 = c + nodesE n e) := by
  intro n
  induction n with
  | zero =>
    intro d c e hd _
    have : decide (12 < d) = true := by simp; omega
    unfold mayE formE
    simp [this]
  | succ n ih =>
    intro d c e hd h1
    by_cases hc : 60 < c + 1
    · have h2 := nodes_pos (n + 1) e
      have h3 : decide (c + nodesE (n + 1) e ≤ 60) = false := by simp; omega
      rw [h3]
      unfold mayE
      simp [hc]
    · rw [may_succ (by omega) (by omega)]
      have hc1 : decide (c + 1 ≤ 60) = true := by simp; omega
      by_cases hLit : e.op = opLit
      · rw [form_lit hLit, parts_lit (Or.inl hLit)]
        by_cases hl : e.l.length = 0
        · rw [nodes_nil _ _ hl, hc1, if_neg (by rw [hl]; simp), if_pos hLit]
          by_cases hs : e.s = [] <;> cases hm : mayB e.v.k e.v.i e.v.s <;> simp [hs, hl]
        · rw [if_pos (by omega)]
          simp [hl]
      · by_cases hCol : e.op = opCol
        · rw [form_col hLit hCol, parts_lit (Or.inr hCol)]
          by_cases hl : e.l.length = 0
          · rw [nodes_nil _ _ hl, hc1, if_neg (by rw [hl]; simp), if_neg hLit, if_pos hCol]
            cases hz : veq e.v V.zero <;> cases hn : nameB e.s <;> cases hr : reserved e.s <;> simp [hl]
          · rw [if_pos (by omega)]
            simp [hl]
        · by_cases hOne : e.op = opNot ∨ e.op = opNull
          · rw [form_one hLit hCol hOne, parts_one hOne]
            by_cases hl : e.l.length = 1
            · rw [nodes_one _ _ hl, if_neg (by omega), if_neg hLit, if_neg hCol]
              obtain ⟨a, ha⟩ : ∃ a, e.l = [a] := by
                match he : e.l, hl with
                | [a], _ => exact ⟨a, rfl⟩
              have hi := ih (d + 1) (c + 1) a (by omega) (by omega)
              have e1 : c + (1 + nodesE n a) = c + 1 + nodesE n a := by omega
              rw [ha]
              simp only [List.length_cons, List.length_nil, List.getD_cons_zero, e1]
              by_cases hz : veq e.v V.zero = true ∧ e.s = []
              · rw [if_neg (by simp [hz])]
                simp only [mayFold, hz]
                cases hm : (mayE n (d + 1) (c + 1) a).1
                · rw [hm] at hi
                  simpa using hi.1
                · rw [hm] at hi
                  have h2 := hi.1
                  simp at h2
                  simp [h2, hi.2 rfl]
              · rw [if_pos hz]
                refine ⟨?_, by simp⟩
                cases hv : veq e.v V.zero
                · rfl
                · have : (e.s == []) = false := by rw [beq_eq_false_iff_ne]; exact fun h => hz ⟨hv, h⟩
                  rw [this]; rfl
            · rw [if_pos (by omega)]
              simp [hl]
          · by_cases hTwo : twoB e.op = true
            · rw [form_two hLit hCol hOne hTwo, parts_two hTwo]
              by_cases hl : e.l.length = 2
              · rw [nodes_two _ _ hl, if_neg (by omega), if_neg hLit, if_neg hCol]
                obtain ⟨a, b, ha⟩ : ∃ a b, e.l = [a, b] := by
                  match he : e.l, hl with
                  | [a, b], _ => exact ⟨a, b, rfl⟩
                have hi := ih (d + 1) (c + 1) a (by omega) (by omega)
                have e1 : c + (1 + (nodesE n a + nodesE n b)) = c + 1 + nodesE n a + nodesE n b := by omega
                have hj := ih (d + 1) (c + 1 + nodesE n a) b (by omega) (by omega)
                rw [ha]
                simp only [List.length_cons, List.length_nil, List.getD_cons_zero, List.getD_cons_succ, e1]
                by_cases hz : veq e.v V.zero = true ∧ e.s = []
                · rw [if_neg (by simp [hz])]
                  simp only [mayFold, hz]
                  cases hm : (mayE n (d + 1) (c + 1) a).1
                  · rw [hm] at hi
                    have h2 := hi.1
                    simp at h2
                    simp
                    intro hfa _
                    have := h2 hfa
                    omega
                  · rw [hm] at hi
                    have h2 := hi.1
                    simp at h2
                    have h3 := hi.2 rfl
                    rw [h3]
                    cases hm2 : (mayE n (d + 1) (c + 1 + nodesE n a) b).1
                    · rw [hm2] at hj
                      have h4 := hj.1
                      simp at h4
                      simp
                      intro _ hfb
                      exact h4 hfb
                    · rw [hm2] at hj
                      have h4 := hj.1
                      simp at h4
                      simp [h2, h4, hj.2 rfl]
                · rw [if_pos hz]
                  refine ⟨?_, by simp⟩
                  cases hv : veq e.v V.zero
                  · rfl
                  · have : (e.s == []) = false := by rw [beq_eq_false_iff_ne]; exact fun h => hz ⟨hv, h⟩
                    rw [this]; rfl
              · rw [if_pos (by omega)]
                simp [hl]
            · rw [form_no hLit hCol hOne hTwo, parts_no hLit hCol hOne hTwo, if_pos (by omega)]
              simp
theorem form_hgt : ∀ (d : Nat) (e : Ex), formE (d + 1) e = true → Hgt d e.l := by
  intro d
  induction d with
  | zero =>
    intro e h
    unfold formE at h
    show e.l = []
    split at h
    · simp at h; exact h.2.2
    · split at h
      · simp at h; exact h.2.2.2
      · split at h
        · simp [formE] at h
        · split at h
          · simp [formE] at h
          · cases h
  | succ d ih =>
    intro e h
    unfold formE at h
    split at h
    · simp at h; rw [h.2.2]; exact Hgt.nil _
    · split at h
      · simp at h; rw [h.2.2.2]; exact Hgt.nil _
      · split at h
        · simp at h
          match hl : e.l, h.2.2.1 with
          | [a], _ =>
            intro x hx
            simp only [List.mem_singleton] at hx
            subst hx
            rw [hl] at h
            exact ih x (by simpa using h.2.2.2)
        · split at h
          · simp at h
            match hl : e.l, h.2.2.1 with
            | [a, b], _ =>
              rw [hl] at h
              have h1 := ih a (by simpa using h.2.2.2.1)
              have h2 := ih b (by simpa using h.2.2.2.2)
              intro x hx
              simp only [List.mem_cons, List.not_mem_nil, or_false] at hx
              rcases hx with rfl | rfl
              · exact h1
              · exact h2
          · cases h
theorem nodes_hgt : ∀ (n m : Nat) (e : Ex), Hgt n e.l → Hgt m e.l → nodesE n e = nodesE m e := by
  intro n
  induction n with
  | zero =>
    intro m e h _
    have hl : e.l.length = 0 := by rw [show e.l = [] from h]; rfl
    rw [nodes_nil m e hl]
    rfl
  | succ n ih =>
    intro m e h h'
    cases m with
    | zero =>
      have hl : e.l.length = 0 := by rw [show e.l = [] from h']; rfl
      rw [nodes_nil (n + 1) e hl]
      rfl
    | succ m =>
      unfold nodesE
      rw [List.map_congr_left fun x hx => ih m x (h x hx) (h' x hx)]
theorem nodes_form : ∀ (d n : Nat) (e : Ex), formE d e = true → nodesE n e + 1 ≤ 2 ^ d := by
  intro d
  induction d with
  | zero => intro n e h; simp [formE] at h
  | succ d ih =>
    intro n e h
    have hp : 1 ≤ 2 ^ d := Nat.one_le_two_pow
    have hpp : 2 ^ (d + 1) = 2 * 2 ^ d := by rw [Nat.pow_succ]; omega
    unfold formE at h
    split at h
    · simp at h; rw [nodes_nil n e (by rw [h.2.2]; rfl)]; omega
    · split at h
      · simp at h; rw [nodes_nil n e (by rw [h.2.2.2]; rfl)]; omega
      · split at h
        · simp at h
          cases n with
          | zero => show 1 + 1 ≤ _; omega
          | succ n =>
            rw [nodes_one n e h.2.2.1]
            have := ih n (e.l.getD 0 ex0) (by simpa using h.2.2.2)
            omega
        · split at h
          · simp at h
            cases n with
            | zero => show 1 + 1 ≤ _; omega
            | succ n =>
              rw [nodes_two n e h.2.2.1]
              have h1 := ih n (e.l.getD 0 ex0) (by simpa using h.2.2.2.1)
              have h2 := ih n (e.l.getD 1 ex0) (by simpa using h.2.2.2.2)
              omega
          · cases h
/-- Both say alike what may be. -/
theorem may_R (n : Nat) (e : Ex) (h : Hgt n e.l) : (formE 12 e && decide (nodesE n e ≤ 60)) = mayX e := by
  have h1 := (may_form 12 1 0 e (by omega) (by omega)).1
  show _ = (mayE 12 1 0 e).1
  rw [h1, Nat.zero_add]
  cases hf : formE 12 e
  · rfl
  · rw [nodes_hgt n 12 e h ((form_hgt 11 e hf).upTo 12 (by omega))]

end Go.Proofs.YtdhjogmkhbpcgaaGreat

namespace Go.Proofs.YtdhjogmkhbpcgaaGreat
open Go.RowKit

attribute [local go_sem] ByteArray.extract_mk ba_get ba_append
attribute [local go_sem ↓] Go.wp_at_zero Go.wp_at_succ run_eql_V run_neq_V

theorem sum_step (f : Ex → Nat) (l : List Ex) (j : Nat) (x : Ex) (h : l[j]? = some x) : ((l.take (j + 1)).map f).sum = ((l.take j).map f).sum + f x ∧ ((l.take j).map f).sum + f x ≤ (l.map f).sum := by
  obtain ⟨hj, rfl⟩ := List.getElem?_eq_some_iff.1 h
  have h1 : ((l.take (j + 1)).map f).sum = ((l.take j).map f).sum + f l[j] := by rw [List.take_succ_eq_append_getElem hj, List.map_append, List.sum_append]; simp
  refine ⟨h1, ?_⟩
  have h2 : (l.map f).sum = ((l.take (j + 1)).map f).sum + ((l.drop (j + 1)).map f).sum := by rw [← List.sum_append, ← List.map_append, List.take_append_drop]
  omega
set_option maxHeartbeats 2000000 in
theorem nodes_any : ∀ (n : Nat) (e : Ex) (A : Option Addr) (c : Nat) (w : World), nodesE n e ≤ 100000 → e.l.length ≤ 100000 → ExS 1000 n w w.heap.size A e.l →
    Calls Tryz.prog 107 #[.agg (e.cells A c).toArray] w (Ret (.int .i64 (nodesE n e)) w) := by
  intro n
  induction n with
  | zero =>
    intro e A c w _ _ hE
    have hl : e.l = [] := hE
    have b0 : ¬ ((0 : Int) < ((e.l.length : Nat) : Int)) := by rw [hl]; simp
    have q5 : (w.alloc (.cells (e.cells A c).toArray 29)).cell? ⟨w.heap.size, 5, none⟩ = some (.slice A e.l.length c) := (Blk.six (Blk.new w _ _)).2.2.2.2.2
    have hb0 : Below w.heap.size w (w.alloc (.cells (e.cells A c).toArray 29)) := by exact bl
    obtain ⟨w0, hw0⟩ : ∃ w0, w.alloc (.cells (e.cells A c).toArray 29) = w0 := ⟨_, rfl⟩
    rw [hw0] at q5 hb0
    have HW := Lib.hid hw0
    clear hw0 hE hl
    go_enter Tryz.func107, Tryz.ntmps107
    go_upto_region 1 with fail
    rw [show w.alloc _ = w0 from HW.out]
    go_wp2_with fail
    go_loopw [3, 4] (fun s3 s4 wr => s3 = .int .i64 1 ∧ s4 = .int .i64 0 ∧ wr = w0) (fun _ _ _ => 0)
    case atStart => exact ⟨rfl, rfl, rfl⟩
    case round =>
      obtain ⟨rfl, rfl, rfl⟩ := hrel
      go_wp2_with fail
      go_ret
      exact ⟨rfl, hb0⟩
  | succ n ih =>
    intro e A c w hN hlen hE
    obtain ⟨w0, hw0⟩ : ∃ w0, w.alloc (.cells (e.cells A c).toArray 29) = w0 := ⟨_, rfl⟩
    have kq0 : Blk w0 w.heap.size 29 (e.cells A c).toArray := by rw [← hw0]; exact Blk.new _ _ _
    have hb0 : Below w.heap.size w w0 := by rw [← hw0]; exact bl
    have HSH : Hid (∀ w' : World, Below w0.heap.size w0 w' → (w'.cell? ⟨w.heap.size, 0, none⟩ = some (.string ⟨e.op.toArray⟩) ∧ w'.cell? ⟨w.heap.size, 1, none⟩ = some (.int .i64 e.v.k) ∧ w'.cell? ⟨w.heap.size, 2, none⟩ = some (.int .i64 e.v.i) ∧ w'.cell? ⟨w.heap.size, 3, none⟩ = some (.string ⟨e.v.s.toArray⟩) ∧ w'.cell? ⟨w.heap.size, 4, none⟩ = some (.string ⟨e.s.toArray⟩) ∧ w'.cell? ⟨w.heap.size, 5, none⟩ = some (.slice A e.l.length c))) := fun w' h => (kq0.below h kq0.lt).six
    have HE : Hid (∀ Y : World, Below w0.heap.size w0 Y → ExS 1000 (n + 1) Y Y.heap.size A e.l) := fun Y h => ((hE.below (n + 1) (hb0.trans (h.mono hb0.size)))).more (Nat.le_trans hb0.size h.size) (n + 1)
    have HW := Lib.hid hw0
    obtain ⟨R, hR⟩ : ∃ R, nodesE (n + 1) e = R := ⟨_, rfl⟩
    rw [hR] at hN ⊢
    have hR' : 1 + (e.l.map (nodesE n)).sum = R := hR
    have HR := Lib.hid hR'
    have HIH := Lib.hid ih
    clear ih hw0 hE kq0 hR hR'
    obtain ⟨q0, q1, q2, q3, q4, q5⟩ := HSH.out w0 (Below.refl _ _)
    go_enter Tryz.func107, Tryz.ntmps107
    go_upto_region 1 with fail
    rw [show w.alloc _ = w0 from HW.out]
    clear HW
    go_wp2_with fail
    go_loopw [3, 4] (fun s3 s4 wr => ∃ j s : Nat, j ≤ e.l.length ∧ s3 = .int .i64 s ∧ s4 = .int .i64 j ∧ Hid (s = 1 + ((e.l.take j).map (nodesE n)).sum) ∧ Below w0.heap.size w0 wr) (fun _ i _ => e.l.length - (intOf i).toNat)
    case atStart => exact ⟨0, 1, by omega, rfl, rfl, rfl, Below.refl _ _⟩
    case round =>
      obtain ⟨j, s, hj, rfl, rfl, HS, hbr⟩ := hrel
      clear q0 q1 q2 q3 q4 q5
      obtain ⟨q0, q1, q2, q3, q4, q5⟩ := HSH.out wr hbr
      have hzr := hbr.size
      by_cases hlt : j < e.l.length
      · obtain ⟨b1, o1, x, A', c', rfl, hbB, hv, hfx, hxc, hxm, ⟨c0, c1, c2, c3, c4, c5⟩, hx⟩ := (HE.out wr hbr).at_ hlt
        obtain ⟨hs1, hs2⟩ := sum_step (nodesE n) e.l j x hv
        have hs := HS.out
        have hr := HR.out
        obtain ⟨t, ht⟩ : ∃ t, nodesE n x = t := ⟨_, rfl⟩
        rw [ht] at hs1 hs2
        have hsl : x.l.length ≤ 100000 := by
          have h1 := ht
          cases n with
          | zero => rw [show x.l = [] from hx]; simp
          | succ n =>
            have h2 : 1 + (x.l.map (nodesE n)).sum = t := ht
            have h3 : x.l.length ≤ (x.l.map (nodesE n)).sum := by
              generalize x.l = l
              induction l with
              | nil => simp
              | cons a r ihh => have := nodes_pos n a; simp only [List.length_cons, List.map_cons, List.sum_cons]; omega
            omega
        have HX : Hid (Calls Tryz.prog 107 #[.agg #[.string ⟨x.op.toArray⟩, .int .i64 x.v.k, .int .i64 x.v.i, .string ⟨x.v.s.toArray⟩, .string ⟨x.s.toArray⟩, .slice A' x.l.length c']] wr (Ret (.int .i64 (t : Nat)) wr)) := by
          have := HIH.out x A' c' wr (by rw [ht]; omega) hsl hx
          rw [ht] at this
          exact this
        have i1 : (0 : Int) ≤ (j : Int) := by omega
        have i2 : (j : Int) < (e.l.length : Int) := by omega
        have i3 : IntKind.i64.wrap ((s : Int) + (t : Int)) = ((s + t : Nat) : Int) := by rw [IntWalk.i64_in _ (by omega)]; omega
        have HN : Hid (s + t = 1 + ((e.l.take (j + 1)).map (nodesE n)).sum) := by show _ = _; rw [hs1, hs]; omega
        clear hs hr hs1 hs2 hv hx hxm hxc hsl HS ht
        go_wp2_with fail
        refine HX.out.mono ?_
        rintro en w2 ⟨rfl, hb2⟩
        go_wp2_with fail
        go_roundw
        case rel => exact ⟨j + 1, s + t, by omega, by go_num, by go_num, HN, hbr.trans (hb2.mono hzr)⟩
        case measure => simp [intOf]; omega
      · obtain rfl : j = e.l.length := by omega
        have hs := HS.out
        rw [List.take_length, HR.out] at hs
        subst hs
        have b0 : ¬ ((e.l.length : Int) < (e.l.length : Int)) := by omega
        clear HS
        go_wp2_with fail
        go_ret
        exact ⟨rfl, hb0.trans (hbr.mono hb0.size)⟩

set_option maxHeartbeats 1000000 in
theorem may4_any (n : Nat) (e : Ex) (A : Option Addr) (c : Nat) (w : World) (hf : e.fit 1000) (hE : ExS 1000 n w w.heap.size A e.l) :
    Calls Tryz.prog 68 #[.agg (e.cells A c).toArray] w (Ret (.bool (mayX e)) w) := by
  obtain ⟨w0, hw0⟩ : ∃ w0, w.alloc (.cells (e.cells A c).toArray 29) = w0 := ⟨_, rfl⟩
  have kq0 : Blk w0 w.heap.size 29 (e.cells A c).toArray := by rw [← hw0]; exact Blk.new _ _ _
  have hb0 : Below w.heap.size w w0 := by rw [← hw0]; exact bl
  have HSH : Hid (∀ w' : World, Below w0.heap.size w0 w' → (w'.cell? ⟨w.heap.size, 0, none⟩ = some (.string ⟨e.op.toArray⟩) ∧ w'.cell? ⟨w.heap.size, 1, none⟩ = some (.int .i64 e.v.k) ∧ w'.cell? ⟨w.heap.size, 2, none⟩ = some (.int .i64 e.v.i) ∧ w'.cell? ⟨w.heap.size, 3, none⟩ = some (.string ⟨e.v.s.toArray⟩) ∧ w'.cell? ⟨w.heap.size, 4, none⟩ = some (.string ⟨e.s.toArray⟩) ∧ w'.cell? ⟨w.heap.size, 5, none⟩ = some (.slice A e.l.length c))) := fun w' h => (kq0.below h kq0.lt).six
  have HE : Hid (∀ Y : World, Below w0.heap.size w0 Y → ExS 1000 n Y Y.heap.size A e.l) := fun Y h => ((hE.below n (hb0.trans (h.mono hb0.size)))).more (Nat.le_trans hb0.size h.size) n
  have hlaw := may_R n e (ExS.hgt n hE)
  obtain ⟨R, hR⟩ : ∃ R, mayX e = R := ⟨_, rfl⟩
  rw [hR] at hlaw ⊢
  have hfm := form_any 12 e A c n w0 (by omega) hf (HE.out w0 (Below.refl _ _))
  obtain ⟨F, hF⟩ : ∃ F, formE 12 e = F := ⟨_, rfl⟩
  have hnb : F = true → nodesE n e ≤ 100000 ∧ e.l.length ≤ 100000 := fun h => by
    have h1 := nodes_form 12 n e (by rw [hF, h])
    refine ⟨by omega, ?_⟩
    have h2 := nodes_form 12 1 e (by rw [hF, h])
    have h3 : 1 + (e.l.map (nodesE 0)).sum = nodesE 1 e := rfl
    have h4 : e.l.length ≤ (e.l.map (nodesE 0)).sum := by
      generalize e.l = l
      induction l with
      | nil => simp
      | cons a r ihh => have := nodes_pos 0 a; simp only [List.length_cons, List.map_cons, List.sum_cons]; omega
    omega
  rw [hF] at hfm hlaw
  have HFM := Lib.hid hfm
  have HL := Lib.hid hlaw
  have HNB := Lib.hid hnb
  have HW := Lib.hid hw0
  dsimp only [Ex.cells] at HFM
  clear hfm hlaw hnb hw0 hE kq0 hR hF
  obtain ⟨q0, q1, q2, q3, q4, q5⟩ := HSH.out w0 (Below.refl _ _)
  go_enter Tryz.func68, Tryz.ntmps68
  go_upto_region 1 with fail
  rw [show w.alloc _ = w0 from HW.out]
  clear HW
  go_wp2_with fail
  refine HFM.out.mono ?_
  rintro en w1 ⟨rfl, hb1⟩
  clear q0 q1 q2 q3 q4 q5
  obtain ⟨q0, q1, q2, q3, q4, q5⟩ := HSH.out w1 hb1
  cases F
  · go_wp2_with fail
    go_ret
    exact ⟨by rw [← HL.out]; rfl, hb0.trans (hb1.mono hb0.size)⟩
  · have hno := nodes_any n e A c w1 (HNB.out rfl).1 (HNB.out rfl).2 (HE.out w1 hb1)
    obtain ⟨t, ht⟩ : ∃ t, nodesE n e = t := ⟨_, rfl⟩
    have hl := HL.out
    rw [ht] at hno hl
    have HNO := Lib.hid hno
    dsimp only [Ex.cells] at HNO
    have e1 : decide ((t : Int) ≤ 60) = R := by rw [← hl, Bool.eq_iff_iff]; simp; omega
    have HEE := Lib.hid e1
    clear hno hl ht HL e1
    go_wp2_with fail
    refine HNO.out.mono ?_
    rintro en w2 ⟨rfl, hb2⟩
    have he := HEE.out
    go_wp2_with fail
    go_ret
    exact ⟨rfl, hb0.trans ((hb1.trans (hb2.mono hb1.size)).mono hb0.size)⟩

end Go.Proofs.YtdhjogmkhbpcgaaGreat

namespace Go.Proofs.YtdhjogmkhbpcgaaGreat
open Go.RowKit

attribute [local go_sem] ByteArray.extract_mk ba_get ba_append
attribute [local go_sem ↓] Go.wp_at_zero Go.wp_at_succ run_eql_V run_neq_V

theorem ty_leaf : ∀ (n : Nat) (cols : List Col) (e : Ex), e.l = [] → typedE n cols e = tyOp cols e []
  | 0, _, _, _ => rfl
  | n + 1, cols, e, h => by
    rw [typedE, h]
    simp [tyFold]
theorem ty_one (n : Nat) (cols : List Col) (e a : Ex) (h : e.l = [a]) : typedE (n + 1) cols e = if (typedE n cols a).2 = 0 then tyOp cols e [(typedE n cols a).1] else (0, (typedE n cols a).2) := by
  rw [typedE, h]
  by_cases h1 : (typedE n cols a).2 = 0 <;> simp [tyFold, h1]
theorem ty_two (n : Nat) (cols : List Col) (e a b : Ex) (h : e.l = [a, b]) : typedE (n + 1) cols e = if (typedE n cols a).2 = 0 then (if (typedE n cols b).2 = 0 then tyOp cols e [(typedE n cols a).1, (typedE n cols b).1] else (0, (typedE n cols b).2)) else (0, (typedE n cols a).2) := by
  rw [typedE, h]
  by_cases h1 : (typedE n cols a).2 = 0 <;> by_cases h2 : (typedE n cols b).2 = 0 <;> simp [tyFold, h1, h2]
theorem tail_three (x1 x2 y1 y2 : Bool) (a b t : Int) (h1 : (a != 0) = x1) (h2 : (a != t) = x2) (h3 : (b != 0) = y1) (h4 : (b != t) = y2) : allT [a, b] t = !((x1 && x2) || (y1 && y2)) := by
  subst h1 h2 h3 h4
  rw [Bool.eq_iff_iff]
  simp [allT]
  omega
theorem tail_one (x1 x2 : Bool) (a t : Int) (h1 : (a != 0) = x1) (h2 : (a != t) = x2) : allT [a] t = !(x1 && x2) := by
  subst h1 h2
  rw [Bool.eq_iff_iff]
  simp [allT]
  omega
theorem tail_eq (x1 y1 z : Bool) (a b : Int) (h1 : (a != 0) = x1) (h3 : (b != 0) = y1) (h4 : (a != b) = z) : (decide (a = b) || decide (a = 0) || decide (b = 0)) = !(x1 && (y1 && z)) := by
  subst h1 h3 h4
  rw [Bool.eq_iff_iff]
  simp
  omega
/-- The parts of an expression of the right form. -/
theorem form_parts {d : Nat} {e : Ex} (h : formE (d + 1) e = true) : (e.op = opLit ∧ e.l = []) ∨ (e.op = opCol ∧ e.l = []) ∨ ((e.op = opNot ∨ e.op = opNull) ∧ ∃ a, e.l = [a] ∧ formE d a = true) ∨
    ((e.op = opAnd ∨ e.op = opOr ∨ e.op = opEq ∨ e.op = opLt ∨ e.op = opPlus ∨ e.op = opMinus) ∧ ∃ a b, e.l = [a, b] ∧ formE d a = true ∧ formE d b = true) := by
  unfold formE at h
  split at h
  · rename_i ho
    simp at h
    exact Or.inl ⟨ho, h.2.2⟩
  · split at h
    · rename_i ho
      simp at h
      exact Or.inr (Or.inl ⟨ho, h.2.2.2⟩)
    · split at h
      · rename_i ho
        simp at h
        match hl : e.l, h.2.2.1 with
        | [a], _ =>
          rw [hl] at h
          exact Or.inr (Or.inr (Or.inl ⟨ho, a, rfl, by simpa using h.2.2.2⟩))
      · split at h
        · rename_i ho
          simp at h
          match hl : e.l, h.2.2.1 with
          | [a, b], _ =>
            rw [hl] at h
            exact Or.inr (Or.inr (Or.inr ⟨(twoB_iff _).1 ho, a, b, rfl, by simpa using h.2.2.2.1, by simpa using h.2.2.2.2⟩))
        · cases h
theorem dropCo (l : List Col) (j : Nat) (v : Col) (h : l[j]? = some v) : l.drop j = v :: l.drop (j + 1) := by
  obtain ⟨hj, rfl⟩ := List.getElem?_eq_some_iff.1 h
  exact List.drop_eq_getElem_cons hj

set_option maxRecDepth 100000 in
set_option maxHeartbeats 16000000 in
theorem type4_step (n : Nat) (ih : ∀ m, n = m + 1 → ∀ (d : Nat) (e : Ex) (A A1 : Option Addr) (c c1 : Nat) (cols : List Col) (w : World), formE d e = true → e.fit 1000 → ExS 1000 m w w.heap.size A e.l → cols.length ≤ 1000 → ColS w w.heap.size A1 cols →
      Calls Tryz.prog 69 #[.agg (e.cells A c).toArray, .slice A1 cols.length c1] w (Ret (.tuple #[.int .i64 (typedE m cols e).1, .int .i64 (typedE m cols e).2]) w))
    (d : Nat) (e : Ex) (A A1 : Option Addr) (c c1 : Nat) (cols : List Col) (w : World) (hfm : formE d e = true) (_hf : e.fit 1000) (hE : ExS 1000 n w w.heap.size A e.l) (hcl : cols.length ≤ 1000) (hC : ColS w w.heap.size A1 cols) :
    Calls Tryz.prog 69 #[.agg (e.cells A c).toArray, .slice A1 cols.length c1] w (Ret (.tuple #[.int .i64 (typedE n cols e).1, .int .i64 (typedE n cols e).2]) w) := by
  obtain ⟨d, rfl⟩ : ∃ k, d = k + 1 := by cases d with | zero => simp [formE] at hfm | succ k => exact ⟨k, rfl⟩
  have hparts := form_parts hfm
  obtain ⟨w0, hw0⟩ : ∃ w0, w.alloc (.cells (e.cells A c).toArray 29) = w0 := ⟨_, rfl⟩
  have kq0 : Blk w0 w.heap.size 29 (e.cells A c).toArray := by rw [← hw0]; exact Blk.new _ _ _
  have hb0 : Below w.heap.size w w0 := by rw [← hw0]; exact bl
  have HSH : Hid (∀ w' : World, Below w0.heap.size w0 w' → (w'.cell? ⟨w.heap.size, 0, none⟩ = some (.string ⟨e.op.toArray⟩) ∧ w'.cell? ⟨w.heap.size, 1, none⟩ = some (.int .i64 e.v.k) ∧ w'.cell? ⟨w.heap.size, 2, none⟩ = some (.int .i64 e.v.i) ∧ w'.cell? ⟨w.heap.size, 3, none⟩ = some (.string ⟨e.v.s.toArray⟩) ∧ w'.cell? ⟨w.heap.size, 4, none⟩ = some (.string ⟨e.s.toArray⟩) ∧ w'.cell? ⟨w.heap.size, 5, none⟩ = some (.slice A e.l.length c))) := fun w' h => (kq0.below h kq0.lt).six
  have HE : Hid (∀ Y : World, Below w0.heap.size w0 Y → ExS 1000 n Y Y.heap.size A e.l) := fun Y h => ((hE.below n (hb0.trans (h.mono hb0.size)))).more (Nat.le_trans hb0.size h.size) n
  have HCS : Hid (∀ Y : World, Below w0.heap.size w0 Y → ColS Y Y.heap.size A1 cols) := fun Y h hl => by
    obtain ⟨b, off, h1, h2, h3⟩ := hC hl
    have hb := hb0.trans (h.mono hb0.size)
    refine ⟨b, off, h1, Nat.lt_of_lt_of_le h2 hb.size, fun i v hv => ?_⟩
    obtain ⟨u0, u1, u2⟩ := h3 i v hv
    exact ⟨(hb.cell (p := ⟨b, off + i * 3, none⟩) h2).trans u0, (hb.cell (p := ⟨b, off + i * 3 + 1, none⟩) h2).trans u1, (hb.cell (p := ⟨b, off + i * 3 + 2, none⟩) h2).trans u2⟩
  have HW := Lib.hid hw0
  have HBW : Hid (∀ Y : World, Below w0.heap.size w0 Y → Below w.heap.size w Y) := fun Y h => hb0.trans (h.mono hb0.size)
  have hbr0 : Below w0.heap.size w0 w0 := Below.refl _ _
  obtain ⟨R, hR⟩ : ∃ R, typedE n cols e = R := ⟨_, rfl⟩
  rw [hR]
  have HIH : Hid (∀ m, n = m + 1 → ∀ (x : Ex) (A' : Option Addr) (c' : Nat) (Y : World), formE d x = true → x.fit 1000 → ExS 1000 m Y Y.heap.size A' x.l → Below w0.heap.size w0 Y →
      Calls Tryz.prog 69 #[.agg #[.string ⟨x.op.toArray⟩, .int .i64 x.v.k, .int .i64 x.v.i, .string ⟨x.v.s.toArray⟩, .string ⟨x.s.toArray⟩, .slice A' x.l.length c'], .slice A1 cols.length c1] Y (Ret (.tuple #[.int .i64 (typedE m cols x).1, .int .i64 (typedE m cols x).2]) Y)) :=
    fun m hm x A' c' Y h1 h2 h3 h4 => ih m hm d x A' A1 c' c1 cols Y h1 h2 h3 hcl (HCS.out Y h4)
  clear hw0 hE kq0 hb0 hC ih hfm
  obtain ⟨q0, q1, q2, q3, q4, q5⟩ := HSH.out w0 hbr0
  go_enter Tryz.func69, Tryz.ntmps69
  go_upto_region 1 with fail
  rw [show w.alloc _ = w0 from HW.out]
  clear HW
  rcases hparts with ⟨ho, hl⟩ | ⟨ho, hl⟩ | ⟨ho, a, hl, ha⟩ | ⟨ho, a, b, hl, ha, hb⟩
  · have o1 : (e.op == [108, 105, 116]) = true := by rw [ho]; rfl
    have HF : Hid (R = (e.v.k, 0)) := by
      show _ = _
      rw [← hR, ty_leaf n cols e hl]
      unfold tyOp
      rw [if_pos ho]
    clear hR hl ho HIH HE
    go_wp2_with fail
    go_ret2
    exact ⟨by rw [HF.out]; rfl, HBW.out _ (by assumption)⟩
  · have o1 : (e.op == [108, 105, 116]) = false := by rw [ho]; rfl
    have o2 : (e.op == [99, 111, 108]) = true := by rw [ho]; rfl
    have hR2 : (if placeF cols e.s < 0 then ((0 : Int), (4 : Int)) else ((cols.getD (placeF cols e.s).toNat ⟨[], 0, false⟩).t, 0)) = R := by
      rw [← hR, ty_leaf n cols e hl]
      have h : tyOp cols e [] = if placeF cols e.s < 0 then ((0 : Int), (4 : Int)) else ((cols.getD (placeF cols e.s).toNat ⟨[], 0, false⟩).t, 0) := by
        unfold tyOp
        rw [if_neg (by rw [ho]; decide), if_pos ho]
      rw [h]
    obtain ⟨P, hP⟩ : ∃ P, placeF cols e.s = P := ⟨_, rfl⟩
    rw [hP] at hR2
    have HR := Lib.hid hR2
    have HP : Hid (placeFrom e.s (cols.drop 0) 0 = P) := hP
    clear hR hl ho HIH HE hR2 hP
    go_wp2_with fail
    go_loopw [6] (fun i wr => ∃ j : Nat, j ≤ cols.length ∧ i = .int .i64 j ∧ Hid (placeFrom e.s (cols.drop j) j = P) ∧ Below w0.heap.size w0 wr) (fun i _ => cols.length - (intOf i).toNat)
    case atStart => exact ⟨0, by omega, rfl, HP, hbr0⟩
    case round =>
      obtain ⟨j, hj, rfl, HJ, hbr⟩ := hrel
      clear q0 q1 q2 q3 q4 q5
      obtain ⟨q0, q1, q2, q3, q4, q5⟩ := HSH.out wr hbr
      by_cases hlt : j < cols.length
      · obtain ⟨b1, o1', x, rfl, hbB, hv, d0, d1, d2⟩ := (HCS.out wr hbr).at_ hlt
        have hJ := HJ.out
        rw [dropCo cols j x hv] at hJ
        simp only [placeFrom] at hJ
        obtain ⟨B, hB⟩ : ∃ B, (x.n == e.s) = B := ⟨_, rfl⟩
        have i1 : (0 : Int) ≤ (j : Int) := by omega
        have i2 : (j : Int) < (cols.length : Int) := by omega
        cases B
        · have HN : Hid (placeFrom e.s (cols.drop (j + 1)) (j + 1) = P) := by show _ = _; rw [if_neg (by simpa using hB)] at hJ; exact hJ
          clear hJ hv HJ
          go_wp2_with fail
          go_quiet (fail)
          go_wp2_with fail
          go_roundw
          case rel => exact ⟨j + 1, by omega, by go_num, HN, below_drewN hbr _⟩
          case measure => simp [intOf]; omega
        · have HF : Hid (R = (x.t, 0)) := by
            show _ = _
            rw [if_pos (by simpa using hB)] at hJ
            rw [← HR.out, ← hJ, if_neg (by omega)]
            have : cols.getD ((j : Int)).toNat ⟨[], 0, false⟩ = x := by rw [Int.toNat_natCast, List.getD_eq_getElem?_getD, hv]; rfl
            rw [this]
          clear hJ hv HJ HR
          go_wp2_with fail
          go_quiet (fail)
          go_wp2_with fail
          go_ret2
          exact ⟨by rw [HF.out]; rfl, HBW.out _ (below_drewN hbr _)⟩
      · have HF : Hid (R = (0, 4)) := by
          show _ = _
          have hJ := HJ.out
          rw [List.drop_of_length_le (by omega)] at hJ
          simp only [placeFrom] at hJ
          rw [← HR.out, ← hJ]
          rfl
        have b0 : ¬ ((j : Int) < (cols.length : Int)) := by omega
        clear HJ HR
        go_wp2_with fail
        go_ret2
        exact ⟨by rw [HF.out]; rfl, HBW.out _ hbr⟩
  · have hlen : e.l.length = 1 := by rw [hl]; rfl
    have o1 : (e.op == [108, 105, 116]) = false := by rcases ho with h | h <;> rw [h] <;> rfl
    have o2 : (e.op == [99, 111, 108]) = false := by rcases ho with h | h <;> rw [h] <;> rfl
    obtain ⟨m, b1, o1', x, A', c', hnm, rfl, hbB, hv0, _, hfx, hxc, hxm, ⟨c0, c1', c2, c3, c4, c5⟩, hx⟩ := six0 (HE.out w0 hbr0) (j := 0) (by rw [hl]; simp)
    have hxa : x = a := by rw [hl] at hv0; simpa using hv0.symm
    subst hxa
    subst hnm
    rw [ty_one m cols e x hl] at hR
    have HX := Lib.hid (HIH.out m rfl x A' c' w0 ha hfx (hx) hbr0)
    obtain ⟨T, hT⟩ : ∃ T, typedE m cols x = T := ⟨_, rfl⟩
    rw [hT] at HX hR
    obtain ⟨t1, f1⟩ := T
    have i1 : (0 : Int) < (e.l.length : Int) := by omega
    have i3 : ((e.l.length : Int) == 2) = false := by rw [beq_eq_false_iff_ne]; omega
    simp only [Nat.zero_mul, Nat.add_zero] at c0 c1' c2 c3 c4 c5
    clear hv0 hfx hxc hxm hx hT HIH HE hlen hl ha
    go_wp2_with fail
    refine HX.out.mono ?_
    rintro en w1 ⟨rfl, hb1⟩
    clear q0 q1 q2 q3 q4 q5 HX c0 c1' c2 c3 c4 c5
    obtain ⟨q0, q1, q2, q3, q4, q5⟩ := HSH.out w1 hb1
    by_cases hf1 : f1 = 0
    case neg =>
      have e1 : (f1 != 0) = true := by simpa using hf1
      have HF : Hid (R = (0, f1)) := by show _ = _; rw [← hR, if_neg hf1]
      clear hR hf1
      go_wp2_with fail
      go_ret2
      exact ⟨by rw [HF.out]; rfl, HBW.out _ (by assumption)⟩
    subst hf1
    rw [if_pos rfl] at hR
    rcases ho with ho | ho
    · have hty : tyOp cols e [t1] = if (!((t1 != 0) && (t1 != 3))) = true then (3, 0) else (0, 5) := by
        have := tail_one _ _ t1 3 rfl rfl
        unfold tyOp
        rw [ho, this]
        simp [opLit, opCol, opNot]
      have g0 : (e.op == [110, 117, 108, 108]) = false := by rw [ho]; rfl
      have g1 : (e.op == [61]) = false := by rw [ho]; rfl
      have g2 : (e.op == [60]) = false := by rw [ho]; rfl
      have g3 : (e.op == [43]) = false := by rw [ho]; rfl
      have g4 : (e.op == [45]) = false := by rw [ho]; rfl
      rw [hty] at hR
      obtain ⟨X1, hX1⟩ : ∃ b, (t1 != 0) = b := ⟨_, rfl⟩
      obtain ⟨X2, hX2⟩ : ∃ b, (t1 != 3) = b := ⟨_, rfl⟩
      rw [hX1, hX2] at hR
      have HK := Lib.hid hR
      clear hR hty ho
      cases X1
      · have HF : Hid (R = (3, 0)) := by show _ = _; rw [← HK.out]; rfl
        go_wp2_with fail
        go_ret2
        exact ⟨by rw [HF.out]; rfl, HBW.out _ (by assumption)⟩
      · cases X2
        · have HF : Hid (R = (3, 0)) := by show _ = _; rw [← HK.out]; rfl
          go_wp2_with fail
          go_ret2
          exact ⟨by rw [HF.out]; rfl, HBW.out _ (by assumption)⟩
        · have HF : Hid (R = (0, 5)) := by show _ = _; rw [← HK.out]; rfl
          go_wp2_with fail
          go_ret2
          exact ⟨by rw [HF.out]; rfl, HBW.out _ (by assumption)⟩
    · have HF : Hid (R = (3, 0)) := by
        show _ = _
        rw [← hR]
        unfold tyOp
        rw [ho]
        simp [opLit, opCol, opNot, opNull, opAnd, opOr, opEq, opLt, opPlus, opMinus]
      have g0 : (e.op == [110, 117, 108, 108]) = true := by rw [ho]; rfl
      have g1 : (e.op == [61]) = false := by rw [ho]; rfl
      have g2 : (e.op == [60]) = false := by rw [ho]; rfl
      have g3 : (e.op == [43]) = false := by rw [ho]; rfl
      have g4 : (e.op == [45]) = false := by rw [ho]; rfl
      clear hR ho
      go_wp2_with fail
      go_ret2
      exact ⟨by rw [HF.out]; rfl, HBW.out _ (by assumption)⟩
  · have hlen : e.l.length = 2 := by rw [hl]; rfl
    have o1 : (e.op == [108, 105, 116]) = false := by rcases ho with h | h | h | h | h | h <;> rw [h] <;> rfl
    have o2 : (e.op == [99, 111, 108]) = false := by rcases ho with h | h | h | h | h | h <;> rw [h] <;> rfl
    obtain ⟨m, b1, o1', x, A', c', hnm, rfl, hbB, hv0, _, hfx, hxc, hxm, ⟨c0, c1', c2, c3, c4, c5⟩, hx⟩ := six0 (HE.out w0 hbr0) (j := 0) (by rw [hl]; simp)
    have hxa : x = a := by rw [hl] at hv0; simpa using hv0.symm
    subst hxa
    obtain ⟨m', b2, o2', y, A2, c2', hnm', e2', hbB', hv1, _, hfy, hyc, hym, hsix, hy⟩ := six0 (HE.out w0 hbr0) (j := 1) (by rw [hl]; simp)
    have hyb : y = b := by rw [hl] at hv1; simpa using hv1.symm
    subst hyb
    subst hnm
    have em : m' = m := by omega
    subst em
    cases e2'
    rw [ty_two m' cols e x y hl] at hR
    have HX := Lib.hid (HIH.out m' rfl x A' c' w0 ha hfx (hx) hbr0)
    have HY : Hid (∀ Y : World, Below w0.heap.size w0 Y → Calls Tryz.prog 69 #[.agg #[.string ⟨y.op.toArray⟩, .int .i64 y.v.k, .int .i64 y.v.i, .string ⟨y.v.s.toArray⟩, .string ⟨y.s.toArray⟩, .slice A2 y.l.length c2'], .slice A1 cols.length c1] Y (Ret (.tuple #[.int .i64 (typedE m' cols y).1, .int .i64 (typedE m' cols y).2]) Y)) := fun Y h => HIH.out m' rfl y A2 c2' Y hb hfy ((hy.below m' h).more h.size m') h
    have HDS : Hid (∀ Y : World, Below w0.heap.size w0 Y → Six Y b1 (o1' + 6) y A2 c2') := fun Y h => Six.keep hsix fun o => h.cell (p := ⟨b1, o, none⟩) hbB'
    obtain ⟨T, hT⟩ : ∃ T, typedE m' cols x = T := ⟨_, rfl⟩
    obtain ⟨U, hU⟩ : ∃ U, typedE m' cols y = U := ⟨_, rfl⟩
    rw [hT] at HX hR
    rw [hU] at HY hR
    obtain ⟨t1, f1⟩ := T
    obtain ⟨t2, f2⟩ := U
    have i1 : (0 : Int) < (e.l.length : Int) := by omega
    have i2 : (1 : Int) < (e.l.length : Int) := by omega
    have i3 : ((e.l.length : Int) == 2) = true := by rw [hlen]; rfl
    simp only [Nat.zero_mul, Nat.add_zero] at c0 c1' c2 c3 c4 c5
    clear hv0 hv1 hfx hxc hxm hx hT HIH HE hlen hl ha hb hfy hyc hym hsix hy hU hnm'
    go_wp2_with fail
    refine HX.out.mono ?_
    rintro en w1 ⟨rfl, hb1⟩
    clear q0 q1 q2 q3 q4 q5 HX c0 c1' c2 c3 c4 c5
    obtain ⟨q0, q1, q2, q3, q4, q5⟩ := HSH.out w1 hb1
    by_cases hf1 : f1 = 0
    case neg =>
      have e1 : (f1 != 0) = true := by simpa using hf1
      have HF : Hid (R = (0, f1)) := by show _ = _; rw [← hR, if_neg hf1]
      clear hR hf1
      go_wp2_with fail
      go_ret2
      exact ⟨by rw [HF.out]; rfl, HBW.out _ (by assumption)⟩
    subst hf1
    rw [if_pos rfl] at hR
    obtain ⟨d0, d1, d2, d3, d4, d5⟩ := HDS.out w1 hb1
    go_wp2_with fail
    refine (HY.out w1 hb1).mono ?_
    rintro en w2 ⟨rfl, hb2⟩
    have hb02 : Below w0.heap.size w0 w2 := hb1.trans (hb2.mono hb1.size)
    clear q0 q1 q2 q3 q4 q5 HY d0 d1 d2 d3 d4 d5 HDS hb1 hb2
    obtain ⟨q0, q1, q2, q3, q4, q5⟩ := HSH.out w2 hb02
    by_cases hf2 : f2 = 0
    case neg =>
      have e1 : (f2 != 0) = true := by simpa using hf2
      have HF : Hid (R = (0, f2)) := by show _ = _; rw [← hR, if_neg hf2]
      clear hR hf2
      go_wp2_with fail
      go_ret2
      exact ⟨by rw [HF.out]; rfl, HBW.out _ (by assumption)⟩
    subst hf2
    rw [if_pos rfl] at hR
    rcases ho with ho | ho | ho | ho | ho | ho
    · have g0 : (e.op == [110, 117, 108, 108]) = false := by rw [ho]; rfl
      have g1 : (e.op == [61]) = false := by rw [ho]; rfl
      have g2 : (e.op == [60]) = false := by rw [ho]; rfl
      have g3 : (e.op == [43]) = false := by rw [ho]; rfl
      have g4 : (e.op == [45]) = false := by rw [ho]; rfl
      have hty : tyOp cols e [t1, t2] = if (!(((t1 != 0) && (t1 != 3)) || ((t2 != 0) && (t2 != 3)))) = true then (3, 0) else (0, 5) := by
        have := tail_three _ _ _ _ t1 t2 3 rfl rfl rfl rfl
        unfold tyOp
        rw [ho, this]
        simp [opLit, opCol, opNot, opAnd, opOr]
      rw [hty] at hR
      obtain ⟨X1, hX1⟩ : ∃ b, (t1 != 0) = b := ⟨_, rfl⟩
      obtain ⟨X2, hX2⟩ : ∃ b, (t1 != 3) = b := ⟨_, rfl⟩
      obtain ⟨Y1, hY1⟩ : ∃ b, (t2 != 0) = b := ⟨_, rfl⟩
      obtain ⟨Y2, hY2⟩ : ∃ b, (t2 != 3) = b := ⟨_, rfl⟩
      rw [hX1, hX2, hY1, hY2] at hR
      have HK := Lib.hid hR
      clear hR hty ho
      cases X1
      · cases Y1
        · have HF : Hid (R = (3, 0)) := by show _ = _; rw [← HK.out]; first | rfl | (simp)
          go_wp2_with fail
          go_ret2
          exact ⟨by rw [HF.out]; rfl, HBW.out _ (by assumption)⟩
        · cases Y2
          · have HF : Hid (R = (3, 0)) := by show _ = _; rw [← HK.out]; first | rfl | (simp)
            go_wp2_with fail
            go_ret2
            exact ⟨by rw [HF.out]; rfl, HBW.out _ (by assumption)⟩
          · have HF : Hid (R = (0, 5)) := by show _ = _; rw [← HK.out]; first | rfl | (simp)
            go_wp2_with fail
            go_ret2
            exact ⟨by rw [HF.out]; rfl, HBW.out _ (by assumption)⟩
      · cases X2
        · cases Y1
          · have HF : Hid (R = (3, 0)) := by show _ = _; rw [← HK.out]; first | rfl | (simp)
            go_wp2_with fail
            go_ret2
            exact ⟨by rw [HF.out]; rfl, HBW.out _ (by assumption)⟩
          · cases Y2
            · have HF : Hid (R = (3, 0)) := by show _ = _; rw [← HK.out]; first | rfl | (simp)
              go_wp2_with fail
              go_ret2
              exact ⟨by rw [HF.out]; rfl, HBW.out _ (by assumption)⟩
            · have HF : Hid (R = (0, 5)) := by show _ = _; rw [← HK.out]; first | rfl | (simp)
              go_wp2_with fail
              go_ret2
              exact ⟨by rw [HF.out]; rfl, HBW.out _ (by assumption)⟩
        · have HF : Hid (R = (0, 5)) := by show _ = _; rw [← HK.out]; first | rfl | (simp)
          go_wp2_with fail
          go_ret2
          exact ⟨by rw [HF.out]; rfl, HBW.out _ (by assumption)⟩
    · have g0 : (e.op == [110, 117, 108, 108]) = false := by rw [ho]; rfl
      have g1 : (e.op == [61]) = false := by rw [ho]; rfl
      have g2 : (e.op == [60]) = false := by rw [ho]; rfl
      have g3 : (e.op == [43]) = false := by rw [ho]; rfl
      have g4 : (e.op == [45]) = false := by rw [ho]; rfl
      have hty : tyOp cols e [t1, t2] = if (!(((t1 != 0) && (t1 != 3)) || ((t2 != 0) && (t2 != 3)))) = true then (3, 0) else (0, 5) := by
        have := tail_three _ _ _ _ t1 t2 3 rfl rfl rfl rfl
        unfold tyOp
        rw [ho, this]
        simp [opLit, opCol, opNot, opAnd, opOr]
      rw [hty] at hR
      obtain ⟨X1, hX1⟩ : ∃ b, (t1 != 0) = b := ⟨_, rfl⟩
      obtain ⟨X2, hX2⟩ : ∃ b, (t1 != 3) = b := ⟨_, rfl⟩
      obtain ⟨Y1, hY1⟩ : ∃ b, (t2 != 0) = b := ⟨_, rfl⟩
      obtain ⟨Y2, hY2⟩ : ∃ b, (t2 != 3) = b := ⟨_, rfl⟩
      rw [hX1, hX2, hY1, hY2] at hR
      have HK := Lib.hid hR
      clear hR hty ho
      cases X1
      · cases Y1
        · have HF : Hid (R = (3, 0)) := by show _ = _; rw [← HK.out]; first | rfl | (simp)
          go_wp2_with fail
          go_ret2
          exact ⟨by rw [HF.out]; rfl, HBW.out _ (by assumption)⟩
        · cases Y2
          · have HF : Hid (R = (3, 0)) := by show _ = _; rw [← HK.out]; first | rfl | (simp)
            go_wp2_with fail
            go_ret2
            exact ⟨by rw [HF.out]; rfl, HBW.out _ (by assumption)⟩
          · have HF : Hid (R = (0, 5)) := by show _ = _; rw [← HK.out]; first | rfl | (simp)
            go_wp2_with fail
            go_ret2
            exact ⟨by rw [HF.out]; rfl, HBW.out _ (by assumption)⟩
      · cases X2
        · cases Y1
          · have HF : Hid (R = (3, 0)) := by show _ = _; rw [← HK.out]; first | rfl | (simp)
            go_wp2_with fail
            go_ret2
            exact ⟨by rw [HF.out]; rfl, HBW.out _ (by assumption)⟩
          · cases Y2
            · have HF : Hid (R = (3, 0)) := by show _ = _; rw [← HK.out]; first | rfl | (simp)
              go_wp2_with fail
              go_ret2
              exact ⟨by rw [HF.out]; rfl, HBW.out _ (by assumption)⟩
            · have HF : Hid (R = (0, 5)) := by show _ = _; rw [← HK.out]; first | rfl | (simp)
              go_wp2_with fail
              go_ret2
              exact ⟨by rw [HF.out]; rfl, HBW.out _ (by assumption)⟩
        · have HF : Hid (R = (0, 5)) := by show _ = _; rw [← HK.out]; first | rfl | (simp)
          go_wp2_with fail
          go_ret2
          exact ⟨by rw [HF.out]; rfl, HBW.out _ (by assumption)⟩
    · have g0 : (e.op == [110, 117, 108, 108]) = false := by rw [ho]; rfl
      have g1 : (e.op == [61]) = true := by rw [ho]; rfl
      have g2 : (e.op == [60]) = false := by rw [ho]; rfl
      have g3 : (e.op == [43]) = false := by rw [ho]; rfl
      have g4 : (e.op == [45]) = false := by rw [ho]; rfl
      have hty : tyOp cols e [t1, t2] = if (!((t1 != 0) && ((t2 != 0) && (t1 != t2)))) = true then (3, 0) else (0, 5) := by
        have := tail_eq _ _ _ t1 t2 rfl rfl rfl
        unfold tyOp
        rw [ho, ← this]
        simp [opEq, opLt, opLit, opCol, opNot, opAnd, opOr]
      rw [hty] at hR
      obtain ⟨X1, hX1⟩ : ∃ b, (t1 != 0) = b := ⟨_, rfl⟩
      obtain ⟨Y1, hY1⟩ : ∃ b, (t2 != 0) = b := ⟨_, rfl⟩
      obtain ⟨Z1, hZ1⟩ : ∃ b, (t1 != t2) = b := ⟨_, rfl⟩
      rw [hX1, hY1, hZ1] at hR
      have HK := Lib.hid hR
      clear hR hty ho
      cases X1
      · have HF : Hid (R = (3, 0)) := by show _ = _; rw [← HK.out]; first | rfl | (simp)
        go_wp2_with fail
        go_ret2
        exact ⟨by rw [HF.out]; rfl, HBW.out _ (by assumption)⟩
      · cases Y1
        · have HF : Hid (R = (3, 0)) := by show _ = _; rw [← HK.out]; first | rfl | (simp)
          go_wp2_with fail
          go_ret2
          exact ⟨by rw [HF.out]; rfl, HBW.out _ (by assumption)⟩
        · cases Z1
          · have HF : Hid (R = (3, 0)) := by show _ = _; rw [← HK.out]; first | rfl | (simp)
            go_wp2_with fail
            go_ret2
            exact ⟨by rw [HF.out]; rfl, HBW.out _ (by assumption)⟩
          · have HF : Hid (R = (0, 5)) := by show _ = _; rw [← HK.out]; first | rfl | (simp)
            go_wp2_with fail
            go_ret2
            exact ⟨by rw [HF.out]; rfl, HBW.out _ (by assumption)⟩
    · have g0 : (e.op == [110, 117, 108, 108]) = false := by rw [ho]; rfl
      have g1 : (e.op == [61]) = false := by rw [ho]; rfl
      have g2 : (e.op == [60]) = true := by rw [ho]; rfl
      have g3 : (e.op == [43]) = false := by rw [ho]; rfl
      have g4 : (e.op == [45]) = false := by rw [ho]; rfl
      have hty : tyOp cols e [t1, t2] = if (!((t1 != 0) && ((t2 != 0) && (t1 != t2)))) = true then (3, 0) else (0, 5) := by
        have := tail_eq _ _ _ t1 t2 rfl rfl rfl
        unfold tyOp
        rw [ho, ← this]
        simp [opEq, opLt, opLit, opCol, opNot, opAnd, opOr]
      rw [hty] at hR
      obtain ⟨X1, hX1⟩ : ∃ b, (t1 != 0) = b := ⟨_, rfl⟩
      obtain ⟨Y1, hY1⟩ : ∃ b, (t2 != 0) = b := ⟨_, rfl⟩
      obtain ⟨Z1, hZ1⟩ : ∃ b, (t1 != t2) = b := ⟨_, rfl⟩
      rw [hX1, hY1, hZ1] at hR
      have HK := Lib.hid hR
      clear hR hty ho
      cases X1
      · have HF : Hid (R = (3, 0)) := by show _ = _; rw [← HK.out]; first | rfl | (simp)
        go_wp2_with fail
        go_ret2
        exact ⟨by rw [HF.out]; rfl, HBW.out _ (by assumption)⟩
      · cases Y1
        · have HF : Hid (R = (3, 0)) := by show _ = _; rw [← HK.out]; first | rfl | (simp)
          go_wp2_with fail
          go_ret2
          exact ⟨by rw [HF.out]; rfl, HBW.out _ (by assumption)⟩
        · cases Z1
          · have HF : Hid (R = (3, 0)) := by show _ = _; rw [← HK.out]; first | rfl | (simp)
            go_wp2_with fail
            go_ret2
            exact ⟨by rw [HF.out]; rfl, HBW.out _ (by assumption)⟩
          · have HF : Hid (R = (0, 5)) := by show _ = _; rw [← HK.out]; first | rfl | (simp)
            go_wp2_with fail
            go_ret2
            exact ⟨by rw [HF.out]; rfl, HBW.out _ (by assumption)⟩
    · have g0 : (e.op == [110, 117, 108, 108]) = false := by rw [ho]; rfl
      have g1 : (e.op == [61]) = false := by rw [ho]; rfl
      have g2 : (e.op == [60]) = false := by rw [ho]; rfl
      have g3 : (e.op == [43]) = true := by rw [ho]; rfl
      have g4 : (e.op == [45]) = false := by rw [ho]; rfl
      have hty : tyOp cols e [t1, t2] = if (!(((t1 != 0) && (t1 != 1)) || ((t2 != 0) && (t2 != 1)))) = true then (1, 0) else (0, 5) := by
        have := tail_three _ _ _ _ t1 t2 1 rfl rfl rfl rfl
        unfold tyOp
        rw [ho, this]
        simp [opEq, opLt, opLit, opCol, opNot, opAnd, opOr, opPlus, opMinus]
      rw [hty] at hR
      obtain ⟨X1, hX1⟩ : ∃ b, (t1 != 0) = b := ⟨_, rfl⟩
      obtain ⟨X2, hX2⟩ : ∃ b, (t1 != 1) = b := ⟨_, rfl⟩
      obtain ⟨Y1, hY1⟩ : ∃ b, (t2 != 0) = b := ⟨_, rfl⟩
      obtain ⟨Y2, hY2⟩ : ∃ b, (t2 != 1) = b := ⟨_, rfl⟩
      rw [hX1, hX2, hY1, hY2] at hR
      have HK := Lib.hid hR
      clear hR hty ho
      cases X1
      · cases Y1
        · have HF : Hid (R = (1, 0)) := by show _ = _; rw [← HK.out]; first | rfl | (simp)
          go_wp2_with fail
          go_ret2
          exact ⟨by rw [HF.out]; rfl, HBW.out _ (by assumption)⟩
        · cases Y2
          · have HF : Hid (R = (1, 0)) := by show _ = _; rw [← HK.out]; first | rfl | (simp)
            go_wp2_with fail
            go_ret2
            exact ⟨by rw [HF.out]; rfl, HBW.out _ (by assumption)⟩
          · have HF : Hid (R = (0, 5)) := by show _ = _; rw [← HK.out]; first | rfl | (simp)
            go_wp2_with fail
            go_ret2
            exact ⟨by rw [HF.out]; rfl, HBW.out _ (by assumption)⟩
      · cases X2
        · cases Y1
          · have HF : Hid (R = (1, 0)) := by show _ = _; rw [← HK.out]; first | rfl | (simp)
            go_wp2_with fail
            go_ret2
            exact ⟨by rw [HF.out]; rfl, HBW.out _ (by assumption)⟩
          · cases Y2
            · have HF : Hid (R = (1, 0)) := by show _ = _; rw [← HK.out]; first | rfl | (simp)
              go_wp2_with fail
              go_ret2
              exact ⟨by rw [HF.out]; rfl, HBW.out _ (by assumption)⟩
            · have HF : Hid (R = (0, 5)) := by show _ = _; rw [← HK.out]; first | rfl | (simp)
              go_wp2_with fail
              go_ret2
              exact ⟨by rw [HF.out]; rfl, HBW.out _ (by assumption)⟩
        · have HF : Hid (R = (0, 5)) := by show _ = _; rw [← HK.out]; first | rfl | (simp)
          go_wp2_with fail
          go_ret2
          exact ⟨by rw [HF.out]; rfl, HBW.out _ (by assumption)⟩
    · have g0 : (e.op == [110, 117, 108, 108]) = false := by rw [ho]; rfl
      have g1 : (e.op == [61]) = false := by rw [ho]; rfl
      have g2 : (e.op == [60]) = false := by rw [ho]; rfl
      have g3 : (e.op == [43]) = false := by rw [ho]; rfl
      have g4 : (e.op == [45]) = true := by rw [ho]; rfl
      have hty : tyOp cols e [t1, t2] = if (!(((t1 != 0) && (t1 != 1)) || ((t2 != 0) && (t2 != 1)))) = true then (1, 0) else (0, 5) := by
        have := tail_three _ _ _ _ t1 t2 1 rfl rfl rfl rfl
        unfold tyOp
        rw [ho, this]
        simp [opEq, opLt, opLit, opCol, opNot, opAnd, opOr, opPlus, opMinus]
      rw [hty] at hR
      obtain ⟨X1, hX1⟩ : ∃ b, (t1 != 0) = b := ⟨_, rfl⟩
      obtain ⟨X2, hX2⟩ : ∃ b, (t1 != 1) = b := ⟨_, rfl⟩
      obtain ⟨Y1, hY1⟩ : ∃ b, (t2 != 0) = b := ⟨_, rfl⟩
      obtain ⟨Y2, hY2⟩ : ∃ b, (t2 != 1) = b := ⟨_, rfl⟩
      rw [hX1, hX2, hY1, hY2] at hR
      have HK := Lib.hid hR
      clear hR hty ho
      cases X1
      · cases Y1
        · have HF : Hid (R = (1, 0)) := by show _ = _; rw [← HK.out]; first | rfl | (simp)
          go_wp2_with fail
          go_ret2
          exact ⟨by rw [HF.out]; rfl, HBW.out _ (by assumption)⟩
        · cases Y2
          · have HF : Hid (R = (1, 0)) := by show _ = _; rw [← HK.out]; first | rfl | (simp)
            go_wp2_with fail
            go_ret2
            exact ⟨by rw [HF.out]; rfl, HBW.out _ (by assumption)⟩
          · have HF : Hid (R = (0, 5)) := by show _ = _; rw [← HK.out]; first | rfl | (simp)
            go_wp2_with fail
            go_ret2
            exact ⟨by rw [HF.out]; rfl, HBW.out _ (by assumption)⟩
      · cases X2
        · cases Y1
          · have HF : Hid (R = (1, 0)) := by show _ = _; rw [← HK.out]; first | rfl | (simp)
            go_wp2_with fail
            go_ret2
            exact ⟨by rw [HF.out]; rfl, HBW.out _ (by assumption)⟩
          · cases Y2
            · have HF : Hid (R = (1, 0)) := by show _ = _; rw [← HK.out]; first | rfl | (simp)
              go_wp2_with fail
              go_ret2
              exact ⟨by rw [HF.out]; rfl, HBW.out _ (by assumption)⟩
            · have HF : Hid (R = (0, 5)) := by show _ = _; rw [← HK.out]; first | rfl | (simp)
              go_wp2_with fail
              go_ret2
              exact ⟨by rw [HF.out]; rfl, HBW.out _ (by assumption)⟩
        · have HF : Hid (R = (0, 5)) := by show _ = _; rw [← HK.out]; first | rfl | (simp)
          go_wp2_with fail
          go_ret2
          exact ⟨by rw [HF.out]; rfl, HBW.out _ (by assumption)⟩

theorem type4_any : ∀ (n d : Nat) (e : Ex) (A A1 : Option Addr) (c c1 : Nat) (cols : List Col) (w : World), formE d e = true → e.fit 1000 → ExS 1000 n w w.heap.size A e.l → cols.length ≤ 1000 → ColS w w.heap.size A1 cols →
    Calls Tryz.prog 69 #[.agg (e.cells A c).toArray, .slice A1 cols.length c1] w (Ret (.tuple #[.int .i64 (typedE n cols e).1, .int .i64 (typedE n cols e).2]) w) := by
  intro n
  induction n with
  | zero => exact type4_step 0 (fun m h => absurd h (by omega))
  | succ n ih =>
    refine type4_step (n + 1) (fun m h => ?_)
    obtain rfl : n = m := by omega
    exact ih

end Go.Proofs.YtdhjogmkhbpcgaaGreat
