/- The document's Parse of a text that is no word and no text between signs: a number, or none. Condition: a text that memory reaches. -/
import Derived.Test.YtdoonajhplcmlaaDoorRef1Parse
import Derived.Test.YtdoonajhplcmlaaDoorNumLaw
import Derived.RegionTactic
import Derived.Deep.CutBlock
namespace Go.Proofs.YtdoonajhplcmlaaDoor
open Go.RowKit

attribute [local go_sem] ByteArray.extract_mk ba_get ba_append
attribute [local go_sem ↓] Go.wp_at_zero Go.wp_at_succ

/-- No words, and not between signs. -/
def noQuote (s : List UInt8) : Prop := s.length < 2 ∨ (∃ c d r, s = c :: d :: r ∧ c.toNat ≠ 39) ∨ (∃ (d : UInt8) (r : List UInt8), s = 39 :: d :: r ∧ ((d :: r)[r.length]'(by simp)).toNat ≠ 39)

theorem wrap_twice (x : Int) (h1 : -9223372036854775808 ≤ x + 48) (h2 : x + 48 ≤ 9223372036854775807) : wrap64 (wrap64 x + 48) = x + 48 := by
  unfold wrap64; omega

theorem text_num (n : Int) : textF 1 n [] = Lib.itoa n := by simp [textF, mayB]
theorem retQ_num {s : List UInt8} {w w' : World} {n : Int} (h1 : -9223372036854775808 ≤ n) (h2 : n ≤ 9223372036854775807) (h : ∀ v, parses s v → v = ⟨1, n, []⟩) (hb : Below w.heap.size w w') :
    RetQ s w (.returned (.tuple #[.agg #[.int .i64 ((⟨1, n, []⟩ : V)).k, .int .i64 ((⟨1, n, []⟩ : V)).i, .string ⟨((⟨1, n, []⟩ : V)).s.toArray⟩], .bool (Lib.itoa n == s)])) w' := by
  cases hq : Lib.itoa n == s
  · refine retQ_no (fun v hv => ?_) hb
    have e := h v hv
    subst e
    have h3 : textF 1 n [] = s := hv.2.2
    rw [text_num] at h3
    rw [h3] at hq
    simp at hq
  · exact retQ_yes ⟨by simp [V.may, mayB], ⟨h1, h2⟩, by show textF 1 n [] = s; rw [text_num]; simpa using hq⟩ hb


def restL (s : List UInt8) (j : Nat) : List UInt8 := if j = 0 then magL s else s.drop j

set_option maxRecDepth 100000 in
set_option maxHeartbeats 4000000 in
theorem rparse_num (s : List UInt8) (w : World) (hs : s.length ≤ 1000000) (a0 : ([78, 85, 76, 76] == s) = false) (a1 : ([70, 65, 76, 83, 69] == s) = false) (a2 : ([84, 82, 85, 69] == s) = false) (hq : noQuote s)
    (hno : ∀ v, parses s v → v.k = 1 ∧ v.s = [] ∧ Lib.itoa v.i = s) : Calls Tryd.prog 39 #[.string ⟨s.toArray⟩] w (RetQ s w) := by
  have HQ := Lib.hid hq
  have HNO := Lib.hid hno
  clear hq hno
  have l0 : w.heap.size < w.heap.size + 1 + 1 := by omega
  go_enter Tryd.func39, Tryd.ntmps39
  go_wp2_with fail
  refine wp_loop_rounds 4 ?_
  rw [rounds_succ]
  go_wp2_with fail
  refine (rtext0_any _).mono ?_
  rintro e w1 ⟨rfl, hb1⟩
  have hz1 := hb1.size
  obtain ⟨hc1, hf1⟩ := bcell hb1
  simp at hz1 hc1 hf1
  have l1 : w.heap.size < w1.heap.size := by omega
  have l2 : w.heap.size + 1 < w1.heap.size := by omega
  go_wp2_with fail
  rw [rounds_succ]
  go_wp2_with fail
  refine (rtext3_any false _).mono ?_
  rintro e w2 ⟨rfl, hb2⟩
  have hz2 := hb2.size
  obtain ⟨hc2, hf2⟩ := bcell hb2
  have l3 : w.heap.size < w2.heap.size := by omega
  have l4 : w.heap.size + 1 < w2.heap.size := by omega
  go_wp2_with fail
  rw [rounds_succ]
  go_wp2_with fail
  refine (rtext3_any true _).mono ?_
  rintro e w3 ⟨rfl, hb3⟩
  have hz3 := hb3.size
  obtain ⟨hc3, hf3⟩ := bcell hb3
  have l5 : w.heap.size < w3.heap.size := by omega
  have l6 : w.heap.size + 1 < w3.heap.size := by omega
  go_wp2_with fail
  rw [rounds_succ]
  go_upto_region 8 with fail
  refine wp_forget (fun wx => Blk wx w.heap.size 23 #[.int .i64 0, .int .i64 0, .string ⟨#[]⟩] ∧ Blk wx w3.heap.size 23 #[.int .i64 2, .int .i64 0, .string ⟨#[]⟩] ∧ Below w.heap.size w wx) ⟨by ((repeat' (first | with_reducible assumption | with_reducible refine Blk.drew ?_ | with_reducible refine Blk.drewN ?_ _ | with_reducible refine Blk.set3 ?_ _ _ _ | with_reducible refine Blk.far ?_ ?_ _ | ((with_reducible refine Blk.new' _ _ _ _ ?_) <;> (first | (simp; done) | (simp; omega) | omega) <;> done) | with_reducible refine Blk.alloc ?_ _ | with_reducible refine Blk3.drew ?_ | with_reducible refine Blk3.drewN ?_ _ | ((with_reducible refine Blk3.new' _ _ _ _ _ _ ?_) <;> (first | (simp; done) | (simp; omega) | omega) <;> done) | with_reducible refine Blk3.alloc ?_ _ | with_reducible refine Blk3.far ?_ ?_ _ | with_reducible refine Blk3.below ?_ (by assumption) ?_ | with_reducible refine Blk.below ?_ (by assumption) ?_)) <;> (first | (simp; done) | (simp; omega) | omega)), by ((repeat' (first | with_reducible assumption | with_reducible refine Blk.drew ?_ | with_reducible refine Blk.drewN ?_ _ | with_reducible refine Blk.set3 ?_ _ _ _ | with_reducible refine Blk.far ?_ ?_ _ | ((with_reducible refine Blk.new' _ _ _ _ ?_) <;> (first | (simp; done) | (simp; omega) | omega) <;> done) | with_reducible refine Blk.alloc ?_ _ | with_reducible refine Blk3.drew ?_ | with_reducible refine Blk3.drewN ?_ _ | ((with_reducible refine Blk3.new' _ _ _ _ _ _ ?_) <;> (first | (simp; done) | (simp; omega) | omega) <;> done) | with_reducible refine Blk3.alloc ?_ _ | with_reducible refine Blk3.far ?_ ?_ _ | with_reducible refine Blk3.below ?_ (by assumption) ?_ | with_reducible refine Blk.below ?_ (by assumption) ?_)) <;> (first | (simp; done) | (simp; omega) | omega)), by ((repeat' (first | with_reducible exact Below.refl _ _ | with_reducible assumption | with_reducible refine Below.drew ?_ | with_reducible refine below_drewN ?_ _ | with_reducible refine Below.setCell ?_ ?_ _ | with_reducible refine Below.alloc ?_ ?_ _ | with_reducible refine Below.trans ?_ (Below.mono (by assumption) ?_))) <;> (first | (simp; done) | (simp; omega) | omega))⟩ ?_
  rintro W ⟨hR, hV, hbw⟩
  clear hb1 hb2 hb3 hc1 hc2 hc3 hf1 hf2 hf3 a0 a1 a2
  generalize w3.heap.size = g at *
  have lg := hV.lt
  have lr := hR.lt
  have ng : w.heap.size ≠ g := by omega
  have lg2 : w.heap.size < g := by omega
  go_cut [46] (fun s46 wx => s46 = .bool false ∧ wx = W)
  case first =>
    rcases HQ.out with h | ⟨c, d, r, rfl, hc⟩ | ⟨d, r, rfl, hlast⟩
    · have h2 : ¬ 2 ≤ s.length := by omega
      go_wp2_with fail
      go_meet
      exact ⟨rfl, rfl⟩
    · have hc2 : ((c.toNat : Int) == 39) = false := by rw [beq_eq_false_iff_ne]; omega
      simp only [List.length_cons] at hs
      go_wp2_with fail
      go_meet
      exact ⟨rfl, rfl⟩
    · simp only [List.length_cons] at hs
      go_wp2_with fail
      go_meet
      refine ⟨?_, rfl⟩
      congr 1
      rw [beq_eq_false_iff_ne]
      omega
  case rest =>
    obtain ⟨rfl, rfl⟩ := hcut
    obtain ⟨⟨x0, x1, x2⟩, xf0, xf1, xf2⟩ := hV.three
    have B3 : Blk3 wc g 23 := ⟨_, _, _, hV⟩
    obtain ⟨R, hRR⟩ : ∃ R, numL 0 (magL s) = R := ⟨_, rfl⟩
    have HR := Lib.hid hRR
    clear hRR HQ
    go_upto_block 4 with fail
    go_cut [8] from 75 to 124 (fun _ wx => ∃ acc : Int, Blk wx w.heap.size 23 #[.int .i64 0, .int .i64 0, .string ⟨#[]⟩] ∧ Blk wx g 23 #[.int .i64 1, .int .i64 acc, .string ⟨#[]⟩] ∧ Below w.heap.size w wx ∧ -9223372036854775808 ≤ acc ∧ acc ≤ 0 ∧ Hid (∀ v, parses s v → v = ⟨1, numV s acc, []⟩ ∧ (negB s = false → acc ≠ -9223372036854775808)))
    case first =>
      go_wp2_with fail
      go_loopw [8] (fun t wr => ∃ (j : Nat) (acc : Int), j ≤ s.length ∧ t = .int .i64 j ∧ Blk wr w.heap.size 23 #[.int .i64 0, .int .i64 0, .string ⟨#[]⟩] ∧ Blk wr g 23 #[.int .i64 1, .int .i64 acc, .string ⟨#[]⟩] ∧ Below w.heap.size w wr ∧ -9223372036854775808 ≤ acc ∧ acc ≤ 0 ∧ (j = 0 → acc = 0) ∧ Hid (numL acc (restL s j) = R)) (fun t _ => s.length - (intOf t).toNat)
      case atStart =>
        refine ⟨0, 0, by omega, rfl, ?_, ?_, ?_, by omega, by omega, fun _ => rfl, HR⟩
        · ((repeat' (first | with_reducible assumption | with_reducible refine Blk.drew ?_ | with_reducible refine Blk.drewN ?_ _ | with_reducible refine Blk.set3 ?_ _ _ _ | with_reducible refine Blk.far ?_ ?_ _ | ((with_reducible refine Blk.new' _ _ _ _ ?_) <;> (first | (simp; done) | (simp; omega) | omega) <;> done) | with_reducible refine Blk.alloc ?_ _ | with_reducible refine Blk3.drew ?_ | with_reducible refine Blk3.drewN ?_ _ | ((with_reducible refine Blk3.new' _ _ _ _ _ _ ?_) <;> (first | (simp; done) | (simp; omega) | omega) <;> done) | with_reducible refine Blk3.alloc ?_ _ | with_reducible refine Blk3.far ?_ ?_ _ | with_reducible refine Blk3.below ?_ (by assumption) ?_ | with_reducible refine Blk.below ?_ (by assumption) ?_)) <;> (first | (simp; done) | (simp; omega) | omega))
        · ((repeat' (first | with_reducible assumption | with_reducible refine Blk.drew ?_ | with_reducible refine Blk.drewN ?_ _ | with_reducible refine Blk.set3 ?_ _ _ _ | with_reducible refine Blk.far ?_ ?_ _ | ((with_reducible refine Blk.new' _ _ _ _ ?_) <;> (first | (simp; done) | (simp; omega) | omega) <;> done) | with_reducible refine Blk.alloc ?_ _ | with_reducible refine Blk3.drew ?_ | with_reducible refine Blk3.drewN ?_ _ | ((with_reducible refine Blk3.new' _ _ _ _ _ _ ?_) <;> (first | (simp; done) | (simp; omega) | omega) <;> done) | with_reducible refine Blk3.alloc ?_ _ | with_reducible refine Blk3.far ?_ ?_ _ | with_reducible refine Blk3.below ?_ (by assumption) ?_ | with_reducible refine Blk.below ?_ (by assumption) ?_)) <;> (first | (simp; done) | (simp; omega) | omega))
        · ((repeat' (first | with_reducible exact Below.refl _ _ | with_reducible assumption | with_reducible refine Below.drew ?_ | with_reducible refine below_drewN ?_ _ | with_reducible refine Below.setCell ?_ ?_ _ | with_reducible refine Below.alloc ?_ ?_ _ | with_reducible refine Below.trans ?_ (Below.mono (by assumption) ?_))) <;> (first | (simp; done) | (simp; omega) | omega))
      case round =>
        obtain ⟨j, acc, hj, rfl, kR, kV, kb, q1, q2, q3, hnum⟩ := hrel
        have kb2 := kb.size
        obtain ⟨⟨y0, y1, y2⟩, yf0, yf1, yf2⟩ := kV.three
        obtain ⟨⟨z0, z1, z2⟩, zf0, zf1, zf2⟩ := kR.three
        have lk := kV.lt
        have lk2 := kR.lt
        clear hR hV B3 x0 x1 x2 xf0 xf1 xf2
        by_cases hlt : j < s.length
        · by_cases h45 : j = 0 ∧ s[j].toNat = 45
          · obtain ⟨rfl, h45⟩ := h45
            obtain rfl := q3 rfl
            have h45' : ((s[0].toNat : Int) == 45) = true := by rw [h45]; rfl
            have HN : Hid (numL 0 (restL s 1) = R) := by
              show _ = _
              rw [← hnum.out]
              have : restL s 1 = restL s 0 := by
                obtain ⟨c, r, rfl⟩ : ∃ c r, s = c :: r := by
                  cases s with
                  | nil => simp at hlt
                  | cons c r => exact ⟨c, r, rfl⟩
                have h : c.toNat = 45 := h45
                show r = (if c.toNat = 45 then r else c :: r)
                rw [if_pos h]
              rw [this]
            clear hnum h45 q3
            go_wp2_with fail
            go_roundw
            case rel => exact ⟨1, 0, by omega, rfl, kR, kV, kb, by omega, by omega, (fun e => by cases e), HN⟩
            case measure => simp [intOf]; omega
          · have hrest : restL s j = s[j] :: s.drop (j + 1) := by
              unfold restL
              by_cases h0 : j = 0
              · subst h0
                rw [if_pos rfl]
                obtain ⟨c, r, rfl⟩ : ∃ c r, s = c :: r := by
                  cases s with
                  | nil => simp at hlt
                  | cons c r => exact ⟨c, r, rfl⟩
                have h : ¬ c.toNat = 45 := fun e => h45 ⟨rfl, e⟩
                show (if c.toNat = 45 then r else c :: r) = c :: r
                rw [if_neg h]
              · rw [if_neg h0, List.drop_eq_getElem_cons hlt]
            have hn2 := hnum.out
            rw [hrest] at hn2
            unfold numL at hn2
            have hg : (((j : Int) == 0) = false) ∨ (j = 0 ∧ ((s[j].toNat : Int) == 45) = false) := by
              by_cases h0 : j = 0
              · exact .inr ⟨h0, by rw [beq_eq_false_iff_ne]; intro e; exact h45 ⟨h0, by omega⟩⟩
              · exact .inl (by rw [beq_eq_false_iff_ne]; omega)
            clear hrest hnum h45
            cases ho : numOff acc s[j]
            · rw [ho] at hn2
              simp only [Bool.false_eq_true, if_false] at hn2
              simp only [numOff, Bool.or_eq_false_iff, decide_eq_false_iff_not, Bool.and_eq_false_iff] at ho
              obtain ⟨⟨⟨o1, o2⟩, o3⟩, o4⟩ := ho
              have p1 : ¬ (s[j].toNat : Int) < 48 := by omega
              have p2 : ¬ 57 < (s[j].toNat : Int) := by omega
              have HN : Hid (numL (10 * acc - (s[j].toNat : Int) + 48) (restL s (j + 1)) = R) := by
                show _ = _
                rw [← hn2]; rfl
              clear hn2
              have p5 : (acc == -922337203685477580) = false ∨ ((acc == -922337203685477580) = true ∧ ¬ 56 < (s[j].toNat : Int)) := by
                by_cases e : acc = -922337203685477580
                · rcases o4 with h | h
                  · exact absurd e h
                  · exact .inr ⟨by rw [e]; rfl, by omega⟩
                · exact .inl (by rw [beq_eq_false_iff_ne]; exact e)
              have r1 : -9223372036854775808 ≤ 10 * acc - (s[j].toNat : Int) + 48 := by rcases o4 with h | h <;> omega
              have r2 : 10 * acc - (s[j].toNat : Int) + 48 ≤ 0 := by omega
              have r3 : -9223372036854775808 ≤ 10 * acc := by omega
              have r4 : -9223372036854775856 ≤ 10 * acc - (s[j].toNat : Int) := by omega
              clear o1 o2 o4
              clear q3
              rcases hg with hg | ⟨rfl, hg⟩
              · rcases p5 with p5 | ⟨p5, p6⟩
                · go_wp2_with fail
                  go_region
                  rw [wrap_twice _ r1 (by omega)]
                  go_wp2_with fail
                  go_roundw
                  case rel => exact ⟨j + 1, 10 * acc - (s[j].toNat : Int) + 48, by omega, by go_num, (kR.far ng _).drew, (kV.set_ 1 _).drew, by ((repeat' (first | with_reducible exact Below.refl _ _ | with_reducible assumption | with_reducible refine Below.drew ?_ | with_reducible refine below_drewN ?_ _ | with_reducible refine Below.setCell ?_ ?_ _ | with_reducible refine Below.alloc ?_ ?_ _ | with_reducible refine Below.trans ?_ (Below.mono (by assumption) ?_))) <;> (first | (simp; done) | (simp; omega) | omega)), r1, r2, (fun e => by omega), HN⟩
                  case measure => simp [intOf]; omega
                · go_wp2_with fail
                  go_region
                  rw [wrap_twice _ r1 (by omega)]
                  go_wp2_with fail
                  go_roundw
                  case rel => exact ⟨j + 1, 10 * acc - (s[j].toNat : Int) + 48, by omega, by go_num, (kR.far ng _).drew, (kV.set_ 1 _).drew, by ((repeat' (first | with_reducible exact Below.refl _ _ | with_reducible assumption | with_reducible refine Below.drew ?_ | with_reducible refine below_drewN ?_ _ | with_reducible refine Below.setCell ?_ ?_ _ | with_reducible refine Below.alloc ?_ ?_ _ | with_reducible refine Below.trans ?_ (Below.mono (by assumption) ?_))) <;> (first | (simp; done) | (simp; omega) | omega)), r1, r2, (fun e => by omega), HN⟩
                  case measure => simp [intOf]; omega
              · rcases p5 with p5 | ⟨p5, p6⟩
                · go_wp2_with fail
                  go_region
                  rw [wrap_twice _ r1 (by omega)]
                  go_wp2_with fail
                  go_roundw
                  case rel => exact ⟨0 + 1, 10 * acc - (s[0].toNat : Int) + 48, by omega, by go_num, (kR.far ng _).drew, (kV.set_ 1 _).drew, by ((repeat' (first | with_reducible exact Below.refl _ _ | with_reducible assumption | with_reducible refine Below.drew ?_ | with_reducible refine below_drewN ?_ _ | with_reducible refine Below.setCell ?_ ?_ _ | with_reducible refine Below.alloc ?_ ?_ _ | with_reducible refine Below.trans ?_ (Below.mono (by assumption) ?_))) <;> (first | (simp; done) | (simp; omega) | omega)), r1, r2, (fun e => by omega), HN⟩
                  case measure => simp [intOf]; omega
                · go_wp2_with fail
                  go_region
                  rw [wrap_twice _ r1 (by omega)]
                  go_wp2_with fail
                  go_roundw
                  case rel => exact ⟨0 + 1, 10 * acc - (s[0].toNat : Int) + 48, by omega, by go_num, (kR.far ng _).drew, (kV.set_ 1 _).drew, by ((repeat' (first | with_reducible exact Below.refl _ _ | with_reducible assumption | with_reducible refine Below.drew ?_ | with_reducible refine below_drewN ?_ _ | with_reducible refine Below.setCell ?_ ?_ _ | with_reducible refine Below.alloc ?_ ?_ _ | with_reducible refine Below.trans ?_ (Below.mono (by assumption) ?_))) <;> (first | (simp; done) | (simp; omega) | omega)), r1, r2, (fun e => by omega), HN⟩
                  case measure => simp [intOf]; omega
            · have HNP : Hid (∀ v, ¬ parses s v) := by
                intro v hv
                rw [ho] at hn2
                obtain ⟨_, _, h3⟩ := HNO.out v hv
                obtain ⟨acc', e, _⟩ := num_itoa v.i hv.2.1.1 hv.2.1.2
                rw [h3, HR.out, ← hn2] at e
                cases e
              simp only [numOff, Bool.or_eq_true, decide_eq_true_eq, Bool.and_eq_true] at ho
              clear hn2 q3 HNO HR
              rcases hg with hg | ⟨rfl, hg⟩
              · rcases ho with ((h | h) | h) | ⟨h, h'⟩
                · have p1 : (s[j].toNat : Int) < 48 := by omega
                  go_wp2_with fail
                  refine bodyPost_ret (v := .tuple #[.agg #[.int .i64 ((⟨0, 0, []⟩ : V)).k, .int .i64 ((⟨0, 0, []⟩ : V)).i, .string ⟨((⟨0, 0, []⟩ : V)).s.toArray⟩], .bool false]) (by simp [results, Tryd.results39, go_sem, *]) rfl (retQ_no HNP.out ?_)
                  ((repeat' (first | with_reducible exact Below.refl _ _ | with_reducible assumption | with_reducible refine Below.drew ?_ | with_reducible refine below_drewN ?_ _ | with_reducible refine Below.setCell ?_ ?_ _ | with_reducible refine Below.alloc ?_ ?_ _ | with_reducible refine Below.trans ?_ (Below.mono (by assumption) ?_))) <;> (first | (simp; done) | (simp; omega) | omega))
                · have p1 : ¬ (s[j].toNat : Int) < 48 := by omega
                  have p2 : 57 < (s[j].toNat : Int) := by omega
                  go_wp2_with fail
                  refine bodyPost_ret (v := .tuple #[.agg #[.int .i64 ((⟨0, 0, []⟩ : V)).k, .int .i64 ((⟨0, 0, []⟩ : V)).i, .string ⟨((⟨0, 0, []⟩ : V)).s.toArray⟩], .bool false]) (by simp [results, Tryd.results39, go_sem, *]) rfl (retQ_no HNP.out ?_)
                  ((repeat' (first | with_reducible exact Below.refl _ _ | with_reducible assumption | with_reducible refine Below.drew ?_ | with_reducible refine below_drewN ?_ _ | with_reducible refine Below.setCell ?_ ?_ _ | with_reducible refine Below.alloc ?_ ?_ _ | with_reducible refine Below.trans ?_ (Below.mono (by assumption) ?_))) <;> (first | (simp; done) | (simp; omega) | omega))
                · by_cases o1 : s[j].toNat < 48
                  · have p1 : (s[j].toNat : Int) < 48 := by omega
                    go_wp2_with fail
                    refine bodyPost_ret (v := .tuple #[.agg #[.int .i64 ((⟨0, 0, []⟩ : V)).k, .int .i64 ((⟨0, 0, []⟩ : V)).i, .string ⟨((⟨0, 0, []⟩ : V)).s.toArray⟩], .bool false]) (by simp [results, Tryd.results39, go_sem, *]) rfl (retQ_no HNP.out ?_)
                    ((repeat' (first | with_reducible exact Below.refl _ _ | with_reducible assumption | with_reducible refine Below.drew ?_ | with_reducible refine below_drewN ?_ _ | with_reducible refine Below.setCell ?_ ?_ _ | with_reducible refine Below.alloc ?_ ?_ _ | with_reducible refine Below.trans ?_ (Below.mono (by assumption) ?_))) <;> (first | (simp; done) | (simp; omega) | omega))
                  · by_cases o2 : 57 < s[j].toNat
                    · have p1 : ¬ (s[j].toNat : Int) < 48 := by omega
                      have p2 : 57 < (s[j].toNat : Int) := by omega
                      go_wp2_with fail
                      refine bodyPost_ret (v := .tuple #[.agg #[.int .i64 ((⟨0, 0, []⟩ : V)).k, .int .i64 ((⟨0, 0, []⟩ : V)).i, .string ⟨((⟨0, 0, []⟩ : V)).s.toArray⟩], .bool false]) (by simp [results, Tryd.results39, go_sem, *]) rfl (retQ_no HNP.out ?_)
                      ((repeat' (first | with_reducible exact Below.refl _ _ | with_reducible assumption | with_reducible refine Below.drew ?_ | with_reducible refine below_drewN ?_ _ | with_reducible refine Below.setCell ?_ ?_ _ | with_reducible refine Below.alloc ?_ ?_ _ | with_reducible refine Below.trans ?_ (Below.mono (by assumption) ?_))) <;> (first | (simp; done) | (simp; omega) | omega))
                    · have p1 : ¬ (s[j].toNat : Int) < 48 := by omega
                      have p2 : ¬ 57 < (s[j].toNat : Int) := by omega
                      go_wp2_with fail
                      refine bodyPost_ret (v := .tuple #[.agg #[.int .i64 ((⟨0, 0, []⟩ : V)).k, .int .i64 ((⟨0, 0, []⟩ : V)).i, .string ⟨((⟨0, 0, []⟩ : V)).s.toArray⟩], .bool false]) (by simp [results, Tryd.results39, go_sem, *]) rfl (retQ_no HNP.out ?_)
                      ((repeat' (first | with_reducible exact Below.refl _ _ | with_reducible assumption | with_reducible refine Below.drew ?_ | with_reducible refine below_drewN ?_ _ | with_reducible refine Below.setCell ?_ ?_ _ | with_reducible refine Below.alloc ?_ ?_ _ | with_reducible refine Below.trans ?_ (Below.mono (by assumption) ?_))) <;> (first | (simp; done) | (simp; omega) | omega))
                · have p3 : ¬ acc < -922337203685477580 := by omega
                  have p4 : (acc == -922337203685477580) = true := by rw [h]; rfl
                  have p5 : 56 < (s[j].toNat : Int) := by omega
                  have p1 : ¬ (s[j].toNat : Int) < 48 := by omega
                  clear h h'
                  by_cases o2 : 57 < s[j].toNat
                  · have p2 : 57 < (s[j].toNat : Int) := by omega
                    go_wp2_with fail
                    refine bodyPost_ret (v := .tuple #[.agg #[.int .i64 ((⟨0, 0, []⟩ : V)).k, .int .i64 ((⟨0, 0, []⟩ : V)).i, .string ⟨((⟨0, 0, []⟩ : V)).s.toArray⟩], .bool false]) (by simp [results, Tryd.results39, go_sem, *]) rfl (retQ_no HNP.out ?_)
                    ((repeat' (first | with_reducible exact Below.refl _ _ | with_reducible assumption | with_reducible refine Below.drew ?_ | with_reducible refine below_drewN ?_ _ | with_reducible refine Below.setCell ?_ ?_ _ | with_reducible refine Below.alloc ?_ ?_ _ | with_reducible refine Below.trans ?_ (Below.mono (by assumption) ?_))) <;> (first | (simp; done) | (simp; omega) | omega))
                  · have p2 : ¬ 57 < (s[j].toNat : Int) := by omega
                    go_wp2_with fail
                    refine bodyPost_ret (v := .tuple #[.agg #[.int .i64 ((⟨0, 0, []⟩ : V)).k, .int .i64 ((⟨0, 0, []⟩ : V)).i, .string ⟨((⟨0, 0, []⟩ : V)).s.toArray⟩], .bool false]) (by simp [results, Tryd.results39, go_sem, *]) rfl (retQ_no HNP.out ?_)
                    ((repeat' (first | with_reducible exact Below.refl _ _ | with_reducible assumption | with_reducible refine Below.drew ?_ | with_reducible refine below_drewN ?_ _ | with_reducible refine Below.setCell ?_ ?_ _ | with_reducible refine Below.alloc ?_ ?_ _ | with_reducible refine Below.trans ?_ (Below.mono (by assumption) ?_))) <;> (first | (simp; done) | (simp; omega) | omega))
              · rcases ho with ((h | h) | h) | ⟨h, h'⟩
                · have p1 : (s[0].toNat : Int) < 48 := by omega
                  go_wp2_with fail
                  refine bodyPost_ret (v := .tuple #[.agg #[.int .i64 ((⟨0, 0, []⟩ : V)).k, .int .i64 ((⟨0, 0, []⟩ : V)).i, .string ⟨((⟨0, 0, []⟩ : V)).s.toArray⟩], .bool false]) (by simp [results, Tryd.results39, go_sem, *]) rfl (retQ_no HNP.out ?_)
                  ((repeat' (first | with_reducible exact Below.refl _ _ | with_reducible assumption | with_reducible refine Below.drew ?_ | with_reducible refine below_drewN ?_ _ | with_reducible refine Below.setCell ?_ ?_ _ | with_reducible refine Below.alloc ?_ ?_ _ | with_reducible refine Below.trans ?_ (Below.mono (by assumption) ?_))) <;> (first | (simp; done) | (simp; omega) | omega))
                · have p1 : ¬ (s[0].toNat : Int) < 48 := by omega
                  have p2 : 57 < (s[0].toNat : Int) := by omega
                  go_wp2_with fail
                  refine bodyPost_ret (v := .tuple #[.agg #[.int .i64 ((⟨0, 0, []⟩ : V)).k, .int .i64 ((⟨0, 0, []⟩ : V)).i, .string ⟨((⟨0, 0, []⟩ : V)).s.toArray⟩], .bool false]) (by simp [results, Tryd.results39, go_sem, *]) rfl (retQ_no HNP.out ?_)
                  ((repeat' (first | with_reducible exact Below.refl _ _ | with_reducible assumption | with_reducible refine Below.drew ?_ | with_reducible refine below_drewN ?_ _ | with_reducible refine Below.setCell ?_ ?_ _ | with_reducible refine Below.alloc ?_ ?_ _ | with_reducible refine Below.trans ?_ (Below.mono (by assumption) ?_))) <;> (first | (simp; done) | (simp; omega) | omega))
                · by_cases o1 : s[0].toNat < 48
                  · have p1 : (s[0].toNat : Int) < 48 := by omega
                    go_wp2_with fail
                    refine bodyPost_ret (v := .tuple #[.agg #[.int .i64 ((⟨0, 0, []⟩ : V)).k, .int .i64 ((⟨0, 0, []⟩ : V)).i, .string ⟨((⟨0, 0, []⟩ : V)).s.toArray⟩], .bool false]) (by simp [results, Tryd.results39, go_sem, *]) rfl (retQ_no HNP.out ?_)
                    ((repeat' (first | with_reducible exact Below.refl _ _ | with_reducible assumption | with_reducible refine Below.drew ?_ | with_reducible refine below_drewN ?_ _ | with_reducible refine Below.setCell ?_ ?_ _ | with_reducible refine Below.alloc ?_ ?_ _ | with_reducible refine Below.trans ?_ (Below.mono (by assumption) ?_))) <;> (first | (simp; done) | (simp; omega) | omega))
                  · by_cases o2 : 57 < s[0].toNat
                    · have p1 : ¬ (s[0].toNat : Int) < 48 := by omega
                      have p2 : 57 < (s[0].toNat : Int) := by omega
                      go_wp2_with fail
                      refine bodyPost_ret (v := .tuple #[.agg #[.int .i64 ((⟨0, 0, []⟩ : V)).k, .int .i64 ((⟨0, 0, []⟩ : V)).i, .string ⟨((⟨0, 0, []⟩ : V)).s.toArray⟩], .bool false]) (by simp [results, Tryd.results39, go_sem, *]) rfl (retQ_no HNP.out ?_)
                      ((repeat' (first | with_reducible exact Below.refl _ _ | with_reducible assumption | with_reducible refine Below.drew ?_ | with_reducible refine below_drewN ?_ _ | with_reducible refine Below.setCell ?_ ?_ _ | with_reducible refine Below.alloc ?_ ?_ _ | with_reducible refine Below.trans ?_ (Below.mono (by assumption) ?_))) <;> (first | (simp; done) | (simp; omega) | omega))
                    · have p1 : ¬ (s[0].toNat : Int) < 48 := by omega
                      have p2 : ¬ 57 < (s[0].toNat : Int) := by omega
                      go_wp2_with fail
                      refine bodyPost_ret (v := .tuple #[.agg #[.int .i64 ((⟨0, 0, []⟩ : V)).k, .int .i64 ((⟨0, 0, []⟩ : V)).i, .string ⟨((⟨0, 0, []⟩ : V)).s.toArray⟩], .bool false]) (by simp [results, Tryd.results39, go_sem, *]) rfl (retQ_no HNP.out ?_)
                      ((repeat' (first | with_reducible exact Below.refl _ _ | with_reducible assumption | with_reducible refine Below.drew ?_ | with_reducible refine below_drewN ?_ _ | with_reducible refine Below.setCell ?_ ?_ _ | with_reducible refine Below.alloc ?_ ?_ _ | with_reducible refine Below.trans ?_ (Below.mono (by assumption) ?_))) <;> (first | (simp; done) | (simp; omega) | omega))
                · have p3 : ¬ acc < -922337203685477580 := by omega
                  have p4 : (acc == -922337203685477580) = true := by rw [h]; rfl
                  have p5 : 56 < (s[0].toNat : Int) := by omega
                  have p1 : ¬ (s[0].toNat : Int) < 48 := by omega
                  clear h h'
                  by_cases o2 : 57 < s[0].toNat
                  · have p2 : 57 < (s[0].toNat : Int) := by omega
                    go_wp2_with fail
                    refine bodyPost_ret (v := .tuple #[.agg #[.int .i64 ((⟨0, 0, []⟩ : V)).k, .int .i64 ((⟨0, 0, []⟩ : V)).i, .string ⟨((⟨0, 0, []⟩ : V)).s.toArray⟩], .bool false]) (by simp [results, Tryd.results39, go_sem, *]) rfl (retQ_no HNP.out ?_)
                    ((repeat' (first | with_reducible exact Below.refl _ _ | with_reducible assumption | with_reducible refine Below.drew ?_ | with_reducible refine below_drewN ?_ _ | with_reducible refine Below.setCell ?_ ?_ _ | with_reducible refine Below.alloc ?_ ?_ _ | with_reducible refine Below.trans ?_ (Below.mono (by assumption) ?_))) <;> (first | (simp; done) | (simp; omega) | omega))
                  · have p2 : ¬ 57 < (s[0].toNat : Int) := by omega
                    go_wp2_with fail
                    refine bodyPost_ret (v := .tuple #[.agg #[.int .i64 ((⟨0, 0, []⟩ : V)).k, .int .i64 ((⟨0, 0, []⟩ : V)).i, .string ⟨((⟨0, 0, []⟩ : V)).s.toArray⟩], .bool false]) (by simp [results, Tryd.results39, go_sem, *]) rfl (retQ_no HNP.out ?_)
                    ((repeat' (first | with_reducible exact Below.refl _ _ | with_reducible assumption | with_reducible refine Below.drew ?_ | with_reducible refine below_drewN ?_ _ | with_reducible refine Below.setCell ?_ ?_ _ | with_reducible refine Below.alloc ?_ ?_ _ | with_reducible refine Below.trans ?_ (Below.mono (by assumption) ?_))) <;> (first | (simp; done) | (simp; omega) | omega))
        · have hrest : restL s j = [] := by
            unfold restL
            by_cases h0 : j = 0
            · rw [if_pos h0]
              have : s = [] := List.eq_nil_of_length_eq_zero (by omega)
              rw [this]; rfl
            · rw [if_neg h0, List.drop_of_length_le (by omega)]
          have hR2 := hnum.out
          rw [hrest] at hR2
          have HR2 : Hid (R = some acc) := hR2.symm
          clear hrest hR2 hnum q3
          have hbig : ∀ v, parses s v → v = ⟨1, numV s acc, []⟩ ∧ (negB s = false → acc ≠ -9223372036854775808) := fun v hv => by
            obtain ⟨h1, h2, h3⟩ := HNO.out v hv
            obtain ⟨acc', e1, e2, e3⟩ := num_itoa v.i hv.2.1.1 hv.2.1.2
            rw [h3] at e1 e2 e3
            rw [HR.out, HR2.out] at e1
            injection e1 with e1
            subst e1
            obtain ⟨k, i, t⟩ := v
            simp only at h1 h2 e2
            subst h1 h2
            rw [e2]
            exact ⟨rfl, e3⟩
          have HBIG := Lib.hid hbig
          clear hbig HNO HR HR2
          go_wp2_with fail
          go_meet
          exact ⟨acc, kR, kV, kb, q1, q2, HBIG⟩
    case rest =>
      obtain ⟨acc, kR, kV, kb, q1, q2, HBIG⟩ := hcut
      clear hR hV B3 x0 x1 x2 xf0 xf1 xf2 HNO HR
      have kb2 := kb.size
      obtain ⟨⟨y0, y1, y2⟩, yf0, yf1, yf2⟩ := kV.three
      obtain ⟨⟨z0, z1, z2⟩, zf0, zf1, zf2⟩ := kR.three
      have lk := kV.lt
      have lk2 := kR.lt
      obtain ⟨wv, rfl⟩ : ∃ wv, wv = wc := ⟨_, rfl⟩
      by_cases hneg : negB s = true
      · obtain ⟨c, r, rfl⟩ : ∃ c r, s = c :: r := by
          cases s with
          | nil => cases hneg
          | cons c r => exact ⟨c, r, rfl⟩
        have hc : c.toNat = 45 := by simpa [negB] using hneg
        have e1 : ((c :: r) == []) = false := rfl
        have e2 : ((c.toNat : Int) != 45) = false := by rw [hc]; rfl
        have hone : ∀ v, parses (c :: r) v → v = ⟨1, acc, []⟩ := fun v hv => by
          have := (HBIG.out v hv).1
          unfold numV at this
          rw [hneg] at this
          exact this
        have HONE := Lib.hid hone
        have hs2 : r.length ≤ 999999 := by simp at hs; omega
        clear hone hc hs HBIG hneg
        have HSH : Hid (∀ w' : World, Below wv.heap.size wv w' → (w'.cell? ⟨g, 0, none⟩ = some (.int .i64 ((⟨1, acc, []⟩ : V)).k) ∧ w'.cell? ⟨g, 1, none⟩ = some (.int .i64 ((⟨1, acc, []⟩ : V)).i) ∧ w'.cell? ⟨g, 2, none⟩ = some (.string ⟨((⟨1, acc, []⟩ : V)).s.toArray⟩))) := fun w' h => (kV.below h kV.lt).three.1
        go_upto_region 28 with fail
        refine wp_region_held_drew (S := (fun w' => w'.cell? ⟨g, 0, none⟩ = some (.int .i64 ((⟨1, acc, []⟩ : V)).k) ∧ w'.cell? ⟨g, 1, none⟩ = some (.int .i64 ((⟨1, acc, []⟩ : V)).i) ∧ w'.cell? ⟨g, 2, none⟩ = some (.string ⟨((⟨1, acc, []⟩ : V)).s.toArray⟩))) (by kernel_rfl) ?_ (fun hHeld => ?_)
        · try dsimp only
          first | (refine HSH.out _ ?_; ((repeat' (first | with_reducible exact Below.refl _ _ | with_reducible assumption | with_reducible refine Below.drew ?_ | with_reducible refine below_drewN ?_ _ | with_reducible refine Below.setCell ?_ ?_ _ | with_reducible refine Below.alloc ?_ ?_ _ | with_reducible refine Below.trans ?_ (Below.mono (by assumption) ?_))) <;> (first | (simp; done) | (simp; omega) | omega))) | (refine (fun (h : Blk _ g 23 #[.int .i64 1, .int .i64 (acc), .string ⟨#[]⟩]) => h.three.1) ?_; ((repeat' (first | with_reducible assumption | with_reducible refine Blk.drew ?_ | with_reducible refine Blk.drewN ?_ _ | with_reducible refine Blk.set3 ?_ _ _ _ | with_reducible refine Blk.far ?_ ?_ _ | ((with_reducible refine Blk.new' _ _ _ _ ?_) <;> (first | (simp; done) | (simp; omega) | omega) <;> done) | with_reducible refine Blk.alloc ?_ _ | with_reducible refine Blk3.drew ?_ | with_reducible refine Blk3.drewN ?_ _ | ((with_reducible refine Blk3.new' _ _ _ _ _ _ ?_) <;> (first | (simp; done) | (simp; omega) | omega) <;> done) | with_reducible refine Blk3.alloc ?_ _ | with_reducible refine Blk3.far ?_ ?_ _ | with_reducible refine Blk3.below ?_ (by assumption) ?_ | with_reducible refine Blk.below ?_ (by assumption) ?_)) <;> (first | (simp; done) | (simp; omega) | omega)))
        refine wpAnyH_take (i := 0) (v := ?_) rfl (by kernel_rfl) (by kernel_rfl) (by kernel_rfl) (fun _ _ _ h => h) (Or.inl ⟨by rfl, ?_⟩) (by assumption) ?_
        rotate_left
        · intro wq hSw
          try dsimp only at hSw
          go_simp
          try with_reducible rfl
        try simp only [Act.put, List.getElem_toArray, List.getElem_cons_zero, List.setIfInBounds_toArray, List.set_cons_zero, List.set_cons_succ]
        refine wpAnyH_take (i := 1) (v := ?_) rfl (by kernel_rfl) (by kernel_rfl) (by kernel_rfl) (fun _ _ _ h => h) (Or.inl ⟨by rfl, ?_⟩) (by assumption) ?_
        rotate_left
        · intro wq hSw
          try dsimp only at hSw
          go_simp
          try with_reducible rfl
        try simp only [Act.put, List.getElem_toArray, List.getElem_cons_zero, List.getElem_cons_succ, List.setIfInBounds_toArray, List.set_cons_zero, List.set_cons_succ]
        refine wpAnyH_take (i := 3) (v := ?_) rfl (by kernel_rfl) (by kernel_rfl) (by kernel_rfl) (fun _ _ _ h => h) (Or.inl ⟨by rfl, ?_⟩) (by assumption) ?_
        rotate_left
        · intro wq hSw
          try dsimp only at hSw
          go_simp
          try with_reducible rfl
        try simp only [Act.put, List.getElem_toArray, List.getElem_cons_zero, List.getElem_cons_succ, List.setIfInBounds_toArray, List.set_cons_zero, List.set_cons_succ]
        refine wpAnyH_ready (rs := [2]) (by kernel_rfl) (by simp) ?_
        refine AllReadyH.cons rfl (fun K hK => ?_) AllReadyH.nil
        go_simp
        refine (rtext1_any (acc) _ (by omega) (by omega)).mono ?_ <;> rintro e w5 ⟨rfl, hb5⟩ <;> have hz5 := hb5.size <;> obtain ⟨⟨n0, n1, n2⟩, m0, m1, m2⟩ := (Blk.below kR.drew hb5 lk2).three
        go_wp2_with fail
        refine hK.out _ _ ?_ (fun hHeld => ?_)
        · try dsimp only
          first | (refine HSH.out _ ?_; ((repeat' (first | with_reducible exact Below.refl _ _ | with_reducible assumption | with_reducible refine Below.drew ?_ | with_reducible refine below_drewN ?_ _ | with_reducible refine Below.setCell ?_ ?_ _ | with_reducible refine Below.alloc ?_ ?_ _ | with_reducible refine Below.trans ?_ (Below.mono (by assumption) ?_))) <;> (first | (simp; done) | (simp; omega) | omega))) | (refine (fun (h : Blk _ g 23 #[.int .i64 1, .int .i64 (acc), .string ⟨#[]⟩]) => h.three.1) ?_; ((repeat' (first | with_reducible assumption | with_reducible refine Blk.drew ?_ | with_reducible refine Blk.drewN ?_ _ | with_reducible refine Blk.set3 ?_ _ _ _ | with_reducible refine Blk.far ?_ ?_ _ | ((with_reducible refine Blk.new' _ _ _ _ ?_) <;> (first | (simp; done) | (simp; omega) | omega) <;> done) | with_reducible refine Blk.alloc ?_ _ | with_reducible refine Blk3.drew ?_ | with_reducible refine Blk3.drewN ?_ _ | ((with_reducible refine Blk3.new' _ _ _ _ _ _ ?_) <;> (first | (simp; done) | (simp; omega) | omega) <;> done) | with_reducible refine Blk3.alloc ?_ _ | with_reducible refine Blk3.far ?_ ?_ _ | with_reducible refine Blk3.below ?_ (by assumption) ?_ | with_reducible refine Blk.below ?_ (by assumption) ?_)) <;> (first | (simp; done) | (simp; omega) | omega)))
        clear hK K
        try simp only [Act.put, List.getElem_toArray, List.getElem_cons_zero, List.getElem_cons_succ, List.setIfInBounds_toArray, List.set_cons_zero, List.set_cons_succ]
        refine wpAnyH_take (i := 4) (v := ?_) rfl (by kernel_rfl) (by kernel_rfl) (by kernel_rfl) (fun _ _ _ h => h) (Or.inl ⟨by rfl, ?_⟩) (by assumption) ?_
        rotate_left
        · intro wq hSw
          try dsimp only at hSw
          go_simp
          try with_reducible rfl
        try simp only [Act.put, List.getElem_toArray, List.getElem_cons_zero, List.getElem_cons_succ, List.setIfInBounds_toArray, List.set_cons_zero, List.set_cons_succ]
        refine wpAnyH_ready (rs := [5]) (by kernel_rfl) (by simp) ?_
        refine AllReadyH.cons rfl (fun K hK => ?_) AllReadyH.nil
        go_simp
        skip
        go_wp2_with fail
        refine hK.out _ _ ?_ (fun hHeld => ?_)
        · try dsimp only
          first | (refine HSH.out _ ?_; ((repeat' (first | with_reducible exact Below.refl _ _ | with_reducible assumption | with_reducible refine Below.drew ?_ | with_reducible refine below_drewN ?_ _ | with_reducible refine Below.setCell ?_ ?_ _ | with_reducible refine Below.alloc ?_ ?_ _ | with_reducible refine Below.trans ?_ (Below.mono (by assumption) ?_))) <;> (first | (simp; done) | (simp; omega) | omega))) | (refine (fun (h : Blk _ g 23 #[.int .i64 1, .int .i64 (acc), .string ⟨#[]⟩]) => h.three.1) ?_; ((repeat' (first | with_reducible assumption | with_reducible refine Blk.drew ?_ | with_reducible refine Blk.drewN ?_ _ | with_reducible refine Blk.set3 ?_ _ _ _ | with_reducible refine Blk.far ?_ ?_ _ | ((with_reducible refine Blk.new' _ _ _ _ ?_) <;> (first | (simp; done) | (simp; omega) | omega) <;> done) | with_reducible refine Blk.alloc ?_ _ | with_reducible refine Blk3.drew ?_ | with_reducible refine Blk3.drewN ?_ _ | ((with_reducible refine Blk3.new' _ _ _ _ _ _ ?_) <;> (first | (simp; done) | (simp; omega) | omega) <;> done) | with_reducible refine Blk3.alloc ?_ _ | with_reducible refine Blk3.far ?_ ?_ _ | with_reducible refine Blk3.below ?_ (by assumption) ?_ | with_reducible refine Blk.below ?_ (by assumption) ?_)) <;> (first | (simp; done) | (simp; omega) | omega)))
        clear hK K
        try simp only [Act.put, List.getElem_toArray, List.getElem_cons_zero, List.getElem_cons_succ, List.setIfInBounds_toArray, List.set_cons_zero, List.set_cons_succ]
        refine wpAnyH_take (i := 6) (v := ?_) rfl (by kernel_rfl) (by kernel_rfl) (by kernel_rfl) (fun _ _ _ h => h) (Or.inl ⟨by rfl, ?_⟩) (by assumption) ?_
        rotate_left
        · intro wq hSw
          try dsimp only at hSw
          go_simp
          try with_reducible rfl
        try simp only [Act.put, List.getElem_toArray, List.getElem_cons_zero, List.getElem_cons_succ, List.setIfInBounds_toArray, List.set_cons_zero, List.set_cons_succ]
        refine wpAnyH_done (by kernel_rfl) ?_ _
        go_wp2_with fail
        refine bodyPost_ret (v := .tuple #[.agg #[.int .i64 ((⟨1, acc, []⟩ : V)).k, .int .i64 ((⟨1, acc, []⟩ : V)).i, .string ⟨((⟨1, acc, []⟩ : V)).s.toArray⟩], .bool (Lib.itoa (acc) == c :: r)]) (by simp [results, Tryd.results39, go_sem, *]) rfl (retQ_num (by omega) (by omega) HONE.out ?_)
        ((repeat' (first | with_reducible exact Below.refl _ _ | with_reducible assumption | with_reducible refine Below.drew ?_ | with_reducible refine below_drewN ?_ _ | with_reducible refine Below.setCell ?_ ?_ _ | with_reducible refine Below.alloc ?_ ?_ _ | with_reducible refine Below.trans ?_ (Below.mono (by assumption) ?_))) <;> (first | (simp; done) | (simp; omega) | omega))
      · have hng : negB s = false := by simpa using hneg
        clear hneg
        have hone : ∀ v, parses s v → v = ⟨1, -acc, []⟩ := fun v hv => by
          have := (HBIG.out v hv).1
          unfold numV at this
          rw [hng] at this
          exact this
        have HONE := Lib.hid hone
        clear hone
        by_cases hmin : acc = -9223372036854775808
        · have HNP : Hid (∀ v, ¬ parses s v) := fun v hv => (HBIG.out v hv).2 hng hmin
          have hm2 : (acc == -9223372036854775808) = true := by rw [hmin]; rfl
          clear HBIG HONE hmin
          cases s with
          | nil =>
            go_wp2_with fail
            refine bodyPost_ret (v := .tuple #[.agg #[.int .i64 ((⟨0, 0, []⟩ : V)).k, .int .i64 ((⟨0, 0, []⟩ : V)).i, .string ⟨((⟨0, 0, []⟩ : V)).s.toArray⟩], .bool false]) (by simp [results, Tryd.results39, go_sem, *]) rfl (retQ_no HNP.out ?_)
            ((repeat' (first | with_reducible exact Below.refl _ _ | with_reducible assumption | with_reducible refine Below.drew ?_ | with_reducible refine below_drewN ?_ _ | with_reducible refine Below.setCell ?_ ?_ _ | with_reducible refine Below.alloc ?_ ?_ _ | with_reducible refine Below.trans ?_ (Below.mono (by assumption) ?_))) <;> (first | (simp; done) | (simp; omega) | omega))
          | cons c r =>
            have e2 : ((c.toNat : Int) != 45) = true := by
              simp only [negB, decide_eq_false_iff_not] at hng
              rw [bne_iff_ne]; omega
            have hs2 : r.length ≤ 999999 := by simp at hs; omega
            clear hng hs
            go_wp2_with fail
            refine bodyPost_ret (v := .tuple #[.agg #[.int .i64 ((⟨0, 0, []⟩ : V)).k, .int .i64 ((⟨0, 0, []⟩ : V)).i, .string ⟨((⟨0, 0, []⟩ : V)).s.toArray⟩], .bool false]) (by simp [results, Tryd.results39, go_sem, *]) rfl (retQ_no HNP.out ?_)
            ((repeat' (first | with_reducible exact Below.refl _ _ | with_reducible assumption | with_reducible refine Below.drew ?_ | with_reducible refine below_drewN ?_ _ | with_reducible refine Below.setCell ?_ ?_ _ | with_reducible refine Below.alloc ?_ ?_ _ | with_reducible refine Below.trans ?_ (Below.mono (by assumption) ?_))) <;> (first | (simp; done) | (simp; omega) | omega))
        · have hm2 : (acc == -9223372036854775808) = false := by rw [beq_eq_false_iff_ne]; exact hmin
          have q4 : -9223372036854775807 ≤ acc := by omega
          clear HBIG hmin q1
          have hkV2 := kV.set_ 1 (.int .i64 (-acc))
          have hkR2 := kR.far (p := ⟨g, 1, none⟩) ng (.int .i64 (-acc))
          have hkb2 : Below w.heap.size w (wv.setCell ⟨g, 1, none⟩ (.int .i64 (-acc))) := by ((repeat' (first | with_reducible exact Below.refl _ _ | with_reducible assumption | with_reducible refine Below.drew ?_ | with_reducible refine below_drewN ?_ _ | with_reducible refine Below.setCell ?_ ?_ _ | with_reducible refine Below.alloc ?_ ?_ _ | with_reducible refine Below.trans ?_ (Below.mono (by assumption) ?_))) <;> (first | (simp; done) | (simp; omega) | omega))
          have q5 : (0 : Int) ≤ -acc := by omega
          have q6 : -acc ≤ 9223372036854775807 := by omega
          obtain ⟨wz, hwz⟩ : ∃ wz, wv.setCell ⟨g, 1, none⟩ (.int .i64 (-acc)) = wz := ⟨_, rfl⟩
          rw [hwz] at hkV2 hkR2 hkb2
          have HWZ := Lib.hid hwz
          clear hwz
          cases s with
          | nil =>
            go_upto_region 28 with fail
            rw [HWZ.out]
            clear HWZ y0 y1 y2 yf0 yf1 yf2 z0 z1 z2 zf0 zf1 zf2 kV kR kb kb2 lk lk2 hm2
            have kV : Blk wz g 23 #[.int .i64 1, .int .i64 (-acc), .string ⟨#[]⟩] := hkV2
            have kR := hkR2
            have kb := hkb2
            have kb2 := kb.size
            have lk := kV.lt
            have lk2 := kR.lt
            have HSH : Hid (∀ w' : World, Below wz.heap.size wz w' → (w'.cell? ⟨g, 0, none⟩ = some (.int .i64 ((⟨1, -acc, []⟩ : V)).k) ∧ w'.cell? ⟨g, 1, none⟩ = some (.int .i64 ((⟨1, -acc, []⟩ : V)).i) ∧ w'.cell? ⟨g, 2, none⟩ = some (.string ⟨((⟨1, -acc, []⟩ : V)).s.toArray⟩))) := fun w' h => (kV.below h kV.lt).three.1
            go_upto_region 28 with fail
            refine wp_region_held_drew (S := (fun w' => w'.cell? ⟨g, 0, none⟩ = some (.int .i64 ((⟨1, -acc, []⟩ : V)).k) ∧ w'.cell? ⟨g, 1, none⟩ = some (.int .i64 ((⟨1, -acc, []⟩ : V)).i) ∧ w'.cell? ⟨g, 2, none⟩ = some (.string ⟨((⟨1, -acc, []⟩ : V)).s.toArray⟩))) (by kernel_rfl) ?_ (fun hHeld => ?_)
            · try dsimp only
              first | (refine HSH.out _ ?_; ((repeat' (first | with_reducible exact Below.refl _ _ | with_reducible assumption | with_reducible refine Below.drew ?_ | with_reducible refine below_drewN ?_ _ | with_reducible refine Below.setCell ?_ ?_ _ | with_reducible refine Below.alloc ?_ ?_ _ | with_reducible refine Below.trans ?_ (Below.mono (by assumption) ?_))) <;> (first | (simp; done) | (simp; omega) | omega))) | (refine (fun (h : Blk _ g 23 #[.int .i64 1, .int .i64 (-acc), .string ⟨#[]⟩]) => h.three.1) ?_; ((repeat' (first | with_reducible assumption | with_reducible refine Blk.drew ?_ | with_reducible refine Blk.drewN ?_ _ | with_reducible refine Blk.set3 ?_ _ _ _ | with_reducible refine Blk.far ?_ ?_ _ | ((with_reducible refine Blk.new' _ _ _ _ ?_) <;> (first | (simp; done) | (simp; omega) | omega) <;> done) | with_reducible refine Blk.alloc ?_ _ | with_reducible refine Blk3.drew ?_ | with_reducible refine Blk3.drewN ?_ _ | ((with_reducible refine Blk3.new' _ _ _ _ _ _ ?_) <;> (first | (simp; done) | (simp; omega) | omega) <;> done) | with_reducible refine Blk3.alloc ?_ _ | with_reducible refine Blk3.far ?_ ?_ _ | with_reducible refine Blk3.below ?_ (by assumption) ?_ | with_reducible refine Blk.below ?_ (by assumption) ?_)) <;> (first | (simp; done) | (simp; omega) | omega)))
            refine wpAnyH_take (i := 0) (v := ?_) rfl (by kernel_rfl) (by kernel_rfl) (by kernel_rfl) (fun _ _ _ h => h) (Or.inl ⟨by rfl, ?_⟩) (by assumption) ?_
            rotate_left
            · intro wq hSw
              try dsimp only at hSw
              go_simp
              try with_reducible rfl
            try simp only [Act.put, List.getElem_toArray, List.getElem_cons_zero, List.setIfInBounds_toArray, List.set_cons_zero, List.set_cons_succ]
            refine wpAnyH_take (i := 1) (v := ?_) rfl (by kernel_rfl) (by kernel_rfl) (by kernel_rfl) (fun _ _ _ h => h) (Or.inl ⟨by rfl, ?_⟩) (by assumption) ?_
            rotate_left
            · intro wq hSw
              try dsimp only at hSw
              go_simp
              try with_reducible rfl
            try simp only [Act.put, List.getElem_toArray, List.getElem_cons_zero, List.getElem_cons_succ, List.setIfInBounds_toArray, List.set_cons_zero, List.set_cons_succ]
            refine wpAnyH_take (i := 3) (v := ?_) rfl (by kernel_rfl) (by kernel_rfl) (by kernel_rfl) (fun _ _ _ h => h) (Or.inl ⟨by rfl, ?_⟩) (by assumption) ?_
            rotate_left
            · intro wq hSw
              try dsimp only at hSw
              go_simp
              try with_reducible rfl
            try simp only [Act.put, List.getElem_toArray, List.getElem_cons_zero, List.getElem_cons_succ, List.setIfInBounds_toArray, List.set_cons_zero, List.set_cons_succ]
            refine wpAnyH_ready (rs := [2]) (by kernel_rfl) (by simp) ?_
            refine AllReadyH.cons rfl (fun K hK => ?_) AllReadyH.nil
            go_simp
            refine (rtext1_any (-acc) _ (by omega) (by omega)).mono ?_ <;> rintro e w5 ⟨rfl, hb5⟩ <;> have hz5 := hb5.size <;> obtain ⟨⟨n0, n1, n2⟩, m0, m1, m2⟩ := (Blk.below kR.drew hb5 lk2).three
            go_wp2_with fail
            refine hK.out _ _ ?_ (fun hHeld => ?_)
            · try dsimp only
              first | (refine HSH.out _ ?_; ((repeat' (first | with_reducible exact Below.refl _ _ | with_reducible assumption | with_reducible refine Below.drew ?_ | with_reducible refine below_drewN ?_ _ | with_reducible refine Below.setCell ?_ ?_ _ | with_reducible refine Below.alloc ?_ ?_ _ | with_reducible refine Below.trans ?_ (Below.mono (by assumption) ?_))) <;> (first | (simp; done) | (simp; omega) | omega))) | (refine (fun (h : Blk _ g 23 #[.int .i64 1, .int .i64 (-acc), .string ⟨#[]⟩]) => h.three.1) ?_; ((repeat' (first | with_reducible assumption | with_reducible refine Blk.drew ?_ | with_reducible refine Blk.drewN ?_ _ | with_reducible refine Blk.set3 ?_ _ _ _ | with_reducible refine Blk.far ?_ ?_ _ | ((with_reducible refine Blk.new' _ _ _ _ ?_) <;> (first | (simp; done) | (simp; omega) | omega) <;> done) | with_reducible refine Blk.alloc ?_ _ | with_reducible refine Blk3.drew ?_ | with_reducible refine Blk3.drewN ?_ _ | ((with_reducible refine Blk3.new' _ _ _ _ _ _ ?_) <;> (first | (simp; done) | (simp; omega) | omega) <;> done) | with_reducible refine Blk3.alloc ?_ _ | with_reducible refine Blk3.far ?_ ?_ _ | with_reducible refine Blk3.below ?_ (by assumption) ?_ | with_reducible refine Blk.below ?_ (by assumption) ?_)) <;> (first | (simp; done) | (simp; omega) | omega)))
            clear hK K
            try simp only [Act.put, List.getElem_toArray, List.getElem_cons_zero, List.getElem_cons_succ, List.setIfInBounds_toArray, List.set_cons_zero, List.set_cons_succ]
            refine wpAnyH_take (i := 4) (v := ?_) rfl (by kernel_rfl) (by kernel_rfl) (by kernel_rfl) (fun _ _ _ h => h) (Or.inl ⟨by rfl, ?_⟩) (by assumption) ?_
            rotate_left
            · intro wq hSw
              try dsimp only at hSw
              go_simp
              try with_reducible rfl
            try simp only [Act.put, List.getElem_toArray, List.getElem_cons_zero, List.getElem_cons_succ, List.setIfInBounds_toArray, List.set_cons_zero, List.set_cons_succ]
            refine wpAnyH_ready (rs := [5]) (by kernel_rfl) (by simp) ?_
            refine AllReadyH.cons rfl (fun K hK => ?_) AllReadyH.nil
            go_simp
            skip
            go_wp2_with fail
            refine hK.out _ _ ?_ (fun hHeld => ?_)
            · try dsimp only
              first | (refine HSH.out _ ?_; ((repeat' (first | with_reducible exact Below.refl _ _ | with_reducible assumption | with_reducible refine Below.drew ?_ | with_reducible refine below_drewN ?_ _ | with_reducible refine Below.setCell ?_ ?_ _ | with_reducible refine Below.alloc ?_ ?_ _ | with_reducible refine Below.trans ?_ (Below.mono (by assumption) ?_))) <;> (first | (simp; done) | (simp; omega) | omega))) | (refine (fun (h : Blk _ g 23 #[.int .i64 1, .int .i64 (-acc), .string ⟨#[]⟩]) => h.three.1) ?_; ((repeat' (first | with_reducible assumption | with_reducible refine Blk.drew ?_ | with_reducible refine Blk.drewN ?_ _ | with_reducible refine Blk.set3 ?_ _ _ _ | with_reducible refine Blk.far ?_ ?_ _ | ((with_reducible refine Blk.new' _ _ _ _ ?_) <;> (first | (simp; done) | (simp; omega) | omega) <;> done) | with_reducible refine Blk.alloc ?_ _ | with_reducible refine Blk3.drew ?_ | with_reducible refine Blk3.drewN ?_ _ | ((with_reducible refine Blk3.new' _ _ _ _ _ _ ?_) <;> (first | (simp; done) | (simp; omega) | omega) <;> done) | with_reducible refine Blk3.alloc ?_ _ | with_reducible refine Blk3.far ?_ ?_ _ | with_reducible refine Blk3.below ?_ (by assumption) ?_ | with_reducible refine Blk.below ?_ (by assumption) ?_)) <;> (first | (simp; done) | (simp; omega) | omega)))
            clear hK K
            try simp only [Act.put, List.getElem_toArray, List.getElem_cons_zero, List.getElem_cons_succ, List.setIfInBounds_toArray, List.set_cons_zero, List.set_cons_succ]
            refine wpAnyH_take (i := 6) (v := ?_) rfl (by kernel_rfl) (by kernel_rfl) (by kernel_rfl) (fun _ _ _ h => h) (Or.inl ⟨by rfl, ?_⟩) (by assumption) ?_
            rotate_left
            · intro wq hSw
              try dsimp only at hSw
              go_simp
              try with_reducible rfl
            try simp only [Act.put, List.getElem_toArray, List.getElem_cons_zero, List.getElem_cons_succ, List.setIfInBounds_toArray, List.set_cons_zero, List.set_cons_succ]
            refine wpAnyH_done (by kernel_rfl) ?_ _
            go_wp2_with fail
            refine bodyPost_ret (v := .tuple #[.agg #[.int .i64 ((⟨1, -acc, []⟩ : V)).k, .int .i64 ((⟨1, -acc, []⟩ : V)).i, .string ⟨((⟨1, -acc, []⟩ : V)).s.toArray⟩], .bool (Lib.itoa (-acc) == [])]) (by simp [results, Tryd.results39, go_sem, *]) rfl (retQ_num (by omega) (by omega) HONE.out ?_)
            ((repeat' (first | with_reducible exact Below.refl _ _ | with_reducible assumption | with_reducible refine Below.drew ?_ | with_reducible refine below_drewN ?_ _ | with_reducible refine Below.setCell ?_ ?_ _ | with_reducible refine Below.alloc ?_ ?_ _ | with_reducible refine Below.trans ?_ (Below.mono (by assumption) ?_))) <;> (first | (simp; done) | (simp; omega) | omega))
          | cons c r =>
            have e2 : ((c.toNat : Int) != 45) = true := by
              simp only [negB, decide_eq_false_iff_not] at hng
              rw [bne_iff_ne]; omega
            have hs2 : r.length ≤ 999999 := by simp at hs; omega
            clear hng hs
            go_upto_region 28 with fail
            rw [HWZ.out]
            clear HWZ y0 y1 y2 yf0 yf1 yf2 z0 z1 z2 zf0 zf1 zf2 kV kR kb kb2 lk lk2 hm2
            have kV : Blk wz g 23 #[.int .i64 1, .int .i64 (-acc), .string ⟨#[]⟩] := hkV2
            have kR := hkR2
            have kb := hkb2
            have kb2 := kb.size
            have lk := kV.lt
            have lk2 := kR.lt
            have HSH : Hid (∀ w' : World, Below wz.heap.size wz w' → (w'.cell? ⟨g, 0, none⟩ = some (.int .i64 ((⟨1, -acc, []⟩ : V)).k) ∧ w'.cell? ⟨g, 1, none⟩ = some (.int .i64 ((⟨1, -acc, []⟩ : V)).i) ∧ w'.cell? ⟨g, 2, none⟩ = some (.string ⟨((⟨1, -acc, []⟩ : V)).s.toArray⟩))) := fun w' h => (kV.below h kV.lt).three.1
            go_upto_region 28 with fail
            refine wp_region_held_drew (S := (fun w' => w'.cell? ⟨g, 0, none⟩ = some (.int .i64 ((⟨1, -acc, []⟩ : V)).k) ∧ w'.cell? ⟨g, 1, none⟩ = some (.int .i64 ((⟨1, -acc, []⟩ : V)).i) ∧ w'.cell? ⟨g, 2, none⟩ = some (.string ⟨((⟨1, -acc, []⟩ : V)).s.toArray⟩))) (by kernel_rfl) ?_ (fun hHeld => ?_)
            · try dsimp only
              first | (refine HSH.out _ ?_; ((repeat' (first | with_reducible exact Below.refl _ _ | with_reducible assumption | with_reducible refine Below.drew ?_ | with_reducible refine below_drewN ?_ _ | with_reducible refine Below.setCell ?_ ?_ _ | with_reducible refine Below.alloc ?_ ?_ _ | with_reducible refine Below.trans ?_ (Below.mono (by assumption) ?_))) <;> (first | (simp; done) | (simp; omega) | omega))) | (refine (fun (h : Blk _ g 23 #[.int .i64 1, .int .i64 (-acc), .string ⟨#[]⟩]) => h.three.1) ?_; ((repeat' (first | with_reducible assumption | with_reducible refine Blk.drew ?_ | with_reducible refine Blk.drewN ?_ _ | with_reducible refine Blk.set3 ?_ _ _ _ | with_reducible refine Blk.far ?_ ?_ _ | ((with_reducible refine Blk.new' _ _ _ _ ?_) <;> (first | (simp; done) | (simp; omega) | omega) <;> done) | with_reducible refine Blk.alloc ?_ _ | with_reducible refine Blk3.drew ?_ | with_reducible refine Blk3.drewN ?_ _ | ((with_reducible refine Blk3.new' _ _ _ _ _ _ ?_) <;> (first | (simp; done) | (simp; omega) | omega) <;> done) | with_reducible refine Blk3.alloc ?_ _ | with_reducible refine Blk3.far ?_ ?_ _ | with_reducible refine Blk3.below ?_ (by assumption) ?_ | with_reducible refine Blk.below ?_ (by assumption) ?_)) <;> (first | (simp; done) | (simp; omega) | omega)))
            refine wpAnyH_take (i := 0) (v := ?_) rfl (by kernel_rfl) (by kernel_rfl) (by kernel_rfl) (fun _ _ _ h => h) (Or.inl ⟨by rfl, ?_⟩) (by assumption) ?_
            rotate_left
            · intro wq hSw
              try dsimp only at hSw
              go_simp
              try with_reducible rfl
            try simp only [Act.put, List.getElem_toArray, List.getElem_cons_zero, List.setIfInBounds_toArray, List.set_cons_zero, List.set_cons_succ]
            refine wpAnyH_take (i := 1) (v := ?_) rfl (by kernel_rfl) (by kernel_rfl) (by kernel_rfl) (fun _ _ _ h => h) (Or.inl ⟨by rfl, ?_⟩) (by assumption) ?_
            rotate_left
            · intro wq hSw
              try dsimp only at hSw
              go_simp
              try with_reducible rfl
            try simp only [Act.put, List.getElem_toArray, List.getElem_cons_zero, List.getElem_cons_succ, List.setIfInBounds_toArray, List.set_cons_zero, List.set_cons_succ]
            refine wpAnyH_take (i := 3) (v := ?_) rfl (by kernel_rfl) (by kernel_rfl) (by kernel_rfl) (fun _ _ _ h => h) (Or.inl ⟨by rfl, ?_⟩) (by assumption) ?_
            rotate_left
            · intro wq hSw
              try dsimp only at hSw
              go_simp
              try with_reducible rfl
            try simp only [Act.put, List.getElem_toArray, List.getElem_cons_zero, List.getElem_cons_succ, List.setIfInBounds_toArray, List.set_cons_zero, List.set_cons_succ]
            refine wpAnyH_ready (rs := [2]) (by kernel_rfl) (by simp) ?_
            refine AllReadyH.cons rfl (fun K hK => ?_) AllReadyH.nil
            go_simp
            refine (rtext1_any (-acc) _ (by omega) (by omega)).mono ?_ <;> rintro e w5 ⟨rfl, hb5⟩ <;> have hz5 := hb5.size <;> obtain ⟨⟨n0, n1, n2⟩, m0, m1, m2⟩ := (Blk.below kR.drew hb5 lk2).three
            go_wp2_with fail
            refine hK.out _ _ ?_ (fun hHeld => ?_)
            · try dsimp only
              first | (refine HSH.out _ ?_; ((repeat' (first | with_reducible exact Below.refl _ _ | with_reducible assumption | with_reducible refine Below.drew ?_ | with_reducible refine below_drewN ?_ _ | with_reducible refine Below.setCell ?_ ?_ _ | with_reducible refine Below.alloc ?_ ?_ _ | with_reducible refine Below.trans ?_ (Below.mono (by assumption) ?_))) <;> (first | (simp; done) | (simp; omega) | omega))) | (refine (fun (h : Blk _ g 23 #[.int .i64 1, .int .i64 (-acc), .string ⟨#[]⟩]) => h.three.1) ?_; ((repeat' (first | with_reducible assumption | with_reducible refine Blk.drew ?_ | with_reducible refine Blk.drewN ?_ _ | with_reducible refine Blk.set3 ?_ _ _ _ | with_reducible refine Blk.far ?_ ?_ _ | ((with_reducible refine Blk.new' _ _ _ _ ?_) <;> (first | (simp; done) | (simp; omega) | omega) <;> done) | with_reducible refine Blk.alloc ?_ _ | with_reducible refine Blk3.drew ?_ | with_reducible refine Blk3.drewN ?_ _ | ((with_reducible refine Blk3.new' _ _ _ _ _ _ ?_) <;> (first | (simp; done) | (simp; omega) | omega) <;> done) | with_reducible refine Blk3.alloc ?_ _ | with_reducible refine Blk3.far ?_ ?_ _ | with_reducible refine Blk3.below ?_ (by assumption) ?_ | with_reducible refine Blk.below ?_ (by assumption) ?_)) <;> (first | (simp; done) | (simp; omega) | omega)))
            clear hK K
            try simp only [Act.put, List.getElem_toArray, List.getElem_cons_zero, List.getElem_cons_succ, List.setIfInBounds_toArray, List.set_cons_zero, List.set_cons_succ]
            refine wpAnyH_take (i := 4) (v := ?_) rfl (by kernel_rfl) (by kernel_rfl) (by kernel_rfl) (fun _ _ _ h => h) (Or.inl ⟨by rfl, ?_⟩) (by assumption) ?_
            rotate_left
            · intro wq hSw
              try dsimp only at hSw
              go_simp
              try with_reducible rfl
            try simp only [Act.put, List.getElem_toArray, List.getElem_cons_zero, List.getElem_cons_succ, List.setIfInBounds_toArray, List.set_cons_zero, List.set_cons_succ]
            refine wpAnyH_ready (rs := [5]) (by kernel_rfl) (by simp) ?_
            refine AllReadyH.cons rfl (fun K hK => ?_) AllReadyH.nil
            go_simp
            skip
            go_wp2_with fail
            refine hK.out _ _ ?_ (fun hHeld => ?_)
            · try dsimp only
              first | (refine HSH.out _ ?_; ((repeat' (first | with_reducible exact Below.refl _ _ | with_reducible assumption | with_reducible refine Below.drew ?_ | with_reducible refine below_drewN ?_ _ | with_reducible refine Below.setCell ?_ ?_ _ | with_reducible refine Below.alloc ?_ ?_ _ | with_reducible refine Below.trans ?_ (Below.mono (by assumption) ?_))) <;> (first | (simp; done) | (simp; omega) | omega))) | (refine (fun (h : Blk _ g 23 #[.int .i64 1, .int .i64 (-acc), .string ⟨#[]⟩]) => h.three.1) ?_; ((repeat' (first | with_reducible assumption | with_reducible refine Blk.drew ?_ | with_reducible refine Blk.drewN ?_ _ | with_reducible refine Blk.set3 ?_ _ _ _ | with_reducible refine Blk.far ?_ ?_ _ | ((with_reducible refine Blk.new' _ _ _ _ ?_) <;> (first | (simp; done) | (simp; omega) | omega) <;> done) | with_reducible refine Blk.alloc ?_ _ | with_reducible refine Blk3.drew ?_ | with_reducible refine Blk3.drewN ?_ _ | ((with_reducible refine Blk3.new' _ _ _ _ _ _ ?_) <;> (first | (simp; done) | (simp; omega) | omega) <;> done) | with_reducible refine Blk3.alloc ?_ _ | with_reducible refine Blk3.far ?_ ?_ _ | with_reducible refine Blk3.below ?_ (by assumption) ?_ | with_reducible refine Blk.below ?_ (by assumption) ?_)) <;> (first | (simp; done) | (simp; omega) | omega)))
            clear hK K
            try simp only [Act.put, List.getElem_toArray, List.getElem_cons_zero, List.getElem_cons_succ, List.setIfInBounds_toArray, List.set_cons_zero, List.set_cons_succ]
            refine wpAnyH_take (i := 6) (v := ?_) rfl (by kernel_rfl) (by kernel_rfl) (by kernel_rfl) (fun _ _ _ h => h) (Or.inl ⟨by rfl, ?_⟩) (by assumption) ?_
            rotate_left
            · intro wq hSw
              try dsimp only at hSw
              go_simp
              try with_reducible rfl
            try simp only [Act.put, List.getElem_toArray, List.getElem_cons_zero, List.getElem_cons_succ, List.setIfInBounds_toArray, List.set_cons_zero, List.set_cons_succ]
            refine wpAnyH_done (by kernel_rfl) ?_ _
            go_wp2_with fail
            refine bodyPost_ret (v := .tuple #[.agg #[.int .i64 ((⟨1, -acc, []⟩ : V)).k, .int .i64 ((⟨1, -acc, []⟩ : V)).i, .string ⟨((⟨1, -acc, []⟩ : V)).s.toArray⟩], .bool (Lib.itoa (-acc) == c :: r)]) (by simp [results, Tryd.results39, go_sem, *]) rfl (retQ_num (by omega) (by omega) HONE.out ?_)
            ((repeat' (first | with_reducible exact Below.refl _ _ | with_reducible assumption | with_reducible refine Below.drew ?_ | with_reducible refine below_drewN ?_ _ | with_reducible refine Below.setCell ?_ ?_ _ | with_reducible refine Below.alloc ?_ ?_ _ | with_reducible refine Below.trans ?_ (Below.mono (by assumption) ?_))) <;> (first | (simp; done) | (simp; omega) | omega))

end Go.Proofs.YtdoonajhplcmlaaDoor
