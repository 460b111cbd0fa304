/- code.First of a text. Condition: the text is shorter than 2^62. -/
import Derived.Test.YtkeeekifejholaaFirst
namespace Go.Proofs.Ytkeeekifejholaa
open Go.RowKit

attribute [local go_sem] ByteArray.extract_mk ba_get ba_append
attribute [local go_sem ↓] Go.wp_at_zero Go.wp_at_succ



set_option maxRecDepth 100000 in
set_option maxHeartbeats 1000000 in
theorem first_text_ok (t rest : List UInt8) (w : World) (hs : t.length + rest.length ≤ 4611686018427387900) (ht : ∀ c ∈ t, c ≠ 0) (v : V) (n e : Int)
    (hm : (mayB 2 0 t = true ∧ v = ⟨2, 0, t⟩ ∧ n = (t.length : Int) + 2 ∧ e = 0) ∨ (mayB 2 0 t = false ∧ v = ⟨0, 0, []⟩ ∧ n = 0 ∧ e = 3)) :
    Calls Try.prog 34 #[.string ⟨((2 : UInt8) :: (t ++ 0 :: rest)).toArray⟩] w (Ret3 v n e w) := by
  have HMM := Lib.hid hm
  clear hm
  have HT := Lib.hid ht
  clear ht
  have hmf : ∀ (fn : Fn) (first cap : Array Value) (w : World), (Instr.makeFunc fn first cap).run Try.prog w = .ok (.func fn first cap) w := fun _ _ _ _ => rfl
  go_enter Try.func34, Try.ntmps34
  go_wp2_with fail
  refine (octet_one (w.heap.size + 1) ((2 : UInt8) :: (t ++ 0 :: rest)) 0 _ (by simp; omega) (by simp) (rd_new w _)).mono ?_
  rintro e' w1 ⟨rfl, hrd1, hg1⟩
  rw [show ((((2 : UInt8) :: (t ++ 0 :: rest))[0]).toNat : Int) = 2 from rfl]
  obtain ⟨hres1, hbb1, hz1⟩ := after_one hg1
  clear hg1
  obtain ⟨s, hse⟩ : ∃ s, (2 : UInt8) :: (t ++ 0 :: rest) = s := ⟨_, rfl⟩
  rw [hse] at hrd1 ⊢
  have HSE := Lib.hid hse
  have hslen : s.length = t.length + rest.length + 2 := by rw [← hse]; simp; omega
  clear hse
  have hresA := hres1.alloc (.cells #[.int .i64 2, .int .i64 0, .string ⟨#[]⟩] 31)
  have hvA := Blk.new w1 31 #[.int .i64 2, .int .i64 0, .string ⟨#[]⟩]
  have hrdA : Rd (w1.alloc (.cells #[.int .i64 2, .int .i64 0, .string ⟨#[]⟩] 31)) (w.heap.size + 1) s 1 := Blk.alloc hrd1 _
  have hbbA : Below w.heap.size w (w1.alloc (.cells #[.int .i64 2, .int .i64 0, .string ⟨#[]⟩] 31)) := by ((repeat' (first | with_reducible exact Below.refl _ _ | with_reducible assumption | with_reducible refine Below.drew ?_ | with_reducible refine below_drewN ?_ _ | with_reducible refine Below.setCell ?_ ?_ _ | with_reducible refine Below.alloc ?_ ?_ _ | with_reducible refine Below.trans ?_ (Below.mono (by assumption) ?_))) <;> (first | (simp; done) | (simp; omega) | omega))
  have HL := Lib.hid hslen
  clear hslen hres1 hrd1 hbb1
  go_wp2_with fail
  obtain ⟨W0, hW0⟩ : ∃ W0, w1.alloc (.cells #[.int .i64 2, .int .i64 0, .string ⟨#[]⟩] 31) = W0 := ⟨_, rfl⟩
  have hz0 : w1.heap.size < W0.heap.size := by rw [← hW0]; simp
  rw [hW0] at hresA hvA hrdA hbbA ⊢
  clear hW0
  go_loopg [8, 10] (t.length + 1) (fun gk s8 s10 wr => ∃ j C : Nat, j + gk = t.length + 1 ∧ s8 = .bool true ∧ s10 = .int .u8 C ∧ Hid (((C : Int) != 0) = decide (j ≤ t.length)) ∧ Rd wr (w.heap.size + 1) s (1 + j) ∧ W0.grownBy wr (some (w.heap.size + 1)))
  case atStart => exact ⟨0, 1, by omega, rfl, rfl, by simp [Hid], hrdA, World.grownBy.refl _ _⟩
  case round =>
    obtain ⟨j, C, hj, rfl, rfl, hC, hrd, hg⟩ := hrel
    have HJ := Lib.hid hj
    by_cases hlt : j ≤ t.length
    · have hc : ((C : Int) != 0) = true := by rw [hC.out]; simpa using hlt
      have hin : 1 + j < s.length := by have := HL.out; omega
      have hsj : s[1 + j] = if h : j < t.length then t[j] else 0 := by
        have := HSE.out
        subst this
        rw [List.getElem_cons]
        simp only [show ¬ 1 + j = 0 by omega, dite_false, show 1 + j - 1 = j by omega]
        split
        · rename_i h; rw [List.getElem_append_left h]
        · rename_i h; rw [List.getElem_append_right (by omega)]; simp [show j - t.length = 0 by omega]
      have hnz : Hid (((s[1 + j].toNat : Int) != 0) = decide (j + 1 ≤ t.length)) := by
        show ((s[1 + j].toNat : Int) != 0) = decide (j + 1 ≤ t.length)
        rw [hsj]
        by_cases h : j < t.length
        · have hne := HT.out t[j] (List.getElem_mem h)
          have : t[j].toNat ≠ 0 := fun e => hne (UInt8.toNat_inj.1 (by simpa using e))
          rw [dif_pos h]
          simp only [show j + 1 ≤ t.length from h, decide_true]
          simpa using this
        · rw [dif_neg h]
          simp only [show ¬ j + 1 ≤ t.length from h, decide_false]
          rfl
      obtain ⟨g', rfl⟩ : ∃ g', gk = g' + 1 := ⟨gk - 1, by omega⟩
      have hlim : s.length ≤ 4611686018427387904 := by have := HL.out; omega
      clear hj hC hsj
      go_wp2_with fail
      refine (octet_one (w.heap.size + 1) s (1 + j) _ hlim hin hrd).mono ?_
      rintro e' w2 ⟨rfl, hrd2, hg2⟩
      go_wp2
      go_roundg g'
      case measure => omega
      case rel => exact ⟨j + 1, s[1 + j].toNat, by have := HJ.out; omega, rfl, rfl, hnz, hrd2, only_trans hg hg2⟩
    · have hc : ((C : Int) != 0) = false := by rw [hC.out]; simpa using hlt
      have hres2 := hresA.grown hg (by simp)
      have hv2 := hvA.grown hg (by simp; omega)
      have hbb2 : Below w.heap.size w wr := only_below hbbA hg (by omega) (by omega)
      have hz2 := hg.size
      have hj2 : j = t.length + 1 := by omega
      have hrd2 : Rd wr (w.heap.size + 1) s (t.length + 2) := by rw [show t.length + 2 = 1 + j by omega]; exact hrd
      obtain ⟨⟨v0, v1, v2⟩, f0, f1, f2⟩ := hv2.three
      obtain ⟨⟨q0, q1⟩, _, _⟩ := Blk.two hrd2
      have hbnd : t.length + 1 ≤ s.length := by have := HL.out; omega
      have hlim : s.length ≤ 4611686018427387904 := by have := HL.out; omega
      clear hj hC hrd hg hresA hvA hrdA hbbA hj2 hlt
      go_wp2_with fail
      have hcut : List.take t.length s.tail = t := by rw [← HSE.out]; simp
      rw [hcut]
      clear v0 v1 v2 f0 f1 f2 q0 q1 hcut
      have hresT := hres2.far (p := ⟨w1.heap.size, 2, none⟩) (by show w.heap.size ≠ w1.heap.size; omega) (.string ⟨t.toArray⟩)
      have hrdT := Blk.far hrd2 (p := ⟨w1.heap.size, 2, none⟩) (by show w.heap.size + 1 ≠ w1.heap.size; omega) (.string ⟨t.toArray⟩)
      have hvT := hv2.set_ 2 (.string ⟨t.toArray⟩)
      have hbbT := hbb2.setCell (p := ⟨w1.heap.size, 2, none⟩) (by show w.heap.size ≤ w1.heap.size; omega) (.string ⟨t.toArray⟩)
      clear hres2 hrd2 hv2 hbb2
      rcases HMM.out with hm | hm
      · have HM := Lib.hid hm.1
        have HV := Lib.hid hm.2
        clear hm HMM
        refine (may_any _ _ _ _).mono ?_
        rintro e' w9 ⟨rfl, hbT⟩
        rw [HM.out]
        have hresT3 := (hresT.below hbT (by first | (simp; done) | (simp; omega))).three
        have hrdT3 := (Blk.below hrdT hbT (by first | (simp; done) | (simp; omega))).two
        have hvT3 := (hvT.below hbT (by first | (simp; done) | (simp; omega))).three
        have hzT := hbT.size
        simp at hzT
        have hbbT2 : Below w.heap.size w w9 := hbbT.trans (hbT.mono (by simp; omega))
        obtain ⟨⟨a0, a1, a2⟩, b0, b1, b2⟩ := hresT3
        obtain ⟨⟨c0, c1⟩, d0, d1⟩ := hrdT3
        obtain ⟨⟨x0, x1, x2⟩, y0, y1, y2⟩ := hvT3
        clear hresT hrdT hvT hbT hbbT
        go_wp2_with fail
        go_region
        all_goals go_wp2
        all_goals refine bodyPost_ret (v := .tuple #[.agg #[.int .i64 2, .int .i64 0, .string ⟨t.toArray⟩], .int .i64 ((t.length : Int) + 2), .int .i64 0]) (by simp [results, Try.results34, go_sem, a0, a1, a2]) rfl ⟨?_, ?_⟩
        all_goals first | (rw [HV.out.1, HV.out.2.1, HV.out.2.2]; done) | ((repeat' (first | with_reducible exact Below.refl _ _ | with_reducible assumption | with_reducible refine Below.drew ?_ | with_reducible refine below_drewN ?_ _ | with_reducible refine Below.setCell ?_ ?_ _ | with_reducible refine Below.alloc ?_ ?_ _ | with_reducible refine Below.trans ?_ (Below.mono (by assumption) ?_))) <;> (first | (simp; done) | (simp; omega) | omega))
      · have HM := Lib.hid hm.1
        have HV := Lib.hid hm.2
        clear hm HMM
        refine (may_any _ _ _ _).mono ?_
        rintro e' w9 ⟨rfl, hbT⟩
        rw [HM.out]
        have hresT3 := (hresT.below hbT (by first | (simp; done) | (simp; omega))).three
        have hrdT3 := (Blk.below hrdT hbT (by first | (simp; done) | (simp; omega))).two
        have hvT3 := (hvT.below hbT (by first | (simp; done) | (simp; omega))).three
        have hzT := hbT.size
        simp at hzT
        have hbbT2 : Below w.heap.size w w9 := hbbT.trans (hbT.mono (by simp; omega))
        obtain ⟨⟨a0, a1, a2⟩, b0, b1, b2⟩ := hresT3
        obtain ⟨⟨c0, c1⟩, d0, d1⟩ := hrdT3
        obtain ⟨⟨x0, x1, x2⟩, y0, y1, y2⟩ := hvT3
        clear hresT hrdT hvT hbT hbbT
        go_wp2
        refine bodyPost_ret (v := .tuple #[.agg #[.int .i64 0, .int .i64 0, .string ⟨#[]⟩], .int .i64 0, .int .i64 3]) (by simp [results, Try.results34, go_sem, a0, a1, a2]) rfl ⟨?_, ?_⟩
        all_goals first | (rw [HV.out.1, HV.out.2.1, HV.out.2.2]; done) | ((repeat' (first | with_reducible exact Below.refl _ _ | with_reducible assumption | with_reducible refine Below.drew ?_ | with_reducible refine below_drewN ?_ _ | with_reducible refine Below.setCell ?_ ?_ _ | with_reducible refine Below.alloc ?_ ?_ _ | with_reducible refine Below.trans ?_ (Below.mono (by assumption) ?_))) <;> (first | (simp; done) | (simp; omega) | omega))

end Go.Proofs.Ytkeeekifejholaa
