/- code.First of a text without an end, of a Bool, of another kind. Condition: the text is shorter than 2^62. -/
import Derived.Test.YtkeeekifejholaaFirst
namespace Go.Proofs.Ytkeeekifejholaa
open Go.RowKit

attribute [local go_sem] ByteArray.extract_mk ba_get ba_append
attribute [local go_sem ↓] Go.wp_at_zero Go.wp_at_succ




set_option maxRecDepth 100000 in
set_option maxHeartbeats 1000000 in
theorem first_text_short (r : List UInt8) (w : World) (hs : r.length ≤ 4611686018427387900) (ht : ∀ c ∈ r, c ≠ 0) :
    Calls Try.prog 34 #[.string ⟨((2 : UInt8) :: r).toArray⟩] w (Ret3 ⟨0, 0, []⟩ 0 17 w) := by
  have HT := Lib.hid ht
  clear ht
  have hmf : ∀ (fn : Fn) (first cap : Array Value) (w : World), (Instr.makeFunc fn first cap).run Try.prog w = .ok (.func fn first cap) w := fun _ _ _ _ => rfl
  go_enter Try.func34, Try.ntmps34
  go_wp2_with fail
  refine (octet_one (w.heap.size + 1) ((2 : UInt8) :: r) 0 _ (by simp; omega) (by simp) (rd_new w _)).mono ?_
  rintro e' w1 ⟨rfl, hrd1, hg1⟩
  rw [show ((((2 : UInt8) :: r)[0]).toNat : Int) = 2 from rfl]
  obtain ⟨hres1, hbb1, hz1⟩ := after_one hg1
  clear hg1
  obtain ⟨s, hse⟩ : ∃ s, (2 : UInt8) :: r = s := ⟨_, rfl⟩
  rw [hse] at hrd1 ⊢
  have HSE := Lib.hid hse
  have hslen : s.length = r.length + 1 := by rw [← hse]; simp
  clear hse
  have hresA := hres1.alloc (.cells #[.int .i64 2, .int .i64 0, .string ⟨#[]⟩] 31)
  have hrdA : Rd (w1.alloc (.cells #[.int .i64 2, .int .i64 0, .string ⟨#[]⟩] 31)) (w.heap.size + 1) s 1 := Blk.alloc hrd1 _
  have hbbA : Below w.heap.size w (w1.alloc (.cells #[.int .i64 2, .int .i64 0, .string ⟨#[]⟩] 31)) := by ((repeat' (first | with_reducible exact Below.refl _ _ | with_reducible assumption | with_reducible refine Below.drew ?_ | with_reducible refine below_drewN ?_ _ | with_reducible refine Below.setCell ?_ ?_ _ | with_reducible refine Below.alloc ?_ ?_ _ | with_reducible refine Below.trans ?_ (Below.mono (by assumption) ?_))) <;> (first | (simp; done) | (simp; omega) | omega))
  have HL := Lib.hid hslen
  have hlim : s.length ≤ 4611686018427387904 := by have := HL.out; omega
  clear hslen hres1 hrd1 hbb1
  go_wp2_with fail
  obtain ⟨W0, hW0⟩ : ∃ W0, w1.alloc (.cells #[.int .i64 2, .int .i64 0, .string ⟨#[]⟩] 31) = W0 := ⟨_, rfl⟩
  have hz0 : w1.heap.size < W0.heap.size := by rw [← hW0]; simp
  rw [hW0] at hresA hrdA hbbA ⊢
  clear hW0
  go_loopg [8, 10] (r.length + 1) (fun gk s8 s10 wr => ((∃ j C : Nat, j + gk = r.length + 1 ∧ j ≤ r.length ∧ s8 = .bool true ∧ s10 = .int .u8 C ∧ Hid (((C : Int) != 0) = true) ∧ Rd wr (w.heap.size + 1) s (1 + j)) ∨ (s8 = .bool false ∧ s10 = .int .u8 0)) ∧ W0.grownBy wr (some (w.heap.size + 1)))
  case atStart => exact ⟨.inl ⟨0, 1, by omega, by omega, rfl, rfl, by simp [Hid], hrdA⟩, World.grownBy.refl _ _⟩
  case round =>
    obtain ⟨⟨j, C, hj, hjr, rfl, rfl, hC, hrd⟩ | ⟨rfl, rfl⟩, hg⟩ := hrel
    · have HJ := Lib.hid hj
      have hc : ((C : Int) != 0) = true := hC.out
      obtain ⟨g', rfl⟩ : ∃ g', gk = g' + 1 := ⟨gk - 1, by omega⟩
      clear hj hC
      by_cases hlt : j < r.length
      · have hin : 1 + j < s.length := by have := HL.out; omega
        have hsj : s[1 + j] = r[j] := by
          have := HSE.out
          subst this
          rw [List.getElem_cons]
          simp only [show ¬ 1 + j = 0 by omega, dite_false, show 1 + j - 1 = j by omega]
        have hnz : Hid (((s[1 + j].toNat : Int) != 0) = true) := by
          show ((s[1 + j].toNat : Int) != 0) = true
          rw [hsj]
          have hne := HT.out r[j] (List.getElem_mem hlt)
          have : r[j].toNat ≠ 0 := fun e => hne (UInt8.toNat_inj.1 (by simpa using e))
          simpa using this
        clear hsj
        go_wp2_with fail
        refine (octet_one (w.heap.size + 1) s (1 + j) _ hlim hin hrd).mono ?_
        rintro e' w2 ⟨rfl, hrd2, hg2⟩
        go_wp2
        go_roundg g'
        case measure => omega
        case rel => exact ⟨.inl ⟨j + 1, s[1 + j].toNat, by have := HJ.out; omega, by omega, rfl, rfl, hnz, hrd2⟩, only_trans hg hg2⟩
      · go_wp2_with fail
        refine (octet_end (w.heap.size + 1) s (1 + j) _ (by have := HL.out; omega) hrd).mono ?_
        rintro e' w2 ⟨rfl, hrd2, hg2⟩
        go_wp2
        go_roundg g'
        case measure => omega
        case rel => exact ⟨.inr ⟨rfl, rfl⟩, only_trans hg hg2⟩
    · have hres2 := hresA.grown hg (by simp)
      have hbb2 : Below w.heap.size w wr := only_below hbbA hg (by omega) (by omega)
      obtain ⟨⟨a0, a1, a2⟩, b0, b1, b2⟩ := hres2.three
      clear hg hresA hrdA hbbA hres2
      go_wp2
      refine bodyPost_ret (v := .tuple #[.agg #[.int .i64 0, .int .i64 0, .string ⟨#[]⟩], .int .i64 0, .int .i64 17]) (by simp [results, Try.results34, go_sem, a0, a1, a2]) rfl ⟨rfl, ?_⟩
      ((repeat' (first | with_reducible exact Below.refl _ _ | with_reducible assumption | with_reducible refine Below.drew ?_ | with_reducible refine below_drewN ?_ _ | with_reducible refine Below.setCell ?_ ?_ _ | with_reducible refine Below.alloc ?_ ?_ _ | with_reducible refine Below.trans ?_ (Below.mono (by assumption) ?_))) <;> (first | (simp; done) | (simp; omega) | omega))

set_option maxRecDepth 100000 in
set_option maxHeartbeats 1000000 in
theorem first_bool_short (w : World) :
    Calls Try.prog 34 #[.string ⟨[(3 : UInt8)].toArray⟩] w (Ret3 ⟨0, 0, []⟩ 0 17 w) := by
  have hmf : ∀ (fn : Fn) (first cap : Array Value) (w : World), (Instr.makeFunc fn first cap).run Try.prog w = .ok (.func fn first cap) w := fun _ _ _ _ => rfl
  go_enter Try.func34, Try.ntmps34
  go_wp2_with fail
  refine (octet_one (w.heap.size + 1) [3] 0 _ (by simp) (by simp) (rd_new w _)).mono ?_
  rintro e' w1 ⟨rfl, hrd1, hg1⟩
  rw [show (([(3 : UInt8)][0]).toNat : Int) = 3 from rfl]
  obtain ⟨hres1, hbb1, hz1⟩ := after_one hg1
  clear hg1
  go_wp2_with fail
  refine (octet_end (w.heap.size + 1) [3] 1 _ rfl (Blk.alloc hrd1 _)).mono ?_
  rintro e' w2 ⟨rfl, hrd2, hg2⟩
  have hz2 := hg2.size
  simp at hz2
  have hres2 := (hres1.alloc (.cells #[.int .i64 3, .int .i64 0, .string ⟨#[]⟩] 31)).grown hg2 (by simp)
  have hv2 := (Blk.new w1 31 #[.int .i64 3, .int .i64 0, .string ⟨#[]⟩]).grown hg2 (by simp; omega)
  have hbb2 : Below w.heap.size w w2 := only_below (by ((repeat' (first | with_reducible exact Below.refl _ _ | with_reducible assumption | with_reducible refine Below.drew ?_ | with_reducible refine below_drewN ?_ _ | with_reducible refine Below.setCell ?_ ?_ _ | with_reducible refine Below.alloc ?_ ?_ _ | with_reducible refine Below.trans ?_ (Below.mono (by assumption) ?_))) <;> (first | (simp; done) | (simp; omega) | omega))) hg2 (by simp; omega) (by omega)
  clear hg2
  obtain ⟨⟨v0, v1, v2⟩, f0, f1, f2⟩ := hv2.three
  obtain ⟨⟨a0, a1, a2⟩, b0, b1, b2⟩ := hres2.three
  clear hres1 hres2 hrd1 hrd2 hv2 hbb1
  go_wp2
  refine bodyPost_ret (v := .tuple #[.agg #[.int .i64 0, .int .i64 0, .string ⟨#[]⟩], .int .i64 0, .int .i64 17]) (by simp [results, Try.results34, go_sem, a0, a1, a2]) rfl ⟨rfl, ?_⟩
  ((repeat' (first | with_reducible exact Below.refl _ _ | with_reducible assumption | with_reducible refine Below.drew ?_ | with_reducible refine below_drewN ?_ _ | with_reducible refine Below.setCell ?_ ?_ _ | with_reducible refine Below.alloc ?_ ?_ _ | with_reducible refine Below.trans ?_ (Below.mono (by assumption) ?_))) <;> (first | (simp; done) | (simp; omega) | omega))

set_option maxRecDepth 100000 in
set_option maxHeartbeats 1000000 in
theorem first_bool_ok (x : UInt8) (r : List UInt8) (w : World) (hs : r.length ≤ 4611686018427387900) (v : V) (n e : Int)
    (hm : (mayB 3 (x.toNat : Int) [] = true ∧ v = ⟨3, (x.toNat : Int), []⟩ ∧ n = 2 ∧ e = 0) ∨ (mayB 3 (x.toNat : Int) [] = false ∧ v = ⟨0, 0, []⟩ ∧ n = 0 ∧ e = 3)) :
    Calls Try.prog 34 #[.string ⟨((3 : UInt8) :: x :: r).toArray⟩] w (Ret3 v n e w) := by
  have HMM := Lib.hid hm
  clear hm
  have hmf : ∀ (fn : Fn) (first cap : Array Value) (w : World), (Instr.makeFunc fn first cap).run Try.prog w = .ok (.func fn first cap) w := fun _ _ _ _ => rfl
  go_enter Try.func34, Try.ntmps34
  go_wp2_with fail
  refine (octet_one (w.heap.size + 1) ((3 : UInt8) :: x :: r) 0 _ (by simp; omega) (by simp) (rd_new w _)).mono ?_
  rintro e' w1 ⟨rfl, hrd1, hg1⟩
  rw [show ((((3 : UInt8) :: x :: r)[0]).toNat : Int) = 3 from rfl]
  obtain ⟨hres1, hbb1, hz1⟩ := after_one hg1
  clear hg1
  go_wp2_with fail
  refine (octet_one (w.heap.size + 1) (3 :: x :: r) 1 _ (by simp; omega) (by simp) (Blk.alloc hrd1 _)).mono ?_
  rintro e' w2 ⟨rfl, hrd2, hg2⟩
  rw [show ((((3 : UInt8) :: x :: r)[1]).toNat : Int) = (x.toNat : Int) from rfl]
  have hx := UInt8.toNat_lt x
  obtain ⟨X, hX⟩ : ∃ X, x.toNat = X := ⟨_, rfl⟩
  rw [hX] at hx ⊢
  have HX := Lib.hid hX
  clear hX
  have hz2 := hg2.size
  simp at hz2
  have hres2 := (hres1.alloc (.cells #[.int .i64 3, .int .i64 0, .string ⟨#[]⟩] 31)).grown hg2 (by simp)
  have hv2 := (Blk.new w1 31 #[.int .i64 3, .int .i64 0, .string ⟨#[]⟩]).grown hg2 (by simp; omega)
  have hbb2 : Below w.heap.size w w2 := only_below (by ((repeat' (first | with_reducible exact Below.refl _ _ | with_reducible assumption | with_reducible refine Below.drew ?_ | with_reducible refine below_drewN ?_ _ | with_reducible refine Below.setCell ?_ ?_ _ | with_reducible refine Below.alloc ?_ ?_ _ | with_reducible refine Below.trans ?_ (Below.mono (by assumption) ?_))) <;> (first | (simp; done) | (simp; omega) | omega))) hg2 (by simp; omega) (by omega)
  clear hg2
  obtain ⟨⟨v0, v1, v2⟩, f0, f1, f2⟩ := hv2.three
  have hresT := hres2.far (p := ⟨w1.heap.size, 1, none⟩) (by show w.heap.size ≠ w1.heap.size; omega) (.int .i64 (X : Int))
  have hrdT := Blk.far hrd2 (p := ⟨w1.heap.size, 1, none⟩) (by show w.heap.size + 1 ≠ w1.heap.size; omega) (.int .i64 (X : Int))
  have hvT := hv2.set_ 1 (.int .i64 (X : Int))
  have hbbT := hbb2.setCell (p := ⟨w1.heap.size, 1, none⟩) (by show w.heap.size ≤ w1.heap.size; omega) (.int .i64 (X : Int))
  clear hres1 hres2 hrd1 hrd2 hv2 hbb1 hbb2
  go_wp2_with fail
  clear v0 v1 v2 f0 f1 f2
  rcases HMM.out with hm | hm
  · rw [HX.out] at hm
    have HM := Lib.hid hm.1
    have HV := Lib.hid hm.2
    clear hm HMM
    refine (may_any _ _ _ _).mono ?_
    rintro e' w9 ⟨rfl, hbT⟩
    rw [HM.out]
    have hresT3 := (hresT.below hbT (by first | (simp; done) | (simp; omega))).three
    have hrdT3 := (Blk.below hrdT hbT (by first | (simp; done) | (simp; omega))).two
    have hvT3 := (hvT.below hbT (by first | (simp; done) | (simp; omega))).three
    have hzT := hbT.size
    simp at hzT
    have hbbT2 : Below w.heap.size w w9 := hbbT.trans (hbT.mono (by simp; omega))
    obtain ⟨⟨a0, a1, a2⟩, b0, b1, b2⟩ := hresT3
    obtain ⟨⟨c0, c1⟩, d0, d1⟩ := hrdT3
    obtain ⟨⟨x0, x1, x2⟩, y0, y1, y2⟩ := hvT3
    clear hresT hrdT hvT hbT hbbT
    go_wp2_with fail
    go_region
    all_goals go_wp2
    all_goals refine bodyPost_ret (v := .tuple #[.agg #[.int .i64 3, .int .i64 (X : Int), .string ⟨#[]⟩], .int .i64 2, .int .i64 0]) (by simp [results, Try.results34, go_sem, a0, a1, a2]) rfl ⟨?_, ?_⟩
    all_goals first | (rw [HV.out.1, HV.out.2.1, HV.out.2.2]; done) | ((repeat' (first | with_reducible exact Below.refl _ _ | with_reducible assumption | with_reducible refine Below.drew ?_ | with_reducible refine below_drewN ?_ _ | with_reducible refine Below.setCell ?_ ?_ _ | with_reducible refine Below.alloc ?_ ?_ _ | with_reducible refine Below.trans ?_ (Below.mono (by assumption) ?_))) <;> (first | (simp; done) | (simp; omega) | omega))
  · rw [HX.out] at hm
    have HM := Lib.hid hm.1
    have HV := Lib.hid hm.2
    clear hm HMM
    refine (may_any _ _ _ _).mono ?_
    rintro e' w9 ⟨rfl, hbT⟩
    rw [HM.out]
    have hresT3 := (hresT.below hbT (by first | (simp; done) | (simp; omega))).three
    have hrdT3 := (Blk.below hrdT hbT (by first | (simp; done) | (simp; omega))).two
    have hvT3 := (hvT.below hbT (by first | (simp; done) | (simp; omega))).three
    have hzT := hbT.size
    simp at hzT
    have hbbT2 : Below w.heap.size w w9 := hbbT.trans (hbT.mono (by simp; omega))
    obtain ⟨⟨a0, a1, a2⟩, b0, b1, b2⟩ := hresT3
    obtain ⟨⟨c0, c1⟩, d0, d1⟩ := hrdT3
    obtain ⟨⟨x0, x1, x2⟩, y0, y1, y2⟩ := hvT3
    clear hresT hrdT hvT hbT hbbT
    go_wp2
    refine bodyPost_ret (v := .tuple #[.agg #[.int .i64 0, .int .i64 0, .string ⟨#[]⟩], .int .i64 0, .int .i64 3]) (by simp [results, Try.results34, go_sem, a0, a1, a2]) rfl ⟨?_, ?_⟩
    all_goals first | (rw [HV.out.1, HV.out.2.1, HV.out.2.2]; done) | ((repeat' (first | with_reducible exact Below.refl _ _ | with_reducible assumption | with_reducible refine Below.drew ?_ | with_reducible refine below_drewN ?_ _ | with_reducible refine Below.setCell ?_ ?_ _ | with_reducible refine Below.alloc ?_ ?_ _ | with_reducible refine Below.trans ?_ (Below.mono (by assumption) ?_))) <;> (first | (simp; done) | (simp; omega) | omega))

set_option maxRecDepth 100000 in
set_option maxHeartbeats 1000000 in
theorem first_other (c : UInt8) (r : List UInt8) (w : World) (hs : r.length ≤ 4611686018427387900) (h1 : c ≠ 1) (h2 : c ≠ 2) (h3 : c ≠ 3) (v : V) (n e : Int)
    (hm : (mayB (c.toNat : Int) 0 [] = true ∧ v = ⟨(c.toNat : Int), 0, []⟩ ∧ n = 1 ∧ e = 0) ∨ (mayB (c.toNat : Int) 0 [] = false ∧ v = ⟨0, 0, []⟩ ∧ n = 0 ∧ e = 3)) :
    Calls Try.prog 34 #[.string ⟨(c :: r).toArray⟩] w (Ret3 v n e w) := by
  have HMM := Lib.hid hm
  clear hm
  have n1 : c.toNat ≠ 1 := fun q => h1 (UInt8.toNat_inj.1 (by simpa using q))
  have n2 : c.toNat ≠ 2 := fun q => h2 (UInt8.toNat_inj.1 (by simpa using q))
  have n3 : c.toNat ≠ 3 := fun q => h3 (UInt8.toNat_inj.1 (by simpa using q))
  have hx := UInt8.toNat_lt c
  clear h1 h2 h3
  have hmf : ∀ (fn : Fn) (first cap : Array Value) (w : World), (Instr.makeFunc fn first cap).run Try.prog w = .ok (.func fn first cap) w := fun _ _ _ _ => rfl
  go_enter Try.func34, Try.ntmps34
  go_wp2_with fail
  refine (octet_one (w.heap.size + 1) (c :: r) 0 _ (by simp; omega) (by simp) (rd_new w _)).mono ?_
  rintro e' w1 ⟨rfl, hrd1, hg1⟩
  rw [show (((c :: r)[0]).toNat : Int) = ((c.toNat : Nat) : Int) from rfl]
  obtain ⟨hres1, hbb1, hz1⟩ := after_one hg1
  clear hg1
  obtain ⟨X, hX⟩ : ∃ X, c.toNat = X := ⟨_, rfl⟩
  rw [hX] at hx n1 n2 n3 ⊢
  have HX := Lib.hid hX
  clear hX
  have e1 : ((X : Int) == 1) = false := by simp; omega
  have e2 : ((X : Int) == 2) = false := by simp; omega
  have e3 : ((X : Int) == 3) = false := by simp; omega
  clear n1 n2 n3
  have hresT := hres1.alloc (.cells #[.int .i64 (X : Int), .int .i64 0, .string ⟨#[]⟩] 31)
  have hrdT : Rd (w1.alloc (.cells #[.int .i64 (X : Int), .int .i64 0, .string ⟨#[]⟩] 31)) (w.heap.size + 1) (c :: r) 1 := Blk.alloc hrd1 _
  have hvT := Blk.new w1 31 #[.int .i64 (X : Int), .int .i64 0, .string ⟨#[]⟩]
  have hbbT : Below w.heap.size w (w1.alloc (.cells #[.int .i64 (X : Int), .int .i64 0, .string ⟨#[]⟩] 31)) := by ((repeat' (first | with_reducible exact Below.refl _ _ | with_reducible assumption | with_reducible refine Below.drew ?_ | with_reducible refine below_drewN ?_ _ | with_reducible refine Below.setCell ?_ ?_ _ | with_reducible refine Below.alloc ?_ ?_ _ | with_reducible refine Below.trans ?_ (Below.mono (by assumption) ?_))) <;> (first | (simp; done) | (simp; omega) | omega))
  clear hres1 hrd1 hbb1
  go_wp2_with fail
  rcases HMM.out with hm | hm
  · rw [HX.out] at hm
    have HM := Lib.hid hm.1
    have HV := Lib.hid hm.2
    clear hm HMM
    refine (may_any _ _ _ _).mono ?_
    rintro e' w9 ⟨rfl, hbT⟩
    rw [HM.out]
    have hresT3 := (hresT.below hbT (by first | (simp; done) | (simp; omega))).three
    have hrdT3 := (Blk.below hrdT hbT (by first | (simp; done) | (simp; omega))).two
    have hvT3 := (hvT.below hbT (by first | (simp; done) | (simp; omega))).three
    have hzT := hbT.size
    simp at hzT
    have hbbT2 : Below w.heap.size w w9 := hbbT.trans (hbT.mono (by simp; omega))
    obtain ⟨⟨a0, a1, a2⟩, b0, b1, b2⟩ := hresT3
    obtain ⟨⟨c0, c1⟩, d0, d1⟩ := hrdT3
    obtain ⟨⟨x0, x1, x2⟩, y0, y1, y2⟩ := hvT3
    clear hresT hrdT hvT hbT hbbT
    go_wp2_with fail
    go_region
    all_goals go_wp2
    all_goals refine bodyPost_ret (v := .tuple #[.agg #[.int .i64 (X : Int), .int .i64 0, .string ⟨#[]⟩], .int .i64 1, .int .i64 0]) (by simp [results, Try.results34, go_sem, a0, a1, a2]) rfl ⟨?_, ?_⟩
    all_goals first | (rw [HV.out.1, HV.out.2.1, HV.out.2.2]; done) | ((repeat' (first | with_reducible exact Below.refl _ _ | with_reducible assumption | with_reducible refine Below.drew ?_ | with_reducible refine below_drewN ?_ _ | with_reducible refine Below.setCell ?_ ?_ _ | with_reducible refine Below.alloc ?_ ?_ _ | with_reducible refine Below.trans ?_ (Below.mono (by assumption) ?_))) <;> (first | (simp; done) | (simp; omega) | omega))
  · rw [HX.out] at hm
    have HM := Lib.hid hm.1
    have HV := Lib.hid hm.2
    clear hm HMM
    refine (may_any _ _ _ _).mono ?_
    rintro e' w9 ⟨rfl, hbT⟩
    rw [HM.out]
    have hresT3 := (hresT.below hbT (by first | (simp; done) | (simp; omega))).three
    have hrdT3 := (Blk.below hrdT hbT (by first | (simp; done) | (simp; omega))).two
    have hvT3 := (hvT.below hbT (by first | (simp; done) | (simp; omega))).three
    have hzT := hbT.size
    simp at hzT
    have hbbT2 : Below w.heap.size w w9 := hbbT.trans (hbT.mono (by simp; omega))
    obtain ⟨⟨a0, a1, a2⟩, b0, b1, b2⟩ := hresT3
    obtain ⟨⟨c0, c1⟩, d0, d1⟩ := hrdT3
    obtain ⟨⟨x0, x1, x2⟩, y0, y1, y2⟩ := hvT3
    clear hresT hrdT hvT hbT hbbT
    go_wp2
    refine bodyPost_ret (v := .tuple #[.agg #[.int .i64 0, .int .i64 0, .string ⟨#[]⟩], .int .i64 0, .int .i64 3]) (by simp [results, Try.results34, go_sem, a0, a1, a2]) rfl ⟨?_, ?_⟩
    all_goals first | (rw [HV.out.1, HV.out.2.1, HV.out.2.2]; done) | ((repeat' (first | with_reducible exact Below.refl _ _ | with_reducible assumption | with_reducible refine Below.drew ?_ | with_reducible refine below_drewN ?_ _ | with_reducible refine Below.setCell ?_ ?_ _ | with_reducible refine Below.alloc ?_ ?_ _ | with_reducible refine Below.trans ?_ (Below.mono (by assumption) ?_))) <;> (first | (simp; done) | (simp; omega) | omega))

end Go.Proofs.Ytkeeekifejholaa
