/- caddislaw02.CodeShort answers true, whatever row it is handed: a row's octets without the last of them are no row, or one that is shorter. No condition beyond the row's own. -/
import Derived.Test.YtkeeekifejholaaReadLaw
import Derived.Test.YtkeeekifejholaaCodeApart
namespace Go.Proofs.Ytkeeekifejholaa
open Go.RowKit

attribute [local go_sem] ByteArray.extract_mk ba_get ba_append

theorem rowS_len (l : List V) : (rowS l).length ≤ 720 := by
  unfold rowS
  cases h : rowOk l
  · simp
  · simp only [if_true]
    have h1 := flat_len l (rowOk_all h)
    have hl : l.length ≤ 12 := by simp only [rowOk, Bool.and_eq_true, decide_eq_true_eq] at h; exact h.1
    omega

theorem same_n (A B : Option Addr) (c d n m : Nat) (a b : List V) (hn : a.length = n) (hm : b.length = m) (w : World) (ha : a.length ≤ maxLen) (hb : b.length ≤ maxLen) (hA : VS w w.heap.size A a) (hB : VS w w.heap.size B b) :
    Calls Try.prog 18 #[.slice A n c, .slice B m d] w (Ret (.bool (rowSame a b)) w) := by
  subst hn hm; exact same_any A B c d a b w ha hb hA hB

set_option maxHeartbeats 400000 in
theorem codeShort_walk (A : Option Addr) (c : Nat) (a : List V) (w : World) (hA : VS w w.heap.size A a) (ha : a.length ≤ maxLen) (oa : ∀ v ∈ a, v.ok) :
    Calls Try.prog 7 #[.slice A a.length c] w (Ret (.bool true) w) := by
  have wa := Lib.hid (few_wf a oa)
  have ra := Lib.hid (few_rng a oa)
  clear oa
  have la := few_len a
  have hmx := Lib.hid (few_max a)
  go_enter Try.func7, Try.ntmps7
  go_wp2_with fail
  refine (few_any A c a _ ha hA).mono ?_
  rintro e w1 ⟨A1, c1, rfl, hc1, hm1, hv0, hb1⟩
  have hv1 := hv0.vs (Nat.le_refl _)
  have hz1 := hb1.size
  go_wp2_with fail
  refine (row_any A1 c1 (fewL a) _ hmx.out wa.out hv1).mono ?_
  rintro e w3 ⟨rfl, hb3⟩
  have hz3 := hb3.size
  have hv3 := (hv1.below hb3).more hz3
  have hsl := rowS_len (fewL a)
  generalize fewL a = x at *
  clear hA hv1 hv0
  cases h1 : rowOk x
  · have e1 : (rowE x != 0) = true := by rw [rowE_eq, h1]; rfl
    clear h1
    go_wp2_with fail
    refine (awake2_any _).mono ?_
    rintro e w5 ⟨rfl, hb5⟩
    go_wp2
    go_ret
    exact ⟨rfl, by ((repeat' (first | with_reducible exact Below.refl _ _ | with_reducible assumption | with_reducible refine Below.drew ?_ | with_reducible refine below_drewN ?_ _ | with_reducible refine Below.setCell ?_ ?_ _ | with_reducible refine Below.alloc ?_ ?_ _ | with_reducible refine Below.trans ?_ (Below.mono (by assumption) ?_))) <;> (first | (simp; done) | (simp; omega) | omega))⟩
  · have e1 : (rowE x != 0) = false := by rw [rowE_eq, h1]; rfl
    by_cases h2 : rowS x = []
    · have e2 : (rowS x == []) = true := by simp [h2]
      clear h1 h2
      go_wp2_with fail
      refine (awake2_any _).mono ?_
      rintro e w5 ⟨rfl, hb5⟩
      go_wp2
      go_ret
      exact ⟨rfl, by ((repeat' (first | with_reducible exact Below.refl _ _ | with_reducible assumption | with_reducible refine Below.drew ?_ | with_reducible refine below_drewN ?_ _ | with_reducible refine Below.setCell ?_ ?_ _ | with_reducible refine Below.alloc ?_ ?_ _ | with_reducible refine Below.trans ?_ (Below.mono (by assumption) ?_))) <;> (first | (simp; done) | (simp; omega) | omega))⟩
    · have e2 : (rowS x == []) = false := by simp [h2]
      have hlaw := read_short x h1 ra.out h2
      have hpos : 1 ≤ (rowS x).length := List.length_pos_iff.2 h2
      have hx0 : 1 ≤ x.length := by
        rcases x with _ | ⟨v, r⟩
        · exact absurd rfl h2
        · simp
      have hdl : (rowS x).dropLast = (rowS x).take ((rowS x).length - 1) := List.dropLast_eq_take
      rw [hdl] at hlaw
      have HL := Lib.hid hlaw
      clear hlaw hdl h1 h2
      generalize rowS x = S at *
      go_wp2_with fail
      refine (read_any _ _ (by rw [List.length_take]; omega)).mono ?_
      rintro e w4 ⟨M1, m1, rfl, hmm1, hmx1, hvm0, hb4⟩
      have hvm := hvm0.vs (Nat.le_refl _)
      have hz4 := hb4.size
      have hv4 := (hv3.below hb4).more hz4
      rcases HL.out with ⟨q1, q2⟩ | q
      · rw [q1, q2]
        clear hvm hvm0 hmm1 hv4 hv3 HL q1 q2
        go_wp2_with fail
        refine (awake2_any _).mono ?_
        rintro e w5 ⟨rfl, hb5⟩
        go_wp2
        go_ret
        exact ⟨rfl, by ((repeat' (first | with_reducible exact Below.refl _ _ | with_reducible assumption | with_reducible refine Below.drew ?_ | with_reducible refine below_drewN ?_ _ | with_reducible refine Below.setCell ?_ ?_ _ | with_reducible refine Below.alloc ?_ ?_ _ | with_reducible refine Below.trans ?_ (Below.mono (by assumption) ?_))) <;> (first | (simp; done) | (simp; omega) | omega))⟩
      · rw [q] at hvm hmm1 ⊢
        have hdl : x.dropLast = x.take (x.length - 1) := List.dropLast_eq_take
        have hdl2 : x.dropLast.length = x.length - 1 := List.length_dropLast
        simp only at hvm hmm1 ⊢
        have HD := Lib.hid hdl
        have hkey : rowSame x.dropLast (x.take (x.length - 1)) = true := by rw [rowSame_iff]; exact hdl
        have HK := Lib.hid hkey
        rw [hdl2] at hmm1 ⊢
        have hsub : ((x.length - 1 : Nat) : Int) = (x.length : Int) - 1 := by omega
        have HD2 := Lib.hid hdl2
        have hq : (((x.length - 1 : Nat) : Int) == (x.length : Int) - 1) = true := by rw [hsub]; simp
        clear hvm0 hv3 HL q hdl hdl2 hkey hsub
        go_wp2_with fail
        refine (same_n M1 A1 m1 c1 _ _ x.dropLast (x.take (x.length - 1)) HD2.out (by rw [List.length_take]; omega) _ (by rw [HD2.out]; unfold maxLen; omega) (by rw [List.length_take]; unfold maxLen; omega) hvm (hv4.take _)).mono ?_
        rintro e w5 ⟨rfl, hb5⟩
        have hz5 := hb5.size
        rw [HK.out]
        go_wp2_with fail
        refine (awake2_any _).mono ?_
        rintro e w6 ⟨rfl, hb6⟩
        go_wp2
        go_ret
        exact ⟨rfl, by ((repeat' (first | with_reducible exact Below.refl _ _ | with_reducible assumption | with_reducible refine Below.drew ?_ | with_reducible refine below_drewN ?_ _ | with_reducible refine Below.setCell ?_ ?_ _ | with_reducible refine Below.alloc ?_ ?_ _ | with_reducible refine Below.trans ?_ (Below.mono (by assumption) ?_))) <;> (first | (simp; done) | (simp; omega) | omega))⟩

open Go.ChangeShapes Go.WideShapes Go.ChangeAt
set_option maxRecDepth 100000 in
theorem codeShort_lifted (os : Os) (started : os.Started) (H : Type) (enc : TypeId × Value → H) :
    ReturnsInHanded {} Try.checked os 7 .any (Rows.codeShortSpec.pre6 enc Try.prog Try.f7 Rows.codeShortRow.domain false) (Rows.codeShortSpec.post enc Try.prog Try.f7 false true false false) := by
  refine returnsInHanded_of_change (C := Try.checked) own started (by kernel_rfl) Try.func7
    (ChangeSpec.witness6 (enc := enc) (C := Try.checked) false ⟨#[], #[.slice none 0 0], []⟩ 8 (by kernel_rfl) (by kernel_rfl) (by kernel_rfl) (by kernel_rfl)) ?_
  intro W base args ds gs before hval0 hW hcnd _
  have hval : ∀ (j : Nat) t v, Try.f7.params[j]? = some t → args[j]? = some v → Value.okWide Try.prog W .any base t v := hval0
  have hW' := hW
  obtain ⟨p, q, hA0, hV, rfl, hfz, hnd⟩ := hW
  have hA : DataW.TrodAll enc Try.prog W 0 (fun _ => true) true Try.f7.params.toList args.toList ds p := hA0
  rw [Try.params7] at hA hval
  obtain ⟨v0, vs0, d0, ds0, p0, q0, hargs, rfl, rfl, h0, r0⟩ := trodAll_cons hA
  have k0 := h0
  have lt0 : ∀ x ∈ p0, x.block < W.heap.size := by obtain ⟨m, hm⟩ := k0; exact DataW.trod_lt m _ _ _ hm
  obtain ⟨rfl, rfl, rfl⟩ := trodAll_nil r0
  obtain rfl : args = #[v0] := by cases args; simp_all
  obtain ⟨rfl, rfl⟩ := trodVars_none hV
  obtain ⟨A, a, c, rfl, hac, hcm, vA, oa⟩ := open_vals (hval 0 22 v0 rfl rfl) h0
  clear hA0 hval0
  refine (codeShort_walk A c a W vA (Nat.le_trans hac hcm) oa).mono fun e W' ⟨he, bel⟩ => ?_
  subst he
  exact ⟨_, rfl, _, _, _, [], _, [], hW', trodAll_mk1 (shut_bool Try.underlying4 _), (trodAll_cons_mk (Below.trod laidOut (by kernel_rfl) (of_decide_eq_true (by kernel_rfl)) k0 bel lt0) trodAll_mk0), rfl, bel.frame _, fun h => by cases h⟩

theorem codeShort_over : Rows.codeShortRow.holds Try.pinned (OpenSpec.ofChange Rows.codeShortSpec) :=
  OpenClaim.holds_of_wide 7 Try.f7 rfl rfl rfl rfl rfl rfl rfl ⟨rfl, rfl, rfl, rfl, rfl⟩ rfl rfl rfl rfl rfl (by kernel_rfl) Try.func7 (by kernel_rfl)
    (of_decide_eq_true (by kernel_rfl)) (by unfold Func.isWrapper; first | (rw [if_pos (by decide +kernel)]; kernel_rfl) | (rw [if_neg (by decide +kernel)]; exact ⟨rfl, rfl⟩))
    (fun os started H enc _ => codeShort_lifted os started H enc)

theorem codeShort_holds : Rows.CodeShortSaid := codeShort_over
#print axioms codeShort_holds

end Go.Proofs.Ytkeeekifejholaa
