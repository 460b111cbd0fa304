/- caddislaw02.CodeApart answers true, whatever two rows it is handed: two rows that may be have the same octets just if they are the same. No condition beyond the row's own. -/
import Derived.Test.YtkeeekifejholaaCodeLaw
import Derived.Test.YtkeeekifejholaaOpen
namespace Go.Proofs.Ytkeeekifejholaa
open Go.RowKit

attribute [local go_sem] ByteArray.extract_mk ba_get ba_append

theorem few_mem (l : List V) (v : V) (h : v ∈ fewL l) : ∃ u ∈ l, v = fewV u := by
  unfold fewL at h
  simp only [List.mem_map] at h
  obtain ⟨u, hu, rfl⟩ := h
  exact ⟨u, List.mem_of_mem_take hu, rfl⟩
theorem few_wf (l : List V) (h : ∀ v ∈ l, v.ok) : ∀ v ∈ fewL l, v.wf := by
  intro v hv
  obtain ⟨u, hu, rfl⟩ := few_mem l v hv
  obtain ⟨h1, h2, _⟩ := h u hu
  exact ⟨h1, h2, by simp only [fewV, List.length_take]; omega⟩
theorem few_rng (l : List V) (h : ∀ v ∈ l, v.ok) : ∀ v ∈ fewL l, v.rng := by
  intro v hv
  obtain ⟨u, hu, rfl⟩ := few_mem l v hv
  exact (h u hu).2.1
theorem few_len (l : List V) : (fewL l).length ≤ 14 := by
  simp only [fewL, List.length_map, List.length_take]; omega
theorem few_max (l : List V) : (fewL l).length ≤ maxLen := by
  have := few_len l
  unfold maxLen; omega
theorem rowE_eq (l : List V) : (rowE l != 0) = !rowOk l := by
  unfold rowE; cases rowOk l <;> rfl

set_option maxHeartbeats 400000 in
theorem codeApart_walk (A B : Option Addr) (c d : Nat) (a b : List V) (w : World) (hA : VS w w.heap.size A a) (hB : VS w w.heap.size B b) (ha : a.length ≤ maxLen) (hb : b.length ≤ maxLen) (oa : ∀ v ∈ a, v.ok) (ob : ∀ v ∈ b, v.ok) :
    Calls Try.prog 5 #[.slice A a.length c, .slice B b.length d] w (Ret (.bool true) w) := by
  have wa := Lib.hid (few_wf a oa)
  have wb := Lib.hid (few_wf b ob)
  have H := Lib.hid (fun h1 h2 => apart_law (fewL a) (fewL b) h1 h2 (few_rng a oa) (few_rng b ob))
  clear oa ob
  go_enter Try.func5, Try.ntmps5
  go_wp2_with fail
  refine (few_any A c a _ ha hA).mono ?_
  rintro e w1 ⟨A1, c1, rfl, hc1, hm1, hv1, hb1⟩
  have hz1 := hb1.size
  have hB1 := (hB.below hb1).more hz1
  go_wp2_with fail
  refine (few_any B d b _ hb hB1).mono ?_
  rintro e w2 ⟨B1, d1, rfl, hd1, hn1, hu0, hb2⟩
  have hu1 := hu0.vs (Nat.le_refl _)
  have hz2 := hb2.size
  have hv2 := ((hv1.vs (Nat.le_refl _)).below hb2).more hz2
  go_wp2_with fail
  refine (row_any A1 c1 (fewL a) _ (few_max a) wa.out hv2).mono ?_
  rintro e w3 ⟨rfl, hb3⟩
  have hz3 := hb3.size
  have hu3 := (hu1.below hb3).more hz3
  have hv3 := (hv2.below hb3).more hz3
  go_wp2_with fail
  refine (row_any B1 d1 (fewL b) _ (few_max b) wb.out hu3).mono ?_
  rintro e w4 ⟨rfl, hb4⟩
  have hz4 := hb4.size
  have hu4 := (hu3.below hb4).more hz4
  have hv4 := (hv3.below hb4).more hz4
  clear hA hB hB1 hv1 hv2 hu1 hu3 hv3
  cases h1 : rowOk (fewL a)
  · have e1 : (rowE (fewL a) != 0) = true := by rw [rowE_eq, h1]; rfl
    clear h1
    go_wp2_with fail
    refine (awake2_any _).mono ?_
    rintro e w5 ⟨rfl, hb5⟩
    go_wp2
    go_ret
    exact ⟨rfl, by ((repeat' (first | with_reducible exact Below.refl _ _ | with_reducible assumption | with_reducible refine Below.drew ?_ | with_reducible refine below_drewN ?_ _ | with_reducible refine Below.setCell ?_ ?_ _ | with_reducible refine Below.alloc ?_ ?_ _ | with_reducible refine Below.trans ?_ (Below.mono (by assumption) ?_))) <;> (first | (simp; done) | (simp; omega) | omega))⟩
  · have e1 : (rowE (fewL a) != 0) = false := by rw [rowE_eq, h1]; rfl
    cases h2 : rowOk (fewL b)
    · have e2 : (rowE (fewL b) != 0) = true := by rw [rowE_eq, h2]; rfl
      clear h1 h2
      go_wp2_with fail
      refine (awake2_any _).mono ?_
      rintro e w5 ⟨rfl, hb5⟩
      go_wp2
      go_ret
      exact ⟨rfl, by ((repeat' (first | with_reducible exact Below.refl _ _ | with_reducible assumption | with_reducible refine Below.drew ?_ | with_reducible refine below_drewN ?_ _ | with_reducible refine Below.setCell ?_ ?_ _ | with_reducible refine Below.alloc ?_ ?_ _ | with_reducible refine Below.trans ?_ (Below.mono (by assumption) ?_))) <;> (first | (simp; done) | (simp; omega) | omega))⟩
    · have e2 : (rowE (fewL b) != 0) = false := by rw [rowE_eq, h2]; rfl
      have H2 := Lib.hid (H.out h1 h2)
      clear h1 h2 H
      go_wp2_with fail
      refine (same_any A1 B1 c1 d1 (fewL a) (fewL b) _ (few_max a) (few_max b) hv4 hu4).mono ?_
      rintro e w5 ⟨rfl, hb5⟩
      have hz5 := hb5.size
      have e3 := H2.out
      clear hv4 hu4
      go_wp2_with fail
      refine (awake2_any _).mono ?_
      rintro e w6 ⟨rfl, hb6⟩
      go_wp2
      go_ret
      exact ⟨rfl, by ((repeat' (first | with_reducible exact Below.refl _ _ | with_reducible assumption | with_reducible refine Below.drew ?_ | with_reducible refine below_drewN ?_ _ | with_reducible refine Below.setCell ?_ ?_ _ | with_reducible refine Below.alloc ?_ ?_ _ | with_reducible refine Below.trans ?_ (Below.mono (by assumption) ?_))) <;> (first | (simp; done) | (simp; omega) | omega))⟩

open Go.ChangeShapes Go.WideShapes Go.ChangeAt
set_option maxRecDepth 100000 in
theorem codeApart_lifted (os : Os) (started : os.Started) (H : Type) (enc : TypeId × Value → H) :
    ReturnsInHanded {} Try.checked os 5 .any (Rows.codeApartSpec.pre6 enc Try.prog Try.f5 Rows.codeApartRow.domain false) (Rows.codeApartSpec.post enc Try.prog Try.f5 false true false false) := by
  refine returnsInHanded_of_change (C := Try.checked) own started (by kernel_rfl) Try.func5
    (ChangeSpec.witness6 (enc := enc) (C := Try.checked) false ⟨#[], #[.slice none 0 0, .slice none 0 0], []⟩ 8 (by kernel_rfl) (by kernel_rfl) (by kernel_rfl) (by kernel_rfl)) ?_
  intro W base args ds gs before hval0 hW hcnd _
  have hval : ∀ (j : Nat) t v, Try.f5.params[j]? = some t → args[j]? = some v → Value.okWide Try.prog W .any base t v := hval0
  have hW' := hW
  obtain ⟨p, q, hA0, hV, rfl, hfz, hnd⟩ := hW
  have hA : DataW.TrodAll enc Try.prog W 0 (fun _ => true) true Try.f5.params.toList args.toList ds p := hA0
  rw [Try.params5] at hA hval
  obtain ⟨v0, vs0, d0, ds0, p0, q0, hargs, rfl, rfl, h0, r0⟩ := trodAll_cons hA
  have k0 := h0
  have lt0 : ∀ x ∈ p0, x.block < W.heap.size := by obtain ⟨m, hm⟩ := k0; exact DataW.trod_lt m _ _ _ hm
  obtain ⟨v1, vs1, d1, ds1, p1, q1, rfl, rfl, rfl, h1, r1⟩ := trodAll_cons r0
  have k1 := h1
  have lt1 : ∀ x ∈ p1, x.block < W.heap.size := by obtain ⟨m, hm⟩ := k1; exact DataW.trod_lt m _ _ _ hm
  obtain ⟨rfl, rfl, rfl⟩ := trodAll_nil r1
  obtain rfl : args = #[v0, v1] := by cases args; simp_all
  obtain ⟨rfl, rfl⟩ := trodVars_none hV
  obtain ⟨A, a, c, rfl, hac, hcm, vA, oa⟩ := open_vals (hval 0 22 v0 rfl rfl) h0
  obtain ⟨B, b, d, rfl, hbd, hdm, vB, ob⟩ := open_vals (hval 1 22 v1 rfl rfl) h1
  clear hA0 hval0
  refine (codeApart_walk A B c d a b W vA vB (Nat.le_trans hac hcm) (Nat.le_trans hbd hdm) oa ob).mono fun e W' ⟨he, bel⟩ => ?_
  subst he
  exact ⟨_, rfl, _, _, _, [], _, [], hW', trodAll_mk1 (shut_bool Try.underlying4 _), (trodAll_cons_mk (Below.trod laidOut (by kernel_rfl) (of_decide_eq_true (by kernel_rfl)) k0 bel lt0) (trodAll_cons_mk (Below.trod laidOut (by kernel_rfl) (of_decide_eq_true (by kernel_rfl)) k1 bel lt1) trodAll_mk0)), rfl, bel.frame _, fun h => by cases h⟩

theorem codeApart_over : Rows.codeApartRow.holds Try.pinned (OpenSpec.ofChange Rows.codeApartSpec) :=
  OpenClaim.holds_of_wide 5 Try.f5 rfl rfl rfl rfl rfl rfl rfl ⟨rfl, rfl, rfl, rfl, rfl⟩ rfl rfl rfl rfl rfl (by kernel_rfl) Try.func5 (by kernel_rfl)
    (of_decide_eq_true (by kernel_rfl)) (by unfold Func.isWrapper; first | (rw [if_pos (by decide +kernel)]; kernel_rfl) | (rw [if_neg (by decide +kernel)]; exact ⟨rfl, rfl⟩))
    (fun os started H enc _ => codeApart_lifted os started H enc)

theorem codeApart_holds : Rows.CodeApartSaid := codeApart_over
#print axioms codeApart_holds

end Go.Proofs.Ytkeeekifejholaa
