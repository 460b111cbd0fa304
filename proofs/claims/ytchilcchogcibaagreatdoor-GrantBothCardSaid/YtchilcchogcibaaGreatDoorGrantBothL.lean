/- caddislaw09.GrantBoth answers true: a role may do with a table that stands for others what it may do with each of them; grants of other tables stay. No condition beyond the row's own. -/
import Derived.Test.YtchilcchogcibaaGreatDoorGrantBoth
import Derived.Test.YtchilcchogcibaaGreatDoorSOpenSt
import Derived.Test.YtchilcchogcibaaGreatDoorSLift
namespace Go.Proofs.YtchilcchogcibaaGreatDoor
open Go.RowKit
open Go.ChangeShapes Go.WideShapes Go.ChangeAt
theorem cellsBoth : Tryz.prog.cellsOf 60 = 4 := by kernel_rfl
theorem cellsBoth1 : Tryz.prog.cellsOf 22 = 1 := by kernel_rfl
theorem cellsBoth2 : Tryz.prog.cellsOf 9 = 1 := by kernel_rfl
set_option maxRecDepth 100000 in
theorem open_both {H : Type} {enc : TypeId × Value → H} {W : World} {base : Nat} {q : Value} {d : DataW H} {p : List MemPlace}
    (hv : Value.okWide Tryz.prog W .any base 60 q) (h : DataW.Trod enc Tryz.prog W 0 (fun _ => true) true 60 q d p) :
    ∃ (A : Option Addr) (l : List Gr) (c : Nat) (a b r : List UInt8), q = .agg #[.slice A l.length c, .string ⟨a.toArray⟩, .string ⟨b.toArray⟩, .string ⟨r.toArray⟩] ∧ l.length ≤ maxLen ∧ GQ l A (Old W.heap.size) W := by
  obtain ⟨cs, rfl, hsz⟩ := okWide_struct Tryz.underlying60 hv
  obtain ⟨l⟩ := cs
  match l, hsz.trans cellsBoth with
  | [a0, a1, a2, a3], _ =>
    obtain ⟨fuel, hf⟩ := h
    obtain ⟨ys, n, _, _, _, hlen, hg⟩ := DataW.trod_struct Tryz.underlying60 hf
    match ys, hlen with
    | [y0, y1, y2, y3], _ =>
      have t0 : DataW.trod enc Tryz.prog W 0 (fun _ => true) true n 22 (([a0, a1, a2, a3].drop 0).take (Tryz.prog.cellsOf 22)) = some y0 := hg 0 _ rfl
      have t1 : DataW.trod enc Tryz.prog W 0 (fun _ => true) true n 9 (([a0, a1, a2, a3].drop 1).take (Tryz.prog.cellsOf 9)) = some y1 := hg 1 _ rfl
      have t2 : DataW.trod enc Tryz.prog W 0 (fun _ => true) true n 9 (([a0, a1, a2, a3].drop 2).take (Tryz.prog.cellsOf 9)) = some y2 := hg 2 _ rfl
      have t3 : DataW.trod enc Tryz.prog W 0 (fun _ => true) true n 9 (([a0, a1, a2, a3].drop 3).take (Tryz.prog.cellsOf 9)) = some y3 := hg 3 _ rfl
      rw [cellsBoth1] at t0
      rw [cellsBoth2] at t1 t2 t3
      obtain ⟨A, l, c, e0, h1, h2, h3, _⟩ := open_grs_t t0
      obtain ⟨s1, e1, _, _⟩ := DataW.trod_string Tryz.underlying9 t1
      obtain ⟨s2, e2, _, _⟩ := DataW.trod_string Tryz.underlying9 t2
      obtain ⟨s3, e3, _, _⟩ := DataW.trod_string Tryz.underlying9 t3
      simp at e0 e1 e2 e3
      subst e0 e1 e2 e3
      exact ⟨A, l, c, s1.data.toList, s2.data.toList, s3.data.toList, rfl, Nat.le_trans h1 h2, h3⟩
set_option maxRecDepth 100000 in
theorem grantBoth_lifted (os : Os) (started : os.Started) (H : Type) (enc : TypeId × Value → H) :
    ReturnsInHanded {} Tryz.checked os 8 .any (fun w args => (Rows.grantBothSpec.pre enc Tryz.prog Tryz.f8 [] false w args ∧ laidMetH Tryz.prog Rows.grantBothRow.laid w) ∧ sizedMet enc Tryz.prog Tryz.f8 (OpenSpec.ofChange Rows.grantBothSpec) false w args)
      (Rows.grantBothSpec.post enc Tryz.prog Tryz.f8 false true false false) := by
  refine handed_and_shaped (C := Tryz.checked) (X := fun w _ => laidMetH Tryz.prog Rows.grantBothRow.laid w) (fun _ _ _ hh h => h.of_heap hh) own started (by kernel_rfl) Tryz.func8
    (ChangeSpec.witness_shaped (enc := enc) (C := Tryz.checked) (os := os) (X := fun w _ => laidMetH Tryz.prog Rows.grantBothRow.laid w) false (World.laidAll Tryz.prog os Rows.grantBothRow.laid) #[.agg #[.slice none 0 0, .string ⟨#[]⟩, .string ⟨#[]⟩, .string ⟨#[]⟩]] 8 (World.laidAll_os _ _ _)
      (World.shaped_of_ZipB (by kernel_rfl) (by kernel_rfl)) (by kernel_rfl) (by kernel_rfl) (by kernel_rfl)
      (by rw [MakeChecks.laidMetH_plain _ _ _ (by kernel_rfl)]; exact laidMet_laidAll _ (by kernel_rfl) (by kernel_rfl))) ?_
  intro W base args ds gs before hval0 hW _ _ hL hsh _
  have hval : ∀ (j : Nat) t v, Tryz.f8.params[j]? = some t → args[j]? = some v → Value.okWide Tryz.prog W .any base t v := hval0
  have hW' := hW
  obtain ⟨p, q, hA0, hV, rfl, hfz, hnd⟩ := hW
  have hA : DataW.TrodAll enc Tryz.prog W 0 (fun _ => true) true Tryz.f8.params.toList args.toList ds p := hA0
  rw [Tryz.params8] at hA hval
  obtain ⟨v0, vs0, d0, ds0, p0, q0, hargs, rfl, rfl, h0, r0⟩ := trodAll_cons hA
  have k0 := h0
  have lt0 : ∀ x ∈ p0, x.block < W.heap.size := by obtain ⟨m, hm⟩ := k0; exact DataW.trod_lt m _ _ _ hm
  obtain ⟨rfl, rfl, rfl⟩ := trodAll_nil r0
  obtain rfl : args = #[v0] := by cases args; simp_all
  obtain ⟨rfl, rfl⟩ := trodVars_none hV
  obtain ⟨A0, l0, c0, a0, b0, r0, rfl, hl0, hq0⟩ := open_both (hval 0 60 v0 rfl rfl) h0
  have hEnv : Env0 W := by
    have h := hL
    rw [MakeChecks.laidMetH_plain _ _ _ (by kernel_rfl)] at h
    exact env0_of hsh h
  clear hA0 hval0
  refine (grantBoth_walk A0 c0 l0 a0 b0 r0 W hl0 hq0 hEnv).mono fun e W' ⟨he, bel⟩ => ?_
  subst he
  exact ⟨_, rfl, _, _, _, [], _, [], hW', trodAll_mk1 (shut_bool Tryz.underlying4 _), (trodAll_cons_mk (Below.trod laidOut (by kernel_rfl) (of_decide_eq_true (by kernel_rfl)) k0 bel lt0) trodAll_mk0), rfl, bel.frame _, fun h => by cases h⟩

theorem grantBoth_said : Rows.GrantBothSaid :=
  OpenClaim.holds_of_wide 8 Tryz.f8 rfl rfl rfl rfl rfl rfl rfl ⟨rfl, rfl, rfl, rfl, rfl⟩ rfl rfl rfl rfl rfl (by kernel_rfl) Tryz.func8 (by kernel_rfl)
    (of_decide_eq_true (by kernel_rfl)) (by unfold Func.isWrapper; first | (rw [if_pos (by decide +kernel)]; kernel_rfl) | (rw [if_neg (by decide +kernel)]; exact ⟨rfl, rfl⟩))
    (fun os started H enc _ => grantBoth_lifted os started H enc)
theorem grantBoth_holds : Rows.GrantBothCardSaid :=
  Claim7.holds_tied_plain_at .later [] _ _ _ _ grantBoth_said (fun _ h => by cases h) (by kernel_rfl) (fun _ h => by cases h) grantBoth_row_tie rfl ⟨rfl, rfl⟩ (by kernel_rfl) rfl
    (fun f fn hf hfn => by
      obtain rfl : f = 8 := Option.some.inj ((show Tryz.prog.funcNamed "caddis/caddislaw09.GrantBoth" = some 8 by kernel_rfl).symm.trans hf) |>.symm
      obtain rfl : fn = Tryz.f8 := (Option.some.inj (Tryz.func8.symm.trans hfn)).symm
      exact ⟨by kernel_rfl, fun j t ht => by
        have hall : (Tryz.f8.params.toList.all fun u => !Tryz.prog.wantsStandIn u) = true := by kernel_rfl
        have hm : t ∈ Tryz.f8.params.toList := by simpa using Array.mem_of_getElem? ht
        exact (show Tryz.prog.wantsStandIn t = false by simpa using List.all_eq_true.1 hall t hm)⟩)
    (by kernel_rfl)
#print axioms grantBoth_holds

end Go.Proofs.YtchilcchogcibaaGreatDoor
