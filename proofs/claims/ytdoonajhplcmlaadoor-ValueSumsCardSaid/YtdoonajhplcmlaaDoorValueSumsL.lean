/- caddislaw01.ValueSums answers true: sums of three numbers that are not too great are the same, however they are taken; what is no number has none. No condition beyond the row's own. -/
import Derived.Test.YtdoonajhplcmlaaDoorValueSums
import Derived.Test.YtdoonajhplcmlaaDoorLift
namespace Go.Proofs.YtdoonajhplcmlaaDoor
open Go.RowKit
open Go.ChangeShapes Go.WideShapes Go.ChangeAt

theorem i32_bounds {n : Int} (h : (Lit.int .i32 n).wf = true) : inS n := by
  simpa [inS, Lit.wf, IntKind.min, IntKind.max, IntKind.signed, IntKind.bits] using h
set_option maxRecDepth 100000 in
theorem open_sums {H : Type} {enc : TypeId × Value → H} {W : World} {base : Nat} {v : Value} {d : DataW H} {p : List MemPlace}
    (hv : Value.okWide Tryd.prog W .any base 34 v) (h : DataW.Trod enc Tryd.prog W 0 (fun _ => true) true 34 v d p) :
    ∃ (a b c : Int) (x : V), v = .agg #[.int .i32 a, .int .i32 b, .int .i32 c, .int .i64 x.k, .int .i64 x.i, .string ⟨x.s.toArray⟩] ∧ inS a ∧ inS b ∧ inS c ∧ x.ok := by
  obtain ⟨cs, rfl, hsz⟩ := okWide_struct Tryd.underlying34 hv
  have hC : Tryd.prog.cellsOf 34 = 6 := by kernel_rfl
  obtain ⟨l⟩ := cs
  match l, hsz.trans hC with
  | [c0, c1, c2, c3, c4, c5], _ =>
    obtain ⟨fuel, hf⟩ := h
    obtain ⟨ys, n, _, _, _, hlen, hg⟩ := DataW.trod_struct Tryd.underlying34 hf
    have s0 : Tryd.prog.cellsOf 21 = 1 := by kernel_rfl
    match ys, hlen with
    | [y0, y1, y2, y3], _ =>
      have t0 : DataW.trod enc Tryd.prog W 0 (fun _ => true) true n 21 (([c0, c1, c2, c3, c4, c5].drop 0).take (Tryd.prog.cellsOf 21)) = some y0 := hg 0 _ rfl
      have t1 : DataW.trod enc Tryd.prog W 0 (fun _ => true) true n 21 (([c0, c1, c2, c3, c4, c5].drop 1).take (Tryd.prog.cellsOf 21)) = some y1 := hg 1 _ rfl
      have t2 : DataW.trod enc Tryd.prog W 0 (fun _ => true) true n 21 (([c0, c1, c2, c3, c4, c5].drop 2).take (Tryd.prog.cellsOf 21)) = some y2 := hg 2 _ rfl
      have t3 : DataW.trod enc Tryd.prog W 0 (fun _ => true) true n 23 (([c0, c1, c2, c3, c4, c5].drop 3).take (Tryd.prog.cellsOf 23)) = some y3 := hg 3 _ rfl
      rw [s0] at t0 t1 t2
      rw [cellsV] at t3
      obtain ⟨a, e0, _, w0⟩ := DataW.trod_int Tryd.underlying21 t0
      obtain ⟨b, e1, _, w1⟩ := DataW.trod_int Tryd.underlying21 t1
      obtain ⟨c, e2, _, w2⟩ := DataW.trod_int Tryd.underlying21 t2
      obtain ⟨x, e3, e4, e5, hx⟩ := open_val_t t3
      simp at e0 e1 e2
      subst e0 e1 e2 e3 e4 e5
      exact ⟨a, b, c, x, rfl, i32_bounds w0, i32_bounds w1, i32_bounds w2, hx⟩

set_option maxRecDepth 100000 in
theorem valueSums_lifted (os : Os) (started : os.Started) (H : Type) (enc : TypeId × Value → H) :
    ReturnsInHanded {} Tryd.checked os 7 .any (fun w args => (Rows.valueSumsSpec.pre enc Tryd.prog Tryd.f7 [] false w args ∧ laidMetH Tryd.prog Rows.valueSumsRow.laid w) ∧ sizedMet enc Tryd.prog Tryd.f7 (OpenSpec.ofChange Rows.valueSumsSpec) false w args)
      (Rows.valueSumsSpec.post enc Tryd.prog Tryd.f7 false true false false) := by
  refine handed_and_shaped (C := Tryd.checked) (X := fun w _ => laidMetH Tryd.prog Rows.valueSumsRow.laid w) (fun _ _ _ hh h => h.of_heap hh) own started (by kernel_rfl) Tryd.func7
    (ChangeSpec.witness_shaped (enc := enc) (C := Tryd.checked) (os := os) (X := fun w _ => laidMetH Tryd.prog Rows.valueSumsRow.laid w) false (World.laidAll Tryd.prog os Rows.valueSumsRow.laid) #[.agg #[.int .i32 0, .int .i32 0, .int .i32 0, .int .i64 0, .int .i64 0, .string ⟨#[]⟩]] 8 (World.laidAll_os _ _ _)
      (World.shaped_of_ZipB (by kernel_rfl) (by kernel_rfl)) (by kernel_rfl) (by kernel_rfl) (by kernel_rfl)
      (by rw [MakeChecks.laidMetH_plain _ _ _ (by kernel_rfl)]; exact laidMet_laidAll _ (by kernel_rfl) (by kernel_rfl))) ?_
  intro W base args ds gs before hval0 hW _ _ hL hsh _
  have hval : ∀ (j : Nat) t v, Tryd.f7.params[j]? = some t → args[j]? = some v → Value.okWide Tryd.prog W .any base t v := hval0
  have hW' := hW
  obtain ⟨p, q, hA0, hV, rfl, hfz, hnd⟩ := hW
  have hA : DataW.TrodAll enc Tryd.prog W 0 (fun _ => true) true Tryd.f7.params.toList args.toList ds p := hA0
  rw [Tryd.params7] at hA hval
  obtain ⟨v0, vs0, d0, ds0, p0, q0, hargs, rfl, rfl, h0, r0⟩ := trodAll_cons hA
  have k0 := h0
  have lt0 : ∀ x ∈ p0, x.block < W.heap.size := by obtain ⟨m, hm⟩ := k0; exact DataW.trod_lt m _ _ _ hm
  obtain ⟨rfl, rfl, rfl⟩ := trodAll_nil r0
  obtain rfl : args = #[v0] := by cases args; simp_all
  obtain ⟨rfl, rfl⟩ := trodVars_none hV
  obtain ⟨a, b, c, x, rfl, ha, hb, hc, ox⟩ := open_sums (hval 0 34 v0 rfl rfl) h0
  clear hA0 hval0
  refine (valueSums_walk a b c x W ha hb hc ox.2.1 (maxL_of hsh)).mono fun e W' ⟨he, bel⟩ => ?_
  subst he
  exact ⟨_, rfl, _, _, _, [], _, [], hW', trodAll_mk1 (shut_bool Tryd.underlying4 _), (trodAll_cons_mk (Below.trod laidOut (by kernel_rfl) (of_decide_eq_true (by kernel_rfl)) k0 bel lt0) trodAll_mk0), rfl, bel.frame _, fun h => by cases h⟩

theorem valueSums_said : Rows.ValueSumsSaid :=
  OpenClaim.holds_of_wide 7 Tryd.f7 rfl rfl rfl rfl rfl rfl rfl ⟨rfl, rfl, rfl, rfl, rfl⟩ rfl rfl rfl rfl rfl (by kernel_rfl) Tryd.func7 (by kernel_rfl)
    (of_decide_eq_true (by kernel_rfl)) (by unfold Func.isWrapper; first | (rw [if_pos (by decide +kernel)]; kernel_rfl) | (rw [if_neg (by decide +kernel)]; exact ⟨rfl, rfl⟩))
    (fun os started H enc _ => valueSums_lifted os started H enc)
theorem valueSums_holds : Rows.ValueSumsCardSaid :=
  Claim7.holds_tied_plain_at .later [] _ _ _ _ valueSums_said (fun _ h => by cases h) (by kernel_rfl) (fun _ h => by cases h) valueSums_row_tie rfl ⟨rfl, rfl⟩ (by kernel_rfl) rfl
    (fun f fn hf hfn => by
      obtain rfl : f = 7 := Option.some.inj ((show Tryd.prog.funcNamed "caddis/caddislaw01.ValueSums" = some 7 by kernel_rfl).symm.trans hf) |>.symm
      obtain rfl : fn = Tryd.f7 := (Option.some.inj (Tryd.func7.symm.trans hfn)).symm
      exact ⟨by kernel_rfl, fun j t ht => by
        have hall : (Tryd.f7.params.toList.all fun u => !Tryd.prog.wantsStandIn u) = true := by kernel_rfl
        have hm : t ∈ Tryd.f7.params.toList := by simpa using Array.mem_of_getElem? ht
        exact (show Tryd.prog.wantsStandIn t = false by simpa using List.all_eq_true.1 hall t hm)⟩)
    (by kernel_rfl)
#print axioms valueSums_holds

end Go.Proofs.YtdoonajhplcmlaaDoor
