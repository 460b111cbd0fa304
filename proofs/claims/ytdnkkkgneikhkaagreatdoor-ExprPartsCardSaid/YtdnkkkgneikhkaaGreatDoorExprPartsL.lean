/- caddislaw04.ExprParts answers true: what an expression comes to is what its parts come to, one with the other: NOT, AND, OR, and the others. No condition beyond the row's own. -/
import Derived.Test.YtdnkkkgneikhkaaGreatDoorExprParts
import Derived.Test.YtdnkkkgneikhkaaGreatDoorLift
import Derived.Test.YtdnkkkgneikhkaaGreatDoorErrs
import Derived.Test.YtdnkkkgneikhkaaGreatDoorOpenM
namespace Go.Proofs.YtdnkkkgneikhkaaGreatDoor
open Go.RowKit
open Go.ChangeShapes Go.WideShapes Go.ChangeAt
theorem cellsP : Tryz.prog.cellsOf 30 = 14 := by kernel_rfl
theorem cells1c : Tryz.prog.cellsOf 27 = 1 := by kernel_rfl
theorem cells1v : Tryz.prog.cellsOf 28 = 1 := by kernel_rfl
set_option maxRecDepth 100000 in
theorem open_parts {H : Type} {enc : TypeId × Value → H} {W : World} {base : Nat} {q : Value} {d : DataW H} {p : List MemPlace}
    (hv : Value.okWide Tryz.prog W .any base 30 q) (h : DataW.Trod enc Tryz.prog W 0 (fun _ => true) true 30 q d p) :
    ∃ (e g : Ex) (A A' : Option Addr) (c c' n n' : Nat) (A1 A2 : Option Addr) (c1 c2 : Nat) (cols : List Col) (row : List V), q = .agg (e.cells A c ++ (g.cells A' c' ++ [Value.slice A1 cols.length c1, Value.slice A2 row.length c2])).toArray ∧
      e.fit maxLen ∧ e.l.length ≤ maxLen ∧ ExS maxLen n W W.heap.size A e.l ∧ g.fit maxLen ∧ g.l.length ≤ maxLen ∧ ExS maxLen n' W W.heap.size A' g.l ∧
      cols.length ≤ maxLen ∧ ColS W W.heap.size A1 cols ∧ (∀ x ∈ cols, x.n.length ≤ maxLen) ∧ row.length ≤ maxLen ∧ VS W W.heap.size A2 row ∧ (∀ x ∈ row, x.ok) := by
  obtain ⟨cs, rfl, hsz⟩ := okWide_struct Tryz.underlying30 hv
  obtain ⟨l⟩ := cs
  match l, hsz.trans cellsP with
  | [a0, a1, a2, a3, a4, a5, a6, a7, a8, a9, a10, a11, a12, a13], _ =>
    obtain ⟨fuel, hf⟩ := h
    obtain ⟨ys, n, _, _, _, hlen, hg⟩ := DataW.trod_struct Tryz.underlying30 hf
    match ys, hlen with
    | [y0, y1, y2, y3], _ =>
      have t0 : DataW.trod enc Tryz.prog W 0 (fun _ => true) true n 26 (([a0, a1, a2, a3, a4, a5, a6, a7, a8, a9, a10, a11, a12, a13].drop 0).take (Tryz.prog.cellsOf 26)) = some y0 := hg 0 _ rfl
      have t1 : DataW.trod enc Tryz.prog W 0 (fun _ => true) true n 26 (([a0, a1, a2, a3, a4, a5, a6, a7, a8, a9, a10, a11, a12, a13].drop 6).take (Tryz.prog.cellsOf 26)) = some y1 := hg 1 _ rfl
      have t2 : DataW.trod enc Tryz.prog W 0 (fun _ => true) true n 27 (([a0, a1, a2, a3, a4, a5, a6, a7, a8, a9, a10, a11, a12, a13].drop 12).take (Tryz.prog.cellsOf 27)) = some y2 := hg 2 _ rfl
      have t3 : DataW.trod enc Tryz.prog W 0 (fun _ => true) true n 28 (([a0, a1, a2, a3, a4, a5, a6, a7, a8, a9, a10, a11, a12, a13].drop 13).take (Tryz.prog.cellsOf 28)) = some y3 := hg 3 _ rfl
      rw [cellsE] at t0 t1
      rw [cells1c] at t2
      rw [cells1v] at t3
      obtain ⟨e, A, c, e0, f1, f2, f3, f4⟩ := (open_ex_both n).1 _ _ t0
      obtain ⟨g, A', c', e1, g1, g2, g3, g4⟩ := (open_ex_both n).1 _ _ t1
      obtain ⟨A1, cols, c1, e2, h1, h2, h3, h4⟩ := open_cols_t t2
      obtain ⟨A2, row, c2, e3, k1, k2, k3, k4⟩ := open_vals_t t3
      refine ⟨e, g, A, A', c, c', n, n, A1, A2, c1, c2, cols, row, ?_, f1, Nat.le_trans f2 f3, f4, g1, Nat.le_trans g2 g3, g4, Nat.le_trans h1 h2, h3, h4, Nat.le_trans k1 k2, k3, k4⟩
      rw [← e0, ← e1]
      simp at e2 e3
      rw [e2, e3]
      rfl
set_option maxRecDepth 100000 in
theorem exprParts_lifted (os : Os) (started : os.Started) (H : Type) (enc : TypeId × Value → H) :
    ReturnsInHanded {} Tryz.checked os 3 .any (fun w args => (Rows.exprPartsSpec.pre enc Tryz.prog Tryz.f3 [] false w args ∧ laidMetH Tryz.prog Rows.exprPartsRow.laid w) ∧ sizedMet enc Tryz.prog Tryz.f3 (OpenSpec.ofChange Rows.exprPartsSpec) false w args)
      (Rows.exprPartsSpec.post enc Tryz.prog Tryz.f3 false true false false) := by
  refine handed_and_shaped (C := Tryz.checked) (X := fun w _ => laidMetH Tryz.prog Rows.exprPartsRow.laid w) (fun _ _ _ hh h => h.of_heap hh) own started (by kernel_rfl) Tryz.func3
    (ChangeSpec.witness_shaped (enc := enc) (C := Tryz.checked) (os := os) (X := fun w _ => laidMetH Tryz.prog Rows.exprPartsRow.laid w) false (World.laidAll Tryz.prog os Rows.exprPartsRow.laid) #[.agg #[.string ⟨#[]⟩, .int .i64 0, .int .i64 0, .string ⟨#[]⟩, .string ⟨#[]⟩, .slice none 0 0, .string ⟨#[]⟩, .int .i64 0, .int .i64 0, .string ⟨#[]⟩, .string ⟨#[]⟩, .slice none 0 0, .slice none 0 0, .slice none 0 0]] 8 (World.laidAll_os _ _ _)
      (World.shaped_of_ZipB (by kernel_rfl) (by kernel_rfl)) (by kernel_rfl) (by kernel_rfl) (by kernel_rfl)
      (by rw [MakeChecks.laidMetH_plain _ _ _ (by kernel_rfl)]; exact laidMet_laidAll _ (by kernel_rfl) (by kernel_rfl))) ?_
  intro W base args ds gs before hval0 hW _ _ hL hsh _
  have hval : ∀ (j : Nat) t v, Tryz.f3.params[j]? = some t → args[j]? = some v → Value.okWide Tryz.prog W .any base t v := hval0
  have hW' := hW
  obtain ⟨p, q, hA0, hV, rfl, hfz, hnd⟩ := hW
  have hA : DataW.TrodAll enc Tryz.prog W 0 (fun _ => true) true Tryz.f3.params.toList args.toList ds p := hA0
  rw [Tryz.params3] at hA hval
  obtain ⟨v0, vs0, d0, ds0, p0, q0, hargs, rfl, rfl, h0, r0⟩ := trodAll_cons hA
  have k0 := h0
  have lt0 : ∀ x ∈ p0, x.block < W.heap.size := by obtain ⟨m, hm⟩ := k0; exact DataW.trod_lt m _ _ _ hm
  obtain ⟨rfl, rfl, rfl⟩ := trodAll_nil r0
  obtain rfl : args = #[v0] := by cases args; simp_all
  obtain ⟨rfl, rfl⟩ := trodVars_none hV
  obtain ⟨e, g, A, A', c, c', n, n', A1, A2, c1, c2, cols, row, rfl, hf, hl, hEx, hf', hl', hEx', hcl, hCo, hcn, hrl, hVa, hri⟩ := open_parts (hval 0 30 v0 rfl rfl) h0
  have hErr : Errs W := by
    have h := hL
    rw [MakeChecks.laidMetH_plain _ _ _ (by kernel_rfl)] at h
    exact errs_of h
  clear hA0 hval0
  refine (exprParts_walk e g A A' c c' n n' A1 A2 c1 c2 cols row W hf hl hEx hf' hl' hEx' hcl hCo hcn hrl hVa (fun x hx => (hri x hx).2.1) hErr).mono fun e W' ⟨he, bel⟩ => ?_
  subst he
  exact ⟨_, rfl, _, _, _, [], _, [], hW', trodAll_mk1 (shut_bool Tryz.underlying4 _), (trodAll_cons_mk (Below.trod laidOut (by kernel_rfl) (of_decide_eq_true (by kernel_rfl)) k0 bel lt0) trodAll_mk0), rfl, bel.frame _, fun h => by cases h⟩

theorem exprParts_said : Rows.ExprPartsSaid :=
  OpenClaim.holds_of_wide 3 Tryz.f3 rfl rfl rfl rfl rfl rfl rfl ⟨rfl, rfl, rfl, rfl, rfl⟩ rfl rfl rfl rfl rfl (by kernel_rfl) Tryz.func3 (by kernel_rfl)
    (of_decide_eq_true (by kernel_rfl)) (by unfold Func.isWrapper; first | (rw [if_pos (by decide +kernel)]; kernel_rfl) | (rw [if_neg (by decide +kernel)]; exact ⟨rfl, rfl⟩))
    (fun os started H enc _ => exprParts_lifted os started H enc)
theorem exprParts_holds : Rows.ExprPartsCardSaid :=
  Claim7.holds_tied_plain_at .later [] _ _ _ _ exprParts_said (fun _ h => by cases h) (by kernel_rfl) (fun _ h => by cases h) exprParts_row_tie rfl ⟨rfl, rfl⟩ (by kernel_rfl) rfl
    (fun f fn hf hfn => by
      obtain rfl : f = 3 := Option.some.inj ((show Tryz.prog.funcNamed "caddis/caddislaw04.ExprParts" = some 3 by kernel_rfl).symm.trans hf) |>.symm
      obtain rfl : fn = Tryz.f3 := (Option.some.inj (Tryz.func3.symm.trans hfn)).symm
      exact ⟨by kernel_rfl, fun j t ht => by
        have hall : (Tryz.f3.params.toList.all fun u => !Tryz.prog.wantsStandIn u) = true := by kernel_rfl
        have hm : t ∈ Tryz.f3.params.toList := by simpa using Array.mem_of_getElem? ht
        exact (show Tryz.prog.wantsStandIn t = false by simpa using List.all_eq_true.1 hall t hm)⟩)
    (by kernel_rfl)
#print axioms exprParts_holds

end Go.Proofs.YtdnkkkgneikhkaaGreatDoor
