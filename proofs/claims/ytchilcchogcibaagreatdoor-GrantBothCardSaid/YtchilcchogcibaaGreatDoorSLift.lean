/- The frame from a walk to a given statement whose row lists variables of the library; what the list gives; how much Few leaves. -/
import Derived.Test.YtchilcchogcibaaGreatDoorCards
import Derived.Test.YtchilcchogcibaaGreatDoorTie
import Derived.Lay
import Derived.PinnedBridge
import Derived.SevenTiedAt
import Derived.HandedShaped
import Derived.Shelf.Vars
import Derived.Lib.LaidTab
import Derived.Stop.LaidErr
import Derived.Test.YtchilcchogcibaaGreatDoorSGot
import Derived.Test.YtchilcchogcibaaGreatDoorSGrR4
import Derived.Test.YtchilcchogcibaaGreatDoorSOpenS
import Derived.Test.YtchilcchogcibaaGreatDoorSOpenSt
import Derived.Test.YtchilcchogcibaaGreatDoorSStage2
namespace Go.Proofs.YtchilcchogcibaaGreatDoor
open Go.RowKit
theorem fewG_len (l : List Gr) : (fewG l).length ≤ 61 := by unfold fewG; simp; omega
theorem fewG_short (l : List Gr) : ∀ g ∈ fewG l, g.r.length ≤ 20 ∧ g.t.length ≤ 20 := by
 intro g hg
 unfold fewG at hg
 obtain ⟨x, _, rfl⟩ := List.mem_map.1 hg
 exact ⟨List.length_take_le _ _, List.length_take_le _ _⟩
end Go.Proofs.YtchilcchogcibaaGreatDoor
namespace Go.Proofs.YtchilcchogcibaaGreatDoor
open Go.ChangeShapes Go.WideShapes Go.ChangeAt Go.RowKit
theorem handed_and_shaped {H : Type} {enc : TypeId × Value → H} {a : Assume} {C : Checked} {os : Os} {f : FuncId} {fn : Func} {s : ChangeSpec} {conds : List PathCond} {apart fresh handsOn again : Bool} {X : World → Array Value → Prop}
  (hX : ∀ (w w' : World) (args : Array Value), w.heap = w'.heap → X w args → X w' args)
  (own : ownKnob C.prog.godebug = none) (started : os.Started) (noInit : C.prog.inits.idxOf? f = none) (hfn : C.prog.funcs[f]? = some fn)
  (witness : ∃ (w : World) (tape : Tape) (i : Input), w.os = os ∧ (w.forCall tape i).Shaped C.prog ∧ i.vars = [] ∧ Input.okWide C.prog (w.forCall tape i) .any w.heap.size f i ∧
   ((s.pre enc C.prog fn conds apart (w.forCall tape i).memory i.args ∧ X (w.forCall tape i).memory i.args) ∧ sizedMet enc C.prog fn (OpenSpec.ofChange s) apart (w.forCall tape i).memory i.args) ∧ a.holds C.prog (lone (Frame.enter C.prog f i.args .normal) [] (w.forCall tape i)))
  (contract : ∀ (W : World) (base : Nat) (args : Array Value) (ds gs : List (DataW H)) (before : List MemPlace),
   (∀ (j : Nat) t v, fn.params[j]? = some t → args[j]? = some v → Value.okWide C.prog W .any base t v) →
   DataW.Whole enc C.prog fn.params.toList s.vars apart W args.toList ds gs before →
   conds.all (PathCond.test C.prog ⟨fn.params.toList, ds, s.plain.varTypes C.prog, gs⟩) = true →
   (DataW.weightsEach C.prog (fn.params.toList ++ s.plain.varTypes C.prog) (ds ++ gs)).all (· ≤ reachBytes) = true → X W args → W.ShapedOpen C.prog →
   a.holds C.prog (lone (Frame.enter C.prog f args .normal) [] W) →
   Calls C.prog f args W fun e W' => ∃ v, e = .returned v ∧ s.post enc C.prog fn apart fresh handsOn again W args v W') :
  ReturnsInHanded a C os f .any (fun w args => (s.pre enc C.prog fn conds apart w args ∧ X w args) ∧ sizedMet enc C.prog fn (OpenSpec.ofChange s) apart w args) (s.post enc C.prog fn apart fresh handsOn again) := by
 refine returnsInHanded_of_calls own started noInit witness ?_
 intro w tape i _ hsh _ hok hpre hholds
 obtain ⟨_, _, _, fn', hfn', _, _, _, _, hval⟩ := hok
 have e : fn' = fn := Option.some.inj (hfn'.symm.trans hfn)
 subst e
 obtain ⟨⟨⟨ds, gs, before, hw, hc⟩, hx⟩, hz⟩ := hpre
 have hw' := DataW.Whole.of_heap (w' := w.forCall tape i) (by rfl) hw
 refine (contract (w.forCall tape i) w.heap.size i.args ds gs before hval hw' hc (hz.weights hw) (hX _ _ _ (by rfl) hx) hsh hholds).mono fun e W' ⟨v, he, hp⟩ => ?_
 subst he
 exact ChangeSpec.post_blind hp
theorem maxL_of {W : World} (h : W.ShapedOpen Tryz.prog) : MaxL W :=
 cell_of_shapedOpen_int (zero := #[.int .i64 0]) (t := 3) h (by decide +kernel) (by kernel_rfl) rfl (by kernel_rfl) (by kernel_rfl) Tryz.underlying3
end Go.Proofs.YtchilcchogcibaaGreatDoor
namespace Go.Proofs.YtchilcchogcibaaGreatDoor
open Go.RowKit
theorem pow10_data : Rows.laid_internal_strconv_uint64pow10 (H := Unit) = Lib.tabData .u64 Lib.pow10Tab := by kernel_rfl
theorem g10 : Tryz.prog.globalNamed "internal/strconv.uint64pow10" = some 5 := by kernel_rfl
theorem t10 : (Tryz.prog.globals[5]?).map (·.type) = some 251 := by kernel_rfl
theorem c10 : Tryz.prog.cellsOf 228 = 1 := by kernel_rfl
theorem d10 : Tryz.prog.cellsOf 251 = 20 := by kernel_rfl
theorem tab10_of {W : World} {x y : String × DataW Unit} {rest : List (String × DataW Unit)} (hL : laidMet Tryz.prog (x :: y :: ("internal/strconv.uint64pow10", Rows.laid_internal_strconv_uint64pow10) :: rest) W) : Tab10 W := by
 have h := laidMet.tail (laidMet.tail hL)
 rw [pow10_data] at h
 exact Lib.tabIs_of_head g10 t10 Tryz.underlying251 Tryz.underlying228 c10 d10 h
end Go.Proofs.YtchilcchogcibaaGreatDoor
namespace Go.Proofs.YtchilcchogcibaaGreatDoor
open Go.RowKit Go.Lib
theorem gTypes : Tryz.prog.globalNamed "caddis/stmt.types" = some 0 := by kernel_rfl
theorem tTypes : (Tryz.prog.globals[0]?).map (·.type) = some 175 := by kernel_rfl
theorem dTypes : Tryz.prog.cellsOf 175 = 3 := by kernel_rfl
theorem eTypes : Tryz.prog.cellsOf 9 = 1 := by kernel_rfl
theorem cells_of_texts {H : Type} {enc : TypeId × Value → H} {P : Program} {w : World} {base : Nat} {sp : Nat → Bool} {held : Bool} {fuel : Nat} {t e : TypeId} {n : Nat} {cs : List Value} {zs : List (List UInt8)} {p : List MemPlace}
  (ht : P.underlying t = some (.array n e)) (he : P.underlying e = some .string) (hce : P.cellsOf e = 1) (hct : P.cellsOf t = n)
  (h : DataW.trod enc P w base sp held fuel t cs = some (.agg (zs.map fun z => (DataW.lit (.string z) : DataW H)), p)) : cs = zs.map fun z => Value.string ⟨z.toArray⟩ := by
 cases fuel with
 | zero => simp [DataW.trod] at h
 | succ fuel =>
  simp only [DataW.trod, ht, hce, hct, Nat.mul_one] at h
  split at h
  ·rename_i hl
   obtain ⟨xs, hm, hx⟩ := Option.map_eq_some_iff.1 h
   have hxs : xs.map (·.1) = zs.map fun z => (DataW.lit (.string z) : DataW H) := by
    have := congrArg Prod.fst hx
    simpa using this
   have hxl : xs.length = n := by simpa using mapM_length hm
   have hzl : zs.length = n := by
    have := congrArg List.length hxs
    simp at this
    omega
   apply List.ext_getElem?
   intro i
   by_cases hi : i < n
   ·obtain ⟨b, hb, hf⟩ := mapM_at hm i i (by simp [hi])
    obtain ⟨z, hc, rfl, _⟩ := DataW.trod_string he hf
    have h1 : cs[i]? = some (.string z) := by
     have := congrArg (·[0]?) hc
     simpa [List.getElem?_take, List.getElem?_drop] using this
    have h2 : (xs.map (·.1))[i]? = some (DataW.lit (.string z.data.toList) : DataW H) := by simp [hb]
    rw [hxs] at h2
    simp only [List.getElem?_map, Option.map_eq_some_iff, DataW.lit.injEq, Lit.string.injEq] at h2
    obtain ⟨z', hz', rfl⟩ := h2
    simp [h1, hz']
   ·rw [List.getElem?_eq_none (by omega), List.getElem?_eq_none (by simp; omega)]
  ·cases h
theorem typT_of {W : World} {x y z v : String × DataW Unit} {rest : List (String × DataW Unit)} (hL : laidMet Tryz.prog (x :: y :: z :: v :: ("caddis/stmt.types", Rows.laid_caddis_stmt_types) :: rest) W) : TypT W := by
 have h := laidMet.tail (laidMet.tail (laidMet.tail (laidMet.tail hL)))
 obtain ⟨ps, ⟨g', t', cs, fuel, p, q, hg', ht', hvar, hd, _, _⟩, _⟩ := h
 obtain rfl := Option.some.inj (gTypes.symm.trans hg')
 obtain rfl := Option.some.inj (tTypes.symm.trans ht')
 have hc := cells_of_texts (zs := [[73, 78, 84], [84, 69, 88, 84], [66, 79, 79, 76]]) Tryz.underlying175 Tryz.underlying9 eTypes dTypes hd
 have key : ∀ i, W.cell? ⟨0, i, none⟩ = ([[73, 78, 84], [84, 69, 88, 84], [66, 79, 79, 76]].map fun z => Value.string ⟨z.toArray⟩)[i]? := fun i => (World.var?_cell gTypes hvar i).trans (by rw [← Array.getElem?_toList, hc])
 exact ⟨key 0, key 1, key 2⟩
theorem env0_of {W : World} (hsh : W.ShapedOpen Tryz.prog) {x y v : String × DataW Unit} {rest : List (String × DataW Unit)} (hL : laidMet Tryz.prog (x :: y :: ("internal/strconv.uint64pow10", Rows.laid_internal_strconv_uint64pow10) :: v :: ("caddis/stmt.types", Rows.laid_caddis_stmt_types) :: rest) W) : Env0 W :=
 ⟨maxL_of hsh, tab10_of hL, typT_of hL⟩
end Go.Proofs.YtchilcchogcibaaGreatDoor
