/- caddislaw09.GrantMoves answers true; The frame from a walk to a given statement whose row lists variables of the library; What a row's list of variables gives; What a row's list of variables gives statements' texts; caddislaw09.GrantMoves answers true. -/
import Derived.Deep.CutBlock
import Derived.Deep.DeepCutAuto
import Derived.Test.YtchilcchogcibaaGreatDoorCards
import Derived.Test.YtchilcchogcibaaGreatDoorTie
import Derived.Lay
import Derived.PinnedBridge
import Derived.SevenTiedAt
import Derived.HandedShaped
import Derived.Shelf.Vars
import Derived.Lib.LaidTab
import Derived.Stop.LaidErr
import Derived.Test.YtchilcchogcibaaGreatDoorSAwake9
import Derived.Test.YtchilcchogcibaaGreatDoorSGot
import Derived.Test.YtchilcchogcibaaGreatDoorSGrR2
import Derived.Test.YtchilcchogcibaaGreatDoorSGrR4
import Derived.Test.YtchilcchogcibaaGreatDoorSOpenS
import Derived.Test.YtchilcchogcibaaGreatDoorSOpenSt
import Derived.Test.YtchilcchogcibaaGreatDoorSStage2
namespace Go.Proofs.YtchilcchogcibaaGreatDoor
open Go.RowKit
attribute [local go_sem] ByteArray.extract_mk ba_get ba_append
attribute [local go_sem ↓] Go.wp_at_zero Go.wp_at_succ
theorem fewG_len (l : List Gr) : (fewG l).length ≤ 61 := by unfold fewG; simp; omega
theorem fewG_short (l : List Gr) : ∀ g ∈ fewG l, g.r.length ≤ 20 ∧ g.t.length ≤ 20 := by
 intro g hg
 unfold fewG at hg
 obtain ⟨x, _, rfl⟩ := List.mem_map.1 hg
 exact ⟨List.length_take_le _ _, List.length_take_le _ _⟩
def few4 (l : List (List UInt8)) : List (List UInt8) := (l.take 4).map fun s => s.take 20
set_option maxRecDepth 100000 in
set_option maxHeartbeats 4000000 in
theorem grantMoves_walk (A : Option Addr) (c : Nat) (l : List Gr) (u : List UInt8) (At : Option Addr) (ct : Nat) (ts : List (List UInt8)) (w : World) (hl : l.length ≤ maxLen) (h : GQ l A (Old w.heap.size) w) (ht : ts.length ≤ maxLen) (hT : SQ ts At (Old w.heap.size) w) (hV : Env0 w) :
  Calls Tryz.prog 7 #[.slice A l.length c, .string ⟨u.toArray⟩, .slice At ts.length ct] w (Ret (.bool true) w) := by
 have H1 := Lib.hid (few9_any A c l w hl h)
 have hFL := fewG_len l
 have hFN := fewG_short l
 obtain ⟨F, hF⟩ : ∃ F, fewG l = F := ⟨_, rfl⟩
 rw [hF] at H1 hFL hFN
 obtain ⟨U, hU⟩ : ∃ U, u.take 20 = U := ⟨_, rfl⟩
 have HU : Hid (∀ Z : World, Calls Tryz.prog 13 #[.string ⟨u.toArray⟩] Z (Ret (.string ⟨U.toArray⟩) Z)) := fun Z => by rw [← hU]; exact text9_any u Z
 have HFN := Lib.hid hFN
 have HTS : Hid (∀ Z : World, Below w.heap.size w Z → w.heap.size ≤ Z.heap.size → SQ ts At (Old Z.heap.size) Z) := fun Z hz hs => hT.keep (old_keep hz hs)
 have HEV : Hid (∀ Z : World, Below w.heap.size w Z → Env0 Z) := fun Z hz => hV.below hz
 unfold maxLen at ht
 clear hF hU h hT hV hl hFN
 go_enter Tryz.func7, Tryz.ntmps7
 go_wp2_with fail
 refine H1.out.mono ?_
 rintro en w1 ⟨sv, rfl, hown, hb1⟩
 obtain ⟨A1, c1, rfl, -, -, hQ1⟩ := GQ.own hown
 have hz1 := hb1.size
 have HQ : Hid (∀ Z : World, Below w1.heap.size w1 Z → GQ F A1 (Old Z.heap.size) Z) := fun Z hz => hQ1.keep fun b hb => ⟨Nat.lt_of_lt_of_le hb.2 hz.size, fun o => hz.cell (p := ⟨b, o, none⟩) hb.2⟩
 clear hown hQ1 H1
 go_wp2_with fail
 refine (HU.out _).mono ?_
 rintro en w2 ⟨rfl, hb2⟩
 have hz2 := hb2.size
 have hn2 : Below w.heap.size w w2 := hb1.trans (hb2.mono hz1)
 go_upto_block 0 with fail
 go_cut [7] from 13 to 30 (fun v wx => ∃ A2 c2, v = .slice A2 (few4 ts).length c2 ∧ SQ (few4 ts) A2 (Old wx.heap.size) wx ∧ Below w2.heap.size w2 wx)
 case first =>
  obtain ⟨i0, hi0, zi0, zi1, zi2⟩ := info_parts infoS5
  go_wp2_with fail
  go_loopw [7, 8] (fun v i wr => ∃ j : Nat, j ≤ ts.length ∧ j ≤ 4 ∧ i = .int .i64 j ∧ wr.ownsRow w2.heap.size 9 1 v j (((ts.take j).map fun s => s.take 20).map strW) ∧ Below w2.heap.size w2 wr) (fun _ i _ => ts.length - (intOf i).toNat)
  case atStart => exact ⟨0, by omega, by omega, rfl, World.ownsRow_nil _ _ _ _, Below.refl _ _⟩
  case round =>
   obtain ⟨j, hj1, hj2, rfl, hown, hbw⟩ := hrel
   have hzw := hbw.size
   by_cases hlt : j < ts.length ∧ j < 4
   ·obtain ⟨hlt, h14⟩ := hlt
    obtain ⟨b, off, x, hA, hbB, hx, c0⟩ := (HTS.out wr (hn2.trans (hbw.mono (by omega))) (by omega)).at_ hlt
    subst hA
    have HX := Lib.hid hx
    have HOW := Lib.hid hown
    have HLT := Lib.hid hown.lt
    clear hown hx
    have i1 : (0 : Int) ≤ (j : Int) := by omega
    have i2 : (j : Int) < (ts.length : Int) := by omega
    obtain ⟨V, hV⟩ : ∃ V, x.take 20 = V := ⟨_, rfl⟩
    have HT : Hid (∀ Z : World, Calls Tryz.prog 13 #[.string ⟨x.toArray⟩] Z (Ret (.string ⟨V.toArray⟩) Z)) := fun Z => by rw [← hV]; exact text9_any x Z
    have HVV := Lib.hid hV
    clear hV
    go_wp2_with fail
    refine (HT.out _).mono ?_
    rintro en w3 ⟨rfl, hb3⟩
    have hz3 := hb3.size
    have HO1 := Lib.hid (own_below HOW.out hb3)
    have hc3 := hbw.trans (hb3.mono hzw)
    clear HOW
    go_wp2_with (at_builtin; refine wpList_append_own _ rfl _ _ 23 rfl w2.heap.size 9 i0 _ 1 16 Tryz.underlying23 hi0 zi0 zi1 zi2 rfl (by decide) _ _ _ rfl (HO1.out.alloc _) ⟨w3.heap.size, 0, none⟩ 1 1 [.string ⟨V.toArray⟩] rfl rfl ?c1 ?c2 ?c3 ?c4 ?c5 ?_)
    case c1 => exact World.news_of_block (cs := #[.string ⟨V.toArray⟩]) (t := 9) (fr := (0, 0)) (Blk.new _ _ _)
    case c2 => exact fun u hu => by simp at hu; subst hu; rfl
    case c3 => unfold maxLen; omega
    case c4 => omega
    case c5 => simp; omega
    intro v' w4 hown4 hg4 _
    go_wp2_with fail
    go_roundw
    case rel =>
     refine ⟨j + 1, by omega, by omega, by go_num, ?_, ?_⟩
     ·rw [fewS_snoc ts j x HX.out, List.map_append, HVV.out]
      simpa [strW] using hown4
     ·exact Below.grown (hc3.alloc (by omega) _) hg4 (by simp; omega) (fun k hk => (HLT.out k hk).1)
    case measure => simp [intOf]; omega
   ·obtain ⟨A', c', rfl, hc1, hc2, hv⟩ := SQ.own hown
    have e : few4 ts = (ts.take j).map fun s => s.take 20 := by
     unfold few4
     by_cases h4 : j < ts.length
     ·rw [show j = 4 by omega]
     ·rw [List.take_of_length_le (i := 4) (by omega), List.take_of_length_le (by omega)]
    have HE : Hid (SQ (few4 ts) A' (Old wr.heap.size) wr) := by show SQ _ _ _ _; rw [e]; exact hv.keep fun b hb => ⟨hb.2, fun _ => rfl⟩
    have HL : Hid (((ts.take j).map fun s => s.take 20) = few4 ts) := e.symm
    have hwi : ¬ ((j : Int) < (ts.length : Int)) ∨ (j < ts.length ∧ ¬ (j : Int) < 4) := by omega
    clear e hown hv hlt
    rw [HL.out]
    rcases hwi with h | ⟨h, h'⟩
    all_goals
     go_wp2_with fail
     go_meet
     exact ⟨A', c', rfl, HE.out, hbw⟩
 obtain ⟨A2, c2, rfl, hSQ, hb3⟩ := hcut
 obtain ⟨W, rfl⟩ : ∃ W, W = wc := ⟨_, rfl⟩
 have hz3 := hb3.size
 have hc3 : Below w1.heap.size w1 W := hb2.trans (hb3.mono hz2)
 have hn3 : Below w.heap.size w W := hn2.trans (hb3.mono (by omega))
 obtain ⟨B, hB⟩ : ∃ B, few4 ts = B := ⟨_, rfl⟩
 have hBL : B.length ≤ 4 := by rw [← hB]; unfold few4; simp; omega
 rw [hB] at hSQ ⊢
 obtain ⟨L, hL⟩ : ∃ L, withoutG F U = L := ⟨_, rfl⟩
 have hLL : L.length ≤ 61 := by rw [← hL]; exact Nat.le_trans (List.length_filter_le _ _) hFL
 have HW1 := Lib.hid (without_any A1 c1 F U W (by omega) (HQ.out W hc3))
 rw [hL] at HW1
 go_wp2_with fail
 refine HW1.out.mono ?_
 rintro en w4 ⟨sv4, rfl, hown4, hb4⟩
 have hz4 := hb4.size
 have hc4 : Below w1.heap.size w1 w4 := hc3.trans (hb4.mono (by omega))
 obtain ⟨A4, c4, rfl, -, -, hQ4⟩ := GQ.own hown4
 have HW2 := Lib.hid (rwithout_any A1 c1 F U w4 (by omega) (HQ.out w4 hc4))
 rw [hL] at HW2
 clear hown4 HW1
 go_wp2_with fail
 refine HW2.out.mono ?_
 rintro en w5 ⟨sv5, rfl, hown5, hb5⟩
 have hz5 := hb5.size
 have hc5 : Below w1.heap.size w1 w5 := hc4.trans (hb5.mono (by omega))
 obtain ⟨A5, c5, rfl, -, -, hQ5⟩ := GQ.own hown5
 have HSM := Lib.hid (rsameG_any A4 A5 c4 c5 L L w5 (by omega) (by omega) (hQ4.keep fun b hb => ⟨Nat.lt_of_lt_of_le hb.2 hz5, fun o => hb5.cell (p := ⟨b, o, none⟩) hb.2⟩) (hQ5.keep fun b hb => ⟨hb.2, fun _ => rfl⟩))
 rw [decide_eq_true (rfl : L = L)] at HSM
 clear hown5 HW2 hQ4 hQ5
 go_wp2_with fail
 refine HSM.out.mono ?_
 rintro en w6 ⟨rfl, hb6⟩
 have hz6 := hb6.size
 have hc6 : Below w1.heap.size w1 w6 := hc5.trans (hb6.mono (by omega))
 have hn6 : Below w.heap.size w w6 := hn3.trans (((hb4.trans (hb5.mono hz4)).trans (hb6.mono (by omega))).mono (by omega))
 have hw36 : Below W.heap.size W w6 := (hb4.trans (hb5.mono hz4)).trans (hb6.mono (by omega))
 have HCK := Lib.hid (rcheckG_any A1 c1 F w6 (by omega) (fun g hg => by have := HFN.out g hg; omega) (HQ.out w6 hc6))
 obtain ⟨C, hC⟩ : ∃ C, chkG F = C := ⟨_, rfl⟩
 rw [hC] at HCK
 clear HSM hL
 by_cases h0 : C = 0
 ·subst h0
  have hris := ((chk_iff F).1 hC).2.2
  by_cases hB0 : B = []
  ·subst hB0
   clear hC hris hB
   go_wp2_with fail
   refine HCK.out.mono ?_
   rintro en w7 ⟨rfl, hb7⟩
   have hz7 := hb7.size
   have hn7 : Below w.heap.size w w7 := hn6.trans (hb7.mono (by omega))
   have HAW := Lib.hid (awake9_any w7 (HEV.out w7 hn7))
   go_wp2_with fail
   refine HAW.out.mono ?_
   rintro en w8 ⟨rfl, hb8⟩
   go_wp2_with fail
   go_ret
   exact ⟨rfl, hn7.trans (hb8.mono (by omega))⟩
  ·have hlen : ((B.length : Int) == 0) = false := by
    rw [beq_eq_false_iff_ne]
    intro e
    exact hB0 (List.eq_nil_of_length_eq_zero (by omega))
   obtain ⟨Q, hQQ⟩ : ∃ Q, bothG F U B = Q := ⟨_, rfl⟩
   have hQL : Q.length ≤ 200 := by
    rw [← hQQ]
    unfold bothG
    rw [if_neg hB0]
    have h1 := foldl_len F U B F (withoutG F U)
    have h2 : (withoutG F U).length ≤ F.length := List.length_filter_le _ _
    omega
   have hQR : rbothG F U B = Q := by rw [← both_D hris]; exact hQQ
   clear hC hris hB hB0
   go_wp2_with fail
   refine HCK.out.mono ?_
   rintro en w7 ⟨rfl, hb7⟩
   have hz7 := hb7.size
   have hc7 : Below w1.heap.size w1 w7 := hc6.trans (hb7.mono (by omega))
   have hw7 : Below W.heap.size W w7 := hw36.trans (hb7.mono (by omega))
   have HB1 := Lib.hid (both_any A1 c1 F U A2 c2 B w7 (by omega) (by omega) (HQ.out w7 hc7) (hSQ.keep (old_keep hw7 (by omega))))
   rw [hQQ] at HB1
   clear hQQ
   go_wp2_with fail
   refine HB1.out.mono ?_
   rintro en w8 ⟨sv8, rfl, hown8, hb8⟩
   have hz8 := hb8.size
   have hc8 : Below w1.heap.size w1 w8 := hc7.trans (hb8.mono (by omega))
   have hw8 : Below W.heap.size W w8 := hw7.trans (hb8.mono (by omega))
   obtain ⟨A8, c8, rfl, -, -, hQ8⟩ := GQ.own hown8
   have HB2 := Lib.hid (rboth_any A1 c1 F U A2 c2 B w8 (by omega) (by omega) (HQ.out w8 hc8) (hSQ.keep (old_keep hw8 (by omega))))
   rw [hQR] at HB2
   clear hown8 HB1 hQR
   go_wp2_with fail
   refine HB2.out.mono ?_
   rintro en w9 ⟨sv9, rfl, hown9, hb9⟩
   have hz9 := hb9.size
   obtain ⟨A9, c9, rfl, -, -, hQ9⟩ := GQ.own hown9
   have HS2 := Lib.hid (rsameG_any A8 A9 c8 c9 Q Q w9 (by omega) (by omega) (hQ8.keep fun b hb => ⟨Nat.lt_of_lt_of_le hb.2 hz9, fun o => hb9.cell (p := ⟨b, o, none⟩) hb.2⟩) (hQ9.keep fun b hb => ⟨hb.2, fun _ => rfl⟩))
   rw [decide_eq_true (rfl : Q = Q)] at HS2
   clear hown9 HB2 hQ8 hQ9
   go_wp2_with fail
   refine HS2.out.mono ?_
   rintro en wa ⟨rfl, hba⟩
   have hza := hba.size
   have hna : Below w.heap.size w wa := hn6.trans ((((hb7.trans (hb8.mono hz7)).trans (hb9.mono (by omega))).trans (hba.mono (by omega))).mono (by omega))
   have HAW := Lib.hid (awake9_any wa (HEV.out wa hna))
   go_wp2_with fail
   refine HAW.out.mono ?_
   rintro en wb ⟨rfl, hbb⟩
   go_wp2_with fail
   go_ret
   exact ⟨rfl, hna.trans (hbb.mono (by omega))⟩
 ·have e1 : (C != 0) = true := by simpa using h0
  clear hC
  go_wp2_with fail
  refine HCK.out.mono ?_
  rintro en w7 ⟨rfl, hb7⟩
  have hz7 := hb7.size
  have hn7 : Below w.heap.size w w7 := hn6.trans (hb7.mono (by omega))
  have HAW := Lib.hid (awake9_any w7 (HEV.out w7 hn7))
  go_wp2_with fail
  refine HAW.out.mono ?_
  rintro en w8 ⟨rfl, hb8⟩
  go_wp2_with fail
  go_ret
  exact ⟨rfl, hn7.trans (hb8.mono (by omega))⟩
end Go.Proofs.YtchilcchogcibaaGreatDoor
namespace Go.Proofs.YtchilcchogcibaaGreatDoor
open Go.ChangeShapes Go.WideShapes Go.ChangeAt Go.RowKit
theorem handed_and_shaped {H : Type} {enc : TypeId × Value → H} {a : Assume} {C : Checked} {os : Os} {f : FuncId} {fn : Func} {s : ChangeSpec} {conds : List PathCond} {apart fresh handsOn again : Bool} {X : World → Array Value → Prop}
  (hX : ∀ (w w' : World) (args : Array Value), w.heap = w'.heap → X w args → X w' args)
  (own : ownKnob C.prog.godebug = none) (started : os.Started) (noInit : C.prog.inits.idxOf? f = none) (hfn : C.prog.funcs[f]? = some fn)
  (witness : ∃ (w : World) (tape : Tape) (i : Input), w.os = os ∧ (w.forCall tape i).Shaped C.prog ∧ i.vars = [] ∧ Input.okWide C.prog (w.forCall tape i) .any w.heap.size f i ∧
   ((s.pre enc C.prog fn conds apart (w.forCall tape i).memory i.args ∧ X (w.forCall tape i).memory i.args) ∧ sizedMet enc C.prog fn (OpenSpec.ofChange s) apart (w.forCall tape i).memory i.args) ∧ a.holds C.prog (lone (Frame.enter C.prog f i.args .normal) [] (w.forCall tape i)))
  (contract : ∀ (W : World) (base : Nat) (args : Array Value) (ds gs : List (DataW H)) (before : List MemPlace),
   (∀ (j : Nat) t v, fn.params[j]? = some t → args[j]? = some v → Value.okWide C.prog W .any base t v) →
   DataW.Whole enc C.prog fn.params.toList s.vars apart W args.toList ds gs before →
   conds.all (PathCond.test C.prog ⟨fn.params.toList, ds, s.plain.varTypes C.prog, gs⟩) = true →
   (DataW.weightsEach C.prog (fn.params.toList ++ s.plain.varTypes C.prog) (ds ++ gs)).all (· ≤ reachBytes) = true → X W args → W.ShapedOpen C.prog →
   a.holds C.prog (lone (Frame.enter C.prog f args .normal) [] W) →
   Calls C.prog f args W fun e W' => ∃ v, e = .returned v ∧ s.post enc C.prog fn apart fresh handsOn again W args v W') :
  ReturnsInHanded a C os f .any (fun w args => (s.pre enc C.prog fn conds apart w args ∧ X w args) ∧ sizedMet enc C.prog fn (OpenSpec.ofChange s) apart w args) (s.post enc C.prog fn apart fresh handsOn again) := by
 refine returnsInHanded_of_calls own started noInit witness ?_
 intro w tape i _ hsh _ hok hpre hholds
 obtain ⟨_, _, _, fn', hfn', _, _, _, _, hval⟩ := hok
 have e : fn' = fn := Option.some.inj (hfn'.symm.trans hfn)
 subst e
 obtain ⟨⟨⟨ds, gs, before, hw, hc⟩, hx⟩, hz⟩ := hpre
 have hw' := DataW.Whole.of_heap (w' := w.forCall tape i) (by rfl) hw
 refine (contract (w.forCall tape i) w.heap.size i.args ds gs before hval hw' hc (hz.weights hw) (hX _ _ _ (by rfl) hx) hsh hholds).mono fun e W' ⟨v, he, hp⟩ => ?_
 subst he
 exact ChangeSpec.post_blind hp
theorem maxL_of {W : World} (h : W.ShapedOpen Tryz.prog) : MaxL W :=
 cell_of_shapedOpen_int (zero := #[.int .i64 0]) (t := 3) h (by decide +kernel) (by kernel_rfl) rfl (by kernel_rfl) (by kernel_rfl) Tryz.underlying3
end Go.Proofs.YtchilcchogcibaaGreatDoor
namespace Go.Proofs.YtchilcchogcibaaGreatDoor
open Go.RowKit
theorem pow10_data : Rows.laid_internal_strconv_uint64pow10 (H := Unit) = Lib.tabData .u64 Lib.pow10Tab := by kernel_rfl
theorem g10 : Tryz.prog.globalNamed "internal/strconv.uint64pow10" = some 5 := by kernel_rfl
theorem t10 : (Tryz.prog.globals[5]?).map (·.type) = some 251 := by kernel_rfl
theorem c10 : Tryz.prog.cellsOf 228 = 1 := by kernel_rfl
theorem d10 : Tryz.prog.cellsOf 251 = 20 := by kernel_rfl
theorem tab10_of {W : World} {x y : String × DataW Unit} {rest : List (String × DataW Unit)} (hL : laidMet Tryz.prog (x :: y :: ("internal/strconv.uint64pow10", Rows.laid_internal_strconv_uint64pow10) :: rest) W) : Tab10 W := by
 have h := laidMet.tail (laidMet.tail hL)
 rw [pow10_data] at h
 exact Lib.tabIs_of_head g10 t10 Tryz.underlying251 Tryz.underlying228 c10 d10 h
end Go.Proofs.YtchilcchogcibaaGreatDoor
namespace Go.Proofs.YtchilcchogcibaaGreatDoor
open Go.RowKit Go.Lib
theorem gTypes : Tryz.prog.globalNamed "caddis/stmt.types" = some 0 := by kernel_rfl
theorem tTypes : (Tryz.prog.globals[0]?).map (·.type) = some 175 := by kernel_rfl
theorem dTypes : Tryz.prog.cellsOf 175 = 3 := by kernel_rfl
theorem eTypes : Tryz.prog.cellsOf 9 = 1 := by kernel_rfl
theorem cells_of_texts {H : Type} {enc : TypeId × Value → H} {P : Program} {w : World} {base : Nat} {sp : Nat → Bool} {held : Bool} {fuel : Nat} {t e : TypeId} {n : Nat} {cs : List Value} {zs : List (List UInt8)} {p : List MemPlace}
  (ht : P.underlying t = some (.array n e)) (he : P.underlying e = some .string) (hce : P.cellsOf e = 1) (hct : P.cellsOf t = n)
  (h : DataW.trod enc P w base sp held fuel t cs = some (.agg (zs.map fun z => (DataW.lit (.string z) : DataW H)), p)) : cs = zs.map fun z => Value.string ⟨z.toArray⟩ := by
 cases fuel with
 | zero => simp [DataW.trod] at h
 | succ fuel =>
  simp only [DataW.trod, ht, hce, hct, Nat.mul_one] at h
  split at h
  ·rename_i hl
   obtain ⟨xs, hm, hx⟩ := Option.map_eq_some_iff.1 h
   have hxs : xs.map (·.1) = zs.map fun z => (DataW.lit (.string z) : DataW H) := by
    have := congrArg Prod.fst hx
    simpa using this
   have hxl : xs.length = n := by simpa using mapM_length hm
   have hzl : zs.length = n := by
    have := congrArg List.length hxs
    simp at this
    omega
   apply List.ext_getElem?
   intro i
   by_cases hi : i < n
   ·obtain ⟨b, hb, hf⟩ := mapM_at hm i i (by simp [hi])
    obtain ⟨z, hc, rfl, _⟩ := DataW.trod_string he hf
    have h1 : cs[i]? = some (.string z) := by
     have := congrArg (·[0]?) hc
     simpa [List.getElem?_take, List.getElem?_drop] using this
    have h2 : (xs.map (·.1))[i]? = some (DataW.lit (.string z.data.toList) : DataW H) := by simp [hb]
    rw [hxs] at h2
    simp only [List.getElem?_map, Option.map_eq_some_iff, DataW.lit.injEq, Lit.string.injEq] at h2
    obtain ⟨z', hz', rfl⟩ := h2
    simp [h1, hz']
   ·rw [List.getElem?_eq_none (by omega), List.getElem?_eq_none (by simp; omega)]
  ·cases h
theorem typT_of {W : World} {x y z v : String × DataW Unit} {rest : List (String × DataW Unit)} (hL : laidMet Tryz.prog (x :: y :: z :: v :: ("caddis/stmt.types", Rows.laid_caddis_stmt_types) :: rest) W) : TypT W := by
 have h := laidMet.tail (laidMet.tail (laidMet.tail (laidMet.tail hL)))
 obtain ⟨ps, ⟨g', t', cs, fuel, p, q, hg', ht', hvar, hd, _, _⟩, _⟩ := h
 obtain rfl := Option.some.inj (gTypes.symm.trans hg')
 obtain rfl := Option.some.inj (tTypes.symm.trans ht')
 have hc := cells_of_texts (zs := [[73, 78, 84], [84, 69, 88, 84], [66, 79, 79, 76]]) Tryz.underlying175 Tryz.underlying9 eTypes dTypes hd
 have key : ∀ i, W.cell? ⟨0, i, none⟩ = ([[73, 78, 84], [84, 69, 88, 84], [66, 79, 79, 76]].map fun z => Value.string ⟨z.toArray⟩)[i]? := fun i => (World.var?_cell gTypes hvar i).trans (by rw [← Array.getElem?_toList, hc])
 exact ⟨key 0, key 1, key 2⟩
theorem env0_of {W : World} (hsh : W.ShapedOpen Tryz.prog) {x y v : String × DataW Unit} {rest : List (String × DataW Unit)} (hL : laidMet Tryz.prog (x :: y :: ("internal/strconv.uint64pow10", Rows.laid_internal_strconv_uint64pow10) :: v :: ("caddis/stmt.types", Rows.laid_caddis_stmt_types) :: rest) W) : Env0 W :=
 ⟨maxL_of hsh, tab10_of hL, typT_of hL⟩
end Go.Proofs.YtchilcchogcibaaGreatDoor
namespace Go.Proofs.YtchilcchogcibaaGreatDoor
open Go.RowKit
open Go.ChangeShapes Go.WideShapes Go.ChangeAt
set_option maxRecDepth 100000 in
theorem grantMoves_lifted (os : Os) (started : os.Started) (H : Type) (enc : TypeId × Value → H) :
  ReturnsInHanded {} Tryz.checked os 7 .any (fun w args => (Rows.grantMovesSpec.pre enc Tryz.prog Tryz.f7 [] false w args ∧ laidMetH Tryz.prog Rows.grantMovesRow.laid w) ∧ sizedMet enc Tryz.prog Tryz.f7 (OpenSpec.ofChange Rows.grantMovesSpec) false w args)
   (Rows.grantMovesSpec.post enc Tryz.prog Tryz.f7 false true false false) := by
 refine handed_and_shaped (C := Tryz.checked) (X := fun w _ => laidMetH Tryz.prog Rows.grantMovesRow.laid w) (fun _ _ _ hh h => h.of_heap hh) own started (by kernel_rfl) Tryz.func7
  (ChangeSpec.witness_shaped (enc := enc) (C := Tryz.checked) (os := os) (X := fun w _ => laidMetH Tryz.prog Rows.grantMovesRow.laid w) false (World.laidAll Tryz.prog os Rows.grantMovesRow.laid) #[.slice none 0 0, .string ⟨#[]⟩, .slice none 0 0] 8 (World.laidAll_os _ _ _)
   (World.shaped_of_ZipB (by kernel_rfl) (by kernel_rfl)) (by kernel_rfl) (by kernel_rfl) (by kernel_rfl)
   (by rw [MakeChecks.laidMetH_plain _ _ _ (by kernel_rfl)]; exact laidMet_laidAll _ (by kernel_rfl) (by kernel_rfl))) ?_
 intro W base args ds gs before hval0 hW _ _ hL hsh _
 have hval : ∀ (j : Nat) t v, Tryz.f7.params[j]? = some t → args[j]? = some v → Value.okWide Tryz.prog W .any base t v := hval0
 have hW' := hW
 obtain ⟨p, q, hA0, hV, rfl, hfz, hnd⟩ := hW
 have hA : DataW.TrodAll enc Tryz.prog W 0 (fun _ => true) true Tryz.f7.params.toList args.toList ds p := hA0
 rw [Tryz.params7] at hA hval
 obtain ⟨v0, vs0, d0, ds0, p0, q0, hargs, rfl, rfl, h0, r0⟩ := trodAll_cons hA
 have k0 := h0
 have lt0 : ∀ x ∈ p0, x.block < W.heap.size := by obtain ⟨m, hm⟩ := k0; exact DataW.trod_lt m _ _ _ hm
 obtain ⟨v1, vs1, d1, ds1, p1, q1, rfl, rfl, rfl, h1, r1⟩ := trodAll_cons r0
 have k1 := h1
 have lt1 : ∀ x ∈ p1, x.block < W.heap.size := by obtain ⟨m, hm⟩ := k1; exact DataW.trod_lt m _ _ _ hm
 obtain ⟨v2, vs2, d2, ds2, p2, q2, rfl, rfl, rfl, h2, r2⟩ := trodAll_cons r1
 have k2 := h2
 have lt2 : ∀ x ∈ p2, x.block < W.heap.size := by obtain ⟨m, hm⟩ := k2; exact DataW.trod_lt m _ _ _ hm
 obtain ⟨rfl, rfl, rfl⟩ := trodAll_nil r2
 obtain rfl : args = #[v0, v1, v2] := by cases args; simp_all
 obtain ⟨rfl, rfl⟩ := trodVars_none hV
 obtain ⟨A0, l0, c0, rfl, hl0, hq0, _⟩ := open_grs (hval 0 22 v0 rfl rfl) h0
 obtain ⟨x1, rfl, wx1⟩ := open_str (hval 1 9 v1 rfl rfl) h1
 obtain ⟨A2, l2, c2, rfl, hl2, hq2, _⟩ := open_strs (hval 2 23 v2 rfl rfl) h2
 have hEnv : Env0 W := by
  have h := hL
  rw [MakeChecks.laidMetH_plain _ _ _ (by kernel_rfl)] at h
  exact env0_of hsh h
 clear hA0 hval0
 refine (grantMoves_walk A0 c0 l0 x1 A2 c2 l2 W hl0 hq0 hl2 hq2 hEnv).mono fun e W' ⟨he, bel⟩ => ?_
 subst he
 exact ⟨_, rfl, _, _, _, [], _, [], hW', trodAll_mk1 (shut_bool Tryz.underlying4 _), (trodAll_cons_mk (Below.trod laidOut (by kernel_rfl) (of_decide_eq_true (by kernel_rfl)) k0 bel lt0) (trodAll_cons_mk (Below.trod laidOut (by kernel_rfl) (of_decide_eq_true (by kernel_rfl)) k1 bel lt1) (trodAll_cons_mk (Below.trod laidOut (by kernel_rfl) (of_decide_eq_true (by kernel_rfl)) k2 bel lt2) trodAll_mk0))), rfl, bel.frame _, fun h => by cases h⟩
theorem grantMoves_said : Rows.GrantMovesSaid :=
 OpenClaim.holds_of_wide 7 Tryz.f7 rfl rfl rfl rfl rfl rfl rfl ⟨rfl, rfl, rfl, rfl, rfl⟩ rfl rfl rfl rfl rfl (by kernel_rfl) Tryz.func7 (by kernel_rfl)
  (of_decide_eq_true (by kernel_rfl)) (by unfold Func.isWrapper; first | (rw [if_pos (by decide +kernel)]; kernel_rfl) | (rw [if_neg (by decide +kernel)]; exact ⟨rfl, rfl⟩))
  (fun os started H enc _ => grantMoves_lifted os started H enc)
theorem grantMoves_holds : Rows.GrantMovesCardSaid :=
 Claim7.holds_tied_plain_at .later [] _ _ _ _ grantMoves_said (fun _ h => by cases h) (by kernel_rfl) (fun _ h => by cases h) grantMoves_row_tie rfl ⟨rfl, rfl⟩ (by kernel_rfl) rfl
  (fun f fn hf hfn => by
   obtain rfl : f = 7 := Option.some.inj ((show Tryz.prog.funcNamed "caddis/caddislaw09.GrantMoves" = some 7 by kernel_rfl).symm.trans hf) |>.symm
   obtain rfl : fn = Tryz.f7 := (Option.some.inj (Tryz.func7.symm.trans hfn)).symm
   exact ⟨by kernel_rfl, fun j t ht => by
    have hall : (Tryz.f7.params.toList.all fun u => !Tryz.prog.wantsStandIn u) = true := by kernel_rfl
    have hm : t ∈ Tryz.f7.params.toList := by simpa using Array.mem_of_getElem? ht
    exact (show Tryz.prog.wantsStandIn t = false by simpa using List.all_eq_true.1 hall t hm)⟩)
  (by kernel_rfl)
#print axioms grantMoves_holds
end Go.Proofs.YtchilcchogcibaaGreatDoor
