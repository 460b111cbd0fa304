/- grant.Check as a plain function; grant.May as a plain function; slices.DeleteFunc at grants, by a closure that has one captured variable. -/
import Derived.Test.YtchilcchogcibaaGreatDoorDInsG
set_option maxRecDepth 100000
set_option maxHeartbeats 8000000
namespace Go.Proofs.YtchilcchogcibaaGreatDoor
open Go.RowKit
attribute [local go_sem] ByteArray.extract_mk ba_get ba_append
attribute [local go_sem ↓] Go.wp_at_zero Go.wp_at_succ
def adminT : List UInt8 := [97, 100, 109, 105, 110]
def badG (g : Gr) : Bool := !nameG g.r || (!nameG g.t || decide (g.r = adminT))
def chkG (l : List Gr) : Int := if l.any badG then 1 else if 60 < l.length then 13 else if risB l then 0 else 15
theorem chk_bad {l : List Gr} {x : Gr} (h : x ∈ l) (hb : badG x = true) : chkG l = 1 := by
 unfold chkG
 rw [if_pos (List.any_eq_true.2 ⟨x, h, hb⟩)]
theorem risB_iff : ∀ l : List Gr, risB l = true ↔ ∀ k x y, l[k]? = some x → l[k + 1]? = some y → glt x y = true
 | [] => by simp [risB]
 | [a] => by simp [risB]
 | a :: b :: r => by
  simp only [risB, Bool.and_eq_true, risB_iff (b :: r)]
  constructor
  ·rintro ⟨h1, h2⟩ k x y hx hy
   cases k with
   | zero => simp at hx hy; subst hx hy; exact h1
   | succ k => exact h2 k x y (by simpa using hx) (by simpa using hy)
  ·intro h
   exact ⟨h 0 a b rfl rfl, fun k x y hx hy => h (k + 1) x y (by simpa using hx) (by simpa using hy)⟩
theorem gord_neg (a b : Gr) : (0 ≤ gord a b) ↔ glt a b = false := by
 rcases gord_tri a b with ⟨h, _, h1, _⟩ | ⟨h, _, h1, _⟩ | ⟨h, _, h1, _⟩ <;> rw [h, h1] <;> simp
theorem checkG_any (A : Option Addr) (c : Nat) (l : List Gr) (w : World) (hl : l.length ≤ 1000000) (hn : ∀ g ∈ l, g.r.length ≤ 1000000 ∧ g.t.length ≤ 1000000) (h : GQ l A (Old w.heap.size) w) :
  Calls Tryz.prog 20 #[.slice A l.length c] w (Ret (.int .i64 (chkG l)) w) := by
 have HQ : Hid (∀ Z : World, Below w.heap.size w Z → GQ l A (Old w.heap.size) Z) := fun Z hz => h.keep fun b hb => ⟨hb, fun o => hz.cell (p := ⟨b, o, none⟩) hb⟩
 have HN := Lib.hid hn
 obtain ⟨R, hR⟩ : ∃ R, chkG l = R := ⟨_, rfl⟩
 rw [hR]
 have HR := Lib.hid hR
 obtain ⟨N, hNN⟩ : ∃ N, l.length = N := ⟨_, rfl⟩
 have HL := Lib.hid hNN
 rw [hNN] at hl ⊢
 clear h hn hR hNN
 go_in
 go_wp2_with fail
 go_loopw [8] (fun i wr => ∃ j : Nat, j ≤ N ∧ i = .int .i64 j ∧ Hid (∀ g ∈ l.take j, badG g = false) ∧ Below w.heap.size w wr) (fun i _ => N - (intOf i).toNat)
 case atStart => exact ⟨0, by omega, rfl, fun g hg => by simp at hg, Below.refl _ _⟩
 case round =>
  obtain ⟨j, hj, rfl, HJ, hbw⟩ := hrel
  obtain ⟨W, rfl⟩ : ∃ W, W = wr := ⟨_, rfl⟩
  have hzw := hbw.size
  by_cases hlt : j < N
  ·obtain ⟨b, off, x, rfl, hbB, hv, c0, c1, c2⟩ := (HQ.out _ hbw).at_ (j := j) (by rw [HL.out]; exact hlt)
   have hxl := List.mem_of_getElem? hv
   obtain ⟨n1, n2⟩ := HN.out x hxl
   have HB1 : Hid (badG x = true → R = 1) := fun hb => by rw [← HR.out]; exact chk_bad hxl hb
   have HB0 : Hid (badG x = false → ∀ g ∈ l.take (j + 1), badG g = false) := fun hb g hg => by
    rw [List.take_add_one, hv] at hg
    rcases List.mem_append.1 hg with hg | hg
    ·exact HJ.out g hg
    ·simp at hg; rw [hg]; exact hb
   have lb : b < W.heap.size := by have : b < w.heap.size := hbB; omega
   obtain ⟨r, t, u⟩ := x
   obtain ⟨B1, hB1⟩ : ∃ B, nameG r = B := ⟨_, rfl⟩
   obtain ⟨B2, hB2⟩ : ∃ B, nameG t = B := ⟨_, rfl⟩
   have HX1 : Hid (∀ Z : World, Calls Tryz.prog 45 #[.string ⟨r.toArray⟩] Z (Ret (.bool B1) Z)) := fun Z => by have := nameGr_any r Z n1; rw [hB1] at this; exact this
   have HX2 : Hid (∀ Z : World, Calls Tryz.prog 45 #[.string ⟨t.toArray⟩] Z (Ret (.bool B2) Z)) := fun Z => by have := nameGr_any t Z n2; rw [hB2] at this; exact this
   have HBG : Hid (badG ⟨r, t, u⟩ = (!B1 || (!B2 || decide (r = adminT)))) := by show _ = _; unfold badG; rw [hB1, hB2]
   dsimp only at c0 c1 c2
   obtain ⟨V, hV⟩ : ∃ V, W.alloc (.cells #[.string ⟨r.toArray⟩, .string ⟨t.toArray⟩, .bool u] 54) = V := ⟨_, rfl⟩
   have kv : Blk V W.heap.size 54 #[.string ⟨r.toArray⟩, .string ⟨t.toArray⟩, .bool u] := by rw [← hV]; exact Blk.new _ _ _
   have hbV : Below w.heap.size w V := by rw [← hV]; exact bl
   have HV := Lib.hid hV
   have HKV := Lib.hid kv
   have hzV := hbV.size
   clear hv hxl hV kv hB1 hB2 n1 n2
   go_upto_region 4 with fail
   rw [HV.out]
   obtain ⟨k0, k1⟩ : V.cell? ⟨W.heap.size, 0, none⟩ = some (.string ⟨r.toArray⟩) ∧ V.cell? ⟨W.heap.size, 1, none⟩ = some (.string ⟨t.toArray⟩) := ⟨HKV.out.cell 0, HKV.out.cell 1⟩
   go_wp2_with fail
   refine (HX1.out V).mono ?_
   rintro en w1 ⟨rfl, hb1⟩
   have hbw1 : Below w.heap.size w w1 := hbV.trans (hb1.mono hzV)
   have hz1 := hb1.size
   clear k0 k1
   have kw1 := HKV.out.below hb1 HKV.out.lt
   obtain ⟨k0, k1⟩ : w1.cell? ⟨W.heap.size, 0, none⟩ = some (.string ⟨r.toArray⟩) ∧ w1.cell? ⟨W.heap.size, 1, none⟩ = some (.string ⟨t.toArray⟩) := ⟨kw1.cell 0, kw1.cell 1⟩
   have HK1 := Lib.hid kw1
   clear kw1
   cases B1 with
   | false =>
    have HF : Hid (R = 1) := HB1.out (by rw [HBG.out]; rfl)
    go_wp2_with fail
    go_ret
    exact ⟨by rw [HF.out]; rfl, hbw1⟩
   | true =>
    go_wp2_with fail
    refine (HX2.out w1).mono ?_
    rintro en w2 ⟨rfl, hb2⟩
    have hbw2 : Below w.heap.size w w2 := hbw1.trans (hb2.mono hbw1.size)
    have hz2 := hb2.size
    clear k0 k1
    have kw2 := HK1.out.below hb2 HK1.out.lt
    have k0 : w2.cell? ⟨W.heap.size, 0, none⟩ = some (.string ⟨r.toArray⟩) := kw2.cell 0
    clear kw2
    cases B2 with
    | false =>
     have HF : Hid (R = 1) := HB1.out (by rw [HBG.out]; rfl)
     go_wp2_with fail
     go_ret
     exact ⟨by rw [HF.out]; rfl, hbw2⟩
    | true =>
     by_cases h3 : r = adminT
     ·have HF : Hid (R = 1) := HB1.out (by rw [HBG.out, decide_eq_true h3]; rfl)
      have e3 : (r == [97, 100, 109, 105, 110]) = true := by rw [h3]; rfl
      have e4 : r = [97, 100, 109, 105, 110] := h3
      clear HX1 HX2 HBG HB0 HB1 HKV HK1 HV
      subst e4
      go_wp2_with fail
      go_ret
      exact ⟨by rw [HF.out]; rfl, hbw2⟩
     ·have HF : Hid (∀ g ∈ l.take (j + 1), badG g = false) := HB0.out (by rw [HBG.out, decide_eq_false h3]; rfl)
      have e4 : ¬ r = [97, 100, 109, 105, 110] := h3
      have e3 : (r == [97, 100, 109, 105, 110]) = false := by simpa using e4
      clear h3
      go_wp2_with fail
      go_roundw
      case rel => exact ⟨j + 1, by omega, by go_num, HF, hbw2⟩
      case measure => simp [intOf]; omega
  ·obtain rfl : j = N := by omega
   have HJ2 : Hid (l.any badG = false) := by
    show _ = _
    have := HJ.out
    rw [← HL.out, List.take_length] at this
    rw [List.any_eq_false]
    intro g hg
    rw [this g hg]; simp
   clear HJ hlt
   by_cases h60 : 60 < j
   ·have HF : Hid (R = 13) := by show _ = _; rw [← HR.out]; unfold chkG; rw [HJ2.out, HL.out, if_neg (by simp), if_pos h60]
    go_wp2_with fail
    go_ret
    exact ⟨by rw [HF.out]; rfl, hbw⟩
   ·have HF : Hid ((if risB l then (0 : Int) else 15) = R) := by have := HR.out; unfold chkG at this; rw [HJ2.out, HL.out, if_neg (by simp), if_neg h60] at this; exact this
    have h60' : ¬ (60 : Int) < (j : Int) := by omega
    have HBJ := Lib.hid hbw
    clear HR hbw
    go_wp2_with fail
    go_loopw [5] (fun i wr => ∃ k : Nat, 1 ≤ k ∧ i = .int .i64 k ∧ Hid (∀ m x y, m + 1 < k → l[m]? = some x → l[m + 1]? = some y → glt x y = true) ∧ Below w.heap.size w wr) (fun i _ => j + 1 - (intOf i).toNat)
    case atStart => exact ⟨1, Nat.le_refl _, rfl, fun m x y h => absurd h (by omega), HBJ.out⟩
    case round =>
     obtain ⟨k, hk1, rfl, HK, hbk⟩ := hrel
     obtain ⟨Y, rfl⟩ : ∃ W, W = wr := ⟨_, rfl⟩
     have hzk := hbk.size
     by_cases hlt : k < j
     ·obtain ⟨m, hm⟩ : ∃ m, k = m + 1 := ⟨k - 1, by omega⟩
      obtain ⟨b, off, x, rfl, hbB, hv, c0, c1, c2⟩ := (HQ.out _ hbk).at_ (j := m) (by rw [HL.out]; omega)
      obtain ⟨b2, off2, y, e2, _, hv2, d0, d1, d2⟩ := (HQ.out _ hbk).at_ (j := k) (by rw [HL.out]; exact hlt)
      obtain ⟨rfl, rfl⟩ : b = b2 ∧ off = off2 := by injection e2 with e; injection e with e1 e3; exact ⟨e1, e3⟩
      have lb : b < w.heap.size := hbB
      obtain ⟨O, hO⟩ : ∃ O, gord x y = O := ⟨_, rfl⟩
      have HOR : Hid (∀ Z : World, Calls Tryz.prog 46 #[.agg #[.string ⟨x.r.toArray⟩, .string ⟨x.t.toArray⟩, .bool x.w], .agg #[.string ⟨y.r.toArray⟩, .string ⟨y.t.toArray⟩, .bool y.w]] Z (Ret (.int .i64 O) Z)) := fun Z => by have := order_any x y Z; rw [hO] at this; exact this
      have HGL : Hid ((0 ≤ O) ↔ glt x y = false) := by have := gord_neg x y; rw [hO] at this; exact this
      have HNX : Hid (glt x y = true → ∀ q x y, q + 1 < k + 1 → l[q]? = some x → l[q + 1]? = some y → glt x y = true) := fun hg q x' y' hq hx hy => by
       rcases Nat.lt_or_ge (q + 1) k with h | h
       ·exact HK.out q x' y' h hx hy
       ·obtain rfl : q = m := by omega
        rw [hv] at hx
        rw [← hm, hv2] at hy
        cases hx; cases hy; exact hg
      have HBD : Hid (glt x y = false → R = 15) := fun hg => by
       rw [← HF.out, if_neg]
       intro hr
       have := (risB_iff l).1 hr m x y hv (by rw [← hm]; exact hv2)
       rw [this] at hg; cases hg
      have HSH : Hid (∀ Z : World, Below Y.heap.size Y Z → (Z.cell? ⟨b, off + m * 3, none⟩ = some (.string ⟨x.r.toArray⟩) ∧ Z.cell? ⟨b, off + m * 3 + 1, none⟩ = some (.string ⟨x.t.toArray⟩) ∧ Z.cell? ⟨b, off + m * 3 + 2, none⟩ = some (.bool x.w)) ∧ Z.cell? ⟨b, off + k * 3, none⟩ = some (.string ⟨y.r.toArray⟩) ∧ Z.cell? ⟨b, off + k * 3 + 1, none⟩ = some (.string ⟨y.t.toArray⟩) ∧ Z.cell? ⟨b, off + k * 3 + 2, none⟩ = some (.bool y.w)) := fun Z hz => by
       have hc : ∀ o, Z.cell? ⟨b, o, none⟩ = Y.cell? ⟨b, o, none⟩ := fun o => hz.cell (p := ⟨b, o, none⟩) (show b < _ by omega)
       exact ⟨⟨(hc _).trans c0, (hc _).trans c1, (hc _).trans c2⟩, (hc _).trans d0, (hc _).trans d1, (hc _).trans d2⟩
      have g6 : IntKind.i64.wrap ((k : Int) - 1) = (m : Int) := by rw [IntWalk.i64_in _ (by omega)]; omega
      have g7 : (0 : Int) ≤ (m : Int) := by omega
      have g8 : (m : Int) < (j : Int) := by omega
      have g9 : IntKind.i64.wrap (m : Int) = (m : Int) := IntWalk.i64_in _ (by omega)
      have g10 : (0 : Int) ≤ (k : Int) := by omega
      have g11 : (k : Int) < (j : Int) := by omega
      have HM := Lib.hid hm
      clear hv hv2 hO hm c0 c1 c2 d0 d1 d2 hbB e2
      go_wp2_with fail
      refine rgn HSH fun hHeld => ?_
      refine tS [0, 1, 2, 3, 4, 5, 6, 7, 8] ?_
      iterate 9 (refine tC ?_; refine ap ?_)
      refine tN ?_
      refine rdy 9 fun K hK => ?_
      go_simp
      (refine (HOR.out _).mono ?_) <;> rintro en w9 ⟨rfl, hb9⟩ <;> have hz9 := hb9.size <;> (try simp at hz9)
      go_wp2_with fail
      refine hK.out _ _ (HSH.out _ (by exact bl)) fun hHeld => ?_
      clear hK K
      refine ap ?_
      refine tS [10] (tC ?_)
      refine ap (tN ?_)
      refine wpAnyH_done (by kernel_rfl) ?_ _
      have hbY9 : Below Y.heap.size Y w9 := by exact bl
      have hbk9 : Below w.heap.size w w9 := hbk.trans (hbY9.mono hzk)
      cases hg : glt x y
      ·have g0 : (0 : Int) ≤ O := HGL.out.2 hg
       have HF2 : Hid (R = 15) := HBD.out hg
       clear HNX HBD HGL hg
       go_wp2_with fail
       go_ret
       exact ⟨by rw [HF2.out]; rfl, hbk9⟩
      ·have g0 : ¬ (0 : Int) ≤ O := fun h => by have := HGL.out.1 h; rw [hg] at this; cases this
       have HK2 := Lib.hid (HNX.out hg)
       clear HNX HBD HGL hg
       go_wp2_with fail
       go_roundw
       case rel => exact ⟨k + 1, by omega, by go_num, HK2, hbk9⟩
       case measure => simp [intOf]; omega
     ·have HF2 : Hid (R = 0) := by
       show _ = _
       rw [← HF.out, if_pos]
       refine (risB_iff l).2 fun m x y hx hy => HK.out m x y ?_ hx hy
       have : m + 1 < l.length := (List.getElem?_eq_some_iff.1 hy).1
       rw [HL.out] at this; omega
      have g11 : ¬ (k : Int) < (j : Int) := by omega
      clear hlt HK
      go_wp2_with fail
      go_ret
      exact ⟨by rw [HF2.out]; rfl, hbk⟩
def mayG (l : List Gr) (role op tb : List UInt8) : Bool :=
 if chkG l = 0 then
  if role = adminT then true
  else if op = oSelect then decide (⟨role, tb, false⟩ ∈ l)
  else if op = oInsert ∨ op = oUpdate ∨ op = oDelete then decide (⟨role, tb, false⟩ ∈ l) && decide (⟨role, tb, true⟩ ∈ l)
  else false
 else false
theorem mayG_any (A : Option Addr) (c : Nat) (l : List Gr) (role : List UInt8) (s : St) (p : StP) (w : World) (hl : l.length ≤ 1000000) (hn : ∀ g ∈ l, g.r.length ≤ 1000000 ∧ g.t.length ≤ 1000000) (h : GQ l A (Old w.heap.size) w) :
  Calls Tryz.prog 18 #[.slice A l.length c, .string ⟨role.toArray⟩, .agg (s.cells p).toArray] w (Ret (.bool (mayG l role s.op s.tb)) w) := by
 have HQ : Hid (∀ Z : World, Below w.heap.size w Z → GQ l A (Old Z.heap.size) Z) := fun Z hz => h.keep (old_keep hz hz.size)
 have HN := Lib.hid hn
 obtain ⟨R, hR⟩ : ∃ R, mayG l role s.op s.tb = R := ⟨_, rfl⟩
 rw [hR]
 have HR := Lib.hid hR
 obtain ⟨C, hC⟩ : ∃ C, chkG l = C := ⟨_, rfl⟩
 have HCK : Hid (∀ Z : World, Below w.heap.size w Z → Calls Tryz.prog 20 #[.slice A l.length c] Z (Ret (.int .i64 C) Z)) := fun Z hz => by
  have := checkG_any A c l Z hl hn (HQ.out Z hz)
  rw [hC] at this
  exact this
 obtain ⟨O1, hO1⟩ : ∃ O, firstP (fun x => decide (x = (⟨role, s.tb, false⟩ : Gr))) l 0 = O := ⟨_, rfl⟩
 obtain ⟨O2, hO2⟩ : ∃ O, firstP (fun x => decide (x = (⟨role, s.tb, true⟩ : Gr))) l 0 = O := ⟨_, rfl⟩
 have HP1 : Hid (∀ Z : World, Below w.heap.size w Z → Calls Tryz.prog 37 #[.slice A l.length c, .agg #[.string ⟨role.toArray⟩, .string ⟨s.tb.toArray⟩, .bool false]] Z (Ret (.int .i64 O1) Z)) := fun Z hz => by
  have := place_any A c l ⟨role, s.tb, false⟩ Z hl (HQ.out Z hz)
  rw [hO1] at this
  exact this
 have HP2 : Hid (∀ Z : World, Below w.heap.size w Z → Calls Tryz.prog 37 #[.slice A l.length c, .agg #[.string ⟨role.toArray⟩, .string ⟨s.tb.toArray⟩, .bool true]] Z (Ret (.int .i64 O2) Z)) := fun Z hz => by
  have := place_any A c l ⟨role, s.tb, true⟩ Z hl (HQ.out Z hz)
  rw [hO2] at this
  exact this
 have HM1 : Hid (decide (0 ≤ O1) = decide (⟨role, s.tb, false⟩ ∈ l)) := by show _ = _; rw [← hO1]; exact firstP_mem l _
 have HM2 : Hid (decide (0 ≤ O2) = decide (⟨role, s.tb, true⟩ ∈ l)) := by show _ = _; rw [← hO2]; exact firstP_mem l _
 have HC := Lib.hid hC
 obtain ⟨w0, hw0⟩ : ∃ w0, w.alloc (.cells (s.cells p).toArray 34) = w0 := ⟨_, rfl⟩
 have ks : Blk w0 w.heap.size 34 (s.cells p).toArray := by rw [← hw0]; exact Blk.new _ _ _
 have hb0 : Below w.heap.size w w0 := by rw [← hw0]; exact bl
 have HSH : Hid (∀ Z : World, Below w0.heap.size w0 Z → Z.cell? ⟨w.heap.size, 0, none⟩ = some (.string ⟨s.op.toArray⟩) ∧ Z.cell? ⟨w.heap.size, 1, none⟩ = some (.string ⟨s.tb.toArray⟩)) := fun Z hz => by
  have k := ks.below hz ks.lt
  exact ⟨k.cell 0, k.cell 1⟩
 dsimp only [St.cells] at hw0
 have HW := Lib.hid hw0
 have hz0 := hb0.size
 have HBW : Hid (∀ Z : World, Below w0.heap.size w0 Z → Below w.heap.size w Z) := fun Z hz => hb0.trans (hz.mono hz0)
 obtain ⟨op, hop⟩ : ∃ o, s.op = o := ⟨_, rfl⟩
 have HRO : Hid (mayG l role op s.tb = R) := by rw [← hop]; exact hR
 rw [hop] at HSH
 clear h hn hR hC hO1 hO2 hw0 ks hb0 hop HR
 dsimp only [St.cells]
 go_in
 go_upto_region 1 with fail
 rw [show w.alloc _ = w0 from HW.out]
 clear HW
 go_wp2_with fail
 refine (HCK.out w0 (HBW.out _ (Below.refl _ _))).mono ?_
 rintro en w1 ⟨rfl, hb1⟩
 by_cases hc0 : C = 0
 ·subst hc0
  by_cases hra : role = adminT
  ·have e4 : role = [97, 100, 109, 105, 110] := hra
   have HF : Hid (R = true) := by show _ = _; rw [← HRO.out]; unfold mayG; rw [HC.out, if_pos rfl, if_pos hra]
   clear HRO HP1 HP2 HM1 HM2 hra HCK HSH HC HQ
   subst e4
   go_wp2_with fail
   go_ret
   exact ⟨by rw [HF.out]; rfl, HBW.out _ hb1⟩
  ·have e4 : ¬ role = [97, 100, 109, 105, 110] := hra
   have e5 : (role == [97, 100, 109, 105, 110]) = false := by simpa using e4
   have HRO2 : Hid ((if op = oSelect then decide (⟨role, s.tb, false⟩ ∈ l) else if op = oInsert ∨ op = oUpdate ∨ op = oDelete then decide (⟨role, s.tb, false⟩ ∈ l) && decide (⟨role, s.tb, true⟩ ∈ l) else false) = R) := by
    have := HRO.out
    unfold mayG at this
    rw [HC.out, if_pos rfl, if_neg hra] at this
    exact this
   clear HRO hra HC
   obtain ⟨q0, q1⟩ := HSH.out w1 hb1
   go_wp2_with fail
   refine (HP1.out w1 (HBW.out _ hb1)).mono ?_
   rintro en w2 ⟨rfl, hb2⟩
   have hb02 : Below w0.heap.size w0 w2 := hb1.trans (hb2.mono hb1.size)
   clear q0 q1
   obtain ⟨q0, q1⟩ := HSH.out w2 hb02
   go_wp2_with fail
   refine (HP2.out w2 (HBW.out _ hb02)).mono ?_
   rintro en w3 ⟨rfl, hb3⟩
   have hb03 : Below w0.heap.size w0 w3 := hb02.trans (hb3.mono hb02.size)
   clear q0 q1
   obtain ⟨q0, q1⟩ := HSH.out w3 hb03
   have hbw3 := HBW.out _ hb03
   by_cases o_select : op = oSelect
   ·have HF : Hid (decide (0 ≤ O1) = R) := by show _ = _; rw [HM1.out, ← HRO2.out, if_pos o_select]
    have o' : op = [115, 101, 108, 101, 99, 116] := o_select
    clear HRO2 HM1 HM2 HP1 HP2 HSH HQ HCK o_select
    subst o'
    go_wp2_with fail
    go_ret
    exact ⟨by rw [← HF.out]; rfl, hbw3⟩
   by_cases o_insert : op = oInsert
   ·have HF : Hid ((decide (0 ≤ O1) && decide (0 ≤ O2)) = R) := by
     show _ = _
     rw [HM1.out, HM2.out, ← HRO2.out, if_neg o_select, if_pos (by simp [o_insert])]
    have o' : op = [105, 110, 115, 101, 114, 116] := o_insert
    clear o_select HRO2 HM1 HM2 HP1 HP2 HSH HQ HCK o_insert
    subst o'
    by_cases g1 : (0 : Int) ≤ O1
    ·have HF2 : Hid (decide (0 ≤ O2) = R) := by show _ = _; rw [← HF.out, decide_eq_true g1]; rfl
     go_wp2_with fail
     go_ret
     exact ⟨by rw [← HF2.out]; rfl, hbw3⟩
    ·have HF2 : Hid (R = false) := by show _ = _; rw [← HF.out, decide_eq_false g1]; rfl
     go_wp2_with fail
     go_ret
     exact ⟨by rw [HF2.out]; rfl, hbw3⟩
   by_cases o_update : op = oUpdate
   ·have HF : Hid ((decide (0 ≤ O1) && decide (0 ≤ O2)) = R) := by
     show _ = _
     rw [HM1.out, HM2.out, ← HRO2.out, if_neg o_select, if_pos (by simp [o_update])]
    have o' : op = [117, 112, 100, 97, 116, 101] := o_update
    clear o_select o_insert HRO2 HM1 HM2 HP1 HP2 HSH HQ HCK o_update
    subst o'
    by_cases g1 : (0 : Int) ≤ O1
    ·have HF2 : Hid (decide (0 ≤ O2) = R) := by show _ = _; rw [← HF.out, decide_eq_true g1]; rfl
     go_wp2_with fail
     go_ret
     exact ⟨by rw [← HF2.out]; rfl, hbw3⟩
    ·have HF2 : Hid (R = false) := by show _ = _; rw [← HF.out, decide_eq_false g1]; rfl
     go_wp2_with fail
     go_ret
     exact ⟨by rw [HF2.out]; rfl, hbw3⟩
   by_cases o_delete : op = oDelete
   ·have HF : Hid ((decide (0 ≤ O1) && decide (0 ≤ O2)) = R) := by
     show _ = _
     rw [HM1.out, HM2.out, ← HRO2.out, if_neg o_select, if_pos (by simp [o_delete])]
    have o' : op = [100, 101, 108, 101, 116, 101] := o_delete
    clear o_select o_insert o_update HRO2 HM1 HM2 HP1 HP2 HSH HQ HCK o_delete
    subst o'
    by_cases g1 : (0 : Int) ≤ O1
    ·have HF2 : Hid (decide (0 ≤ O2) = R) := by show _ = _; rw [← HF.out, decide_eq_true g1]; rfl
     go_wp2_with fail
     go_ret
     exact ⟨by rw [← HF2.out]; rfl, hbw3⟩
    ·have HF2 : Hid (R = false) := by show _ = _; rw [← HF.out, decide_eq_false g1]; rfl
     go_wp2_with fail
     go_ret
     exact ⟨by rw [HF2.out]; rfl, hbw3⟩
   have HF : Hid (R = false) := by
    show _ = _
    rw [← HRO2.out, if_neg o_select, if_neg (by simp [o_insert, o_update, o_delete])]
   have o1 : (op == [115, 101, 108, 101, 99, 116]) = false := by rw [beq_eq_false_iff_ne]; exact o_select
   have o2 : (op == [105, 110, 115, 101, 114, 116]) = false := by rw [beq_eq_false_iff_ne]; exact o_insert
   have o3 : (op == [117, 112, 100, 97, 116, 101]) = false := by rw [beq_eq_false_iff_ne]; exact o_update
   have o4 : (op == [100, 101, 108, 101, 116, 101]) = false := by rw [beq_eq_false_iff_ne]; exact o_delete
   have p1 : ¬ op = [115, 101, 108, 101, 99, 116] := o_select
   have p2 : ¬ op = [105, 110, 115, 101, 114, 116] := o_insert
   have p3 : ¬ op = [117, 112, 100, 97, 116, 101] := o_update
   have p4 : ¬ op = [100, 101, 108, 101, 116, 101] := o_delete
   clear HRO2 HM1 HM2 HP1 HP2 HSH HQ HCK o_select o_insert o_update o_delete
   go_wp2_with fail
   go_ret
   exact ⟨by rw [HF.out]; rfl, hbw3⟩
 ·have e1 : (C != 0) = true := by simpa using hc0
  have HF : Hid (R = false) := by show _ = _; rw [← HRO.out]; unfold mayG; rw [HC.out, if_neg hc0]
  clear HRO HP1 HP2 HM1 HM2 HCK HC HQ
  go_wp2_with fail
  go_ret
  exact ⟨by rw [HF.out]; rfl, HBW.out _ hb1⟩
theorem set_mid {α : Type} : ∀ (P : List α) (x : α) (r : List α) (v : α), (P ++ x :: r).set P.length v = P ++ v :: r
 | [], _, _, _ => rfl
 | p :: P, x, r, v => by rw [List.cons_append, List.length_cons, List.set_cons_succ, set_mid P x r v, List.cons_append]
theorem gcs_put {w : World} {g : Nat} {t : TypeId} {H : List Gr} {S : List Value} {i : Nat} (v : Gr) (h : Blk w g t (gcs H ++ S).toArray) (hi : i < H.length) :
  Blk (((w.setCell ⟨g, i * 3, none⟩ (.string ⟨v.r.toArray⟩)).setCell ⟨g, i * 3 + 1, none⟩ (.string ⟨v.t.toArray⟩)).setCell ⟨g, i * 3 + 2, none⟩ (.bool v.w)) g t (gcs (H.set i v) ++ S).toArray := by
 have h3 := ((h.set_ (i * 3) (.string ⟨v.r.toArray⟩)).set_ (i * 3 + 1) (.string ⟨v.t.toArray⟩)).set_ (i * 3 + 2) (.bool v.w)
 obtain ⟨P, x, r, rfl, hP⟩ : ∃ P x r, H = P ++ x :: r ∧ P.length = i := ⟨H.take i, H[i], H.drop (i + 1), by rw [← List.drop_eq_getElem_cons hi, List.take_append_drop], by rw [List.length_take]; omega⟩
 have e : gcs (P ++ x :: r) ++ S = gcs P ++ (.string ⟨x.r.toArray⟩ :: .string ⟨x.t.toArray⟩ :: .bool x.w :: (gcs r ++ S)) := by
  rw [gcs_app, show x :: r = [x] ++ r from rfl, gcs_app]; simp [gcs, Gr.cells]
 have hl : (gcs P).length = i * 3 := by rw [gcs_len, hP]
 have s1 := set_mid (gcs P) (.string ⟨x.r.toArray⟩) (.string ⟨x.t.toArray⟩ :: .bool x.w :: (gcs r ++ S)) (.string ⟨v.r.toArray⟩)
 have s2 := set_mid (gcs P ++ [.string ⟨v.r.toArray⟩]) (.string ⟨x.t.toArray⟩) (.bool x.w :: (gcs r ++ S)) (.string ⟨v.t.toArray⟩)
 have s3 := set_mid (gcs P ++ [.string ⟨v.r.toArray⟩, .string ⟨v.t.toArray⟩]) (.bool x.w) (gcs r ++ S) (.bool v.w)
 simp only [List.length_append, List.length_cons, List.length_nil, hl, List.append_assoc, List.cons_append, List.nil_append] at s1 s2 s3
 rw [e] at h3
 simp only [List.setIfInBounds_toArray] at h3
 rw [s1, s2, s3] at h3
 have hset : (P ++ x :: r).set i v = P ++ v :: r := by rw [← hP]; exact set_mid P x r v
 rw [hset, gcs_app, show v :: r = [v] ++ r from rfl, gcs_app]
 have e2 : gcs P ++ (gcs [v] ++ gcs r) ++ S = gcs P ++ Value.string ⟨v.r.toArray⟩ :: .string ⟨v.t.toArray⟩ :: .bool v.w :: (gcs r ++ S) := by simp [gcs, Gr.cells]
 rw [e2]
 exact h3
def Kept (p : Gr → Bool) (l H : List Gr) (i j : Nat) : Prop := H.length = l.length ∧ H.take i = (l.take j).filter (fun x => !p x) ∧ H.drop j = l.drop j ∧ i < j ∧ i ≤ l.length
theorem Kept.skip {p : Gr → Bool} {l H : List Gr} {i j : Nat} (h : Kept p l H i j) {x : Gr} (hx : l[j]? = some x) (hp : p x = true) : Kept p l H i (j + 1) := by
 obtain ⟨h1, h2, h3, h4, h5⟩ := h
 refine ⟨h1, ?_, ?_, by omega, h5⟩
 ·rw [List.take_add_one, hx, List.filter_append, h2]
  simp [hp]
 ·rw [← List.drop_drop, h3, List.drop_drop]
theorem Kept.put {p : Gr → Bool} {l H : List Gr} {i j : Nat} (h : Kept p l H i j) {x : Gr} (hx : l[j]? = some x) (hp : p x = false) : Kept p l (H.set i x) (i + 1) (j + 1) := by
 obtain ⟨h1, h2, h3, h4, h5⟩ := h
 have hj := (List.getElem?_eq_some_iff.1 hx).1
 refine ⟨by rw [List.length_set, h1], ?_, ?_, by omega, by omega⟩
 ·rw [List.take_add_one (l := l), hx, List.filter_append, ← h2, List.take_add_one, List.getElem?_set_self (by omega), List.take_set_of_le (Nat.le_refl _)]
  simp [hp]
 ·rw [List.drop_set_of_lt (by omega), ← List.drop_drop, h3, List.drop_drop]
theorem firstP_at {α : Type} (p : α → Bool) : ∀ (l : List α) (n : Nat), (firstP p l n = -1 ∧ ∀ x ∈ l, p x = false) ∨ ∃ k x, k < l.length ∧ firstP p l n = ((n + k : Nat) : Int) ∧ l[k]? = some x ∧ p x = true ∧ ∀ y ∈ l.take k, p y = false
 | [], n => .inl ⟨rfl, fun x hx => by simp at hx⟩
 | x :: r, n => by
  rw [firstP_cons]
  cases hp : p x
  ·rcases firstP_at p r (n + 1) with ⟨h1, h2⟩ | ⟨k, y, h1, h2, h3, h4, h5⟩
   ·exact .inl ⟨h1, fun y hy => by rcases List.mem_cons.1 hy with rfl | hy; exact hp; exact h2 y hy⟩
   ·refine .inr ⟨k + 1, y, by rw [List.length_cons]; omega, ?_, h3, h4, fun z hz => ?_⟩
    ·rw [show n + (k + 1) = n + 1 + k by omega]; exact h2
    ·rcases List.mem_cons.1 hz with rfl | hz
     ·exact hp
     ·exact h5 z hz
  ·exact .inr ⟨0, x, by simp, by simp, rfl, hp, fun y hy => by simp at hy⟩
theorem own_whole {w : World} {base : Nat} {t : TypeId} {c : Nat} {l : List Gr} (hl : 0 < l.length) {A : Option Addr} (h : w.ownsRow base t 3 (.slice A l.length c) l.length (gcs l)) : ∃ g S, A = some ⟨g, 0, none⟩ ∧ base ≤ g ∧ Blk w g t (gcs l ++ S).toArray ∧ l.length ≤ c ∧ c ≤ maxLen ∧ (gcs l ++ S).length = c * 3 := by
 rcases h.2 with ⟨_, h0⟩ | ⟨g, cap, cur, e, hb, hg, hnc, hcm, hcs, htk⟩
 ·omega
 ·injection e with e1 e2 e3
  subst e1 e3
  have e : gcs l ++ cur.toList.drop (l.length * 3) = cur.toList := by rw [← htk, List.take_append_drop]
  refine ⟨g, cur.toList.drop (l.length * 3), rfl, hb, ?_, hnc, hcm, by rw [e, Array.length_toList, hcs]⟩
  rw [e, Array.toArray_toList]
  exact hg
theorem delG_any (base f g : Nat) (p : Gr → Bool) (A : Option Addr) (c : Nat) (l : List Gr) (eg : ∀ args (w : World), (callFunc f args).run Tryz.prog w = .ok (.enter f args) w) (w : World) (hl : l.length ≤ 1000) (hbw : base ≤ w.heap.size)
  (hown : w.ownsRow base 54 3 (.slice A l.length c) l.length (gcs l))
  (hp : ∀ x ∈ l, ∀ Z : World, Below base w Z → Calls Tryz.prog f #[.agg #[.string ⟨x.r.toArray⟩, .string ⟨x.t.toArray⟩, .bool x.w], .pointer (some ⟨g, 0, none⟩)] Z (Ret (.bool (p x)) Z)) :
  Calls Tryz.prog 39 #[.slice A l.length c, .func (.func f) #[] #[.pointer (some ⟨g, 0, none⟩)]] w (RetOG base (l.filter fun x => !p x) w) := by
 obtain ⟨i0, hi0, zi0, zi1, zi2⟩ := info_parts infoGr
 have hGQ : GQ l A (Old w.heap.size) w := by
  obtain ⟨A', c', e, _, _, h⟩ := GQ.own hown
  injection e with e1 e2 e3
  subst e1
  exact h.keep fun b hb => ⟨hb.2, fun o => rfl⟩
 have hI := idxG_any A c l p f g eg w (by omega) hGQ (fun x hx Z hz => hp x hx Z (hz.mono hbw))
 rcases firstP_at p l 0 with ⟨h1, h2⟩ | ⟨k, x0, hk, h1, hx0, hpx, h2⟩
 ·rw [h1] at hI
  have HF : Hid (l.filter (fun x => !p x) = l) := List.filter_eq_self.2 fun x hx => by rw [h2 x hx]; rfl
  have HI := Lib.hid hI
  have HO := Lib.hid hown
  rw [HF.out]
  clear hI hown hp hGQ h1 h2
  go_in
  go_wp2_with fail
  refine HI.out.mono ?_
  rintro en w1 ⟨rfl, hb1⟩
  have h5 := own_below HO.out hb1
  have hb5 := hb1.mono hbw
  go_wp2_with fail
  go_ret
  exact ⟨_, rfl, h5, hb5⟩
 ·rw [h1, Nat.zero_add] at hI
  obtain ⟨g0, S, rfl, hg0, hblk, hlc, hcm, hS⟩ := own_whole (by omega) hown
  have HP := Lib.hid hp
  have HB := Lib.hid hblk
  have HS := Lib.hid hS
  have HK : Hid (Kept p l l k (k + 1)) := by
   refine ⟨rfl, ?_, rfl, by omega, by omega⟩
   rw [List.take_add_one, hx0, List.filter_append, List.filter_eq_self.2 fun y hy => by rw [h2 y hy]; rfl]
   simp [hpx]
  obtain ⟨N, hN⟩ : ∃ N, l.length = N := ⟨_, rfl⟩
  have HL := Lib.hid hN
  obtain ⟨R, hR⟩ : ∃ R, l.filter (fun x => !p x) = R := ⟨_, rfl⟩
  have HR := Lib.hid hR
  rw [hR]
  rw [hN] at hl hk hlc hI ⊢
  have HI := Lib.hid hI
  clear hI hown hp hblk hS h1 h2 hGQ hN hR hx0 hpx
  go_in
  go_wp2_with fail
  refine HI.out.mono ?_
  rintro en w1 ⟨rfl, hb1⟩
  have HB1 := Lib.hid (HB.out.below hb1 HB.out.lt)
  have hb5 := hb1.mono hbw
  have n1 : ((k : Int) == -1) = false := by rw [beq_eq_false_iff_ne]; omega
  have n2 : ¬ (k : Int) = -1 := by omega
  have i1 : IntKind.i64.wrap ((k : Int) + 1) = ((k + 1 : Nat) : Int) := by rw [IntWalk.i64_in _ (by omega)]; omega
  clear hb1
  go_wp2_with fail
  go_loopw [5, 6] (fun s t wr => ∃ (i j : Nat) (H : List Gr), s = .int .i64 i ∧ t = .int .i64 j ∧ j ≤ N ∧ i < j ∧ Hid (Kept p l H i j) ∧ Blk wr g0 54 (gcs H ++ S).toArray ∧ Below base w wr) (fun _ t _ => N - (intOf t).toNat)
  case atStart => exact ⟨k, k + 1, l, rfl, rfl, by omega, by omega, HK, HB1.out, hb5⟩
  case round =>
   obtain ⟨i, j, H, rfl, rfl, hj, hij, HKE, hbl, hbw1⟩ := hrel
   obtain ⟨W, rfl⟩ : ∃ W, W = wr := ⟨_, rfl⟩
   have lg := hbl.lt
   have HBL := Lib.hid hbl
   by_cases hlt : j < N
   ·obtain ⟨x, hx⟩ : ∃ x, l[j]? = some x := ⟨l[j]'(by have := HL.out; omega), List.getElem?_eq_getElem _⟩
    have hxl := List.mem_of_getElem? hx
    have hHx : H[j]? = some x := by
     have := congrArg (·[0]?) HKE.out.2.2.1
     simpa [hx] using this
    have hHl : H.length = N := by rw [HKE.out.1, HL.out]
    have key : ∀ m y q, H[m]? = some y → q < 3 → W.cell? ⟨g0, m * 3 + q, none⟩ = y.cells[q]? := fun m y q hm hq => by
     rw [hbl.cell]
     have := gcs_at H m q y hm hq
     simp only [List.getElem?_toArray]
     rw [List.getElem?_append_left (by rw [gcs_len]; have := (List.getElem?_eq_some_iff.1 hm).1; omega)]
     exact this
    have c0 : W.cell? ⟨g0, j * 3, none⟩ = some (.string ⟨x.r.toArray⟩) := key j x 0 hHx (by omega)
    have c1 : W.cell? ⟨g0, j * 3 + 1, none⟩ = some (.string ⟨x.t.toArray⟩) := key j x 1 hHx (by omega)
    have c2 : W.cell? ⟨g0, j * 3 + 2, none⟩ = some (.bool x.w) := key j x 2 hHx (by omega)
    obtain ⟨y, hy⟩ : ∃ y, H[i]? = some y := ⟨H[i]'(by omega), List.getElem?_eq_getElem _⟩
    obtain ⟨V, hV⟩ : ∃ V, W.alloc (.cells #[.string ⟨x.r.toArray⟩, .string ⟨x.t.toArray⟩, .bool x.w] 54) = V := ⟨_, rfl⟩
    have hzW : base ≤ W.heap.size := Nat.le_trans hbw hbw1.size
    have hbV : Below base w V := by rw [← hV]; exact hbw1.alloc hzW _
    have hbWV : Below W.heap.size W V := by rw [← hV]; exact bl
    have hzV := hbWV.size
    have kV : Blk V W.heap.size 54 #[.string ⟨x.r.toArray⟩, .string ⟨x.t.toArray⟩, .bool x.w] := by rw [← hV]; exact Blk.new _ _ _
    have HC := Lib.hid (HP.out x hxl V hbV)
    obtain ⟨r, t, u⟩ := x
    obtain ⟨q, hq⟩ : ∃ q, p ⟨r, t, u⟩ = q := ⟨_, rfl⟩
    rw [hq] at HC
    have HQ := Lib.hid hq
    have HX := Lib.hid hx
    have HV := Lib.hid hV
    have HKV := Lib.hid kV
    have HY : Hid (∀ Z : World, Below W.heap.size W Z → (Z.cell? ⟨g0, i * 3, none⟩ = some (.string ⟨y.r.toArray⟩) ∧ Z.cell? ⟨g0, i * 3 + 1, none⟩ = some (.string ⟨y.t.toArray⟩) ∧ Z.cell? ⟨g0, i * 3 + 2, none⟩ = some (.bool y.w)) ∧ Z.frozen? ⟨g0, i * 3, none⟩ = false ∧ Z.frozen? ⟨g0, i * 3 + 1, none⟩ = false ∧ Z.frozen? ⟨g0, i * 3 + 2, none⟩ = false) := fun Z hz => by
     have hZ := HBL.out.below hz lg
     have hc : ∀ o, Z.cell? ⟨g0, o, none⟩ = W.cell? ⟨g0, o, none⟩ := fun o => hz.cell (p := ⟨g0, o, none⟩) lg
     exact ⟨⟨(hc _).trans (key i y 0 hy (by omega)), (hc _).trans (key i y 1 hy (by omega)), (hc _).trans (key i y 2 hy (by omega))⟩, hZ.frozen _, hZ.frozen _, hZ.frozen _⟩
    dsimp only at c0 c1 c2
    have HIL : Hid (i < H.length) := by show _ < _; omega
    have g6 : i < N := by omega
    have i2 : IntKind.i64.wrap ((j : Int) + 1) = ((j + 1 : Nat) : Int) := by rw [IntWalk.i64_in _ (by omega)]; omega
    have i3 : IntKind.i64.wrap ((i : Int) + 1) = ((i + 1 : Nat) : Int) := by rw [IntWalk.i64_in _ (by omega)]; omega
    clear hx hxl hHx hHl key hy hV kV hq hbl
    go_upto_region 8 with fail
    rw [HV.out]
    obtain ⟨v0, v1, v2⟩ : V.cell? ⟨W.heap.size, 0, none⟩ = some (.string ⟨r.toArray⟩) ∧ V.cell? ⟨W.heap.size, 1, none⟩ = some (.string ⟨t.toArray⟩) ∧ V.cell? ⟨W.heap.size, 2, none⟩ = some (.bool u) := ⟨HKV.out.cell 0, HKV.out.cell 1, HKV.out.cell 2⟩
    go_wp2_with fail
    refine HC.out.mono ?_
    rintro en w2 ⟨rfl, hb2⟩
    have hbW2 : Below W.heap.size W w2 := hbWV.trans (hb2.mono hzV)
    have hbw2 : Below base w w2 := hbV.trans (hb2.mono (Nat.le_trans hzW hzV))
    have k2 := HKV.out.below hb2 HKV.out.lt
    clear v0 v1 v2 c0 c1 c2
    obtain ⟨v0, v1, v2⟩ : w2.cell? ⟨W.heap.size, 0, none⟩ = some (.string ⟨r.toArray⟩) ∧ w2.cell? ⟨W.heap.size, 1, none⟩ = some (.string ⟨t.toArray⟩) ∧ w2.cell? ⟨W.heap.size, 2, none⟩ = some (.bool u) := ⟨k2.cell 0, k2.cell 1, k2.cell 2⟩
    cases q with
    | true =>
     go_wp2_with fail
     go_roundw
     case rel => exact ⟨i, j + 1, H, rfl, rfl, by omega, by omega, HKE.out.skip HX.out HQ.out, HBL.out.below hbW2 lg, hbw2⟩
     case measure => simp [intOf]; omega
    | false =>
     obtain ⟨⟨y0, y1, y2⟩, z0, z1, z2⟩ := HY.out w2 hbW2
     have hbl3 := gcs_put ⟨r, t, u⟩ (HBL.out.below hbW2 lg) HIL.out
     have hbw3 : Below base w (((w2.setCell ⟨g0, i * 3, none⟩ (.string ⟨r.toArray⟩)).setCell ⟨g0, i * 3 + 1, none⟩ (.string ⟨t.toArray⟩)).setCell ⟨g0, i * 3 + 2, none⟩ (.bool u)) := bwS (bwS (bwS hbw2 hg0) hg0) hg0
     have HB3 := Lib.hid hbl3
     have HW3 := Lib.hid hbw3
     clear hbl3 hbw3
     go_wp2_with fail
     go_roundw
     case rel => exact ⟨i + 1, j + 1, _, rfl, rfl, by omega, by omega, HKE.out.put HX.out HQ.out, HB3.out, HW3.out⟩
     case measure => simp [intOf]; omega
   ·obtain rfl : j = N := by omega
    have g11 : ¬ (j : Int) < (j : Int) := by omega
    have hzc : (Builtin.zeroCells zGr.cells (j - i)).toList.length = (j - i) * 3 := by rw [zeroCells_len]; rfl
    have hHl : H.length = j := by rw [HKE.out.1, HL.out]
    have hsz : (gcs H ++ S).length = c * 3 := by rw [← HS.out, List.length_append, List.length_append, gcs_len, gcs_len, hHl, HL.out]
    obtain ⟨w3, hw3⟩ : ∃ w3, W.setRow g0 ((gcs H ++ S).toArray.toList.take (i * 3) ++ (Builtin.zeroCells zGr.cells (j - i)).toList ++ (gcs H ++ S).toArray.toList.drop (i * 3 + (Builtin.zeroCells zGr.cells (j - i)).toList.length)).toArray = w3 := ⟨_, rfl⟩
    have hcl : ∀ ty, (Builtin.clear_ #[22] ty #[.slice (some ⟨g0, i * 3, none⟩) (j - i) (c - i)]).run Tryz.prog W = .ok (.tuple #[]) w3 := fun ty => by
     rw [run_clear_rowN W 22 54 ty zGr Tryz.underlying22 (fun w => by simp [zeroValue, typeInfo, hi0, zi0, zGr]) g0 (i * 3) (j - i) (c - i) (by omega) _ 54 hbl (by
      rw [← Array.length_toList (xs := Builtin.zeroCells _ _), hzc]
      show _ ≤ (gcs H ++ S).length
      omega) (zeroCells_one _ _ (by decide) (by intro v hv; simp [zGr, Value.cells] at hv; rcases hv with rfl | rfl | rfl <;> rfl)), hw3]
    have hown3 : w3.ownsRow base 54 3 (.slice (some ⟨g0, 0, none⟩) i c) R.length (gcs R) := by
     have hRi : H.take i = R := by
      have := HKE.out.2.1
      rw [← HL.out, List.take_length, HR.out] at this
      exact this
     have hRl : R.length = i := by rw [← hRi, List.length_take]; omega
     have k3 : Blk w3 g0 54 ((gcs H ++ S).toArray.toList.take (i * 3) ++ (Builtin.zeroCells zGr.cells (j - i)).toList ++ (gcs H ++ S).toArray.toList.drop (i * 3 + (Builtin.zeroCells zGr.cells (j - i)).toList.length)).toArray := by rw [← hw3]; exact hbl.row _
     rw [hRl]
     refine k3.own hg0 (by omega) hcm ?_ ?_
     ·simp only [List.size_toArray, List.length_append, List.length_take, List.length_drop, hzc] at hsz ⊢
      omega
     ·show List.take (i * 3) (List.take (i * 3) (gcs H ++ S) ++ _ ++ _) = _
      rw [List.append_assoc, List.take_left' (by rw [List.length_take, hsz]; omega), List.take_append_of_le_length (by rw [gcs_len]; omega), ← hRi, (gcs_take H i).1]
    have hbw3 : Below base w w3 := by rw [← hw3]; exact bwRow hbw1 hg0 _
    have HO3 := Lib.hid hown3
    have HW3 := Lib.hid hbw3
    have g4 : ¬ c = i := by omega
    have g5 : i ≤ j := by omega
    have g6 : i ≤ c := by omega
    clear hlt hown3 hbw3 hw3 hsz hHl hzc hbl
    go_wp2_with fail
    go_ret
    exact ⟨_, rfl, HO3.out, HW3.out⟩
end Go.Proofs.YtchilcchogcibaaGreatDoor
