/- expr.typed and expr.Type as plain functions. Condition: as expr.Eval. expr.typed and expr.Type as plain functions. Condition: an expression that reads as a tree, texts no longer than a thousand; columns that read as a list. -/
import Derived.Test.YtdhjogmkhbpcgaaGreatTake
import Derived.Test.YtdhjogmkhbpcgaaGreatExpr34M
namespace Go.Proofs.YtdhjogmkhbpcgaaGreat
open Go.RowKit

attribute [local go_sem] ByteArray.extract_mk ba_get ba_append
attribute [local go_sem ↓] Go.wp_at_zero Go.wp_at_succ

def oddT (t x : Int) : Bool := !(decide (x = t) || decide (x = 0))
theorem all_odd (l : List Int) (t : Int) : (l.any (oddT t)) = !allT l t := by
  unfold allT
  induction l with
  | nil => rfl
  | cons x r ih => simp only [List.any_cons, List.all_cons, Bool.not_and, ih]; rfl

set_option maxHeartbeats 400000 in
theorem allC_any (x t : Int) (g : Nat) (w : World) (h : w.cell? ⟨g, 0, none⟩ = some (.int .i64 t)) :
    Calls Tryz.prog 117 #[.int .i64 x, .pointer (some ⟨g, 0, none⟩)] w (Ret (.bool (oddT t x)) w) := by
  have hg : g < w.heap.size := Blk_lt_of_cell h
  by_cases hx : x = t
  · have e1 : (x != t) = false := by simpa using hx
    have HF : Hid (oddT t x = false) := by show _ = _; simp [oddT, hx]
    clear hx
    go_enter Tryz.func117, Tryz.ntmps117
    go_wp2
    go_ret
    exact ⟨by rw [HF.out]; rfl, by exact bl⟩
  · have e1 : (x != t) = true := by simpa using hx
    have HF : Hid (oddT t x = (x != 0)) := by show _ = _; unfold oddT; by_cases h0 : x = 0 <;> simp [hx, h0]
    clear hx
    go_enter Tryz.func117, Tryz.ntmps117
    go_wp2
    go_ret
    exact ⟨by rw [HF.out]; rfl, by exact bl⟩

set_option maxHeartbeats 1000000 in
theorem indexI_any (A : Option Addr) (c : Nat) (l : List Int) (t : Int) (g : Nat) (w : World) (hl : l.length ≤ 1000000) (h : IS w w.heap.size A l) (hu : w.cell? ⟨g, 0, none⟩ = some (.int .i64 t)) :
    Calls Tryz.prog 133 #[.slice A l.length c, .func (.func 117) #[] #[.pointer (some ⟨g, 0, none⟩)]] w (Ret (.int .i64 (firstP (oddT t) l 0)) w) := by
  obtain ⟨R, hR⟩ : ∃ R, firstP (oddT t) l 0 = R := ⟨_, rfl⟩
  rw [hR]
  have HR : Hid (firstP (oddT t) (l.drop 0) 0 = R) := hR
  have HU := Lib.hid hu
  have hg : g < w.heap.size := Blk_lt_of_cell HU.out
  clear hR hu
  go_enter Tryz.func133, Tryz.ntmps133
  go_wp2
  go_loopw [8] (fun i wr => ∃ j : Nat, j ≤ l.length ∧ i = .int .i64 j ∧ Hid (firstP (oddT t) (l.drop j) j = R) ∧ Below w.heap.size w wr) (fun i _ => l.length - (intOf i).toNat)
  case atStart => exact ⟨0, by omega, rfl, HR, Below.refl _ _⟩
  case round =>
    obtain ⟨j, hj, rfl, hrest, hbw⟩ := hrel
    by_cases hlt : j < l.length
    · obtain ⟨b, off, x, rfl, hbB, hv, c0⟩ := (h.below hbw).at_ hlt
      have hrest' := hrest.out
      have hdr : l.drop j = x :: l.drop (j + 1) := by
        obtain ⟨hj', rfl⟩ := List.getElem?_eq_some_iff.1 hv
        exact List.drop_eq_getElem_cons hj'
      rw [hdr, firstP_cons] at hrest'
      have hzw := hbw.size
      have HW := Lib.hid ((hbw.cell (p := ⟨g, 0, none⟩) hg).trans HU.out)
      clear hv hrest hdr
      obtain ⟨W, rfl⟩ : ∃ W, W = wr := ⟨_, rfl⟩
      cases hq : oddT t x
      · have HF : Hid (firstP (oddT t) (l.drop (j + 1)) (j + 1) = R) := by
          show _ = _
          rw [← hrest', hq]; rfl
        have HQ := Lib.hid hq
        clear hrest' hq
        go_wp2_with fail
        refine (allC_any x t g W HW.out).mono ?_
        rintro e w1 ⟨rfl, hb1⟩
        rw [HQ.out]
        go_wp2_with fail
        go_roundw
        case rel => exact ⟨j + 1, by omega, by go_num, HF, hbw.trans (hb1.mono hzw)⟩
        case measure => simp [intOf]; omega
      · have HF : Hid ((j : Int) = R) := by
          show _ = _
          rw [← hrest', hq]; rfl
        have HQ := Lib.hid hq
        clear hrest' hq
        go_wp2_with fail
        refine (allC_any x t g W HW.out).mono ?_
        rintro e w1 ⟨rfl, hb1⟩
        rw [HQ.out]
        go_wp2_with fail
        go_ret
        exact ⟨by rw [← HF.out]; rfl, hbw.trans (hb1.mono hzw)⟩
    · have HF : Hid (R = -1) := by
        show _ = _
        rw [← hrest.out, List.drop_of_length_le (by omega)]
        rfl
      clear hrest
      go_wp2
      go_ret
      exact ⟨by rw [HF.out]; rfl, hbw⟩

set_option maxHeartbeats 400000 in
theorem allX_any (A : Option Addr) (c : Nat) (l : List Int) (t : Int) (w : World) (hl : l.length ≤ 1000000) (h : IS w w.heap.size A l) :
    Calls Tryz.prog 82 #[.slice A l.length c, .int .i64 t] w (Ret (.bool (allT l t)) w) := by
  obtain ⟨w0, hw0⟩ : ∃ w0, w.alloc (.cells #[.int .i64 t] 3) = w0 := ⟨_, rfl⟩
  have hb0 : Below w.heap.size w w0 := by rw [← hw0]; exact bl
  have k0 : Blk w0 w.heap.size 3 #[.int .i64 t] := by rw [← hw0]; exact Blk.new _ _ _
  have h0 := (h.below hb0).more hb0.size
  have HW := Lib.hid hw0
  have hal := firstP_any (oddT t) l 0
  rw [all_odd] at hal
  obtain ⟨F, hF⟩ : ∃ F, firstP (oddT t) l 0 = F := ⟨_, rfl⟩
  rw [hF] at hal
  have HF := Lib.hid hF
  have HAL := Lib.hid hal
  clear hw0 h hal hF
  have hCF : Calls Tryz.prog 116 #[.slice A l.length c, .func (.func 117) #[] #[.pointer (some ⟨w.heap.size, 0, none⟩)]] w0 (Ret (.bool (!allT l t)) w0) := by
    go_enter Tryz.func116, Tryz.ntmps116
    go_wp2_with fail
    refine (indexI_any A c l t w.heap.size w0 hl h0 k0.one.1).mono ?_
    rw [HF.out]
    rintro e w1 ⟨rfl, hb1⟩
    go_wp2_with fail
    go_ret
    exact ⟨by rw [← HAL.out]; rfl, hb1⟩
  go_enter Tryz.func82, Tryz.ntmps82
  go_wp2_with fail
  rw [HW.out]
  refine hCF.mono ?_
  rintro e w1 ⟨rfl, hb1⟩
  go_wp2_with fail
  go_ret
  exact ⟨by simp, hb0.trans (hb1.mono hb0.size)⟩

end Go.Proofs.YtdhjogmkhbpcgaaGreat

namespace Go.Proofs.YtdhjogmkhbpcgaaGreat
open Go.RowKit

attribute [local go_sem] ByteArray.extract_mk ba_get ba_append
attribute [local go_sem ↓] Go.wp_at_zero Go.wp_at_succ

theorem infoInt : (Tryz.prog.info? 3).map (fun i => (i.zero, i.size, i.bytes)) = some (some (.int .i64 0), 1, 8) := by kernel_rfl
theorem placeFrom_in (s : List UInt8) : ∀ (l : List Col) (n : Nat), -1 ≤ placeFrom s l n ∧ placeFrom s l n < n + l.length
  | [], n => by unfold placeFrom; simp only [List.length_nil]; omega
  | c :: r, n => by
    unfold placeFrom
    have := placeFrom_in s r (n + 1)
    simp only [List.length_cons]
    split <;> omega
theorem placeF_in (l : List Col) (s : List UInt8) : -1 ≤ placeF l s ∧ placeF l s < l.length := by
  have := placeFrom_in s l 0
  unfold placeF
  omega
/-- What typed leaves. -/
def RetTy (R : Int × Int) (w : World) (en : Ending) (w' : World) : Prop := en = .returned (.tuple #[.int .i64 R.1, .int .i64 R.2]) ∧ Below w.heap.size w w'
def TyC (n : Nat) : Prop := ∀ (e : Ex) (A : Option Addr) (c : Nat) (A1 : Option Addr) (c1 : Nat) (cols : List Col) (w : World), e.fit 1000 → okE n e → ExS 1000 n w w.heap.size A e.l →
    cols.length ≤ 1000000 → ColS w w.heap.size A1 cols → Calls Tryz.prog 49 #[.agg (e.cells A c).toArray, .slice A1 cols.length c1] w (RetTy (typedE n cols e) w)

theorem tyFold_len (f : Ex → Int × Int) : ∀ (l : List Ex) (a : List Int), (tyFold f l a).2 = 0 → (tyFold f l a).1.length = a.length + l.length
  | [], a, _ => by simp [tyFold]
  | x :: r, a, h => by
    unfold tyFold at h ⊢
    by_cases hx : (f x).2 = 0
    · rw [if_pos hx] at h ⊢
      rw [tyFold_len f r _ h]
      simp only [List.length_append, List.length_cons, List.length_nil]
      omega
    · rw [if_neg hx] at h
      exact absurd h hx
def tyTail (cols : List Col) (e : Ex) (T : List Int × Int) : Int × Int := if T.2 = 0 then tyOp cols e T.1 else (0, T.2)
def tyF (n : Nat) (cols : List Col) (l : List Ex) (a : List Int) : List Int × Int := match n with | 0 => (a, 0) | n + 1 => tyFold (typedE n cols) l a
theorem typedE_eq (n : Nat) (cols : List Col) (e : Ex) : typedE n cols e = tyTail cols e (tyF n cols e.l []) := by
  cases n with
  | zero => rfl
  | succ n => unfold typedE tyTail tyF; rfl

theorem tyF_cons (n : Nat) (cols : List Col) (x : Ex) (r : List Ex) (a : List Int) : tyF (n + 1) cols (x :: r) a = if (typedE n cols x).2 = 0 then tyF (n + 1) cols r (a ++ [(typedE n cols x).1]) else ([], (typedE n cols x).2) := rfl
theorem tyOp_opNot (cols : List Col) (e : Ex) (l : List Int) (h : e.op = opNot) : tyOp cols e l = if allT l 3 then (3, 0) else (0, 5) := by unfold tyOp; rw [h]; rfl
theorem tyOp_opAnd (cols : List Col) (e : Ex) (l : List Int) (h : e.op = opAnd) : tyOp cols e l = if allT l 3 then (3, 0) else (0, 5) := by unfold tyOp; rw [h]; rfl
theorem tyOp_opOr (cols : List Col) (e : Ex) (l : List Int) (h : e.op = opOr) : tyOp cols e l = if allT l 3 then (3, 0) else (0, 5) := by unfold tyOp; rw [h]; rfl
theorem tyOp_opPlus (cols : List Col) (e : Ex) (l : List Int) (h : e.op = opPlus) : tyOp cols e l = if allT l 1 then (1, 0) else (0, 5) := by unfold tyOp; rw [h]; rfl
theorem tyOp_opMinus (cols : List Col) (e : Ex) (l : List Int) (h : e.op = opMinus) : tyOp cols e l = if allT l 1 then (1, 0) else (0, 5) := by unfold tyOp; rw [h]; rfl
theorem tyOp_opNull (cols : List Col) (e : Ex) (l : List Int) (h : e.op = opNull) : tyOp cols e l = (3, 0) := by unfold tyOp; rw [h]; rfl
theorem tyOp_opEq (cols : List Col) (e : Ex) (x y : Int) (h : e.op = opEq) : tyOp cols e [x, y] = if decide (x = y) || decide (x = 0) || decide (y = 0) then (3, 0) else (0, 5) := by unfold tyOp; rw [h]; rfl
theorem tyOp_opLt (cols : List Col) (e : Ex) (x y : Int) (h : e.op = opLt) : tyOp cols e [x, y] = if decide (x = y) || decide (x = 0) || decide (y = 0) then (3, 0) else (0, 5) := by unfold tyOp; rw [h]; rfl
set_option maxRecDepth 100000 in
set_option maxHeartbeats 8000000 in
theorem ty_step (n : Nat) (ih : ∀ m, n = m + 1 → TyC m) : TyC n := by
  intro e A c A1 c1 cols w hf hok hA hcl hC
  have HIH := Lib.hid ih
  have HOK := Lib.hid hok
  obtain ⟨R, hR⟩ : ∃ R, typedE n cols e = R := ⟨_, rfl⟩
  rw [hR]
  rw [typedE_eq] at hR
  have HR := Lib.hid hR
  have hpt : (e.l.length : Int) = partsF e.op := by have := hok; unfold okE at this; exact this.1
  have hl2 : e.l.length ≤ 2 := by
    have : partsF e.op ≤ 2 := by unfold partsF; split <;> (try split) <;> (try split) <;> omega
    omega
  have HPT := Lib.hid hpt
  clear ih hR hok hpt hf
  obtain ⟨w0, hw0⟩ : ∃ w0, w.alloc (.cells (e.cells A c).toArray 29) = w0 := ⟨_, rfl⟩
  have ke : Blk w0 w.heap.size 29 (e.cells A c).toArray := by rw [← hw0]; exact Blk.new _ _ _
  have hb0 : Below w.heap.size w w0 := by rw [← hw0]; exact bl
  have HW := Lib.hid hw0
  have HA := Lib.hid hA
  have HCC := Lib.hid hC
  clear hw0 hA hC
  obtain ⟨q0, q1, q2, q3, q4, q5⟩ := ke.six
  obtain ⟨i0, hi0, zi0, zi1, zi2⟩ := info_parts infoInt
  go_enter Tryz.func49, Tryz.ntmps49
  go_upto_region 2 with fail
  rw [HW.out]
  clear HW
  dsimp only [Ex.cells]
  go_wp2_with fail
  go_loopw [6, 17] (fun v i wr => ∃ (j : Nat) (tys : List Int), j ≤ e.l.length ∧ i = .int .i64 j ∧ Blk wr w.heap.size 29 (e.cells A c).toArray ∧ Below w.heap.size w wr ∧
      wr.ownsRow (w.heap.size + 1) 3 1 v j (tys.map fun x => (.int .i64 x : Value)) ∧ Hid (tyTail cols e (tyF n cols (e.l.drop j) tys) = R)) (fun _ i _ => e.l.length - (intOf i).toNat)
  case atStart => exact ⟨0, [], by omega, rfl, ke, hb0, World.ownsRow_nil _ _ _ _, HR.out⟩
  case round =>
    obtain ⟨j, tys, hj, rfl, keR, hbr, hown, HJ⟩ := hrel
    clear ke q0 q1 q2 q3 q4 q5 HR hb0
    have hzr := hbr.size
    have ler := keR.lt
    obtain ⟨q0, q1, q2, q3, q4, q5⟩ := keR.six
    by_cases hlt : j < e.l.length
    · cases n with
      | zero => rw [show e.l = [] from HA.out] at hlt; simp at hlt
      | succ n =>
        have hA3 : ExS 1000 (n + 1) wr w.heap.size A e.l := HA.out.below _ hbr
        obtain ⟨b1, o1, x, A', c', rfl, hbB1, hv, hfx, hxc, hxm, ⟨d0, d1, d2, d3, d4, d5⟩, hx⟩ := hA3.at_ hlt
        have HFX := Lib.hid hfx
        have hne : ¬ (e.op = opLit ∨ e.op = opCol) := fun h => by
          have := HPT.out
          unfold partsF at this
          rw [if_pos h] at this
          omega
        have HOX : Hid (okE n x) := by
          have := HOK.out
          unfold okE at this
          rcases this.2 with h | h | h
          · exact absurd (Or.inl h) hne
          · exact absurd (Or.inr h) hne
          · exact h x (List.mem_of_getElem? hv)
        have i1 : (0 : Int) ≤ (j : Int) := by omega
        have i2 : (j : Int) < (e.l.length : Int) := by omega
        have hJ := HJ.out
        have hdr : e.l.drop j = x :: e.l.drop (j + 1) := by
          obtain ⟨hj', rfl⟩ := List.getElem?_eq_some_iff.1 hv
          exact List.drop_eq_getElem_cons hj'
        rw [hdr] at hJ
        have HJ2 := Lib.hid hJ
        clear hJ hdr hv HJ hA3 hfx hxm hne
        obtain ⟨w2, hw2⟩ : ∃ w2, wr.alloc (.cells (x.cells A' c').toArray 29) = w2 := ⟨_, rfl⟩
        have kx2 : Blk w2 wr.heap.size 29 (x.cells A' c').toArray := by rw [← hw2]; exact Blk.new _ _ _
        have hb2 : Below wr.heap.size wr w2 := by rw [← hw2]; exact bl
        have ke2 := keR.below hb2 ler
        have HW2 := Lib.hid hw2
        have hbw2 : Below w.heap.size w w2 := hbr.trans (hb2.mono hzr)
        have hz2 := hb2.size
        have HX2 := Lib.hid ((hx.below _ (hb2.mono hzr)).more (show w.heap.size ≤ w2.heap.size by omega) n)
        have HC2 := Lib.hid ((HCC.out.below hbw2).more (show w.heap.size ≤ w2.heap.size by omega))
        have hown2 := own_below hown hb2
        clear hw2 hx
        obtain ⟨y0, y1, y2, y3, y4, y5⟩ := kx2.six
        go_upto_region 5 with fail
        rw [show wr.alloc (.cells #[.string ⟨x.op.toArray⟩, .int .i64 x.v.k, .int .i64 x.v.i, .string ⟨x.v.s.toArray⟩, .string ⟨x.s.toArray⟩, .slice A' x.l.length c'] 29) = w2 from HW2.out]
        clear HW2 d0 d1 d2 d3 d4 d5 hown
        go_wp2_with fail
        refine (HIH.out n rfl x A' c' A1 c1 cols w2 HFX.out HOX.out HX2.out hcl HC2.out).mono ?_
        obtain ⟨Q, hQ⟩ : ∃ Q, typedE n cols x = Q := ⟨_, rfl⟩
        have hJ2 := HJ2.out
        rw [tyF_cons] at hJ2
        rw [hQ] at hJ2 ⊢
        obtain ⟨tx, ex⟩ := Q
        simp only at hJ2
        rintro en w5 ⟨rfl, hb5⟩
        have hz5 := hb5.size
        have hbw5 := hbw2.trans (hb5.mono (by omega))
        have ke5 := ke2.below hb5 ke2.lt
        have hown5 := own_below hown2 hb5
        clear HJ2 hQ
        by_cases he : ex = 0
        · subst he
          rw [if_pos rfl] at hJ2
          have HJ3 := Lib.hid hJ2
          have hbw5' := hbw5
          clear hJ2 hown2
          go_wp2_with (at_builtin; refine wpList_append_own _ rfl _ _ 23 rfl (w.heap.size + 1) 3 i0 _ 1 8 Tryz.underlying23 hi0 zi0 zi1 zi2 rfl (by decide) _ _ _ rfl (hown5.alloc _) ⟨w5.heap.size, 0, none⟩ 1 1 [.int .i64 tx] rfl rfl ?c1 ?c2 ?c3 ?c4 ?c5 ?_)
          case c1 => exact World.news_of_block (cs := #[.int .i64 tx]) (t := 3) (fr := (0, 0)) (heap_alloc_new w5 _)
          case c2 => exact fun u hu => int_one [tx] u (by simpa using hu)
          case c3 => unfold maxLen; omega
          case c4 => omega
          case c5 => simp; omega
          intro v' w6 hown6 hg6 _
          have hrow : some w.heap.size ≠ u6.ownBlock := fun e1 => by
            have := (hown5.lt _ e1.symm).1
            omega
          have ke6 := (ke5.alloc _).grown hg6 hrow
          have hbw6 : Below w.heap.size w w6 := Below.grown (hbw5.alloc (by omega) _) hg6 (by simp; omega) (fun k hk => by have := (hown5.lt k hk).1; omega)
          clear hown5 hg6
          go_wp2
          go_roundw
          case rel => exact ⟨j + 1, tys ++ [tx], by omega, by go_num, ke6, hbw6, by simpa using hown6, HJ3.out⟩
          case measure => simp [intOf]; omega
        · have be : (ex != 0) = true := by simpa using he
          have HF : Hid (R = (0, ex)) := by show _ = _; rw [← hJ2, if_neg he]; unfold tyTail; rw [if_neg he]
          clear hJ2 he
          go_wp2_with fail
          go_ret2
          exact ⟨by rw [HF.out]; rfl, hbw5⟩
    · obtain rfl : j = e.l.length := by omega
      have b0 : ¬ ((e.l.length : Int) < (e.l.length : Int)) := by omega
      have hR2 : tyOp cols e tys = R := by
        rw [← HJ.out]
        cases n with
        | zero => rfl
        | succ n => unfold tyF; rw [List.drop_length]; rfl
      have htl : tys.length = e.l.length := by have := hown.1; rw [List.length_map] at this; omega
      obtain ⟨A6, c6, rfl, hc6, hm6, hF6⟩ := IF.own hown
      have h6 := hF6.s (Nat.le_refl _)
      have htl2 : tys.length ≤ 2 := by omega
      have HTL := Lib.hid htl
      clear htl
      have hC1 := HCC.out.below hbr
      have hC2 := hC1.more hzr
      have HCW := Lib.hid hC2
      have hpt := HPT.out
      clear HJ hown hF6 hC1 HIH hi0 zi0 zi1 zi2
      by_cases hL : e.op = opLit
      · have HF : Hid (R = (e.v.k, 0)) := by show _ = _; rw [← hR2]; unfold tyOp; rw [if_pos hL]
        unfold opLit at hL
        rw [hL] at q0
        clear hL hR2 hpt
        go_wp2_with fail
        go_ret2
        exact ⟨by rw [HF.out]; rfl, hbr⟩
      by_cases hCo : e.op = opCol
      · obtain ⟨I, hI⟩ : ∃ I, placeF cols e.s = I := ⟨_, rfl⟩
        have HI := Lib.hid hI
        have hR3 : (if I < 0 then ((0 : Int), (4 : Int)) else ((cols.getD I.toNat ⟨[], 0, false⟩).t, 0)) = R := by rw [← hR2, ← hI]; unfold tyOp; rw [if_neg hL, if_pos hCo]
        have hIb : -1 ≤ I ∧ I < cols.length := by rw [← hI]; exact placeF_in cols e.s
        unfold opCol at hCo
        rw [hCo] at q0
        clear hL hCo hR2 hpt hI
        go_wp2_with fail
        refine (placeC_any A1 c1 cols e.s wr hcl HCW.out).mono ?_
        rw [HI.out]
        rintro en w7 ⟨rfl, hb7⟩
        by_cases hneg : I < 0
        · have b1 : decide (I < 0) = true := decide_eq_true hneg
          have HF : Hid (R = (0, 4)) := by show _ = _; rw [← hR3, if_pos hneg]
          clear hR3
          go_wp2_with fail
          go_ret2
          exact ⟨by rw [HF.out]; rfl, hbr.trans (hb7.mono hzr)⟩
        · have b1 : decide (I < 0) = false := decide_eq_false hneg
          obtain ⟨N, rfl⟩ : ∃ N : Nat, I = (N : Int) := ⟨I.toNat, by omega⟩
          have hN : N < cols.length := by omega
          rw [if_neg hneg] at hR3
          have hC7 := HCW.out.below hb7
          obtain ⟨b8, o8, x, rfl, hb8, hv, g0, g1, g2⟩ := hC7.at_ hN
          have HF : Hid (R = (x.t, 0)) := by show _ = _; rw [← hR3, List.getD_eq_getElem?_getD, show ((N : Int).toNat) = N by omega, hv]; rfl
          have i1 : (0 : Int) ≤ (N : Int) := by omega
          have i2 : (N : Int) < (cols.length : Int) := by omega
          clear hR3 hv hIb hneg
          go_wp2_with fail
          go_ret2
          exact ⟨by rw [HF.out]; rfl, hbr.trans (hb7.mono hzr)⟩
      rcases ops_of hpt hL hCo with ⟨hl1, hop | hop⟩ | ⟨hl1, hop | hop | hop | hop | hop | hop⟩
      · clear hL hCo hpt
        obtain ⟨B, hB⟩ : ∃ B, allT tys 3 = B := ⟨_, rfl⟩
        have HB := Lib.hid hB
        have hR3 : (if B then ((3 : Int), (0 : Int)) else (0, 5)) = R := by rw [← hR2, ← hB, tyOp_opNot cols e tys hop]
        have HR3 := Lib.hid hR3
        unfold opNot at hop
        rw [hop] at q0
        clear hB hR2 hR3 hop
        go_wp2_with fail
        refine (allX_any A6 c6 tys 3 _ (by omega) h6).mono ?_
        rw [HB.out]
        rintro en w7 ⟨rfl, hb7⟩
        cases B
        · go_wp2_with fail
          go_ret2
          exact ⟨by rw [← HR3.out]; rfl, hbr.trans (hb7.mono hzr)⟩
        · go_wp2_with fail
          go_ret2
          exact ⟨by rw [← HR3.out]; rfl, hbr.trans (hb7.mono hzr)⟩
      · have HF : Hid (R = (3, 0)) := by show _ = _; rw [← hR2, tyOp_opNull cols e tys hop]
        unfold opNull at hop
        rw [hop] at q0
        clear hL hCo hpt hR2 hop
        go_wp2_with fail
        go_ret2
        exact ⟨by rw [HF.out]; rfl, hbr⟩
      · clear hL hCo hpt
        obtain ⟨B, hB⟩ : ∃ B, allT tys 3 = B := ⟨_, rfl⟩
        have HB := Lib.hid hB
        have hR3 : (if B then ((3 : Int), (0 : Int)) else (0, 5)) = R := by rw [← hR2, ← hB, tyOp_opAnd cols e tys hop]
        have HR3 := Lib.hid hR3
        unfold opAnd at hop
        rw [hop] at q0
        clear hB hR2 hR3 hop
        go_wp2_with fail
        refine (allX_any A6 c6 tys 3 _ (by omega) h6).mono ?_
        rw [HB.out]
        rintro en w7 ⟨rfl, hb7⟩
        cases B
        · go_wp2_with fail
          go_ret2
          exact ⟨by rw [← HR3.out]; rfl, hbr.trans (hb7.mono hzr)⟩
        · go_wp2_with fail
          go_ret2
          exact ⟨by rw [← HR3.out]; rfl, hbr.trans (hb7.mono hzr)⟩
      · clear hL hCo hpt
        obtain ⟨B, hB⟩ : ∃ B, allT tys 3 = B := ⟨_, rfl⟩
        have HB := Lib.hid hB
        have hR3 : (if B then ((3 : Int), (0 : Int)) else (0, 5)) = R := by rw [← hR2, ← hB, tyOp_opOr cols e tys hop]
        have HR3 := Lib.hid hR3
        unfold opOr at hop
        rw [hop] at q0
        clear hB hR2 hR3 hop
        go_wp2_with fail
        refine (allX_any A6 c6 tys 3 _ (by omega) h6).mono ?_
        rw [HB.out]
        rintro en w7 ⟨rfl, hb7⟩
        cases B
        · go_wp2_with fail
          go_ret2
          exact ⟨by rw [← HR3.out]; rfl, hbr.trans (hb7.mono hzr)⟩
        · go_wp2_with fail
          go_ret2
          exact ⟨by rw [← HR3.out]; rfl, hbr.trans (hb7.mono hzr)⟩
      · clear hL hCo hpt
        obtain ⟨x, y, rfl⟩ : ∃ x y, tys = [x, y] := by
          have h2 : tys.length = 2 := by rw [HTL.out, hl1]
          match tys, h2 with
          | [x, y], _ => exact ⟨x, y, rfl⟩
        rw [tyOp_opEq cols e x y hop] at hR2
        obtain ⟨b6, o6, rfl, hb6, hr6⟩ := h6 (by simp)
        have c0 : wr.cell? ⟨b6, o6, none⟩ = some (.int .i64 x) := hr6 0 x rfl
        have c1 : wr.cell? ⟨b6, o6 + 1, none⟩ = some (.int .i64 y) := hr6 1 y rfl
        have HSH : Hid (∀ w' : World, Below wr.heap.size wr w' → (w'.cell? ⟨b6, o6, none⟩ = some (.int .i64 x) ∧ w'.cell? ⟨b6, o6 + 1, none⟩ = some (.int .i64 y))) :=
          fun w' h => ⟨(h.cell (p := ⟨b6, o6, none⟩) hb6).trans c0, (h.cell (p := ⟨b6, o6 + 1, none⟩) hb6).trans c1⟩
        unfold opEq at hop
        rw [hop] at q0
        clear hop hr6 hb6 htl2
        by_cases g1 : x = y
        · have e1 : (x == y) = true := by simpa using g1
          have HF : Hid (R = (3, 0)) := by show _ = _; rw [← hR2]; simp [g1]
          clear g1 hR2
          go_upto_region 25 with fail
          clear c0 c1
          refine wp_region_held_drew (S := (fun w' => w'.cell? ⟨b6, o6, none⟩ = some (.int .i64 x) ∧ w'.cell? ⟨b6, o6 + 1, none⟩ = some (.int .i64 y))) (by kernel_rfl) ?_ (fun hHeld => ?_)
          · try dsimp only
            exact HSH.out _ (by exact bl)
          refine wpAnyT_start [0, 1, 2, 3, 4, 5, 6, 7] ?_
          iterate 8
            refine wpAnyT_cons (v := ?_) rfl (by kernel_rfl) (by kernel_rfl) (by kernel_rfl) (fun _ _ _ h => h) (Or.inl ⟨by rfl, ?_⟩) (by assumption) ?_
            rotate_left
            · intro wq hSw
              try dsimp only at hSw
              go_simp
              try with_reducible rfl
            try simp only [Act.put, List.getElem_toArray, List.getElem_cons_zero, List.getElem_cons_succ, List.setIfInBounds_toArray, List.set_cons_zero, List.set_cons_succ]
          refine wpAnyT_nil ?_
          refine wpAnyT_start [8, 9, 10, 11] ?_
          iterate 4
            refine wpAnyT_cons (v := undef) rfl (by kernel_rfl) (by kernel_rfl) (by kernel_rfl) (fun _ _ _ h => h) (Or.inr ⟨by rfl, rfl⟩) (by assumption) ?_
            try simp only [Act.put, List.getElem_toArray, List.getElem_cons_zero, List.getElem_cons_succ, List.setIfInBounds_toArray, List.set_cons_zero, List.set_cons_succ]
          refine wpAnyT_nil ?_
          refine wpAnyT_start [12, 13] ?_
          iterate 2
            refine wpAnyT_cons (v := ?_) rfl (by kernel_rfl) (by kernel_rfl) (by kernel_rfl) (fun _ _ _ h => h) (Or.inl ⟨by rfl, ?_⟩) (by assumption) ?_
            rotate_left
            · intro wq hSw
              try dsimp only at hSw
              go_simp
              try with_reducible rfl
            try simp only [Act.put, List.getElem_toArray, List.getElem_cons_zero, List.getElem_cons_succ, List.setIfInBounds_toArray, List.set_cons_zero, List.set_cons_succ]
          refine wpAnyT_nil ?_
          refine wpAnyT_start [14, 15, 16, 17] ?_
          iterate 4
            refine wpAnyT_cons (v := undef) rfl (by kernel_rfl) (by kernel_rfl) (by kernel_rfl) (fun _ _ _ h => h) (Or.inr ⟨by rfl, rfl⟩) (by assumption) ?_
            try simp only [Act.put, List.getElem_toArray, List.getElem_cons_zero, List.getElem_cons_succ, List.setIfInBounds_toArray, List.set_cons_zero, List.set_cons_succ]
          refine wpAnyT_nil ?_
          refine wpAnyT_start [18, 19] ?_
          iterate 2
            refine wpAnyT_cons (v := ?_) rfl (by kernel_rfl) (by kernel_rfl) (by kernel_rfl) (fun _ _ _ h => h) (Or.inl ⟨by rfl, ?_⟩) (by assumption) ?_
            rotate_left
            · intro wq hSw
              try dsimp only at hSw
              go_simp
              try with_reducible rfl
            try simp only [Act.put, List.getElem_toArray, List.getElem_cons_zero, List.getElem_cons_succ, List.setIfInBounds_toArray, List.set_cons_zero, List.set_cons_succ]
          refine wpAnyT_nil ?_
          refine wpAnyH_done (by kernel_rfl) ?_ _
          go_wp2_with fail
          go_ret2
          exact ⟨by rw [HF.out]; rfl, hbr.drew⟩
        have e1 : (x == y) = false := by simpa using g1
        by_cases g2 : x = 0
        · have e2 : (x == 0) = true := by simpa using g2
          have HF : Hid (R = (3, 0)) := by show _ = _; rw [← hR2]; simp [g2]
          clear g1 g2 hR2
          go_upto_region 25 with fail
          clear c0 c1
          refine wp_region_held_drew (S := (fun w' => w'.cell? ⟨b6, o6, none⟩ = some (.int .i64 x) ∧ w'.cell? ⟨b6, o6 + 1, none⟩ = some (.int .i64 y))) (by kernel_rfl) ?_ (fun hHeld => ?_)
          · try dsimp only
            exact HSH.out _ (by exact bl)
          refine wpAnyT_start [0, 1, 2, 3, 4, 5, 6, 7, 8, 9, 10, 11, 12, 13] ?_
          iterate 14
            refine wpAnyT_cons (v := ?_) rfl (by kernel_rfl) (by kernel_rfl) (by kernel_rfl) (fun _ _ _ h => h) (Or.inl ⟨by rfl, ?_⟩) (by assumption) ?_
            rotate_left
            · intro wq hSw
              try dsimp only at hSw
              go_simp
              try with_reducible rfl
            try simp only [Act.put, List.getElem_toArray, List.getElem_cons_zero, List.getElem_cons_succ, List.setIfInBounds_toArray, List.set_cons_zero, List.set_cons_succ]
          refine wpAnyT_nil ?_
          refine wpAnyT_start [14, 15, 16, 17] ?_
          iterate 4
            refine wpAnyT_cons (v := undef) rfl (by kernel_rfl) (by kernel_rfl) (by kernel_rfl) (fun _ _ _ h => h) (Or.inr ⟨by rfl, rfl⟩) (by assumption) ?_
            try simp only [Act.put, List.getElem_toArray, List.getElem_cons_zero, List.getElem_cons_succ, List.setIfInBounds_toArray, List.set_cons_zero, List.set_cons_succ]
          refine wpAnyT_nil ?_
          refine wpAnyT_start [18, 19] ?_
          iterate 2
            refine wpAnyT_cons (v := ?_) rfl (by kernel_rfl) (by kernel_rfl) (by kernel_rfl) (fun _ _ _ h => h) (Or.inl ⟨by rfl, ?_⟩) (by assumption) ?_
            rotate_left
            · intro wq hSw
              try dsimp only at hSw
              go_simp
              try with_reducible rfl
            try simp only [Act.put, List.getElem_toArray, List.getElem_cons_zero, List.getElem_cons_succ, List.setIfInBounds_toArray, List.set_cons_zero, List.set_cons_succ]
          refine wpAnyT_nil ?_
          refine wpAnyH_done (by kernel_rfl) ?_ _
          go_wp2_with fail
          go_ret2
          exact ⟨by rw [HF.out]; rfl, hbr.drew⟩
        have e2 : (x == 0) = false := by simpa using g2
        by_cases g3 : y = 0
        · have e3 : (y == 0) = true := by simpa using g3
          have HF : Hid (R = (3, 0)) := by show _ = _; rw [← hR2]; simp [g3]
          clear g1 g2 g3 hR2
          go_upto_region 25 with fail
          clear c0 c1
          refine wp_region_held_drew (S := (fun w' => w'.cell? ⟨b6, o6, none⟩ = some (.int .i64 x) ∧ w'.cell? ⟨b6, o6 + 1, none⟩ = some (.int .i64 y))) (by kernel_rfl) ?_ (fun hHeld => ?_)
          · try dsimp only
            exact HSH.out _ (by exact bl)
          refine wpAnyT_start [0, 1, 2, 3, 4, 5, 6, 7, 8, 9, 10, 11, 12, 13, 14, 15, 16, 17, 18, 19] ?_
          iterate 20
            refine wpAnyT_cons (v := ?_) rfl (by kernel_rfl) (by kernel_rfl) (by kernel_rfl) (fun _ _ _ h => h) (Or.inl ⟨by rfl, ?_⟩) (by assumption) ?_
            rotate_left
            · intro wq hSw
              try dsimp only at hSw
              go_simp
              try with_reducible rfl
            try simp only [Act.put, List.getElem_toArray, List.getElem_cons_zero, List.getElem_cons_succ, List.setIfInBounds_toArray, List.set_cons_zero, List.set_cons_succ]
          refine wpAnyT_nil ?_
          refine wpAnyH_done (by kernel_rfl) ?_ _
          go_wp2_with fail
          go_ret2
          exact ⟨by rw [HF.out]; rfl, hbr.drew⟩
        · have e3 : (y == 0) = false := by simpa using g3
          have HF : Hid (R = (0, 5)) := by show _ = _; rw [← hR2]; simp [g1, g2, g3]
          clear g1 g2 g3 hR2
          go_upto_region 25 with fail
          clear c0 c1
          refine wp_region_held_drew (S := (fun w' => w'.cell? ⟨b6, o6, none⟩ = some (.int .i64 x) ∧ w'.cell? ⟨b6, o6 + 1, none⟩ = some (.int .i64 y))) (by kernel_rfl) ?_ (fun hHeld => ?_)
          · try dsimp only
            exact HSH.out _ (by exact bl)
          refine wpAnyT_start [0, 1, 2, 3, 4, 5, 6, 7, 8, 9, 10, 11, 12, 13, 14, 15, 16, 17, 18, 19] ?_
          iterate 20
            refine wpAnyT_cons (v := ?_) rfl (by kernel_rfl) (by kernel_rfl) (by kernel_rfl) (fun _ _ _ h => h) (Or.inl ⟨by rfl, ?_⟩) (by assumption) ?_
            rotate_left
            · intro wq hSw
              try dsimp only at hSw
              go_simp
              try with_reducible rfl
            try simp only [Act.put, List.getElem_toArray, List.getElem_cons_zero, List.getElem_cons_succ, List.setIfInBounds_toArray, List.set_cons_zero, List.set_cons_succ]
          refine wpAnyT_nil ?_
          refine wpAnyH_done (by kernel_rfl) ?_ _
          go_wp2_with fail
          go_ret2
          exact ⟨by rw [HF.out]; rfl, hbr.drew⟩
      · clear hL hCo hpt
        obtain ⟨x, y, rfl⟩ : ∃ x y, tys = [x, y] := by
          have h2 : tys.length = 2 := by rw [HTL.out, hl1]
          match tys, h2 with
          | [x, y], _ => exact ⟨x, y, rfl⟩
        rw [tyOp_opLt cols e x y hop] at hR2
        obtain ⟨b6, o6, rfl, hb6, hr6⟩ := h6 (by simp)
        have c0 : wr.cell? ⟨b6, o6, none⟩ = some (.int .i64 x) := hr6 0 x rfl
        have c1 : wr.cell? ⟨b6, o6 + 1, none⟩ = some (.int .i64 y) := hr6 1 y rfl
        have HSH : Hid (∀ w' : World, Below wr.heap.size wr w' → (w'.cell? ⟨b6, o6, none⟩ = some (.int .i64 x) ∧ w'.cell? ⟨b6, o6 + 1, none⟩ = some (.int .i64 y))) :=
          fun w' h => ⟨(h.cell (p := ⟨b6, o6, none⟩) hb6).trans c0, (h.cell (p := ⟨b6, o6 + 1, none⟩) hb6).trans c1⟩
        unfold opLt at hop
        rw [hop] at q0
        clear hop hr6 hb6 htl2
        by_cases g1 : x = y
        · have e1 : (x == y) = true := by simpa using g1
          have HF : Hid (R = (3, 0)) := by show _ = _; rw [← hR2]; simp [g1]
          clear g1 hR2
          go_upto_region 25 with fail
          clear c0 c1
          refine wp_region_held_drew (S := (fun w' => w'.cell? ⟨b6, o6, none⟩ = some (.int .i64 x) ∧ w'.cell? ⟨b6, o6 + 1, none⟩ = some (.int .i64 y))) (by kernel_rfl) ?_ (fun hHeld => ?_)
          · try dsimp only
            exact HSH.out _ (by exact bl)
          refine wpAnyT_start [0, 1, 2, 3, 4, 5, 6, 7] ?_
          iterate 8
            refine wpAnyT_cons (v := ?_) rfl (by kernel_rfl) (by kernel_rfl) (by kernel_rfl) (fun _ _ _ h => h) (Or.inl ⟨by rfl, ?_⟩) (by assumption) ?_
            rotate_left
            · intro wq hSw
              try dsimp only at hSw
              go_simp
              try with_reducible rfl
            try simp only [Act.put, List.getElem_toArray, List.getElem_cons_zero, List.getElem_cons_succ, List.setIfInBounds_toArray, List.set_cons_zero, List.set_cons_succ]
          refine wpAnyT_nil ?_
          refine wpAnyT_start [8, 9, 10, 11] ?_
          iterate 4
            refine wpAnyT_cons (v := undef) rfl (by kernel_rfl) (by kernel_rfl) (by kernel_rfl) (fun _ _ _ h => h) (Or.inr ⟨by rfl, rfl⟩) (by assumption) ?_
            try simp only [Act.put, List.getElem_toArray, List.getElem_cons_zero, List.getElem_cons_succ, List.setIfInBounds_toArray, List.set_cons_zero, List.set_cons_succ]
          refine wpAnyT_nil ?_
          refine wpAnyT_start [12, 13] ?_
          iterate 2
            refine wpAnyT_cons (v := ?_) rfl (by kernel_rfl) (by kernel_rfl) (by kernel_rfl) (fun _ _ _ h => h) (Or.inl ⟨by rfl, ?_⟩) (by assumption) ?_
            rotate_left
            · intro wq hSw
              try dsimp only at hSw
              go_simp
              try with_reducible rfl
            try simp only [Act.put, List.getElem_toArray, List.getElem_cons_zero, List.getElem_cons_succ, List.setIfInBounds_toArray, List.set_cons_zero, List.set_cons_succ]
          refine wpAnyT_nil ?_
          refine wpAnyT_start [14, 15, 16, 17] ?_
          iterate 4
            refine wpAnyT_cons (v := undef) rfl (by kernel_rfl) (by kernel_rfl) (by kernel_rfl) (fun _ _ _ h => h) (Or.inr ⟨by rfl, rfl⟩) (by assumption) ?_
            try simp only [Act.put, List.getElem_toArray, List.getElem_cons_zero, List.getElem_cons_succ, List.setIfInBounds_toArray, List.set_cons_zero, List.set_cons_succ]
          refine wpAnyT_nil ?_
          refine wpAnyT_start [18, 19] ?_
          iterate 2
            refine wpAnyT_cons (v := ?_) rfl (by kernel_rfl) (by kernel_rfl) (by kernel_rfl) (fun _ _ _ h => h) (Or.inl ⟨by rfl, ?_⟩) (by assumption) ?_
            rotate_left
            · intro wq hSw
              try dsimp only at hSw
              go_simp
              try with_reducible rfl
            try simp only [Act.put, List.getElem_toArray, List.getElem_cons_zero, List.getElem_cons_succ, List.setIfInBounds_toArray, List.set_cons_zero, List.set_cons_succ]
          refine wpAnyT_nil ?_
          refine wpAnyH_done (by kernel_rfl) ?_ _
          go_wp2_with fail
          go_ret2
          exact ⟨by rw [HF.out]; rfl, hbr.drew⟩
        have e1 : (x == y) = false := by simpa using g1
        by_cases g2 : x = 0
        · have e2 : (x == 0) = true := by simpa using g2
          have HF : Hid (R = (3, 0)) := by show _ = _; rw [← hR2]; simp [g2]
          clear g1 g2 hR2
          go_upto_region 25 with fail
          clear c0 c1
          refine wp_region_held_drew (S := (fun w' => w'.cell? ⟨b6, o6, none⟩ = some (.int .i64 x) ∧ w'.cell? ⟨b6, o6 + 1, none⟩ = some (.int .i64 y))) (by kernel_rfl) ?_ (fun hHeld => ?_)
          · try dsimp only
            exact HSH.out _ (by exact bl)
          refine wpAnyT_start [0, 1, 2, 3, 4, 5, 6, 7, 8, 9, 10, 11, 12, 13] ?_
          iterate 14
            refine wpAnyT_cons (v := ?_) rfl (by kernel_rfl) (by kernel_rfl) (by kernel_rfl) (fun _ _ _ h => h) (Or.inl ⟨by rfl, ?_⟩) (by assumption) ?_
            rotate_left
            · intro wq hSw
              try dsimp only at hSw
              go_simp
              try with_reducible rfl
            try simp only [Act.put, List.getElem_toArray, List.getElem_cons_zero, List.getElem_cons_succ, List.setIfInBounds_toArray, List.set_cons_zero, List.set_cons_succ]
          refine wpAnyT_nil ?_
          refine wpAnyT_start [14, 15, 16, 17] ?_
          iterate 4
            refine wpAnyT_cons (v := undef) rfl (by kernel_rfl) (by kernel_rfl) (by kernel_rfl) (fun _ _ _ h => h) (Or.inr ⟨by rfl, rfl⟩) (by assumption) ?_
            try simp only [Act.put, List.getElem_toArray, List.getElem_cons_zero, List.getElem_cons_succ, List.setIfInBounds_toArray, List.set_cons_zero, List.set_cons_succ]
          refine wpAnyT_nil ?_
          refine wpAnyT_start [18, 19] ?_
          iterate 2
            refine wpAnyT_cons (v := ?_) rfl (by kernel_rfl) (by kernel_rfl) (by kernel_rfl) (fun _ _ _ h => h) (Or.inl ⟨by rfl, ?_⟩) (by assumption) ?_
            rotate_left
            · intro wq hSw
              try dsimp only at hSw
              go_simp
              try with_reducible rfl
            try simp only [Act.put, List.getElem_toArray, List.getElem_cons_zero, List.getElem_cons_succ, List.setIfInBounds_toArray, List.set_cons_zero, List.set_cons_succ]
          refine wpAnyT_nil ?_
          refine wpAnyH_done (by kernel_rfl) ?_ _
          go_wp2_with fail
          go_ret2
          exact ⟨by rw [HF.out]; rfl, hbr.drew⟩
        have e2 : (x == 0) = false := by simpa using g2
        by_cases g3 : y = 0
        · have e3 : (y == 0) = true := by simpa using g3
          have HF : Hid (R = (3, 0)) := by show _ = _; rw [← hR2]; simp [g3]
          clear g1 g2 g3 hR2
          go_upto_region 25 with fail
          clear c0 c1
          refine wp_region_held_drew (S := (fun w' => w'.cell? ⟨b6, o6, none⟩ = some (.int .i64 x) ∧ w'.cell? ⟨b6, o6 + 1, none⟩ = some (.int .i64 y))) (by kernel_rfl) ?_ (fun hHeld => ?_)
          · try dsimp only
            exact HSH.out _ (by exact bl)
          refine wpAnyT_start [0, 1, 2, 3, 4, 5, 6, 7, 8, 9, 10, 11, 12, 13, 14, 15, 16, 17, 18, 19] ?_
          iterate 20
            refine wpAnyT_cons (v := ?_) rfl (by kernel_rfl) (by kernel_rfl) (by kernel_rfl) (fun _ _ _ h => h) (Or.inl ⟨by rfl, ?_⟩) (by assumption) ?_
            rotate_left
            · intro wq hSw
              try dsimp only at hSw
              go_simp
              try with_reducible rfl
            try simp only [Act.put, List.getElem_toArray, List.getElem_cons_zero, List.getElem_cons_succ, List.setIfInBounds_toArray, List.set_cons_zero, List.set_cons_succ]
          refine wpAnyT_nil ?_
          refine wpAnyH_done (by kernel_rfl) ?_ _
          go_wp2_with fail
          go_ret2
          exact ⟨by rw [HF.out]; rfl, hbr.drew⟩
        · have e3 : (y == 0) = false := by simpa using g3
          have HF : Hid (R = (0, 5)) := by show _ = _; rw [← hR2]; simp [g1, g2, g3]
          clear g1 g2 g3 hR2
          go_upto_region 25 with fail
          clear c0 c1
          refine wp_region_held_drew (S := (fun w' => w'.cell? ⟨b6, o6, none⟩ = some (.int .i64 x) ∧ w'.cell? ⟨b6, o6 + 1, none⟩ = some (.int .i64 y))) (by kernel_rfl) ?_ (fun hHeld => ?_)
          · try dsimp only
            exact HSH.out _ (by exact bl)
          refine wpAnyT_start [0, 1, 2, 3, 4, 5, 6, 7, 8, 9, 10, 11, 12, 13, 14, 15, 16, 17, 18, 19] ?_
          iterate 20
            refine wpAnyT_cons (v := ?_) rfl (by kernel_rfl) (by kernel_rfl) (by kernel_rfl) (fun _ _ _ h => h) (Or.inl ⟨by rfl, ?_⟩) (by assumption) ?_
            rotate_left
            · intro wq hSw
              try dsimp only at hSw
              go_simp
              try with_reducible rfl
            try simp only [Act.put, List.getElem_toArray, List.getElem_cons_zero, List.getElem_cons_succ, List.setIfInBounds_toArray, List.set_cons_zero, List.set_cons_succ]
          refine wpAnyT_nil ?_
          refine wpAnyH_done (by kernel_rfl) ?_ _
          go_wp2_with fail
          go_ret2
          exact ⟨by rw [HF.out]; rfl, hbr.drew⟩
      · clear hL hCo hpt
        obtain ⟨B, hB⟩ : ∃ B, allT tys 1 = B := ⟨_, rfl⟩
        have HB := Lib.hid hB
        have hR3 : (if B then ((1 : Int), (0 : Int)) else (0, 5)) = R := by rw [← hR2, ← hB, tyOp_opPlus cols e tys hop]
        have HR3 := Lib.hid hR3
        unfold opPlus at hop
        rw [hop] at q0
        clear hB hR2 hR3 hop
        go_wp2_with fail
        refine (allX_any A6 c6 tys 1 _ (by omega) h6).mono ?_
        rw [HB.out]
        rintro en w7 ⟨rfl, hb7⟩
        cases B
        · go_wp2_with fail
          go_ret2
          exact ⟨by rw [← HR3.out]; rfl, hbr.trans (hb7.mono hzr)⟩
        · go_wp2_with fail
          go_ret2
          exact ⟨by rw [← HR3.out]; rfl, hbr.trans (hb7.mono hzr)⟩
      · clear hL hCo hpt
        obtain ⟨B, hB⟩ : ∃ B, allT tys 1 = B := ⟨_, rfl⟩
        have HB := Lib.hid hB
        have hR3 : (if B then ((1 : Int), (0 : Int)) else (0, 5)) = R := by rw [← hR2, ← hB, tyOp_opMinus cols e tys hop]
        have HR3 := Lib.hid hR3
        unfold opMinus at hop
        rw [hop] at q0
        clear hB hR2 hR3 hop
        go_wp2_with fail
        refine (allX_any A6 c6 tys 1 _ (by omega) h6).mono ?_
        rw [HB.out]
        rintro en w7 ⟨rfl, hb7⟩
        cases B
        · go_wp2_with fail
          go_ret2
          exact ⟨by rw [← HR3.out]; rfl, hbr.trans (hb7.mono hzr)⟩
        · go_wp2_with fail
          go_ret2
          exact ⟨by rw [← HR3.out]; rfl, hbr.trans (hb7.mono hzr)⟩

theorem tyE_any (n : Nat) : TyC n := by
  induction n with
  | zero => exact ty_step 0 (fun m h => by omega)
  | succ n ih =>
    refine ty_step (n + 1) (fun m h => ?_)
    obtain rfl : n = m := by omega
    exact ih

set_option maxRecDepth 100000 in
set_option maxHeartbeats 2000000 in
theorem typeX_any (n : Nat) (e : Ex) (A : Option Addr) (c : Nat) (A1 : Option Addr) (c1 : Nat) (cols : List Col) (w : World) (hf : e.fit 1000) (hA : ExS 1000 n w w.heap.size A e.l)
    (hcl : cols.length ≤ 1000000) (hC : ColS w w.heap.size A1 cols) : Calls Tryz.prog 23 #[.agg (e.cells A c).toArray, .slice A1 cols.length c1] w (RetTy (typeX cols e) w) := by
  rw [← type_X n cols e (ExS.hgt n hA)]
  obtain ⟨R, hR⟩ : ∃ R, typeF n cols e = R := ⟨_, rfl⟩
  rw [hR]
  have HR := Lib.hid hR
  have HF := Lib.hid hf
  clear hR hf
  obtain ⟨w0, hw0⟩ : ∃ w0, w.alloc (.cells (e.cells A c).toArray 29) = w0 := ⟨_, rfl⟩
  have ke : Blk w0 w.heap.size 29 (e.cells A c).toArray := by rw [← hw0]; exact Blk.new _ _ _
  have hb0 : Below w.heap.size w w0 := by rw [← hw0]; exact bl
  have HW := Lib.hid hw0
  clear hw0
  have hz0 := hb0.size
  have HALL : Hid (∀ w' : World, Below w.heap.size w w' → ExS 1000 n w' w'.heap.size A e.l ∧ ColS w' w'.heap.size A1 cols) := fun w' h =>
    ⟨(hA.below n h).more h.size n, (hC.below h).more h.size⟩
  clear hA hC
  obtain ⟨q0, q1, q2, q3, q4, q5⟩ := ke.six
  go_enter Tryz.func23, Tryz.ntmps23
  go_upto_region 1 with fail
  rw [HW.out]
  clear HW
  dsimp only [Ex.cells]
  go_wp2_with fail
  refine (mayX_any n e A c w0 HF.out (HALL.out _ hb0).1).mono ?_
  rintro en w1 ⟨rfl, hb1⟩
  have hbw1 := hb0.trans (hb1.mono hz0)
  have ke1 := ke.below hb1 ke.lt
  have hz1 := hb1.size
  clear q0 q1 q2 q3 q4 q5
  obtain ⟨q0, q1, q2, q3, q4, q5⟩ := ke1.six
  cases hm : may n e
  · have HF2 : Hid (R = (0, 1)) := by show _ = _; rw [← HR.out]; unfold typeF; rw [hm]; rfl
    clear hm
    go_wp2_with fail
    go_ret2
    exact ⟨by rw [HF2.out]; rfl, hbw1⟩
  · have HF2 : Hid (R = typedE n cols e) := by show _ = _; rw [← HR.out]; unfold typeF; rw [hm]; rfl
    have HOK := Lib.hid (mayE_ok n 1 0 e hm)
    clear hm
    go_wp2_with fail
    refine (tyE_any n e A c A1 c1 cols w1 HF.out HOK.out (HALL.out _ hbw1).1 hcl (HALL.out _ hbw1).2).mono ?_
    rw [← HF2.out]
    rintro en w2 ⟨rfl, hb2⟩
    go_wp2_with fail
    go_ret2
    exact ⟨rfl, hbw1.trans (hb2.mono (by omega))⟩

end Go.Proofs.YtdhjogmkhbpcgaaGreat
