/- expr.Eval as a plain function. Condition: as (expr.over).value. Contracts of expr.May, expr.Eval, expr.Type for an expression in memory, at any later world; plain laws on what an expression comes to. Tables with rows in memory. Nothing of the program stands here. -/
import Derived.Test.YtdhjogmkhbpcgaaGreatTake
import Derived.Test.YtdhjogmkhbpcgaaGreatExpr34M
import Derived.RegionTactic
import Derived.Deep.RegionHeld3
import Derived.Test.YtdhjogmkhbpcgaaGreatFewM
import Derived.Test.YtdhjogmkhbpcgaaGreatFew2M
import Derived.Test.YtdhjogmkhbpcgaaGreatExprM
namespace Go.Proofs.YtdhjogmkhbpcgaaGreat
open Go.RowKit Go.ChangeMaps

attribute [local go_sem] ByteArray.extract_mk ba_get ba_append
attribute [local go_sem ↓] Go.wp_at_zero Go.wp_at_succ run_eql_V run_neq_V

set_option maxRecDepth 100000 in
set_option maxHeartbeats 2000000 in
theorem evalX_any (n : Nat) (e : Ex) (A : Option Addr) (c : Nat) (A1 A2 : Option Addr) (c1 c2 : Nat) (cols : List Col) (row : List V) (w : World) (hf : e.fit 1000) (hA : ExS 1000 n w w.heap.size A e.l)
    (hcl : cols.length ≤ 1000000) (hrl : row.length ≤ 1000000) (hC : ColS w w.heap.size A1 cols) (hV : VS w w.heap.size A2 row) (hri : ∀ x ∈ row, fitI x.i) :
    Calls Tryz.prog 24 #[.agg (e.cells A c).toArray, .slice A1 cols.length c1, .slice A2 row.length c2] w (Ret (.agg #[.int .i64 (eval n cols row e).k, .int .i64 (eval n cols row e).i, .string ⟨(eval n cols row e).s.toArray⟩]) w) := by
  obtain ⟨R, hR⟩ : ∃ R, eval n cols row e = R := ⟨_, rfl⟩
  rw [hR]
  have HR := Lib.hid hR
  have HF := Lib.hid hf
  have HRI := Lib.hid hri
  clear hR hf hri
  obtain ⟨w0, hw0⟩ : ∃ w0, (w.alloc (.cells (e.cells A c).toArray 29)).alloc (.cells #[.int .i64 0, .int .i64 0, .string ⟨#[]⟩] 26) = w0 := ⟨_, rfl⟩
  have ke : Blk w0 w.heap.size 29 (e.cells A c).toArray := by rw [← hw0]; exact (Blk.new _ _ _).alloc _
  have kr : Blk w0 (w.heap.size + 1) 26 #[.int .i64 0, .int .i64 0, .string ⟨#[]⟩] := by rw [← hw0]; exact Blk.new' _ _ _ _ (by simp)
  have hb0 : Below w.heap.size w w0 := by rw [← hw0]; exact bl
  have HW := Lib.hid hw0
  clear hw0
  have hz0 := hb0.size
  have lr := kr.lt
  have HALL : Hid (∀ w' : World, Below w.heap.size w w' → ExS 1000 n w' w'.heap.size A e.l ∧ ColS w' w'.heap.size A1 cols ∧ VS w' w'.heap.size A2 row) := fun w' h =>
    ⟨(hA.below n h).more h.size n, (hC.below h).more h.size, (hV.below h).more h.size⟩
  clear hA hC hV
  obtain ⟨q0, q1, q2, q3, q4, q5⟩ := ke.six
  go_enter Tryz.func24, Tryz.ntmps24
  go_upto_region 1 with fail
  rw [HW.out]
  clear HW
  go_wp2_with fail
  refine (mayX_any n e A c w0 HF.out (HALL.out _ hb0).1).mono ?_
  rintro en w1 ⟨rfl, hb1⟩
  have hbw1 := hb0.trans (hb1.mono hz0)
  have ke1 := ke.below hb1 ke.lt
  have kr1 := kr.below hb1 lr
  have lr1 := kr1.lt
  have le1 := ke1.lt
  clear q0 q1 q2 q3 q4 q5
  obtain ⟨⟨r0, r1, r2⟩, t0, t1, t2⟩ := kr1.three
  cases hm : may n e
  · have HF2 : Hid (R = V.zero) := by show _ = _; rw [← HR.out]; unfold eval; rw [hm]; rfl
    clear hm
    go_wp2_with fail
    refine bodyPost_ret (v := .agg #[.int .i64 (R).k, .int .i64 (R).i, .string ⟨(R).s.toArray⟩]) (by rw [HF2.out]; simp [results, Tryz.results24, go_sem, *, V.zero]) rfl ⟨rfl, ?_⟩
    exact bl
  · have HF2 : Hid (R = evalE n cols row e) := by show _ = _; rw [← HR.out]; unfold eval; rw [hm]; rfl
    have HOK := Lib.hid (mayE_ok n 1 0 e hm)
    clear hm r0 r1 r2 t0 t1 t2
    have HSH : Hid (∀ w' : World, Below w1.heap.size w1 w' → (w'.cell? ⟨w.heap.size, 0, none⟩ = some (.string ⟨e.op.toArray⟩) ∧ w'.cell? ⟨w.heap.size, 1, none⟩ = some (.int .i64 e.v.k) ∧ w'.cell? ⟨w.heap.size, 2, none⟩ = some (.int .i64 e.v.i) ∧ w'.cell? ⟨w.heap.size, 3, none⟩ = some (.string ⟨e.v.s.toArray⟩) ∧ w'.cell? ⟨w.heap.size, 4, none⟩ = some (.string ⟨e.s.toArray⟩) ∧ w'.cell? ⟨w.heap.size, 5, none⟩ = some (.slice A e.l.length c))) :=
      fun w' h => (ke1.below h le1).six
    go_upto_region 3 with fail
    refine wp_region_held_drew (S := (fun w' => w'.cell? ⟨w.heap.size, 0, none⟩ = some (.string ⟨e.op.toArray⟩) ∧ w'.cell? ⟨w.heap.size, 1, none⟩ = some (.int .i64 e.v.k) ∧ w'.cell? ⟨w.heap.size, 2, none⟩ = some (.int .i64 e.v.i) ∧ w'.cell? ⟨w.heap.size, 3, none⟩ = some (.string ⟨e.v.s.toArray⟩) ∧ w'.cell? ⟨w.heap.size, 4, none⟩ = some (.string ⟨e.s.toArray⟩) ∧ w'.cell? ⟨w.heap.size, 5, none⟩ = some (.slice A e.l.length c))) (by kernel_rfl) ?_ (fun hHeld => ?_)
    · try dsimp only
      exact Blk.six (t := 29) (by ((repeat' (first | with_reducible assumption | with_reducible refine Blk.drew ?_ | with_reducible refine Blk.drewN ?_ _ | with_reducible refine Blk.set3 ?_ _ _ _ | with_reducible refine Blk.far ?_ ?_ _ | ((with_reducible refine Blk.new' _ _ _ _ ?_) <;> (first | (simp; done) | (simp; omega) | omega) <;> done) | with_reducible refine Blk.alloc ?_ _ | with_reducible refine Blk3.drew ?_ | with_reducible refine Blk3.drewN ?_ _ | ((with_reducible refine Blk3.new' _ _ _ _ _ _ ?_) <;> (first | (simp; done) | (simp; omega) | omega) <;> done) | with_reducible refine Blk3.alloc ?_ _ | with_reducible refine Blk3.far ?_ ?_ _ | with_reducible refine Blk3.below ?_ (by assumption) ?_ | with_reducible refine Blk.below ?_ (by assumption) ?_)) <;> (first | (simp; done) | (simp; omega) | omega)))
    refine wpAnyT_start [0, 1, 4] ?_
    iterate 3
      refine wpAnyT_cons (v := ?_) rfl (by kernel_rfl) (by kernel_rfl) (by kernel_rfl) (fun _ _ _ h => h) (Or.inl ⟨by rfl, ?_⟩) (by assumption) ?_
      rotate_left
      · intro wq hSw
        try dsimp only at hSw
        go_simp
        try with_reducible rfl
      try simp only [Act.put, List.getElem_toArray, List.getElem_cons_zero, List.getElem_cons_succ, List.setIfInBounds_toArray, List.set_cons_zero, List.set_cons_succ]
    refine wpAnyT_nil ?_
    refine wpAnyH_ready (rs := [2]) (by kernel_rfl) (by simp) ?_
    refine AllReadyH.cons rfl (fun K hK => ?_) AllReadyH.nil
    go_simp
    refine (doesM_any _).mono ?_ <;> rintro en w5 ⟨rfl, hm5, hb5⟩ <;> have hz5 := hb5.size <;> have hb15 : Below w1.heap.size w1 w5 := (Below.drew (Below.refl _ w1)).trans hb5 <;> have ke5 := ke1.below hb15 le1
    go_wp2_with fail
    refine hK.out _ _ ?_ (fun hHeld => ?_)
    · try dsimp only
      exact Blk.six (t := 29) (by ((repeat' (first | with_reducible assumption | with_reducible refine Blk.drew ?_ | with_reducible refine Blk.drewN ?_ _ | with_reducible refine Blk.set3 ?_ _ _ _ | with_reducible refine Blk.far ?_ ?_ _ | ((with_reducible refine Blk.new' _ _ _ _ ?_) <;> (first | (simp; done) | (simp; omega) | omega) <;> done) | with_reducible refine Blk.alloc ?_ _ | with_reducible refine Blk3.drew ?_ | with_reducible refine Blk3.drewN ?_ _ | ((with_reducible refine Blk3.new' _ _ _ _ _ _ ?_) <;> (first | (simp; done) | (simp; omega) | omega) <;> done) | with_reducible refine Blk3.alloc ?_ _ | with_reducible refine Blk3.far ?_ ?_ _ | with_reducible refine Blk3.below ?_ (by assumption) ?_ | with_reducible refine Blk.below ?_ (by assumption) ?_)) <;> (first | (simp; done) | (simp; omega) | omega)))
    clear hK K
    try simp only [Act.put, List.getElem_toArray, List.getElem_cons_zero, List.getElem_cons_succ, List.setIfInBounds_toArray, List.set_cons_zero, List.set_cons_succ]
    refine wpAnyH_take (i := 3) (v := ?_) rfl (by kernel_rfl) (by kernel_rfl) (by kernel_rfl) (fun _ _ _ h => h) (Or.inl ⟨by rfl, ?_⟩) (by assumption) ?_
    rotate_left
    · intro wq hSw
      try dsimp only at hSw
      go_simp
      try with_reducible rfl
    try simp only [Act.put, List.getElem_toArray, List.getElem_cons_zero, List.getElem_cons_succ, List.setIfInBounds_toArray, List.set_cons_zero, List.set_cons_succ]
    refine wpAnyH_ready (rs := [5]) (by kernel_rfl) (by simp) ?_
    refine AllReadyH.cons rfl (fun K hK => ?_) AllReadyH.nil
    go_simp
    refine (valE_any n e A c A1 A2 c1 c2 _ cols row _ HF.out HOK.out (HALL.out _ (hbw1.trans (hb15.mono hbw1.size))).1 hcl hrl (HALL.out _ (hbw1.trans (hb15.mono hbw1.size))).2.1 (HALL.out _ (hbw1.trans (hb15.mono hbw1.size))).2.2 HRI.out hm5).mono ?_ <;> rintro en w6 ⟨rfl, hb6⟩ <;> have hz6 := hb6.size <;> have hb16 : Below w1.heap.size w1 w6 := hb15.trans (hb6.mono hb15.size) <;> have kr6 := kr1.below hb16 lr1 <;> have lr6 := kr6.lt <;> have ke6 := ke1.below hb16 le1 <;> obtain ⟨⟨r0, r1, r2⟩, t0, t1, t2⟩ := kr6.three
    go_wp2_with fail
    refine hK.out _ _ ?_ (fun hHeld => ?_)
    · try dsimp only
      exact Blk.six (t := 29) (by ((repeat' (first | with_reducible assumption | with_reducible refine Blk.drew ?_ | with_reducible refine Blk.drewN ?_ _ | with_reducible refine Blk.set3 ?_ _ _ _ | with_reducible refine Blk.far ?_ ?_ _ | ((with_reducible refine Blk.new' _ _ _ _ ?_) <;> (first | (simp; done) | (simp; omega) | omega) <;> done) | with_reducible refine Blk.alloc ?_ _ | with_reducible refine Blk3.drew ?_ | with_reducible refine Blk3.drewN ?_ _ | ((with_reducible refine Blk3.new' _ _ _ _ _ _ ?_) <;> (first | (simp; done) | (simp; omega) | omega) <;> done) | with_reducible refine Blk3.alloc ?_ _ | with_reducible refine Blk3.far ?_ ?_ _ | with_reducible refine Blk3.below ?_ (by assumption) ?_ | with_reducible refine Blk.below ?_ (by assumption) ?_)) <;> (first | (simp; done) | (simp; omega) | omega)))
    clear hK K
    try simp only [Act.put, List.getElem_toArray, List.getElem_cons_zero, List.getElem_cons_succ, List.setIfInBounds_toArray, List.set_cons_zero, List.set_cons_succ]
    refine wpAnyH_ready (rs := [6]) (by kernel_rfl) (by simp) ?_
    refine AllReadyH.cons rfl (fun K hK => ?_) AllReadyH.nil
    go_simp
    skip
    go_wp2_with fail
    refine hK.out _ _ ?_ (fun hHeld => ?_)
    · try dsimp only
      exact Blk.six (t := 29) (by ((repeat' (first | with_reducible assumption | with_reducible refine Blk.drew ?_ | with_reducible refine Blk.drewN ?_ _ | with_reducible refine Blk.set3 ?_ _ _ _ | with_reducible refine Blk.far ?_ ?_ _ | ((with_reducible refine Blk.new' _ _ _ _ ?_) <;> (first | (simp; done) | (simp; omega) | omega) <;> done) | with_reducible refine Blk.alloc ?_ _ | with_reducible refine Blk3.drew ?_ | with_reducible refine Blk3.drewN ?_ _ | ((with_reducible refine Blk3.new' _ _ _ _ _ _ ?_) <;> (first | (simp; done) | (simp; omega) | omega) <;> done) | with_reducible refine Blk3.alloc ?_ _ | with_reducible refine Blk3.far ?_ ?_ _ | with_reducible refine Blk3.below ?_ (by assumption) ?_ | with_reducible refine Blk.below ?_ (by assumption) ?_)) <;> (first | (simp; done) | (simp; omega) | omega)))
    clear hK K
    try simp only [Act.put, List.getElem_toArray, List.getElem_cons_zero, List.getElem_cons_succ, List.setIfInBounds_toArray, List.set_cons_zero, List.set_cons_succ]
    refine wpAnyH_done (by kernel_rfl) ?_ _
    have hbw6 := hbw1.trans (hb16.mono hbw1.size)
    go_wp2_with fail
    refine bodyPost_ret (v := .agg #[.int .i64 (R).k, .int .i64 (R).i, .string ⟨(R).s.toArray⟩]) (by rw [HF2.out]; simp [results, Tryz.results24, go_sem, *]) rfl ⟨rfl, ?_⟩
    exact bl

end Go.Proofs.YtdhjogmkhbpcgaaGreat

namespace Go.Proofs.YtdhjogmkhbpcgaaGreat
open Go.RowKit Go.ChangeMaps

theorem VF.keep {w w' : World} {lo hi lo' hi' : Nat} {A : Option Addr} {l : List V} (h : VF w lo hi A l) (hk : ∀ b, lo ≤ b → b < hi → (lo' ≤ b ∧ b < hi') ∧ ∀ o, w'.cell? ⟨b, o, none⟩ = w.cell? ⟨b, o, none⟩) : VF w' lo' hi' A l := fun hl => by
  obtain ⟨b, off, rfl, h1, h2, h3⟩ := h hl
  exact ⟨b, off, rfl, (hk b h1 h2).1.1, (hk b h1 h2).1.2, h3.keep (hk b h1 h2).2⟩
theorem ExR.at_ {Q : Nat → Prop} {e : Ex} {A : Option Addr} {c : Nat} {w : World} (h : ExR Q e A c w) (hQ : ∀ b, Q b → b < w.heap.size) {Y : World} (hb : Below w.heap.size w Y) : ∃ n, ExS 1000 n Y Y.heap.size A e.l := by
  obtain ⟨_, _, _, n, h4⟩ := h
  exact ⟨n, ((h4.toS hQ n).below n hb).more hb.size n⟩
theorem may_of {Q : Nat → Prop} {e : Ex} {A : Option Addr} {c : Nat} {w : World} (h : ExR Q e A c w) (hQ : ∀ b, Q b → b < w.heap.size) (Y : World) (hb : Below w.heap.size w Y) :
    Calls Tryz.prog 48 #[.agg (e.cells A c).toArray] Y (Ret (.bool (mayX e)) Y) := by
  obtain ⟨n, hn⟩ := h.at_ hQ hb
  rw [← may_X n e (ExS.hgt n hn)]
  exact mayX_any n e A c Y h.1 hn
theorem eval_of {Q : Nat → Prop} {e : Ex} {A : Option Addr} {c : Nat} {w : World} (h : ExR Q e A c w) (hQ : ∀ b, Q b → b < w.heap.size) {A1 A2 : Option Addr} {c1 c2 : Nat} {cols : List Col} {row : List V} (hcl : cols.length ≤ 1000000) (hrl : row.length ≤ 1000000)
    (hC : ColS w w.heap.size A1 cols) (hV : VS w w.heap.size A2 row) (hri : ∀ x ∈ row, fitI x.i) (Y : World) (hb : Below w.heap.size w Y) :
    Calls Tryz.prog 24 #[.agg (e.cells A c).toArray, .slice A1 cols.length c1, .slice A2 row.length c2] Y (Ret (.agg #[.int .i64 (evalX cols row e).k, .int .i64 (evalX cols row e).i, .string ⟨(evalX cols row e).s.toArray⟩]) Y) := by
  obtain ⟨n, hn⟩ := h.at_ hQ hb
  rw [← eval_X n cols row e (ExS.hgt n hn)]
  exact evalX_any n e A c A1 A2 c1 c2 cols row Y h.1 hn hcl hrl ((hC.below hb).more hb.size) ((hV.below hb).more hb.size) hri

/-- The value of an expression, whether it may be or not. -/
def valE (cols : List Col) (row : List V) (e : Ex) : V := evalE 12 cols row e
theorem valE_at {n : Nat} {cols : List Col} {row : List V} {e : Ex} (hn : n ≤ 12) (h : Hgt n e.l) : evalE n cols row e = valE cols row e := (evalE_ups cols row n e h 12 hn).symm
theorem val_may {cols : List Col} {row : List V} {e : Ex} (h : mayX e = true) : evalX cols row e = valE cols row e := by unfold evalX; rw [h]; rfl
theorem val_one {cols : List Col} {row : List V} {op : List UInt8} {v : V} {s : List UInt8} {a : Ex} (h1 : ¬ op = opLit) (h2 : ¬ op = opCol) (h : Hgt 11 a.l) : valE cols row (.mk op v s [a]) = doF op (valE cols row a) V.zero := by
  show evalE 12 cols row _ = _
  rw [← valE_at (n := 11) (by omega) h]
  unfold evalE
  rw [if_neg (by exact h1), if_neg (by exact h2)]
  rfl
theorem val_two {cols : List Col} {row : List V} {op : List UInt8} {v : V} {s : List UInt8} {a b : Ex} (h1 : ¬ op = opLit) (h2 : ¬ op = opCol) (ha : Hgt 11 a.l) (hb : Hgt 11 b.l) : valE cols row (.mk op v s [a, b]) = doF op (valE cols row a) (valE cols row b) := by
  show evalE 12 cols row _ = _
  rw [← valE_at (n := 11) (by omega) ha, ← valE_at (n := 11) (by omega) hb]
  unfold evalE
  rw [if_neg (by exact h1), if_neg (by exact h2)]
  rfl
theorem hgt_one {a : Ex} {op : List UInt8} {v : V} {s : List UInt8} (h : Hgt 12 (Ex.mk op v s [a]).l) : Hgt 11 a.l := h a (by simp [Ex.l])
theorem hgt_two {a b : Ex} {op : List UInt8} {v : V} {s : List UInt8} (h : Hgt 12 (Ex.mk op v s [a, b]).l) : Hgt 11 a.l ∧ Hgt 11 b.l := ⟨h a (by simp [Ex.l]), h b (by simp [Ex.l])⟩

theorem fewX_fit (e : Ex) (h : fitI e.v.i) : (fewX e).fit 1000 := by
  obtain ⟨h1, h2, h3, h4⟩ := fewE_fit 14 80 e h
  exact ⟨h1, by unfold fewX; omega, by unfold fewX; omega, by unfold fewX; omega⟩
theorem fewL_len (l : List V) : (fewL l).length ≤ 14 := by unfold fewL; rw [List.length_map]; exact List.length_take_le _ _
theorem fewL_in (l : List V) (h : ∀ x ∈ l, fitI x.i) : ∀ x ∈ fewL l, fitI x.i := by
  intro x hx
  unfold fewL at hx
  rw [List.mem_map] at hx
  obtain ⟨y, hy, rfl⟩ := hx
  exact h y (List.mem_of_mem_take hy)
theorem fewCols_len (l : List Col) : (fewCols l).length ≤ 9 := by unfold fewCols; rw [List.length_map]; exact List.length_take_le _ _

/-- The four expressions of the law of truths, and their values. -/
theorem truths_of (cols : List Col) (row : List V) (x : Ex) (h1 : mayX (.mk opOr V.zero [] [x, .mk opNot V.zero [] [x]]) = true) (h2 : mayX (.mk opAnd V.zero [] [x, .mk opNot V.zero [] [x]]) = true) (h3 : mayX (.mk opNull V.zero [] [x]) = true) :
    ∃ a b c : V, evalX cols row (.mk opOr V.zero [] [x, .mk opNot V.zero [] [x]]) = a ∧ evalX cols row (.mk opAnd V.zero [] [x, .mk opNot V.zero [] [x]]) = b ∧ evalX cols row (.mk opNull V.zero [] [x]) = c ∧
      veq a (bV false) = false ∧ veq b (bV true) = false ∧ (c.k == 3) = true ∧ (veq c (bV true) = true → a = V.zero) := by
  have g1 := hgt_two (mayX_hgt h1)
  have g2 : Hgt 11 x.l := by
    have : Hgt 10 x.l := g1.2 x (by simp [Ex.l])
    exact this.up 10
  have en : valE cols row (.mk opNot V.zero [] [x]) = notV (valE cols row x) := val_one (by decide) (by decide) g2
  refine ⟨_, _, _, val_may h1, val_may h2, val_may h3, ?_⟩
  rw [val_two (op := opOr) (by decide) (by decide) g1.1 g1.2, val_two (op := opAnd) (by decide) (by decide) g1.1 g1.2, val_one (op := opNull) (by decide) (by decide) g2, en]
  obtain ⟨t1, t2, t3, t4⟩ := truths_law (valE cols row x)
  exact ⟨t1, t2, by show ((nullV _).k == 3) = true; rw [t3]; rfl, t4⟩

end Go.Proofs.YtdhjogmkhbpcgaaGreat

namespace Go.Proofs.YtdhjogmkhbpcgaaGreat
open Go.RowKit

/-- A column's place, and a table's name. -/
structure Fr where
  c : Int
  t : List UInt8
/-- A table. -/
structure Tb where
  n : List UInt8
  cols : List Col
  key : Int
  uniq : List Int
  refs : List Fr
  chk : Ex
/-- A table with rows. -/
structure Rl where
  t : Tb
  rows : List (List V)
/-- Where a slice lies, and how many it could hold. -/
structure Sl where
  a : Option Addr
  c : Nat
structure TbP where
  cols : Sl
  uniq : Sl
  refs : Sl
  chk : Sl
structure RlP where
  t : TbP
  rows : Sl
def Tb.cells (t : Tb) (p : TbP) : List Value :=
  [.string ⟨t.n.toArray⟩, .slice p.cols.a t.cols.length p.cols.c, .int .i64 t.key, .slice p.uniq.a t.uniq.length p.uniq.c, .slice p.refs.a t.refs.length p.refs.c,
    .string ⟨t.chk.op.toArray⟩, .int .i64 t.chk.v.k, .int .i64 t.chk.v.i, .string ⟨t.chk.v.s.toArray⟩, .string ⟨t.chk.s.toArray⟩, .slice p.chk.a t.chk.l.length p.chk.c]
def Rl.cells (x : Rl) (p : RlP) : List Value :=
  [.string ⟨x.t.n.toArray⟩, .slice p.t.cols.a x.t.cols.length p.t.cols.c, .int .i64 x.t.key, .slice p.t.uniq.a x.t.uniq.length p.t.uniq.c, .slice p.t.refs.a x.t.refs.length p.t.refs.c,
    .string ⟨x.t.chk.op.toArray⟩, .int .i64 x.t.chk.v.k, .int .i64 x.t.chk.v.i, .string ⟨x.t.chk.v.s.toArray⟩, .string ⟨x.t.chk.s.toArray⟩, .slice p.t.chk.a x.t.chk.l.length p.t.chk.c, .slice p.rows.a x.rows.length p.rows.c]

/-- Slices whose block is of a kind. -/
def CQ (l : List Col) (A : Option Addr) (Q : Nat → Prop) (w : World) : Prop := 0 < l.length → ∃ b off, A = some ⟨b, off, none⟩ ∧ Q b ∧ ColRow w b off l
def WQ (l : List V) (A : Option Addr) (Q : Nat → Prop) (w : World) : Prop := 0 < l.length → ∃ b off, A = some ⟨b, off, none⟩ ∧ Q b ∧ VRow w b off l
def IQ (l : List Int) (A : Option Addr) (Q : Nat → Prop) (w : World) : Prop := 0 < l.length → ∃ b off, A = some ⟨b, off, none⟩ ∧ Q b ∧ ∀ i x, l[i]? = some x → w.cell? ⟨b, off + i, none⟩ = some (.int .i64 x)
def FQ (l : List Fr) (A : Option Addr) (Q : Nat → Prop) (w : World) : Prop := 0 < l.length → ∃ b off, A = some ⟨b, off, none⟩ ∧ Q b ∧ ∀ i x, l[i]? = some x → w.cell? ⟨b, off + i * 2, none⟩ = some (.int .i64 x.c) ∧ w.cell? ⟨b, off + i * 2 + 1, none⟩ = some (.string ⟨x.t.toArray⟩)
def RQ (l : List (List V)) (A : Option Addr) (Q : Nat → Prop) (w : World) : Prop := 0 < l.length → ∃ b off, A = some ⟨b, off, none⟩ ∧ Q b ∧ ∀ i r, l[i]? = some r → ∃ A' c', w.cell? ⟨b, off + i, none⟩ = some (.slice A' r.length c') ∧ WQ r A' Q w
section
variable {A : Option Addr} {Q Q' : Nat → Prop} {w w' : World}
theorem CQ.keep {l : List Col} (h : CQ l A Q w) (hk : ∀ b, Q b → Q' b ∧ ∀ o, w'.cell? ⟨b, o, none⟩ = w.cell? ⟨b, o, none⟩) : CQ l A Q' w' := fun hl => by
  obtain ⟨b, off, rfl, h1, h2⟩ := h hl
  refine ⟨b, off, rfl, (hk b h1).1, fun i x hx => ?_⟩
  obtain ⟨c0, c1, c2⟩ := h2 i x hx
  exact ⟨((hk b h1).2 _).trans c0, ((hk b h1).2 _).trans c1, ((hk b h1).2 _).trans c2⟩
theorem WQ.keep {l : List V} (h : WQ l A Q w) (hk : ∀ b, Q b → Q' b ∧ ∀ o, w'.cell? ⟨b, o, none⟩ = w.cell? ⟨b, o, none⟩) : WQ l A Q' w' := fun hl => by
  obtain ⟨b, off, rfl, h1, h2⟩ := h hl
  exact ⟨b, off, rfl, (hk b h1).1, h2.keep (hk b h1).2⟩
theorem IQ.keep {l : List Int} (h : IQ l A Q w) (hk : ∀ b, Q b → Q' b ∧ ∀ o, w'.cell? ⟨b, o, none⟩ = w.cell? ⟨b, o, none⟩) : IQ l A Q' w' := fun hl => by
  obtain ⟨b, off, rfl, h1, h2⟩ := h hl
  exact ⟨b, off, rfl, (hk b h1).1, fun i x hx => ((hk b h1).2 _).trans (h2 i x hx)⟩
theorem FQ.keep {l : List Fr} (h : FQ l A Q w) (hk : ∀ b, Q b → Q' b ∧ ∀ o, w'.cell? ⟨b, o, none⟩ = w.cell? ⟨b, o, none⟩) : FQ l A Q' w' := fun hl => by
  obtain ⟨b, off, rfl, h1, h2⟩ := h hl
  exact ⟨b, off, rfl, (hk b h1).1, fun i x hx => ⟨((hk b h1).2 _).trans (h2 i x hx).1, ((hk b h1).2 _).trans (h2 i x hx).2⟩⟩
theorem RQ.keep {l : List (List V)} (h : RQ l A Q w) (hk : ∀ b, Q b → Q' b ∧ ∀ o, w'.cell? ⟨b, o, none⟩ = w.cell? ⟨b, o, none⟩) : RQ l A Q' w' := fun hl => by
  obtain ⟨b, off, rfl, h1, h2⟩ := h hl
  refine ⟨b, off, rfl, (hk b h1).1, fun i r hr => ?_⟩
  obtain ⟨A', c', h3, h4⟩ := h2 i r hr
  exact ⟨A', c', ((hk b h1).2 _).trans h3, h4.keep hk⟩
theorem CQ.s {l : List Col} (h : CQ l A Q w) {B : Nat} (hq : ∀ b, Q b → b < B) : ColS w B A l := fun hl => by
  obtain ⟨b, off, rfl, h1, h2⟩ := h hl
  exact ⟨b, off, rfl, hq b h1, h2⟩
theorem WQ.s {l : List V} (h : WQ l A Q w) {B : Nat} (hq : ∀ b, Q b → b < B) : VS w B A l := fun hl => by
  obtain ⟨b, off, rfl, h1, h2⟩ := h hl
  exact ⟨b, off, rfl, hq b h1, h2⟩
theorem CQ.ofF {l : List Col} {lo hi : Nat} (h : ColF w lo hi A l) (hq : ∀ b, lo ≤ b → b < hi → Q b) : CQ l A Q w := fun hl => by
  obtain ⟨b, off, rfl, h1, h2, h3⟩ := h hl
  exact ⟨b, off, rfl, hq b h1 h2, h3⟩
theorem WQ.ofF {l : List V} {lo hi : Nat} (h : VF w lo hi A l) (hq : ∀ b, lo ≤ b → b < hi → Q b) : WQ l A Q w := fun hl => by
  obtain ⟨b, off, rfl, h1, h2, h3⟩ := h hl
  exact ⟨b, off, rfl, hq b h1 h2, h3⟩
theorem IQ.ofF {l : List Int} {lo hi : Nat} (h : IF w lo hi A l) (hq : ∀ b, lo ≤ b → b < hi → Q b) : IQ l A Q w := fun hl => by
  obtain ⟨b, off, rfl, h1, h2, h3⟩ := h hl
  exact ⟨b, off, rfl, hq b h1 h2, h3⟩
theorem WQ.nil : WQ [] A Q w := fun h => absurd h (by simp)
theorem CQ.nil : CQ [] A Q w := fun h => absurd h (by simp)
theorem IQ.nil : IQ [] A Q w := fun h => absurd h (by simp)
theorem FQ.nil : FQ [] A Q w := fun h => absurd h (by simp)
theorem RQ.nil : RQ [] A Q w := fun h => absurd h (by simp)
theorem IQ.at_ {l : List Int} (h : IQ l A Q w) {j : Nat} (hj : j < l.length) : ∃ b off x, A = some ⟨b, off, none⟩ ∧ Q b ∧ l[j]? = some x ∧ w.cell? ⟨b, off + j, none⟩ = some (.int .i64 x) := by
  obtain ⟨b, off, rfl, hb, hr⟩ := h (by omega)
  exact ⟨b, off, l[j], rfl, hb, List.getElem?_eq_getElem hj, hr j _ (List.getElem?_eq_getElem hj)⟩
theorem FQ.at_ {l : List Fr} (h : FQ l A Q w) {j : Nat} (hj : j < l.length) : ∃ b off x, A = some ⟨b, off, none⟩ ∧ Q b ∧ l[j]? = some x ∧ w.cell? ⟨b, off + j * 2, none⟩ = some (.int .i64 x.c) ∧ w.cell? ⟨b, off + j * 2 + 1, none⟩ = some (.string ⟨x.t.toArray⟩) := by
  obtain ⟨b, off, rfl, hb, hr⟩ := h (by omega)
  exact ⟨b, off, l[j], rfl, hb, List.getElem?_eq_getElem hj, hr j _ (List.getElem?_eq_getElem hj)⟩
theorem RQ.at_ {l : List (List V)} (h : RQ l A Q w) {j : Nat} (hj : j < l.length) : ∃ b off r A' c', A = some ⟨b, off, none⟩ ∧ Q b ∧ l[j]? = some r ∧ w.cell? ⟨b, off + j, none⟩ = some (.slice A' r.length c') ∧ WQ r A' Q w := by
  obtain ⟨b, off, rfl, hb, hr⟩ := h (by omega)
  obtain ⟨A', c', h1, h2⟩ := hr j _ (List.getElem?_eq_getElem hj)
  exact ⟨b, off, l[j], A', c', rfl, hb, List.getElem?_eq_getElem hj, h1, h2⟩
theorem RQ.take {l : List (List V)} (h : RQ l A Q w) (n : Nat) : RQ (l.take n) A Q w := fun hl => by
  obtain ⟨b, off, rfl, h1, h2⟩ := h (by rw [List.length_take] at hl; omega)
  refine ⟨b, off, rfl, h1, fun i r hr => h2 i r ?_⟩
  rw [List.getElem?_take] at hr
  split at hr
  · exact hr
  · cases hr
end
/-- A table's memory, in blocks of a kind; texts no longer than K in its check. -/
def TbQ (K : Nat) (t : Tb) (p : TbP) (Q : Nat → Prop) (w : World) : Prop := CQ t.cols p.cols.a Q w ∧ IQ t.uniq p.uniq.a Q w ∧ FQ t.refs p.refs.a Q w ∧ ∃ n, ExQ K n w Q p.chk.a t.chk.l
def RlQ (K : Nat) (x : Rl) (p : RlP) (Q : Nat → Prop) (w : World) : Prop := TbQ K x.t p.t Q w ∧ RQ x.rows p.rows.a Q w
theorem TbQ.keep {K : Nat} {t : Tb} {p : TbP} {Q Q' : Nat → Prop} {w w' : World} (h : TbQ K t p Q w) (hk : ∀ b, Q b → Q' b ∧ ∀ o, w'.cell? ⟨b, o, none⟩ = w.cell? ⟨b, o, none⟩) : TbQ K t p Q' w' := by
  obtain ⟨h1, h2, h3, n, h4⟩ := h
  exact ⟨h1.keep hk, h2.keep hk, h3.keep hk, n, h4.keep hk n⟩
theorem RlQ.keep {K : Nat} {x : Rl} {p : RlP} {Q Q' : Nat → Prop} {w w' : World} (h : RlQ K x p Q w) (hk : ∀ b, Q b → Q' b ∧ ∀ o, w'.cell? ⟨b, o, none⟩ = w.cell? ⟨b, o, none⟩) : RlQ K x p Q' w' := ⟨h.1.keep hk, h.2.keep hk⟩
/-- All blocks that there are. -/
def Old (B : Nat) (b : Nat) : Prop := b < B
theorem old_keep {B B' : Nat} {w w' : World} (hb : Below B w w') (hB : B ≤ B') : ∀ b, Old B b → Old B' b ∧ ∀ o, w'.cell? ⟨b, o, none⟩ = w.cell? ⟨b, o, none⟩ := fun b h => ⟨Nat.lt_of_lt_of_le h hB, fun o => hb.cell (p := ⟨b, o, none⟩) h⟩
theorem ExS.toQ {K : Nat} {w : World} {B : Nat} : ∀ (n : Nat) {A : Option Addr} {l : List Ex}, ExS K n w B A l → ExQ K n w (Old B) A l
  | 0, _, _, h => h
  | n + 1, _, _, h => fun hl => by
    obtain ⟨b, off, rfl, hb, hr⟩ := h hl
    refine ⟨b, off, rfl, hb, fun i e he => ?_⟩
    obtain ⟨A', c', hf, h1, h2, h3, h4⟩ := hr i e he
    exact ⟨A', c', hf, h1, h2, h3, h4.toQ n⟩
/-- The sizes of a table with rows that came in. -/
def Rl.big (x : Rl) : Prop := x.t.n.length ≤ maxLen ∧ x.t.cols.length ≤ maxLen ∧ (∀ c ∈ x.t.cols, c.n.length ≤ maxLen) ∧ x.t.uniq.length ≤ maxLen ∧ x.t.refs.length ≤ maxLen ∧ (∀ r ∈ x.t.refs, r.t.length ≤ maxLen) ∧ x.t.chk.fit maxLen ∧ x.t.chk.l.length ≤ maxLen ∧
  x.rows.length ≤ maxLen ∧ ∀ r ∈ x.rows, r.length ≤ maxLen ∧ ∀ v ∈ r, fitI v.i
def Tb.few (t : Tb) : Tb := ⟨t.n.take 20, fewCols t.cols, t.key, t.uniq.take 10, (t.refs.take 10).map fun r => ⟨r.c, r.t.take 20⟩, fewX t.chk⟩
def Rl.few (x : Rl) : Rl := ⟨x.t.few, (x.rows.take (if 200 < x.rows.length then 201 else 40)).map fewL⟩

end Go.Proofs.YtdhjogmkhbpcgaaGreat
