/- Contracts of expr.May, expr.Eval, expr.Type for an expression in memory, at any later world; plain laws on what an expression comes to. -/
import Derived.Test.YtdhjogmkhbpcgaaGreatFewM
import Derived.Test.YtdhjogmkhbpcgaaGreatFewsM
import Derived.Test.YtdhjogmkhbpcgaaGreatExpr5
import Derived.Test.YtdhjogmkhbpcgaaGreatExprM
import Derived.Test.YtdhjogmkhbpcgaaGreatExLaw3
namespace Go.Proofs.YtdhjogmkhbpcgaaGreat
open Go.RowKit Go.ChangeMaps

theorem VF.keep {w w' : World} {lo hi lo' hi' : Nat} {A : Option Addr} {l : List V} (h : VF w lo hi A l) (hk : ∀ b, lo ≤ b → b < hi → (lo' ≤ b ∧ b < hi') ∧ ∀ o, w'.cell? ⟨b, o, none⟩ = w.cell? ⟨b, o, none⟩) : VF w' lo' hi' A l := fun hl => by
  obtain ⟨b, off, rfl, h1, h2, h3⟩ := h hl
  exact ⟨b, off, rfl, (hk b h1 h2).1.1, (hk b h1 h2).1.2, h3.keep (hk b h1 h2).2⟩
theorem ExR.at_ {Q : Nat → Prop} {e : Ex} {A : Option Addr} {c : Nat} {w : World} (h : ExR Q e A c w) (hQ : ∀ b, Q b → b < w.heap.size) {Y : World} (hb : Below w.heap.size w Y) : ∃ n, ExS 1000 n Y Y.heap.size A e.l := by
  obtain ⟨_, _, _, n, h4⟩ := h
  exact ⟨n, ((h4.toS hQ n).below n hb).more hb.size n⟩
theorem may_of {Q : Nat → Prop} {e : Ex} {A : Option Addr} {c : Nat} {w : World} (h : ExR Q e A c w) (hQ : ∀ b, Q b → b < w.heap.size) (Y : World) (hb : Below w.heap.size w Y) :
    Calls Tryz.prog 48 #[.agg (e.cells A c).toArray] Y (Ret (.bool (mayX e)) Y) := by
  obtain ⟨n, hn⟩ := h.at_ hQ hb
  rw [← may_X n e (ExS.hgt n hn)]
  exact mayX_any n e A c Y h.1 hn
theorem eval_of {Q : Nat → Prop} {e : Ex} {A : Option Addr} {c : Nat} {w : World} (h : ExR Q e A c w) (hQ : ∀ b, Q b → b < w.heap.size) {A1 A2 : Option Addr} {c1 c2 : Nat} {cols : List Col} {row : List V} (hcl : cols.length ≤ 1000000) (hrl : row.length ≤ 1000000)
    (hC : ColS w w.heap.size A1 cols) (hV : VS w w.heap.size A2 row) (hri : ∀ x ∈ row, fitI x.i) (Y : World) (hb : Below w.heap.size w Y) :
    Calls Tryz.prog 24 #[.agg (e.cells A c).toArray, .slice A1 cols.length c1, .slice A2 row.length c2] Y (Ret (.agg #[.int .i64 (evalX cols row e).k, .int .i64 (evalX cols row e).i, .string ⟨(evalX cols row e).s.toArray⟩]) Y) := by
  obtain ⟨n, hn⟩ := h.at_ hQ hb
  rw [← eval_X n cols row e (ExS.hgt n hn)]
  exact evalX_any n e A c A1 A2 c1 c2 cols row Y h.1 hn hcl hrl ((hC.below hb).more hb.size) ((hV.below hb).more hb.size) hri

/-- The value of an expression, whether it may be or not. -/
def valE (cols : List Col) (row : List V) (e : Ex) : V := evalE 12 cols row e
theorem valE_at {n : Nat} {cols : List Col} {row : List V} {e : Ex} (hn : n ≤ 12) (h : Hgt n e.l) : evalE n cols row e = valE cols row e := (evalE_ups cols row n e h 12 hn).symm
theorem val_may {cols : List Col} {row : List V} {e : Ex} (h : mayX e = true) : evalX cols row e = valE cols row e := by unfold evalX; rw [h]; rfl
theorem val_one {cols : List Col} {row : List V} {op : List UInt8} {v : V} {s : List UInt8} {a : Ex} (h1 : ¬ op = opLit) (h2 : ¬ op = opCol) (h : Hgt 11 a.l) : valE cols row (.mk op v s [a]) = doF op (valE cols row a) V.zero := by
  show evalE 12 cols row _ = _
  rw [← valE_at (n := 11) (by omega) h]
  unfold evalE
  rw [if_neg (by exact h1), if_neg (by exact h2)]
  rfl
theorem val_two {cols : List Col} {row : List V} {op : List UInt8} {v : V} {s : List UInt8} {a b : Ex} (h1 : ¬ op = opLit) (h2 : ¬ op = opCol) (ha : Hgt 11 a.l) (hb : Hgt 11 b.l) : valE cols row (.mk op v s [a, b]) = doF op (valE cols row a) (valE cols row b) := by
  show evalE 12 cols row _ = _
  rw [← valE_at (n := 11) (by omega) ha, ← valE_at (n := 11) (by omega) hb]
  unfold evalE
  rw [if_neg (by exact h1), if_neg (by exact h2)]
  rfl
theorem hgt_one {a : Ex} {op : List UInt8} {v : V} {s : List UInt8} (h : Hgt 12 (Ex.mk op v s [a]).l) : Hgt 11 a.l := h a (by simp [Ex.l])
theorem hgt_two {a b : Ex} {op : List UInt8} {v : V} {s : List UInt8} (h : Hgt 12 (Ex.mk op v s [a, b]).l) : Hgt 11 a.l ∧ Hgt 11 b.l := ⟨h a (by simp [Ex.l]), h b (by simp [Ex.l])⟩

theorem fewX_fit (e : Ex) (h : fitI e.v.i) : (fewX e).fit 1000 := by
  obtain ⟨h1, h2, h3, h4⟩ := fewE_fit 14 80 e h
  exact ⟨h1, by unfold fewX; omega, by unfold fewX; omega, by unfold fewX; omega⟩
theorem fewL_len (l : List V) : (fewL l).length ≤ 14 := by unfold fewL; rw [List.length_map]; exact List.length_take_le _ _
theorem fewL_in (l : List V) (h : ∀ x ∈ l, fitI x.i) : ∀ x ∈ fewL l, fitI x.i := by
  intro x hx
  unfold fewL at hx
  rw [List.mem_map] at hx
  obtain ⟨y, hy, rfl⟩ := hx
  exact h y (List.mem_of_mem_take hy)
theorem fewCols_len (l : List Col) : (fewCols l).length ≤ 9 := by unfold fewCols; rw [List.length_map]; exact List.length_take_le _ _

/-- The four expressions of the law of truths, and their values. -/
theorem truths_of (cols : List Col) (row : List V) (x : Ex) (h1 : mayX (.mk opOr V.zero [] [x, .mk opNot V.zero [] [x]]) = true) (h2 : mayX (.mk opAnd V.zero [] [x, .mk opNot V.zero [] [x]]) = true) (h3 : mayX (.mk opNull V.zero [] [x]) = true) :
    ∃ a b c : V, evalX cols row (.mk opOr V.zero [] [x, .mk opNot V.zero [] [x]]) = a ∧ evalX cols row (.mk opAnd V.zero [] [x, .mk opNot V.zero [] [x]]) = b ∧ evalX cols row (.mk opNull V.zero [] [x]) = c ∧
      veq a (bV false) = false ∧ veq b (bV true) = false ∧ (c.k == 3) = true ∧ (veq c (bV true) = true → a = V.zero) := by
  have g1 := hgt_two (mayX_hgt h1)
  have g2 : Hgt 11 x.l := by
    have : Hgt 10 x.l := g1.2 x (by simp [Ex.l])
    exact this.up 10
  have en : valE cols row (.mk opNot V.zero [] [x]) = notV (valE cols row x) := val_one (by decide) (by decide) g2
  refine ⟨_, _, _, val_may h1, val_may h2, val_may h3, ?_⟩
  rw [val_two (op := opOr) (by decide) (by decide) g1.1 g1.2, val_two (op := opAnd) (by decide) (by decide) g1.1 g1.2, val_one (op := opNull) (by decide) (by decide) g2, en]
  obtain ⟨t1, t2, t3, t4⟩ := truths_law (valE cols row x)
  exact ⟨t1, t2, by show ((nullV _).k == 3) = true; rw [t3]; rfl, t4⟩

end Go.Proofs.YtdhjogmkhbpcgaaGreat
