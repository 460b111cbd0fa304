/- caddislaw04.awake holds. Condition: strconv's errors lie as they were laid. -/
import Derived.Test.YtdnkkkgneikhkaaGreatDoorParseM
import Derived.Test.YtdnkkkgneikhkaaGreatDoorExpr5
import Derived.Test.YtdnkkkgneikhkaaGreatDoorExprM
import Derived.Test.YtdnkkkgneikhkaaGreatDoorFewsM
namespace Go.Proofs.YtdnkkkgneikhkaaGreatDoor
open Go.RowKit Go.ChangeMaps

attribute [local go_sem] ByteArray.extract_mk ba_get ba_append
attribute [local go_sem ↓] Go.wp_at_zero Go.wp_at_succ run_eql_V run_neq_V

def toks7 : List Tok := [⟨1, [97]⟩, ⟨4, [61]⟩, ⟨2, [49]⟩, ⟨1, [79, 82]⟩, ⟨1, [98]⟩, ⟨1, [73, 83]⟩, ⟨1, [78, 85, 76, 76]⟩]
def exCol (s : List UInt8) : Ex := .mk opCol V.zero s []
def ex7 : Ex := .mk opOr V.zero [] [.mk opEq V.zero [] [exCol [97], exLit ⟨1, 1, []⟩], .mk opNull V.zero [] [exCol [98]]]
theorem parse7 : parseX toks7 = (ex7, 7, 0) := by kernel_rfl
def exP : Ex := .mk opPlus V.zero [] [exCol [97], exLit ⟨1, 1, []⟩]
def exB : Ex := .mk opPlus V.zero [] [exCol [97], exLit ⟨3, 1, []⟩]
def cols1 : List Col := [⟨[97], 1, false⟩]
def row1 : List V := [⟨1, 9223372036854775807, []⟩]
theorem evalP : evalX cols1 row1 exP = V.zero := by kernel_rfl
theorem typeB : typeX cols1 exB = (0, 5) := by kernel_rfl
theorem exCol_fit (s : List UInt8) (h : s.length ≤ 1000) : (exCol s).fit 1000 := ⟨zero_in, by simp [exCol, Ex.op, opCol], h, by simp [exCol, Ex.v, V.zero]⟩
theorem op_fit (op : List UInt8) (l : List Ex) (h : op.length ≤ 1000) : (Ex.mk op V.zero [] l).fit 1000 := ⟨zero_in, h, by simp [Ex.s], by simp [Ex.v, V.zero]⟩

theorem vs_block {w : World} {g : Nat} {e : TypeId} {l : List V} (h : Blk w g e (l.flatMap V.cells).toArray) : VS w w.heap.size (some ⟨g, 0, none⟩) l := by
  intro _
  refine ⟨g, 0, rfl, h.lt, fun i v hv => ?_⟩
  have key : ∀ j u, j < 3 → v.cells[j]? = some u → w.cell? ⟨g, 0 + i * 3 + j, none⟩ = some u := by
    intro j u hj hu
    rw [h.cell, List.getElem?_toArray, Nat.zero_add, cells_at l i j v hv hj]
    exact hu
  exact ⟨key 0 _ (by omega) rfl, key 1 _ (by omega) rfl, key 2 _ (by omega) rfl⟩
theorem evalP_any (X : World) (g4 g7 g8 : Nat) (k4 : Blk X g4 67 #[.string ⟨#[97]⟩, .int .i64 1, .bool false]) (k7 : Blk X g7 26 #[.string ⟨#[99, 111, 108]⟩, .int .i64 0, .int .i64 0, .string ⟨#[]⟩, .string ⟨#[97]⟩, .slice none 0 0, .string ⟨#[108, 105, 116]⟩, .int .i64 1, .int .i64 1, .string ⟨#[]⟩, .string ⟨#[]⟩, .slice none 0 0]) (k8 : Blk X g8 23 #[.int .i64 1, .int .i64 9223372036854775807, .string ⟨#[]⟩]) :
    Calls Tryz.prog 14 #[.agg #[.string ⟨#[43]⟩, .int .i64 0, .int .i64 0, .string ⟨#[]⟩, .string ⟨#[]⟩, .slice (some ⟨g7, 0, none⟩) 2 2], .slice (some ⟨g4, 0, none⟩) 1 1, .slice (some ⟨g8, 0, none⟩) 1 1] X (Ret (.agg #[.int .i64 0, .int .i64 0, .string ⟨#[]⟩]) X) := by
  have hS : ExS 1000 1 X X.heap.size (some ⟨g7, 0, none⟩) exP.l := exS_two (n := 0) (e := exCol [97]) (e' := exLit ⟨1, 1, []⟩) (A := none) (A' := none) (c := 0) (c' := 0) k7 (exCol_fit _ (by decide)) (Nat.le_refl _) (Nat.zero_le _) (ExS.nil 0) (exLit_fit _ ⟨by decide, by decide⟩ (by decide)) (Nat.le_refl _) (Nat.zero_le _) (ExS.nil 0)
  have h := evalX_any 1 exP (some ⟨g7, 0, none⟩) 2 (some ⟨g4, 0, none⟩) (some ⟨g8, 0, none⟩) 1 1 cols1 row1 X (op_fit _ _ (by decide)) hS (by decide) (by decide) (col_block (l := cols1) k4) (vs_block (l := row1) k8) (by intro x hx; simp only [row1, List.mem_cons, List.not_mem_nil, or_false] at hx; subst hx; exact ⟨by decide, by decide⟩)
  rw [eval_X 1 cols1 row1 exP (ExS.hgt 1 hS), evalP] at h
  exact h
theorem typeB_any (X : World) (g4 g7 : Nat) (k4 : Blk X g4 67 #[.string ⟨#[97]⟩, .int .i64 1, .bool false]) (k7 : Blk X g7 26 #[.string ⟨#[99, 111, 108]⟩, .int .i64 0, .int .i64 0, .string ⟨#[]⟩, .string ⟨#[97]⟩, .slice none 0 0, .string ⟨#[108, 105, 116]⟩, .int .i64 3, .int .i64 1, .string ⟨#[]⟩, .string ⟨#[]⟩, .slice none 0 0]) :
    Calls Tryz.prog 35 #[.agg #[.string ⟨#[43]⟩, .int .i64 0, .int .i64 0, .string ⟨#[]⟩, .string ⟨#[]⟩, .slice (some ⟨g7, 0, none⟩) 2 2], .slice (some ⟨g4, 0, none⟩) 1 1] X (Ret (.tuple #[.int .i64 0, .int .i64 5]) X) := by
  have hS : ExS 1000 1 X X.heap.size (some ⟨g7, 0, none⟩) exB.l := exS_two (n := 0) (e := exCol [97]) (e' := exLit ⟨3, 1, []⟩) (A := none) (A' := none) (c := 0) (c' := 0) k7 (exCol_fit _ (by decide)) (Nat.le_refl _) (Nat.zero_le _) (ExS.nil 0) (exLit_fit _ ⟨by decide, by decide⟩ (by decide)) (Nat.le_refl _) (Nat.zero_le _) (ExS.nil 0)
  have h := typeX_any 1 exB (some ⟨g7, 0, none⟩) 2 (some ⟨g4, 0, none⟩) 1 cols1 X (op_fit _ _ (by decide)) hS (by decide) (col_block (l := cols1) k4)
  rw [typeB] at h
  exact h
theorem parse7_any (X : World) (g : Nat) (k : Blk X g 48 #[.int .i64 1, .string ⟨#[97]⟩, .int .i64 4, .string ⟨#[61]⟩, .int .i64 2, .string ⟨#[49]⟩, .int .i64 1, .string ⟨#[79, 82]⟩, .int .i64 1, .string ⟨#[98]⟩, .int .i64 1, .string ⟨#[73, 83]⟩, .int .i64 1, .string ⟨#[78, 85, 76, 76]⟩]) (hE : Errs X) :
    Calls Tryz.prog 24 #[.slice (some ⟨g, 0, none⟩) 7 7] X fun en w' => ∃ A' c', en = .returned (.tuple #[.agg #[.string ⟨#[111, 114]⟩, .int .i64 0, .int .i64 0, .string ⟨#[]⟩, .string ⟨#[]⟩, .slice A' 2 c'], .int .i64 7, .int .i64 0]) ∧ Below X.heap.size X w' := by
  have h := parseX_any (some ⟨g, 0, none⟩) 7 toks7 X (by decide) (by decide) (tk_block (l := toks7) k) hE
  rw [parse7] at h
  exact h.mono fun en w' ⟨A', c', h1, _, h3⟩ => ⟨A', c', h1, h3⟩

set_option maxRecDepth 100000 in
set_option maxHeartbeats 2000000 in
theorem awake4_any (w : World) (hE : Errs w) : Calls Tryz.prog 13 #[] w (Ret (.bool true) w) := by
  obtain ⟨w1, hw1⟩ : ∃ w1, w.alloc (.cells #[.int .i64 1, .string ⟨#[97]⟩, .int .i64 4, .string ⟨#[61]⟩, .int .i64 2, .string ⟨#[49]⟩, .int .i64 1, .string ⟨#[79, 82]⟩, .int .i64 1, .string ⟨#[98]⟩, .int .i64 1, .string ⟨#[73, 83]⟩, .int .i64 1, .string ⟨#[78, 85, 76, 76]⟩] 48) = w1 := ⟨_, rfl⟩
  have hb1 : Below w.heap.size w w1 := by rw [← hw1]; ((repeat' (first | with_reducible exact Below.refl _ _ | with_reducible assumption | with_reducible refine Below.drew ?_ | with_reducible refine below_drewN ?_ _ | with_reducible refine Below.setCell ?_ ?_ _ | with_reducible refine Below.alloc ?_ ?_ _ | with_reducible refine Below.trans ?_ (Below.mono (by assumption) ?_))) <;> (first | (simp; done) | (simp; omega) | omega))
  have k1 : Blk w1 w.heap.size 48 #[.int .i64 1, .string ⟨#[97]⟩, .int .i64 4, .string ⟨#[61]⟩, .int .i64 2, .string ⟨#[49]⟩, .int .i64 1, .string ⟨#[79, 82]⟩, .int .i64 1, .string ⟨#[98]⟩, .int .i64 1, .string ⟨#[73, 83]⟩, .int .i64 1, .string ⟨#[78, 85, 76, 76]⟩] := by rw [← hw1]; exact Blk.new _ _ _
  have HP := Lib.hid (parse7_any w1 w.heap.size k1 (hE.below hb1 rfl))
  have HW1 := Lib.hid hw1
  clear hw1 k1 hE
  go_enter Tryz.func13, Tryz.ntmps13
  go_wp2_with fail
  rw [HW1.out]
  refine HP.out.mono ?_
  rintro en w2 ⟨A2, c2, rfl, hb2⟩
  have hbw2 := hb1.trans (hb2.mono hb1.size)
  clear HW1 HP hb1 hb2
  obtain ⟨w8, hw8⟩ : ∃ w8, (((((w2.alloc (.cells #[.string ⟨#[111, 114]⟩, .int .i64 0, .int .i64 0, .string ⟨#[]⟩, .string ⟨#[]⟩, .slice A2 2 c2] 26)).alloc (.cells #[.string ⟨#[97]⟩, .int .i64 1, .bool false] 67)).alloc (.cells #[.string ⟨#[108, 105, 116]⟩, .int .i64 1, .int .i64 1, .string ⟨#[]⟩, .string ⟨#[]⟩, .slice none 0 0] 26)).alloc (.cells #[.string ⟨#[99, 111, 108]⟩, .int .i64 0, .int .i64 0, .string ⟨#[]⟩, .string ⟨#[97]⟩, .slice none 0 0] 26)).alloc (.cells #[.string ⟨#[99, 111, 108]⟩, .int .i64 0, .int .i64 0, .string ⟨#[]⟩, .string ⟨#[97]⟩, .slice none 0 0, .string ⟨#[108, 105, 116]⟩, .int .i64 1, .int .i64 1, .string ⟨#[]⟩, .string ⟨#[]⟩, .slice none 0 0] 26)).alloc (.cells #[.int .i64 1, .int .i64 9223372036854775807, .string ⟨#[]⟩] 23) = w8 := ⟨_, rfl⟩
  have kE : Blk w8 w2.heap.size 26 #[.string ⟨#[111, 114]⟩, .int .i64 0, .int .i64 0, .string ⟨#[]⟩, .string ⟨#[]⟩, .slice A2 2 c2] := by rw [← hw8]; ((repeat' (first | with_reducible assumption | with_reducible refine Blk.drew ?_ | with_reducible refine Blk.drewN ?_ _ | with_reducible refine Blk.set3 ?_ _ _ _ | with_reducible refine Blk.far ?_ ?_ _ | ((with_reducible refine Blk.new' _ _ _ _ ?_) <;> (first | (simp; done) | (simp; omega) | omega) <;> done) | with_reducible refine Blk.alloc ?_ _ | with_reducible refine Blk3.drew ?_ | with_reducible refine Blk3.drewN ?_ _ | ((with_reducible refine Blk3.new' _ _ _ _ _ _ ?_) <;> (first | (simp; done) | (simp; omega) | omega) <;> done) | with_reducible refine Blk3.alloc ?_ _ | with_reducible refine Blk3.far ?_ ?_ _ | with_reducible refine Blk3.below ?_ (by assumption) ?_ | with_reducible refine Blk.below ?_ (by assumption) ?_)) <;> (first | (simp; done) | (simp; omega) | omega))
  have kC : Blk w8 (w2.heap.size + 1) 67 #[.string ⟨#[97]⟩, .int .i64 1, .bool false] := by rw [← hw8]; ((repeat' (first | with_reducible assumption | with_reducible refine Blk.drew ?_ | with_reducible refine Blk.drewN ?_ _ | with_reducible refine Blk.set3 ?_ _ _ _ | with_reducible refine Blk.far ?_ ?_ _ | ((with_reducible refine Blk.new' _ _ _ _ ?_) <;> (first | (simp; done) | (simp; omega) | omega) <;> done) | with_reducible refine Blk.alloc ?_ _ | with_reducible refine Blk3.drew ?_ | with_reducible refine Blk3.drewN ?_ _ | ((with_reducible refine Blk3.new' _ _ _ _ _ _ ?_) <;> (first | (simp; done) | (simp; omega) | omega) <;> done) | with_reducible refine Blk3.alloc ?_ _ | with_reducible refine Blk3.far ?_ ?_ _ | with_reducible refine Blk3.below ?_ (by assumption) ?_ | with_reducible refine Blk.below ?_ (by assumption) ?_)) <;> (first | (simp; done) | (simp; omega) | omega))
  have kA : Blk w8 (w2.heap.size + 1 + 1 + 1) 26 #[.string ⟨#[99, 111, 108]⟩, .int .i64 0, .int .i64 0, .string ⟨#[]⟩, .string ⟨#[97]⟩, .slice none 0 0] := by rw [← hw8]; ((repeat' (first | with_reducible assumption | with_reducible refine Blk.drew ?_ | with_reducible refine Blk.drewN ?_ _ | with_reducible refine Blk.set3 ?_ _ _ _ | with_reducible refine Blk.far ?_ ?_ _ | ((with_reducible refine Blk.new' _ _ _ _ ?_) <;> (first | (simp; done) | (simp; omega) | omega) <;> done) | with_reducible refine Blk.alloc ?_ _ | with_reducible refine Blk3.drew ?_ | with_reducible refine Blk3.drewN ?_ _ | ((with_reducible refine Blk3.new' _ _ _ _ _ _ ?_) <;> (first | (simp; done) | (simp; omega) | omega) <;> done) | with_reducible refine Blk3.alloc ?_ _ | with_reducible refine Blk3.far ?_ ?_ _ | with_reducible refine Blk3.below ?_ (by assumption) ?_ | with_reducible refine Blk.below ?_ (by assumption) ?_)) <;> (first | (simp; done) | (simp; omega) | omega))
  have kL : Blk w8 (w2.heap.size + 1 + 1 + 1 + 1) 26 #[.string ⟨#[99, 111, 108]⟩, .int .i64 0, .int .i64 0, .string ⟨#[]⟩, .string ⟨#[97]⟩, .slice none 0 0, .string ⟨#[108, 105, 116]⟩, .int .i64 1, .int .i64 1, .string ⟨#[]⟩, .string ⟨#[]⟩, .slice none 0 0] := by rw [← hw8]; ((repeat' (first | with_reducible assumption | with_reducible refine Blk.drew ?_ | with_reducible refine Blk.drewN ?_ _ | with_reducible refine Blk.set3 ?_ _ _ _ | with_reducible refine Blk.far ?_ ?_ _ | ((with_reducible refine Blk.new' _ _ _ _ ?_) <;> (first | (simp; done) | (simp; omega) | omega) <;> done) | with_reducible refine Blk.alloc ?_ _ | with_reducible refine Blk3.drew ?_ | with_reducible refine Blk3.drewN ?_ _ | ((with_reducible refine Blk3.new' _ _ _ _ _ _ ?_) <;> (first | (simp; done) | (simp; omega) | omega) <;> done) | with_reducible refine Blk3.alloc ?_ _ | with_reducible refine Blk3.far ?_ ?_ _ | with_reducible refine Blk3.below ?_ (by assumption) ?_ | with_reducible refine Blk.below ?_ (by assumption) ?_)) <;> (first | (simp; done) | (simp; omega) | omega))
  have kV : Blk w8 (w2.heap.size + 1 + 1 + 1 + 1 + 1) 23 #[.int .i64 1, .int .i64 9223372036854775807, .string ⟨#[]⟩] := by rw [← hw8]; ((repeat' (first | with_reducible assumption | with_reducible refine Blk.drew ?_ | with_reducible refine Blk.drewN ?_ _ | with_reducible refine Blk.set3 ?_ _ _ _ | with_reducible refine Blk.far ?_ ?_ _ | ((with_reducible refine Blk.new' _ _ _ _ ?_) <;> (first | (simp; done) | (simp; omega) | omega) <;> done) | with_reducible refine Blk.alloc ?_ _ | with_reducible refine Blk3.drew ?_ | with_reducible refine Blk3.drewN ?_ _ | ((with_reducible refine Blk3.new' _ _ _ _ _ _ ?_) <;> (first | (simp; done) | (simp; omega) | omega) <;> done) | with_reducible refine Blk3.alloc ?_ _ | with_reducible refine Blk3.far ?_ ?_ _ | with_reducible refine Blk3.below ?_ (by assumption) ?_ | with_reducible refine Blk.below ?_ (by assumption) ?_)) <;> (first | (simp; done) | (simp; omega) | omega))
  have hb8 : Below w2.heap.size w2 w8 := by rw [← hw8]; ((repeat' (first | with_reducible exact Below.refl _ _ | with_reducible assumption | with_reducible refine Below.drew ?_ | with_reducible refine below_drewN ?_ _ | with_reducible refine Below.setCell ?_ ?_ _ | with_reducible refine Below.alloc ?_ ?_ _ | with_reducible refine Below.trans ?_ (Below.mono (by assumption) ?_))) <;> (first | (simp; done) | (simp; omega) | omega))
  have HW8 := Lib.hid hw8
  have HEV := Lib.hid (evalP_any w8 _ _ _ kC kL kV)
  clear hw8 kL kV
  go_wp2_with fail
  rw [HW8.out]
  refine HEV.out.mono ?_
  rintro en w9 ⟨rfl, hb9⟩
  clear HW8 HEV
  have kE9 := kE.below hb9 kE.lt
  have kC9 := kC.below hb9 kC.lt
  have kA9 := kA.below hb9 kA.lt
  have hbw9 := (hbw2.trans (hb8.mono hbw2.size)).trans (hb9.mono (Nat.le_trans hbw2.size hb8.size))
  have hz9 := hbw9.size
  have lE9 := kE9.lt
  have lC9 := kC9.lt
  have lA9 := kA9.lt
  clear kE kC kA hb8 hb9 hbw2
  obtain ⟨w10, hw10⟩ : ∃ w10, (w9.alloc (.cells #[.int .i64 0, .int .i64 0, .string ⟨#[]⟩] 23)).alloc (.cells #[.string ⟨#[99, 111, 108]⟩, .int .i64 0, .int .i64 0, .string ⟨#[]⟩, .string ⟨#[97]⟩, .slice none 0 0, .string ⟨#[108, 105, 116]⟩, .int .i64 3, .int .i64 1, .string ⟨#[]⟩, .string ⟨#[]⟩, .slice none 0 0] 26) = w10 := ⟨_, rfl⟩
  have kC10 : Blk w10 (w2.heap.size + 1) 67 #[.string ⟨#[97]⟩, .int .i64 1, .bool false] := by rw [← hw10]; ((repeat' (first | with_reducible assumption | with_reducible refine Blk.drew ?_ | with_reducible refine Blk.drewN ?_ _ | with_reducible refine Blk.set3 ?_ _ _ _ | with_reducible refine Blk.far ?_ ?_ _ | ((with_reducible refine Blk.new' _ _ _ _ ?_) <;> (first | (simp; done) | (simp; omega) | omega) <;> done) | with_reducible refine Blk.alloc ?_ _ | with_reducible refine Blk3.drew ?_ | with_reducible refine Blk3.drewN ?_ _ | ((with_reducible refine Blk3.new' _ _ _ _ _ _ ?_) <;> (first | (simp; done) | (simp; omega) | omega) <;> done) | with_reducible refine Blk3.alloc ?_ _ | with_reducible refine Blk3.far ?_ ?_ _ | with_reducible refine Blk3.below ?_ (by assumption) ?_ | with_reducible refine Blk.below ?_ (by assumption) ?_)) <;> (first | (simp; done) | (simp; omega) | omega))
  have kE10 : Blk w10 w2.heap.size 26 #[.string ⟨#[111, 114]⟩, .int .i64 0, .int .i64 0, .string ⟨#[]⟩, .string ⟨#[]⟩, .slice A2 2 c2] := by rw [← hw10]; ((repeat' (first | with_reducible assumption | with_reducible refine Blk.drew ?_ | with_reducible refine Blk.drewN ?_ _ | with_reducible refine Blk.set3 ?_ _ _ _ | with_reducible refine Blk.far ?_ ?_ _ | ((with_reducible refine Blk.new' _ _ _ _ ?_) <;> (first | (simp; done) | (simp; omega) | omega) <;> done) | with_reducible refine Blk.alloc ?_ _ | with_reducible refine Blk3.drew ?_ | with_reducible refine Blk3.drewN ?_ _ | ((with_reducible refine Blk3.new' _ _ _ _ _ _ ?_) <;> (first | (simp; done) | (simp; omega) | omega) <;> done) | with_reducible refine Blk3.alloc ?_ _ | with_reducible refine Blk3.far ?_ ?_ _ | with_reducible refine Blk3.below ?_ (by assumption) ?_ | with_reducible refine Blk.below ?_ (by assumption) ?_)) <;> (first | (simp; done) | (simp; omega) | omega))
  have kV10 : Blk w10 w9.heap.size 23 #[.int .i64 0, .int .i64 0, .string ⟨#[]⟩] := by rw [← hw10]; ((repeat' (first | with_reducible assumption | with_reducible refine Blk.drew ?_ | with_reducible refine Blk.drewN ?_ _ | with_reducible refine Blk.set3 ?_ _ _ _ | with_reducible refine Blk.far ?_ ?_ _ | ((with_reducible refine Blk.new' _ _ _ _ ?_) <;> (first | (simp; done) | (simp; omega) | omega) <;> done) | with_reducible refine Blk.alloc ?_ _ | with_reducible refine Blk3.drew ?_ | with_reducible refine Blk3.drewN ?_ _ | ((with_reducible refine Blk3.new' _ _ _ _ _ _ ?_) <;> (first | (simp; done) | (simp; omega) | omega) <;> done) | with_reducible refine Blk3.alloc ?_ _ | with_reducible refine Blk3.far ?_ ?_ _ | with_reducible refine Blk3.below ?_ (by assumption) ?_ | with_reducible refine Blk.below ?_ (by assumption) ?_)) <;> (first | (simp; done) | (simp; omega) | omega))
  have kL10 : Blk w10 (w9.heap.size + 1) 26 #[.string ⟨#[99, 111, 108]⟩, .int .i64 0, .int .i64 0, .string ⟨#[]⟩, .string ⟨#[97]⟩, .slice none 0 0, .string ⟨#[108, 105, 116]⟩, .int .i64 3, .int .i64 1, .string ⟨#[]⟩, .string ⟨#[]⟩, .slice none 0 0] := by rw [← hw10]; ((repeat' (first | with_reducible assumption | with_reducible refine Blk.drew ?_ | with_reducible refine Blk.drewN ?_ _ | with_reducible refine Blk.set3 ?_ _ _ _ | with_reducible refine Blk.far ?_ ?_ _ | ((with_reducible refine Blk.new' _ _ _ _ ?_) <;> (first | (simp; done) | (simp; omega) | omega) <;> done) | with_reducible refine Blk.alloc ?_ _ | with_reducible refine Blk3.drew ?_ | with_reducible refine Blk3.drewN ?_ _ | ((with_reducible refine Blk3.new' _ _ _ _ _ _ ?_) <;> (first | (simp; done) | (simp; omega) | omega) <;> done) | with_reducible refine Blk3.alloc ?_ _ | with_reducible refine Blk3.far ?_ ?_ _ | with_reducible refine Blk3.below ?_ (by assumption) ?_ | with_reducible refine Blk.below ?_ (by assumption) ?_)) <;> (first | (simp; done) | (simp; omega) | omega))
  have hb10 : Below w9.heap.size w9 w10 := by rw [← hw10]; ((repeat' (first | with_reducible exact Below.refl _ _ | with_reducible assumption | with_reducible refine Below.drew ?_ | with_reducible refine below_drewN ?_ _ | with_reducible refine Below.setCell ?_ ?_ _ | with_reducible refine Below.alloc ?_ ?_ _ | with_reducible refine Below.trans ?_ (Below.mono (by assumption) ?_))) <;> (first | (simp; done) | (simp; omega) | omega))
  have HW10 := Lib.hid hw10
  have HTY := Lib.hid (typeB_any w10 _ _ kC10 kL10)
  have a0 := kA9.cell 0
  have a1 := kA9.cell 1
  have a2 := kA9.cell 2
  have a3 := kA9.cell 3
  have a4 := kA9.cell 4
  have a5 := kA9.cell 5
  simp at a0 a1 a2 a3 a4 a5
  clear hw10 kL10
  go_wp2_with fail
  rw [HW10.out]
  refine HTY.out.mono ?_
  rintro en w11 ⟨rfl, hb11⟩
  clear HW10 HTY a0 a1 a2 a3 a4 a5
  have kE11 := kE10.below hb11 kE10.lt
  have kV11 := kV10.below hb11 kV10.lt
  have hbw11 := (hbw9.trans (hb10.mono hz9)).trans (hb11.mono (Nat.le_trans hz9 hb10.size))
  obtain ⟨⟨v0, v1, v2⟩, _⟩ := kV11.three
  have a0 := kE11.cell 0
  have a5 := kE11.cell 5
  simp at a0 a5
  go_wp2_with fail
  go_ret
  exact ⟨rfl, hbw11⟩

end Go.Proofs.YtdnkkkgneikhkaaGreatDoor
