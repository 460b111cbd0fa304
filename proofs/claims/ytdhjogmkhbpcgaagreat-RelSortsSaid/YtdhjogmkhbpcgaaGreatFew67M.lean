/- caddislaw06.text and Few: a table of which no more is looked at than may be. Condition: a table that reads as one. caddislaw07.Few: a table with rows of which no more is looked at than may be. Condition: a table with rows that reads as one. -/
import Derived.Test.YtdhjogmkhbpcgaaGreatTake
import Derived.Test.YtdhjogmkhbpcgaaGreatGotM
import Derived.Test.YtdhjogmkhbpcgaaGreatRowsM
import Derived.Deep.AppendLies
import Derived.Deep.CutBlock
import Derived.Deep.DeepCutAuto
import Derived.Test.YtdhjogmkhbpcgaaGreatWhere
namespace Go.Proofs.YtdhjogmkhbpcgaaGreat
open Go.RowKit

attribute [local go_sem] ByteArray.extract_mk ba_get ba_append
attribute [local go_sem ↓] Go.wp_at_zero Go.wp_at_succ run_eql_V run_neq_V

theorem text20_any (s : List UInt8) (w : World) : Calls Tryz.prog 45 #[.string ⟨s.toArray⟩] w (Ret (.string ⟨(s.take 20).toArray⟩) w) := by
  by_cases hk : s.length ≤ 20
  · have HT : Hid (s.take 20 = s) := List.take_of_length_le hk
    rw [HT.out]
    go_enter Tryz.func45, Tryz.ntmps45
    go_wp2_with fail
    go_ret
    exact ⟨rfl, Below.refl _ _⟩
  · go_enter Tryz.func45, Tryz.ntmps45
    go_wp2_with fail
    go_ret
    exact ⟨rfl, Below.refl _ _⟩

theorem infoI6 : (Tryz.prog.info? 3).map (fun i => (i.zero, i.size, i.bytes)) = some (some (.int .i64 0), 1, 8) := by kernel_rfl
theorem infoF6 : (Tryz.prog.info? 80).map (fun i => (i.zero, i.size, i.bytes)) = some (some (.agg #[.int .i64 0, .string ⟨#[]⟩]), 2, 24) := by kernel_rfl
theorem grown_set6 (w : World) (p : Addr) (u : Value) : w.grownBy (w.setCell p u) (some p.block) := ⟨rfl, rfl, rfl, by simp, fun k _ hne => Below.heap_setCell w p u k (fun e => hne (by rw [e]))⟩
theorem But.grown {p : Nat} {a w w' : World} {row : Option Nat} (h : But p a w) (hg : w.grownBy w' row) (hr : ∀ k, row = some k → a.heap.size ≤ k) : But p a w' :=
  ⟨hg.os.trans h.os, hg.tape.trans h.tape, hg.output.trans h.output, Nat.le_trans h.size hg.size, fun k hk hp => (hg.block k (Nat.lt_of_lt_of_le hk h.size) (fun e => by have := hr k e.symm; omega)).trans (h.block k hk hp)⟩
def fewFr (r : Fr) : Fr := ⟨r.c, r.t.take 20⟩
def Fr.cells (r : Fr) : List Value := [.int .i64 r.c, .string ⟨r.t.toArray⟩]
theorem fr_at : ∀ (l : List Fr) (i j : Nat) (v : Fr), l[i]? = some v → j < 2 → (l.flatMap Fr.cells)[i * 2 + j]? = v.cells[j]? := by
  intro l
  induction l with
  | nil => intro i j v h; simp at h
  | cons x r ih =>
    intro i j v h hj
    cases i with
    | zero =>
      simp at h; subst h
      rw [List.flatMap_cons, List.getElem?_append_left (by simp [Fr.cells]; omega)]
      simp
    | succ i =>
      rw [List.flatMap_cons, List.getElem?_append_right (by simp [Fr.cells]; omega)]
      have e : (i + 1) * 2 + j - x.cells.length = i * 2 + j := by simp [Fr.cells]; omega
      rw [e]
      exact ih i j v (by simpa using h) hj
theorem fr_len (l : List Fr) : (l.flatMap Fr.cells).length = l.length * 2 := by
  induction l with
  | nil => rfl
  | cons x r ih => rw [List.flatMap_cons, List.length_append, ih, List.length_cons]; simp [Fr.cells]; omega
theorem FQ.own {w : World} {base : Nat} {e : TypeId} {sv : Value} {n : Nat} {l : List Fr} (h : w.ownsRow base e 2 sv n (l.flatMap Fr.cells)) :
    ∃ A c, sv = .slice A l.length c ∧ FQ l A (fun b => base ≤ b ∧ b < w.heap.size) w := by
  have hn : l.length = n := by have := h.1; rw [fr_len] at this; omega
  rcases h.2 with ⟨rfl, h0⟩ | ⟨g, cap, cur, rfl, hb, hg, hnc, hcm, hcs, htk⟩
  · refine ⟨none, 0, ?_, fun hl => absurd hl (by omega)⟩
    rw [hn, h0]
  · refine ⟨some ⟨g, 0, none⟩, cap, by rw [hn], fun _ => ⟨g, 0, rfl, ⟨hb, (Array.getElem?_eq_some_iff.1 hg).1⟩, fun i v hv => ?_⟩⟩
    have hc := h.cells (g := g) rfl
    have key : ∀ j u, j < 2 → v.cells[j]? = some u → w.cell? ⟨g, 0 + i * 2 + j, none⟩ = some u := by
      intro j u hj hu
      have := hc (i * 2 + j) u (by rw [fr_at l i j v hv hj]; exact hu)
      rw [add_mid] at this
      rw [Nat.add_assoc]
      exact this
    exact ⟨key 0 _ (by omega) rfl, key 1 _ (by omega) rfl⟩
def bld6 (N : List UInt8) (key : Int) (u13 : Value) (u16 : Value) : Value := .agg (#[.string ⟨N.toArray⟩, u13, .int .i64 key, .slice none 0 0, .slice none 0 0] ++ (match u16 with | .agg a => a | _ => #[]))
/-- A table whose lists are still empty. -/
def Few6R (W : World) (N : List UInt8) (CO : List Col) (X : Ex) (key : Int) (s3 : Value) (wx : World) : Prop :=
  ∃ g A3 c3 A4 c4, s3 = .pointer (some ⟨g, 0, none⟩) ∧ Blk wx g 31 #[.string ⟨N.toArray⟩, .slice A3 CO.length c3, .int .i64 key, .slice none 0 0, .slice none 0 0, .string ⟨X.op.toArray⟩, .int .i64 X.v.k, .int .i64 X.v.i, .string ⟨X.v.s.toArray⟩, .string ⟨X.s.toArray⟩, .slice A4 X.l.length c4] ∧
    Hid (CQ CO A3 (fun b => (W.heap.size ≤ b ∧ b < wx.heap.size) ∧ b ≠ g) wx) ∧ Hid (ExR (fun b => (W.heap.size ≤ b ∧ b < wx.heap.size) ∧ b ≠ g) X A4 c4 wx) ∧ W.heap.size ≤ g ∧ Below W.heap.size W wx
theorem few6_end {W wv : World} {g : Nat} {N : List UInt8} {CO : List Col} {X : Ex} {key : Int} {A3 A4 : Option Addr} {c3 c4 : Nat} {Q : Nat → Prop} (hQ : ∀ b, Q b → (W.heap.size ≤ b ∧ b < wv.heap.size) ∧ b ≠ g)
    (hX : ExR Q X A4 c4 wv) (hC : CQ CO A3 Q wv) (k1 : Blk wv g 31 #[.string ⟨#[]⟩, .slice none 0 0, .int .i64 0, .slice none 0 0, .slice none 0 0, .string ⟨#[]⟩, .int .i64 0, .int .i64 0, .string ⟨#[]⟩, .string ⟨#[]⟩, .slice none 0 0]) (hb : Below W.heap.size W wv) (m1 : W.heap.size ≤ g) :
    Few6R W N CO X key (.pointer (some ⟨g, 0, none⟩)) (((((((((((wv.setCell ⟨g, 0, none⟩ (.string ⟨N.toArray⟩)).setCell ⟨g, 1, none⟩ (.slice A3 CO.length c3)).setCell ⟨g, 2, none⟩ (.int .i64 key)).setCell ⟨g, 3, none⟩ (.slice none 0 0)).setCell ⟨g, 4, none⟩ (.slice none 0 0)).setCell ⟨g, 5, none⟩ (.string ⟨X.op.toArray⟩)).setCell ⟨g, 6, none⟩ (.int .i64 X.v.k)).setCell ⟨g, 7, none⟩ (.int .i64 X.v.i)).setCell ⟨g, 8, none⟩ (.string ⟨X.v.s.toArray⟩)).setCell ⟨g, 9, none⟩ (.string ⟨X.s.toArray⟩)).setCell ⟨g, 10, none⟩ (.slice A4 X.l.length c4)) := by
  have q0 : Blk (wv.setCell ⟨g, 0, none⟩ (.string ⟨N.toArray⟩)) g 31 #[.string ⟨N.toArray⟩, .slice none 0 0, .int .i64 0, .slice none 0 0, .slice none 0 0, .string ⟨#[]⟩, .int .i64 0, .int .i64 0, .string ⟨#[]⟩, .string ⟨#[]⟩, .slice none 0 0] := k1.set_ 0 _
  have q1 : Blk ((wv.setCell ⟨g, 0, none⟩ (.string ⟨N.toArray⟩)).setCell ⟨g, 1, none⟩ (.slice A3 CO.length c3)) g 31 #[.string ⟨N.toArray⟩, .slice A3 CO.length c3, .int .i64 0, .slice none 0 0, .slice none 0 0, .string ⟨#[]⟩, .int .i64 0, .int .i64 0, .string ⟨#[]⟩, .string ⟨#[]⟩, .slice none 0 0] := q0.set_ 1 _
  have q2 : Blk (((wv.setCell ⟨g, 0, none⟩ (.string ⟨N.toArray⟩)).setCell ⟨g, 1, none⟩ (.slice A3 CO.length c3)).setCell ⟨g, 2, none⟩ (.int .i64 key)) g 31 #[.string ⟨N.toArray⟩, .slice A3 CO.length c3, .int .i64 key, .slice none 0 0, .slice none 0 0, .string ⟨#[]⟩, .int .i64 0, .int .i64 0, .string ⟨#[]⟩, .string ⟨#[]⟩, .slice none 0 0] := q1.set_ 2 _
  have q3 : Blk ((((wv.setCell ⟨g, 0, none⟩ (.string ⟨N.toArray⟩)).setCell ⟨g, 1, none⟩ (.slice A3 CO.length c3)).setCell ⟨g, 2, none⟩ (.int .i64 key)).setCell ⟨g, 3, none⟩ (.slice none 0 0)) g 31 #[.string ⟨N.toArray⟩, .slice A3 CO.length c3, .int .i64 key, .slice none 0 0, .slice none 0 0, .string ⟨#[]⟩, .int .i64 0, .int .i64 0, .string ⟨#[]⟩, .string ⟨#[]⟩, .slice none 0 0] := q2.set_ 3 _
  have q4 : Blk (((((wv.setCell ⟨g, 0, none⟩ (.string ⟨N.toArray⟩)).setCell ⟨g, 1, none⟩ (.slice A3 CO.length c3)).setCell ⟨g, 2, none⟩ (.int .i64 key)).setCell ⟨g, 3, none⟩ (.slice none 0 0)).setCell ⟨g, 4, none⟩ (.slice none 0 0)) g 31 #[.string ⟨N.toArray⟩, .slice A3 CO.length c3, .int .i64 key, .slice none 0 0, .slice none 0 0, .string ⟨#[]⟩, .int .i64 0, .int .i64 0, .string ⟨#[]⟩, .string ⟨#[]⟩, .slice none 0 0] := q3.set_ 4 _
  have q5 : Blk ((((((wv.setCell ⟨g, 0, none⟩ (.string ⟨N.toArray⟩)).setCell ⟨g, 1, none⟩ (.slice A3 CO.length c3)).setCell ⟨g, 2, none⟩ (.int .i64 key)).setCell ⟨g, 3, none⟩ (.slice none 0 0)).setCell ⟨g, 4, none⟩ (.slice none 0 0)).setCell ⟨g, 5, none⟩ (.string ⟨X.op.toArray⟩)) g 31 #[.string ⟨N.toArray⟩, .slice A3 CO.length c3, .int .i64 key, .slice none 0 0, .slice none 0 0, .string ⟨X.op.toArray⟩, .int .i64 0, .int .i64 0, .string ⟨#[]⟩, .string ⟨#[]⟩, .slice none 0 0] := q4.set_ 5 _
  have q6 : Blk (((((((wv.setCell ⟨g, 0, none⟩ (.string ⟨N.toArray⟩)).setCell ⟨g, 1, none⟩ (.slice A3 CO.length c3)).setCell ⟨g, 2, none⟩ (.int .i64 key)).setCell ⟨g, 3, none⟩ (.slice none 0 0)).setCell ⟨g, 4, none⟩ (.slice none 0 0)).setCell ⟨g, 5, none⟩ (.string ⟨X.op.toArray⟩)).setCell ⟨g, 6, none⟩ (.int .i64 X.v.k)) g 31 #[.string ⟨N.toArray⟩, .slice A3 CO.length c3, .int .i64 key, .slice none 0 0, .slice none 0 0, .string ⟨X.op.toArray⟩, .int .i64 X.v.k, .int .i64 0, .string ⟨#[]⟩, .string ⟨#[]⟩, .slice none 0 0] := q5.set_ 6 _
  have q7 : Blk ((((((((wv.setCell ⟨g, 0, none⟩ (.string ⟨N.toArray⟩)).setCell ⟨g, 1, none⟩ (.slice A3 CO.length c3)).setCell ⟨g, 2, none⟩ (.int .i64 key)).setCell ⟨g, 3, none⟩ (.slice none 0 0)).setCell ⟨g, 4, none⟩ (.slice none 0 0)).setCell ⟨g, 5, none⟩ (.string ⟨X.op.toArray⟩)).setCell ⟨g, 6, none⟩ (.int .i64 X.v.k)).setCell ⟨g, 7, none⟩ (.int .i64 X.v.i)) g 31 #[.string ⟨N.toArray⟩, .slice A3 CO.length c3, .int .i64 key, .slice none 0 0, .slice none 0 0, .string ⟨X.op.toArray⟩, .int .i64 X.v.k, .int .i64 X.v.i, .string ⟨#[]⟩, .string ⟨#[]⟩, .slice none 0 0] := q6.set_ 7 _
  have q8 : Blk (((((((((wv.setCell ⟨g, 0, none⟩ (.string ⟨N.toArray⟩)).setCell ⟨g, 1, none⟩ (.slice A3 CO.length c3)).setCell ⟨g, 2, none⟩ (.int .i64 key)).setCell ⟨g, 3, none⟩ (.slice none 0 0)).setCell ⟨g, 4, none⟩ (.slice none 0 0)).setCell ⟨g, 5, none⟩ (.string ⟨X.op.toArray⟩)).setCell ⟨g, 6, none⟩ (.int .i64 X.v.k)).setCell ⟨g, 7, none⟩ (.int .i64 X.v.i)).setCell ⟨g, 8, none⟩ (.string ⟨X.v.s.toArray⟩)) g 31 #[.string ⟨N.toArray⟩, .slice A3 CO.length c3, .int .i64 key, .slice none 0 0, .slice none 0 0, .string ⟨X.op.toArray⟩, .int .i64 X.v.k, .int .i64 X.v.i, .string ⟨X.v.s.toArray⟩, .string ⟨#[]⟩, .slice none 0 0] := q7.set_ 8 _
  have q9 : Blk ((((((((((wv.setCell ⟨g, 0, none⟩ (.string ⟨N.toArray⟩)).setCell ⟨g, 1, none⟩ (.slice A3 CO.length c3)).setCell ⟨g, 2, none⟩ (.int .i64 key)).setCell ⟨g, 3, none⟩ (.slice none 0 0)).setCell ⟨g, 4, none⟩ (.slice none 0 0)).setCell ⟨g, 5, none⟩ (.string ⟨X.op.toArray⟩)).setCell ⟨g, 6, none⟩ (.int .i64 X.v.k)).setCell ⟨g, 7, none⟩ (.int .i64 X.v.i)).setCell ⟨g, 8, none⟩ (.string ⟨X.v.s.toArray⟩)).setCell ⟨g, 9, none⟩ (.string ⟨X.s.toArray⟩)) g 31 #[.string ⟨N.toArray⟩, .slice A3 CO.length c3, .int .i64 key, .slice none 0 0, .slice none 0 0, .string ⟨X.op.toArray⟩, .int .i64 X.v.k, .int .i64 X.v.i, .string ⟨X.v.s.toArray⟩, .string ⟨X.s.toArray⟩, .slice none 0 0] := q8.set_ 9 _
  have q : Blk (((((((((((wv.setCell ⟨g, 0, none⟩ (.string ⟨N.toArray⟩)).setCell ⟨g, 1, none⟩ (.slice A3 CO.length c3)).setCell ⟨g, 2, none⟩ (.int .i64 key)).setCell ⟨g, 3, none⟩ (.slice none 0 0)).setCell ⟨g, 4, none⟩ (.slice none 0 0)).setCell ⟨g, 5, none⟩ (.string ⟨X.op.toArray⟩)).setCell ⟨g, 6, none⟩ (.int .i64 X.v.k)).setCell ⟨g, 7, none⟩ (.int .i64 X.v.i)).setCell ⟨g, 8, none⟩ (.string ⟨X.v.s.toArray⟩)).setCell ⟨g, 9, none⟩ (.string ⟨X.s.toArray⟩)).setCell ⟨g, 10, none⟩ (.slice A4 X.l.length c4)) g 31 #[.string ⟨N.toArray⟩, .slice A3 CO.length c3, .int .i64 key, .slice none 0 0, .slice none 0 0, .string ⟨X.op.toArray⟩, .int .i64 X.v.k, .int .i64 X.v.i, .string ⟨X.v.s.toArray⟩, .string ⟨X.s.toArray⟩, .slice A4 X.l.length c4] := q9.set_ 10 _
  clear q0 q1 q2 q3 q4 q5 q6 q7 q8 q9
  have bt : But g wv (((((((((((wv.setCell ⟨g, 0, none⟩ (.string ⟨N.toArray⟩)).setCell ⟨g, 1, none⟩ (.slice A3 CO.length c3)).setCell ⟨g, 2, none⟩ (.int .i64 key)).setCell ⟨g, 3, none⟩ (.slice none 0 0)).setCell ⟨g, 4, none⟩ (.slice none 0 0)).setCell ⟨g, 5, none⟩ (.string ⟨X.op.toArray⟩)).setCell ⟨g, 6, none⟩ (.int .i64 X.v.k)).setCell ⟨g, 7, none⟩ (.int .i64 X.v.i)).setCell ⟨g, 8, none⟩ (.string ⟨X.v.s.toArray⟩)).setCell ⟨g, 9, none⟩ (.string ⟨X.s.toArray⟩)).setCell ⟨g, 10, none⟩ (.slice A4 X.l.length c4)) := ((((((((((((But.refl g wv).set 0 _).set 1 _).set 2 _).set 3 _).set 4 _).set 5 _).set 6 _).set 7 _).set 8 _).set 9 _).set 10 _)
  have hbw : Below W.heap.size W (((((((((((wv.setCell ⟨g, 0, none⟩ (.string ⟨N.toArray⟩)).setCell ⟨g, 1, none⟩ (.slice A3 CO.length c3)).setCell ⟨g, 2, none⟩ (.int .i64 key)).setCell ⟨g, 3, none⟩ (.slice none 0 0)).setCell ⟨g, 4, none⟩ (.slice none 0 0)).setCell ⟨g, 5, none⟩ (.string ⟨X.op.toArray⟩)).setCell ⟨g, 6, none⟩ (.int .i64 X.v.k)).setCell ⟨g, 7, none⟩ (.int .i64 X.v.i)).setCell ⟨g, 8, none⟩ (.string ⟨X.v.s.toArray⟩)).setCell ⟨g, 9, none⟩ (.string ⟨X.s.toArray⟩)).setCell ⟨g, 10, none⟩ (.slice A4 X.l.length c4)) := by exact bl
  generalize (((((((((((wv.setCell ⟨g, 0, none⟩ (.string ⟨N.toArray⟩)).setCell ⟨g, 1, none⟩ (.slice A3 CO.length c3)).setCell ⟨g, 2, none⟩ (.int .i64 key)).setCell ⟨g, 3, none⟩ (.slice none 0 0)).setCell ⟨g, 4, none⟩ (.slice none 0 0)).setCell ⟨g, 5, none⟩ (.string ⟨X.op.toArray⟩)).setCell ⟨g, 6, none⟩ (.int .i64 X.v.k)).setCell ⟨g, 7, none⟩ (.int .i64 X.v.i)).setCell ⟨g, 8, none⟩ (.string ⟨X.v.s.toArray⟩)).setCell ⟨g, 9, none⟩ (.string ⟨X.s.toArray⟩)).setCell ⟨g, 10, none⟩ (.slice A4 X.l.length c4)) = wx at *
  have hk : ∀ b, Q b → ((W.heap.size ≤ b ∧ b < wx.heap.size) ∧ b ≠ g) ∧ ∀ o, wx.cell? ⟨b, o, none⟩ = wv.cell? ⟨b, o, none⟩ := fun b h => by
    obtain ⟨⟨h1, h2⟩, h3⟩ := hQ b h
    exact ⟨⟨⟨h1, Nat.lt_of_lt_of_le h2 bt.size⟩, h3⟩, fun o => bt.cell h2 h3 o⟩
  exact ⟨g, A3, c3, A4, c4, rfl, q, hC.keep hk, hX.keep hk, m1, hbw⟩
def F6I (W : World) (N : List UInt8) (CO : List Col) (X : Ex) (key : Int) (F : Value → Value → Value → Value → Value → Array Value) (L : Array Bool) (a : Act) (w : World) : Prop :=
  L.size = 14 ∧ (Up L 0 ∧ Up L 1 ∧ Up L 3 ∧ Up L 4 ∧ Up L 5 ∧ Up L 6 ∧ Up L 8 ∧ Up L 9) ∧ L.getD 13 true = false ∧ (Up L 11 → Up L 10) ∧ (Up L 10 → Up L 7) ∧ (Up L 7 → Up L 2) ∧ Below W.heap.size W w ∧
    ∃ U3 U8 U13 U16 U17, a = ⟨F U3 U8 U13 U16 U17, []⟩ ∧ Slot L 2 U8 (.string ⟨N.toArray⟩) ∧ New1 L 12 W.heap.size 31 #[.string ⟨#[]⟩, .slice none 0 0, .int .i64 0, .slice none 0 0, .slice none 0 0, .string ⟨#[]⟩, .int .i64 0, .int .i64 0, .string ⟨#[]⟩, .string ⟨#[]⟩, .slice none 0 0] w U3 ∧
      Had1 L 7 (GotK CO U13) (Av1 L 12 W.heap.size U3 w) w ∧ Had1 L 10 (GotX X U16) (Av1 L 12 W.heap.size U3 w) w ∧ (Up L 11 → U17 = bld6 N key U13 U16)
/-- What a call leaves that answers a table. -/
def RetTb (T : Tb) (w : World) (en : Ending) (w' : World) : Prop := ∃ p : TbP, en = .returned (.agg (T.cells p).toArray) ∧ TbQ 1000 T p (fun b => w.heap.size ≤ b ∧ b < w'.heap.size) w' ∧ Below w.heap.size w w'
theorem few6_fin {w W3 : World} {r : Nat} {N : List UInt8} {CO : List Col} {key : Int} {U : List Int} {R : List Fr} {X : Ex} {A3 AU AR A4 : Option Addr} {c3 cU cR c4 : Nat} (hb : Below w.heap.size w W3) (hr : w.heap.size ≤ r)
    (hC : CQ CO A3 (fun b => r < b ∧ b < W3.heap.size) W3) (hU : IQ U AU (fun b => r < b ∧ b < W3.heap.size) W3) (hR : FQ R AR (fun b => r < b ∧ b < W3.heap.size) W3) (hX : ExR (fun b => r < b ∧ b < W3.heap.size) X A4 c4 W3) :
    RetTb ⟨N, CO, key, U, R, X⟩ w (.returned (.agg #[.string ⟨N.toArray⟩, .slice A3 CO.length c3, .int .i64 key, .slice AU U.length cU, .slice AR R.length cR, .string ⟨X.op.toArray⟩, .int .i64 X.v.k, .int .i64 X.v.i, .string ⟨X.v.s.toArray⟩, .string ⟨X.s.toArray⟩, .slice A4 X.l.length c4])) (((((((((((W3.setCell ⟨r, 0, none⟩ (.string ⟨N.toArray⟩)).setCell ⟨r, 1, none⟩ (.slice A3 CO.length c3)).setCell ⟨r, 2, none⟩ (.int .i64 key)).setCell ⟨r, 3, none⟩ (.slice AU U.length cU)).setCell ⟨r, 4, none⟩ (.slice AR R.length cR)).setCell ⟨r, 5, none⟩ (.string ⟨X.op.toArray⟩)).setCell ⟨r, 6, none⟩ (.int .i64 X.v.k)).setCell ⟨r, 7, none⟩ (.int .i64 X.v.i)).setCell ⟨r, 8, none⟩ (.string ⟨X.v.s.toArray⟩)).setCell ⟨r, 9, none⟩ (.string ⟨X.s.toArray⟩)).setCell ⟨r, 10, none⟩ (.slice A4 X.l.length c4)) := by
  have bt : But r W3 (((((((((((W3.setCell ⟨r, 0, none⟩ (.string ⟨N.toArray⟩)).setCell ⟨r, 1, none⟩ (.slice A3 CO.length c3)).setCell ⟨r, 2, none⟩ (.int .i64 key)).setCell ⟨r, 3, none⟩ (.slice AU U.length cU)).setCell ⟨r, 4, none⟩ (.slice AR R.length cR)).setCell ⟨r, 5, none⟩ (.string ⟨X.op.toArray⟩)).setCell ⟨r, 6, none⟩ (.int .i64 X.v.k)).setCell ⟨r, 7, none⟩ (.int .i64 X.v.i)).setCell ⟨r, 8, none⟩ (.string ⟨X.v.s.toArray⟩)).setCell ⟨r, 9, none⟩ (.string ⟨X.s.toArray⟩)).setCell ⟨r, 10, none⟩ (.slice A4 X.l.length c4)) := ((((((((((((But.refl r W3).set 0 _).set 1 _).set 2 _).set 3 _).set 4 _).set 5 _).set 6 _).set 7 _).set 8 _).set 9 _).set 10 _)
  have hbx : Below w.heap.size w (((((((((((W3.setCell ⟨r, 0, none⟩ (.string ⟨N.toArray⟩)).setCell ⟨r, 1, none⟩ (.slice A3 CO.length c3)).setCell ⟨r, 2, none⟩ (.int .i64 key)).setCell ⟨r, 3, none⟩ (.slice AU U.length cU)).setCell ⟨r, 4, none⟩ (.slice AR R.length cR)).setCell ⟨r, 5, none⟩ (.string ⟨X.op.toArray⟩)).setCell ⟨r, 6, none⟩ (.int .i64 X.v.k)).setCell ⟨r, 7, none⟩ (.int .i64 X.v.i)).setCell ⟨r, 8, none⟩ (.string ⟨X.v.s.toArray⟩)).setCell ⟨r, 9, none⟩ (.string ⟨X.s.toArray⟩)).setCell ⟨r, 10, none⟩ (.slice A4 X.l.length c4)) := by exact bl
  generalize (((((((((((W3.setCell ⟨r, 0, none⟩ (.string ⟨N.toArray⟩)).setCell ⟨r, 1, none⟩ (.slice A3 CO.length c3)).setCell ⟨r, 2, none⟩ (.int .i64 key)).setCell ⟨r, 3, none⟩ (.slice AU U.length cU)).setCell ⟨r, 4, none⟩ (.slice AR R.length cR)).setCell ⟨r, 5, none⟩ (.string ⟨X.op.toArray⟩)).setCell ⟨r, 6, none⟩ (.int .i64 X.v.k)).setCell ⟨r, 7, none⟩ (.int .i64 X.v.i)).setCell ⟨r, 8, none⟩ (.string ⟨X.v.s.toArray⟩)).setCell ⟨r, 9, none⟩ (.string ⟨X.s.toArray⟩)).setCell ⟨r, 10, none⟩ (.slice A4 X.l.length c4)) = wx at *
  have hk : ∀ b, (r < b ∧ b < W3.heap.size) → (w.heap.size ≤ b ∧ b < wx.heap.size) ∧ ∀ o, wx.cell? ⟨b, o, none⟩ = W3.cell? ⟨b, o, none⟩ := fun b h => ⟨⟨by omega, by have := bt.size; omega⟩, fun o => bt.cell h.2 (by omega) o⟩
  obtain ⟨_, _, _, m, hm⟩ := hX
  exact ⟨⟨⟨A3, c3⟩, ⟨AU, cU⟩, ⟨AR, cR⟩, ⟨A4, c4⟩⟩, rfl, ⟨hC.keep hk, hU.keep hk, hR.keep hk, m, hm.keep hk m⟩, hbx⟩
/-- The sizes of a table that came in. -/
def Tb.big (t : Tb) : Prop := t.n.length ≤ maxLen ∧ t.cols.length ≤ maxLen ∧ (∀ c ∈ t.cols, c.n.length ≤ maxLen) ∧ t.uniq.length ≤ maxLen ∧ t.refs.length ≤ maxLen ∧ (∀ r ∈ t.refs, r.t.length ≤ maxLen) ∧ t.chk.fit maxLen ∧ t.chk.l.length ≤ maxLen

set_option maxRecDepth 100000 in
set_option maxHeartbeats 8000000 in
theorem few6_any (t : Tb) (p : TbP) (w : World) (hs : t.big) (hQ : TbQ maxLen t p (Old w.heap.size) w) : Calls Tryz.prog 20 #[.agg (t.cells p).toArray] w (RetTb t.few w) := by
  obtain ⟨hn, hcl, hcn, hul, hrl, hrt, hcf, hck⟩ := hs
  obtain ⟨⟨a1, k1⟩, ⟨a2, k2⟩, ⟨a3, k3⟩, ⟨a4, k4⟩⟩ := p
  obtain ⟨hC, hU, hR, n, hE⟩ := hQ
  obtain ⟨w0, hw0⟩ : ∃ w0, (w.alloc (.cells (t.cells ⟨⟨a1, k1⟩, ⟨a2, k2⟩, ⟨a3, k3⟩, ⟨a4, k4⟩⟩).toArray 31)).alloc (.cells #[.string ⟨#[]⟩, .slice none 0 0, .int .i64 0, .slice none 0 0, .slice none 0 0, .string ⟨#[]⟩, .int .i64 0, .int .i64 0, .string ⟨#[]⟩, .string ⟨#[]⟩, .slice none 0 0] 31) = w0 := ⟨_, rfl⟩
  have kt0 : Blk w0 w.heap.size 31 (t.cells ⟨⟨a1, k1⟩, ⟨a2, k2⟩, ⟨a3, k3⟩, ⟨a4, k4⟩⟩).toArray := by rw [← hw0]; exact (Blk.new _ _ _).alloc _
  have kr0 : Blk w0 (w.heap.size + 1) 31 #[.string ⟨#[]⟩, .slice none 0 0, .int .i64 0, .slice none 0 0, .slice none 0 0, .string ⟨#[]⟩, .int .i64 0, .int .i64 0, .string ⟨#[]⟩, .string ⟨#[]⟩, .slice none 0 0] := by rw [← hw0]; exact Blk.new' _ _ _ _ (by simp)
  have hb0 : Below w.heap.size w w0 := by rw [← hw0]; exact bl
  have hz0 : w0.heap.size = w.heap.size + 2 := by rw [← hw0]; simp
  have HW := Lib.hid hw0
  have hwx : ∀ Y : World, Below w0.heap.size w0 Y → Below w.heap.size w Y := fun Y h => hb0.trans (h.mono hb0.size)
  have HSH : Hid (∀ w' : World, Below w0.heap.size w0 w' → (w'.cell? ⟨w.heap.size, 0, none⟩ = some (.string ⟨t.n.toArray⟩) ∧ w'.cell? ⟨w.heap.size, 1, none⟩ = some (.slice a1 t.cols.length k1) ∧ w'.cell? ⟨w.heap.size, 2, none⟩ = some (.int .i64 t.key) ∧ w'.cell? ⟨w.heap.size, 3, none⟩ = some (.slice a2 t.uniq.length k2) ∧ w'.cell? ⟨w.heap.size, 4, none⟩ = some (.slice a3 t.refs.length k3) ∧ w'.cell? ⟨w.heap.size, 5, none⟩ = some (.string ⟨t.chk.op.toArray⟩) ∧ w'.cell? ⟨w.heap.size, 6, none⟩ = some (.int .i64 t.chk.v.k) ∧ w'.cell? ⟨w.heap.size, 7, none⟩ = some (.int .i64 t.chk.v.i) ∧ w'.cell? ⟨w.heap.size, 8, none⟩ = some (.string ⟨t.chk.v.s.toArray⟩) ∧ w'.cell? ⟨w.heap.size, 9, none⟩ = some (.string ⟨t.chk.s.toArray⟩) ∧ w'.cell? ⟨w.heap.size, 10, none⟩ = some (.slice a4 t.chk.l.length k4))) := fun w' h => by
    have k := kt0.below h kt0.lt
    exact ⟨k.cell 0, k.cell 1, k.cell 2, k.cell 3, k.cell 4, k.cell 5, k.cell 6, k.cell 7, k.cell 8, k.cell 9, k.cell 10⟩
  have HT : Hid (∀ Y : World, Calls Tryz.prog 45 #[.string ⟨t.n.toArray⟩] Y (Ret (.string ⟨(t.n.take 20).toArray⟩) Y)) := fun Y => text20_any t.n Y
  have HFC : Hid (∀ Y : World, Below w0.heap.size w0 Y → Calls Tryz.prog 46 #[.slice a1 t.cols.length k1] Y (RetCols (fewCols t.cols) Y)) := fun Y h => cols_any a1 k1 t.cols Y hcl ((hC.keep (old_keep (hwx Y h) (hwx Y h).size)).s (fun b h => h)) hcn
  have HFX : Hid (∀ Y : World, Below w0.heap.size w0 Y → Calls Tryz.prog 9 #[.agg #[.string ⟨t.chk.op.toArray⟩, .int .i64 t.chk.v.k, .int .i64 t.chk.v.i, .string ⟨t.chk.v.s.toArray⟩, .string ⟨t.chk.s.toArray⟩, .slice a4 t.chk.l.length k4]] Y (RetFewX (fewX t.chk) Y)) := fun Y h => fewX_any t.chk a4 k4 n Y hcf hck ((hE.keep (old_keep (hwx Y h) (hwx Y h).size) n).toS (fun b h => h) n)
  have HU : Hid (∀ Y : World, Below w0.heap.size w0 Y → IQ t.uniq a2 (Old w.heap.size) Y) := fun Y h => hU.keep (fun b hb => ⟨hb, fun o => (hwx Y h).cell (p := ⟨b, o, none⟩) hb⟩)
  have HR : Hid (∀ Y : World, Below w0.heap.size w0 Y → FQ t.refs a3 (Old w.heap.size) Y) := fun Y h => hR.keep (fun b hb => ⟨hb, fun o => (hwx Y h).cell (p := ⟨b, o, none⟩) hb⟩)
  have HXF := Lib.hid (fewX_fit t.chk hcf.1)
  obtain ⟨N, hN⟩ : ∃ N, t.n.take 20 = N := ⟨_, rfl⟩
  obtain ⟨CO, hCO⟩ : ∃ CO, fewCols t.cols = CO := ⟨_, rfl⟩
  obtain ⟨X, hX⟩ : ∃ X, fewX t.chk = X := ⟨_, rfl⟩
  have HRES : Hid (t.few = ⟨N, CO, t.key, t.uniq.take 10, (t.refs.take 10).map fun r => ⟨r.c, r.t.take 20⟩, X⟩) := by show _ = _; unfold Tb.few; rw [hN, hCO, hX]
  rw [hN] at HT
  rw [hCO] at HFC
  rw [hX] at HFX HXF
  have HRT := Lib.hid hrt
  have HB0 := Lib.hid hb0
  have HZ0 := Lib.hid hz0
  clear hw0 hC hU hR hE hwx hN hCO hX hcn hrt hcf hz0
  go_enter Tryz.func20, Tryz.ntmps20
  go_upto_region 1 with fail
  rw [HW.out]
  clear HW
  dsimp only [Tb.cells]
  go_cut [3] (fun s3 wx => Few6R w0 N CO X t.key s3 wx)
  case first =>
    refine wp_region_held_drew (S := (fun w' => w'.cell? ⟨w.heap.size, 0, none⟩ = some (.string ⟨t.n.toArray⟩) ∧ w'.cell? ⟨w.heap.size, 1, none⟩ = some (.slice a1 t.cols.length k1) ∧ w'.cell? ⟨w.heap.size, 2, none⟩ = some (.int .i64 t.key) ∧ w'.cell? ⟨w.heap.size, 3, none⟩ = some (.slice a2 t.uniq.length k2) ∧ w'.cell? ⟨w.heap.size, 4, none⟩ = some (.slice a3 t.refs.length k3) ∧ w'.cell? ⟨w.heap.size, 5, none⟩ = some (.string ⟨t.chk.op.toArray⟩) ∧ w'.cell? ⟨w.heap.size, 6, none⟩ = some (.int .i64 t.chk.v.k) ∧ w'.cell? ⟨w.heap.size, 7, none⟩ = some (.int .i64 t.chk.v.i) ∧ w'.cell? ⟨w.heap.size, 8, none⟩ = some (.string ⟨t.chk.v.s.toArray⟩) ∧ w'.cell? ⟨w.heap.size, 9, none⟩ = some (.string ⟨t.chk.s.toArray⟩) ∧ w'.cell? ⟨w.heap.size, 10, none⟩ = some (.slice a4 t.chk.l.length k4))) (by kernel_rfl) ?_ (fun hHeld => ?_)
    · try dsimp only
      exact HSH.out _ (by exact bl)
    refine wpAnyH_take (i := 0) (v := ?_) rfl (by kernel_rfl) (by kernel_rfl) (by kernel_rfl) (fun _ _ _ h => h) (Or.inl ⟨by rfl, ?_⟩) (by assumption) ?_
    rotate_left
    · intro wq hSw
      try dsimp only at hSw
      go_simp
      try with_reducible rfl
    try simp only [Act.put, List.getElem_toArray, List.getElem_cons_zero, List.setIfInBounds_toArray, List.set_cons_zero, List.set_cons_succ]
    refine wpAnyH_take (i := 1) (v := ?_) rfl (by kernel_rfl) (by kernel_rfl) (by kernel_rfl) (fun _ _ _ h => h) (Or.inl ⟨by rfl, ?_⟩) (by assumption) ?_
    rotate_left
    · intro wq hSw
      try dsimp only at hSw
      go_simp
      try with_reducible rfl
    try simp only [Act.put, List.getElem_toArray, List.getElem_cons_zero, List.getElem_cons_succ, List.setIfInBounds_toArray, List.set_cons_zero, List.set_cons_succ]
    refine wpAnyH_take (i := 3) (v := ?_) rfl (by kernel_rfl) (by kernel_rfl) (by kernel_rfl) (fun _ _ _ h => h) (Or.inl ⟨by rfl, ?_⟩) (by assumption) ?_
    rotate_left
    · intro wq hSw
      try dsimp only at hSw
      go_simp
      try with_reducible rfl
    try simp only [Act.put, List.getElem_toArray, List.getElem_cons_zero, List.getElem_cons_succ, List.setIfInBounds_toArray, List.set_cons_zero, List.set_cons_succ]
    refine wpAnyH_take (i := 4) (v := ?_) rfl (by kernel_rfl) (by kernel_rfl) (by kernel_rfl) (fun _ _ _ h => h) (Or.inl ⟨by rfl, ?_⟩) (by assumption) ?_
    rotate_left
    · intro wq hSw
      try dsimp only at hSw
      go_simp
      try with_reducible rfl
    try simp only [Act.put, List.getElem_toArray, List.getElem_cons_zero, List.getElem_cons_succ, List.setIfInBounds_toArray, List.set_cons_zero, List.set_cons_succ]
    refine wpAnyH_take (i := 5) (v := ?_) rfl (by kernel_rfl) (by kernel_rfl) (by kernel_rfl) (fun _ _ _ h => h) (Or.inl ⟨by rfl, ?_⟩) (by assumption) ?_
    rotate_left
    · intro wq hSw
      try dsimp only at hSw
      go_simp
      try with_reducible rfl
    try simp only [Act.put, List.getElem_toArray, List.getElem_cons_zero, List.getElem_cons_succ, List.setIfInBounds_toArray, List.set_cons_zero, List.set_cons_succ]
    refine wpAnyH_take (i := 6) (v := ?_) rfl (by kernel_rfl) (by kernel_rfl) (by kernel_rfl) (fun _ _ _ h => h) (Or.inl ⟨by rfl, ?_⟩) (by assumption) ?_
    rotate_left
    · intro wq hSw
      try dsimp only at hSw
      go_simp
      try with_reducible rfl
    try simp only [Act.put, List.getElem_toArray, List.getElem_cons_zero, List.getElem_cons_succ, List.setIfInBounds_toArray, List.set_cons_zero, List.set_cons_succ]
    refine wpAnyH_take (i := 8) (v := ?_) rfl (by kernel_rfl) (by kernel_rfl) (by kernel_rfl) (fun _ _ _ h => h) (Or.inl ⟨by rfl, ?_⟩) (by assumption) ?_
    rotate_left
    · intro wq hSw
      try dsimp only at hSw
      go_simp
      try with_reducible rfl
    try simp only [Act.put, List.getElem_toArray, List.getElem_cons_zero, List.getElem_cons_succ, List.setIfInBounds_toArray, List.set_cons_zero, List.set_cons_succ]
    refine wpAnyH_take (i := 9) (v := ?_) rfl (by kernel_rfl) (by kernel_rfl) (by kernel_rfl) (fun _ _ _ h => h) (Or.inl ⟨by rfl, ?_⟩) (by assumption) ?_
    rotate_left
    · intro wq hSw
      try dsimp only at hSw
      go_simp
      try with_reducible rfl
    try simp only [Act.put, List.getElem_toArray, List.getElem_cons_zero, List.getElem_cons_succ, List.setIfInBounds_toArray, List.set_cons_zero, List.set_cons_succ]
    refine wpAnyH_stage (ks := [2, 7, 10, 11, 12]) (f0 := 1) (by decide) (F6I w0 N CO X t.key (fun U3 U8 U13 U16 U17 => #[.agg #[.string ⟨t.n.toArray⟩, .slice a1 t.cols.length k1, .int .i64 t.key, .slice a2 t.uniq.length k2, .slice a3 t.refs.length k3, .string ⟨t.chk.op.toArray⟩, .int .i64 t.chk.v.k, .int .i64 t.chk.v.i, .string ⟨t.chk.v.s.toArray⟩, .string ⟨t.chk.s.toArray⟩, .slice a4 t.chk.l.length k4], .pointer (some ⟨w.heap.size, 0, none⟩), .pointer (some ⟨w.heap.size + 1, 0, none⟩), U3, undef, undef, .pointer (some ⟨w.heap.size, 0, none⟩), .string ⟨t.n.toArray⟩, U8, .pointer (some ⟨w.heap.size, 2, none⟩), .int .i64 t.key, .pointer (some ⟨w.heap.size, 1, none⟩), .slice a1 t.cols.length k1, U13, .pointer (some ⟨w.heap.size, 5, none⟩), .agg #[.string ⟨t.chk.op.toArray⟩, .int .i64 t.chk.v.k, .int .i64 t.chk.v.i, .string ⟨t.chk.v.s.toArray⟩, .string ⟨t.chk.s.toArray⟩, .slice a4 t.chk.l.length k4], U16, U17, undef, undef, undef, undef, undef, undef, undef, undef, undef, undef, undef, undef, undef, undef, undef, undef, undef, undef, undef, undef, undef, undef, undef, undef, undef, undef, undef, undef, undef, undef, undef, undef, undef, undef, undef, undef, undef, undef, undef, undef, undef, undef, undef, undef, undef, undef, undef, undef, undef, undef, undef, undef])) ?_ ?_ ?_ 5 _ _ _ (by decide +kernel) ?_
    · rintro L ac wv i ⟨hsz, ⟨p0, p1, p3, p4, p5, p6, p8, p9⟩, n13, h11, h10, h7, hb, U3, U8, U13, U16, U17, rfl, s2, q12, s7, s10, s11⟩ hex hi
      obtain ⟨hun, o, ho, hall⟩ := mem_ready.1 hi
      have hlt : i < 14 := by rw [← hsz]; exact getD_self hun
      have e0 : i ≠ 0 := fun e => by subst e; exact not_up hun p0
      have e1 : i ≠ 1 := fun e => by subst e; exact not_up hun p1
      have e3 : i ≠ 3 := fun e => by subst e; exact not_up hun p3
      have e4 : i ≠ 4 := fun e => by subst e; exact not_up hun p4
      have e5 : i ≠ 5 := fun e => by subst e; exact not_up hun p5
      have e6 : i ≠ 6 := fun e => by subst e; exact not_up hun p6
      have e8 : i ≠ 8 := fun e => by subst e; exact not_up hun p8
      have e9 : i ≠ 9 := fun e => by subst e; exact not_up hun p9
      have e13 : i ≠ 13 := fun e => by
        subst e
        injection ho with ho
        subst ho
        obtain ⟨j, hj, hn⟩ := hex
        simp only [List.mem_cons, List.not_mem_nil, or_false] at hj
        rcases hj with rfl | rfl | rfl | rfl | rfl
        · exact not_up hn (up_of (hall ⟨2, .phase⟩ (by simp) rfl))
        · exact not_up hn (up_of (hall ⟨7, .phase⟩ (by simp) rfl))
        · exact not_up hn (up_of (hall ⟨10, .phase⟩ (by simp) rfl))
        · exact not_up hn (up_of (hall ⟨11, .phase⟩ (by simp) rfl))
        · exact not_up hn (up_of (hall ⟨12, .phase⟩ (by simp) rfl))
      have hks : i = 2 ∨ i = 7 ∨ i = 10 ∨ i = 11 ∨ i = 12 := by omega
      refine ⟨by simp only [List.mem_cons, List.not_mem_nil, or_false]; exact hks, ?_⟩
      clear e0 e1 e3 e4 e5 e6 e8 e9 e13 hlt hex hi
      have hzv := hb.size
      rcases hks with rfl | rfl | rfl | rfl | rfl
      · injection ho with ho
        subst ho
        refine wpOp_one rfl (fun K hK => ?_)
        have Hall := Lib.hid hall
        have Hs := Lib.hid hsz
        go_simp
        refine (HT.out _).mono ?_
        rintro en w1 ⟨rfl, hb1⟩
        have hz1 := hb1.size
        go_wp2_with fail
        refine hK.out _ _ ⟨HSH.out _ (by exact bl), ?_⟩
        exact ⟨by rw [Array.size_setIfInBounds]; exact hsz, ⟨p0.more, p1.more, p3.more, p4.more, p5.more, p6.more, p8.more, p9.more⟩, (getD_put_other true (by decide)).trans n13, fun h => (h11 (h.put (by decide))).more, fun h => (h10 (h.put (by decide))).more, fun h => (h7 (h.put (by decide))).more, (by exact bl), _, _, _, _, _, rfl, Slot.new, q12.put (by decide) hb1, s7.put (GotK.keeps _ _) (by decide) hb1 (fun b h => Av1.call (by decide) hb1 b h), s10.put (GotX.keeps _ _) (by decide) hb1 (fun b h => Av1.call (by decide) hb1 b h), fun h => absurd (h7 (h10 (h11 (h.put (by decide))))) (fun h => not_up hun h)⟩
      · injection ho with ho
        subst ho
        refine wpOp_one rfl (fun K hK => ?_)
        have Hall := Lib.hid hall
        have Hs := Lib.hid hsz
        go_simp
        refine (HFC.out _ hb).mono ?_
        rintro en w1 ⟨A5, c5, rfl, _, _, hE, hb1⟩
        have hz1 := hb1.size
        go_wp2_with fail
        refine hK.out _ _ ⟨HSH.out _ (by exact bl), ?_⟩
        exact ⟨by rw [Array.size_setIfInBounds]; exact hsz, ⟨p0.more, p1.more, p3.more, p4.more, p5.more, p6.more, p8.more, p9.more⟩, (getD_put_other true (by decide)).trans n13, fun h => (h11 (h.put (by decide))).more, fun h => (h10 (h.put (by decide))).more, fun h => (up_of (hall ⟨2, .chain⟩ (by simp) rfl)).more, (by exact bl), _, _, _, _, _, rfl, s2.put (by decide), q12.put (by decide) hb1, fun _ => GotK.fresh hE (fun b h => Av1.fresh q12 (by decide) hb.size b h), s10.put (GotX.keeps _ _) (by decide) hb1 (fun b h => Av1.call (by decide) hb1 b h), fun h => absurd (h10 (h11 (h.put (by decide)))) (fun h => not_up hun h)⟩
      · injection ho with ho
        subst ho
        refine wpOp_one rfl (fun K hK => ?_)
        have Hall := Lib.hid hall
        have Hs := Lib.hid hsz
        go_simp
        refine (HFX.out _ hb).mono ?_
        rintro en w1 ⟨A5, c5, rfl, hE, hb1⟩
        dsimp only [Ex.cells]
        have hz1 := hb1.size
        go_wp2_with fail
        refine hK.out _ _ ⟨HSH.out _ (by exact bl), ?_⟩
        exact ⟨by rw [Array.size_setIfInBounds]; exact hsz, ⟨p0.more, p1.more, p3.more, p4.more, p5.more, p6.more, p8.more, p9.more⟩, (getD_put_other true (by decide)).trans n13, fun h => (h11 (h.put (by decide))).more, fun h => (up_of (hall ⟨7, .chain⟩ (by simp) rfl)).more, fun h => (h7 (h.put (by decide))).more, (by exact bl), _, _, _, _, _, rfl, s2.put (by decide), q12.put (by decide) hb1, s7.put (GotK.keeps _ _) (by decide) hb1 (fun b h => Av1.call (by decide) hb1 b h), fun _ => GotX.fresh hE (fun b h => Av1.fresh q12 (by decide) hb.size b h), fun h => absurd (h11 (h.put (by decide))) (fun h => not_up hun h)⟩
      · injection ho with ho
        subst ho
        obtain rfl := s2 (up_of (hall ⟨2, .data⟩ (by simp) rfl))
        have g7 := s7
        have g10 := s10
        obtain ⟨A5, c5, rfl, _⟩ := s7 (up_of (hall ⟨7, .data⟩ (by simp) rfl))
        obtain ⟨A6, c6, rfl, _⟩ := s10 (up_of (hall ⟨10, .data⟩ (by simp) rfl))
        refine wpOp_one rfl (fun K hK => ?_)
        have Hall := Lib.hid hall
        have Hs := Lib.hid hsz
        go_simp
        go_wp2_with fail
        refine hK.out _ _ ⟨HSH.out _ (by exact bl), ?_⟩
        exact ⟨by rw [Array.size_setIfInBounds]; exact hsz, ⟨p0.more, p1.more, p3.more, p4.more, p5.more, p6.more, p8.more, p9.more⟩, (getD_put_other true (by decide)).trans n13, fun h => (up_of (hall ⟨10, .data⟩ (by simp) rfl)).more, fun h => (h10 (h.put (by decide))).more, fun h => (h7 (h.put (by decide))).more, (by exact bl), _, _, _, _, _, rfl, s2.put (by decide), q12.put (by decide) (Below.refl _ _), s7.put (GotK.keeps _ _) (by decide) (Below.refl _ _) (fun b h => Av1.call (by decide) (Below.refl _ _) b h), s10.put (GotX.keeps _ _) (by decide) (Below.refl _ _) (fun b h => Av1.call (by decide) (Below.refl _ _) b h), fun _ => rfl⟩
      · injection ho with ho
        subst ho
        refine wpOp_one rfl (fun K hK => ?_)
        have Hall := Lib.hid hall
        have Hs := Lib.hid hsz
        go_simp
        go_wp2_with fail
        refine hK.out _ _ ⟨HSH.out _ (by exact bl), ?_⟩
        exact ⟨by rw [Array.size_setIfInBounds]; exact hsz, ⟨p0.more, p1.more, p3.more, p4.more, p5.more, p6.more, p8.more, p9.more⟩, (getD_put_other true (by decide)).trans n13, fun h => (h11 (h.put (by decide))).more, fun h => (h10 (h.put (by decide))).more, fun h => (h7 (h.put (by decide))).more, (by exact bl), _, _, _, _, _, rfl, s2.put (by decide), New1.new hb.size, s7.put (GotK.keeps _ _) (by decide) ((Below.refl _ _).alloc (Nat.le_refl _) _) (fun b h => Av1.new _ b h), s10.put (GotX.keeps _ _) (by decide) ((Below.refl _ _).alloc (Nat.le_refl _) _) (fun b h => Av1.new _ b h), fun h => s11 (h.put (by decide))⟩
    · rintro L ac wv ⟨hsz, ⟨p0, p1, p3, p4, p5, p6, p8, p9⟩, n13, h11, h10, h7, hb, _⟩ ⟨j, hj, hn⟩
      cases y2 : L.getD 2 true
      · exact ready_some 2 y2 rfl (fun e he _ => by simp at he; rcases he with rfl <;> first | exact getF p1 (by rw [hsz]; decide))
      cases y7 : L.getD 7 true
      · exact ready_some 7 y7 rfl (fun e he _ => by simp at he; rcases he with rfl | rfl <;> first | exact getF p6 (by rw [hsz]; decide) | exact getF y2 (by rw [hsz]; decide))
      cases y10 : L.getD 10 true
      · exact ready_some 10 y10 rfl (fun e he _ => by simp at he; rcases he with rfl | rfl <;> first | exact getF p9 (by rw [hsz]; decide) | exact getF y7 (by rw [hsz]; decide))
      cases y11 : L.getD 11 true
      · exact ready_some 11 y11 rfl (fun e he _ => by simp at he; rcases he with rfl | rfl | rfl | rfl <;> first | exact getF y2 (by rw [hsz]; decide) | exact getF p4 (by rw [hsz]; decide) | exact getF y7 (by rw [hsz]; decide) | exact getF y10 (by rw [hsz]; decide))
      cases y12 : L.getD 12 true
      · exact ready_some 12 y12 rfl (fun e he _ => by simp at he)
      simp only [List.mem_cons, List.not_mem_nil, or_false] at hj
      rcases hj with rfl | rfl | rfl | rfl | rfl
      · exact absurd hn (by rw [y2]; decide)
      · exact absurd hn (by rw [y7]; decide)
      · exact absurd hn (by rw [y10]; decide)
      · exact absurd hn (by rw [y11]; decide)
      · exact absurd hn (by rw [y12]; decide)
    · rintro L ac wv ⟨hsz, ⟨p0, p1, p3, p4, p5, p6, p8, p9⟩, n13, h11, h10, h7, hb, U3, U8, U13, U16, U17, rfl, s2, q12, s7, s10, s11⟩ hall
      have z2 : Up L 2 := hall 2 (by simp)
      have z7 : Up L 7 := hall 7 (by simp)
      have z10 : Up L 10 := hall 10 (by simp)
      have z11 : Up L 11 := hall 11 (by simp)
      have z12 : Up L 12 := hall 12 (by simp)
      obtain rfl := s2 z2
      obtain ⟨g, rfl, m1, k1⟩ := q12 z12
      have HQ : Hid (∀ b, Av1 L 12 w0.heap.size (.pointer (some ⟨g, 0, none⟩)) wv b → (w0.heap.size ≤ b ∧ b < wv.heap.size) ∧ b ≠ g) := fun b h => Av1.parts z12 h
      obtain ⟨A3, c3, rfl, hC⟩ := s7 z7
      obtain ⟨A4, c4, rfl, hX⟩ := s10 z10
      obtain rfl := s11 z11
      have HX9 := Lib.hid hX
      have HC9 := Lib.hid hC
      clear hX hC s2 s7 s10 s11 q12 h11 h10 h7
      obtain ⟨QQ, hQQ⟩ : ∃ Q, Q = Av1 L 12 w0.heap.size (.pointer (some ⟨g, 0, none⟩)) wv := ⟨_, rfl⟩
      rw [← hQQ] at HQ HX9 HC9
      clear hQQ
      obtain ⟨l⟩ := L
      match l, hsz with
      | [b0, b1, b2, b3, b4, b5, b6, b7, b8, b9, b10, b11, b12, b13], _ =>
        obtain rfl : b0 = true := p0
        obtain rfl : b1 = true := p1
        obtain rfl : b2 = true := z2
        obtain rfl : b3 = true := p3
        obtain rfl : b4 = true := p4
        obtain rfl : b5 = true := p5
        obtain rfl : b6 = true := p6
        obtain rfl : b7 = true := z7
        obtain rfl : b8 = true := p8
        obtain rfl : b9 = true := p9
        obtain rfl : b10 = true := z10
        obtain rfl : b11 = true := z11
        obtain rfl : b12 = true := z12
        obtain rfl : b13 = false := n13
        clear hall hsz
        have hHeld := HSH.out wv hb
        have hzv := hb.size
        have x0 : wv.cell? ⟨g, 0, none⟩ = some (.string ⟨#[]⟩) := k1.cell 0
        have xf0 := k1.frozen 0
        have x1 : wv.cell? ⟨g, 1, none⟩ = some (.slice none 0 0) := k1.cell 1
        have xf1 := k1.frozen 1
        have x2 : wv.cell? ⟨g, 2, none⟩ = some (.int .i64 0) := k1.cell 2
        have xf2 := k1.frozen 2
        have x3 : wv.cell? ⟨g, 3, none⟩ = some (.slice none 0 0) := k1.cell 3
        have xf3 := k1.frozen 3
        have x4 : wv.cell? ⟨g, 4, none⟩ = some (.slice none 0 0) := k1.cell 4
        have xf4 := k1.frozen 4
        have x5 : wv.cell? ⟨g, 5, none⟩ = some (.string ⟨#[]⟩) := k1.cell 5
        have xf5 := k1.frozen 5
        have x6 : wv.cell? ⟨g, 6, none⟩ = some (.int .i64 0) := k1.cell 6
        have xf6 := k1.frozen 6
        have x7 : wv.cell? ⟨g, 7, none⟩ = some (.int .i64 0) := k1.cell 7
        have xf7 := k1.frozen 7
        have x8 : wv.cell? ⟨g, 8, none⟩ = some (.string ⟨#[]⟩) := k1.cell 8
        have xf8 := k1.frozen 8
        have x9 : wv.cell? ⟨g, 9, none⟩ = some (.string ⟨#[]⟩) := k1.cell 9
        have xf9 := k1.frozen 9
        have x10 : wv.cell? ⟨g, 10, none⟩ = some (.slice none 0 0) := k1.cell 10
        have xf10 := k1.frozen 10
        dsimp only [bld6]
        simp only [List.append_toArray, List.cons_append, List.nil_append]
        refine wpAnyH_ready (rs := [13]) (by kernel_rfl) (by simp) ?_
        refine AllReadyH.cons rfl (fun K hK => ?_) AllReadyH.nil
        go_simp
        go_wp2_with fail
        refine hK.out _ _ ?_ (fun hHeld => ?_)
        · try dsimp only
          exact HSH.out _ (by exact bl)
        clear hK K
        refine wpAnyH_done (by kernel_rfl) ?_ _
        all_goals (go_wp2_with fail; go_meet)
        exact few6_end HQ.out HX9.out HC9.out k1 hb m1
    · refine ⟨by decide +kernel, ⟨by decide +kernel, by decide +kernel, by decide +kernel, by decide +kernel, by decide +kernel, by decide +kernel, by decide +kernel, by decide +kernel⟩, by decide +kernel, ?_, ?_, ?_, by exact bl, _, _, _, _, _, rfl, ?_, ?_, ?_, ?_, ?_⟩
      all_goals (intro h; exact absurd h (by decide +kernel))
  case rest =>
    obtain ⟨g, A3, c3, A4, c4, rfl, kx1, hCQ, hXQ, m1, hb1⟩ := hcut
    obtain ⟨W1, rfl⟩ : ∃ W, W = wc := ⟨_, rfl⟩
    have hz0 := HZ0.out
    have hz1 := hb1.size
    have lg := kx1.lt
    have kt1 := kt0.below hb1 kt0.lt
    have kr1 := kr0.below hb1 kr0.lt
    have lt1 := kt1.lt
    have lr1 := kr1.lt
    obtain ⟨i0, hi0, zi0, zi1, zi2⟩ := info_parts infoI6
    obtain ⟨j0, hj0, zj0, zj1, zj2⟩ := info_parts infoF6
    clear HSH HT HFC HFX
    go_upto_block 0 with fail
    go_cut [4] from 18 to 38 (fun _ wx => ∃ v : Value, Blk wx g 31 #[.string ⟨N.toArray⟩, .slice A3 CO.length c3, .int .i64 t.key, v, .slice none 0 0, .string ⟨X.op.toArray⟩, .int .i64 X.v.k, .int .i64 X.v.i, .string ⟨X.v.s.toArray⟩, .string ⟨X.s.toArray⟩, .slice A4 X.l.length c4] ∧ wx.ownsRow W1.heap.size 3 1 v (t.uniq.take 10).length ((t.uniq.take 10).map fun x => (.int .i64 x : Value)) ∧ But g W1 wx)
    case first =>
      go_wp2_with fail
      go_loopw [4] (fun i wr => ∃ (j : Nat) (v : Value), j ≤ t.uniq.length ∧ j ≤ 10 ∧ i = .int .i64 j ∧ Blk wr g 31 #[.string ⟨N.toArray⟩, .slice A3 CO.length c3, .int .i64 t.key, v, .slice none 0 0, .string ⟨X.op.toArray⟩, .int .i64 X.v.k, .int .i64 X.v.i, .string ⟨X.v.s.toArray⟩, .string ⟨X.s.toArray⟩, .slice A4 X.l.length c4] ∧ wr.ownsRow W1.heap.size 3 1 v j ((t.uniq.take j).map fun x => (.int .i64 x : Value)) ∧ But g W1 wr) (fun i _ => t.uniq.length - (intOf i).toNat)
      case atStart => exact ⟨0, .slice none 0 0, by omega, by omega, rfl, kx1, World.ownsRow_nil _ _ _ _, But.refl _ _⟩
      case round =>
        obtain ⟨j, v, hj1, hj2, rfl, hk, hown, hbut⟩ := hrel
        have hb0r := But.inside hb1 m1 hbut
        have hzr := hbut.size
        have ktr := hbut.blk kt1 (by omega)
        have lkr := hk.lt
        have t3 : wr.cell? ⟨w.heap.size, 3, none⟩ = some (.slice a2 t.uniq.length k2) := ktr.cell 3
        have x3 : wr.cell? ⟨g, 3, none⟩ = some v := hk.cell 3
        have y3 : wr.frozen? ⟨g, 3, none⟩ = false := hk.frozen 3
        by_cases hlt : j < t.uniq.length ∧ j < 10
        · obtain ⟨hlt, h10⟩ := hlt
          obtain ⟨b, off, x, rfl, hbB, hv, hc⟩ := (HU.out wr hb0r).at_ hlt
          have hbB' : b < w.heap.size := hbB
          have HTK : Hid ((t.uniq.take (j + 1)).map (fun x => (.int .i64 x : Value)) = (t.uniq.take j).map (fun x => (.int .i64 x : Value)) ++ [.int .i64 x]) := by show _ = _; rw [List.take_add_one, hv]; simp
          have i1 : (0 : Int) ≤ (j : Int) := by omega
          have i2 : (j : Int) < (t.uniq.length : Int) := by omega
          have lb : b < wr.heap.size := by omega
          obtain ⟨W, rfl⟩ : ∃ W, W = wr := ⟨_, rfl⟩
          have hown2 : ((W.alloc (.cells #[.int .i64 x] 3)).drew).ownsRow W1.heap.size 3 1 v j ((t.uniq.take j).map fun x => (.int .i64 x : Value)) := hown.alloc _
          have hnews : ∀ j y, ([.int .i64 x] : List Value)[j]? = some y → ((W.alloc (.cells #[.int .i64 x] 3)).drew).cell? ((⟨W.heap.size, 0, none⟩ : Addr).add j) = some y := World.news_of_block (cs := #[.int .i64 x]) (t := 3) (fr := (0, 0)) (heap_alloc_new W _)
          have HOW := Lib.hid hown2
          have HNE := Lib.hid hnews
          have HOL := Lib.hid hown.lt
          clear hown2 hnews hv hbB
          go_wp2_with fail
          go_region_law (refine step_append_lies _ rfl (.tmp 30) (.tmp 36) 23 rfl W1.heap.size 3 i0 _ 1 8 Tryz.underlying23 hi0 zi0 zi1 zi2 rfl (by decide) v j ((t.uniq.take j).map fun x => (.int .i64 x : Value)) (by simp [Act.eval]) HOW.out ⟨W.heap.size, 0, none⟩ 1 1 [.int .i64 x] (by simp [Act.eval]) rfl HNE.out (by simp [Value.oneCell']) (by omega) (by unfold maxLen; omega) (by omega) (by simp; omega) _ rfl ?_; intro g5 cap w5 hown5 hg5 hor5 hl5; have hk5 := ((hk.alloc (.cells #[.int .i64 x] 3)).drew).grown hg5 (fun e => (by have := (HOL.out _ e.symm).1; omega)); have hfr5 := hk5.frozen 3; have hcl5 : w5.cell? ⟨g, 3, none⟩ = some v := hk5.cell 3)
          all_goals
            go_wp2_with fail
            go_roundw
            case rel =>
              refine ⟨j + 1, .slice (some ⟨g5, 0, none⟩) (j + 1) cap, by omega, by omega, by go_num, by simpa using hk5.set_ 3 (.slice (some ⟨g5, 0, none⟩) (j + 1) cap), ?_, ?_⟩
              · rw [HTK.out]
                exact hown5.kept (grown_set6 w5 ⟨g, 3, none⟩ _) (.inr (fun e => by have := (hown5.lt g5 rfl).1; simp [Value.ownBlock] at e; omega))
              · exact (((hbut.alloc _).drew).grown hg5 (fun k hk => (HOL.out k hk).1)).set 3 _
            case measure => simp [intOf]; omega
        · have htk : t.uniq.take 10 = t.uniq.take j := by
            by_cases h : j < t.uniq.length
            · rw [show j = 10 by omega]
            · rw [List.take_of_length_le (i := 10) (by omega), List.take_of_length_le (by omega)]
          have hl : (t.uniq.take j).length = j := by simp; omega
          have hwi : ¬ ((j : Int) < (t.uniq.length : Int)) ∨ (j < t.uniq.length ∧ ¬ (j : Int) < 10) := by omega
          have HEX : Hid (wr.ownsRow W1.heap.size 3 1 v (t.uniq.take 10).length ((t.uniq.take 10).map fun x => (.int .i64 x : Value))) := by show World.ownsRow _ _ _ _ _ _ _; rw [htk, hl]; exact hown
          clear htk hl hlt
          rcases hwi with h | ⟨h, h'⟩
          all_goals
            go_wp2_with fail
            go_meet
            exact ⟨v, hk, HEX.out, hbut⟩
    obtain ⟨vU, hk2, hownU, hbut2⟩ := hcut
    obtain ⟨W2, rfl⟩ : ∃ W, W = wc := ⟨_, rfl⟩
    have hz2 := hbut2.size
    have HOU := Lib.hid hownU
    have lkU := hk2.lt
    have HLU := Lib.hid hownU.lt
    clear hownU hi0 zi0 zi1 zi2
    go_upto_block 2 with fail
    go_cut [5] from 39 to 68 (fun _ wx => ∃ v : Value, Blk wx g 31 #[.string ⟨N.toArray⟩, .slice A3 CO.length c3, .int .i64 t.key, vU, v, .string ⟨X.op.toArray⟩, .int .i64 X.v.k, .int .i64 X.v.i, .string ⟨X.v.s.toArray⟩, .string ⟨X.s.toArray⟩, .slice A4 X.l.length c4] ∧ wx.ownsRow W2.heap.size 80 2 v (t.refs.take 10).length (((t.refs.take 10).map fewFr).flatMap Fr.cells) ∧ But g W2 wx)
    case first =>
      go_wp2_with fail
      go_loopw [5] (fun i wr => ∃ (j : Nat) (v : Value), j ≤ t.refs.length ∧ j ≤ 10 ∧ i = .int .i64 j ∧ Blk wr g 31 #[.string ⟨N.toArray⟩, .slice A3 CO.length c3, .int .i64 t.key, vU, v, .string ⟨X.op.toArray⟩, .int .i64 X.v.k, .int .i64 X.v.i, .string ⟨X.v.s.toArray⟩, .string ⟨X.s.toArray⟩, .slice A4 X.l.length c4] ∧ wr.ownsRow W2.heap.size 80 2 v j (((t.refs.take j).map fewFr).flatMap Fr.cells) ∧ But g W2 wr) (fun i _ => t.refs.length - (intOf i).toNat)
      case atStart => exact ⟨0, .slice none 0 0, by omega, by omega, rfl, hk2, World.ownsRow_nil _ _ _ _, But.refl _ _⟩
      case round =>
        obtain ⟨j, v, hj1, hj2, rfl, hk, hown, hbut⟩ := hrel
        have hbut1 := hbut2.trans hbut
        have hb0r := But.inside hb1 m1 hbut1
        have hzr := hbut.size
        have ktr := hbut1.blk kt1 (by omega)
        have lkr := hk.lt
        have ltr := ktr.lt
        by_cases hlt : j < t.refs.length ∧ j < 10
        · obtain ⟨hlt, h10⟩ := hlt
          obtain ⟨b, off, x, rfl, hbB, hv, hc0, hc1⟩ := (HR.out wr hb0r).at_ hlt
          have hbB' : b < w.heap.size := hbB
          have HTK : Hid (((t.refs.take (j + 1)).map fewFr).flatMap Fr.cells = ((t.refs.take j).map fewFr).flatMap Fr.cells ++ [.int .i64 x.c, .string ⟨(x.t.take 20).toArray⟩]) := by show _ = _; rw [List.take_add_one, hv]; simp [fewFr, Fr.cells]
          have i1 : (0 : Int) ≤ (j : Int) := by omega
          have i2 : (j : Int) < (t.refs.length : Int) := by omega
          have lb : b < wr.heap.size := by omega
          obtain ⟨W, rfl⟩ : ∃ W, W = wr := ⟨_, rfl⟩
          have lW : w0.heap.size ≤ W.heap.size := hb0r.size
          have x4 : W.cell? ⟨g, 4, none⟩ = some v := hk.cell 4
          have t4 : W.cell? ⟨w.heap.size, 4, none⟩ = some (.slice (some ⟨b, off, none⟩) t.refs.length k3) := ktr.cell 4
          have HS9 : Hid (∀ w' : World, Below w0.heap.size W w' → (w'.cell? ⟨w.heap.size, 4, none⟩ = some (.slice (some ⟨b, off, none⟩) t.refs.length k3) ∧ w'.cell? ⟨b, off + j * 2, none⟩ = some (.int .i64 x.c) ∧ w'.cell? ⟨b, off + j * 2 + 1, none⟩ = some (.string ⟨x.t.toArray⟩))) := fun w' h =>
            ⟨(h.cell (p := ⟨w.heap.size, 4, none⟩) (show w.heap.size < _ by omega)).trans t4, (h.cell (p := ⟨b, off + j * 2, none⟩) (show b < _ by omega)).trans hc0, (h.cell (p := ⟨b, off + j * 2 + 1, none⟩) (show b < _ by omega)).trans hc1⟩
          have HOW := Lib.hid hown
          have HOL := Lib.hid hown.lt
          clear hv hbB hown hc0 hc1
          go_wp2_with fail
          refine wp_region_held_drew (S := (fun w' => (w'.cell? ⟨w.heap.size, 4, none⟩ = some (.slice (some ⟨b, off, none⟩) t.refs.length k3) ∧ w'.cell? ⟨b, off + j * 2, none⟩ = some (.int .i64 x.c) ∧ w'.cell? ⟨b, off + j * 2 + 1, none⟩ = some (.string ⟨x.t.toArray⟩)))) (by kernel_rfl) ?_ (fun hHeld => ?_)
          · try dsimp only
            exact HS9.out _ (by exact bl)
          refine wpAnyT_start [0, 2, 3, 4, 5, 6, 7, 8, 9, 10, 11, 12, 13] ?_
          iterate 13
            refine wpAnyT_cons (v := ?_) rfl (by kernel_rfl) (by kernel_rfl) (by kernel_rfl) (fun _ _ _ h => h) (Or.inl ⟨by rfl, ?_⟩) (by assumption) ?_
            rotate_left
            · intro wq hSw
              try dsimp only at hSw
              go_simp
              try with_reducible rfl
            try simp only [Act.put, List.getElem_toArray, List.getElem_cons_zero, List.getElem_cons_succ, List.setIfInBounds_toArray, List.set_cons_zero, List.set_cons_succ]
          refine wpAnyT_nil ?_
          refine wpAnyH_ready (rs := [1, 14]) (by kernel_rfl) (by simp) ?_
          refine (AllReadyH.cons rfl (fun K hK => ?_) (AllReadyH.cons rfl (fun K hK => ?_) AllReadyH.nil))
          · skip
            go_simp
            skip
            go_wp2_with fail
            refine hK.out _ _ ?_ (fun hHeld => ?_)
            · try dsimp only
              exact HS9.out _ (by exact bl)
            clear hK K
            try simp only [Act.put, List.getElem_toArray, List.getElem_cons_zero, List.getElem_cons_succ, List.setIfInBounds_toArray, List.set_cons_zero, List.set_cons_succ]
            refine wpAnyH_ready (rs := [14]) (by kernel_rfl) (by simp) ?_
            refine AllReadyH.cons rfl (fun K hK => ?_) AllReadyH.nil
            go_simp
            refine (text20_any x.t _).mono ?_ <;> rintro en w14 ⟨rfl, hb14⟩ <;> have hz14 := hb14.size <;> have hbW14 : Below W.heap.size W w14 := (by exact bl) <;> have hzW14 := hbW14.size <;> have lg14 : g < w14.heap.size := (by omega) <;> have x414 : w14.cell? ⟨g, 4, none⟩ = some v := ((hk.below hbW14 lkr).cell 4)
            go_wp2_with fail
            refine hK.out _ _ ?_ (fun hHeld => ?_)
            · try dsimp only
              exact HS9.out _ (by exact bl)
            clear hK K
            try simp only [Act.put, List.getElem_toArray, List.getElem_cons_zero, List.getElem_cons_succ, List.setIfInBounds_toArray, List.set_cons_zero, List.set_cons_succ]
            refine wpAnyH_take (i := 15) (v := ?_) rfl (by kernel_rfl) (by kernel_rfl) (by kernel_rfl) (fun _ _ _ h => h) (Or.inl ⟨by rfl, ?_⟩) (by assumption) ?_
            rotate_left
            · intro wq hSw
              try dsimp only at hSw
              go_simp
              try with_reducible rfl
            try simp only [Act.put, List.getElem_toArray, List.getElem_cons_zero, List.getElem_cons_succ, List.setIfInBounds_toArray, List.set_cons_zero, List.set_cons_succ]
            refine wpAnyH_ready (rs := [16]) (by kernel_rfl) (by simp) ?_
            refine AllReadyH.cons rfl (fun K hK => ?_) AllReadyH.nil
            go_simp
            skip
            go_wp2_with fail
            refine hK.out _ _ ?_ (fun hHeld => ?_)
            · try dsimp only
              exact HS9.out _ (by exact bl)
            clear hK K
            try simp only [Act.put, List.getElem_toArray, List.getElem_cons_zero, List.getElem_cons_succ, List.setIfInBounds_toArray, List.set_cons_zero, List.set_cons_succ]
            refine wpAnyH_ready (rs := [17]) (by kernel_rfl) (by simp) ?_
            refine AllReadyH.cons rfl (fun K hK => ?_) AllReadyH.nil
            refine step_append_lies _ rfl (.tmp 51) (.tmp 66) 24 rfl W2.heap.size 80 j0 _ 2 24 Tryz.underlying24 hj0 zj0 zj1 zj2 rfl (by decide) v j (((t.refs.take j).map fewFr).flatMap Fr.cells) (by simp [Act.eval]) ((own_below HOW.out hbW14).alloc _) ⟨w14.heap.size, 0, none⟩ 1 1 [.int .i64 x.c, .string ⟨(x.t.take 20).toArray⟩] (by simp [Act.eval]) rfl (World.news_of_block (cs := #[.int .i64 x.c, .string ⟨(x.t.take 20).toArray⟩]) (t := 80) (fr := (0, 0)) (heap_alloc_new w14 _)) (by simp [Value.oneCell']) (by omega) (by unfold maxLen; omega) (by omega) (by have := hbW14.size; simp; omega) _ rfl ?_; intro g5 cap w5 hown5 hg5 hor5 hl5; have hk5 := ((hk.below hbW14 lkr).alloc (.cells #[.int .i64 x.c, .string ⟨(x.t.take 20).toArray⟩] 80)).grown hg5 (fun e => (by have := (HOL.out _ e.symm).1; omega)); have hfr5 := hk5.frozen 4; have hcl5 : w5.cell? ⟨g, 4, none⟩ = some v := hk5.cell 4; have hbw5 : Below w0.heap.size W w5 := ((hbW14.mono lW).alloc (by have := hbW14.size; omega) _).grown hg5 (by have := hbW14.size; simp; omega) (fun k hk => by have := (HOL.out k hk).1; omega)
            refine hK.out _ _ ?_ (fun hHeld => ?_)
            · try dsimp only
              exact HS9.out _ (by exact bl)
            clear hK K
            try simp only [Act.put, List.getElem_toArray, List.getElem_cons_zero, List.getElem_cons_succ, List.setIfInBounds_toArray, List.set_cons_zero, List.set_cons_succ]
            refine wpAnyH_take (i := 18) (v := ?_) rfl (by kernel_rfl) (by kernel_rfl) (by kernel_rfl) (fun _ _ _ h => h) (Or.inl ⟨by rfl, ?_⟩) (by assumption) ?_
            rotate_left
            · intro wq hSw
              try dsimp only at hSw
              go_simp
              try with_reducible rfl
            try simp only [Act.put, List.getElem_toArray, List.getElem_cons_zero, List.getElem_cons_succ, List.setIfInBounds_toArray, List.set_cons_zero, List.set_cons_succ]
            refine wpAnyH_ready (rs := [19]) (by kernel_rfl) (by simp) ?_
            refine AllReadyH.cons rfl (fun K hK => ?_) AllReadyH.nil
            go_simp
            skip
            go_wp2_with fail
            refine hK.out _ _ ?_ (fun hHeld => ?_)
            · try dsimp only
              exact HS9.out _ (by exact bl)
            clear hK K
            try simp only [Act.put, List.getElem_toArray, List.getElem_cons_zero, List.getElem_cons_succ, List.setIfInBounds_toArray, List.set_cons_zero, List.set_cons_succ]
            refine wpAnyH_done (by kernel_rfl) ?_ _
            go_wp2_with fail
            go_roundw
            case rel =>
              refine ⟨j + 1, .slice (some ⟨g5, 0, none⟩) (j + 1) cap, by omega, by omega, by go_num, by simpa using hk5.set_ 4 (.slice (some ⟨g5, 0, none⟩) (j + 1) cap), ?_, ?_⟩
              · rw [HTK.out]
                exact hown5.kept (grown_set6 w5 ⟨g, 4, none⟩ _) (.inr (fun e => by have := (hown5.lt g5 rfl).1; simp [Value.ownBlock] at e; omega))
              · exact (((hbut.after hbW14).alloc _).grown hg5 (fun k hk => (HOL.out k hk).1)).set 4 _
            case measure => simp [intOf]; omega
          · skip
            go_simp
            refine (text20_any x.t _).mono ?_ <;> rintro en w14 ⟨rfl, hb14⟩ <;> have hz14 := hb14.size <;> have hbW14 : Below W.heap.size W w14 := (by exact bl) <;> have hzW14 := hbW14.size <;> have lg14 : g < w14.heap.size := (by omega) <;> have x414 : w14.cell? ⟨g, 4, none⟩ = some v := ((hk.below hbW14 lkr).cell 4)
            go_wp2_with fail
            refine hK.out _ _ ?_ (fun hHeld => ?_)
            · try dsimp only
              exact HS9.out _ (by exact bl)
            clear hK K
            try simp only [Act.put, List.getElem_toArray, List.getElem_cons_zero, List.getElem_cons_succ, List.setIfInBounds_toArray, List.set_cons_zero, List.set_cons_succ]
            refine wpAnyH_take (i := 15) (v := ?_) rfl (by kernel_rfl) (by kernel_rfl) (by kernel_rfl) (fun _ _ _ h => h) (Or.inl ⟨by rfl, ?_⟩) (by assumption) ?_
            rotate_left
            · intro wq hSw
              try dsimp only at hSw
              go_simp
              try with_reducible rfl
            try simp only [Act.put, List.getElem_toArray, List.getElem_cons_zero, List.getElem_cons_succ, List.setIfInBounds_toArray, List.set_cons_zero, List.set_cons_succ]
            refine wpAnyH_ready (rs := [1, 16]) (by kernel_rfl) (by simp) ?_
            refine (AllReadyH.cons rfl (fun K hK => ?_) (AllReadyH.cons rfl (fun K hK => ?_) AllReadyH.nil))
            · skip
              go_simp
              skip
              go_wp2_with fail
              refine hK.out _ _ ?_ (fun hHeld => ?_)
              · try dsimp only
                exact HS9.out _ (by exact bl)
              clear hK K
              try simp only [Act.put, List.getElem_toArray, List.getElem_cons_zero, List.getElem_cons_succ, List.setIfInBounds_toArray, List.set_cons_zero, List.set_cons_succ]
              refine wpAnyH_ready (rs := [16]) (by kernel_rfl) (by simp) ?_
              refine AllReadyH.cons rfl (fun K hK => ?_) AllReadyH.nil
              go_simp
              skip
              go_wp2_with fail
              refine hK.out _ _ ?_ (fun hHeld => ?_)
              · try dsimp only
                exact HS9.out _ (by exact bl)
              clear hK K
              try simp only [Act.put, List.getElem_toArray, List.getElem_cons_zero, List.getElem_cons_succ, List.setIfInBounds_toArray, List.set_cons_zero, List.set_cons_succ]
              refine wpAnyH_ready (rs := [17]) (by kernel_rfl) (by simp) ?_
              refine AllReadyH.cons rfl (fun K hK => ?_) AllReadyH.nil
              refine step_append_lies _ rfl (.tmp 51) (.tmp 66) 24 rfl W2.heap.size 80 j0 _ 2 24 Tryz.underlying24 hj0 zj0 zj1 zj2 rfl (by decide) v j (((t.refs.take j).map fewFr).flatMap Fr.cells) (by simp [Act.eval]) ((own_below HOW.out hbW14).alloc _) ⟨w14.heap.size, 0, none⟩ 1 1 [.int .i64 x.c, .string ⟨(x.t.take 20).toArray⟩] (by simp [Act.eval]) rfl (World.news_of_block (cs := #[.int .i64 x.c, .string ⟨(x.t.take 20).toArray⟩]) (t := 80) (fr := (0, 0)) (heap_alloc_new w14 _)) (by simp [Value.oneCell']) (by omega) (by unfold maxLen; omega) (by omega) (by have := hbW14.size; simp; omega) _ rfl ?_; intro g5 cap w5 hown5 hg5 hor5 hl5; have hk5 := ((hk.below hbW14 lkr).alloc (.cells #[.int .i64 x.c, .string ⟨(x.t.take 20).toArray⟩] 80)).grown hg5 (fun e => (by have := (HOL.out _ e.symm).1; omega)); have hfr5 := hk5.frozen 4; have hcl5 : w5.cell? ⟨g, 4, none⟩ = some v := hk5.cell 4; have hbw5 : Below w0.heap.size W w5 := ((hbW14.mono lW).alloc (by have := hbW14.size; omega) _).grown hg5 (by have := hbW14.size; simp; omega) (fun k hk => by have := (HOL.out k hk).1; omega)
              refine hK.out _ _ ?_ (fun hHeld => ?_)
              · try dsimp only
                exact HS9.out _ (by exact bl)
              clear hK K
              try simp only [Act.put, List.getElem_toArray, List.getElem_cons_zero, List.getElem_cons_succ, List.setIfInBounds_toArray, List.set_cons_zero, List.set_cons_succ]
              refine wpAnyH_take (i := 18) (v := ?_) rfl (by kernel_rfl) (by kernel_rfl) (by kernel_rfl) (fun _ _ _ h => h) (Or.inl ⟨by rfl, ?_⟩) (by assumption) ?_
              rotate_left
              · intro wq hSw
                try dsimp only at hSw
                go_simp
                try with_reducible rfl
              try simp only [Act.put, List.getElem_toArray, List.getElem_cons_zero, List.getElem_cons_succ, List.setIfInBounds_toArray, List.set_cons_zero, List.set_cons_succ]
              refine wpAnyH_ready (rs := [19]) (by kernel_rfl) (by simp) ?_
              refine AllReadyH.cons rfl (fun K hK => ?_) AllReadyH.nil
              go_simp
              skip
              go_wp2_with fail
              refine hK.out _ _ ?_ (fun hHeld => ?_)
              · try dsimp only
                exact HS9.out _ (by exact bl)
              clear hK K
              try simp only [Act.put, List.getElem_toArray, List.getElem_cons_zero, List.getElem_cons_succ, List.setIfInBounds_toArray, List.set_cons_zero, List.set_cons_succ]
              refine wpAnyH_done (by kernel_rfl) ?_ _
              go_wp2_with fail
              go_roundw
              case rel =>
                refine ⟨j + 1, .slice (some ⟨g5, 0, none⟩) (j + 1) cap, by omega, by omega, by go_num, by simpa using hk5.set_ 4 (.slice (some ⟨g5, 0, none⟩) (j + 1) cap), ?_, ?_⟩
                · rw [HTK.out]
                  exact hown5.kept (grown_set6 w5 ⟨g, 4, none⟩ _) (.inr (fun e => by have := (hown5.lt g5 rfl).1; simp [Value.ownBlock] at e; omega))
                · exact (((hbut.after hbW14).alloc _).grown hg5 (fun k hk => (HOL.out k hk).1)).set 4 _
              case measure => simp [intOf]; omega
            · skip
              go_simp
              skip
              go_wp2_with fail
              refine hK.out _ _ ?_ (fun hHeld => ?_)
              · try dsimp only
                exact HS9.out _ (by exact bl)
              clear hK K
              try simp only [Act.put, List.getElem_toArray, List.getElem_cons_zero, List.getElem_cons_succ, List.setIfInBounds_toArray, List.set_cons_zero, List.set_cons_succ]
              refine wpAnyH_ready (rs := [1]) (by kernel_rfl) (by simp) ?_
              refine AllReadyH.cons rfl (fun K hK => ?_) AllReadyH.nil
              go_simp
              skip
              go_wp2_with fail
              refine hK.out _ _ ?_ (fun hHeld => ?_)
              · try dsimp only
                exact HS9.out _ (by exact bl)
              clear hK K
              try simp only [Act.put, List.getElem_toArray, List.getElem_cons_zero, List.getElem_cons_succ, List.setIfInBounds_toArray, List.set_cons_zero, List.set_cons_succ]
              refine wpAnyH_ready (rs := [17]) (by kernel_rfl) (by simp) ?_
              refine AllReadyH.cons rfl (fun K hK => ?_) AllReadyH.nil
              refine step_append_lies _ rfl (.tmp 51) (.tmp 66) 24 rfl W2.heap.size 80 j0 _ 2 24 Tryz.underlying24 hj0 zj0 zj1 zj2 rfl (by decide) v j (((t.refs.take j).map fewFr).flatMap Fr.cells) (by simp [Act.eval]) ((own_below HOW.out hbW14).alloc _) ⟨w14.heap.size, 0, none⟩ 1 1 [.int .i64 x.c, .string ⟨(x.t.take 20).toArray⟩] (by simp [Act.eval]) rfl (World.news_of_block (cs := #[.int .i64 x.c, .string ⟨(x.t.take 20).toArray⟩]) (t := 80) (fr := (0, 0)) (heap_alloc_new w14 _)) (by simp [Value.oneCell']) (by omega) (by unfold maxLen; omega) (by omega) (by have := hbW14.size; simp; omega) _ rfl ?_; intro g5 cap w5 hown5 hg5 hor5 hl5; have hk5 := ((hk.below hbW14 lkr).alloc (.cells #[.int .i64 x.c, .string ⟨(x.t.take 20).toArray⟩] 80)).grown hg5 (fun e => (by have := (HOL.out _ e.symm).1; omega)); have hfr5 := hk5.frozen 4; have hcl5 : w5.cell? ⟨g, 4, none⟩ = some v := hk5.cell 4; have hbw5 : Below w0.heap.size W w5 := ((hbW14.mono lW).alloc (by have := hbW14.size; omega) _).grown hg5 (by have := hbW14.size; simp; omega) (fun k hk => by have := (HOL.out k hk).1; omega)
              refine hK.out _ _ ?_ (fun hHeld => ?_)
              · try dsimp only
                exact HS9.out _ (by exact bl)
              clear hK K
              try simp only [Act.put, List.getElem_toArray, List.getElem_cons_zero, List.getElem_cons_succ, List.setIfInBounds_toArray, List.set_cons_zero, List.set_cons_succ]
              refine wpAnyH_take (i := 18) (v := ?_) rfl (by kernel_rfl) (by kernel_rfl) (by kernel_rfl) (fun _ _ _ h => h) (Or.inl ⟨by rfl, ?_⟩) (by assumption) ?_
              rotate_left
              · intro wq hSw
                try dsimp only at hSw
                go_simp
                try with_reducible rfl
              try simp only [Act.put, List.getElem_toArray, List.getElem_cons_zero, List.getElem_cons_succ, List.setIfInBounds_toArray, List.set_cons_zero, List.set_cons_succ]
              refine wpAnyH_ready (rs := [19]) (by kernel_rfl) (by simp) ?_
              refine AllReadyH.cons rfl (fun K hK => ?_) AllReadyH.nil
              go_simp
              skip
              go_wp2_with fail
              refine hK.out _ _ ?_ (fun hHeld => ?_)
              · try dsimp only
                exact HS9.out _ (by exact bl)
              clear hK K
              try simp only [Act.put, List.getElem_toArray, List.getElem_cons_zero, List.getElem_cons_succ, List.setIfInBounds_toArray, List.set_cons_zero, List.set_cons_succ]
              refine wpAnyH_done (by kernel_rfl) ?_ _
              go_wp2_with fail
              go_roundw
              case rel =>
                refine ⟨j + 1, .slice (some ⟨g5, 0, none⟩) (j + 1) cap, by omega, by omega, by go_num, by simpa using hk5.set_ 4 (.slice (some ⟨g5, 0, none⟩) (j + 1) cap), ?_, ?_⟩
                · rw [HTK.out]
                  exact hown5.kept (grown_set6 w5 ⟨g, 4, none⟩ _) (.inr (fun e => by have := (hown5.lt g5 rfl).1; simp [Value.ownBlock] at e; omega))
                · exact (((hbut.after hbW14).alloc _).grown hg5 (fun k hk => (HOL.out k hk).1)).set 4 _
              case measure => simp [intOf]; omega
        · have htk : t.refs.take 10 = t.refs.take j := by
            by_cases h : j < t.refs.length
            · rw [show j = 10 by omega]
            · rw [List.take_of_length_le (i := 10) (by omega), List.take_of_length_le (by omega)]
          have hl : (t.refs.take j).length = j := by simp; omega
          have hwi : ¬ ((j : Int) < (t.refs.length : Int)) ∨ (j < t.refs.length ∧ ¬ (j : Int) < 10) := by omega
          have HEX : Hid (wr.ownsRow W2.heap.size 80 2 v (t.refs.take 10).length (((t.refs.take 10).map fewFr).flatMap Fr.cells)) := by show World.ownsRow _ _ _ _ _ _ _; rw [htk, hl]; exact hown
          have t4 : wr.cell? ⟨w.heap.size, 4, none⟩ = some (.slice a3 t.refs.length k3) := ktr.cell 4
          clear htk hl hlt
          rcases hwi with h | ⟨h, h'⟩
          all_goals
            go_wp2_with fail
            go_meet
            exact ⟨v, hk, HEX.out, hbut⟩
    obtain ⟨vR, hk3, hownR, hbut3⟩ := hcut
    obtain ⟨W3, rfl⟩ : ∃ W, W = wc := ⟨_, rfl⟩
    have hz3 := hbut3.size
    obtain ⟨AU, cU, rfl, _, _, hIF⟩ := IF.own HOU.out
    obtain ⟨AR, cR, rfl, hFQ⟩ := FQ.own hownR
    have hbut23 := hbut2.trans hbut3
    have hb03 := But.inside hb1 m1 hbut23
    have hbw3 : Below w.heap.size w W3 := HB0.out.trans (hb03.mono HB0.out.size)
    have kr3 := hbut23.blk kr1 (by omega)
    have lk3 := hk3.lt
    have lr3 := kr3.lt
    have HCF : Hid (CQ CO A3 (fun b => w.heap.size + 1 < b ∧ b < W3.heap.size) W3) := hCQ.out.keep fun b hb => ⟨⟨by omega, by omega⟩, fun o => hbut23.cell hb.1.2 hb.2 o⟩
    have HXF2 : Hid (ExR (fun b => w.heap.size + 1 < b ∧ b < W3.heap.size) X A4 c4 W3) := hXQ.out.keep fun b hb => ⟨⟨by omega, by omega⟩, fun o => hbut23.cell hb.1.2 hb.2 o⟩
    have HIF : Hid (IQ (t.uniq.take 10) AU (fun b => w.heap.size + 1 < b ∧ b < W3.heap.size) W3) := (IQ.ofF (Q := fun b => W1.heap.size ≤ b ∧ b < W2.heap.size) hIF (fun b h1 h2 => ⟨h1, h2⟩)).keep fun b hb => ⟨⟨by omega, by omega⟩, fun o => hbut3.cell hb.2 (by omega) o⟩
    have HFF : Hid (FQ ((t.refs.take 10).map fewFr) AR (fun b => w.heap.size + 1 < b ∧ b < W3.heap.size) W3) := hFQ.keep fun b hb => ⟨⟨by omega, hb.2⟩, fun _ => rfl⟩
    have e0 : W3.cell? ⟨g, 0, none⟩ = some (.string ⟨N.toArray⟩) := hk3.cell 0
    have e1 : W3.cell? ⟨g, 1, none⟩ = some (.slice A3 CO.length c3) := hk3.cell 1
    have e2 : W3.cell? ⟨g, 2, none⟩ = some (.int .i64 t.key) := hk3.cell 2
    have e3 : W3.cell? ⟨g, 3, none⟩ = some (.slice AU (t.uniq.take 10).length cU) := hk3.cell 3
    have e4 : W3.cell? ⟨g, 4, none⟩ = some (.slice AR ((t.refs.take 10).map fewFr).length cR) := hk3.cell 4
    have e5 : W3.cell? ⟨g, 5, none⟩ = some (.string ⟨X.op.toArray⟩) := hk3.cell 5
    have e6 : W3.cell? ⟨g, 6, none⟩ = some (.int .i64 X.v.k) := hk3.cell 6
    have e7 : W3.cell? ⟨g, 7, none⟩ = some (.int .i64 X.v.i) := hk3.cell 7
    have e8 : W3.cell? ⟨g, 8, none⟩ = some (.string ⟨X.v.s.toArray⟩) := hk3.cell 8
    have e9 : W3.cell? ⟨g, 9, none⟩ = some (.string ⟨X.s.toArray⟩) := hk3.cell 9
    have e10 : W3.cell? ⟨g, 10, none⟩ = some (.slice A4 X.l.length c4) := hk3.cell 10
    have r0 : W3.cell? ⟨w.heap.size + 1, 0, none⟩ = some (.string ⟨#[]⟩) := kr3.cell 0
    have f0 := kr3.frozen 0
    have r1 : W3.cell? ⟨w.heap.size + 1, 1, none⟩ = some (.slice none 0 0) := kr3.cell 1
    have f1 := kr3.frozen 1
    have r2 : W3.cell? ⟨w.heap.size + 1, 2, none⟩ = some (.int .i64 0) := kr3.cell 2
    have f2 := kr3.frozen 2
    have r3 : W3.cell? ⟨w.heap.size + 1, 3, none⟩ = some (.slice none 0 0) := kr3.cell 3
    have f3 := kr3.frozen 3
    have r4 : W3.cell? ⟨w.heap.size + 1, 4, none⟩ = some (.slice none 0 0) := kr3.cell 4
    have f4 := kr3.frozen 4
    have r5 : W3.cell? ⟨w.heap.size + 1, 5, none⟩ = some (.string ⟨#[]⟩) := kr3.cell 5
    have f5 := kr3.frozen 5
    have r6 : W3.cell? ⟨w.heap.size + 1, 6, none⟩ = some (.int .i64 0) := kr3.cell 6
    have f6 := kr3.frozen 6
    have r7 : W3.cell? ⟨w.heap.size + 1, 7, none⟩ = some (.int .i64 0) := kr3.cell 7
    have f7 := kr3.frozen 7
    have r8 : W3.cell? ⟨w.heap.size + 1, 8, none⟩ = some (.string ⟨#[]⟩) := kr3.cell 8
    have f8 := kr3.frozen 8
    have r9 : W3.cell? ⟨w.heap.size + 1, 9, none⟩ = some (.string ⟨#[]⟩) := kr3.cell 9
    have f9 := kr3.frozen 9
    have r10 : W3.cell? ⟨w.heap.size + 1, 10, none⟩ = some (.slice none 0 0) := kr3.cell 10
    have f10 := kr3.frozen 10
    obtain ⟨U, hU⟩ : ∃ U, t.uniq.take 10 = U := ⟨_, rfl⟩
    obtain ⟨RR, hRR⟩ : ∃ R, (t.refs.take 10).map fewFr = R := ⟨_, rfl⟩
    rw [hU] at e3 HIF
    rw [hRR] at e4 HFF
    have HRES2 : Hid (t.few = ⟨N, CO, t.key, U, RR, X⟩) := by show _ = _; rw [HRES.out, ← hU, ← hRR]; rfl
    have HBW3 := Lib.hid hbw3
    clear hU hRR hbw3 hbut23 hbut3 hbut2 hb03
    clear hIF hFQ hownR hCQ hXQ HOU HU HR HRES
    go_wp2_with fail
    refine bodyPost_ret (v := .agg #[.string ⟨N.toArray⟩, .slice A3 CO.length c3, .int .i64 t.key, .slice AU U.length cU, .slice AR RR.length cR, .string ⟨X.op.toArray⟩, .int .i64 X.v.k, .int .i64 X.v.i, .string ⟨X.v.s.toArray⟩, .string ⟨X.s.toArray⟩, .slice A4 X.l.length c4]) (by simp [results, Tryz.results20, go_sem, *]) rfl ?_
    rw [HRES2.out]
    exact few6_fin HBW3.out (Nat.le_succ _) HCF.out HIF.out HFF.out HXF2.out

end Go.Proofs.YtdhjogmkhbpcgaaGreat

namespace Go.Proofs.YtdhjogmkhbpcgaaGreat
open Go.RowKit

attribute [local go_sem] ByteArray.extract_mk ba_get ba_append
attribute [local go_sem ↓] Go.wp_at_zero Go.wp_at_succ run_eql_V run_neq_V

theorem RowsOwn.but {w w' : World} {e : TypeId} {lo p : Nat} {sv : Value} {l : List (List V)} (h : RowsOwn w e lo sv l) (hb : But p w w') (hp : p < lo) : RowsOwn w' e lo sv l := by
  obtain ⟨recs, h1, h2, h3⟩ := h
  exact ⟨recs, h1, own_but h2 hb hp, fun q hq => (h3 q hq).keep fun b hb' => ⟨⟨hb'.1, Nat.lt_of_lt_of_le hb'.2.1 hb.size, hb'.2.2⟩, fun o => hb.cell hb'.2.1 (by omega) o⟩⟩
/-- What a call leaves that answers a table with rows. -/
def RetRl (X : Rl) (w : World) (en : Ending) (w' : World) : Prop :=
  ∃ p : RlP, en = .returned (.agg (X.cells p).toArray) ∧ RlQ 1000 X p (fun b => w.heap.size ≤ b ∧ b < w'.heap.size) w' ∧ X.rows.length ≤ p.rows.c ∧ p.rows.c ≤ maxLen ∧ Below w.heap.size w w'
theorem few7_fin {w W3 : World} {r : Nat} {T : Tb} {L : List (List V)} {b1 b2 b3 b4 AR : Option Addr} {l1 l2 l3 l4 cR : Nat} (hb : Below w.heap.size w W3) (hr : w.heap.size ≤ r)
    (hT : TbQ 1000 T ⟨⟨b1, l1⟩, ⟨b2, l2⟩, ⟨b3, l3⟩, ⟨b4, l4⟩⟩ (fun b => r < b ∧ b < W3.heap.size) W3) (hR : RQ L AR (fun b => r < b ∧ b < W3.heap.size) W3) (hlc : L.length ≤ cR) (hcm : cR ≤ maxLen) :
    RetRl ⟨T, L⟩ w (.returned (.agg #[.string ⟨T.n.toArray⟩, .slice b1 T.cols.length l1, .int .i64 T.key, .slice b2 T.uniq.length l2, .slice b3 T.refs.length l3, .string ⟨T.chk.op.toArray⟩, .int .i64 T.chk.v.k, .int .i64 T.chk.v.i, .string ⟨T.chk.v.s.toArray⟩, .string ⟨T.chk.s.toArray⟩, .slice b4 T.chk.l.length l4, .slice AR L.length cR])) ((((((((((((W3.setCell ⟨r, 0, none⟩ (.string ⟨T.n.toArray⟩)).setCell ⟨r, 1, none⟩ (.slice b1 T.cols.length l1)).setCell ⟨r, 2, none⟩ (.int .i64 T.key)).setCell ⟨r, 3, none⟩ (.slice b2 T.uniq.length l2)).setCell ⟨r, 4, none⟩ (.slice b3 T.refs.length l3)).setCell ⟨r, 5, none⟩ (.string ⟨T.chk.op.toArray⟩)).setCell ⟨r, 6, none⟩ (.int .i64 T.chk.v.k)).setCell ⟨r, 7, none⟩ (.int .i64 T.chk.v.i)).setCell ⟨r, 8, none⟩ (.string ⟨T.chk.v.s.toArray⟩)).setCell ⟨r, 9, none⟩ (.string ⟨T.chk.s.toArray⟩)).setCell ⟨r, 10, none⟩ (.slice b4 T.chk.l.length l4)).setCell ⟨r, 11, none⟩ (.slice AR L.length cR)) := by
  have bt : But r W3 ((((((((((((W3.setCell ⟨r, 0, none⟩ (.string ⟨T.n.toArray⟩)).setCell ⟨r, 1, none⟩ (.slice b1 T.cols.length l1)).setCell ⟨r, 2, none⟩ (.int .i64 T.key)).setCell ⟨r, 3, none⟩ (.slice b2 T.uniq.length l2)).setCell ⟨r, 4, none⟩ (.slice b3 T.refs.length l3)).setCell ⟨r, 5, none⟩ (.string ⟨T.chk.op.toArray⟩)).setCell ⟨r, 6, none⟩ (.int .i64 T.chk.v.k)).setCell ⟨r, 7, none⟩ (.int .i64 T.chk.v.i)).setCell ⟨r, 8, none⟩ (.string ⟨T.chk.v.s.toArray⟩)).setCell ⟨r, 9, none⟩ (.string ⟨T.chk.s.toArray⟩)).setCell ⟨r, 10, none⟩ (.slice b4 T.chk.l.length l4)).setCell ⟨r, 11, none⟩ (.slice AR L.length cR)) := (((((((((((((But.refl r W3).set 0 _).set 1 _).set 2 _).set 3 _).set 4 _).set 5 _).set 6 _).set 7 _).set 8 _).set 9 _).set 10 _).set 11 _)
  have hbx : Below w.heap.size w ((((((((((((W3.setCell ⟨r, 0, none⟩ (.string ⟨T.n.toArray⟩)).setCell ⟨r, 1, none⟩ (.slice b1 T.cols.length l1)).setCell ⟨r, 2, none⟩ (.int .i64 T.key)).setCell ⟨r, 3, none⟩ (.slice b2 T.uniq.length l2)).setCell ⟨r, 4, none⟩ (.slice b3 T.refs.length l3)).setCell ⟨r, 5, none⟩ (.string ⟨T.chk.op.toArray⟩)).setCell ⟨r, 6, none⟩ (.int .i64 T.chk.v.k)).setCell ⟨r, 7, none⟩ (.int .i64 T.chk.v.i)).setCell ⟨r, 8, none⟩ (.string ⟨T.chk.v.s.toArray⟩)).setCell ⟨r, 9, none⟩ (.string ⟨T.chk.s.toArray⟩)).setCell ⟨r, 10, none⟩ (.slice b4 T.chk.l.length l4)).setCell ⟨r, 11, none⟩ (.slice AR L.length cR)) := by exact bl
  generalize ((((((((((((W3.setCell ⟨r, 0, none⟩ (.string ⟨T.n.toArray⟩)).setCell ⟨r, 1, none⟩ (.slice b1 T.cols.length l1)).setCell ⟨r, 2, none⟩ (.int .i64 T.key)).setCell ⟨r, 3, none⟩ (.slice b2 T.uniq.length l2)).setCell ⟨r, 4, none⟩ (.slice b3 T.refs.length l3)).setCell ⟨r, 5, none⟩ (.string ⟨T.chk.op.toArray⟩)).setCell ⟨r, 6, none⟩ (.int .i64 T.chk.v.k)).setCell ⟨r, 7, none⟩ (.int .i64 T.chk.v.i)).setCell ⟨r, 8, none⟩ (.string ⟨T.chk.v.s.toArray⟩)).setCell ⟨r, 9, none⟩ (.string ⟨T.chk.s.toArray⟩)).setCell ⟨r, 10, none⟩ (.slice b4 T.chk.l.length l4)).setCell ⟨r, 11, none⟩ (.slice AR L.length cR)) = wx at *
  have hk : ∀ b, (r < b ∧ b < W3.heap.size) → (w.heap.size ≤ b ∧ b < wx.heap.size) ∧ ∀ o, wx.cell? ⟨b, o, none⟩ = W3.cell? ⟨b, o, none⟩ := fun b h => ⟨⟨by omega, by have := bt.size; omega⟩, fun o => bt.cell h.2 (by omega) o⟩
  exact ⟨⟨⟨⟨b1, l1⟩, ⟨b2, l2⟩, ⟨b3, l3⟩, ⟨b4, l4⟩⟩, ⟨AR, cR⟩⟩, rfl, ⟨hT.keep hk, hR.keep hk⟩, hlc, hcm, hbx⟩

set_option maxRecDepth 100000 in
set_option maxHeartbeats 8000000 in
theorem few7_any (x : Rl) (p : RlP) (w : World) (hs : x.big) (hQ : RlQ maxLen x p (Old w.heap.size) w) : Calls Tryz.prog 8 #[.agg (x.cells p).toArray] w (RetRl x.few w) := by
  obtain ⟨i0, hi0, zi0, zi1, zi2⟩ := info_parts infoR
  obtain ⟨t, rows⟩ := x
  obtain ⟨hn, hcl, hcn, hul, hrl, hrt, hcf, hck, hrows, hrw⟩ := hs
  obtain ⟨hT, hR⟩ := hQ
  obtain ⟨⟨⟨a1, k1⟩, ⟨a2, k2⟩, ⟨a3, k3⟩, ⟨a4, k4⟩⟩, ⟨a5, k5⟩⟩ := p
  obtain ⟨w0, hw0⟩ : ∃ w0, (w.alloc (.cells (Rl.cells ⟨t, rows⟩ ⟨⟨⟨a1, k1⟩, ⟨a2, k2⟩, ⟨a3, k3⟩, ⟨a4, k4⟩⟩, ⟨a5, k5⟩⟩).toArray 34)).alloc (.cells #[.string ⟨#[]⟩, .slice none 0 0, .int .i64 0, .slice none 0 0, .slice none 0 0, .string ⟨#[]⟩, .int .i64 0, .int .i64 0, .string ⟨#[]⟩, .string ⟨#[]⟩, .slice none 0 0, .slice none 0 0] 34) = w0 := ⟨_, rfl⟩
  have kx0 : Blk w0 w.heap.size 34 (Rl.cells ⟨t, rows⟩ ⟨⟨⟨a1, k1⟩, ⟨a2, k2⟩, ⟨a3, k3⟩, ⟨a4, k4⟩⟩, ⟨a5, k5⟩⟩).toArray := by rw [← hw0]; exact (Blk.new _ _ _).alloc _
  have kr0 : Blk w0 (w.heap.size + 1) 34 #[.string ⟨#[]⟩, .slice none 0 0, .int .i64 0, .slice none 0 0, .slice none 0 0, .string ⟨#[]⟩, .int .i64 0, .int .i64 0, .string ⟨#[]⟩, .string ⟨#[]⟩, .slice none 0 0, .slice none 0 0] := by rw [← hw0]; exact Blk.new' _ _ _ _ (by simp)
  have hb0 : Below w.heap.size w w0 := by rw [← hw0]; exact bl
  have hz0 : w0.heap.size = w.heap.size + 2 := by rw [← hw0]; simp
  have HW := Lib.hid hw0
  have HF6 := Lib.hid (few6_any t ⟨⟨a1, k1⟩, ⟨a2, k2⟩, ⟨a3, k3⟩, ⟨a4, k4⟩⟩ w0 ⟨hn, hcl, hcn, hul, hrl, hrt, hcf, hck⟩ (hT.keep (old_keep hb0 hb0.size)))
  have HRO : Hid (∀ Y : World, Below w.heap.size w Y → RQ rows a5 (Old w.heap.size) Y) := fun Y h => hR.keep (fun b hb => ⟨hb, fun o => h.cell (p := ⟨b, o, none⟩) hb⟩)
  have HRW : Hid (∀ r ∈ rows, r.length ≤ maxLen ∧ ∀ v ∈ r, fitI v.i) := hrw
  have HZ0 := Lib.hid hz0
  obtain ⟨T, hTT⟩ : ∃ T, t.few = T := ⟨_, rfl⟩
  rw [hTT] at HF6
  obtain ⟨m, hm⟩ : ∃ m, (if 200 < rows.length then 201 else 40) = m := ⟨_, rfl⟩
  have hm40 : 40 ≤ m ∧ m ≤ 201 := by rw [← hm]; split <;> omega
  have HM := Lib.hid hm
  have HRES : Hid (Rl.few ⟨t, rows⟩ = ⟨T, (rows.take m).map fewL⟩) := by show _ = _; unfold Rl.few; simp only; rw [hTT, hm]
  unfold maxLen at hrows
  have q0 : w0.cell? ⟨w.heap.size, 0, none⟩ = some (.string ⟨t.n.toArray⟩) := kx0.cell 0
  have q1 : w0.cell? ⟨w.heap.size, 1, none⟩ = some (.slice a1 t.cols.length k1) := kx0.cell 1
  have q2 : w0.cell? ⟨w.heap.size, 2, none⟩ = some (.int .i64 t.key) := kx0.cell 2
  have q3 : w0.cell? ⟨w.heap.size, 3, none⟩ = some (.slice a2 t.uniq.length k2) := kx0.cell 3
  have q4 : w0.cell? ⟨w.heap.size, 4, none⟩ = some (.slice a3 t.refs.length k3) := kx0.cell 4
  have q5 : w0.cell? ⟨w.heap.size, 5, none⟩ = some (.string ⟨t.chk.op.toArray⟩) := kx0.cell 5
  have q6 : w0.cell? ⟨w.heap.size, 6, none⟩ = some (.int .i64 t.chk.v.k) := kx0.cell 6
  have q7 : w0.cell? ⟨w.heap.size, 7, none⟩ = some (.int .i64 t.chk.v.i) := kx0.cell 7
  have q8 : w0.cell? ⟨w.heap.size, 8, none⟩ = some (.string ⟨t.chk.v.s.toArray⟩) := kx0.cell 8
  have q9 : w0.cell? ⟨w.heap.size, 9, none⟩ = some (.string ⟨t.chk.s.toArray⟩) := kx0.cell 9
  have q10 : w0.cell? ⟨w.heap.size, 10, none⟩ = some (.slice a4 t.chk.l.length k4) := kx0.cell 10
  have q11 : w0.cell? ⟨w.heap.size, 11, none⟩ = some (.slice a5 rows.length k5) := kx0.cell 11
  clear hw0 hT hR hrw hTT hm hcn hrt hcf
  go_enter Tryz.func8, Tryz.ntmps8
  go_upto_region 1 with fail
  rw [HW.out]
  clear HW
  dsimp only [Tb.cells] at HF6
  go_wp2_with fail
  refine HF6.out.mono ?_
  rintro en wT ⟨⟨⟨b1, l1⟩, ⟨b2, l2⟩, ⟨b3, l3⟩, ⟨b4, l4⟩⟩, rfl, hTQ, hbT⟩
  dsimp only [Tb.cells]
  have hzT := hbT.size
  have HTQ := Lib.hid hTQ
  have hbwT := hb0.trans (hbT.mono hb0.size)
  have kxT := kx0.below hbT kx0.lt
  have krT := kr0.below hbT kr0.lt
  clear hTQ q0 q1 q2 q3 q4 q5 q6 q7 q8 q9 q10 q11
  have qT : wT.cell? ⟨w.heap.size, 11, none⟩ = some (.slice a5 rows.length k5) := kxT.cell 11
  have lxT := kxT.lt
  obtain ⟨W1, hW1⟩ : ∃ W1, wT.alloc (.cells #[.string ⟨T.n.toArray⟩, .slice b1 T.cols.length l1, .int .i64 T.key, .slice b2 T.uniq.length l2, .slice b3 T.refs.length l3, .string ⟨T.chk.op.toArray⟩, .int .i64 T.chk.v.k, .int .i64 T.chk.v.i, .string ⟨T.chk.v.s.toArray⟩, .string ⟨T.chk.s.toArray⟩, .slice b4 T.chk.l.length l4, .slice none 0 0] 34) = W1 := ⟨_, rfl⟩
  have ky1 : Blk W1 wT.heap.size 34 #[.string ⟨T.n.toArray⟩, .slice b1 T.cols.length l1, .int .i64 T.key, .slice b2 T.uniq.length l2, .slice b3 T.refs.length l3, .string ⟨T.chk.op.toArray⟩, .int .i64 T.chk.v.k, .int .i64 T.chk.v.i, .string ⟨T.chk.v.s.toArray⟩, .string ⟨T.chk.s.toArray⟩, .slice b4 T.chk.l.length l4, .slice none 0 0] := by rw [← hW1]; exact Blk.new _ _ _
  have hbT1 : Below wT.heap.size wT W1 := by rw [← hW1]; exact bl
  have hz1 : W1.heap.size = wT.heap.size + 1 := by rw [← hW1]; simp
  have HW1 := Lib.hid hW1
  have HZ1 := Lib.hid hz1
  have kx1 := kxT.below hbT1 kxT.lt
  have kr1 := krT.below hbT1 krT.lt
  have hbw1 : Below w.heap.size w W1 := hbwT.trans (hbT1.mono hbwT.size)
  have hb01 : Below w0.heap.size w0 W1 := hbT.trans (hbT1.mono hzT)
  have lx1 := kx1.lt
  have lr1 := kr1.lt
  have ly1 := ky1.lt
  have x11 : W1.cell? ⟨w.heap.size, 11, none⟩ = some (.slice a5 rows.length k5) := kx1.cell 11
  clear hW1 qT
  go_upto_region 2 with fail
  rw [HW1.out]
  clear HW1 hz1
  have hz0 := HZ0.out
  go_upto_if 13 with fail
  go_cut [4] (fun s4 wx => s4 = .int .i64 (m : Nat) ∧ wx = W1)
  case first =>
    by_cases hbig : 200 < rows.length
    · have hmm : m = 201 := by rw [← HM.out, if_pos hbig]
      have HMM := Lib.hid hmm
      have hbi : (200 : Int) < (rows.length : Int) := by omega
      clear hmm
      go_wp2_with fail
      go_meet
      rw [HMM.out]
      exact ⟨rfl, rfl⟩
    · have hmm : m = 40 := by rw [← HM.out, if_neg hbig]
      have HMM := Lib.hid hmm
      have hbi : ¬ (200 : Int) < (rows.length : Int) := by omega
      clear hmm
      go_wp2_with fail
      go_meet
      rw [HMM.out]
      exact ⟨rfl, rfl⟩
  obtain ⟨rfl, rfl⟩ := hcut
  have lgy : w0.heap.size ≤ wT.heap.size := hzT
  have hz1 := HZ1.out
  obtain ⟨gy, hgy⟩ : ∃ g, wT.heap.size = g := ⟨_, rfl⟩
  rw [hgy] at ky1 lgy hz1 ly1
  have HGY := Lib.hid hgy
  have HTQ1 : Hid (TbQ 1000 T ⟨⟨b1, l1⟩, ⟨b2, l2⟩, ⟨b3, l3⟩, ⟨b4, l4⟩⟩ (fun b => w0.heap.size ≤ b ∧ b < gy) wc) := HTQ.out.keep fun b hb => ⟨⟨hb.1, by rw [← hgy]; exact hb.2⟩, fun o => hbT1.cell (p := ⟨b, o, none⟩) hb.2⟩
  rw [hgy]
  clear hgy HTQ hbT hbT1 hbwT kxT krT lxT hzT
  obtain ⟨W1, rfl⟩ : ∃ W, W = wc := ⟨_, rfl⟩
  go_upto_block 0 with fail
  go_cut [5] from 14 to 36 (fun _ wx => ∃ v : Value, Blk wx gy 34 #[.string ⟨T.n.toArray⟩, .slice b1 T.cols.length l1, .int .i64 T.key, .slice b2 T.uniq.length l2, .slice b3 T.refs.length l3, .string ⟨T.chk.op.toArray⟩, .int .i64 T.chk.v.k, .int .i64 T.chk.v.i, .string ⟨T.chk.v.s.toArray⟩, .string ⟨T.chk.s.toArray⟩, .slice b4 T.chk.l.length l4, v] ∧ RowsOwn wx 43 W1.heap.size v ((rows.take m).map fewL) ∧ But gy W1 wx)
  case first =>
    go_wp2_with fail
    go_loopw [5] (fun i wr => ∃ (j N : Nat) (v : Value) (L : List (List V)), j ≤ rows.length ∧ j ≤ m ∧ N ≤ 201 ∧ i = .int .i64 j ∧ Hid (N = j) ∧ Hid (L = (rows.take j).map fewL) ∧ Blk wr gy 34 #[.string ⟨T.n.toArray⟩, .slice b1 T.cols.length l1, .int .i64 T.key, .slice b2 T.uniq.length l2, .slice b3 T.refs.length l3, .string ⟨T.chk.op.toArray⟩, .int .i64 T.chk.v.k, .int .i64 T.chk.v.i, .string ⟨T.chk.v.s.toArray⟩, .string ⟨T.chk.s.toArray⟩, .slice b4 T.chk.l.length l4, v] ∧ RowsOwn wr 43 W1.heap.size v L ∧ But gy W1 wr) (fun i _ => rows.length - (intOf i).toNat)
    case atStart => exact ⟨0, 0, .slice none 0 0, [], by omega, by omega, by omega, rfl, rfl, rfl, ky1, RowsOwn.nil, But.refl _ _⟩
    case round =>
      obtain ⟨j, N, v, L, hj1, hj2, hN201, rfl, HN, HL, hk, hro, hbut⟩ := hrel
      have hb0r := But.inside hb01 lgy hbut
      have hbwr : Below w.heap.size w wr := hb0.trans (hb0r.mono hb0.size)
      have hzr := hbut.size
      have kxr := hbut.blk kx1 (by omega)
      have lkr := hk.lt
      by_cases hlt : j < rows.length ∧ j < m
      · obtain ⟨hlt, h10⟩ := hlt
        obtain ⟨b, off, r, A', c', rfl, hbB, hv, cr, hWr⟩ := (HRO.out wr hbwr).at_ hlt
        have hbB' : b < w.heap.size := hbB
        obtain ⟨hrl0, _⟩ := HRW.out r (List.mem_of_getElem? hv)
        have HTK : Hid ((rows.take (j + 1)).map fewL = (rows.take j).map fewL ++ [fewL r]) := by show _ = _; rw [List.take_add_one, hv]; simp
        have i1 : (0 : Int) ≤ (j : Int) := by omega
        have i2 : (j : Int) < (rows.length : Int) := by omega
        obtain ⟨W, rfl⟩ : ∃ W, W = wr := ⟨_, rfl⟩
        have lW : w0.heap.size ≤ W.heap.size := hb0r.size
        have x4 : W.cell? ⟨gy, 11, none⟩ = some v := hk.cell 11
        have t4 : W.cell? ⟨w.heap.size, 11, none⟩ = some (.slice (some ⟨b, off, none⟩) rows.length k5) := kxr.cell 11
        have HS9 : Hid (∀ w' : World, Below w0.heap.size W w' → (w'.cell? ⟨w.heap.size, 11, none⟩ = some (.slice (some ⟨b, off, none⟩) rows.length k5) ∧ w'.cell? ⟨b, off + j, none⟩ = some (.slice A' r.length c'))) := fun w' h =>
          ⟨(h.cell (p := ⟨w.heap.size, 11, none⟩) (show w.heap.size < _ by omega)).trans t4, (h.cell (p := ⟨b, off + j, none⟩) (show b < _ by omega)).trans cr⟩
        have HWR : Hid (∀ Z : World, Below W.heap.size W Z → VS Z Z.heap.size A' r) := fun Z h => (hWr.keep (Q' := Old Z.heap.size) fun b hb => ⟨Nat.lt_of_lt_of_le hb (Nat.le_trans hbwr.size h.size), fun o => h.cell (p := ⟨b, o, none⟩) (Nat.lt_of_lt_of_le hb hbwr.size)⟩).s (fun b h => h)
        have HRL0 := Lib.hid hrl0
        obtain ⟨recs, hrl1, hown, hrec⟩ := hro
        have HOL := Lib.hid hown.lt
        have hLN : L.length = N := by rw [HL.out, HN.out, List.length_map, List.length_take]; omega
        rw [hLN] at hown
        have HLN := Lib.hid hLN.symm
        have HRL := Lib.hid hrl1
        have HREC := Lib.hid hrec
        have HOW := Lib.hid hown
        have hd : W.drew.heap.size = W.heap.size := rfl
        have HD := Lib.hid hd
        clear hv hbB hown cr hWr hrec hrl1 hLN hrl0 hd
        go_wp2_with fail
        refine wp_region_held_drew (S := (fun w' => (w'.cell? ⟨w.heap.size, 11, none⟩ = some (.slice (some ⟨b, off, none⟩) rows.length k5) ∧ w'.cell? ⟨b, off + j, none⟩ = some (.slice A' r.length c')))) (by kernel_rfl) ?_ (fun hHeld => ?_)
        · try dsimp only
          exact HS9.out _ (by exact bl)
        refine wpAnyT_start [0, 2, 3, 4, 5, 6] ?_
        iterate 6
          refine wpAnyT_cons (v := ?_) rfl (by kernel_rfl) (by kernel_rfl) (by kernel_rfl) (fun _ _ _ h => h) (Or.inl ⟨by rfl, ?_⟩) (by assumption) ?_
          rotate_left
          · intro wq hSw
            try dsimp only at hSw
            go_simp
            try with_reducible rfl
          try simp only [Act.put, List.getElem_toArray, List.getElem_cons_zero, List.getElem_cons_succ, List.setIfInBounds_toArray, List.set_cons_zero, List.set_cons_succ]
        refine wpAnyT_nil ?_
        refine wpAnyH_ready (rs := [1, 7]) (by kernel_rfl) (by simp) ?_
        refine (AllReadyH.cons rfl (fun K hK => ?_) (AllReadyH.cons rfl (fun K hK => ?_) AllReadyH.nil))
        · skip
          go_simp
          skip
          go_wp2_with fail
          refine hK.out _ _ ?_ (fun hHeld => ?_)
          · try dsimp only
            exact HS9.out _ (by exact bl)
          clear hK K
          try simp only [Act.put, List.getElem_toArray, List.getElem_cons_zero, List.getElem_cons_succ, List.setIfInBounds_toArray, List.set_cons_zero, List.set_cons_succ]
          refine wpAnyH_ready (rs := [7]) (by kernel_rfl) (by simp) ?_
          refine AllReadyH.cons rfl (fun K hK => ?_) AllReadyH.nil
          go_simp
          refine (few_any A' c' r _ HRL0.out (HWR.out _ (by exact bl))).mono ?_ <;> rintro en w7 ⟨A5, c5, rfl, hc51, hc52, hV5, hb7⟩ <;> have hz7 := hb7.size <;> have hbW7 : Below W.heap.size W w7 := (by exact bl) <;> have hzW7 := hbW7.size <;> have lg7 : gy < w7.heap.size := (by omega) <;> have x47 : w7.cell? ⟨gy, 11, none⟩ = some v := ((hk.below hbW7 lkr).cell 11) <;> have HV5 : Hid (WQ (fewL r) A5 (fun b => W1.heap.size ≤ b ∧ b < w7.heap.size ∧ some b ≠ v.ownBlock) w7) := (WQ.ofF hV5 (fun b h1 h2 => ⟨by have := HD.out; omega, h2, fun e1 => by have := (HOL.out b e1.symm).2; have := HD.out; omega⟩)) <;> clear hV5
          go_wp2_with fail
          refine hK.out _ _ ?_ (fun hHeld => ?_)
          · try dsimp only
            exact HS9.out _ (by exact bl)
          clear hK K
          try simp only [Act.put, List.getElem_toArray, List.getElem_cons_zero, List.getElem_cons_succ, List.setIfInBounds_toArray, List.set_cons_zero, List.set_cons_succ]
          refine wpAnyH_ready (rs := [8]) (by kernel_rfl) (by simp) ?_
          refine AllReadyH.cons rfl (fun K hK => ?_) AllReadyH.nil
          go_simp
          skip
          go_wp2_with fail
          refine hK.out _ _ ?_ (fun hHeld => ?_)
          · try dsimp only
            exact HS9.out _ (by exact bl)
          clear hK K
          try simp only [Act.put, List.getElem_toArray, List.getElem_cons_zero, List.getElem_cons_succ, List.setIfInBounds_toArray, List.set_cons_zero, List.set_cons_succ]
          refine wpAnyH_ready (rs := [9]) (by kernel_rfl) (by simp) ?_
          refine AllReadyH.cons rfl (fun K hK => ?_) AllReadyH.nil
          refine step_append_lies _ rfl (.tmp 27) (.tmp 34) 32 rfl W1.heap.size 43 i0 _ 1 24 Tryz.underlying32 hi0 zi0 zi1 zi2 rfl (by decide) v N (recs.map Rc.cell) (by simp [Act.eval]) ((own_below HOW.out hbW7).alloc _) ⟨w7.heap.size, 0, none⟩ 1 1 [.slice A5 (fewL r).length c5] (by simp [Act.eval]) rfl (World.news_of_block (cs := #[.slice A5 (fewL r).length c5]) (t := 43) (fr := (0, 0)) (heap_alloc_new w7 _)) (by simp [Value.oneCell']) (by omega) (by unfold maxLen; omega) (by omega) (by have := hbW7.size; simp; omega) _ rfl ?_; intro g5 cap w5 hown5 hg5 hor5 hl5; have hk5 := ((hk.below hbW7 lkr).alloc (.cells #[.slice A5 (fewL r).length c5] 43)).grown hg5 (fun e => (by have := (HOL.out _ e.symm).1; omega)); have hfr5 := hk5.frozen 11; have hcl5 : w5.cell? ⟨gy, 11, none⟩ = some v := hk5.cell 11; have hbw5 : Below w0.heap.size W w5 := ((hbW7.mono lW).alloc (by have := hbW7.size; omega) _).grown hg5 (by have := hbW7.size; simp; omega) (fun k hk => by have := (HOL.out k hk).1; omega); have HST := Lib.hid (RowsOwn.step (w := w7) (l := L) HRL.out (fun q hq => (HREC.out q hq).keep fun b hb' => ⟨⟨hb'.1, Nat.lt_of_lt_of_le hb'.2.1 hbW7.size, hb'.2.2⟩, fun o => hbW7.cell (p := ⟨b, o, none⟩) hb'.2.1⟩) HV5.out HLN.out hown5 ((Below.refl _ _).alloc (Nat.le_refl _) _) hg5 (by simpa using hor5))
          refine hK.out _ _ ?_ (fun hHeld => ?_)
          · try dsimp only
            exact HS9.out _ (by exact bl)
          clear hK K
          try simp only [Act.put, List.getElem_toArray, List.getElem_cons_zero, List.getElem_cons_succ, List.setIfInBounds_toArray, List.set_cons_zero, List.set_cons_succ]
          refine wpAnyH_take (i := 10) (v := ?_) rfl (by kernel_rfl) (by kernel_rfl) (by kernel_rfl) (fun _ _ _ h => h) (Or.inl ⟨by rfl, ?_⟩) (by assumption) ?_
          rotate_left
          · intro wq hSw
            try dsimp only at hSw
            go_simp
            try with_reducible rfl
          try simp only [Act.put, List.getElem_toArray, List.getElem_cons_zero, List.getElem_cons_succ, List.setIfInBounds_toArray, List.set_cons_zero, List.set_cons_succ]
          refine wpAnyH_ready (rs := [11]) (by kernel_rfl) (by simp) ?_
          refine AllReadyH.cons rfl (fun K hK => ?_) AllReadyH.nil
          go_simp
          skip
          go_wp2_with fail
          refine hK.out _ _ ?_ (fun hHeld => ?_)
          · try dsimp only
            exact HS9.out _ (by exact bl)
          clear hK K
          try simp only [Act.put, List.getElem_toArray, List.getElem_cons_zero, List.getElem_cons_succ, List.setIfInBounds_toArray, List.set_cons_zero, List.set_cons_succ]
          refine wpAnyH_done (by kernel_rfl) ?_ _
          go_wp2_with fail
          go_roundw
          case rel =>
            refine ⟨j + 1, N + 1, .slice (some ⟨g5, 0, none⟩) (N + 1) cap, L ++ [fewL r], by omega, by omega, by have := HN.out; omega, by go_num, by rw [HN.out]; rfl, by rw [HL.out, HTK.out]; rfl, by simpa using hk5.set_ 11 (.slice (some ⟨g5, 0, none⟩) (N + 1) cap), ?_, ?_⟩
            · exact HST.out.but ((But.refl gy w5).set 11 _) (by omega)
            · exact (((hbut.after hbW7).alloc _).grown hg5 (fun k hk => (HOL.out k hk).1)).set 11 _
          case measure => simp [intOf]; omega
        · skip
          go_simp
          refine (few_any A' c' r _ HRL0.out (HWR.out _ (by exact bl))).mono ?_ <;> rintro en w7 ⟨A5, c5, rfl, hc51, hc52, hV5, hb7⟩ <;> have hz7 := hb7.size <;> have hbW7 : Below W.heap.size W w7 := (by exact bl) <;> have hzW7 := hbW7.size <;> have lg7 : gy < w7.heap.size := (by omega) <;> have x47 : w7.cell? ⟨gy, 11, none⟩ = some v := ((hk.below hbW7 lkr).cell 11) <;> have HV5 : Hid (WQ (fewL r) A5 (fun b => W1.heap.size ≤ b ∧ b < w7.heap.size ∧ some b ≠ v.ownBlock) w7) := (WQ.ofF hV5 (fun b h1 h2 => ⟨by have := HD.out; omega, h2, fun e1 => by have := (HOL.out b e1.symm).2; have := HD.out; omega⟩)) <;> clear hV5
          go_wp2_with fail
          refine hK.out _ _ ?_ (fun hHeld => ?_)
          · try dsimp only
            exact HS9.out _ (by exact bl)
          clear hK K
          try simp only [Act.put, List.getElem_toArray, List.getElem_cons_zero, List.getElem_cons_succ, List.setIfInBounds_toArray, List.set_cons_zero, List.set_cons_succ]
          refine wpAnyH_ready (rs := [1, 8]) (by kernel_rfl) (by simp) ?_
          refine (AllReadyH.cons rfl (fun K hK => ?_) (AllReadyH.cons rfl (fun K hK => ?_) AllReadyH.nil))
          · skip
            go_simp
            skip
            go_wp2_with fail
            refine hK.out _ _ ?_ (fun hHeld => ?_)
            · try dsimp only
              exact HS9.out _ (by exact bl)
            clear hK K
            try simp only [Act.put, List.getElem_toArray, List.getElem_cons_zero, List.getElem_cons_succ, List.setIfInBounds_toArray, List.set_cons_zero, List.set_cons_succ]
            refine wpAnyH_ready (rs := [8]) (by kernel_rfl) (by simp) ?_
            refine AllReadyH.cons rfl (fun K hK => ?_) AllReadyH.nil
            go_simp
            skip
            go_wp2_with fail
            refine hK.out _ _ ?_ (fun hHeld => ?_)
            · try dsimp only
              exact HS9.out _ (by exact bl)
            clear hK K
            try simp only [Act.put, List.getElem_toArray, List.getElem_cons_zero, List.getElem_cons_succ, List.setIfInBounds_toArray, List.set_cons_zero, List.set_cons_succ]
            refine wpAnyH_ready (rs := [9]) (by kernel_rfl) (by simp) ?_
            refine AllReadyH.cons rfl (fun K hK => ?_) AllReadyH.nil
            refine step_append_lies _ rfl (.tmp 27) (.tmp 34) 32 rfl W1.heap.size 43 i0 _ 1 24 Tryz.underlying32 hi0 zi0 zi1 zi2 rfl (by decide) v N (recs.map Rc.cell) (by simp [Act.eval]) ((own_below HOW.out hbW7).alloc _) ⟨w7.heap.size, 0, none⟩ 1 1 [.slice A5 (fewL r).length c5] (by simp [Act.eval]) rfl (World.news_of_block (cs := #[.slice A5 (fewL r).length c5]) (t := 43) (fr := (0, 0)) (heap_alloc_new w7 _)) (by simp [Value.oneCell']) (by omega) (by unfold maxLen; omega) (by omega) (by have := hbW7.size; simp; omega) _ rfl ?_; intro g5 cap w5 hown5 hg5 hor5 hl5; have hk5 := ((hk.below hbW7 lkr).alloc (.cells #[.slice A5 (fewL r).length c5] 43)).grown hg5 (fun e => (by have := (HOL.out _ e.symm).1; omega)); have hfr5 := hk5.frozen 11; have hcl5 : w5.cell? ⟨gy, 11, none⟩ = some v := hk5.cell 11; have hbw5 : Below w0.heap.size W w5 := ((hbW7.mono lW).alloc (by have := hbW7.size; omega) _).grown hg5 (by have := hbW7.size; simp; omega) (fun k hk => by have := (HOL.out k hk).1; omega); have HST := Lib.hid (RowsOwn.step (w := w7) (l := L) HRL.out (fun q hq => (HREC.out q hq).keep fun b hb' => ⟨⟨hb'.1, Nat.lt_of_lt_of_le hb'.2.1 hbW7.size, hb'.2.2⟩, fun o => hbW7.cell (p := ⟨b, o, none⟩) hb'.2.1⟩) HV5.out HLN.out hown5 ((Below.refl _ _).alloc (Nat.le_refl _) _) hg5 (by simpa using hor5))
            refine hK.out _ _ ?_ (fun hHeld => ?_)
            · try dsimp only
              exact HS9.out _ (by exact bl)
            clear hK K
            try simp only [Act.put, List.getElem_toArray, List.getElem_cons_zero, List.getElem_cons_succ, List.setIfInBounds_toArray, List.set_cons_zero, List.set_cons_succ]
            refine wpAnyH_take (i := 10) (v := ?_) rfl (by kernel_rfl) (by kernel_rfl) (by kernel_rfl) (fun _ _ _ h => h) (Or.inl ⟨by rfl, ?_⟩) (by assumption) ?_
            rotate_left
            · intro wq hSw
              try dsimp only at hSw
              go_simp
              try with_reducible rfl
            try simp only [Act.put, List.getElem_toArray, List.getElem_cons_zero, List.getElem_cons_succ, List.setIfInBounds_toArray, List.set_cons_zero, List.set_cons_succ]
            refine wpAnyH_ready (rs := [11]) (by kernel_rfl) (by simp) ?_
            refine AllReadyH.cons rfl (fun K hK => ?_) AllReadyH.nil
            go_simp
            skip
            go_wp2_with fail
            refine hK.out _ _ ?_ (fun hHeld => ?_)
            · try dsimp only
              exact HS9.out _ (by exact bl)
            clear hK K
            try simp only [Act.put, List.getElem_toArray, List.getElem_cons_zero, List.getElem_cons_succ, List.setIfInBounds_toArray, List.set_cons_zero, List.set_cons_succ]
            refine wpAnyH_done (by kernel_rfl) ?_ _
            go_wp2_with fail
            go_roundw
            case rel =>
              refine ⟨j + 1, N + 1, .slice (some ⟨g5, 0, none⟩) (N + 1) cap, L ++ [fewL r], by omega, by omega, by have := HN.out; omega, by go_num, by rw [HN.out]; rfl, by rw [HL.out, HTK.out]; rfl, by simpa using hk5.set_ 11 (.slice (some ⟨g5, 0, none⟩) (N + 1) cap), ?_, ?_⟩
              · exact HST.out.but ((But.refl gy w5).set 11 _) (by omega)
              · exact (((hbut.after hbW7).alloc _).grown hg5 (fun k hk => (HOL.out k hk).1)).set 11 _
            case measure => simp [intOf]; omega
          · skip
            go_simp
            skip
            go_wp2_with fail
            refine hK.out _ _ ?_ (fun hHeld => ?_)
            · try dsimp only
              exact HS9.out _ (by exact bl)
            clear hK K
            try simp only [Act.put, List.getElem_toArray, List.getElem_cons_zero, List.getElem_cons_succ, List.setIfInBounds_toArray, List.set_cons_zero, List.set_cons_succ]
            refine wpAnyH_ready (rs := [1]) (by kernel_rfl) (by simp) ?_
            refine AllReadyH.cons rfl (fun K hK => ?_) AllReadyH.nil
            go_simp
            skip
            go_wp2_with fail
            refine hK.out _ _ ?_ (fun hHeld => ?_)
            · try dsimp only
              exact HS9.out _ (by exact bl)
            clear hK K
            try simp only [Act.put, List.getElem_toArray, List.getElem_cons_zero, List.getElem_cons_succ, List.setIfInBounds_toArray, List.set_cons_zero, List.set_cons_succ]
            refine wpAnyH_ready (rs := [9]) (by kernel_rfl) (by simp) ?_
            refine AllReadyH.cons rfl (fun K hK => ?_) AllReadyH.nil
            refine step_append_lies _ rfl (.tmp 27) (.tmp 34) 32 rfl W1.heap.size 43 i0 _ 1 24 Tryz.underlying32 hi0 zi0 zi1 zi2 rfl (by decide) v N (recs.map Rc.cell) (by simp [Act.eval]) ((own_below HOW.out hbW7).alloc _) ⟨w7.heap.size, 0, none⟩ 1 1 [.slice A5 (fewL r).length c5] (by simp [Act.eval]) rfl (World.news_of_block (cs := #[.slice A5 (fewL r).length c5]) (t := 43) (fr := (0, 0)) (heap_alloc_new w7 _)) (by simp [Value.oneCell']) (by omega) (by unfold maxLen; omega) (by omega) (by have := hbW7.size; simp; omega) _ rfl ?_; intro g5 cap w5 hown5 hg5 hor5 hl5; have hk5 := ((hk.below hbW7 lkr).alloc (.cells #[.slice A5 (fewL r).length c5] 43)).grown hg5 (fun e => (by have := (HOL.out _ e.symm).1; omega)); have hfr5 := hk5.frozen 11; have hcl5 : w5.cell? ⟨gy, 11, none⟩ = some v := hk5.cell 11; have hbw5 : Below w0.heap.size W w5 := ((hbW7.mono lW).alloc (by have := hbW7.size; omega) _).grown hg5 (by have := hbW7.size; simp; omega) (fun k hk => by have := (HOL.out k hk).1; omega); have HST := Lib.hid (RowsOwn.step (w := w7) (l := L) HRL.out (fun q hq => (HREC.out q hq).keep fun b hb' => ⟨⟨hb'.1, Nat.lt_of_lt_of_le hb'.2.1 hbW7.size, hb'.2.2⟩, fun o => hbW7.cell (p := ⟨b, o, none⟩) hb'.2.1⟩) HV5.out HLN.out hown5 ((Below.refl _ _).alloc (Nat.le_refl _) _) hg5 (by simpa using hor5))
            refine hK.out _ _ ?_ (fun hHeld => ?_)
            · try dsimp only
              exact HS9.out _ (by exact bl)
            clear hK K
            try simp only [Act.put, List.getElem_toArray, List.getElem_cons_zero, List.getElem_cons_succ, List.setIfInBounds_toArray, List.set_cons_zero, List.set_cons_succ]
            refine wpAnyH_take (i := 10) (v := ?_) rfl (by kernel_rfl) (by kernel_rfl) (by kernel_rfl) (fun _ _ _ h => h) (Or.inl ⟨by rfl, ?_⟩) (by assumption) ?_
            rotate_left
            · intro wq hSw
              try dsimp only at hSw
              go_simp
              try with_reducible rfl
            try simp only [Act.put, List.getElem_toArray, List.getElem_cons_zero, List.getElem_cons_succ, List.setIfInBounds_toArray, List.set_cons_zero, List.set_cons_succ]
            refine wpAnyH_ready (rs := [11]) (by kernel_rfl) (by simp) ?_
            refine AllReadyH.cons rfl (fun K hK => ?_) AllReadyH.nil
            go_simp
            skip
            go_wp2_with fail
            refine hK.out _ _ ?_ (fun hHeld => ?_)
            · try dsimp only
              exact HS9.out _ (by exact bl)
            clear hK K
            try simp only [Act.put, List.getElem_toArray, List.getElem_cons_zero, List.getElem_cons_succ, List.setIfInBounds_toArray, List.set_cons_zero, List.set_cons_succ]
            refine wpAnyH_done (by kernel_rfl) ?_ _
            go_wp2_with fail
            go_roundw
            case rel =>
              refine ⟨j + 1, N + 1, .slice (some ⟨g5, 0, none⟩) (N + 1) cap, L ++ [fewL r], by omega, by omega, by have := HN.out; omega, by go_num, by rw [HN.out]; rfl, by rw [HL.out, HTK.out]; rfl, by simpa using hk5.set_ 11 (.slice (some ⟨g5, 0, none⟩) (N + 1) cap), ?_, ?_⟩
              · exact HST.out.but ((But.refl gy w5).set 11 _) (by omega)
              · exact (((hbut.after hbW7).alloc _).grown hg5 (fun k hk => (HOL.out k hk).1)).set 11 _
            case measure => simp [intOf]; omega
      · have htk : rows.take m = rows.take j := by
          by_cases h : j < rows.length
          · rw [show j = m by omega]
          · rw [List.take_of_length_le (i := m) (by omega), List.take_of_length_le (by omega)]
        have hwi : ¬ ((j : Int) < (rows.length : Int)) ∨ (j < rows.length ∧ ¬ (j : Int) < (m : Int)) := by omega
        have HEX : Hid (RowsOwn wr 43 W1.heap.size v ((rows.take m).map fewL)) := by show RowsOwn _ _ _ _ _; rw [htk, ← HL.out]; exact hro
        have t4 : wr.cell? ⟨w.heap.size, 11, none⟩ = some (.slice a5 rows.length k5) := kxr.cell 11
        clear htk hlt
        rcases hwi with h | ⟨h, h'⟩
        all_goals
          go_wp2_with fail
          go_meet
          exact ⟨v, hk, HEX.out, hbut⟩
  obtain ⟨vR, hk3, hro3, hbut3⟩ := hcut
  obtain ⟨W3, rfl⟩ : ∃ W, W = wc := ⟨_, rfl⟩
  have hz3 := hbut3.size
  obtain ⟨LL, hLL⟩ : ∃ L, (rows.take m).map fewL = L := ⟨_, rfl⟩
  rw [hLL] at hro3 HRES
  obtain ⟨AR, cR, rfl, hcR1, hcR2, hRQ⟩ := hro3.out
  have hb03 := But.inside hb01 lgy hbut3
  have HBW3 : Hid (Below w.heap.size w W3) := hb0.trans (hb03.mono hb0.size)
  have kr3 := hbut3.blk kr1 (by omega)
  have lk3 := hk3.lt
  have lr3 := kr3.lt
  have HTQ3 : Hid (TbQ 1000 T ⟨⟨b1, l1⟩, ⟨b2, l2⟩, ⟨b3, l3⟩, ⟨b4, l4⟩⟩ (fun b => w.heap.size + 1 < b ∧ b < W3.heap.size) W3) := HTQ1.out.keep fun b hb => ⟨⟨by omega, by omega⟩, fun o => hbut3.cell (by omega) (by omega) o⟩
  have HRQ3 : Hid (RQ LL AR (fun b => w.heap.size + 1 < b ∧ b < W3.heap.size) W3) := hRQ.keep fun b hb => ⟨⟨by omega, hb.2⟩, fun _ => rfl⟩
  have e0 : W3.cell? ⟨gy, 0, none⟩ = some (.string ⟨T.n.toArray⟩) := hk3.cell 0
  have e1 : W3.cell? ⟨gy, 1, none⟩ = some (.slice b1 T.cols.length l1) := hk3.cell 1
  have e2 : W3.cell? ⟨gy, 2, none⟩ = some (.int .i64 T.key) := hk3.cell 2
  have e3 : W3.cell? ⟨gy, 3, none⟩ = some (.slice b2 T.uniq.length l2) := hk3.cell 3
  have e4 : W3.cell? ⟨gy, 4, none⟩ = some (.slice b3 T.refs.length l3) := hk3.cell 4
  have e5 : W3.cell? ⟨gy, 5, none⟩ = some (.string ⟨T.chk.op.toArray⟩) := hk3.cell 5
  have e6 : W3.cell? ⟨gy, 6, none⟩ = some (.int .i64 T.chk.v.k) := hk3.cell 6
  have e7 : W3.cell? ⟨gy, 7, none⟩ = some (.int .i64 T.chk.v.i) := hk3.cell 7
  have e8 : W3.cell? ⟨gy, 8, none⟩ = some (.string ⟨T.chk.v.s.toArray⟩) := hk3.cell 8
  have e9 : W3.cell? ⟨gy, 9, none⟩ = some (.string ⟨T.chk.s.toArray⟩) := hk3.cell 9
  have e10 : W3.cell? ⟨gy, 10, none⟩ = some (.slice b4 T.chk.l.length l4) := hk3.cell 10
  have e11 : W3.cell? ⟨gy, 11, none⟩ = some (.slice AR LL.length cR) := hk3.cell 11
  have r0 : W3.cell? ⟨w.heap.size + 1, 0, none⟩ = some (.string ⟨#[]⟩) := kr3.cell 0
  have f0 := kr3.frozen 0
  have r1 : W3.cell? ⟨w.heap.size + 1, 1, none⟩ = some (.slice none 0 0) := kr3.cell 1
  have f1 := kr3.frozen 1
  have r2 : W3.cell? ⟨w.heap.size + 1, 2, none⟩ = some (.int .i64 0) := kr3.cell 2
  have f2 := kr3.frozen 2
  have r3 : W3.cell? ⟨w.heap.size + 1, 3, none⟩ = some (.slice none 0 0) := kr3.cell 3
  have f3 := kr3.frozen 3
  have r4 : W3.cell? ⟨w.heap.size + 1, 4, none⟩ = some (.slice none 0 0) := kr3.cell 4
  have f4 := kr3.frozen 4
  have r5 : W3.cell? ⟨w.heap.size + 1, 5, none⟩ = some (.string ⟨#[]⟩) := kr3.cell 5
  have f5 := kr3.frozen 5
  have r6 : W3.cell? ⟨w.heap.size + 1, 6, none⟩ = some (.int .i64 0) := kr3.cell 6
  have f6 := kr3.frozen 6
  have r7 : W3.cell? ⟨w.heap.size + 1, 7, none⟩ = some (.int .i64 0) := kr3.cell 7
  have f7 := kr3.frozen 7
  have r8 : W3.cell? ⟨w.heap.size + 1, 8, none⟩ = some (.string ⟨#[]⟩) := kr3.cell 8
  have f8 := kr3.frozen 8
  have r9 : W3.cell? ⟨w.heap.size + 1, 9, none⟩ = some (.string ⟨#[]⟩) := kr3.cell 9
  have f9 := kr3.frozen 9
  have r10 : W3.cell? ⟨w.heap.size + 1, 10, none⟩ = some (.slice none 0 0) := kr3.cell 10
  have f10 := kr3.frozen 10
  have r11 : W3.cell? ⟨w.heap.size + 1, 11, none⟩ = some (.slice none 0 0) := kr3.cell 11
  have f11 := kr3.frozen 11
  clear hLL hro3 hRQ hb03 hbut3 HRO HRW HTQ1
  go_wp2_with fail
  refine bodyPost_ret (v := .agg #[.string ⟨T.n.toArray⟩, .slice b1 T.cols.length l1, .int .i64 T.key, .slice b2 T.uniq.length l2, .slice b3 T.refs.length l3, .string ⟨T.chk.op.toArray⟩, .int .i64 T.chk.v.k, .int .i64 T.chk.v.i, .string ⟨T.chk.v.s.toArray⟩, .string ⟨T.chk.s.toArray⟩, .slice b4 T.chk.l.length l4, .slice AR LL.length cR]) (by simp [results, Tryz.results8, go_sem, *]) rfl ?_
  rw [HRES.out]
  exact few7_fin HBW3.out (Nat.le_succ _) HTQ3.out HRQ3.out hcR1 hcR2

end Go.Proofs.YtdhjogmkhbpcgaaGreat
