/- append onto a row of the call's own, from a slice of values that may be nil. Nothing of the program stands here. Rows that a call gathers: a slice of its own whose things are slices of values. Nothing of the program stands here. slices.Clone at values. Condition: a slice that reads as a list, no longer than a million. -/
import Derived.Test.YtdhjogmkhbpcgaaGreatBase
import Derived.Maps.AppendAt
import Derived.Deep.AppendLies
import Derived.Test.YtdhjogmkhbpcgaaGreatExpr5M
import Derived.Test.YtdhjogmkhbpcgaaGreatFew2M
import Derived.Lib.SliceRun
namespace Go.Proofs.YtdhjogmkhbpcgaaGreat
open Go.RowKit

def Reads (w : World) (B size : Nat) (A : Option Addr) (n : Nat) (xs : List Value) : Prop :=
  xs.length = n * size ∧ (0 < n → ∃ ad, A = some ad ∧ ad.block < B ∧ ∀ j u, xs[j]? = some u → w.cell? (ad.add j) = some u)

section
variable {P : Program} (w : World)

theorem run_append_of_nil (base : Nat) (t ty e : TypeId) (i : TypeInfo) (size : Nat) (ht : P.underlying t = some (.slice e)) (hi : P.info? e = some i)
    (v : Value) (n : Nat) (xs : List Value) (hown : w.ownsRow base e size v n xs) (c : Nat) : (Builtin.append_ #[t, t] ty #[v, .slice none 0 c]).run P w = .ok v w := by
  rcases hown.2 with ⟨rfl, rfl⟩ | ⟨g, cap, cur, rfl, _, _, hnc, _⟩
  · simp [Builtin.append_, run_underlying ht, sizeOf, typeInfo, hi, Builtin.lenOf, Builtin.firstCells]
  · simp [Builtin.append_, run_underlying ht, sizeOf, typeInfo, hi, Builtin.lenOf, Builtin.firstCells, hnc, storeCells]

theorem run_append_any (base : Nat) (t ty e : TypeId) (i : TypeInfo) (z : Value) (size bytes : Nat) (ht : P.underlying t = some (.slice e)) (hi : P.info? e = some i) (hz : i.zero = some z)
    (hsize : i.size = size) (hby : i.bytes = bytes) (hzs : z.cells.size = size) (hsz : 0 < size)
    (v : Value) (n : Nat) (xs : List Value) (hown : w.ownsRow base e size v n xs)
    (B : Nat) (A : Option Addr) (m c : Nat) (news : List Value) (hr : Reads w B size A m news) (h1 : ∀ u ∈ news, u.oneCell' = true)
    (h63 : n + m ≤ maxLen) (hbytes : (n + m) * bytes ≤ 140737488355328) (hbase : base ≤ w.heap.size) :
    ∃ v' w', (Builtin.append_ #[t, t] ty #[v, .slice A m c]).run P w = .ok v' w' ∧ w'.ownsRow base e size v' (n + m) (xs ++ news) ∧ w.grownBy w' v.ownBlock ∧
      (v'.ownBlock = v.ownBlock ∨ v'.ownBlock = some w.heap.size) := by
  rcases A with _ | ad
  · have hm : m = 0 := by
      rcases Nat.eq_zero_or_pos m with h0 | h0
      · exact h0
      · obtain ⟨ad, h, _⟩ := hr.2 h0
        cases h
    subst hm
    have hn : news = [] := List.eq_nil_of_length_eq_zero (by simpa using hr.1)
    subst hn
    exact ⟨v, w, run_append_of_nil w base t ty e i size ht hi v n xs hown c, by simpa using hown, World.grownBy.refl w _, .inl rfl⟩
  · have hcells : ∀ j u, news[j]? = some u → w.cell? (ad.add j) = some u := by
      intro j u hu
      rcases Nat.eq_zero_or_pos m with h0 | h0
      · subst h0
        have hn : news = [] := List.eq_nil_of_length_eq_zero (by simpa using hr.1)
        subst hn
        simp at hu
      · obtain ⟨ad', h, _, hc⟩ := hr.2 h0
        injection h with h
        subst h
        exact hc j u hu
    obtain ⟨v', w', hrun, h2, h3, _, h5⟩ := run_append_own_at (P := P) w base t ty e i z size bytes ht hi hz hsize hby hzs hsz v n xs hown ad m c news hr.1 hcells h1 h63 hbytes hbase
    exact ⟨v', w', hrun, h2, h3, h5⟩

theorem wp_append_any {o : Oper} {a : Act} {K : Act → World → Prop} {Q : Exit → Act → World → Prop} (s x : Operand) (t : TypeId)
    (ho : o.op = .call { callee := .builtin .append, args := #[s, x], argTypes := #[t, t] })
    (base : Nat) (e : TypeId) (i : TypeInfo) (z : Value) (size bytes : Nat) (ht : P.underlying t = some (.slice e)) (hi : P.info? e = some i) (hz : i.zero = some z)
    (hsize : i.size = size) (hby : i.bytes = bytes) (hzs : z.cells.size = size) (hsz : 0 < size)
    (v : Value) (n : Nat) (xs : List Value) (hs : a.eval s = v) (hown : w.ownsRow base e size v n xs)
    (B : Nat) (A : Option Addr) (m c : Nat) (news : List Value) (hx : a.eval x = .slice A m c) (hr : Reads w B size A m news) (h1 : ∀ u ∈ news, u.oneCell' = true)
    (h63 : n + m ≤ maxLen) (hbytes : (n + m) * bytes ≤ 140737488355328) (hbase : base ≤ w.heap.size)
    (h : ∀ v' w', w'.ownsRow base e size v' (n + m) (xs ++ news) → w.grownBy w' v.ownBlock → (v'.ownBlock = v.ownBlock ∨ v'.ownBlock = some w.heap.size) → K (a.put o.dst v') w') : o.wp P a w K Q := by
  obtain ⟨v', w', hrun, h2, h3, h4⟩ := run_append_any (P := P) w base t o.type e i z size bytes ht hi hz hsize hby hzs hsz v n xs hown B A m c news hr h1 h63 hbytes hbase
  unfold Oper.wp execOp
  simp only [ho, resolve, invoke, builtin, Sem.run_bind, Sem.run_pure, Result.andThen_ok, List.map_toArray, List.map_cons, List.map_nil, hs, hx, hrun]
  exact h v' w' h2 h3 h4

theorem wpList_append_any {ops : Array Oper} {rest : List Oper} {o : Oper} {a : Act} {Q : Exit → Act → World → Prop} (hgd : o.guard = none) (s x : Operand) (t : TypeId)
    (ho : o.op = .call { callee := .builtin .append, args := #[s, x], argTypes := #[t, t] })
    (base : Nat) (e : TypeId) (i : TypeInfo) (z : Value) (size bytes : Nat) (ht : P.underlying t = some (.slice e)) (hi : P.info? e = some i) (hz : i.zero = some z)
    (hsize : i.size = size) (hby : i.bytes = bytes) (hzs : z.cells.size = size) (hsz : 0 < size)
    (v : Value) (n : Nat) (xs : List Value) (hs : a.eval s = v) (hown : w.ownsRow base e size v n xs)
    (B : Nat) (A : Option Addr) (m c : Nat) (news : List Value) (hx : a.eval x = .slice A m c) (hr : Reads w B size A m news) (h1 : ∀ u ∈ news, u.oneCell' = true)
    (h63 : n + m ≤ maxLen) (hbytes : (n + m) * bytes ≤ 140737488355328) (hbase : base ≤ w.heap.size)
    (h : ∀ v' w', w'.ownsRow base e size v' (n + m) (xs ++ news) → w.grownBy w' v.ownBlock → (v'.ownBlock = v.ownBlock ∨ v'.ownBlock = some w.heap.size) → wpList P ops Q rest (a.put o.dst v') w') : wpList P ops Q (o :: rest) a w :=
  wpList_plain hgd fun _ hK => wp_append_any w s x t ho base e i z size bytes ht hi hz hsize hby hzs hsz v n xs hs hown B A m c news hx hr h1 h63 hbytes hbase fun v' w' h2 h3 h4 => hK _ _ (h v' w' h2 h3 h4)

end

theorem VS.reads {w : World} {B : Nat} {A : Option Addr} {l : List V} (h : VS w B A l) : Reads w B 3 A l.length (l.flatMap V.cells) := by
  refine ⟨cells_len l, fun hn => ?_⟩
  obtain ⟨b, off, rfl, hb, hr⟩ := h hn
  refine ⟨⟨b, off, none⟩, rfl, hb, fun j u hu => ?_⟩
  have hj : j < (l.flatMap V.cells).length := by
    rcases Nat.lt_or_ge j (l.flatMap V.cells).length with h1 | h1
    · exact h1
    · rw [List.getElem?_eq_none h1] at hu; cases hu
  rw [cells_len] at hj
  have hi : j / 3 < l.length := by omega
  have hv : l[j / 3]? = some l[j / 3] := List.getElem?_eq_getElem hi
  have e : j = j / 3 * 3 + j % 3 := by omega
  have hc := cells_at l (j / 3) (j % 3) _ hv (Nat.mod_lt _ (by omega))
  rw [← e, hu] at hc
  obtain ⟨h0, h1, h2⟩ := hr (j / 3) _ hv
  rw [add_mid]
  have hm : j % 3 = 0 ∨ j % 3 = 1 ∨ j % 3 = 2 := by omega
  rcases hm with hm | hm | hm <;> rw [hm] at hc e <;> simp [V.cells] at hc <;> subst hc
  · rw [show off + j = off + j / 3 * 3 by omega]; exact h0
  · rw [show off + j = off + j / 3 * 3 + 1 by omega]; exact h1
  · rw [show off + j = off + j / 3 * 3 + 2 by omega]; exact h2

end Go.Proofs.YtdhjogmkhbpcgaaGreat

namespace Go.Proofs.YtdhjogmkhbpcgaaGreat
open Go.RowKit

/-- A row: where it lies, and what it reads as. -/
structure Rc where
  s : Sl
  r : List V
def Rc.cell (q : Rc) : Value := .slice q.s.a q.r.length q.s.c
theorem rc_one (l : List Rc) : ∀ u ∈ l.map Rc.cell, u.oneCell' = true := by
  intro u hu
  rw [List.mem_map] at hu
  obtain ⟨x, _, rfl⟩ := hu
  rfl
/-- The slice value sv is the call's own, from block lo on, and reads as the rows l. -/
def RowsOwn (w : World) (e : TypeId) (lo : Nat) (sv : Value) (l : List (List V)) : Prop :=
  ∃ recs : List Rc, recs.map Rc.r = l ∧ w.ownsRow lo e 1 sv l.length (recs.map Rc.cell) ∧ ∀ q ∈ recs, WQ q.r q.s.a (fun b => lo ≤ b ∧ b < w.heap.size ∧ some b ≠ sv.ownBlock) w
section
variable {w w' w1 : World} {e : TypeId} {lo : Nat} {sv : Value} {l : List (List V)}
theorem RowsOwn.nil : RowsOwn w e lo (.slice none 0 0) [] := ⟨[], rfl, World.ownsRow_nil _ _ _ _, by simp⟩
theorem RowsOwn.below (h : RowsOwn w e lo sv l) (hb : Below w.heap.size w w') : RowsOwn w' e lo sv l := by
  obtain ⟨recs, h1, h2, h3⟩ := h
  exact ⟨recs, h1, own_below h2 hb, fun q hq => (h3 q hq).keep fun b hb' => ⟨⟨hb'.1, Nat.lt_of_lt_of_le hb'.2.1 hb.size, hb'.2.2⟩, fun o => hb.cell (p := ⟨b, o, none⟩) hb'.2.1⟩⟩
theorem RowsOwn.step {recs : List Rc} {n g cap : Nat} {r : List V} {A' : Option Addr} {c' : Nat} (h1 : recs.map Rc.r = l) (h3 : ∀ q ∈ recs, WQ q.r q.s.a (fun b => lo ≤ b ∧ b < w.heap.size ∧ some b ≠ sv.ownBlock) w)
    (hr : WQ r A' (fun b => lo ≤ b ∧ b < w.heap.size ∧ some b ≠ sv.ownBlock) w) (hn : n = l.length) (ho : w'.ownsRow lo e 1 (.slice (some ⟨g, 0, none⟩) (n + 1) cap) (n + 1) (recs.map Rc.cell ++ [.slice A' r.length c']))
    (hb : Below w.heap.size w w1) (hg : w1.grownBy w' sv.ownBlock) (hor : sv.ownBlock = some g ∨ g = w1.heap.size) : RowsOwn w' e lo (.slice (some ⟨g, 0, none⟩) (n + 1) cap) (l ++ [r]) := by
  have hk : ∀ b, (lo ≤ b ∧ b < w.heap.size ∧ some b ≠ sv.ownBlock) → (lo ≤ b ∧ b < w'.heap.size ∧ some b ≠ (Value.slice (some ⟨g, 0, none⟩) (n + 1) cap).ownBlock) ∧ ∀ o, w'.cell? ⟨b, o, none⟩ = w.cell? ⟨b, o, none⟩ := fun b ⟨h1, h2, h3⟩ => by
    have hz1 := hb.size
    have hz2 := hg.size
    refine ⟨⟨h1, by omega, fun e1 => ?_⟩, fun o => (World.cell?_of_block (a := ⟨b, o, none⟩) (hg.block b (by omega) h3)).trans (hb.cell (p := ⟨b, o, none⟩) h2)⟩
    rcases hor with h | h
    · exact h3 (e1.trans h.symm)
    · have : b = g := Option.some.inj e1
      omega
  subst hn
  refine ⟨recs ++ [⟨⟨A', c'⟩, r⟩], by rw [List.map_append, h1]; rfl, ?_, fun q hq => ?_⟩
  · rw [List.map_append, List.length_append]
    exact ho
  · rcases List.mem_append.1 hq with hq | hq
    · exact (h3 q hq).keep hk
    · obtain rfl : q = ⟨⟨A', c'⟩, r⟩ := by simpa using hq
      exact hr.keep hk
theorem RowsOwn.out (h : RowsOwn w e lo sv l) : ∃ A c, sv = .slice A l.length c ∧ l.length ≤ c ∧ c ≤ maxLen ∧ RQ l A (fun b => lo ≤ b ∧ b < w.heap.size) w := by
  obtain ⟨recs, h1, h2, h3⟩ := h
  have hn : recs.length = l.length := by rw [← h1, List.length_map]
  rcases h2.2 with ⟨rfl, h0⟩ | ⟨g, cap, cur, rfl, hb, hg, hnc, hcm, hcs, htk⟩
  · rw [h0]
    exact ⟨none, 0, rfl, by omega, Nat.zero_le _, fun hl => absurd hl (by omega)⟩
  · refine ⟨some ⟨g, 0, none⟩, cap, rfl, by omega, hcm, fun _ => ⟨g, 0, rfl, ⟨hb, (Array.getElem?_eq_some_iff.1 hg).1⟩, fun i r hr => ?_⟩⟩
    rw [← h1, List.getElem?_map, Option.map_eq_some_iff] at hr
    obtain ⟨q, hq, rfl⟩ := hr
    have hc := h2.cells (g := g) rfl i q.cell (by rw [List.getElem?_map, hq]; rfl)
    rw [add_mid] at hc
    exact ⟨q.s.a, q.s.c, hc, (h3 q (List.mem_of_getElem? hq)).keep fun b hb' => ⟨⟨hb'.1, hb'.2.1⟩, fun _ => rfl⟩⟩
theorem RowsOwn.lt (h : RowsOwn w e lo sv l) : ∀ k, sv.ownBlock = some k → lo ≤ k ∧ k < w.heap.size := by
  obtain ⟨recs, _, h2, _⟩ := h
  exact h2.lt
end

end Go.Proofs.YtdhjogmkhbpcgaaGreat

namespace Go.Proofs.YtdhjogmkhbpcgaaGreat
open Go.RowKit

attribute [local go_sem] ByteArray.extract_mk ba_get
theorem run_nil_V (A : Option Addr) (n c : Nat) (w : World) : (binOp .eql 43 (.slice A n c) (.slice none 0 0)).run Tryz.prog w = .ok (.bool A.isNone) w := Lib.run_eql_slice_nil w _ _ A n c 0 0 Tryz.underlying43
attribute [local go_sem ↓] Go.wp_at_zero Go.wp_at_succ run_eql_V run_neq_V run_nil_V

set_option maxHeartbeats 1000000 in
theorem clone_any (A : Option Addr) (c : Nat) (l : List V) (w : World) (hl : l.length ≤ 1000000) (h : VS w w.heap.size A l) :
    Calls Tryz.prog 25 #[.slice A l.length c] w (RetVS l w) := by
  obtain ⟨i0, hi0, zi0, zi1, zi2⟩ := info_parts infoV
  rcases A with _ | a
  · have e : l = [] := by
      cases l with
      | nil => rfl
      | cons x r => obtain ⟨b, off, he, _⟩ := h (by simp); cases he
    subst e
    go_enter Tryz.func25, Tryz.ntmps25
    go_wp2
    go_ret
    exact ⟨none, 0, rfl, Nat.le_refl _, Nat.zero_le _, fun hl => absurd hl (by simp), Below.refl _ _⟩
  · have hown0 : (w.alloc (.cells #[] 26)).ownsRow w.heap.size 26 3 (.slice (some ⟨w.heap.size, 0, none⟩) 0 0) 0 [] := World.ownsRow_made w #[] 0 (Nat.le_refl _) (Nat.zero_le _) rfl
    have hba : Below w.heap.size w (w.alloc (.cells #[] 26)) := (Below.refl _ _).alloc (Nat.le_refl _) _
    have hva := ((h.below hba).reads)
    go_enter Tryz.func25, Tryz.ntmps25
    go_wp2_with (at_builtin; refine wpList_append_any _ rfl (.tmp 5) (.tmp 6) 43 rfl w.heap.size 26 i0 _ 3 32 Tryz.underlying43 hi0 zi0 zi1 zi2 rfl (by decide) _ _ _ rfl hown0 w.heap.size (some a) l.length c _ rfl hva (cells_one l) ?c1 ?c2 ?c3 ?_)
    case c1 => unfold maxLen; omega
    case c2 => omega
    case c3 => simp
    intro v5 w5 hown5 hg5 hat5
    have hb5 : Below w.heap.size w w5 := hba.grown hg5 (by simp) (by simp [Value.ownBlock])
    obtain ⟨A5, c5, rfl, hc5, hm5, hv5⟩ := VS.own (l := l) hown5
    go_wp2
    go_ret
    exact ⟨A5, c5, rfl, hc5, hm5, hv5, hb5⟩

end Go.Proofs.YtdhjogmkhbpcgaaGreat
