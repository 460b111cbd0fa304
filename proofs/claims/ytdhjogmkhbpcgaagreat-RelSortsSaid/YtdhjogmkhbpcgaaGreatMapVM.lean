/- A map whose keys are values, each with the number 1: what looking up, entering and counting come to. Condition: the map lies in its block. A map whose keys are values, each with 1: what entering a key that is there comes to. Condition: the map lies in its block. rel.twice as a plain function. Condition: rows that reach the column, with no NULL there. -/
import Derived.Test.YtdhjogmkhbpcgaaGreatValM
import Derived.MapKept
import Derived.WideKeyEntry
import Derived.Test.YtdhjogmkhbpcgaaGreatExpr5M
namespace Go.Proofs.YtdhjogmkhbpcgaaGreat
open Go.RowKit Go.ChangeMaps

def mEnt (v : V) (i : Nat) : MapEntry := ⟨.agg #[.int .i64 (v).k, .int .i64 (v).i, .string ⟨(v).s.toArray⟩], .int .i64 1, i⟩
def mEnts : List V → Nat → List MapEntry
  | [], _ => []
  | v :: r, i => mEnt v i :: mEnts r (i + 1)
theorem mEnts_length : ∀ (l : List V) (i : Nat), (mEnts l i).length = l.length
  | [], _ => rfl
  | _ :: r, i => by simp [mEnts, mEnts_length r (i + 1)]
theorem mEnts_snoc : ∀ (l : List V) (v : V) (i : Nat), mEnts (l ++ [v]) i = mEnts l i ++ [mEnt v (i + l.length)]
  | [], v, i => by simp [mEnts]
  | u :: r, v, i => by
    rw [List.cons_append, mEnts, mEnts, mEnts_snoc r v (i + 1)]
    simp only [List.cons_append, List.length_cons]
    rw [show i + 1 + r.length = i + (r.length + 1) by omega]
/-- Block b is a map of the keys l, each with 1, entered in this order. -/
def MV (w : World) (b : Nat) (l : List V) : Prop := w.heap[b]? = some (.map (mEnts l 0).toArray l.length)

theorem equal_V (a b : V) (w : World) : (Op.equal 26 (.agg #[.int .i64 (a).k, .int .i64 (a).i, .string ⟨(a).s.toArray⟩]) (.agg #[.int .i64 (b).k, .int .i64 (b).i, .string ⟨(b).s.toArray⟩])).run Tryz.prog w = .ok (veq a b) w := by
  have h := run_eql_V a.k a.i a.s b.k b.i b.s w
  have e : binOp .eql 26 (.agg #[.int .i64 (a).k, .int .i64 (a).i, .string ⟨(a).s.toArray⟩]) (.agg #[.int .i64 (b).k, .int .i64 (b).i, .string ⟨(b).s.toArray⟩]) = (do pure (.bool (← Op.equal 26 (.agg #[.int .i64 (a).k, .int .i64 (a).i, .string ⟨(a).s.toArray⟩]) (.agg #[.int .i64 (b).k, .int .i64 (b).i, .string ⟨(b).s.toArray⟩])))) := rfl
  rw [e, Sem.run_bind] at h
  cases hq : (Op.equal 26 (.agg #[.int .i64 (a).k, .int .i64 (a).i, .string ⟨(a).s.toArray⟩]) (.agg #[.int .i64 (b).k, .int .i64 (b).i, .string ⟨(b).s.toArray⟩])).run Tryz.prog w with
  | ok x w' =>
    rw [hq] at h
    simp only [Result.andThen, Sem.run_pure, Result.ok.injEq, Value.bool.injEq] at h
    rw [h.1, h.2]
  | _ => rw [hq] at h; simp [Result.andThen] at h

theorem check_V (e : Bool) (a : V) (w : World) : (Instr.checkKey e 10000 26 (.agg #[.int .i64 (a).k, .int .i64 (a).i, .string ⟨(a).s.toArray⟩])).run Tryz.prog w = .ok () w := by kernel_rfl

theorem ask_V (v : V) (w : World) : ∀ (l : List V) (i j : Nat), ∃ r, (Instr.findAsking 26 (.agg #[.int .i64 (v).k, .int .i64 (v).i, .string ⟨(v).s.toArray⟩]) (mEnts l i) j).run Tryz.prog w = .ok r w ∧ (if l.any (fun x => veq v x) then ∃ n, r = some (n, .int .i64 1) else r = none)
  | [], i, j => ⟨none, rfl, rfl⟩
  | u :: r, i, j => by
    have he := equal_V v u w
    cases hq : veq v u
    · obtain ⟨x, h1, h2⟩ := ask_V v w r (i + 1) (j + 1)
      refine ⟨x, ?_, by simpa [hq] using h2⟩
      rw [hq] at he
      simp only [mEnts, Instr.findAsking, Sem.run_bind, mEnt, he, Result.andThen]
      exact h1
    · refine ⟨some (j, .int .i64 1), ?_, by simp [hq]⟩
      rw [hq] at he
      simp only [mEnts, Instr.findAsking, Sem.run_bind, mEnt, he, Result.andThen]
      rfl

theorem find_V (v : V) (w : World) (l : List V) : ∃ r, (Instr.findKey 26 (.agg #[.int .i64 (v).k, .int .i64 (v).i, .string ⟨(v).s.toArray⟩]) (mEnts l 0)).run Tryz.prog w = .ok r w ∧ (if l.any (fun x => veq v x) then ∃ n, r = some (n, .int .i64 1) else r = none) := by
  cases l with
  | nil => exact ⟨none, by simp [Instr.findKey, run_underlying Tryz.underlying26, mEnts, Instr.findNow, Result.andThen], rfl⟩
  | cons u r =>
    obtain ⟨x, h1, h2⟩ := ask_V v w (u :: r) 0 0
    refine ⟨x, ?_, h2⟩
    rw [← h1]
    simp [Instr.findKey, run_underlying Tryz.underlying26, mEnts, mEnt, Instr.findNow, Instr.sameNow, Result.andThen]


theorem ask_more (v : V) (w : World) (tl : List MapEntry) : ∀ (l : List V) (i j : Nat), l.any (fun x => veq v x) = false → (Instr.findAsking 26 (.agg #[.int .i64 (v).k, .int .i64 (v).i, .string ⟨(v).s.toArray⟩]) (mEnts l i ++ tl) j).run Tryz.prog w = (Instr.findAsking 26 (.agg #[.int .i64 (v).k, .int .i64 (v).i, .string ⟨(v).s.toArray⟩]) tl (j + l.length)).run Tryz.prog w
  | [], i, j, _ => rfl
  | u :: r, i, j, h => by
    simp only [List.any_cons, Bool.or_eq_false_iff] at h
    have he := equal_V v u w
    rw [h.1] at he
    rw [mEnts, List.cons_append]
    have := ask_more v w tl r (i + 1) (j + 1) h.2
    rw [show j + (u :: r).length = j + 1 + r.length by simp; omega, ← this]
    simp only [Instr.findAsking, Sem.run_bind, mEnt, he, Result.andThen]
    rfl
theorem find_last (v : V) (w : World) (l : List V) (z : Value) (h : l.any (fun x => veq v x) = false) : (Instr.findKey 26 (.agg #[.int .i64 (v).k, .int .i64 (v).i, .string ⟨(v).s.toArray⟩]) (mEnts l 0 ++ [⟨.agg #[.int .i64 (v).k, .int .i64 (v).i, .string ⟨(v).s.toArray⟩], z, l.length⟩])).run Tryz.prog w = .ok (some (l.length, z)) w := by
  have he := equal_V v v w
  have hs : veq v v = true := by simp [veq]
  rw [hs] at he
  have h1 := ask_more v w [⟨.agg #[.int .i64 (v).k, .int .i64 (v).i, .string ⟨(v).s.toArray⟩], z, l.length⟩] l 0 0 h
  have h2 : (Instr.findAsking 26 (.agg #[.int .i64 (v).k, .int .i64 (v).i, .string ⟨(v).s.toArray⟩]) [⟨.agg #[.int .i64 (v).k, .int .i64 (v).i, .string ⟨(v).s.toArray⟩], z, l.length⟩] (0 + l.length)).run Tryz.prog w = .ok (some (l.length, z)) w := by
    simp only [Instr.findAsking, Sem.run_bind, he, Result.andThen, Nat.zero_add]
    rfl
  rw [h2] at h1
  rw [← h1]
  cases l with
  | nil => simp [Instr.findKey, run_underlying Tryz.underlying26, mEnts, Instr.findNow, Instr.sameNow, Result.andThen]
  | cons u r => simp [Instr.findKey, run_underlying Tryz.underlying26, mEnts, mEnt, Instr.findNow, Instr.sameNow, Result.andThen]
theorem mEnts_born : ∀ (l : List V) (i : Nat), (mEnts l i).map (·.born) = List.range' i l.length
  | [], _ => rfl
  | _ :: r, i => by simp [mEnts, mEnt, mEnts_born r (i + 1), List.range'_succ]
theorem grown_block (w : World) (b : Nat) (o : Obj) : w.grownBy (setBlock w b o) (some b) := ⟨rfl, rfl, rfl, by simp [setBlock], fun k _ hne => by
  have : k ≠ b := fun e => hne (by rw [e])
  simp [setBlock, Ne.symm this]⟩

section
variable {w : World} {b : Nat} {l : List V}
theorem MV.look (h : MV w b l) (v : V) : (Instr.lookup 116 (.map (some b)) (.agg #[.int .i64 (v).k, .int .i64 (v).i, .string ⟨(v).s.toArray⟩]) false).run Tryz.prog w = .ok (.int .i64 (if l.any (fun x => veq v x) then 1 else 0)) w := by
  obtain ⟨r, h1, h2⟩ := find_V v w l
  cases hq : l.any (fun x => veq v x)
  · rw [hq] at h2
    simp only [Bool.false_eq_true, if_false] at h2
    subst h2
    simp [Instr.lookup, run_underlying Tryz.underlying116, MapKept.run_getObj_map h, check_V _ v, h1, Result.andThen]
  · rw [hq] at h2
    simp only [if_true] at h2
    obtain ⟨n, rfl⟩ := h2
    simp [Instr.lookup, run_underlying Tryz.underlying116, MapKept.run_getObj_map h, check_V _ v, h1, Result.andThen]
theorem MV.len (h : MV w b l) (ty : TypeId) : (Builtin.len_ #[116] ty #[.map (some b)]).run Tryz.prog w = .ok (.int .i64 (l.length : Int)) w := by
  simp [Builtin.len_, run_underlying Tryz.underlying116, MapKept.run_getObj_map h, goInt, Result.andThen, mEnts_length]
/-- A new key is entered, and then bears 1. -/
theorem MV.enter (h : MV w b l) (v : V) (hv : l.any (fun x => veq v x) = false) :
    ∃ w1 w2 : World, (Instr.mapEntry 116 (.map (some b)) (.agg #[.int .i64 (v).k, .int .i64 (v).i, .string ⟨(v).s.toArray⟩])).run Tryz.prog w = .ok (.tuple #[.int .i64 0, .int .i64 (l.length : Int)]) w1 ∧
      (Instr.entryStore 116 (.map (some b)) (.int .i64 (l.length : Int)) (.int .i64 1)).run Tryz.prog w1 = .ok () w2 ∧
      (Instr.lookup 116 (.map (some b)) (.agg #[.int .i64 (v).k, .int .i64 (v).i, .string ⟨(v).s.toArray⟩]) false).run Tryz.prog w1 = .ok (.int .i64 0) w1 ∧
      w.grownBy w1 (some b) ∧ w.grownBy w2 (some b) ∧ MV w2 b (l ++ [v]) := by
  have hlt : b < w.heap.size := (Array.getElem?_eq_some_iff.1 h).1
  obtain ⟨r, h1, h2⟩ := find_V v w l
  rw [hv] at h2
  simp only [Bool.false_eq_true, if_false] at h2
  subst h2
  obtain ⟨arr, harr⟩ : ∃ a, a = (mEnts l 0).toArray.push (⟨.agg #[.int .i64 (v).k, .int .i64 (v).i, .string ⟨(v).s.toArray⟩], .int .i64 0, l.length⟩ : MapEntry) := ⟨_, rfl⟩
  have htl : arr.toList = mEnts l 0 ++ [⟨.agg #[.int .i64 (v).k, .int .i64 (v).i, .string ⟨(v).s.toArray⟩], .int .i64 0, l.length⟩] := by rw [harr]; simp
  have hidx : arr.findIdx? (fun e => ((e.born : Nat) : Int) == ((l.length : Nat) : Int)) = some l.length := by
    rw [WideElems.findIdx_arr]
    have := WideElems.findIdx_born (l := arr.toList) (j := l.length) (e0 := ⟨.agg #[.int .i64 (v).k, .int .i64 (v).i, .string ⟨(v).s.toArray⟩], .int .i64 0, l.length⟩) (by
      rw [htl]
      simp only [List.map_append, List.map_cons, List.map_nil, mEnts_born]
      rw [List.range'_eq_map_range]
      refine List.nodup_append.2 ⟨by simp [List.nodup_range], by simp, fun a ha c hc e1 => ?_⟩
      simp at hc ha
      omega) (by rw [htl]; simp [mEnts_length])
    exact this
  have hmod : arr.modify l.length (fun e => { e with val := .int .i64 1 }) = (mEnts (l ++ [v]) 0).toArray := by
    apply Array.ext'
    rw [Array.toList_modify, htl, mEnts_snoc]
    have hl := mEnts_length l 0
    have := WideElems.modify_last (fun e : MapEntry => { e with val := .int .i64 1 }) (⟨.agg #[.int .i64 (v).k, .int .i64 (v).i, .string ⟨(v).s.toArray⟩], .int .i64 0, l.length⟩ : MapEntry) (mEnts l 0)
    rw [hl] at this
    simp only [this, mEnt, Nat.zero_add]
  have hE : (Instr.mapEntry 116 (.map (some b)) (.agg #[.int .i64 (v).k, .int .i64 (v).i, .string ⟨(v).s.toArray⟩])).run Tryz.prog w = .ok (.tuple #[.int .i64 0, .int .i64 (l.length : Int)]) (setBlock w b (.map arr (l.length + 1))) := by
    rw [harr]
    simp [Instr.mapEntry, run_underlying Tryz.underlying116, MapKept.run_getObj_map h, check_V _ v, h1, MapKept.run_setObj_map _ h, goInt, Result.andThen, setBlock]
  clear harr
  have hb1 : (setBlock w b (.map arr (l.length + 1))).heap[b]? = some (.map arr (l.length + 1)) := by simp [setBlock, hlt]
  have hg1 := grown_block w b (.map arr (l.length + 1))
  have hs1 : (setBlock w b (.map arr (l.length + 1))).heap.size = w.heap.size := by simp [setBlock]
  generalize setBlock w b (.map arr (l.length + 1)) = w1 at *
  refine ⟨w1, setBlock w1 b (.map (mEnts (l ++ [v]) 0).toArray (l.length + 1)), hE, ?_, ?_, hg1, hg1.trans (grown_block _ b _), ?_⟩
  · simp [Instr.entryStore, MapKept.run_getObj_map hb1, asInt, asIntOf, hidx, hmod, MapKept.run_setObj_map _ hb1, Result.andThen, setBlock]
  · have hf := find_last v w1 l (.int .i64 0) hv
    rw [← htl] at hf
    simp [Instr.lookup, run_underlying Tryz.underlying116, MapKept.run_getObj_map hb1, check_V _ v, hf, Result.andThen]
  · show (setBlock w1 b _).heap[b]? = _
    simp [setBlock, hs1, hlt]
theorem MV.lt (h : MV w b l) : b < w.heap.size := (Array.getElem?_eq_some_iff.1 h).1
theorem MV.below {w' : World} {B : Nat} (h : MV w b l) (hb : Below B w w') (hB : b < B) : MV w' b l := (hb.block b hB).trans h
theorem MV.drew (h : MV w b l) : MV w.drew b l := h
theorem MV.far (h : MV w b l) {p : Addr} (hp : b ≠ p.block) (u : Value) : MV (w.setCell p u) b l := (Below.heap_setCell w p u b hp).trans h
theorem MV.new (w : World) : MV (w.alloc (.map #[] 0)) w.heap.size [] := heap_alloc_new w _
end

end Go.Proofs.YtdhjogmkhbpcgaaGreat

namespace Go.Proofs.YtdhjogmkhbpcgaaGreat
open Go.RowKit Go.ChangeMaps

theorem veq_eqM {a b : V} (h : veq a b = true) : b = a := by
  simp only [veq, Bool.and_eq_true, beq_iff_eq, decide_eq_true_eq] at h
  obtain ⟨h1, h2, h3⟩ := h
  cases a; cases b; simp_all
theorem any_split (v : V) : ∀ l : List V, l.any (fun x => veq v x) = true → ∃ p q, l = p ++ v :: q ∧ p.any (fun x => veq v x) = false
  | [], h => by simp at h
  | u :: r, h => by
    cases hq : veq v u
    · rw [List.any_cons, hq, Bool.false_or] at h
      obtain ⟨p, q, rfl, hp⟩ := any_split v r h
      exact ⟨u :: p, q, rfl, by rw [List.any_cons, hq, hp]; rfl⟩
    · exact ⟨[], r, by rw [veq_eqM hq]; rfl, rfl⟩
theorem mEnts_app : ∀ (p q : List V) (i : Nat), mEnts (p ++ q) i = mEnts p i ++ mEnts q (i + p.length)
  | [], q, i => by simp [mEnts]
  | u :: r, q, i => by
    rw [List.cons_append, mEnts, mEnts, mEnts_app r q (i + 1)]
    simp only [List.cons_append, List.length_cons]
    rw [show i + 1 + r.length = i + (r.length + 1) by omega]
theorem modify_mid {α : Type} (f : α → α) (x : α) (q : List α) : ∀ (p : List α), (p ++ x :: q).modify p.length f = p ++ f x :: q
  | [] => rfl
  | b :: r => by simp [List.modify_succ_cons, modify_mid f x q r]
theorem find_mid (v : V) (w : World) (z : Value) (n : Nat) (p : List V) (tl : List MapEntry) (h : p.any (fun x => veq v x) = false) : (Instr.findKey 26 (.agg #[.int .i64 (v).k, .int .i64 (v).i, .string ⟨(v).s.toArray⟩]) (mEnts p 0 ++ ⟨.agg #[.int .i64 (v).k, .int .i64 (v).i, .string ⟨(v).s.toArray⟩], z, n⟩ :: tl)).run Tryz.prog w = .ok (some (p.length, z)) w := by
  have he := equal_V v v w
  have hs : veq v v = true := by simp [veq]
  rw [hs] at he
  have h1 := ask_more v w (⟨.agg #[.int .i64 (v).k, .int .i64 (v).i, .string ⟨(v).s.toArray⟩], z, n⟩ :: tl) p 0 0 h
  have h2 : (Instr.findAsking 26 (.agg #[.int .i64 (v).k, .int .i64 (v).i, .string ⟨(v).s.toArray⟩]) (⟨.agg #[.int .i64 (v).k, .int .i64 (v).i, .string ⟨(v).s.toArray⟩], z, n⟩ :: tl) (0 + p.length)).run Tryz.prog w = .ok (some (p.length, z)) w := by
    simp only [Instr.findAsking, Sem.run_bind, he, Result.andThen, Nat.zero_add]
    rfl
  rw [h2] at h1
  rw [← h1]
  cases p with
  | nil => simp [Instr.findKey, run_underlying Tryz.underlying26, mEnts, Instr.findNow, Instr.sameNow, Result.andThen]
  | cons u r => simp [Instr.findKey, run_underlying Tryz.underlying26, mEnts, mEnt, Instr.findNow, Instr.sameNow, Result.andThen]
theorem stays_V (v : V) (w : World) : (Instr.keyThatStays (.agg #[.int .i64 (v).k, .int .i64 (v).i, .string ⟨(v).s.toArray⟩]) (.agg #[.int .i64 (v).k, .int .i64 (v).i, .string ⟨(v).s.toArray⟩])).run Tryz.prog w = .ok (.agg #[.int .i64 (v).k, .int .i64 (v).i, .string ⟨(v).s.toArray⟩]) w := by
  have h : Instr.sameBits 10000 (.agg #[.int .i64 (v).k, .int .i64 (v).i, .string ⟨(v).s.toArray⟩]) (.agg #[.int .i64 (v).k, .int .i64 (v).i, .string ⟨(v).s.toArray⟩]) = true := by
    simp [Instr.sameBits]
    show (v.s.toArray == v.s.toArray) = true
    simp
  simp [Instr.keyThatStays, h]
section
variable {w : World} {b : Nat} {l : List V}
/-- A key that is there is entered again: it bears 1, and then 2. -/
theorem MV.again (h : MV w b l) (v : V) (hv : l.any (fun x => veq v x) = true) :
    ∃ (n : Nat) (w2 : World), (Instr.mapEntry 116 (.map (some b)) (.agg #[.int .i64 (v).k, .int .i64 (v).i, .string ⟨(v).s.toArray⟩])).run Tryz.prog w = .ok (.tuple #[.int .i64 1, .int .i64 (n : Int)]) w ∧
      (Instr.entryStore 116 (.map (some b)) (.int .i64 (n : Int)) (.int .i64 2)).run Tryz.prog w = .ok () w2 ∧
      (Instr.lookup 116 (.map (some b)) (.agg #[.int .i64 (v).k, .int .i64 (v).i, .string ⟨(v).s.toArray⟩]) false).run Tryz.prog w = .ok (.int .i64 1) w ∧
      (Instr.lookup 116 (.map (some b)) (.agg #[.int .i64 (v).k, .int .i64 (v).i, .string ⟨(v).s.toArray⟩]) false).run Tryz.prog w2 = .ok (.int .i64 2) w2 ∧
      w.grownBy w2 (some b) := by
  have hlk := h.look v
  rw [hv] at hlk
  obtain ⟨p, q, rfl, hp⟩ := any_split v l hv
  have hlt : b < w.heap.size := (Array.getElem?_eq_some_iff.1 h).1
  obtain ⟨L, hL⟩ : ∃ L, L = (p ++ v :: q).length := ⟨_, rfl⟩
  have hb : w.heap[b]? = some (.map (mEnts p 0 ++ mEnt v p.length :: mEnts q (p.length + 1)).toArray L) := by
    have h' : w.heap[b]? = _ := h
    rw [mEnts_app, mEnts, Nat.zero_add, ← hL] at h'
    exact h'
  have hf := find_mid v w (.int .i64 1) p.length p (mEnts q (p.length + 1)) hp
  have hix : (mEnts p 0 ++ mEnt v p.length :: mEnts q (p.length + 1))[p.length]? = some (mEnt v p.length) := by
    rw [List.getElem?_append_right (by simp [mEnts_length])]
    simp [mEnts_length]
  have hm : mEnts p 0 ++ mEnt v p.length :: mEnts q (p.length + 1) = mEnts (p ++ v :: q) 0 := by rw [mEnts_app, mEnts, Nat.zero_add]
  have hidx : (mEnts p 0 ++ mEnt v p.length :: mEnts q (p.length + 1)).toArray.findIdx? (fun e => ((e.born : Nat) : Int) == ((p.length : Nat) : Int)) = some p.length := by
    rw [WideElems.findIdx_arr]
    exact WideElems.findIdx_born (l := mEnts p 0 ++ mEnt v p.length :: mEnts q (p.length + 1)) (j := p.length) (e0 := mEnt v p.length) (by
      rw [hm, mEnts_born]
      exact List.nodup_range') hix
  have hmod : ∀ f : MapEntry → MapEntry, (mEnts p 0 ++ mEnt v p.length :: mEnts q (p.length + 1)).toArray.modify p.length f = (mEnts p 0 ++ f (mEnt v p.length) :: mEnts q (p.length + 1)).toArray := fun f => by
    apply Array.ext'
    rw [Array.toList_modify]
    have := modify_mid f (mEnt v p.length) (mEnts q (p.length + 1)) (mEnts p 0)
    rw [mEnts_length] at this
    exact this
  have hmod1 := hmod (fun e => { e with key := .agg #[.int .i64 (v).k, .int .i64 (v).i, .string ⟨(v).s.toArray⟩] })
  have hmod2 := hmod (fun e => { e with val := .int .i64 2 })
  have hix' : (mEnts p 0 ++ mEnt v p.length :: mEnts q (p.length + 1)).toArray[p.length]? = some (mEnt v p.length) := by rw [List.getElem?_toArray]; exact hix
  obtain ⟨arr2, harr2⟩ : ∃ a, a = (mEnts p 0 ++ { mEnt v p.length with val := .int .i64 2 } :: mEnts q (p.length + 1)).toArray := ⟨_, rfl⟩
  have hf2 : ∀ W : World, (Instr.findKey 26 (.agg #[.int .i64 (v).k, .int .i64 (v).i, .string ⟨(v).s.toArray⟩]) arr2.toList).run Tryz.prog W = .ok (some (p.length, .int .i64 2)) W := fun W => by rw [harr2]; exact find_mid v W (.int .i64 2) p.length p (mEnts q (p.length + 1)) hp
  obtain ⟨arr, harr⟩ : ∃ a, a = (mEnts p 0 ++ mEnt v p.length :: mEnts q (p.length + 1)).toArray := ⟨_, rfl⟩
  have hf' : (Instr.findKey 26 (.agg #[.int .i64 (v).k, .int .i64 (v).i, .string ⟨(v).s.toArray⟩]) arr.toList).run Tryz.prog w = .ok (some (p.length, .int .i64 1)) w := by rw [harr]; exact hf
  rw [← harr] at hb hidx hmod1 hmod2 hix'
  rw [← harr2] at hmod2
  have hmod1' : arr.modify p.length (fun e => { e with key := .agg #[.int .i64 (v).k, .int .i64 (v).i, .string ⟨(v).s.toArray⟩] }) = arr := hmod1.trans harr.symm
  clear hmod hmod1 harr harr2 hf hm hix hL h
  have hself : w.heap.setIfInBounds b (.map arr L) = w.heap := by
    apply Array.ext_getElem?
    intro i
    by_cases hi : i = b
    · subst hi; rw [hb]; simp [hlt]
    · simp [Ne.symm hi]
  have hE : (Instr.mapEntry 116 (.map (some b)) (.agg #[.int .i64 (v).k, .int .i64 (v).i, .string ⟨(v).s.toArray⟩])).run Tryz.prog w = .ok (.tuple #[.int .i64 1, .int .i64 (p.length : Int)]) w := by
    simp [Instr.mapEntry, run_underlying Tryz.underlying116, MapKept.run_getObj_map hb, check_V _ v, hf', hix', mEnt, stays_V, hmod1', MapKept.run_setObj_map _ hb, goInt, Result.andThen, hself]
  have hb2 : (setBlock w b (.map arr2 L)).heap[b]? = some (.map arr2 L) := by simp [setBlock, hlt]
  refine ⟨p.length, setBlock w b (.map arr2 L), hE, ?_, hlk, ?_, grown_block w b _⟩
  · simp [Instr.entryStore, MapKept.run_getObj_map hb, asInt, asIntOf, hidx, hmod2, MapKept.run_setObj_map _ hb, Result.andThen, setBlock]
  · simp [Instr.lookup, run_underlying Tryz.underlying116, MapKept.run_getObj_map hb2, check_V _ v, hf2, Result.andThen]
end

end Go.Proofs.YtdhjogmkhbpcgaaGreat

namespace Go.Proofs.YtdhjogmkhbpcgaaGreat
open Go.RowKit Go.ChangeMaps

attribute [local go_sem] ByteArray.extract_mk ba_get
attribute [local go_sem ↓] Go.wp_at_zero Go.wp_at_succ run_eql_V run_neq_V

/-- Is a value one of those before it? -/
def dupF : List V → List V → Bool
  | _, [] => false
  | m, v :: r => m.any (fun x => veq v x) || dupF (m ++ [v]) r
def atV (col : Nat) (r : List V) : V := r.getD col V.zero
theorem dropX (l : List (List V)) (j : Nat) (v : List V) (h : l[j]? = some v) : l.drop j = v :: l.drop (j + 1) ∧ l.take (j + 1) = l.take j ++ [v] := by
  obtain ⟨hj, rfl⟩ := List.getElem?_eq_some_iff.1 h
  exact ⟨List.drop_eq_getElem_cons hj, by rw [List.take_succ_eq_append_getElem hj]⟩

set_option maxHeartbeats 2000000 in
theorem twice_any (x : Rl) (p : RlP) (col : Nat) (w : World) (hrl : x.rows.length ≤ 1000000) (hcl : ∀ r ∈ x.rows, col < r.length ∧ ¬ (atV col r).k = 0) (hR : RQ x.rows p.rows.a (Old w.heap.size) w) :
    Calls Tryz.prog 58 #[.agg (x.cells p).toArray, .int .i64 col] w (Ret (.bool (dupF [] (x.rows.map (atV col)))) w) := by
  obtain ⟨⟨⟨a1, k1⟩, ⟨a2, k2⟩, ⟨a3, k3⟩, ⟨a4, k4⟩⟩, ⟨a5, k5⟩⟩ := p
  obtain ⟨R, hRR⟩ : ∃ R, dupF [] (x.rows.map (atV col)) = R := ⟨_, rfl⟩
  rw [hRR]
  obtain ⟨wa, hwa⟩ : ∃ wa, w.alloc (.cells (x.cells ⟨⟨⟨a1, k1⟩, ⟨a2, k2⟩, ⟨a3, k3⟩, ⟨a4, k4⟩⟩, ⟨a5, k5⟩⟩).toArray 34) = wa := ⟨_, rfl⟩
  obtain ⟨w0, hw0⟩ : ∃ w0, wa.alloc (.map #[] 0) = w0 := ⟨_, rfl⟩
  have kx : Blk w0 w.heap.size 34 (x.cells ⟨⟨⟨a1, k1⟩, ⟨a2, k2⟩, ⟨a3, k3⟩, ⟨a4, k4⟩⟩, ⟨a5, k5⟩⟩).toArray := by rw [← hw0, ← hwa]; exact (Blk.new _ _ _).alloc _
  have hb0 : Below w.heap.size w w0 := by rw [← hw0, ← hwa]; exact bl
  have hm0 : MV w0 (w.heap.size + 1) [] := by
    have := MV.new wa
    rw [hw0] at this
    have hz : wa.heap.size = w.heap.size + 1 := by rw [← hwa]; simp
    rwa [hz] at this
  have HRQ := Lib.hid hR
  have HR : Hid (dupF ((x.rows.take 0).map (atV col)) ((x.rows.drop 0).map (atV col)) = R) := hRR
  have x11 : w0.cell? ⟨w.heap.size, 11, none⟩ = some (.slice a5 x.rows.length k5) := kx.cell 11
  have hz0 : w.heap.size + 2 ≤ w0.heap.size := by rw [← hw0, ← hwa]; simp
  have HCL := Lib.hid hcl
  have HW : Hid ((w.alloc (.cells (x.cells ⟨⟨⟨a1, k1⟩, ⟨a2, k2⟩, ⟨a3, k3⟩, ⟨a4, k4⟩⟩, ⟨a5, k5⟩⟩).toArray 34)).alloc (.map #[] 0) = w0) := by show _ = _; rw [hwa, hw0]
  clear hRR hwa hw0 hR hcl kx
  have hmm := @run_makeMap Tryz.prog
  go_enter Tryz.func58, Tryz.ntmps58
  go_upto_region 2 with fail
  rw [HW.out]
  go_wp2_with fail
  go_loopw [13] (fun i wr => ∃ j : Nat, j ≤ x.rows.length ∧ i = .int .i64 j ∧ Hid (dupF ((x.rows.take j).map (atV col)) ((x.rows.drop j).map (atV col)) = R) ∧ MV wr (w.heap.size + 1) ((x.rows.take j).map (atV col)) ∧ Below w.heap.size w wr ∧ w.heap.size + 2 ≤ wr.heap.size) (fun i _ => x.rows.length - (intOf i).toNat)
  case atStart => exact ⟨0, by omega, rfl, HR, hm0, hb0, hz0⟩
  case round =>
    obtain ⟨j, hj, rfl, hrest, hM, hbr, hzr⟩ := hrel
    have hzw := hbr.size
    obtain ⟨W, rfl⟩ : ∃ W, W = wr := ⟨_, rfl⟩
    by_cases hlt : j < x.rows.length
    · obtain ⟨b, off, r, A', c', rfl, hbB, hv, cr, hWr⟩ := (HRQ.out.keep (old_keep hbr hzw)).at_ hlt
      obtain ⟨hcr, hk⟩ := HCL.out r (List.mem_of_getElem? hv)
      obtain ⟨b', off', v, rfl, hbB', hv', e0, e1, e2⟩ := (hWr.s (B := W.heap.size) (fun b h => h)).at_ (j := col) hcr
      have hvv : atV col r = v := by unfold atV; rw [List.getD_eq_getElem?_getD, hv']; rfl
      rw [hvv] at hk
      obtain ⟨hd, ht⟩ := dropX x.rows j r hv
      have hrest' := hrest.out
      rw [hd, List.map_cons, hvv, dupF] at hrest'
      obtain ⟨m, hm⟩ : ∃ m, (x.rows.take j).map (atV col) = m := ⟨_, rfl⟩
      rw [hm] at hM hrest'
      have hmn : (x.rows.take (j + 1)).map (atV col) = m ++ [v] := by rw [ht, List.map_append, hm]; simp [hvv]
      have HN : Hid (m.any (fun x => veq v x) = false → dupF (m ++ [v]) ((x.rows.drop (j + 1)).map (atV col)) = R) := fun e => by rw [e, Bool.false_or] at hrest'; exact hrest'
      have HT : Hid (m.any (fun x => veq v x) = true → R = true) := fun e => by rw [e, Bool.true_or] at hrest'; exact hrest'.symm
      have HMN := Lib.hid hmn
      obtain ⟨W1, hW1⟩ : ∃ W1, W.alloc (.cells #[.int .i64 (v).k, .int .i64 (v).i, .string ⟨(v).s.toArray⟩] 26) = W1 := ⟨_, rfl⟩
      have kv : Blk W1 W.heap.size 26 #[.int .i64 (v).k, .int .i64 (v).i, .string ⟨(v).s.toArray⟩] := by rw [← hW1]; exact Blk.new _ _ _
      have hb1 : Below W.heap.size W W1 := by rw [← hW1]; exact bl
      have hM1 := hM.below hb1 hM.lt
      have hbw1 := hbr.trans (hb1.mono hzw)
      have hz1 : w.heap.size + 2 ≤ W1.heap.size := Nat.le_trans hzr hb1.size
      have i1 : (0 : Int) ≤ (j : Int) := by omega
      have i2 : (j : Int) < (x.rows.length : Int) := by omega
      have i3 : (0 : Int) ≤ (col : Int) := by omega
      have i4 : (col : Int) < (r.length : Int) := by omega
      have hk1 : (v.k != 0) = true := by simpa using hk
      have HW1 := Lib.hid hW1
      have lv := kv.lt
      obtain ⟨⟨v0, v1, v2⟩, _⟩ := kv.three
      clear hv hrest hrest' hW1 hM hm hmn hd ht hv' hvv hWr
      cases hany : m.any (fun x => veq v x)
      · have HN1 : Hid (dupF (m ++ [v]) ((x.rows.drop (j + 1)).map (atV col)) = R) := HN.out hany
        obtain ⟨w1', w2', hE, hS, hL1, hg1, hg2, hM2⟩ := hM1.drew.enter v hany
        have hL0 := hM1.drew.look v
        rw [hany] at hL0
        simp only [Bool.false_eq_true, if_false] at hL0
        have kv2 := kv.drew.grown hg2 (fun e => by have := Option.some.inj e; omega)
        have hbn : Below w.heap.size w w2' := (hbw1.drew).grown hg2 (by exact hbw1.size) (fun k hk => by cases hk; omega)
        have hzn : w.heap.size + 2 ≤ w2'.heap.size := Nat.le_trans hz1 hg2.size
        have hlk := hM2.look v
        have hself : (m ++ [v]).any (fun x => veq v x) = true := by simp [veq]
        rw [hself] at hlk
        simp only [if_true] at hlk
        go_upto_region 6 with fail
        rw [HW1.out]
        clear HW1 HN HT
        go_region
        clear v0 v1 v2 hE hS hL1 hL0 e0 e1 e2 cr
        obtain ⟨⟨v0, v1, v2⟩, _⟩ := kv2.three
        go_wp2_with fail
        go_roundw
        case rel => exact ⟨j + 1, by omega, by go_num, by rw [HMN.out]; exact HN1, by rw [HMN.out]; exact hM2, hbn, hzn⟩
        case measure => simp [intOf]; omega
      · have HF : Hid (R = true) := HT.out hany
        obtain ⟨n, w2', hE, hS, hL0, hL2, hg2⟩ := hM1.drew.again v hany
        have kv2 := kv.drew.grown hg2 (fun e => by have := Option.some.inj e; omega)
        have hbn : Below w.heap.size w w2' := (hbw1.drew).grown hg2 (by exact hbw1.size) (fun k hk => by cases hk; omega)
        go_upto_region 6 with fail
        rw [HW1.out]
        clear HW1 HN HT
        go_region
        clear v0 v1 v2 hE hS hL0 e0 e1 e2 cr
        obtain ⟨⟨v0, v1, v2⟩, _⟩ := kv2.three
        go_wp2_with fail
        go_ret
        exact ⟨by rw [HF.out]; rfl, hbn⟩
    · have HF : Hid (R = false) := by
        show _ = _
        rw [← hrest.out, List.drop_of_length_le (by omega)]
        rfl
      have b0 : ¬ ((j : Int) < (x.rows.length : Int)) := by omega
      clear hrest
      go_wp2_with fail
      go_ret
      exact ⟨by rw [HF.out]; rfl, hbr⟩

end Go.Proofs.YtdhjogmkhbpcgaaGreat
