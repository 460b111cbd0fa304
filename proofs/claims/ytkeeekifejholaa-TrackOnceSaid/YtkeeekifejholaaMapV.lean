/- A map whose keys are values, each with the number 1: what looking up, entering and counting come to. Condition: the map lies in its block. -/
import Derived.Test.YtkeeekifejholaaTrackX
import Derived.WideKeyEntry
namespace Go.Proofs.Ytkeeekifejholaa
open Go.RowKit Go.ChangeMaps

def mEnt (v : V) (i : Nat) : MapEntry := ⟨.agg #[.int .i64 (v).k, .int .i64 (v).i, .string ⟨(v).s.toArray⟩], .int .i64 1, i⟩
def mEnts : List V → Nat → List MapEntry
  | [], _ => []
  | v :: r, i => mEnt v i :: mEnts r (i + 1)
theorem mEnts_length : ∀ (l : List V) (i : Nat), (mEnts l i).length = l.length
  | [], _ => rfl
  | _ :: r, i => by simp [mEnts, mEnts_length r (i + 1)]
theorem mEnts_snoc : ∀ (l : List V) (v : V) (i : Nat), mEnts (l ++ [v]) i = mEnts l i ++ [mEnt v (i + l.length)]
  | [], v, i => by simp [mEnts]
  | u :: r, v, i => by
    rw [List.cons_append, mEnts, mEnts, mEnts_snoc r v (i + 1)]
    simp only [List.cons_append, List.length_cons]
    rw [show i + 1 + r.length = i + (r.length + 1) by omega]
/-- Block b is a map of the keys l, each with 1, entered in this order. -/
def MV (w : World) (b : Nat) (l : List V) : Prop := w.heap[b]? = some (.map (mEnts l 0).toArray l.length)

theorem equal_V (a b : V) (w : World) : (Op.equal 31 (.agg #[.int .i64 (a).k, .int .i64 (a).i, .string ⟨(a).s.toArray⟩]) (.agg #[.int .i64 (b).k, .int .i64 (b).i, .string ⟨(b).s.toArray⟩])).run Try.prog w = .ok (veq a b) w := by
  have h := run_eql_V a.k a.i a.s b.k b.i b.s w
  have e : binOp .eql 31 (.agg #[.int .i64 (a).k, .int .i64 (a).i, .string ⟨(a).s.toArray⟩]) (.agg #[.int .i64 (b).k, .int .i64 (b).i, .string ⟨(b).s.toArray⟩]) = (do pure (.bool (← Op.equal 31 (.agg #[.int .i64 (a).k, .int .i64 (a).i, .string ⟨(a).s.toArray⟩]) (.agg #[.int .i64 (b).k, .int .i64 (b).i, .string ⟨(b).s.toArray⟩])))) := rfl
  rw [e, Sem.run_bind] at h
  cases hq : (Op.equal 31 (.agg #[.int .i64 (a).k, .int .i64 (a).i, .string ⟨(a).s.toArray⟩]) (.agg #[.int .i64 (b).k, .int .i64 (b).i, .string ⟨(b).s.toArray⟩])).run Try.prog w with
  | ok x w' =>
    rw [hq] at h
    simp only [Result.andThen, Sem.run_pure, Result.ok.injEq, Value.bool.injEq] at h
    rw [h.1, h.2]
  | _ => rw [hq] at h; simp [Result.andThen] at h

theorem check_V (e : Bool) (a : V) (w : World) : (Instr.checkKey e 10000 31 (.agg #[.int .i64 (a).k, .int .i64 (a).i, .string ⟨(a).s.toArray⟩])).run Try.prog w = .ok () w := by kernel_rfl

theorem ask_V (v : V) (w : World) : ∀ (l : List V) (i j : Nat), ∃ r, (Instr.findAsking 31 (.agg #[.int .i64 (v).k, .int .i64 (v).i, .string ⟨(v).s.toArray⟩]) (mEnts l i) j).run Try.prog w = .ok r w ∧ (if l.any (fun x => veq v x) then ∃ n, r = some (n, .int .i64 1) else r = none)
  | [], i, j => ⟨none, rfl, rfl⟩
  | u :: r, i, j => by
    have he := equal_V v u w
    cases hq : veq v u
    · obtain ⟨x, h1, h2⟩ := ask_V v w r (i + 1) (j + 1)
      refine ⟨x, ?_, by simpa [hq] using h2⟩
      rw [hq] at he
      simp only [mEnts, Instr.findAsking, Sem.run_bind, mEnt, he, Result.andThen]
      exact h1
    · refine ⟨some (j, .int .i64 1), ?_, by simp [hq]⟩
      rw [hq] at he
      simp only [mEnts, Instr.findAsking, Sem.run_bind, mEnt, he, Result.andThen]
      rfl

theorem find_V (v : V) (w : World) (l : List V) : ∃ r, (Instr.findKey 31 (.agg #[.int .i64 (v).k, .int .i64 (v).i, .string ⟨(v).s.toArray⟩]) (mEnts l 0)).run Try.prog w = .ok r w ∧ (if l.any (fun x => veq v x) then ∃ n, r = some (n, .int .i64 1) else r = none) := by
  cases l with
  | nil => exact ⟨none, by simp [Instr.findKey, run_underlying Try.underlying31, mEnts, Instr.findNow, Result.andThen], rfl⟩
  | cons u r =>
    obtain ⟨x, h1, h2⟩ := ask_V v w (u :: r) 0 0
    refine ⟨x, ?_, h2⟩
    rw [← h1]
    simp [Instr.findKey, run_underlying Try.underlying31, mEnts, mEnt, Instr.findNow, Instr.sameNow, Result.andThen]


theorem ask_more (v : V) (w : World) (tl : List MapEntry) : ∀ (l : List V) (i j : Nat), l.any (fun x => veq v x) = false → (Instr.findAsking 31 (.agg #[.int .i64 (v).k, .int .i64 (v).i, .string ⟨(v).s.toArray⟩]) (mEnts l i ++ tl) j).run Try.prog w = (Instr.findAsking 31 (.agg #[.int .i64 (v).k, .int .i64 (v).i, .string ⟨(v).s.toArray⟩]) tl (j + l.length)).run Try.prog w
  | [], i, j, _ => rfl
  | u :: r, i, j, h => by
    simp only [List.any_cons, Bool.or_eq_false_iff] at h
    have he := equal_V v u w
    rw [h.1] at he
    rw [mEnts, List.cons_append]
    have := ask_more v w tl r (i + 1) (j + 1) h.2
    rw [show j + (u :: r).length = j + 1 + r.length by simp; omega, ← this]
    simp only [Instr.findAsking, Sem.run_bind, mEnt, he, Result.andThen]
    rfl
theorem find_last (v : V) (w : World) (l : List V) (z : Value) (h : l.any (fun x => veq v x) = false) : (Instr.findKey 31 (.agg #[.int .i64 (v).k, .int .i64 (v).i, .string ⟨(v).s.toArray⟩]) (mEnts l 0 ++ [⟨.agg #[.int .i64 (v).k, .int .i64 (v).i, .string ⟨(v).s.toArray⟩], z, l.length⟩])).run Try.prog w = .ok (some (l.length, z)) w := by
  have he := equal_V v v w
  have hs : veq v v = true := by simp [veq]
  rw [hs] at he
  have h1 := ask_more v w [⟨.agg #[.int .i64 (v).k, .int .i64 (v).i, .string ⟨(v).s.toArray⟩], z, l.length⟩] l 0 0 h
  have h2 : (Instr.findAsking 31 (.agg #[.int .i64 (v).k, .int .i64 (v).i, .string ⟨(v).s.toArray⟩]) [⟨.agg #[.int .i64 (v).k, .int .i64 (v).i, .string ⟨(v).s.toArray⟩], z, l.length⟩] (0 + l.length)).run Try.prog w = .ok (some (l.length, z)) w := by
    simp only [Instr.findAsking, Sem.run_bind, he, Result.andThen, Nat.zero_add]
    rfl
  rw [h2] at h1
  rw [← h1]
  cases l with
  | nil => simp [Instr.findKey, run_underlying Try.underlying31, mEnts, Instr.findNow, Instr.sameNow, Result.andThen]
  | cons u r => simp [Instr.findKey, run_underlying Try.underlying31, mEnts, mEnt, Instr.findNow, Instr.sameNow, Result.andThen]
theorem mEnts_born : ∀ (l : List V) (i : Nat), (mEnts l i).map (·.born) = List.range' i l.length
  | [], _ => rfl
  | _ :: r, i => by simp [mEnts, mEnt, mEnts_born r (i + 1), List.range'_succ]
theorem grown_block (w : World) (b : Nat) (o : Obj) : w.grownBy (setBlock w b o) (some b) := ⟨rfl, rfl, rfl, by simp [setBlock], fun k _ hne => by
  have : k ≠ b := fun e => hne (by rw [e])
  simp [setBlock, Ne.symm this]⟩

section
variable {w : World} {b : Nat} {l : List V}
theorem MV.look (h : MV w b l) (v : V) : (Instr.lookup 57 (.map (some b)) (.agg #[.int .i64 (v).k, .int .i64 (v).i, .string ⟨(v).s.toArray⟩]) false).run Try.prog w = .ok (.int .i64 (if l.any (fun x => veq v x) then 1 else 0)) w := by
  obtain ⟨r, h1, h2⟩ := find_V v w l
  cases hq : l.any (fun x => veq v x)
  · rw [hq] at h2
    simp only [Bool.false_eq_true, if_false] at h2
    subst h2
    simp [Instr.lookup, run_underlying Try.underlying57, MapKept.run_getObj_map h, check_V _ v, h1, Result.andThen]
  · rw [hq] at h2
    simp only [if_true] at h2
    obtain ⟨n, rfl⟩ := h2
    simp [Instr.lookup, run_underlying Try.underlying57, MapKept.run_getObj_map h, check_V _ v, h1, Result.andThen]
theorem MV.len (h : MV w b l) (ty : TypeId) : (Builtin.len_ #[57] ty #[.map (some b)]).run Try.prog w = .ok (.int .i64 (l.length : Int)) w := by
  simp [Builtin.len_, run_underlying Try.underlying57, MapKept.run_getObj_map h, goInt, Result.andThen, mEnts_length]
/-- A new key is entered, and then bears 1. -/
theorem MV.enter (h : MV w b l) (v : V) (hv : l.any (fun x => veq v x) = false) :
    ∃ w1 w2 : World, (Instr.mapEntry 57 (.map (some b)) (.agg #[.int .i64 (v).k, .int .i64 (v).i, .string ⟨(v).s.toArray⟩])).run Try.prog w = .ok (.tuple #[.int .i64 0, .int .i64 (l.length : Int)]) w1 ∧
      (Instr.entryStore 57 (.map (some b)) (.int .i64 (l.length : Int)) (.int .i64 1)).run Try.prog w1 = .ok () w2 ∧
      (Instr.lookup 57 (.map (some b)) (.agg #[.int .i64 (v).k, .int .i64 (v).i, .string ⟨(v).s.toArray⟩]) false).run Try.prog w1 = .ok (.int .i64 0) w1 ∧
      w.grownBy w1 (some b) ∧ w.grownBy w2 (some b) ∧ MV w2 b (l ++ [v]) := by
  have hlt : b < w.heap.size := (Array.getElem?_eq_some_iff.1 h).1
  obtain ⟨r, h1, h2⟩ := find_V v w l
  rw [hv] at h2
  simp only [Bool.false_eq_true, if_false] at h2
  subst h2
  obtain ⟨arr, harr⟩ : ∃ a, a = (mEnts l 0).toArray.push (⟨.agg #[.int .i64 (v).k, .int .i64 (v).i, .string ⟨(v).s.toArray⟩], .int .i64 0, l.length⟩ : MapEntry) := ⟨_, rfl⟩
  have htl : arr.toList = mEnts l 0 ++ [⟨.agg #[.int .i64 (v).k, .int .i64 (v).i, .string ⟨(v).s.toArray⟩], .int .i64 0, l.length⟩] := by rw [harr]; simp
  have hidx : arr.findIdx? (fun e => ((e.born : Nat) : Int) == ((l.length : Nat) : Int)) = some l.length := by
    rw [WideElems.findIdx_arr]
    have := WideElems.findIdx_born (l := arr.toList) (j := l.length) (e0 := ⟨.agg #[.int .i64 (v).k, .int .i64 (v).i, .string ⟨(v).s.toArray⟩], .int .i64 0, l.length⟩) (by
      rw [htl]
      simp only [List.map_append, List.map_cons, List.map_nil, mEnts_born]
      rw [List.range'_eq_map_range]
      refine List.nodup_append.2 ⟨by simp [List.nodup_range], by simp, fun a ha c hc e1 => ?_⟩
      simp at hc ha
      omega) (by rw [htl]; simp [mEnts_length])
    exact this
  have hmod : arr.modify l.length (fun e => { e with val := .int .i64 1 }) = (mEnts (l ++ [v]) 0).toArray := by
    apply Array.ext'
    rw [Array.toList_modify, htl, mEnts_snoc]
    have hl := mEnts_length l 0
    have := WideElems.modify_last (fun e : MapEntry => { e with val := .int .i64 1 }) (⟨.agg #[.int .i64 (v).k, .int .i64 (v).i, .string ⟨(v).s.toArray⟩], .int .i64 0, l.length⟩ : MapEntry) (mEnts l 0)
    rw [hl] at this
    simp only [this, mEnt, Nat.zero_add]
  have hE : (Instr.mapEntry 57 (.map (some b)) (.agg #[.int .i64 (v).k, .int .i64 (v).i, .string ⟨(v).s.toArray⟩])).run Try.prog w = .ok (.tuple #[.int .i64 0, .int .i64 (l.length : Int)]) (setBlock w b (.map arr (l.length + 1))) := by
    rw [harr]
    simp [Instr.mapEntry, run_underlying Try.underlying57, MapKept.run_getObj_map h, check_V _ v, h1, MapKept.run_setObj_map _ h, goInt, Result.andThen, setBlock]
  clear harr
  have hb1 : (setBlock w b (.map arr (l.length + 1))).heap[b]? = some (.map arr (l.length + 1)) := by simp [setBlock, hlt]
  have hg1 := grown_block w b (.map arr (l.length + 1))
  have hs1 : (setBlock w b (.map arr (l.length + 1))).heap.size = w.heap.size := by simp [setBlock]
  generalize setBlock w b (.map arr (l.length + 1)) = w1 at *
  refine ⟨w1, setBlock w1 b (.map (mEnts (l ++ [v]) 0).toArray (l.length + 1)), hE, ?_, ?_, hg1, hg1.trans (grown_block _ b _), ?_⟩
  · simp [Instr.entryStore, MapKept.run_getObj_map hb1, asInt, asIntOf, hidx, hmod, MapKept.run_setObj_map _ hb1, Result.andThen, setBlock]
  · have hf := find_last v w1 l (.int .i64 0) hv
    rw [← htl] at hf
    simp [Instr.lookup, run_underlying Try.underlying57, MapKept.run_getObj_map hb1, check_V _ v, hf, Result.andThen]
  · show (setBlock w1 b _).heap[b]? = _
    simp [setBlock, hs1, hlt]
theorem MV.lt (h : MV w b l) : b < w.heap.size := (Array.getElem?_eq_some_iff.1 h).1
theorem MV.below {w' : World} {B : Nat} (h : MV w b l) (hb : Below B w w') (hB : b < B) : MV w' b l := (hb.block b hB).trans h
theorem MV.drew (h : MV w b l) : MV w.drew b l := h
theorem MV.far (h : MV w b l) {p : Addr} (hp : b ≠ p.block) (u : Value) : MV (w.setCell p u) b l := (Below.heap_setCell w p u b hp).trans h
theorem MV.new (w : World) : MV (w.alloc (.map #[] 0)) w.heap.size [] := heap_alloc_new w _
end
section
variable {w w' : World} {n b : Nat} {A : Option Addr}
theorem VX.grown {l : List V} (h : VX w n A l) (hg : w.grownBy w' (some b)) (hb : n ≤ b ∧ b < n + 2) : VX w' n A l := fun hl => by
  obtain ⟨c, off, rfl, h1, h2, h3⟩ := h hl
  exact ⟨c, off, rfl, Nat.lt_of_lt_of_le h1 hg.size, h2, h3.keep fun o => hg.cell_far ⟨c, o, none⟩ h1 (fun e => by have := Option.some.inj e; simp only at this; omega)⟩
theorem BX.grown {l : List UInt8} (h : BX w n A l) (hg : w.grownBy w' (some b)) (hb : n ≤ b ∧ b < n + 2) : BX w' n A l := fun hl => by
  obtain ⟨c, off, rfl, h1, h2, h3⟩ := h hl
  exact ⟨c, off, rfl, Nat.lt_of_lt_of_le h1 hg.size, h2, fun i x hx => (hg.cell_far ⟨c, off + i, none⟩ h1 (fun e => by have := Option.some.inj e; simp only at this; omega)).trans (h3 i x hx)⟩
theorem TX.grown {g : Nat} {u : List V} {t : List UInt8} (h : TX n g u t w) (hg : w.grownBy w' (some b)) (hb : n ≤ b ∧ b < n + 2) (hne : g ≠ b) : TX n g u t w' := by
  obtain ⟨A, c, B, d, h1, h2, h3⟩ := h
  exact ⟨A, c, B, d, h1.grown hg (fun e => hne (by cases e; rfl)), h2.grown hg hb, h3.grown hg hb⟩
theorem VX.at_ {l : List V} (h : VX w n A l) {j : Nat} (hj : j < l.length) :
    ∃ b off v, A = some ⟨b, off, none⟩ ∧ b < w.heap.size ∧ l[j]? = some v ∧ w.cell? ⟨b, off + j * 3, none⟩ = some (.int .i64 v.k) ∧ w.cell? ⟨b, off + j * 3 + 1, none⟩ = some (.int .i64 v.i) ∧ w.cell? ⟨b, off + j * 3 + 2, none⟩ = some (.string ⟨v.s.toArray⟩) := h.vs.at_ hj
end

end Go.Proofs.Ytkeeekifejholaa
