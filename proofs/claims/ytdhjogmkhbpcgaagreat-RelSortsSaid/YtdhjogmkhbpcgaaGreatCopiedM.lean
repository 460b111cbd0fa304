/- slices.Clone at columns, numbers, references, expressions, and rows: the same cells in a block of the call's own. Condition: a slice that reads as those cells, no longer than a million. rel.copied: an expression in memory of its own. Condition: an expression that reads as a tree, with at most three parts at each place. -/
import Derived.Test.YtdhjogmkhbpcgaaGreatFew2M
import Derived.Test.YtdhjogmkhbpcgaaGreatRowsM
import Derived.Lib.SliceRun
import Derived.Test.YtdhjogmkhbpcgaaGreatFewM
import Derived.Test.YtdhjogmkhbpcgaaGreatOpenM
import Derived.IntWalk
namespace Go.Proofs.YtdhjogmkhbpcgaaGreat
open Go.RowKit

attribute [local go_sem] ByteArray.extract_mk ba_get
attribute [local go_sem ↓] Go.wp_at_zero Go.wp_at_succ

/-- A slice of the call's own with these cells. -/
def RetOwn (E : TypeId) (sz n : Nat) (cs : List Value) (w : World) (en : Ending) (w' : World) : Prop := ∃ sv, en = .returned sv ∧ w'.ownsRow w.heap.size E sz sv n cs ∧ Below w.heap.size w w'
theorem World.addr_add_block (a : Addr) (j : Nat) : (a.add j).block = a.block := by unfold Addr.add; split <;> rfl
theorem run_nil_cols (A : Option Addr) (n c : Nat) (w : World) : (binOp .eql 22 (.slice A n c) (.slice none 0 0)).run Tryz.prog w = .ok (.bool A.isNone) w := Lib.run_eql_slice_nil w _ _ A n c 0 0 Tryz.underlying22
theorem info_cols : (Tryz.prog.info? 77).map (fun i => (i.zero, i.size, i.bytes)) = some (some (.agg #[.string ⟨#[]⟩, .int .i64 0, .bool false]), 3, 32) := by kernel_rfl
attribute [local go_sem ↓] run_nil_cols
set_option maxHeartbeats 1000000 in
theorem clone_cols (A : Option Addr) (c n : Nat) (cs : List Value) (w : World) (hl : n ≤ 1000000) (h : Reads w w.heap.size 3 A n cs) (h1 : ∀ u ∈ cs, u.oneCell' = true) :
    Calls Tryz.prog 61 #[.slice A n c] w (RetOwn 77 3 n cs w) := by
  obtain ⟨i0, hi0, zi0, zi1, zi2⟩ := info_parts info_cols
  rcases A with _ | a
  · have e : n = 0 := by
      rcases Nat.eq_zero_or_pos n with h0 | h0
      · exact h0
      · obtain ⟨ad, he, _⟩ := h.2 h0; cases he
    have hn : cs = [] := List.eq_nil_of_length_eq_zero (by have := h.1; rw [e] at this; simpa using this)
    have HE := Lib.hid e
    have HN := Lib.hid hn
    clear e hn h h1
    go_enter Tryz.func61, Tryz.ntmps61
    go_wp2
    go_ret
    exact ⟨_, rfl, by rw [HE.out, HN.out]; exact World.ownsRow_nil _ _ _ _, Below.refl _ _⟩
  · have hown0 : (w.alloc (.cells #[] 77)).ownsRow w.heap.size 77 3 (.slice (some ⟨w.heap.size, 0, none⟩) 0 0) 0 [] := World.ownsRow_made w #[] 0 (Nat.le_refl _) (Nat.zero_le _) rfl
    have hba : Below w.heap.size w (w.alloc (.cells #[] 77)) := (Below.refl _ _).alloc (Nat.le_refl _) _
    have hva : Reads (w.alloc (.cells #[] 77)) w.heap.size 3 (some a) n cs := ⟨h.1, fun h0 => by
      obtain ⟨ad, e1, e2, e3⟩ := h.2 h0
      exact ⟨ad, e1, e2, fun j u hu => (hba.cell (p := ad.add j) (by rw [World.addr_add_block]; exact e2)).trans (e3 j u hu)⟩⟩
    have HV := Lib.hid hva
    have H1 := Lib.hid h1
    clear hva h h1
    go_enter Tryz.func61, Tryz.ntmps61
    go_wp2_with (at_builtin; refine wpList_append_any _ rfl (.tmp 5) (.tmp 6) 22 rfl w.heap.size 77 i0 _ 3 32 Tryz.underlying22 hi0 zi0 zi1 zi2 rfl (by decide) _ _ _ rfl hown0 w.heap.size (some a) n c _ rfl HV.out H1.out ?c1 ?c2 ?c3 ?_)
    case c1 => unfold maxLen; omega
    case c2 => omega
    case c3 => simp
    intro v5 w5 hown5 hg5 hat5
    have hb5 : Below w.heap.size w w5 := hba.grown hg5 (by simp) (by simp [Value.ownBlock])
    have HO : Hid (w5.ownsRow w.heap.size 77 3 v5 n cs) := by first | exact hown5 | (simp only [Nat.zero_add, List.nil_append] at hown5; exact hown5) | (have := hown5; simp at this; exact this)
    clear hown5 hg5 hat5
    go_wp2
    go_ret
    exact ⟨_, rfl, HO.out, hb5⟩
theorem run_nil_ints (A : Option Addr) (n c : Nat) (w : World) : (binOp .eql 23 (.slice A n c) (.slice none 0 0)).run Tryz.prog w = .ok (.bool A.isNone) w := Lib.run_eql_slice_nil w _ _ A n c 0 0 Tryz.underlying23
theorem info_ints : (Tryz.prog.info? 3).map (fun i => (i.zero, i.size, i.bytes)) = some (some (.int .i64 0), 1, 8) := by kernel_rfl
attribute [local go_sem ↓] run_nil_ints
set_option maxHeartbeats 1000000 in
theorem clone_ints (A : Option Addr) (c n : Nat) (cs : List Value) (w : World) (hl : n ≤ 1000000) (h : Reads w w.heap.size 1 A n cs) (h1 : ∀ u ∈ cs, u.oneCell' = true) :
    Calls Tryz.prog 62 #[.slice A n c] w (RetOwn 3 1 n cs w) := by
  obtain ⟨i0, hi0, zi0, zi1, zi2⟩ := info_parts info_ints
  rcases A with _ | a
  · have e : n = 0 := by
      rcases Nat.eq_zero_or_pos n with h0 | h0
      · exact h0
      · obtain ⟨ad, he, _⟩ := h.2 h0; cases he
    have hn : cs = [] := List.eq_nil_of_length_eq_zero (by have := h.1; rw [e] at this; simpa using this)
    have HE := Lib.hid e
    have HN := Lib.hid hn
    clear e hn h h1
    go_enter Tryz.func62, Tryz.ntmps62
    go_wp2
    go_ret
    exact ⟨_, rfl, by rw [HE.out, HN.out]; exact World.ownsRow_nil _ _ _ _, Below.refl _ _⟩
  · have hown0 : (w.alloc (.cells #[] 3)).ownsRow w.heap.size 3 1 (.slice (some ⟨w.heap.size, 0, none⟩) 0 0) 0 [] := World.ownsRow_made w #[] 0 (Nat.le_refl _) (Nat.zero_le _) rfl
    have hba : Below w.heap.size w (w.alloc (.cells #[] 3)) := (Below.refl _ _).alloc (Nat.le_refl _) _
    have hva : Reads (w.alloc (.cells #[] 3)) w.heap.size 1 (some a) n cs := ⟨h.1, fun h0 => by
      obtain ⟨ad, e1, e2, e3⟩ := h.2 h0
      exact ⟨ad, e1, e2, fun j u hu => (hba.cell (p := ad.add j) (by rw [World.addr_add_block]; exact e2)).trans (e3 j u hu)⟩⟩
    have HV := Lib.hid hva
    have H1 := Lib.hid h1
    clear hva h h1
    go_enter Tryz.func62, Tryz.ntmps62
    go_wp2_with (at_builtin; refine wpList_append_any _ rfl (.tmp 5) (.tmp 6) 23 rfl w.heap.size 3 i0 _ 1 8 Tryz.underlying23 hi0 zi0 zi1 zi2 rfl (by decide) _ _ _ rfl hown0 w.heap.size (some a) n c _ rfl HV.out H1.out ?c1 ?c2 ?c3 ?_)
    case c1 => unfold maxLen; omega
    case c2 => omega
    case c3 => simp
    intro v5 w5 hown5 hg5 hat5
    have hb5 : Below w.heap.size w w5 := hba.grown hg5 (by simp) (by simp [Value.ownBlock])
    have HO : Hid (w5.ownsRow w.heap.size 3 1 v5 n cs) := by first | exact hown5 | (simp only [Nat.zero_add, List.nil_append] at hown5; exact hown5) | (have := hown5; simp at this; exact this)
    clear hown5 hg5 hat5
    go_wp2
    go_ret
    exact ⟨_, rfl, HO.out, hb5⟩
theorem run_nil_refs (A : Option Addr) (n c : Nat) (w : World) : (binOp .eql 24 (.slice A n c) (.slice none 0 0)).run Tryz.prog w = .ok (.bool A.isNone) w := Lib.run_eql_slice_nil w _ _ A n c 0 0 Tryz.underlying24
theorem info_refs : (Tryz.prog.info? 80).map (fun i => (i.zero, i.size, i.bytes)) = some (some (.agg #[.int .i64 0, .string ⟨#[]⟩]), 2, 24) := by kernel_rfl
attribute [local go_sem ↓] run_nil_refs
set_option maxHeartbeats 1000000 in
theorem clone_refs (A : Option Addr) (c n : Nat) (cs : List Value) (w : World) (hl : n ≤ 1000000) (h : Reads w w.heap.size 2 A n cs) (h1 : ∀ u ∈ cs, u.oneCell' = true) :
    Calls Tryz.prog 63 #[.slice A n c] w (RetOwn 80 2 n cs w) := by
  obtain ⟨i0, hi0, zi0, zi1, zi2⟩ := info_parts info_refs
  rcases A with _ | a
  · have e : n = 0 := by
      rcases Nat.eq_zero_or_pos n with h0 | h0
      · exact h0
      · obtain ⟨ad, he, _⟩ := h.2 h0; cases he
    have hn : cs = [] := List.eq_nil_of_length_eq_zero (by have := h.1; rw [e] at this; simpa using this)
    have HE := Lib.hid e
    have HN := Lib.hid hn
    clear e hn h h1
    go_enter Tryz.func63, Tryz.ntmps63
    go_wp2
    go_ret
    exact ⟨_, rfl, by rw [HE.out, HN.out]; exact World.ownsRow_nil _ _ _ _, Below.refl _ _⟩
  · have hown0 : (w.alloc (.cells #[] 80)).ownsRow w.heap.size 80 2 (.slice (some ⟨w.heap.size, 0, none⟩) 0 0) 0 [] := World.ownsRow_made w #[] 0 (Nat.le_refl _) (Nat.zero_le _) rfl
    have hba : Below w.heap.size w (w.alloc (.cells #[] 80)) := (Below.refl _ _).alloc (Nat.le_refl _) _
    have hva : Reads (w.alloc (.cells #[] 80)) w.heap.size 2 (some a) n cs := ⟨h.1, fun h0 => by
      obtain ⟨ad, e1, e2, e3⟩ := h.2 h0
      exact ⟨ad, e1, e2, fun j u hu => (hba.cell (p := ad.add j) (by rw [World.addr_add_block]; exact e2)).trans (e3 j u hu)⟩⟩
    have HV := Lib.hid hva
    have H1 := Lib.hid h1
    clear hva h h1
    go_enter Tryz.func63, Tryz.ntmps63
    go_wp2_with (at_builtin; refine wpList_append_any _ rfl (.tmp 5) (.tmp 6) 24 rfl w.heap.size 80 i0 _ 2 24 Tryz.underlying24 hi0 zi0 zi1 zi2 rfl (by decide) _ _ _ rfl hown0 w.heap.size (some a) n c _ rfl HV.out H1.out ?c1 ?c2 ?c3 ?_)
    case c1 => unfold maxLen; omega
    case c2 => omega
    case c3 => simp
    intro v5 w5 hown5 hg5 hat5
    have hb5 : Below w.heap.size w w5 := hba.grown hg5 (by simp) (by simp [Value.ownBlock])
    have HO : Hid (w5.ownsRow w.heap.size 80 2 v5 n cs) := by first | exact hown5 | (simp only [Nat.zero_add, List.nil_append] at hown5; exact hown5) | (have := hown5; simp at this; exact this)
    clear hown5 hg5 hat5
    go_wp2
    go_ret
    exact ⟨_, rfl, HO.out, hb5⟩
theorem run_nil_exs (A : Option Addr) (n c : Nat) (w : World) : (binOp .eql 27 (.slice A n c) (.slice none 0 0)).run Tryz.prog w = .ok (.bool A.isNone) w := Lib.run_eql_slice_nil w _ _ A n c 0 0 Tryz.underlying27
theorem info_exs : (Tryz.prog.info? 29).map (fun i => (i.zero, i.size, i.bytes)) = some (some (.agg #[.string ⟨#[]⟩, .int .i64 0, .int .i64 0, .string ⟨#[]⟩, .string ⟨#[]⟩, .slice none 0 0]), 6, 88) := by kernel_rfl
attribute [local go_sem ↓] run_nil_exs
set_option maxHeartbeats 1000000 in
theorem clone_exs (A : Option Addr) (c n : Nat) (cs : List Value) (w : World) (hl : n ≤ 1000000) (h : Reads w w.heap.size 6 A n cs) (h1 : ∀ u ∈ cs, u.oneCell' = true) :
    Calls Tryz.prog 103 #[.slice A n c] w (RetOwn 29 6 n cs w) := by
  obtain ⟨i0, hi0, zi0, zi1, zi2⟩ := info_parts info_exs
  rcases A with _ | a
  · have e : n = 0 := by
      rcases Nat.eq_zero_or_pos n with h0 | h0
      · exact h0
      · obtain ⟨ad, he, _⟩ := h.2 h0; cases he
    have hn : cs = [] := List.eq_nil_of_length_eq_zero (by have := h.1; rw [e] at this; simpa using this)
    have HE := Lib.hid e
    have HN := Lib.hid hn
    clear e hn h h1
    go_enter Tryz.func103, Tryz.ntmps103
    go_wp2
    go_ret
    exact ⟨_, rfl, by rw [HE.out, HN.out]; exact World.ownsRow_nil _ _ _ _, Below.refl _ _⟩
  · have hown0 : (w.alloc (.cells #[] 29)).ownsRow w.heap.size 29 6 (.slice (some ⟨w.heap.size, 0, none⟩) 0 0) 0 [] := World.ownsRow_made w #[] 0 (Nat.le_refl _) (Nat.zero_le _) rfl
    have hba : Below w.heap.size w (w.alloc (.cells #[] 29)) := (Below.refl _ _).alloc (Nat.le_refl _) _
    have hva : Reads (w.alloc (.cells #[] 29)) w.heap.size 6 (some a) n cs := ⟨h.1, fun h0 => by
      obtain ⟨ad, e1, e2, e3⟩ := h.2 h0
      exact ⟨ad, e1, e2, fun j u hu => (hba.cell (p := ad.add j) (by rw [World.addr_add_block]; exact e2)).trans (e3 j u hu)⟩⟩
    have HV := Lib.hid hva
    have H1 := Lib.hid h1
    clear hva h h1
    go_enter Tryz.func103, Tryz.ntmps103
    go_wp2_with (at_builtin; refine wpList_append_any _ rfl (.tmp 5) (.tmp 6) 27 rfl w.heap.size 29 i0 _ 6 88 Tryz.underlying27 hi0 zi0 zi1 zi2 rfl (by decide) _ _ _ rfl hown0 w.heap.size (some a) n c _ rfl HV.out H1.out ?c1 ?c2 ?c3 ?_)
    case c1 => unfold maxLen; omega
    case c2 => omega
    case c3 => simp
    intro v5 w5 hown5 hg5 hat5
    have hb5 : Below w.heap.size w w5 := hba.grown hg5 (by simp) (by simp [Value.ownBlock])
    have HO : Hid (w5.ownsRow w.heap.size 29 6 v5 n cs) := by first | exact hown5 | (simp only [Nat.zero_add, List.nil_append] at hown5; exact hown5) | (have := hown5; simp at this; exact this)
    clear hown5 hg5 hat5
    go_wp2
    go_ret
    exact ⟨_, rfl, HO.out, hb5⟩
theorem run_nil_rows (A : Option Addr) (n c : Nat) (w : World) : (binOp .eql 32 (.slice A n c) (.slice none 0 0)).run Tryz.prog w = .ok (.bool A.isNone) w := Lib.run_eql_slice_nil w _ _ A n c 0 0 Tryz.underlying32
theorem info_rows : (Tryz.prog.info? 43).map (fun i => (i.zero, i.size, i.bytes)) = some (some (.slice none 0 0), 1, 24) := by kernel_rfl
attribute [local go_sem ↓] run_nil_rows
set_option maxHeartbeats 1000000 in
theorem clone_rows (A : Option Addr) (c n : Nat) (cs : List Value) (w : World) (hl : n ≤ 1000000) (h : Reads w w.heap.size 1 A n cs) (h1 : ∀ u ∈ cs, u.oneCell' = true) :
    Calls Tryz.prog 65 #[.slice A n c] w (RetOwn 43 1 n cs w) := by
  obtain ⟨i0, hi0, zi0, zi1, zi2⟩ := info_parts info_rows
  rcases A with _ | a
  · have e : n = 0 := by
      rcases Nat.eq_zero_or_pos n with h0 | h0
      · exact h0
      · obtain ⟨ad, he, _⟩ := h.2 h0; cases he
    have hn : cs = [] := List.eq_nil_of_length_eq_zero (by have := h.1; rw [e] at this; simpa using this)
    have HE := Lib.hid e
    have HN := Lib.hid hn
    clear e hn h h1
    go_enter Tryz.func65, Tryz.ntmps65
    go_wp2
    go_ret
    exact ⟨_, rfl, by rw [HE.out, HN.out]; exact World.ownsRow_nil _ _ _ _, Below.refl _ _⟩
  · have hown0 : (w.alloc (.cells #[] 43)).ownsRow w.heap.size 43 1 (.slice (some ⟨w.heap.size, 0, none⟩) 0 0) 0 [] := World.ownsRow_made w #[] 0 (Nat.le_refl _) (Nat.zero_le _) rfl
    have hba : Below w.heap.size w (w.alloc (.cells #[] 43)) := (Below.refl _ _).alloc (Nat.le_refl _) _
    have hva : Reads (w.alloc (.cells #[] 43)) w.heap.size 1 (some a) n cs := ⟨h.1, fun h0 => by
      obtain ⟨ad, e1, e2, e3⟩ := h.2 h0
      exact ⟨ad, e1, e2, fun j u hu => (hba.cell (p := ad.add j) (by rw [World.addr_add_block]; exact e2)).trans (e3 j u hu)⟩⟩
    have HV := Lib.hid hva
    have H1 := Lib.hid h1
    clear hva h h1
    go_enter Tryz.func65, Tryz.ntmps65
    go_wp2_with (at_builtin; refine wpList_append_any _ rfl (.tmp 5) (.tmp 6) 32 rfl w.heap.size 43 i0 _ 1 24 Tryz.underlying32 hi0 zi0 zi1 zi2 rfl (by decide) _ _ _ rfl hown0 w.heap.size (some a) n c _ rfl HV.out H1.out ?c1 ?c2 ?c3 ?_)
    case c1 => unfold maxLen; omega
    case c2 => omega
    case c3 => simp
    intro v5 w5 hown5 hg5 hat5
    have hb5 : Below w.heap.size w w5 := hba.grown hg5 (by simp) (by simp [Value.ownBlock])
    have HO : Hid (w5.ownsRow w.heap.size 43 1 v5 n cs) := by first | exact hown5 | (simp only [Nat.zero_add, List.nil_append] at hown5; exact hown5) | (have := hown5; simp at this; exact this)
    clear hown5 hg5 hat5
    go_wp2
    go_ret
    exact ⟨_, rfl, HO.out, hb5⟩

end Go.Proofs.YtdhjogmkhbpcgaaGreat

namespace Go.Proofs.YtdhjogmkhbpcgaaGreat
open Go.RowKit

attribute [local go_sem] ByteArray.extract_mk ba_get ba_append
attribute [local go_sem ↓] Go.wp_at_zero Go.wp_at_succ run_eql_V run_neq_V

/-- At most three parts at each place. -/
inductive Ex.slim : Ex → Prop
  | mk (o : List UInt8) (v : V) (s : List UInt8) (l : List Ex) : l.length ≤ 3 → (∀ x ∈ l, Ex.slim x) → Ex.slim (.mk o v s l)
theorem fewFold_mem {f : Int → Ex → Ex × Int} {P : Ex → Prop} (hf : ∀ left y, P (f left y).1) : ∀ (l : List Ex) (left : Int), ∀ x ∈ (fewFold f l left).1, P x
  | [], _, x, h => by simp [fewFold] at h
  | y :: r, left, x, h => by
    unfold fewFold at h
    split at h
    · simp only [List.mem_cons] at h
      rcases h with rfl | h
      · exact hf left y
      · exact fewFold_mem hf r _ x h
    · simp at h
theorem fewFold_le' (f : Int → Ex → Ex × Int) : ∀ (l : List Ex) (left : Int), (fewFold f l left).1.length ≤ l.length := fewFold_len f
theorem fewE_slim : ∀ (d : Nat) (left : Int) (e : Ex), (fewE d left e).1.slim
  | 0, left, e => Ex.slim.mk _ _ _ _ (by simp) (by simp)
  | d + 1, left, e => Ex.slim.mk _ _ _ _ (Nat.le_trans (fewFold_len _ _ _) (List.length_take_le _ _)) (fewFold_mem (fun left y => fewE_slim d left y) _ _)
theorem fewX_slim (e : Ex) : (fewX e).slim := fewE_slim 14 80 e

/-- Block b holds the expressions rs, one behind the other, from its first cell on. -/
def ArrE (w : World) (b : Nat) (ty : TypeId) (rs : List ExC) : Prop := ∃ cur : Array Value, Blk w b ty cur ∧ ∀ (i : Nat) (r : ExC), rs[i]? = some r → ∀ j u, r.cells[j]? = some u → cur[i * 6 + j]? = some u
section
variable {w w' : World} {b : Nat} {ty : TypeId} {rs : List ExC}
theorem ArrE.lt (h : ArrE w b ty rs) : b < w.heap.size := by obtain ⟨cur, hk, _⟩ := h; exact hk.lt
theorem ArrE.six (h : ArrE w b ty rs) {i : Nat} {r : ExC} (hr : rs[i]? = some r) : Six w b (i * 6) r.e r.A r.c := by
  obtain ⟨cur, hk, hc⟩ := h
  have key := fun j u hu => (hk.cell (i * 6 + j)).trans (hc i r hr j u hu)
  exact ⟨key 0 _ rfl, key 1 _ rfl, key 2 _ rfl, key 3 _ rfl, key 4 _ rfl, key 5 _ rfl⟩
theorem ArrE.frozen (h : ArrE w b ty rs) (i : Nat) : w.frozen? ⟨b, i, none⟩ = false := by obtain ⟨cur, hk, _⟩ := h; exact hk.frozen i
theorem ArrE.below {B : Nat} (h : ArrE w b ty rs) (hb : Below B w w') (hB : b < B) : ArrE w' b ty rs := by
  obtain ⟨cur, hk, hc⟩ := h
  exact ⟨cur, hk.below hb hB, hc⟩
theorem ArrE.but {p : Nat} (h : ArrE w b ty rs) (hb : But p w w') (hp : b ≠ p) : ArrE w' b ty rs := by
  obtain ⟨cur, hk, hc⟩ := h
  exact ⟨cur, hb.blk hk hp, hc⟩
theorem ArrE.set (h : ArrE w b ty rs) {i : Nat} (hi : i < rs.length) (r : ExC) {u0 u1 u2 u3 u4 u5 : Value} (hu : r.cells = [u0, u1, u2, u3, u4, u5]) :
    ArrE ((((((w.setCell ⟨b, i * 6, none⟩ u0).setCell ⟨b, i * 6 + 1, none⟩ u1).setCell ⟨b, i * 6 + 2, none⟩ u2).setCell ⟨b, i * 6 + 3, none⟩ u3).setCell ⟨b, i * 6 + 4, none⟩ u4).setCell ⟨b, i * 6 + 5, none⟩ u5) b ty (rs.set i r) := by
  obtain ⟨cur, hk, hc⟩ := h
  refine ⟨_, (((((hk.set_ (i * 6) u0).set_ (i * 6 + 1) u1).set_ (i * 6 + 2) u2).set_ (i * 6 + 3) u3).set_ (i * 6 + 4) u4).set_ (i * 6 + 5) u5, fun k q hq j u hj => ?_⟩
  have hj6 : j < 6 := by
    have := (List.getElem?_eq_some_iff.1 hj).1
    rw [ExC.cells_length] at this
    exact this
  have hsz : ∀ m, m < 6 → i * 6 + m < cur.size := fun m hm => by
    have h1 : m < (rs[i]).cells.length := by rw [ExC.cells_length]; exact hm
    exact (Array.getElem?_eq_some_iff.1 (hc i (rs[i]) (List.getElem?_eq_getElem hi) m ((rs[i]).cells[m]) (List.getElem?_eq_getElem h1))).1
  have z0 := hsz 0 (by omega)
  have z1 := hsz 1 (by omega)
  have z2 := hsz 2 (by omega)
  have z3 := hsz 3 (by omega)
  have z4 := hsz 4 (by omega)
  have z5 := hsz 5 (by omega)
  rw [List.getElem?_set] at hq
  by_cases hik : i = k
  · subst hik
    rw [if_pos rfl, if_pos hi] at hq
    cases hq
    rw [hu] at hj
    match j, hj6, hj with
    | 0, _, hj => simp at hj; subst hj; simp [Array.getElem?_setIfInBounds]; omega
    | 1, _, hj => simp at hj; subst hj; simp [Array.getElem?_setIfInBounds]; omega
    | 2, _, hj => simp at hj; subst hj; simp [Array.getElem?_setIfInBounds]; omega
    | 3, _, hj => simp at hj; subst hj; simp [Array.getElem?_setIfInBounds]; omega
    | 4, _, hj => simp at hj; subst hj; simp [Array.getElem?_setIfInBounds]; omega
    | 5, _, hj => simp at hj; subst hj; simp [Array.getElem?_setIfInBounds]; omega
  · rw [if_neg hik] at hq
    rw [Array.getElem?_setIfInBounds_ne (by omega), Array.getElem?_setIfInBounds_ne (by omega), Array.getElem?_setIfInBounds_ne (by omega), Array.getElem?_setIfInBounds_ne (by omega), Array.getElem?_setIfInBounds_ne (by omega), Array.getElem?_setIfInBounds_ne (by omega)]
    exact hc k q hq j u hj
theorem but_six {i : Nat} {u0 u1 u2 u3 u4 u5 : Value} : But b w ((((((w.setCell ⟨b, i * 6, none⟩ u0).setCell ⟨b, i * 6 + 1, none⟩ u1).setCell ⟨b, i * 6 + 2, none⟩ u2).setCell ⟨b, i * 6 + 3, none⟩ u3).setCell ⟨b, i * 6 + 4, none⟩ u4).setCell ⟨b, i * 6 + 5, none⟩ u5) :=
  ((((((But.refl b w).set _ _).set _ _).set _ _).set _ _).set _ _).set _ _
theorem arrE_own {base n : Nat} {sv : Value} (h : w.ownsRow base ty 6 sv n (rs.flatMap ExC.cells)) : rs.length = n ∧ ∃ A c, sv = .slice A n c ∧ n ≤ c ∧ c ≤ maxLen ∧ (0 < n → ∃ g, A = some ⟨g, 0, none⟩ ∧ base ≤ g ∧ g < w.heap.size ∧ ArrE w g ty rs) := by
  have hn : rs.length = n := by have := h.1; rw [exc_len] at this; omega
  refine ⟨hn, ?_⟩
  rcases h.2 with ⟨rfl, h0⟩ | ⟨g, cap, cur, rfl, hb, hg, hnc, hcm, hcs, htk⟩
  · exact ⟨none, 0, by rw [h0], by omega, Nat.zero_le _, fun h1 => absurd h1 (by omega)⟩
  · refine ⟨_, cap, rfl, hnc, hcm, fun _ => ⟨g, rfl, hb, (Array.getElem?_eq_some_iff.1 hg).1, cur, hg, fun i r hr j u hj => ?_⟩⟩
    have hk : Blk w g ty cur := hg
    have hj6 : j < 6 := by
      have := (List.getElem?_eq_some_iff.1 hj).1
      rw [ExC.cells_length] at this
      exact this
    have := h.cells (g := g) rfl (i * 6 + j) u (by rw [exc_at rs i j r hr hj6]; exact hj)
    rw [add_mid, Nat.zero_add] at this
    exact (hk.cell _).symm.trans this
end
theorem exs_pick {Q : Nat → Prop} {w : World} : ∀ (n : Nat) {A : Option Addr} {l : List Ex}, ExQ 1000 n w Q A l → ∃ rs : List ExC, rs.map ExC.e = l ∧ (∀ r ∈ rs, ExR Q r.e r.A r.c w) ∧ (0 < l.length → ∃ b off, A = some ⟨b, off, none⟩ ∧ Q b ∧ ∀ j u, (rs.flatMap ExC.cells)[j]? = some u → w.cell? ⟨b, off + j, none⟩ = some u)
  | 0, A, l, h => by
    cases h
    exact ⟨[], rfl, by simp, fun h => absurd h (by simp)⟩
  | n + 1, A, l, h => by
    cases l with
    | nil => exact ⟨[], rfl, by simp, fun h => absurd h (by simp)⟩
    | cons x0 r0 =>
    obtain ⟨b, off, rfl, hb, hr⟩ := h (by simp)
    have pick : ∀ (m : List Ex) (k : Nat), (∀ i e, m[i]? = some e → ∃ A' c', e.fit 1000 ∧ e.l.length ≤ c' ∧ c' ≤ maxLen ∧ Six w b (off + (k + i) * 6) e A' c' ∧ ExQ 1000 n w Q A' e.l) →
        ∃ rs : List ExC, rs.map ExC.e = m ∧ (∀ r ∈ rs, ExR Q r.e r.A r.c w) ∧ ∀ j u, (rs.flatMap ExC.cells)[j]? = some u → w.cell? ⟨b, off + k * 6 + j, none⟩ = some u := by
      intro m
      induction m with
      | nil => intro k _; exact ⟨[], rfl, by simp, fun j u h => by simp at h⟩
      | cons x r ih =>
        intro k hk
        obtain ⟨A', c', h1, h2, h3, h4, h5⟩ := hk 0 x rfl
        obtain ⟨rs, e1, e2, e3⟩ := ih (k + 1) (fun i e he => by
          have := hk (i + 1) e (by simpa using he)
          rw [show k + 1 + i = k + (i + 1) by omega]
          exact this)
        refine ⟨⟨x, A', c'⟩ :: rs, by rw [List.map_cons, e1], fun q hq => ?_, fun j u hu => ?_⟩
        · rcases List.mem_cons.1 hq with rfl | hq
          · exact ⟨h1, h2, h3, n, h5⟩
          · exact e2 q hq
        · rw [List.flatMap_cons] at hu
          obtain ⟨s0, s1, s2, s3, s4, s5⟩ := h4
          rw [Nat.add_zero] at s0 s1 s2 s3 s4 s5
          rcases Nat.lt_or_ge j 6 with hj | hj
          · rw [List.getElem?_append_left (by rw [ExC.cells_length]; exact hj)] at hu
            match j, hj, hu with
            | 0, _, hu => simp [ExC.cells, Ex.cells] at hu; subst hu; exact s0
            | 1, _, hu => simp [ExC.cells, Ex.cells] at hu; subst hu; exact s1
            | 2, _, hu => simp [ExC.cells, Ex.cells] at hu; subst hu; exact s2
            | 3, _, hu => simp [ExC.cells, Ex.cells] at hu; subst hu; exact s3
            | 4, _, hu => simp [ExC.cells, Ex.cells] at hu; subst hu; exact s4
            | 5, _, hu => simp [ExC.cells, Ex.cells] at hu; subst hu; exact s5
          · rw [List.getElem?_append_right (by rw [ExC.cells_length]; exact hj), ExC.cells_length] at hu
            have := e3 (j - 6) u hu
            rw [show off + (k + 1) * 6 + (j - 6) = off + k * 6 + j by omega] at this
            exact this
    obtain ⟨rs, e1, e2, e3⟩ := pick (x0 :: r0) 0 (fun i e he => by rw [Nat.zero_add]; exact hr i e he)
    refine ⟨rs, e1, e2, fun _ => ⟨b, off, rfl, hb, fun j u hu => ?_⟩⟩
    have := e3 j u hu
    rw [Nat.zero_mul, Nat.add_zero] at this
    exact this
theorem exs_reads {Q : Nat → Prop} {w : World} {A : Option Addr} {l : List Ex} {rs : List ExC} {B : Nat} (hq : ∀ b, Q b → b < B) (h1 : rs.map ExC.e = l) (h : 0 < l.length → ∃ b off, A = some ⟨b, off, none⟩ ∧ Q b ∧ ∀ j u, (rs.flatMap ExC.cells)[j]? = some u → w.cell? ⟨b, off + j, none⟩ = some u) : Reads w B 6 A l.length (rs.flatMap ExC.cells) := by
  refine ⟨by rw [exc_len, ← h1, List.length_map], fun h0 => ?_⟩
  obtain ⟨b, off, rfl, hb, hc⟩ := h h0
  exact ⟨_, rfl, hq b hb, fun j u hu => by rw [add_mid]; exact hc j u hu⟩
/-- The parts so far: those ahead of k lie in new memory, the others where they were. -/
def PartsAt (w0 : World) (B : Nat) (k : Nat) (rs : List ExC) (w : World) : Prop := ∀ i r, rs[i]? = some r → (i < k → ExR (fun b => B ≤ b ∧ b < w.heap.size) r.e r.A r.c w) ∧ (k ≤ i → ExR (Old w0.heap.size) r.e r.A r.c w)
theorem copied_fin {w wr W : World} {p B n : Nat} {ty : TypeId} {A1 : Option Addr} {l : List Ex} {rs : List ExC} (hW : But p wr W) (hp1 : p < B) (hB : w.heap.size ≤ B) (hrs : rs.map ExC.e = l) (hP : PartsAt w B n rs wr) (hn : l.length ≤ n)
    (hA : 0 < l.length → ∃ g, A1 = some ⟨g, 0, none⟩ ∧ w.heap.size ≤ g ∧ g ≠ p ∧ g < B ∧ ArrE wr g ty rs) : ∃ m, ExQ 1000 m W (fun b => w.heap.size ≤ b ∧ b < W.heap.size) A1 l := by
  have hall : ∀ r ∈ rs, ExR (fun b => w.heap.size ≤ b ∧ b < W.heap.size) r.e r.A r.c W := fun r hr => by
    obtain ⟨i, hi⟩ := List.getElem?_of_mem hr
    have hin : i < n := by
      have := (List.getElem?_eq_some_iff.1 hi).1
      rw [← hrs, List.length_map] at hn
      omega
    exact ((hP i r hi).1 hin).keep fun b hb => ⟨⟨Nat.le_trans hB hb.1, Nat.lt_of_lt_of_le hb.2 hW.size⟩, fun o => hW.cell hb.2 (by omega) o⟩
  obtain ⟨m, hm⟩ := exq_top rs hall
  refine ⟨m + 1, fun h0 => ?_⟩
  obtain ⟨g, rfl, hg1, hg2, hg3, hgA⟩ := hA h0
  refine ⟨g, 0, rfl, ⟨hg1, Nat.lt_of_lt_of_le hgA.lt hW.size⟩, fun i e he => ?_⟩
  rw [← hrs, List.getElem?_map, Option.map_eq_some_iff] at he
  obtain ⟨r, hr, rfl⟩ := he
  obtain ⟨h1, h2, h3, _⟩ := hall r (List.mem_of_getElem? hr)
  have := (hgA.but hW hg2).six hr
  exact ⟨r.A, r.c, h1, h2, h3, by rw [Nat.zero_add]; exact this, hm r (List.mem_of_getElem? hr)⟩
theorem parts_step {w wr w8 W : World} {B Z0 k g : Nat} {rs : List ExC} {r : ExC} {A' : Option Addr} {c' : Nat} (hP : PartsAt w B k rs wr) (hk : rs[k]? = some r) (h8 : Below wr.heap.size wr w8) (hW : But g w8 W) (hg : g < B) (hg2 : w.heap.size ≤ g) (hBr : B ≤ wr.heap.size) (hZ : B ≤ Z0) (hE : ExR (fun b => Z0 ≤ b ∧ b < w8.heap.size) r.e A' c' w8) :
    PartsAt w B (k + 1) (rs.set k ⟨r.e, A', c'⟩) W := by
  intro i q hq
  have hz8 := h8.size
  have new8 : ∀ b, (B ≤ b ∧ b < wr.heap.size) → (B ≤ b ∧ b < W.heap.size) ∧ ∀ o, W.cell? ⟨b, o, none⟩ = wr.cell? ⟨b, o, none⟩ := fun b hb =>
    ⟨⟨hb.1, by have := hW.size; omega⟩, fun o => (hW.cell (by omega) (by omega) o).trans (h8.cell (p := ⟨b, o, none⟩) hb.2)⟩
  rw [List.getElem?_set] at hq
  by_cases hik : k = i
  · subst hik
    have hkl := (List.getElem?_eq_some_iff.1 hk).1
    rw [if_pos rfl, if_pos hkl] at hq
    cases hq
    exact ⟨fun _ => hE.keep fun b hb => ⟨⟨by omega, Nat.lt_of_lt_of_le hb.2 hW.size⟩, fun o => hW.cell hb.2 (by omega) o⟩, fun h => absurd h (by omega)⟩
  · rw [if_neg hik] at hq
    obtain ⟨h1, h2⟩ := hP i q hq
    exact ⟨fun h => (h1 (by omega)).keep new8, fun h => (h2 (by omega)).keep fun b hb => ⟨hb, fun o => by
      have hb' : b < w.heap.size := hb
      exact (hW.cell (by omega) (by omega) o).trans (h8.cell (p := ⟨b, o, none⟩) (show b < wr.heap.size by omega))⟩⟩

set_option maxRecDepth 100000 in
set_option maxHeartbeats 16000000 in
theorem copied_any (e : Ex) (hsl : e.slim) : ∀ (A : Option Addr) (c : Nat) (w : World), e.fit 1000 → (∃ n, ExQ 1000 n w (Old w.heap.size) A e.l) → Calls Tryz.prog 64 #[.agg (e.cells A c).toArray] w (RetFewX e w) := by
  induction hsl with
  | mk o v s l hl3 _ ih =>
  intro A c w hfit hE
  obtain ⟨nE, hQ⟩ := hE
  obtain ⟨rs, hrs, hrE, hrA⟩ := exs_pick nE hQ
  obtain ⟨w0, hw0⟩ : ∃ w0, (w.alloc (.cells #[.string ⟨o.toArray⟩, .int .i64 v.k, .int .i64 v.i, .string ⟨v.s.toArray⟩, .string ⟨s.toArray⟩, .slice A l.length c] 29)).alloc (.cells #[.string ⟨#[]⟩, .int .i64 0, .int .i64 0, .string ⟨#[]⟩, .string ⟨#[]⟩, .slice none 0 0] 29) = w0 := ⟨_, rfl⟩
  have kE : Blk w0 w.heap.size 29 #[.string ⟨o.toArray⟩, .int .i64 v.k, .int .i64 v.i, .string ⟨v.s.toArray⟩, .string ⟨s.toArray⟩, .slice A l.length c] := by rw [← hw0]; exact (Blk.new _ _ _).alloc _
  have kR : Blk w0 (w.heap.size + 1) 29 #[.string ⟨#[]⟩, .int .i64 0, .int .i64 0, .string ⟨#[]⟩, .string ⟨#[]⟩, .slice none 0 0] := by rw [← hw0]; exact Blk.new' _ _ _ _ (by simp)
  have hb0 : Below w.heap.size w w0 := by rw [← hw0]; exact bl
  have hs0 : w0.heap.size = w.heap.size + 1 + 1 := by rw [← hw0]; simp
  have hrd : Reads w0 w0.heap.size 6 A l.length (rs.flatMap ExC.cells) := exs_reads (Q := Old w.heap.size) (fun b hb => Nat.lt_of_lt_of_le hb hb0.size) hrs (fun h0 => by
    obtain ⟨b, off, e1, e2, e3⟩ := hrA h0
    exact ⟨b, off, e1, e2, fun j u hu => (hb0.cell (p := ⟨b, off + j, none⟩) e2).trans (e3 j u hu)⟩)
  have HCL := Lib.hid (clone_exs A c l.length _ w0 (by omega) hrd (exc_one rs))
  have q0 := kE.cell 0
  have q1 := kE.cell 1
  have q2 := kE.cell 2
  have q3 := kE.cell 3
  have q4 := kE.cell 4
  have q5 := kE.cell 5
  have HW := Lib.hid hw0
  have HB0 := Lib.hid hb0
  have HS0 := Lib.hid hs0
  have HIH := Lib.hid ih
  have HFIT := Lib.hid hfit
  have HRE := Lib.hid hrE
  have HRS := Lib.hid hrs
  have HL3 := Lib.hid hl3
  dsimp only [Ex.cells, Ex.op, Ex.v, Ex.s, Ex.l] at *
  clear hw0 hrd hrA ih hfit hQ hrE hrs hl3
  go_enter Tryz.func64, Tryz.ntmps64
  go_upto_region 1 with fail
  rw [HW.out]
  clear HW
  go_wp2_with fail
  refine HCL.out.mono ?_
  rintro en w1 ⟨sv, rfl, hown, hb1⟩
  obtain ⟨hn, A1, c1, rfl, hnc, hcm, hAr⟩ := arrE_own hown
  have hz1 := hb1.size
  have kE1 := kE.below hb1 kE.lt
  have kR1 := kR.below hb1 kR.lt
  have x5 := kE1.cell 5
  have f5 := kE1.frozen 5
  obtain ⟨B1, hB1⟩ : ∃ n, w1.heap.size = n := ⟨_, rfl⟩
  have hsB : w.heap.size + 1 < B1 := by have := HS0.out; omega
  have HK2 : Hid (Blk (w1.setCell ⟨w.heap.size, 5, none⟩ (.slice A1 l.length c1)) w.heap.size 29 #[.string ⟨o.toArray⟩, .int .i64 v.k, .int .i64 v.i, .string ⟨v.s.toArray⟩, .string ⟨s.toArray⟩, .slice A1 l.length c1]) := kE1.set_ 5 _
  have hbu : But w.heap.size w1 (w1.setCell ⟨w.heap.size, 5, none⟩ (.slice A1 l.length c1)) := (But.refl _ _).set _ _
  have HR2 : Hid (Blk (w1.setCell ⟨w.heap.size, 5, none⟩ (.slice A1 l.length c1)) (w.heap.size + 1) 29 #[.string ⟨#[]⟩, .int .i64 0, .int .i64 0, .string ⟨#[]⟩, .string ⟨#[]⟩, .slice none 0 0]) := hbu.blk kR1 (by omega)
  have HA2 : Hid (0 < l.length → ∃ g, A1 = some ⟨g, 0, none⟩ ∧ w0.heap.size ≤ g ∧ g < B1 ∧ ArrE (w1.setCell ⟨w.heap.size, 5, none⟩ (.slice A1 l.length c1)) g 29 rs) := fun h0 => by
    obtain ⟨g, e1, e2, e3, e4⟩ := hAr h0
    exact ⟨g, e1, e2, by omega, e4.but hbu (by have := HS0.out; omega)⟩
  have HP2 : Hid (rs.map ExC.e = l ∧ PartsAt w B1 0 rs (w1.setCell ⟨w.heap.size, 5, none⟩ (.slice A1 l.length c1))) := ⟨HRS.out, fun i r hr => ⟨fun h => absurd h (by omega), fun _ => (HRE.out r (List.mem_of_getElem? hr)).keep fun b hb => ⟨hb, fun o' => by
    have hb' : b < w.heap.size := hb
    exact ((hbu.cell (by omega) (by omega) o').trans (hb1.cell (p := ⟨b, o', none⟩) (show b < w0.heap.size by have := HS0.out; omega))).trans (HB0.out.cell (p := ⟨b, o', none⟩) hb')⟩⟩⟩
  have HBW : Hid (Below w.heap.size w (w1.setCell ⟨w.heap.size, 5, none⟩ (.slice A1 l.length c1))) := But.inside (HB0.out.trans (hb1.mono HB0.out.size)) (Nat.le_refl _) hbu
  have hz2 : B1 ≤ (w1.setCell ⟨w.heap.size, 5, none⟩ (.slice A1 l.length c1)).heap.size := by have := hbu.size; omega
  have HZ2 := Lib.hid hz2
  have HNC : Hid (l.length ≤ c1 ∧ c1 ≤ maxLen) := ⟨hnc, hcm⟩
  have hl63 : l.length ≤ 1000 := by have := HL3.out; omega
  have HRL : Hid (rs.length = l.length) := hn
  clear q0 q1 q2 q3 q4 q5 kE kR kE1 kR1 hown hAr hbu hn hnc hcm hb1 hz1 HCL hz2 hB1
  go_wp2_with fail
  go_loopw [11] (fun iv wr => ∃ (k : Nat) (rs : List ExC), k ≤ l.length ∧ iv = .int .i64 k ∧ Hid (rs.map ExC.e = l ∧ PartsAt w B1 k rs wr) ∧ Blk wr w.heap.size 29 #[.string ⟨o.toArray⟩, .int .i64 v.k, .int .i64 v.i, .string ⟨v.s.toArray⟩, .string ⟨s.toArray⟩, .slice A1 l.length c1] ∧ Blk wr (w.heap.size + 1) 29 #[.string ⟨#[]⟩, .int .i64 0, .int .i64 0, .string ⟨#[]⟩, .string ⟨#[]⟩, .slice none 0 0] ∧ Hid (0 < l.length → ∃ g, A1 = some ⟨g, 0, none⟩ ∧ w0.heap.size ≤ g ∧ g < B1 ∧ ArrE wr g 29 rs) ∧ B1 ≤ wr.heap.size ∧ Below w.heap.size w wr) (fun iv _ => l.length - (intOf iv).toNat)
  case atStart => exact ⟨0, rs, by omega, by go_num, HP2.out, HK2.out, HR2.out, HA2.out, HZ2.out, HBW.out⟩
  case round =>
    obtain ⟨k, rs, hk, rfl, HP, kE, kR, HAR, hB1, hbw⟩ := hrel
    obtain ⟨wk, rfl⟩ : ∃ wk : World, wk = wr := ⟨_, rfl⟩
    by_cases hlt : k < l.length
    · obtain ⟨g, hg0, hg1, hg2, hgA⟩ := HAR.out (by omega)
      have hrl : rs.length = l.length := by have := HP.out.1; rw [← this, List.length_map]
      obtain ⟨r, hr⟩ : ∃ r, rs[k]? = some r := ⟨_, List.getElem?_eq_getElem (by omega)⟩
      have hre : r.e ∈ l := by rw [← HP.out.1]; exact List.mem_map_of_mem (List.mem_of_getElem? hr)
      have hrq := (HP.out.2 k r hr).2 (Nat.le_refl _)
      have HCALL : Hid (∀ Z : World, Below wk.heap.size wk Z → Calls Tryz.prog 64 #[.agg #[.string ⟨r.e.op.toArray⟩, .int .i64 r.e.v.k, .int .i64 r.e.v.i, .string ⟨r.e.v.s.toArray⟩, .string ⟨r.e.s.toArray⟩, .slice r.A r.e.l.length r.c]] Z (RetFewX r.e Z)) := fun Z hz =>
        have hk := (hrq.keep (Q' := Old Z.heap.size) (w' := Z) fun b hb => ⟨by have hb' : b < w.heap.size := hb; have := hz.size; show b < _; omega, fun o' => hz.cell (p := ⟨b, o', none⟩) (by have hb' : b < w.heap.size := hb; show b < _; omega)⟩)
        HIH.out r.e hre r.A r.c Z hk.1 hk.2.2.2
      have HSH : Hid (∀ Z : World, Below wk.heap.size wk Z → Z.cell? ⟨w.heap.size, 5, none⟩ = some (.slice (some ⟨g, 0, none⟩) l.length c1) ∧ Z.cell? ⟨g, k * 6, none⟩ = some (.string ⟨r.e.op.toArray⟩) ∧ Z.cell? ⟨g, k * 6 + 1, none⟩ = some (.int .i64 r.e.v.k) ∧ Z.cell? ⟨g, k * 6 + 2, none⟩ = some (.int .i64 r.e.v.i) ∧ Z.cell? ⟨g, k * 6 + 3, none⟩ = some (.string ⟨r.e.v.s.toArray⟩) ∧ Z.cell? ⟨g, k * 6 + 4, none⟩ = some (.string ⟨r.e.s.toArray⟩) ∧ Z.cell? ⟨g, k * 6 + 5, none⟩ = some (.slice r.A r.e.l.length r.c)) := fun Z hz =>
        ⟨by rw [← hg0]; exact (kE.below hz kE.lt).cell 5, (hgA.below hz hgA.lt).six hr⟩
      have HFZ : Hid (∀ Z : World, Below wk.heap.size wk Z → ∀ i, Z.frozen? ⟨g, i, none⟩ = false) := fun Z hz i => (hgA.below hz hgA.lt).frozen i
      have HFIN : Hid (∀ (w8 : World) (Z0 : Nat) (A' : Option Addr) (c' : Nat), Below wk.heap.size wk w8 → wk.heap.size ≤ Z0 → ExR (fun b => Z0 ≤ b ∧ b < w8.heap.size) r.e A' c' w8 → ∃ rs' : List ExC, ∀ W : World, W = ((((((w8.setCell ⟨g, k * 6, none⟩ (.string ⟨r.e.op.toArray⟩)).setCell ⟨g, k * 6 + 1, none⟩ (.int .i64 r.e.v.k)).setCell ⟨g, k * 6 + 2, none⟩ (.int .i64 r.e.v.i)).setCell ⟨g, k * 6 + 3, none⟩ (.string ⟨r.e.v.s.toArray⟩)).setCell ⟨g, k * 6 + 4, none⟩ (.string ⟨r.e.s.toArray⟩)).setCell ⟨g, k * 6 + 5, none⟩ (.slice A' r.e.l.length c')) →
          Hid (rs'.map ExC.e = l ∧ PartsAt w B1 (k + 1) rs' W) ∧ Blk W w.heap.size 29 #[.string ⟨o.toArray⟩, .int .i64 v.k, .int .i64 v.i, .string ⟨v.s.toArray⟩, .string ⟨s.toArray⟩, .slice A1 l.length c1] ∧ Blk W (w.heap.size + 1) 29 #[.string ⟨#[]⟩, .int .i64 0, .int .i64 0, .string ⟨#[]⟩, .string ⟨#[]⟩, .slice none 0 0] ∧ Hid (0 < l.length → ∃ g, A1 = some ⟨g, 0, none⟩ ∧ w0.heap.size ≤ g ∧ g < B1 ∧ ArrE W g 29 rs') ∧ B1 ≤ W.heap.size ∧ Below w.heap.size w W) := fun w8 Z0 A' c' h8 hZ hE8 => by
        refine ⟨rs.set k ⟨r.e, A', c'⟩, fun W hW => ?_⟩
        have hbut : But g w8 W := by rw [hW]; exact but_six
        have hAW : ArrE W g 29 (rs.set k ⟨r.e, A', c'⟩) := by rw [hW]; exact (hgA.below h8 hgA.lt).set (by omega) ⟨r.e, A', c'⟩ rfl
        have hs0 := HS0.out
        have hz8 := h8.size
        have hzW := hbut.size
        refine ⟨⟨?_, parts_step HP.out.2 hr h8 hbut hg2 (by omega) hB1 (by omega) hE8⟩, hbut.blk (kE.below h8 kE.lt) (by omega), hbut.blk (kR.below h8 kR.lt) (by omega), fun _ => ⟨g, hg0, hg1, hg2, hAW⟩, by omega, But.inside (hbw.trans (h8.mono hbw.size)) (by omega) hbut⟩
        rw [← HP.out.1]
        refine List.ext_getElem? fun i => ?_
        rw [List.getElem?_map, List.getElem?_map, List.getElem?_set]
        by_cases hik : k = i
        · subst hik
          rw [if_pos rfl, if_pos (by omega), hr]
          rfl
        · rw [if_neg hik]
      have HKE := Lib.hid kE
      have HKR := Lib.hid kR
      have x5 := (HSH.out wk (Below.refl _ _)).1
      have j1 : (0 : Int) ≤ (k : Int) := by omega
      have j2 : (k : Int) < (l.length : Int) := by omega
      have i1 : IntKind.i64.wrap ((k : Int) + 1) = (k : Int) + 1 := IntWalk.i64_in _ (by omega)
      have hbkk : Hid (Below w.heap.size w wk) := hbw
      have hzk := hB1
      subst hg0
      clear HP kE kR HAR hgA hrl hr hre hrq hbw hg1
      go_wp2_with fail
      refine wp_region_till [10] (fun Z => Z.cell? ⟨w.heap.size, 5, none⟩ = some (.slice (some ⟨g, 0, none⟩) l.length c1) ∧ Z.cell? ⟨g, k * 6, none⟩ = some (.string ⟨r.e.op.toArray⟩) ∧ Z.cell? ⟨g, k * 6 + 1, none⟩ = some (.int .i64 r.e.v.k) ∧ Z.cell? ⟨g, k * 6 + 2, none⟩ = some (.int .i64 r.e.v.i) ∧ Z.cell? ⟨g, k * 6 + 3, none⟩ = some (.string ⟨r.e.v.s.toArray⟩) ∧ Z.cell? ⟨g, k * 6 + 4, none⟩ = some (.string ⟨r.e.s.toArray⟩) ∧ Z.cell? ⟨g, k * 6 + 5, none⟩ = some (.slice r.A r.e.l.length r.c)) (by kernel_rfl) ?_ (fun hHeld => ?_)
      · try dsimp only
        exact HSH.out _ (by exact bl)
      refine wpAnyI_take (i := 0) (v := ?_) 10 [10] rfl (by decide) (by decide) (by decide) (by kernel_rfl) (by kernel_rfl) (by kernel_rfl) (by kernel_rfl) (by kernel_rfl) (fun _ _ _ h => h) (Or.inl ⟨by rfl, ?_⟩) (by assumption) ?_
      rotate_left
      · intro wq hSw
        try dsimp only at hSw
        go_simp
        try with_reducible rfl
      try simp only [Act.put, List.getElem_toArray, List.getElem_cons_zero, List.setIfInBounds_toArray, List.set_cons_zero, List.set_cons_succ]
      refine wpAnyI_take (i := 1) (v := ?_) 10 [10] rfl (by decide) (by decide) (by decide) (by kernel_rfl) (by kernel_rfl) (by kernel_rfl) (by kernel_rfl) (by kernel_rfl) (fun _ _ _ h => h) (Or.inl ⟨by rfl, ?_⟩) (by assumption) ?_
      rotate_left
      · intro wq hSw
        try dsimp only at hSw
        go_simp
        try with_reducible rfl
      try simp only [Act.put, List.getElem_toArray, List.getElem_cons_zero, List.getElem_cons_succ, List.setIfInBounds_toArray, List.set_cons_zero, List.set_cons_succ]
      refine wpAnyI_take (i := 2) (v := ?_) 10 [10] rfl (by decide) (by decide) (by decide) (by kernel_rfl) (by kernel_rfl) (by kernel_rfl) (by kernel_rfl) (by kernel_rfl) (fun _ _ _ h => h) (Or.inl ⟨by rfl, ?_⟩) (by assumption) ?_
      rotate_left
      · intro wq hSw
        try dsimp only at hSw
        go_simp
        try with_reducible rfl
      try simp only [Act.put, List.getElem_toArray, List.getElem_cons_zero, List.getElem_cons_succ, List.setIfInBounds_toArray, List.set_cons_zero, List.set_cons_succ]
      refine wpAnyI_take (i := 3) (v := ?_) 10 [10] rfl (by decide) (by decide) (by decide) (by kernel_rfl) (by kernel_rfl) (by kernel_rfl) (by kernel_rfl) (by kernel_rfl) (fun _ _ _ h => h) (Or.inl ⟨by rfl, ?_⟩) (by assumption) ?_
      rotate_left
      · intro wq hSw
        try dsimp only at hSw
        go_simp
        try with_reducible rfl
      try simp only [Act.put, List.getElem_toArray, List.getElem_cons_zero, List.getElem_cons_succ, List.setIfInBounds_toArray, List.set_cons_zero, List.set_cons_succ]
      refine wpAnyI_take (i := 4) (v := ?_) 10 [10] rfl (by decide) (by decide) (by decide) (by kernel_rfl) (by kernel_rfl) (by kernel_rfl) (by kernel_rfl) (by kernel_rfl) (fun _ _ _ h => h) (Or.inl ⟨by rfl, ?_⟩) (by assumption) ?_
      rotate_left
      · intro wq hSw
        try dsimp only at hSw
        go_simp
        try with_reducible rfl
      try simp only [Act.put, List.getElem_toArray, List.getElem_cons_zero, List.getElem_cons_succ, List.setIfInBounds_toArray, List.set_cons_zero, List.set_cons_succ]
      refine wpAnyI_take (i := 5) (v := ?_) 10 [10] rfl (by decide) (by decide) (by decide) (by kernel_rfl) (by kernel_rfl) (by kernel_rfl) (by kernel_rfl) (by kernel_rfl) (fun _ _ _ h => h) (Or.inl ⟨by rfl, ?_⟩) (by assumption) ?_
      rotate_left
      · intro wq hSw
        try dsimp only at hSw
        go_simp
        try with_reducible rfl
      try simp only [Act.put, List.getElem_toArray, List.getElem_cons_zero, List.getElem_cons_succ, List.setIfInBounds_toArray, List.set_cons_zero, List.set_cons_succ]
      refine wpAnyI_take (i := 6) (v := ?_) 10 [10] rfl (by decide) (by decide) (by decide) (by kernel_rfl) (by kernel_rfl) (by kernel_rfl) (by kernel_rfl) (by kernel_rfl) (fun _ _ _ h => h) (Or.inl ⟨by rfl, ?_⟩) (by assumption) ?_
      rotate_left
      · intro wq hSw
        try dsimp only at hSw
        go_simp
        try with_reducible rfl
      try simp only [Act.put, List.getElem_toArray, List.getElem_cons_zero, List.getElem_cons_succ, List.setIfInBounds_toArray, List.set_cons_zero, List.set_cons_succ]
      refine wpAnyI_take (i := 7) (v := ?_) 10 [10] rfl (by decide) (by decide) (by decide) (by kernel_rfl) (by kernel_rfl) (by kernel_rfl) (by kernel_rfl) (by kernel_rfl) (fun _ _ _ h => h) (Or.inl ⟨by rfl, ?_⟩) (by assumption) ?_
      rotate_left
      · intro wq hSw
        try dsimp only at hSw
        go_simp
        try with_reducible rfl
      try simp only [Act.put, List.getElem_toArray, List.getElem_cons_zero, List.getElem_cons_succ, List.setIfInBounds_toArray, List.set_cons_zero, List.set_cons_succ]
      refine wpAnyI_ready (rs := [8]) (by kernel_rfl) (by simp) ?_
      refine AllReadyI.consT rfl (fun K hK => ?_) AllReadyI.nil
      go_simp
      (refine (HCALL.out _ (by exact bl)).mono ?_) <;> rintro en w8 ⟨A8, c8, rfl, hE8, hb8⟩ <;> have hz8 := hb8.size <;> (try simp at hz8) <;> dsimp only [Ex.cells] <;> have hfz := HFZ.out w8 (by exact bl)
      go_wp2_with fail
      refine hK.out _ _ ?_ (fun hHeld => ?_)
      · try dsimp only
        exact HSH.out _ (by exact bl)
      clear hK K
      try simp only [Act.put, List.getElem_toArray, List.getElem_cons_zero, List.getElem_cons_succ, List.setIfInBounds_toArray, List.set_cons_zero, List.set_cons_succ]
      refine wpAnyI_take (i := 9) (v := ?_) 10 [10] rfl (by decide) (by decide) (by decide) (by kernel_rfl) (by kernel_rfl) (by kernel_rfl) (by kernel_rfl) (by kernel_rfl) (fun _ _ _ h => h) (Or.inl ⟨by rfl, ?_⟩) (by assumption) ?_
      rotate_left
      · intro wq hSw
        try dsimp only at hSw
        go_simp
        try with_reducible rfl
      try simp only [Act.put, List.getElem_toArray, List.getElem_cons_zero, List.getElem_cons_succ, List.setIfInBounds_toArray, List.set_cons_zero, List.set_cons_succ]
      refine wpAnyI_ready (rs := [10]) (by kernel_rfl) (by simp) ?_
      refine AllReadyI.consD rfl (by decide) (fun K hK => ?_) AllReadyI.nil
      (obtain ⟨y0, y1, y2, y3, y4, y5, y6⟩ := hHeld)
      go_simp
      go_wp2_with fail
      refine hK.out _ _ ?_
      clear hK K
      try simp only [Act.put, List.getElem_toArray, List.getElem_cons_zero, List.getElem_cons_succ, List.setIfInBounds_toArray, List.set_cons_zero, List.set_cons_succ]
      refine wpAnyI_done (by kernel_rfl) ?_ _
      obtain ⟨rs9, hfin9⟩ := HFIN.out w8 _ A8 c8 (by exact bl) (by first | (simp; done) | (simp; omega) | omega) hE8
      have HF9 := Lib.hid hfin9
      clear hfin9 HFIN hE8 HCALL HSH
      go_wp2_with fail
      go_roundw
      case rel =>
        obtain ⟨z1, z2, z3, z4, z5, z6⟩ := HF9.out _ rfl
        exact ⟨k + 1, rs9, by omega, by go_num, z1.out, z2, z3, z4.out, z5, z6⟩
      case measure => simp [intOf]; omega
    · obtain rfl : k = l.length := by omega
      have HKE := Lib.hid kE
      have HKR := Lib.hid kR
      obtain ⟨q0, q1, q2, q3, q4, q5⟩ : _ ∧ _ ∧ _ ∧ _ ∧ _ ∧ _ := ⟨kE.cell 0, kE.cell 1, kE.cell 2, kE.cell 3, kE.cell 4, kE.cell 5⟩
      obtain ⟨p0, p1, p2, p3, p4, p5⟩ : _ ∧ _ ∧ _ ∧ _ ∧ _ ∧ _ := ⟨kR.cell 0, kR.cell 1, kR.cell 2, kR.cell 3, kR.cell 4, kR.cell 5⟩
      have hfz := fun i => kR.frozen i
      have HFIN : Hid (∀ W : World, But (w.heap.size + 1) wk W → RetFewX (.mk o v s l) w (.returned (.agg #[.string ⟨o.toArray⟩, .int .i64 v.k, .int .i64 v.i, .string ⟨v.s.toArray⟩, .string ⟨s.toArray⟩, .slice A1 l.length c1])) W) := fun W hW => by
        refine ⟨A1, c1, rfl, ⟨HFIT.out, HNC.out.1, HNC.out.2, copied_fin (w := w) (B := B1) (n := l.length) (ty := 29) (rs := rs) hW hsB (by omega) HP.out.1 HP.out.2 (Nat.le_refl _) (fun h0 => ?_)⟩, But.inside hbw (by omega) hW⟩
        obtain ⟨g, e1, e2, e3, e4⟩ := HAR.out h0
        have := HS0.out
        exact ⟨g, e1, by omega, by omega, e3, e4⟩
      have ne1 : ¬ (w.heap.size = w.heap.size + 1) := by omega
      clear HP kE kR HAR hbw hB1
      go_wp2_with fail
      refine bodyPost_ret (v := .agg #[.string ⟨o.toArray⟩, .int .i64 v.k, .int .i64 v.i, .string ⟨v.s.toArray⟩, .string ⟨s.toArray⟩, .slice A1 l.length c1]) (by simp [results, Tryz.results64, go_sem, *]) rfl (HFIN.out _ ?_)
      exact ((((((But.refl _ _).set _ _).set _ _).set _ _).set _ _).set _ _).set _ _

end Go.Proofs.YtdhjogmkhbpcgaaGreat
