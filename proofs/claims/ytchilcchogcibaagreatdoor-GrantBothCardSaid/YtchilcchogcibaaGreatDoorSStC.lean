/- slices.Clone at grants; The document's Without of grants as a plain function; stmt.creates, and the closures of creates and parts, as plain functions. -/
import Derived.Lib.SliceRun
import Derived.Deep.AppendLies
import Derived.Deep.CutBlock
import Derived.Deep.DeepCutAuto
import Derived.Test.YtchilcchogcibaaGreatDoorSGr6
import Derived.Test.YtchilcchogcibaaGreatDoorSMany
import Derived.Test.YtchilcchogcibaaGreatDoorSOpenS
import Derived.Test.YtchilcchogcibaaGreatDoorSStB
namespace Go.Proofs.YtchilcchogcibaaGreatDoor
open Go.RowKit
attribute [local go_sem] ByteArray.extract_mk ba_get
attribute [local go_sem ↓] Go.wp_at_zero Go.wp_at_succ
theorem run_nil_grs (A : Option Addr) (n c : Nat) (w : World) : (binOp .eql 22 (.slice A n c) (.slice none 0 0)).run Tryz.prog w = .ok (.bool A.isNone) w := Lib.run_eql_slice_nil w _ _ A n c 0 0 Tryz.underlying22
theorem info_grs : (Tryz.prog.info? 54).map (fun i => (i.zero, i.size, i.bytes)) = some (some (.agg #[.string ⟨#[]⟩, .string ⟨#[]⟩, .bool false]), 3, 40) := by kernel_rfl
attribute [local go_sem ↓] run_nil_grs
set_option maxHeartbeats 1000000 in
theorem clone_grs (A : Option Addr) (c n : Nat) (cs : List Value) (w : World) (hl : n ≤ 1000000) (h : Reads w w.heap.size 3 A n cs) (h1 : ∀ u ∈ cs, u.oneCell' = true) :
  Calls Tryz.prog 40 #[.slice A n c] w (RetOwn 54 3 n cs w) := by
 obtain ⟨i0, hi0, zi0, zi1, zi2⟩ := info_parts info_grs
 rcases A with _ | a
 ·have e : n = 0 := by
   rcases Nat.eq_zero_or_pos n with h0 | h0
   ·exact h0
   ·obtain ⟨ad, he, _⟩ := h.2 h0; cases he
  have hn : cs = [] := List.eq_nil_of_length_eq_zero (by have := h.1; rw [e] at this; simpa using this)
  have HE := Lib.hid e
  have HN := Lib.hid hn
  clear e hn h h1
  go_enter Tryz.func40, Tryz.ntmps40
  go_wp2
  go_ret
  exact ⟨_, rfl, by rw [HE.out, HN.out]; exact World.ownsRow_nil _ _ _ _, Below.refl _ _⟩
 ·have hown0 : (w.alloc (.cells #[] 54)).ownsRow w.heap.size 54 3 (.slice (some ⟨w.heap.size, 0, none⟩) 0 0) 0 [] := World.ownsRow_made w #[] 0 (Nat.le_refl _) (Nat.zero_le _) rfl
  have hba : Below w.heap.size w (w.alloc (.cells #[] 54)) := (Below.refl _ _).alloc (Nat.le_refl _) _
  have hva : Reads (w.alloc (.cells #[] 54)) w.heap.size 3 (some a) n cs := ⟨h.1, fun h0 => by
   obtain ⟨ad, e1, e2, e3⟩ := h.2 h0
   exact ⟨ad, e1, e2, fun j u hu => (hba.cell (p := ad.add j) (by rw [World.addr_add_block]; exact e2)).trans (e3 j u hu)⟩⟩
  have HV := Lib.hid hva
  have H1 := Lib.hid h1
  clear hva h h1
  go_enter Tryz.func40, Tryz.ntmps40
  go_wp2_with (at_builtin; refine wpList_append_any _ rfl (.tmp 5) (.tmp 6) 22 rfl w.heap.size 54 i0 _ 3 40 Tryz.underlying22 hi0 zi0 zi1 zi2 rfl (by decide) _ _ _ rfl hown0 w.heap.size (some a) n c _ rfl HV.out H1.out ?c1 ?c2 ?c3 ?_)
  case c1 => unfold maxLen; omega
  case c2 => omega
  case c3 => simp
  intro v5 w5 hown5 hg5 hat5
  have hb5 : Below w.heap.size w w5 := hba.grown hg5 (by simp) (by simp [Value.ownBlock])
  have HO : Hid (w5.ownsRow w.heap.size 54 3 v5 n cs) := by first | exact hown5 | (simp only [Nat.zero_add, List.nil_append] at hown5; exact hown5) | (have := hown5; simp at this; exact this)
  clear hown5 hg5 hat5
  go_wp2
  go_ret
  exact ⟨_, rfl, HO.out, hb5⟩
/-- A grant's cells. -/
def Gr.cells (g : Gr) : List Value := [.string ⟨g.r.toArray⟩, .string ⟨g.t.toArray⟩, .bool g.w]
def gcs (l : List Gr) : List Value := l.flatMap Gr.cells
theorem gcs_len (l : List Gr) : (gcs l).length = l.length * 3 := by
 induction l with
 | nil => rfl
 | cons x r ih => unfold gcs at *; rw [List.flatMap_cons, List.length_append, ih, List.length_cons]; simp [Gr.cells]; omega
theorem gcs_app (a b : List Gr) : gcs (a ++ b) = gcs a ++ gcs b := by unfold gcs; simp
theorem gcs_at : ∀ (l : List Gr) (i j : Nat) (v : Gr), l[i]? = some v → j < 3 → (gcs l)[i * 3 + j]? = v.cells[j]? := by
 intro l
 induction l with
 | nil => intro i j v h; simp at h
 | cons x r ih =>
  intro i j v h hj
  unfold gcs at *
  cases i with
  | zero =>
   simp at h; subst h
   rw [List.flatMap_cons, List.getElem?_append_left (by simp [Gr.cells]; omega)]
   simp
  | succ i =>
   rw [List.flatMap_cons, List.getElem?_append_right (by simp [Gr.cells]; omega)]
   have e : (i + 1) * 3 + j - x.cells.length = i * 3 + j := by simp [Gr.cells]; omega
   rw [e]
   exact ih i j v (by simpa using h) hj
theorem gcs_one (l : List Gr) : ∀ u ∈ gcs l, u.oneCell' = true := by
 intro u hu
 unfold gcs at hu
 rw [List.mem_flatMap] at hu
 obtain ⟨x, _, h⟩ := hu
 simp only [Gr.cells, List.mem_cons, List.not_mem_nil, or_false] at h
 rcases h with rfl | rfl | rfl <;> rfl
theorem GQ.reads {l : List Gr} {A : Option Addr} {w : World} (h : GQ l A (Old w.heap.size) w) : Reads w w.heap.size 3 A l.length (gcs l) := by
 refine ⟨gcs_len l, fun hn => ?_⟩
 obtain ⟨b, off, rfl, hb, hr⟩ := h hn
 refine ⟨⟨b, off, none⟩, rfl, hb, fun j u hu => ?_⟩
 have hj : j < (gcs l).length := (List.getElem?_eq_some_iff.1 hu).1
 rw [gcs_len] at hj
 obtain ⟨i, k, hk, rfl⟩ : ∃ i k, k < 3 ∧ j = i * 3 + k := ⟨j / 3, j % 3, Nat.mod_lt _ (by omega), by omega⟩
 have hi : i < l.length := by omega
 rw [gcs_at l i k l[i] (List.getElem?_eq_getElem hi) hk] at hu
 obtain ⟨c0, c1, c2⟩ := hr i l[i] (List.getElem?_eq_getElem hi)
 rw [add_mid]
 match k, hk with
 | 0, _ => simp [Gr.cells] at hu; subst hu; exact c0
 | 1, _ => simp [Gr.cells] at hu; subst hu; rw [← Nat.add_assoc]; exact c1
 | 2, _ => simp [Gr.cells] at hu; subst hu; rw [← Nat.add_assoc]; exact c2
/-- A row of grants of the call's own. -/
theorem GQ.own {w : World} {base : Nat} {e : TypeId} {sv : Value} {n : Nat} {l : List Gr} (h : w.ownsRow base e 3 sv n (gcs l)) :
  ∃ A c, sv = .slice A l.length c ∧ l.length ≤ c ∧ c ≤ maxLen ∧ GQ l A (fun b => base ≤ b ∧ b < w.heap.size) w := by
 have hn : l.length = n := by have := h.1; rw [gcs_len] at this; omega
 rcases h.2 with ⟨rfl, h0⟩ | ⟨g, cap, cur, rfl, hb, hg, hnc, hcm, hcs, htk⟩
 ·exact ⟨none, 0, by rw [hn, h0], by omega, Nat.zero_le _, fun hl => absurd hl (by omega)⟩
 ·refine ⟨some ⟨g, 0, none⟩, cap, by rw [hn], by omega, hcm, fun _ => ⟨g, 0, rfl, ⟨hb, (Array.getElem?_eq_some_iff.1 hg).1⟩, fun i v hv => ?_⟩⟩
  have hc := h.cells (g := g) rfl
  have key : ∀ j u, j < 3 → v.cells[j]? = some u → w.cell? ⟨g, 0 + i * 3 + j, none⟩ = some u := by
   intro j u hj hu
   have := hc (i * 3 + j) u (by rw [gcs_at l i j v hv hj]; exact hu)
   rw [add_mid] at this
   rw [Nat.add_assoc]
   exact this
  exact ⟨key 0 _ (by omega) rfl, key 1 _ (by omega) rfl, key 2 _ (by omega) rfl⟩
end Go.Proofs.YtchilcchogcibaaGreatDoor
namespace Go.Proofs.YtchilcchogcibaaGreatDoor
open Go.RowKit
attribute [local go_sem] ByteArray.extract_mk ba_get ba_append
attribute [local go_sem ↓] Go.wp_at_zero Go.wp_at_succ run_eql_G
/-- Grants in a slice of the call's own. -/
def RetGs (l : List Gr) (w : World) (en : Ending) (w' : World) : Prop := ∃ sv, en = .returned sv ∧ w'.ownsRow w.heap.size 54 3 sv l.length (gcs l) ∧ Below w.heap.size w w'
theorem gcs_snoc (l : List Gr) (x : Gr) : gcs (l ++ [x]) = gcs l ++ [.string ⟨x.r.toArray⟩, .string ⟨x.t.toArray⟩, .bool x.w] := by rw [gcs_app]; rfl
theorem infoGr : (Tryz.prog.info? 54).map (fun i => (i.zero, i.size, i.bytes)) = some (some (.agg #[.string ⟨#[]⟩, .string ⟨#[]⟩, .bool false]), 3, 40) := by kernel_rfl
def withoutG (l : List Gr) (t : List UInt8) : List Gr := l.filter fun x => !(x.t == t)
set_option maxRecDepth 100000 in
set_option maxHeartbeats 4000000 in
theorem rwithout_any (A : Option Addr) (c : Nat) (l : List Gr) (t : List UInt8) (w : World) (hl : l.length ≤ 1000000) (h : GQ l A (Old w.heap.size) w) :
  Calls Tryz.prog 24 #[.slice A l.length c, .string ⟨t.toArray⟩] w (RetGs (withoutG l t) w) := by
 obtain ⟨i0, hi0, zi0, zi1, zi2⟩ := info_parts infoGr
 obtain ⟨N, hN⟩ : ∃ N, l.length = N := ⟨_, rfl⟩
 have HL := Lib.hid hN
 obtain ⟨R, hR⟩ : ∃ R, withoutG l t = R := ⟨_, rfl⟩
 rw [hR]
 have HR := Lib.hid hR
 have HQ : Hid (∀ Z : World, Below w.heap.size w Z → GQ l A (Old w.heap.size) Z) := fun Z hz => h.keep fun b hb => ⟨hb, fun o => hz.cell (p := ⟨b, o, none⟩) hb⟩
 rw [hN] at hl ⊢
 clear hN hR h
 go_enter Tryz.func24, Tryz.ntmps24
 go_wp2_with fail
 go_loopw [5, 6] (fun s5' i wr => ∃ (s5 : Value) (j M : Nat) (L : List Gr), s5 = s5' ∧ j ≤ N ∧ M ≤ j ∧ i = .int .i64 j ∧ Hid (M = L.length) ∧ Hid (withoutG (l.take j) t = L) ∧ wr.ownsRow w.heap.size 54 3 s5 M (gcs L) ∧ Below w.heap.size w wr) (fun _ i _ => N - (intOf i).toNat)
 case atStart => exact ⟨_, 0, 0, [], rfl, by omega, by omega, rfl, rfl, rfl, World.ownsRow_nil _ _ _ _, Below.refl _ _⟩
 case round =>
  obtain ⟨s5, j, M, L, rfl, hj, hM, rfl, HM, HJ, hown, hbw⟩ := hrel
  obtain ⟨W, rfl⟩ : ∃ W, W = wr := ⟨_, rfl⟩
  have hzw := hbw.size
  by_cases hlt : j < N
  ·obtain ⟨b, off, x, rfl, hbB, hv, c0, c1, c2⟩ := (HQ.out _ hbw).at_ (j := j) (by rw [HL.out]; exact hlt)
   have lb : b < W.heap.size := by have : b < w.heap.size := hbB; omega
   have HT : Hid (withoutG (l.take (j + 1)) t = if x.t == t then L else L ++ [x]) := by
    show _ = _
    unfold withoutG
    rw [List.take_add_one, hv, List.filter_append]
    have := HJ.out
    unfold withoutG at this
    rw [this]
    by_cases hq : x.t = t <;> simp [hq]
   have g10 : (0 : Int) ≤ (j : Int) := by omega
   have g11 : (j : Int) < (N : Int) := by omega
   clear hv
   by_cases hx : x.t = t
   ·have e1 : (x.t == t) = true := by simpa using hx
    have HT2 : Hid (withoutG (l.take (j + 1)) t = L) := by have := HT.out; rw [if_pos e1] at this; exact this
    have HO := Lib.hid hown
    clear HT HJ hown
    subst hx
    go_wp2_with fail
    go_roundw
    case rel => exact ⟨_, j + 1, M, L, rfl, by omega, by omega, by go_num, HM, HT2, HO.out, hbw⟩
    case measure => simp [intOf]; omega
   ·have e1 : (x.t == t) = false := by simpa using hx
    have HT2 : Hid (withoutG (l.take (j + 1)) t = L ++ [x]) := by have := HT.out; rw [if_neg (by rw [e1]; simp)] at this; exact this
    have HOL := Lib.hid hown.lt
    have HOW := Lib.hid (hown.alloc (.cells #[.string ⟨x.r.toArray⟩, .string ⟨x.t.toArray⟩, .bool x.w] 54))
    clear HT HJ hown
    go_wp2_with (at_builtin; refine wpList_append_own _ rfl _ _ 22 rfl w.heap.size 54 i0 _ 3 40 Tryz.underlying22 hi0 zi0 zi1 zi2 rfl (by decide) _ _ _ rfl HOW.out ⟨W.heap.size, 0, none⟩ 1 1 [.string ⟨x.r.toArray⟩, .string ⟨x.t.toArray⟩, .bool x.w] rfl rfl ?c1 ?c2 ?c3 ?c4 ?c5 ?_)
    case c1 => exact World.news_of_block (cs := #[.string ⟨x.r.toArray⟩, .string ⟨x.t.toArray⟩, .bool x.w]) (t := 54) (fr := (0, 0)) (heap_alloc_new W _)
    case c2 => intro u hu; simp at hu; rcases hu with rfl | rfl | rfl <;> rfl
    case c3 => unfold maxLen; omega
    case c4 => omega
    case c5 => simp; omega
    intro v' w2 hown2 hg2 _
    have hb2 : Below w.heap.size w w2 := (hbw.alloc hzw _).grown hg2 (by simp; omega) (fun k hk => (HOL.out k hk).1)
    have HO2 : Hid (w2.ownsRow w.heap.size 54 3 v' (M + 1) (gcs (L ++ [x]))) := by show World.ownsRow _ _ _ _ _ _ _; rw [gcs_snoc]; exact hown2
    clear hown2 hg2
    go_wp2_with fail
    go_roundw
    case rel => exact ⟨_, j + 1, M + 1, L ++ [x], rfl, by omega, by omega, by go_num, by show _ = _; rw [List.length_append, ← HM.out]; rfl, HT2, HO2.out, hb2⟩
    case measure => simp [intOf]; omega
  ·obtain rfl : j = N := by omega
   have HF : Hid (R = L) := by
    show _ = _
    have := HJ.out
    rw [← HL.out, List.take_length, HR.out] at this
    exact this
   have HO := Lib.hid hown
   have g11 : ¬ (j : Int) < (j : Int) := by omega
   clear HJ hlt hown
   go_wp2_with fail
   go_ret
   rw [HF.out]
   exact ⟨_, rfl, by have := HO.out; rw [HM.out] at this; exact this, hbw⟩
end Go.Proofs.YtchilcchogcibaaGreatDoor
namespace Go.Proofs.YtchilcchogcibaaGreatDoor
open Go.RowKit
attribute [local go_sem] ByteArray.extract_mk ba_get ba_append
attribute [local go_sem ↓] Go.wp_at_zero Go.wp_at_succ
/-- A statement's texts and lists are no longer than a thousand, and its numbers fit. -/
structure St.Ok (s : St) : Prop where
 op : s.op.length ≤ 1000
 tb : s.tb.length ≤ 1000
 ot : s.ot.length ≤ 1000
 key : s.key.length ≤ 1000
 role : s.role.length ≤ 1000
 nN : s.names.length ≤ 1000
 nC : s.cols.length ≤ 1000
 nU : s.uniq.length ≤ 1000
 nR : s.refs.length ≤ 1000
 nW : s.row.length ≤ 1000
 nS : s.sets.length ≤ 1000
 names : ∀ x ∈ s.names, x.length ≤ 1000
 cols : ∀ c ∈ s.cols, c.n.length ≤ 1000
 uniq : ∀ x ∈ s.uniq, x.length ≤ 1000
 refs : ∀ x ∈ s.refs, x.c.length ≤ 1000 ∧ x.t.length ≤ 1000
 chk : s.chk.fit 1000
 whr : s.whr.fit 1000
 row : ∀ v ∈ s.row, fitI v.i ∧ v.s.length ≤ 1000
 sets : ∀ x ∈ s.sets, x.n.length ≤ 1000 ∧ x.e.fit 1000
 num : fitS s
theorem name_at {s : List UInt8} {N : Bool} (h : nameG s = N) (hs : s.length ≤ 1000) (Y : World) : Calls Tryz.prog 74 #[.string ⟨s.toArray⟩] Y (Ret (.bool N) Y) := by
 have := nameSt_any s Y (by omega)
 rw [h] at this
 exact this
set_option maxHeartbeats 1000000 in
theorem colC_any (c : Col) (w : World) (hn : c.n.length ≤ 1000) : Calls Tryz.prog 130 #[.agg #[.string ⟨c.n.toArray⟩, .int .i64 c.t, .bool c.b]] w (Ret (.bool (colOkB c)) w) := by
 obtain ⟨n, t, b⟩ := c
 dsimp only at hn ⊢
 obtain ⟨w0, hw0⟩ : ∃ w0, w.alloc (.cells #[.string ⟨n.toArray⟩, .int .i64 t, .bool b] 96) = w0 := ⟨_, rfl⟩
 have kb0 : Blk w0 w.heap.size 96 #[.string ⟨n.toArray⟩, .int .i64 t, .bool b] := by rw [← hw0]; exact Blk.new _ _ _
 have hb0 : Below w.heap.size w w0 := by rw [← hw0]; exact bl
 have hz0 := hb0.size
 have HK : Hid (∀ Z : World, Below w0.heap.size w0 Z → ∀ i, Z.cell? ⟨w.heap.size, i, none⟩ = (#[.string ⟨n.toArray⟩, .int .i64 t, .bool b] : Array Value)[i]?) := fun Z hz i => (kb0.below hz kb0.lt).cell i
 have HW := Lib.hid hw0
 have HB := Lib.hid hb0
 clear hw0 kb0 hb0
 obtain ⟨R, hR⟩ : ∃ R, colOkB ⟨n, t, b⟩ = R := ⟨_, rfl⟩
 rw [hR]
 obtain ⟨N, hN⟩ : ∃ N, nameG n = N := ⟨_, rfl⟩
 have HN := Lib.hid (name_at hN hn w0)
 have hR2 : (N && (decide (1 ≤ t) && decide (t ≤ 3))) = R := by rw [← hR, ← hN]; unfold colOkB; rw [Bool.and_assoc]
 have HR := Lib.hid hR2
 clear hR hN hR2
 have k0 : w0.cell? ⟨w.heap.size, 0, none⟩ = some (.string ⟨n.toArray⟩) := HK.out w0 (Below.refl _ _) 0
 cases N with
 | false =>
  go_enter Tryz.func130, Tryz.ntmps130
  go_upto_region 1 with fail
  rw [HW.out]
  go_wp2_with fail
  refine HN.out.mono ?_
  rintro en w1 ⟨rfl, hb1⟩
  go_wp2_with fail
  go_ret
  exact ⟨by rw [← HR.out]; rfl, HB.out.trans (hb1.mono hz0)⟩
 | true =>
  by_cases h1 : 1 ≤ t
  ·go_enter Tryz.func130, Tryz.ntmps130
   go_upto_region 1 with fail
   rw [HW.out]
   go_wp2_with fail
   refine HN.out.mono ?_
   rintro en w1 ⟨rfl, hb1⟩
   have k1 : w1.cell? ⟨w.heap.size, 1, none⟩ = some (.int .i64 t) := HK.out w1 hb1 1
   go_wp2_with fail
   go_ret
   exact ⟨by rw [← HR.out, decide_eq_true h1]; rfl, HB.out.trans (hb1.mono hz0)⟩
  ·have HF : Hid (decide (1 ≤ t) = false) := decide_eq_false h1
   go_enter Tryz.func130, Tryz.ntmps130
   go_upto_region 1 with fail
   rw [HW.out]
   go_wp2_with fail
   refine HN.out.mono ?_
   rintro en w1 ⟨rfl, hb1⟩
   have k1 : w1.cell? ⟨w.heap.size, 1, none⟩ = some (.int .i64 t) := HK.out w1 hb1 1
   go_wp2_with fail
   go_ret
   exact ⟨by rw [← HR.out, HF.out]; rfl, HB.out.trans (hb1.mono hz0)⟩
set_option maxHeartbeats 1000000 in
theorem refC_any (c : Rf) (w : World) (hn : c.c.length ≤ 1000) (ht : c.t.length ≤ 1000) : Calls Tryz.prog 131 #[.agg #[.string ⟨c.c.toArray⟩, .string ⟨c.t.toArray⟩]] w (Ret (.bool (refOkB c)) w) := by
 obtain ⟨n, t⟩ := c
 dsimp only at hn ht ⊢
 obtain ⟨w0, hw0⟩ : ∃ w0, w.alloc (.cells #[.string ⟨n.toArray⟩, .string ⟨t.toArray⟩] 74) = w0 := ⟨_, rfl⟩
 have kb0 : Blk w0 w.heap.size 74 #[.string ⟨n.toArray⟩, .string ⟨t.toArray⟩] := by rw [← hw0]; exact Blk.new _ _ _
 have hb0 : Below w.heap.size w w0 := by rw [← hw0]; exact bl
 have hz0 := hb0.size
 have HK : Hid (∀ Z : World, Below w0.heap.size w0 Z → ∀ i, Z.cell? ⟨w.heap.size, i, none⟩ = (#[.string ⟨n.toArray⟩, .string ⟨t.toArray⟩] : Array Value)[i]?) := fun Z hz i => (kb0.below hz kb0.lt).cell i
 have HW := Lib.hid hw0
 have HB := Lib.hid hb0
 clear hw0 kb0 hb0
 obtain ⟨R, hR⟩ : ∃ R, refOkB ⟨n, t⟩ = R := ⟨_, rfl⟩
 rw [hR]
 obtain ⟨N, hN⟩ : ∃ N, nameG n = N := ⟨_, rfl⟩
 obtain ⟨N2, hN2⟩ : ∃ N, nameG t = N := ⟨_, rfl⟩
 have HN : Hid (∀ Y, Calls Tryz.prog 74 #[.string ⟨n.toArray⟩] Y (Ret (.bool N) Y)) := name_at hN hn
 have HN2 : Hid (∀ Y, Calls Tryz.prog 74 #[.string ⟨t.toArray⟩] Y (Ret (.bool N2) Y)) := name_at hN2 ht
 have hR2 : (N && N2) = R := by rw [← hR, ← hN, ← hN2]; rfl
 have HR := Lib.hid hR2
 clear hR hN hR2 hN2
 have k0 : w0.cell? ⟨w.heap.size, 0, none⟩ = some (.string ⟨n.toArray⟩) := HK.out w0 (Below.refl _ _) 0
 cases N with
 | false =>
  go_enter Tryz.func131, Tryz.ntmps131
  go_upto_region 1 with fail
  rw [HW.out]
  go_wp2_with fail
  refine (HN.out _).mono ?_
  rintro en w1 ⟨rfl, hb1⟩
  go_wp2_with fail
  go_ret
  exact ⟨by rw [← HR.out]; rfl, HB.out.trans (hb1.mono hz0)⟩
 | true =>
  go_enter Tryz.func131, Tryz.ntmps131
  go_upto_region 1 with fail
  rw [HW.out]
  go_wp2_with fail
  refine (HN.out _).mono ?_
  rintro en w1 ⟨rfl, hb1⟩
  have k1 : w1.cell? ⟨w.heap.size, 1, none⟩ = some (.string ⟨t.toArray⟩) := HK.out w1 hb1 1
  have hz1 := hb1.size
  go_wp2_with fail
  refine (HN2.out _).mono ?_
  rintro en w2 ⟨rfl, hb2⟩
  go_wp2_with fail
  go_ret
  exact ⟨by rw [← HR.out]; rfl, HB.out.trans ((hb1.trans (hb2.mono hz1)).mono hz0)⟩
set_option maxHeartbeats 1000000 in
theorem setC_any (x : Se) (A' : Option Addr) (c' m : Nat) (w : World) (hn : x.n.length ≤ 1000) (hf : x.e.fit 1000) (hE : ExS 1000 m w w.heap.size A' x.e.l) :
  Calls Tryz.prog 78 #[.agg #[.string ⟨x.n.toArray⟩, .string ⟨x.e.op.toArray⟩, .int .i64 x.e.v.k, .int .i64 x.e.v.i, .string ⟨x.e.v.s.toArray⟩, .string ⟨x.e.s.toArray⟩, .slice A' x.e.l.length c']] w (Ret (.bool (setOkB x)) w) := by
 obtain ⟨w0, hw0⟩ : ∃ w0, w.alloc (.cells #[.string ⟨x.n.toArray⟩, .string ⟨x.e.op.toArray⟩, .int .i64 x.e.v.k, .int .i64 x.e.v.i, .string ⟨x.e.v.s.toArray⟩, .string ⟨x.e.s.toArray⟩, .slice A' x.e.l.length c'] 76) = w0 := ⟨_, rfl⟩
 have kb0 : Blk w0 w.heap.size 76 #[.string ⟨x.n.toArray⟩, .string ⟨x.e.op.toArray⟩, .int .i64 x.e.v.k, .int .i64 x.e.v.i, .string ⟨x.e.v.s.toArray⟩, .string ⟨x.e.s.toArray⟩, .slice A' x.e.l.length c'] := by rw [← hw0]; exact Blk.new _ _ _
 have hb0 : Below w.heap.size w w0 := by rw [← hw0]; exact bl
 have hz0 := hb0.size
 have HK : Hid (∀ Z : World, Below w0.heap.size w0 Z → ∀ i, Z.cell? ⟨w.heap.size, i, none⟩ = (#[.string ⟨x.n.toArray⟩, .string ⟨x.e.op.toArray⟩, .int .i64 x.e.v.k, .int .i64 x.e.v.i, .string ⟨x.e.v.s.toArray⟩, .string ⟨x.e.s.toArray⟩, .slice A' x.e.l.length c'] : Array Value)[i]?) := fun Z hz i => (kb0.below hz kb0.lt).cell i
 have HW := Lib.hid hw0
 have HB := Lib.hid hb0
 clear hw0 kb0 hb0
 obtain ⟨R, hR⟩ : ∃ R, setOkB x = R := ⟨_, rfl⟩
 rw [hR]
 obtain ⟨N, hN⟩ : ∃ N, nameG x.n = N := ⟨_, rfl⟩
 obtain ⟨M, hM⟩ : ∃ M, mayX x.e = M := ⟨_, rfl⟩
 have HN : Hid (∀ Y, Calls Tryz.prog 74 #[.string ⟨x.n.toArray⟩] Y (Ret (.bool N) Y)) := name_at hN hn
 have HM : Hid (∀ Y, Below w0.heap.size w0 Y → Calls Tryz.prog 79 #[.agg #[.string ⟨x.e.op.toArray⟩, .int .i64 x.e.v.k, .int .i64 x.e.v.i, .string ⟨x.e.v.s.toArray⟩, .string ⟨x.e.s.toArray⟩, .slice A' x.e.l.length c']] Y (Ret (.bool M) Y)) := fun Y hY => by
  have := exmay_any x.e A' c' m Y hf ((hE.below m (HB.out.trans (hY.mono hz0))).more (Nat.le_trans hz0 hY.size) m)
  rw [hM] at this
  exact this
 have hR2 : (N && M) = R := by rw [← hR, ← hN, ← hM]; rfl
 have HR := Lib.hid hR2
 clear hR hN hR2 hM hE
 have k0 : w0.cell? ⟨w.heap.size, 0, none⟩ = some (.string ⟨x.n.toArray⟩) := HK.out w0 (Below.refl _ _) 0
 cases N with
 | false =>
  go_enter Tryz.func78, Tryz.ntmps78
  go_upto_region 1 with fail
  rw [HW.out]
  go_wp2_with fail
  refine (HN.out _).mono ?_
  rintro en w1 ⟨rfl, hb1⟩
  go_wp2_with fail
  go_ret
  exact ⟨by rw [← HR.out]; rfl, HB.out.trans (hb1.mono hz0)⟩
 | true =>
  go_enter Tryz.func78, Tryz.ntmps78
  go_upto_region 1 with fail
  rw [HW.out]
  go_wp2_with fail
  refine (HN.out _).mono ?_
  rintro en w1 ⟨rfl, hb1⟩
  have k1 : w1.cell? ⟨w.heap.size, 1, none⟩ = some (.string ⟨x.e.op.toArray⟩) := HK.out w1 hb1 1
  have k2 : w1.cell? ⟨w.heap.size, 2, none⟩ = some (.int .i64 x.e.v.k) := HK.out w1 hb1 2
  have k3 : w1.cell? ⟨w.heap.size, 3, none⟩ = some (.int .i64 x.e.v.i) := HK.out w1 hb1 3
  have k4 : w1.cell? ⟨w.heap.size, 4, none⟩ = some (.string ⟨x.e.v.s.toArray⟩) := HK.out w1 hb1 4
  have k5 : w1.cell? ⟨w.heap.size, 5, none⟩ = some (.string ⟨x.e.s.toArray⟩) := HK.out w1 hb1 5
  have k6 : w1.cell? ⟨w.heap.size, 6, none⟩ = some (.slice A' x.e.l.length c') := HK.out w1 hb1 6
  have hz1 := hb1.size
  have HX := Lib.hid (HM.out w1 hb1)
  go_wp2_with fail
  refine HX.out.mono ?_
  rintro en w2 ⟨rfl, hb2⟩
  go_wp2_with fail
  go_ret
  exact ⟨by rw [← HR.out]; rfl, HB.out.trans ((hb1.trans (hb2.mono hz1)).mono hz0)⟩
theorem manyW_any (A : Option Addr) (c : Nat) (l : List V) (lo hi : Int) (w : World) (hlo : 0 ≤ lo) (hhi : 0 ≤ hi) (hl : l.length ≤ 1000) (h : WQ l A (Old w.heap.size) w) :
  Calls Tryz.prog 76 #[.slice A l.length c, .int .i64 lo, .int .i64 hi, .func (.func 77) #[] #[]] w (Ret (.bool (manyB l lo.toNat hi.toNat (fun v => mayB v.k v.i v.s))) w) :=
 many_val A c l lo hi _ 77 (Go.Proofs.enters_of Tryz.func77 (by kernel_rfl) rfl) w hlo hhi (by omega) h (fun x _ Z _ _ => may_any x.k x.i x.s Z)
theorem manyN_any (A : Option Addr) (c : Nat) (l : List (List UInt8)) (lo hi : Int) (w : World) (hlo : 0 ≤ lo) (hhi : 0 ≤ hi) (hl : l.length ≤ 1000) (hs : ∀ x ∈ l, x.length ≤ 1000) (h : SQ l A (Old w.heap.size) w) :
  Calls Tryz.prog 82 #[.slice A l.length c, .int .i64 lo, .int .i64 hi, .func (.func 74) #[] #[]] w (Ret (.bool (manyB l lo.toNat hi.toNat nameG)) w) :=
 many_str A c l lo hi _ 74 (Go.Proofs.enters_of Tryz.func74 (by kernel_rfl) rfl) w hlo hhi (by omega) h (fun x hx Z _ _ => name_at rfl (hs x hx) Z)
theorem manyCol_any (A : Option Addr) (c : Nat) (l : List Col) (lo hi : Int) (w : World) (hlo : 0 ≤ lo) (hhi : 0 ≤ hi) (hl : l.length ≤ 1000) (hs : ∀ x ∈ l, x.n.length ≤ 1000) (h : CQ l A (Old w.heap.size) w) :
  Calls Tryz.prog 132 #[.slice A l.length c, .int .i64 lo, .int .i64 hi, .func (.func 130) #[] #[]] w (Ret (.bool (manyB l lo.toNat hi.toNat colOkB)) w) :=
 many_col A c l lo hi _ 130 (Go.Proofs.enters_of Tryz.func130 (by kernel_rfl) rfl) w hlo hhi (by omega) h (fun x hx Z _ _ => colC_any x Z (hs x hx))
theorem manyRef_any (A : Option Addr) (c : Nat) (l : List Rf) (lo hi : Int) (w : World) (hlo : 0 ≤ lo) (hhi : 0 ≤ hi) (hl : l.length ≤ 1000) (hs : ∀ x ∈ l, x.c.length ≤ 1000 ∧ x.t.length ≤ 1000) (h : XQ l A (Old w.heap.size) w) :
  Calls Tryz.prog 133 #[.slice A l.length c, .int .i64 lo, .int .i64 hi, .func (.func 131) #[] #[]] w (Ret (.bool (manyB l lo.toNat hi.toNat refOkB)) w) :=
 many_ref A c l lo hi _ 131 (Go.Proofs.enters_of Tryz.func131 (by kernel_rfl) rfl) w hlo hhi (by omega) h (fun x hx Z _ _ => refC_any x Z (hs x hx).1 (hs x hx).2)
theorem exq_s {K n : Nat} {w : World} {B : Nat} {A : Option Addr} {l : List Ex} (h : ExQ K n w (Old B) A l) (hB : B ≤ w.heap.size) : ExS K n w w.heap.size A l := h.toS (fun _ hb => Nat.lt_of_lt_of_le hb hB) n
theorem manySet_any (K n : Nat) (A : Option Addr) (c : Nat) (l : List Se) (lo hi : Int) (w : World) (hlo : 0 ≤ lo) (hhi : 0 ≤ hi) (hl : l.length ≤ 1000) (hs : ∀ x ∈ l, x.n.length ≤ 1000 ∧ x.e.fit 1000) (hK : K = 1000) (h : ZQ K n l A (Old w.heap.size) w) :
  Calls Tryz.prog 80 #[.slice A l.length c, .int .i64 lo, .int .i64 hi, .func (.func 78) #[] #[]] w (Ret (.bool (manyB l lo.toNat hi.toNat setOkB)) w) := by
 subst hK
 exact many_set A c l lo hi _ 78 (Go.Proofs.enters_of Tryz.func78 (by kernel_rfl) rfl) w hlo hhi (by omega) 1000 n h (fun x hx A' c' Z _ hex => setC_any x A' c' n Z (hs x hx).1 (hs x hx).2 (exq_s hex.2.2.2 (Nat.le_refl _)))
end Go.Proofs.YtchilcchogcibaaGreatDoor
