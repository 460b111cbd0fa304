/- How arguments of the laws are opened; How arguments of the laws are opened; Plain laws on writing tokens; Plain laws on cutting a text in pieces; Plain law; value.Parse as a plain function; lexer.Is, and the parser's take and taken, as plain functions; The document's tokens that may be, as a plain function; The frame from a walk to a given statement whose row lists variables of the library. -/
import Derived.Lib.ItoaNum
import Derived.Shelf.Strconv.ErrVarParseInt
import Derived.Lib.AtoiAllCases
import Derived.Lib.ParseIntBTie
import Derived.Shelf.Strconv.ParseIntPublic10
import Derived.Test.YtchilcchogcibaaGreatDoorCards
import Derived.Test.YtchilcchogcibaaGreatDoorTie
import Derived.Lay
import Derived.PinnedBridge
import Derived.SevenTiedAt
import Derived.HandedShaped
import Derived.Shelf.Vars
import Derived.Lib.LaidTab
import Derived.Test.YtchilcchogcibaaGreatDoorDCols
import Derived.Test.YtchilcchogcibaaGreatDoorDCut3
set_option maxRecDepth 100000
set_option maxHeartbeats 2000000
namespace Go.Proofs.YtchilcchogcibaaGreatDoor
open Go.ChangeShapes Go.WideShapes Go.ChangeAt Go.RowKit Go.Deep Go.Joins
theorem open_vals_t {H : Type} {enc : TypeId × Value → H} {W : World} {fuel : Nat} {cs : List Value} {x : DataW H × List MemPlace}
  (hf : DataW.trod enc Tryz.prog W 0 (fun _ => true) true fuel 31 cs = some x) :
  ∃ (A : Option Addr) (l : List V) (c : Nat), cs = [.slice A l.length c] ∧ l.length ≤ c ∧ c ≤ maxLen ∧ VS W W.heap.size A l ∧ ∀ x ∈ l, x.ok := by
 rcases open_slice_fields Tryz.underlying31 Tryz.underlying27 (by kernel_rfl) (by kernel_rfl) hf with ⟨hcs, _⟩ | ⟨a, len0, cap0, m, D, Pl, hcs, _, hl, hm, hmm, _, hi⟩
 ·exact ⟨none, [], 0, hcs, Nat.le_refl _, Nat.zero_le _, VS.nil, fun x hx => by simp at hx⟩
 ·simp only [if_true] at hmm
  have key : ∀ i, i < len0 → ∃ x : V, x.ok ∧ W.cell? (a.add (i * 3 + 0)) = some (.int .i64 x.k) ∧ W.cell? (a.add (i * 3 + 1)) = some (.int .i64 x.i) ∧ W.cell? (a.add (i * 3 + 2)) = some (.string ⟨x.s.toArray⟩) := by
   intro i hilt
   obtain ⟨ys, n, _, _, _, hfield⟩ := hi i (by omega)
   obtain ⟨c0, y0, hc0, _, t0⟩ := hfield 0 _ rfl
   obtain ⟨c1, y1, hc1, _, t1⟩ := hfield 1 _ rfl
   obtain ⟨c2, y2, hc2, _, t2⟩ := hfield 2 _ rfl
   obtain ⟨k, e0, _, w0⟩ := DataW.trod_int Tryz.underlying3 t0
   obtain ⟨j, e1, _, w1⟩ := DataW.trod_int Tryz.underlying2 t1
   obtain ⟨s, e2, _, w2⟩ := DataW.trod_string Tryz.underlying9 t2
   simp at e0 e1 e2
   subst e0 e1 e2
   refine ⟨⟨k, j, s.data.toList⟩, ⟨i64_bounds w0, i64_bounds w1, ?_⟩, hc0, hc1, hc2⟩
   have hsz : s.data.toList.length = s.size := by rw [Array.length_toList]; rfl
   show s.data.toList.length ≤ 9223372036854775807
   unfold maxLen at w2
   omega
  have key2 : ∃ f : Nat → V, ∀ i, i < len0 → (f i).ok ∧ W.cell? (a.add (i * 3 + 0)) = some (.int .i64 (f i).k) ∧ W.cell? (a.add (i * 3 + 1)) = some (.int .i64 (f i).i) ∧ W.cell? (a.add (i * 3 + 2)) = some (.string ⟨(f i).s.toArray⟩) := by
   refine ⟨fun i => if h : i < len0 then (key i h).choose else ⟨0, 0, []⟩, fun i h => ?_⟩
   simp only [h, dite_true]
   exact (key i h).choose_spec
  obtain ⟨f, hfk⟩ := key2
  refine ⟨some a, (List.range len0).map f, cap0, by simpa using hcs, by simpa using hl, hm, ?_, ?_⟩
  ·intro hpos
   have h0 := (hfk 0 (by simpa using hpos)).2.1
   have hspot : a.spot = none := by simpa [Addr.add] using World.cell?_spot h0
   obtain ⟨b, off, spot⟩ := a
   simp only at hspot
   subst hspot
   have hb : b < W.heap.size := by
    have := World.block_lt_of_cell? W _ h0
    simpa [add_mid] using this
   refine ⟨b, off, rfl, hb, fun i x hx => ?_⟩
   rw [List.getElem?_map] at hx
   by_cases hil : i < len0
   ·rw [List.getElem?_range hil] at hx
    simp at hx
    subst hx
    have hk := (hfk i hil).2
    rw [add_mid, add_mid, add_mid] at hk
    exact hk
   ·rw [List.getElem?_eq_none (by simpa using hil)] at hx
    simp at hx
  ·intro x hx
   simp only [List.mem_map, List.mem_range] at hx
   obtain ⟨i, hi', rfl⟩ := hx
   exact (hfk i hi').1
end Go.Proofs.YtchilcchogcibaaGreatDoor
namespace Go.Proofs.YtchilcchogcibaaGreatDoor
open Go.RowKit Go.ChangeShapes Go.WideShapes Go.ChangeAt
theorem open_str {H : Type} {enc : TypeId × Value → H} {W : World} {base : Nat} {v : Value} {d : DataW H} {p : List MemPlace}
  (hv : Value.okWide Tryz.prog W .any base 9 v) (h : DataW.Trod enc Tryz.prog W 0 (fun _ => true) true 9 v d p) :
  ∃ l : List UInt8, v = .string ⟨l.toArray⟩ ∧ l.length ≤ maxLen := by
 obtain ⟨s, rfl⟩ := okWide_string Tryz.underlying9 hv
 obtain ⟨fuel, hf⟩ := h
 obtain ⟨s', e2, _, w2⟩ := DataW.trod_string Tryz.underlying9 hf
 simp [Value.cells] at e2
 subst e2
 exact ⟨s.data.toList, rfl, by rw [Array.length_toList]; exact w2⟩
end Go.Proofs.YtchilcchogcibaaGreatDoor
namespace Go.Proofs.YtchilcchogcibaaGreatDoor
open Go.RowKit
def wrT (t : Tok) : List UInt8 := if t.k = 3 then textF 2 0 t.s else t.s
theorem indexByte_mem : ∀ (l : List UInt8) (c : UInt8), 0 ≤ Lib.indexByte l c → c ∈ l
 | [], c, h => by simp [Lib.indexByte] at h
 | b :: r, c, h => by
  by_cases e : b = c
  ·simp [e]
  ·have ih := indexByte_mem r c
   unfold Lib.indexByte at h
   rw [if_neg (by simpa using e)] at h
   split at h
   ·omega
   ·rename_i hn
    by_cases h0 : 0 ≤ Lib.indexByte r c
    ·exact List.mem_cons_of_mem _ (ih h0)
    ·have : Lib.indexByte r c = -1 := by omega
     exact absurd (by simp [this]) hn
theorem sign_facts (c : UInt8) (h : signB c = true) : letB c = false ∧ digB c = false ∧ ¬ c.toNat = 39 ∧ blankB c = false := by
 have hm : c ∈ signL := by
  unfold signB at h
  simp only [decide_eq_true_eq] at h
  exact indexByte_mem _ _ h
 simp only [signL, List.mem_cons, List.not_mem_nil, or_false] at hm
 rcases hm with rfl | rfl | rfl | rfl | rfl | rfl | rfl | rfl <;> decide
theorem toks_of_first (s rest : List UInt8) (t : Tok) (c : UInt8) (r : List UInt8) (hs : s = c :: r) (hb : blankB c = false) (hm : mayT t = true) (hf : firstT (s ++ rest) = (t, s.length)) : toks (s ++ rest) = (toks rest).map (t :: ·) := by
 subst hs
 have hd : (c :: r ++ rest).drop (c :: r).length = rest := by simp
 rw [List.cons_append] at hf hd ⊢
 rw [toks_tok c _ hb (by rw [hf]; exact hm), hf]
 simp only
 rw [hd]
theorem let_not_blank {c : UInt8} (h : letB c = true) : blankB c = false := by
 cases hb : blankB c
 ·rfl
 ·rw [(blank_not_part hb).2.1] at h; cases h
theorem dig_not_blank {c : UInt8} (h : digB c = true) : blankB c = false := by
 cases hb : blankB c
 ·rfl
 ·rw [(blank_not_part hb).2.2] at h; cases h
theorem dig_not_let {c : UInt8} (h : digB c = true) : letB c = false := by
 unfold digB at h
 unfold letB
 simp only [Bool.and_eq_true, decide_eq_true_eq] at h
 simp; omega
theorem runB_parts {m : Nat} {f g : UInt8 → Bool} {s : List UInt8} (h : runB m f g s = true) : (∃ c r, s = c :: r ∧ f c = true) ∧ lenRun f g s = s.length := by
 unfold runB at h
 simp only [Bool.and_eq_true, decide_eq_true_eq, beq_iff_eq] at h
 obtain ⟨⟨h1, _⟩, h3⟩ := h
 cases s with
 | nil => simp at h1
 | cons c r =>
  refine ⟨⟨c, r, rfl, ?_⟩, h3⟩
  cases hf : f c
  ·have h4 : lenRun f g (c :: r) = 0 := by show (if f c then 1 + (r.takeWhile g).length else 0) = 0; rw [hf]; rfl
   rw [h4] at h3
   simp at h3
  ·rfl
theorem toks_wr (t : Tok) (hm : mayT t = true) (rest : List UInt8) (hg : Gap rest) : toks (wrT t ++ rest) = (toks rest).map (t :: ·) := by
 obtain ⟨k, s⟩ := t
 have hm0 := hm
 unfold mayT at hm
 simp only at hm
 obtain ⟨g1, g2, g3⟩ := hg.run
 by_cases h3 : k = 3
 ·subst h3
  rw [if_pos rfl] at hm
  have hw : wrT ⟨3, s⟩ = writ s := by unfold wrT; rw [if_pos rfl]; unfold textF; rw [hm]; rfl
  rw [hw]
  exact toks_writ s rest hg hm
 ·rw [if_neg h3] at hm
  have hw : wrT ⟨k, s⟩ = s := by unfold wrT; rw [if_neg h3]
  rw [hw]
  by_cases h4 : k = 4
  ·subst h4
   rw [if_pos rfl] at hm
   match s, hm with
   | [c], hm =>
    obtain ⟨f1, f2, f3, f4⟩ := sign_facts c hm
    refine toks_of_first [c] rest ⟨4, [c]⟩ c [] rfl f4 hm0 ?_
    show firstT (c :: rest) = _
    unfold firstT
    have l1 : lenRun letB partB (c :: rest) = 0 := by unfold lenRun; simp [f1]
    have l2 : lenRun digB digB (c :: rest) = 0 := by unfold lenRun; simp [f2]
    rw [l1, l2]
    simp only [Nat.lt_irrefl, if_false]
    rw [if_neg f3]
    rfl
  ·rw [if_neg h4] at hm
   by_cases h1 : k = 1
   ·subst h1
    rw [if_pos rfl] at hm
    obtain ⟨⟨c, r, hs, hc⟩, hl⟩ := runB_parts hm
    have hp : 0 < s.length := by rw [hs]; simp
    refine toks_of_first s rest ⟨1, s⟩ c r hs (let_not_blank hc) hm0 ?_
    unfold firstT
    rw [lenRun_gap letB partB s rest hp g1, hl, if_pos hp]
    simp
   ·rw [if_neg h1] at hm
    by_cases h2 : k = 2
    ·subst h2
     rw [if_pos rfl] at hm
     obtain ⟨⟨c, r, hs, hc⟩, hl⟩ := runB_parts hm
     have hp : 0 < s.length := by rw [hs]; simp
     refine toks_of_first s rest ⟨2, s⟩ c r hs (dig_not_blank hc) hm0 ?_
     have l1 : lenRun letB partB (s ++ rest) = 0 := by rw [hs, List.cons_append]; unfold lenRun; simp [dig_not_let hc]
     unfold firstT
     rw [l1, lenRun_gap digB digB s rest hp g2, hl, if_neg (Nat.lt_irrefl 0), if_pos hp]
     simp
    ·rw [if_neg h2] at hm
     cases hm
def Edge (t : List UInt8) : Prop := t = [] ∨ ∃ b q, t = b :: q ∧ partB b = false ∧ ¬ b.toNat = 39
theorem Edge.run {t : List UInt8} (h : Edge t) : (t = [] ∨ ∃ b q, t = b :: q ∧ partB b = false) ∧ (t = [] ∨ ∃ b q, t = b :: q ∧ digB b = false) ∧ (t = [] ∨ ∃ b q, t = b :: q ∧ ¬ b.toNat = 39) := by
 rcases h with rfl | ⟨b, q, rfl, h1, h2⟩
 ·exact ⟨.inl rfl, .inl rfl, .inl rfl⟩
 ·refine ⟨.inr ⟨b, q, rfl, h1⟩, .inr ⟨b, q, rfl, ?_⟩, .inr ⟨b, q, rfl, h2⟩⟩
  unfold partB at h1
  simp only [Bool.or_eq_false_iff] at h1
  exact h1.1.2
theorem Gap.edge {t : List UInt8} (h : Gap t) : Edge t := by
 rcases h with rfl | ⟨b, r, rfl, hb⟩
 ·exact .inl rfl
 ·exact .inr ⟨b, r, rfl, (blank_not_part hb).1, by rcases blank_cases hb with e | e <;> omega⟩
theorem firstT_edge (c : UInt8) (r t : List UInt8) (ht : Edge t) (hm : mayT (firstT (c :: r)).1 = true) : firstT (c :: r ++ t) = firstT (c :: r) := by
 obtain ⟨g1, g2, g3⟩ := ht.run
 have e1 := lenRun_gap letB partB (c :: r) t (by simp) g1
 have e2 := lenRun_gap digB digB (c :: r) t (by simp) g2
 have l1 := lenRun_le letB partB (c :: r)
 have l2 := lenRun_le digB digB (c :: r)
 unfold firstT at hm ⊢
 rw [e1, e2]
 split
 ·rw [List.take_append_of_le_length l1]
 ·rename_i h1
  rw [if_neg h1] at hm
  split
  ·rw [List.take_append_of_le_length l2]
  ·rename_i h2
   rw [if_neg h2] at hm
   simp only [List.cons_append] at hm ⊢
   split
   ·rename_i hc
    rw [if_pos hc] at hm
    rw [quotedT_eq] at hm ⊢
    rw [quotedT_eq]
    cases he : endQ ((c :: r).drop 1) 1 with
    | none => rw [he] at hm; cases hm
    | some k =>
     have hk := endQ_lt _ _ _ he
     have h3 : endQ ((c :: (r ++ t)).drop 1) 1 = some k := endQ_app _ t 1 k g3 he
     rw [h3]
     simp only [quotedOf]
     rw [List.length_drop] at hk
     have : (c :: (r ++ t)).take k = (c :: r).take k := by
      rw [← List.cons_append]
      exact List.take_append_of_le_length (by omega)
     rw [this]
   ·rfl
theorem toks_edge (t : List UInt8) (ht : Edge t) : ∀ (n : Nat) (s : List UInt8) (a : List Tok), s.length ≤ n → toks s = some a → toks (s ++ t) = (toks t).map (a ++ ·) := by
 intro n
 induction n with
 | zero =>
  intro s a hs h
  have : s = [] := List.eq_nil_of_length_eq_zero (by omega)
  subst this
  cases h
  cases hq : toks t <;> simp [hq]
 | succ n ih =>
  intro s a hs h
  cases s with
  | nil => cases h; cases hq : toks t <;> simp [hq]
  | cons c r =>
   simp only [List.length_cons] at hs
   cases hb : blankB c
   ·cases hm : mayT (firstT (c :: r)).1
    ·rw [toks_bad c r hb hm] at h; cases h
    ·have hge := (firstT_le (c :: r) (by simp)).2 hm
     have hle := (firstT_le (c :: r) (by simp)).1
     rw [toks_tok c r hb hm] at h
     cases hq : toks ((c :: r).drop (firstT (c :: r)).2) with
     | none => rw [hq] at h; cases h
     | some a' =>
      rw [hq] at h
      cases h
      have hf := firstT_edge c r t ht hm
      have h1 := ih ((c :: r).drop (firstT (c :: r)).2) a' (by rw [List.length_drop, List.length_cons]; omega) hq
      rw [List.cons_append] at hf ⊢
      rw [toks_tok c (r ++ t) hb (by rw [hf]; exact hm), hf, ← List.cons_append, List.drop_append_of_le_length hle, h1]
      cases toks t <;> simp
   ·rw [toks_blank c r hb] at h
    rw [List.cons_append, toks_blank c _ hb]
    exact ih r a (by omega) h
theorem toks_wr1 (t : Tok) (hm : mayT t = true) : toks (wrT t) = some [t] := by
 have := toks_wr t hm [] (.inl rfl)
 rw [List.append_nil] at this
 exact this
def Tk (s : List UInt8) (a : List Tok) : Prop := ∀ rest, Edge rest → toks (s ++ rest) = (toks rest).map (a ++ ·)
def Edgy (s : List UInt8) : Prop := ∃ b q, s = b :: q ∧ partB b = false ∧ ¬ b.toNat = 39
theorem Edgy.mk (b : UInt8) (q : List UInt8) (h : partB b = false := by decide) (h2 : ¬ b.toNat = 39 := by decide) : Edgy (b :: q) := ⟨b, q, rfl, h, h2⟩
theorem Edgy.edge {s : List UInt8} (h : Edgy s) (rest : List UInt8) : Edge (s ++ rest) := by
 obtain ⟨b, q, rfl, h1, h2⟩ := h
 exact .inr ⟨b, q ++ rest, rfl, h1, h2⟩
theorem Edgy.app {s : List UInt8} (h : Edgy s) (t : List UInt8) : Edgy (s ++ t) := by
 obtain ⟨b, q, rfl, h1, h2⟩ := h
 exact ⟨b, q ++ t, rfl, h1, h2⟩
theorem Tk.of {s : List UInt8} {a : List Tok} (h : toks s = some a) : Tk s a := fun rest hr => toks_edge rest hr _ s a (Nat.le_refl _) h
theorem Tk.out {s : List UInt8} {a : List Tok} (h : Tk s a) : toks s = some a := by
 have := h [] (.inl rfl)
 rw [List.append_nil] at this
 rw [this]
 simp [toks_nil]
theorem Tk.nil : Tk [] [] := Tk.of toks_nil
theorem Tk.wr {t : Tok} (hm : mayT t = true) : Tk (wrT t) [t] := Tk.of (toks_wr1 t hm)
theorem Tk.app {s t : List UInt8} {a b : List Tok} (h : Tk s a) (k : Tk t b) (e : t = [] ∨ Edgy t) : Tk (s ++ t) (a ++ b) := fun rest hr => by
 rw [List.append_assoc, h (t ++ rest) (by rcases e with rfl | e; exact hr; exact e.edge rest), k rest hr]
 cases toks rest <;> simp
theorem Tk.blank {s : List UInt8} {a : List Tok} (h : Tk s a) : Tk (32 :: s) a := fun rest hr => by
 rw [List.cons_append, toks_blank 32 _ (by decide)]
 exact h rest hr
theorem Tk.sign {c : UInt8} {s : List UInt8} {a : List Tok} (hc : signB c = true) (h : Tk s a) : Tk (c :: s) (⟨4, [c]⟩ :: a) := fun rest hr => by
 obtain ⟨f1, f2, f3, f4⟩ := sign_facts c hc
 have hf : firstT ([c] ++ (s ++ rest)) = (⟨4, [c]⟩, ([c] : List UInt8).length) := by
  show firstT (c :: (s ++ rest)) = _
  unfold firstT
  have l1 : lenRun letB partB (c :: (s ++ rest)) = 0 := by unfold lenRun; simp [f1]
  have l2 : lenRun digB digB (c :: (s ++ rest)) = 0 := by unfold lenRun; simp [f2]
  rw [l1, l2]
  simp only [Nat.lt_irrefl, if_false]
  rw [if_neg f3]
  rfl
 have := toks_of_first [c] (s ++ rest) ⟨4, [c]⟩ c [] rfl f4 (show oneSign [c] = true from hc) hf
 rw [List.cons_append]
 rw [show c :: (s ++ rest) = [c] ++ (s ++ rest) from rfl, this, h rest hr]
 cases toks rest <;> simp
theorem Tk.word {x s : List UInt8} {a : List Tok} (hx : nameB x = true) (h : Tk s a) (e : s = [] ∨ Edgy s) : Tk (x ++ s) (⟨1, x⟩ :: a) := by
 have := (Tk.wr (t := ⟨1, x⟩) hx).app h e
 exact this
theorem Tk.num {x s : List UInt8} {a : List Tok} (hx : runB 19 digB digB x = true) (h : Tk s a) (e : s = [] ∨ Edgy s) : Tk (x ++ s) (⟨2, x⟩ :: a) := by
 have := (Tk.wr (t := ⟨2, x⟩) hx).app h e
 exact this
theorem dig_nat (d : Nat) (h : d < 10) : (UInt8.ofNat (48 + d)).toNat = 48 + d := by
 rw [UInt8.toNat_ofNat']; omega
end Go.Proofs.YtchilcchogcibaaGreatDoor
namespace Go.Proofs.YtchilcchogcibaaGreatDoor
open Go.RowKit
attribute [local go_sem] ByteArray.extract_mk ba_get ba_append
attribute [local go_sem ↓] Go.wp_at_zero Go.wp_at_succ
def Errs (w : World) : Prop := (∃ tp p, w.var? Tryz.prog "strconv.ErrSyntax" = some #[.iface tp p]) ∧ (∃ tp p, w.var? Tryz.prog "strconv.ErrRange" = some #[.iface tp p])
theorem Errs.below {B : Nat} {w w' : World} (h : Errs w) (hb : Below B w w') (hB : B = w.heap.size) : Errs w' := by
 obtain ⟨⟨t1, p1, h1⟩, t2, p2, h2⟩ := h
 exact ⟨⟨t1, p1, var_below h1 hb hB⟩, t2, p2, var_below h2 hb hB⟩
end Go.Proofs.YtchilcchogcibaaGreatDoor
namespace Go.Proofs.YtchilcchogcibaaGreatDoor
open Go.RowKit
attribute [local go_sem] ByteArray.extract_mk ba_get ba_append
attribute [local go_sem ↓] Go.wp_at_zero Go.wp_at_succ run_eql_V run_neq_V
def isB (k : Int) (s word : List UInt8) : Bool := (decide (k = 1) || decide (k = 4)) && s == word
def hit (l : List Tok) (a : Nat) (word : List UInt8) : Bool := match l[a]? with | none => false | some t => isB t.k t.s word
def EnvP (p : Nat) (w : World) : Prop := ∃ W0 : World, Errs W0 ∧ W0.heap.size ≤ p ∧ Below W0.heap.size W0 w
theorem EnvP.below {p : Nat} {w w' : World} (h : EnvP p w) (hb : Below p w w') : EnvP p w' := by
 obtain ⟨W0, h1, h2, h3⟩ := h
 exact ⟨W0, h1, h2, h3.trans (hb.mono h2)⟩
theorem EnvP.more {p q : Nat} {w : World} (h : EnvP p w) (hq : p ≤ q) : EnvP q w := by
 obtain ⟨W0, h1, h2, h3⟩ := h
 exact ⟨W0, h1, Nat.le_trans h2 hq, h3⟩
theorem EnvP.of {w : World} (h : Errs w) : EnvP w.heap.size w := ⟨w, h, Nat.le_refl _, Below.refl _ _⟩
def TkE (w : World) (p : Nat) (A : Option Addr) (l : List Tok) : Prop := TkS w p A l ∧ EnvP p w
theorem TkE.below {w w' : World} {p : Nat} {A : Option Addr} {l : List Tok} (h : TkE w p A l) (hb : Below p w w') : TkE w' p A l := ⟨h.1.below hb, h.2.below hb⟩
theorem TkE.at_ {w : World} {p : Nat} {A : Option Addr} {l : List Tok} (h : TkE w p A l) {j : Nat} (hj : j < l.length) :
  ∃ b off v, A = some ⟨b, off, none⟩ ∧ b < p ∧ l[j]? = some v ∧ w.cell? ⟨b, off + j * 2, none⟩ = some (.int .i64 v.k) ∧ w.cell? ⟨b, off + j * 2 + 1, none⟩ = some (.string ⟨v.s.toArray⟩) := h.1.at_ hj
def PSt (p : Nat) (A : Option Addr) (c : Nat) (l : List Tok) (a deep : Nat) (w : World) : Prop :=
 Blk w p 235 #[.slice A l.length c, .int .i64 (a : Nat), .int .i64 (deep : Nat)] ∧ TkE w p A l
theorem PSt.but {p : Nat} {A : Option Addr} {c : Nat} {l : List Tok} {a deep : Nat} {w w' : World} (h : PSt p A c l a deep w) (hb : Below w.heap.size w w') : PSt p A c l a deep w' :=
 ⟨h.1.below hb h.1.lt, h.2.below (hb.mono (Nat.le_of_lt h.1.lt))⟩
end Go.Proofs.YtchilcchogcibaaGreatDoor
namespace Go.Proofs.YtchilcchogcibaaGreatDoor
open Go.RowKit
attribute [local go_sem] ByteArray.extract_mk ba_get ba_append
attribute [local go_sem ↓] Go.wp_at_zero Go.wp_at_succ
theorem runB_digs (s : List UInt8) : runB 19 digB digB s = (s.all digB && (decide (1 ≤ s.length) && decide (s.length ≤ 19))) := by
 rw [runB_name 19 digB digB (fun _ h => h)]
 cases s with
 | nil => rfl
 | cons c r =>
  cases h : digB c
  ·simp [h]
  ·simp [h, headB]
theorem rmayTok_any (k : Int) (s : List UInt8) (w : World) (hs : s.length ≤ 1000000) :
  Calls Tryz.prog 118 #[.agg #[.int .i64 k, .string ⟨s.toArray⟩]] w (Ret (.bool (mayT ⟨k, s⟩)) w) := by
 obtain ⟨R, hR⟩ : ∃ R, mayT ⟨k, s⟩ = R := ⟨_, rfl⟩
 rw [hR]
 by_cases h1 : k = 1
 ·subst h1
  have HR : Hid (R = runB 16 letB partB s) := by show _ = _; rw [← hR]; rfl
  clear hR
  go_in
  go_wp2_with fail
  refine (rname_any s _ hs).mono ?_
  rintro e w1 ⟨rfl, rfl⟩
  go_wp2_with fail
  go_ret
  exact ⟨by rw [HR.out]; rfl, by exact bl⟩
 by_cases h2 : k = 2
 ·subst h2
  have HR : Hid (((s.drop 0).all digB && (decide (1 ≤ s.length) && decide (s.length ≤ 19))) = R) := by show _ = _; rw [List.drop_zero, ← runB_digs, ← hR]; rfl
  clear hR h1
  go_in
  go_wp2_with fail
  go_loopg [3] s.length (fun g i wr => ∃ j : Nat, j + g = s.length ∧ i = .int .i64 j ∧ Hid (((s.drop j).all digB && (decide (1 ≤ s.length) && decide (s.length ≤ 19))) = R) ∧ wr = w.alloc (.cells #[.int .i64 2, .string ⟨s.toArray⟩] 128))
  case atStart => exact ⟨0, by omega, rfl, HR, rfl⟩
  case round =>
   obtain ⟨j, hj, rfl, hrest, rfl⟩ := hrel
   have HJ := Lib.hid hj
   by_cases hlt : j < s.length
   ·obtain ⟨c, hcg⟩ : ∃ c, s[j] = c := ⟨_, rfl⟩
    have hrest' := hrest.out
    rw [all_at _ _ _ hlt, hcg] at hrest'
    obtain ⟨g', rfl⟩ : ∃ g', gk = g' + 1 := ⟨gk - 1, by omega⟩
    clear hj hrest
    cases hq : digB c
    ·have HF : Hid (R = false) := by show R = false; rw [← hrest', hq]; rfl
     have HQ := Lib.hid hq
     clear hrest' hq
     go_wp2_with (go_at_call 117; refine (rdigit_any c _).mono ?_; rw [HQ.out]; rintro e w' ⟨rfl, rfl⟩)
     go_ret
     exact ⟨by rw [HF.out]; rfl, by exact bl⟩
    ·have HF : Hid (((s.drop (j + 1)).all digB && (decide (1 ≤ s.length) && decide (s.length ≤ 19))) = R) := by show _ = R; rw [← hrest', hq]; rfl
     have HQ := Lib.hid hq
     clear hrest' hq
     go_wp2_with (go_at_call 117; refine (rdigit_any c _).mono ?_; rw [HQ.out]; rintro e w' ⟨rfl, rfl⟩)
     go_roundg g'
     case measure => omega
     case rel => exact ⟨j + 1, by have := HJ.out; omega, by go_num, HF, rfl⟩
   ·have HF : Hid (R = (decide (1 ≤ s.length) && decide (s.length ≤ 19))) := by
     show R = _
     rw [← hrest.out, List.drop_of_length_le (by omega)]
     rfl
    clear hj hrest HR
    by_cases h1 : 1 ≤ s.length
    ·by_cases h16 : s.length ≤ 19
     ·have HTL : Hid (R = true) := by show _ = _; rw [HF.out]; simp; omega
      have h2 : (s.length : Int) ≤ 19 := by omega
      have h3 : (1 : Int) ≤ s.length := by omega
      go_wp2_with fail
      go_ret
      exact ⟨by rw [HTL.out]; rfl, by exact bl⟩
     ·have HTL : Hid (R = false) := by show _ = _; rw [HF.out]; simp; omega
      have h2 : ¬ (s.length : Int) ≤ 19 := by omega
      have h3 : (1 : Int) ≤ s.length := by omega
      go_wp2_with fail
      go_ret
      exact ⟨by rw [HTL.out]; rfl, by exact bl⟩
    ·have HTL : Hid (R = false) := by show _ = _; rw [HF.out]; simp; omega
     have h3 : ¬ (1 : Int) ≤ s.length := by omega
     go_wp2_with fail
     go_ret
     exact ⟨by rw [HTL.out]; rfl, by exact bl⟩
 by_cases h3 : k = 3
 ·subst h3
  have HR : Hid (R = mayB 2 0 s) := by show _ = _; rw [← hR]; rfl
  clear hR h1 h2
  go_in
  go_wp2_with fail
  refine (rmay_any 2 0 s _ (by omega)).mono ?_
  rintro e w1 ⟨rfl, hb1⟩
  rw [← HR.out]
  go_wp2_with fail
  go_ret
  exact ⟨rfl, by exact bl⟩
 by_cases h4 : k = 4
 ·subst h4
  have HR : Hid (R = oneSign s) := by show _ = _; rw [← hR]; rfl
  clear hR h1 h2 h3
  match s, HR with
  | [], HR =>
   go_in
   go_wp2_with fail
   go_ret
   exact ⟨by rw [HR.out]; rfl, by exact bl⟩
  | [c], HR =>
   by_cases hc : signB c = true
   ·have hm : c ∈ signL := by
     unfold signB at hc
     simp only [decide_eq_true_eq] at hc
     exact indexByte_mem _ _ hc
    simp only [signL, List.mem_cons, List.not_mem_nil, or_false] at hm
    have HR2 : Hid (R = true) := by show _ = _; rw [HR.out]; exact hc
    clear HR
    have HR := HR2
    clear HR2
    rcases hm with rfl | rfl | rfl | rfl | rfl | rfl | rfl | rfl
    all_goals
     go_in
     go_wp2_with fail
     go_ret
     exact ⟨by rw [HR.out]; rfl, by exact bl⟩
   ·have n1 : (c == 40) = false := by rw [beq_eq_false_iff_ne]; intro e; subst e; exact hc (by decide)
    have n2 : (c == 41) = false := by rw [beq_eq_false_iff_ne]; intro e; subst e; exact hc (by decide)
    have n3 : (c == 44) = false := by rw [beq_eq_false_iff_ne]; intro e; subst e; exact hc (by decide)
    have n4 : (c == 61) = false := by rw [beq_eq_false_iff_ne]; intro e; subst e; exact hc (by decide)
    have n5 : (c == 60) = false := by rw [beq_eq_false_iff_ne]; intro e; subst e; exact hc (by decide)
    have n6 : (c == 43) = false := by rw [beq_eq_false_iff_ne]; intro e; subst e; exact hc (by decide)
    have n7 : (c == 45) = false := by rw [beq_eq_false_iff_ne]; intro e; subst e; exact hc (by decide)
    have n8 : (c == 42) = false := by rw [beq_eq_false_iff_ne]; intro e; subst e; exact hc (by decide)
    have HR2 : Hid (R = false) := by show _ = _; rw [HR.out]; simpa [oneSign] using hc
    clear HR hc
    have HR := HR2
    clear HR2
    go_in
    go_wp2_with fail
    go_ret
    exact ⟨by rw [HR.out]; rfl, by exact bl⟩
  | c :: d :: r, HR =>
   go_in
   go_wp2_with fail
   go_ret
   exact ⟨by rw [HR.out]; rfl, by exact bl⟩
 ·have e1 : (k == 1) = false := by simpa using h1
  have e2 : (k == 2) = false := by simpa using h2
  have e3 : (k == 3) = false := by simpa using h3
  have e4 : (k == 4) = false := by simpa using h4
  have HR : Hid (R = false) := by show _ = _; rw [← hR]; simp [mayT, h1, h2, h3, h4]
  clear hR h1 h2 h3 h4
  go_in
  go_wp2_with fail
  go_ret
  exact ⟨by rw [HR.out]; rfl, by exact bl⟩
end Go.Proofs.YtchilcchogcibaaGreatDoor
namespace Go.Proofs.YtchilcchogcibaaGreatDoor
open Go.ChangeShapes Go.WideShapes Go.ChangeAt Go.RowKit
theorem handed_and_shaped {H : Type} {enc : TypeId × Value → H} {a : Assume} {C : Checked} {os : Os} {f : FuncId} {fn : Func} {s : ChangeSpec} {conds : List PathCond} {apart fresh handsOn again : Bool} {X : World → Array Value → Prop}
  (hX : ∀ (w w' : World) (args : Array Value), w.heap = w'.heap → X w args → X w' args)
  (own : ownKnob C.prog.godebug = none) (started : os.Started) (noInit : C.prog.inits.idxOf? f = none) (hfn : C.prog.funcs[f]? = some fn)
  (witness : ∃ (w : World) (tape : Tape) (i : Input), w.os = os ∧ (w.forCall tape i).Shaped C.prog ∧ i.vars = [] ∧ Input.okWide C.prog (w.forCall tape i) .any w.heap.size f i ∧
   ((s.pre enc C.prog fn conds apart (w.forCall tape i).memory i.args ∧ X (w.forCall tape i).memory i.args) ∧ sizedMet enc C.prog fn (OpenSpec.ofChange s) apart (w.forCall tape i).memory i.args) ∧ a.holds C.prog (lone (Frame.enter C.prog f i.args .normal) [] (w.forCall tape i)))
  (contract : ∀ (W : World) (base : Nat) (args : Array Value) (ds gs : List (DataW H)) (before : List MemPlace),
   (∀ (j : Nat) t v, fn.params[j]? = some t → args[j]? = some v → Value.okWide C.prog W .any base t v) →
   DataW.Whole enc C.prog fn.params.toList s.vars apart W args.toList ds gs before →
   conds.all (PathCond.test C.prog ⟨fn.params.toList, ds, s.plain.varTypes C.prog, gs⟩) = true →
   (DataW.weightsEach C.prog (fn.params.toList ++ s.plain.varTypes C.prog) (ds ++ gs)).all (· ≤ reachBytes) = true → X W args → W.ShapedOpen C.prog →
   a.holds C.prog (lone (Frame.enter C.prog f args .normal) [] W) →
   Calls C.prog f args W fun e W' => ∃ v, e = .returned v ∧ s.post enc C.prog fn apart fresh handsOn again W args v W') :
  ReturnsInHanded a C os f .any (fun w args => (s.pre enc C.prog fn conds apart w args ∧ X w args) ∧ sizedMet enc C.prog fn (OpenSpec.ofChange s) apart w args) (s.post enc C.prog fn apart fresh handsOn again) := by
 refine returnsInHanded_of_calls own started noInit witness ?_
 intro w tape i _ hsh _ hok hpre hholds
 obtain ⟨_, _, _, fn', hfn', _, _, _, _, hval⟩ := hok
 have e : fn' = fn := Option.some.inj (hfn'.symm.trans hfn)
 subst e
 obtain ⟨⟨⟨ds, gs, before, hw, hc⟩, hx⟩, hz⟩ := hpre
 have hw' := DataW.Whole.of_heap (w' := w.forCall tape i) (by rfl) hw
 refine (contract (w.forCall tape i) w.heap.size i.args ds gs before hval hw' hc (hz.weights hw) (hX _ _ _ (by rfl) hx) hsh hholds).mono fun e W' ⟨v, he, hp⟩ => ?_
 subst he
 exact ChangeSpec.post_blind hp
theorem maxL_of {W : World} (h : W.ShapedOpen Tryz.prog) : MaxL W :=
 cell_of_shapedOpen_int (zero := #[.int .i64 0]) (t := 3) h (by decide +kernel) (by kernel_rfl) rfl (by kernel_rfl) (by kernel_rfl) Tryz.underlying3
end Go.Proofs.YtchilcchogcibaaGreatDoor
