/- Statements, in plain words; Plain laws on cutting a text in pieces; The document's letters, digits and names, as plain functions; The document's tokens that may be, as a plain function. -/
import Derived.RegionTactic
import Derived.Test.YtchilcchogcibaaGreatDoorSAppend
import Derived.Test.YtchilcchogcibaaGreatDoorSOpenS
import Derived.Test.YtchilcchogcibaaGreatDoorSOpenSt
import Derived.Test.YtchilcchogcibaaGreatDoorSStage2
namespace Go.Proofs.YtchilcchogcibaaGreatDoor
open Go.RowKit
def nameG (s : List UInt8) : Bool := nameB s && !reserved s
def noneE (e : Ex) : Bool := e.op.isEmpty && veq e.v V.zero && e.s.isEmpty && e.l.isEmpty
def perhapsE (e : Ex) : Bool := noneE e || mayX e
def manyB {α : Type} (l : List α) (lo hi : Nat) (p : α → Bool) : Bool := decide (lo ≤ l.length) && decide (l.length ≤ hi) && l.all p
def colOkB (c : Col) : Bool := nameG c.n && decide (1 ≤ c.t) && decide (c.t ≤ 3)
def refOkB (r : Rf) : Bool := nameG r.c && nameG r.t
def setOkB (x : Se) : Bool := nameG x.n && mayX x.e
def emptyS (s : St) : Bool := (s.tb ++ s.ot ++ s.key ++ s.role).isEmpty && decide (s.names.length + s.cols.length + s.uniq.length + s.refs.length + s.row.length + s.sets.length = 0) && noneE s.chk && noneE s.whr
def creS (s : St) : Bool := manyB s.cols 1 8 colOkB && nameG s.key && manyB s.uniq 0 8 nameG && manyB s.refs 0 8 refOkB && perhapsE s.chk
def oCreate : List UInt8 := [99, 114, 101, 97, 116, 101]
def oDrop : List UInt8 := [100, 114, 111, 112]
def oInsert : List UInt8 := [105, 110, 115, 101, 114, 116]
def oUpdate : List UInt8 := [117, 112, 100, 97, 116, 101]
def oDelete : List UInt8 := [100, 101, 108, 101, 116, 101]
def oSelect : List UInt8 := [115, 101, 108, 101, 99, 116]
def oRead : List UInt8 := [114, 101, 97, 100]
def oWrite : List UInt8 := [119, 114, 105, 116, 101]
def oUnread : List UInt8 := [117, 110, 114, 101, 97, 100]
def oUnwrite : List UInt8 := [117, 110, 119, 114, 105, 116, 101]
def oCopy : List UInt8 := [99, 111, 112, 121]
def oJoin : List UInt8 := [106, 111, 105, 110]
def oGroup : List UInt8 := [103, 114, 111, 117, 112]
/-- May the parts be that a statement's Op names, and are all others empty? -/
def partsS (s : St) : Bool :=
 if s.op = oCreate then nameG s.tb && creS s && emptyS { s with tb := [], cols := [], key := [], uniq := [], refs := [], chk := exZero }
 else if s.op = oDrop then nameG s.tb && emptyS { s with tb := [] }
 else if s.op = oInsert then nameG s.tb && manyB s.row 1 12 (fun v => mayB v.k v.i v.s) && emptyS { s with tb := [], row := [] }
 else if s.op = oUpdate then nameG s.tb && manyB s.sets 1 8 setOkB && perhapsE s.whr && emptyS { s with tb := [], sets := [], whr := exZero }
 else if s.op = oDelete ∨ s.op = oSelect then nameG s.tb && perhapsE s.whr && emptyS { s with tb := [], whr := exZero }
 else if s.op = oRead ∨ s.op = oWrite ∨ s.op = oUnread ∨ s.op = oUnwrite then nameG s.tb && nameG s.role && emptyS { s with tb := [], role := [] }
 else if s.op = oCopy then nameG s.tb && nameG s.ot && manyB s.names 1 8 nameG && perhapsE s.chk && emptyS { s with tb := [], ot := [], names := [], chk := exZero }
 else if s.op = oJoin then nameG s.tb && nameG s.ot && nameG s.key && nameG s.role && perhapsE s.chk && emptyS { s with tb := [], ot := [], key := [], role := [], chk := exZero }
 else if s.op = oGroup then nameG s.tb && nameG s.ot && manyB s.names 2 2 nameG && perhapsE s.chk && emptyS { s with tb := [], ot := [], names := [], chk := exZero }
 else false
def upperB (l : List UInt8) : List UInt8 := l.map fun c => if 97 ≤ c ∧ c ≤ 122 then c - 32 else c
/-- An expression's text, of one that is no higher than n. -/
def textN : Nat → Ex → List UInt8
 | 0, _ => []
 | n + 1, e =>
  if e.op = opLit then textF e.v.k e.v.i e.v.s
  else if e.op = opCol then e.s
  else if e.op = opNot then [40, 78, 79, 84, 32] ++ textN n (e.l.getD 0 exZero) ++ [41]
  else if e.op = opNull then [40] ++ textN n (e.l.getD 0 exZero) ++ [32, 73, 83, 32, 78, 85, 76, 76, 41]
  else [40] ++ textN n (e.l.getD 0 exZero) ++ [32] ++ upperB e.op ++ [32] ++ textN n (e.l.getD 1 exZero) ++ [41]
def textX (e : Ex) : List UInt8 := textN 13 e
def whereT (e : Ex) : List UInt8 := if noneE e then [] else [32, 87, 72, 69, 82, 69, 32] ++ textX e
def checkT (a : List UInt8) (e : Ex) : List UInt8 := if noneE e then [] else a ++ [67, 72, 69, 67, 75, 32, 40, 32] ++ textX e ++ [32, 41]
/-- Texts with a text between. -/
def joinL (sep : List UInt8) : List (List UInt8) → List UInt8
 | [] => []
 | [x] => x
 | x :: y :: r => x ++ sep ++ joinL sep (y :: r)
def comma : List UInt8 := [32, 44, 32]
def typeT (t : Int) : List UInt8 := if t = 1 then [73, 78, 84] else if t = 2 then [84, 69, 88, 84] else [66, 79, 79, 76]
def colT (c : Col) : List UInt8 := c.n ++ [32] ++ typeT c.t ++ (if c.b then [32, 78, 79, 84, 32, 78, 85, 76, 76] else [])
def setT (x : Se) : List UInt8 := x.n ++ [32, 61, 32] ++ textX x.e
def uniqT (l : List (List UInt8)) : List UInt8 := l.flatMap fun c => [32, 44, 32, 85, 78, 73, 81, 85, 69, 32, 40, 32] ++ c ++ [32, 41]
def refsT (l : List Rf) : List UInt8 := l.flatMap fun r => [32, 44, 32, 82, 69, 70, 69, 82, 69, 78, 67, 69, 83, 32, 40, 32] ++ r.c ++ [32, 41, 32] ++ r.t
def migT (s : St) : List UInt8 := [77, 73, 71, 82, 65, 84, 69, 32] ++ upperB s.op ++ [32] ++ s.tb ++ [32, 70, 82, 79, 77, 32] ++ s.ot
/-- A statement's text, of one whose parts may be. -/
def textS (s : St) : List UInt8 :=
 if s.op = oCreate then [67, 82, 69, 65, 84, 69, 32, 84, 65, 66, 76, 69, 32] ++ s.tb ++ [32, 40, 32] ++ joinL comma (s.cols.map colT) ++ [32, 44, 32, 75, 69, 89, 32, 40, 32] ++ s.key ++ [32, 41] ++ uniqT s.uniq ++ refsT s.refs ++ checkT comma s.chk ++ [32, 41]
 else if s.op = oDrop then [68, 82, 79, 80, 32, 84, 65, 66, 76, 69, 32] ++ s.tb
 else if s.op = oInsert then [73, 78, 83, 69, 82, 84, 32, 73, 78, 84, 79, 32] ++ s.tb ++ [32, 86, 65, 76, 85, 69, 83, 32, 40, 32] ++ joinL comma (s.row.map fun v => textF v.k v.i v.s) ++ [32, 41]
 else if s.op = oUpdate then [85, 80, 68, 65, 84, 69, 32] ++ s.tb ++ [32, 83, 69, 84, 32] ++ joinL comma (s.sets.map setT) ++ whereT s.whr
 else if s.op = oDelete then [68, 69, 76, 69, 84, 69, 32, 70, 82, 79, 77, 32] ++ s.tb ++ whereT s.whr
 else if s.op = oSelect then [83, 69, 76, 69, 67, 84, 32, 42, 32, 70, 82, 79, 77, 32] ++ s.tb ++ whereT s.whr
 else if s.op = oRead ∨ s.op = oWrite then [71, 82, 65, 78, 84, 32] ++ upperB s.op ++ [32, 79, 78, 32] ++ s.tb ++ [32, 84, 79, 32] ++ s.role
 else if s.op = oUnread ∨ s.op = oUnwrite then [82, 69, 86, 79, 75, 69, 32] ++ upperB (s.op.drop 2) ++ [32, 79, 78, 32] ++ s.tb ++ [32, 70, 82, 79, 77, 32] ++ s.role
 else if s.op = oCopy then migT s ++ [32, 40, 32] ++ joinL comma s.names ++ [32, 41] ++ checkT [32] s.chk
 else if s.op = oJoin then migT s ++ [32, 44, 32] ++ s.role ++ [32, 79, 78, 32] ++ s.key ++ checkT [32] s.chk
 else migT s ++ [32, 66, 89, 32] ++ s.names.getD 0 [] ++ [32, 83, 85, 77, 32] ++ s.names.getD 1 [] ++ checkT [32] s.chk
/-- May a statement be? -/
def mayS (s : St) : Bool := partsS s && (cutT (textS s)).isSome
/-- What may stand behind a text without changing its last token: nothing, or an octet first that goes on no token. -/
def Edge (t : List UInt8) : Prop := t = [] ∨ ∃ b q, t = b :: q ∧ partB b = false ∧ ¬ b.toNat = 39
theorem Edge.run {t : List UInt8} (h : Edge t) : (t = [] ∨ ∃ b q, t = b :: q ∧ partB b = false) ∧ (t = [] ∨ ∃ b q, t = b :: q ∧ digB b = false) ∧ (t = [] ∨ ∃ b q, t = b :: q ∧ ¬ b.toNat = 39) := by
 rcases h with rfl | ⟨b, q, rfl, h1, h2⟩
 ·exact ⟨.inl rfl, .inl rfl, .inl rfl⟩
 ·refine ⟨.inr ⟨b, q, rfl, h1⟩, .inr ⟨b, q, rfl, ?_⟩, .inr ⟨b, q, rfl, h2⟩⟩
  unfold partB at h1
  simp only [Bool.or_eq_false_iff] at h1
  exact h1.1.2
theorem Gap.edge {t : List UInt8} (h : Gap t) : Edge t := by
 rcases h with rfl | ⟨b, r, rfl, hb⟩
 ·exact .inl rfl
 ·exact .inr ⟨b, r, rfl, (blank_not_part hb).1, by rcases blank_cases hb with e | e <;> omega⟩
theorem firstT_edge (c : UInt8) (r t : List UInt8) (ht : Edge t) (hm : mayT (firstT (c :: r)).1 = true) : firstT (c :: r ++ t) = firstT (c :: r) := by
 obtain ⟨g1, g2, g3⟩ := ht.run
 have e1 := lenRun_gap letB partB (c :: r) t (by simp) g1
 have e2 := lenRun_gap digB digB (c :: r) t (by simp) g2
 have l1 := lenRun_le letB partB (c :: r)
 have l2 := lenRun_le digB digB (c :: r)
 unfold firstT at hm ⊢
 rw [e1, e2]
 split
 ·rw [List.take_append_of_le_length l1]
 ·rename_i h1
  rw [if_neg h1] at hm
  split
  ·rw [List.take_append_of_le_length l2]
  ·rename_i h2
   rw [if_neg h2] at hm
   simp only [List.cons_append] at hm ⊢
   split
   ·rename_i hc
    rw [if_pos hc] at hm
    rw [quotedT_eq] at hm ⊢
    rw [quotedT_eq]
    cases he : endQ ((c :: r).drop 1) 1 with
    | none => rw [he] at hm; cases hm
    | some k =>
     have hk := endQ_lt _ _ _ he
     have h3 : endQ ((c :: (r ++ t)).drop 1) 1 = some k := endQ_app _ t 1 k g3 he
     rw [h3]
     simp only [quotedOf]
     rw [List.length_drop] at hk
     have : (c :: (r ++ t)).take k = (c :: r).take k := by
      rw [← List.cons_append]
      exact List.take_append_of_le_length (by omega)
     rw [this]
   ·rfl
theorem toks_edge (t : List UInt8) (ht : Edge t) : ∀ (n : Nat) (s : List UInt8) (a : List Tok), s.length ≤ n → toks s = some a → toks (s ++ t) = (toks t).map (a ++ ·) := by
 intro n
 induction n with
 | zero =>
  intro s a hs h
  have : s = [] := List.eq_nil_of_length_eq_zero (by omega)
  subst this
  cases h
  cases hq : toks t <;> simp [hq]
 | succ n ih =>
  intro s a hs h
  cases s with
  | nil => cases h; cases hq : toks t <;> simp [hq]
  | cons c r =>
   simp only [List.length_cons] at hs
   cases hb : blankB c
   ·cases hm : mayT (firstT (c :: r)).1
    ·rw [toks_bad c r hb hm] at h; cases h
    ·have hge := (firstT_le (c :: r) (by simp)).2 hm
     have hle := (firstT_le (c :: r) (by simp)).1
     rw [toks_tok c r hb hm] at h
     cases hq : toks ((c :: r).drop (firstT (c :: r)).2) with
     | none => rw [hq] at h; cases h
     | some a' =>
      rw [hq] at h
      cases h
      have hf := firstT_edge c r t ht hm
      have h1 := ih ((c :: r).drop (firstT (c :: r)).2) a' (by rw [List.length_drop, List.length_cons]; omega) hq
      rw [List.cons_append] at hf ⊢
      rw [toks_tok c (r ++ t) hb (by rw [hf]; exact hm), hf, ← List.cons_append, List.drop_append_of_le_length hle, h1]
      cases toks t <;> simp
   ·rw [toks_blank c r hb] at h
    rw [List.cons_append, toks_blank c _ hb]
    exact ih r a (by omega) h
theorem toks_wr1 (t : Tok) (hm : mayT t = true) : toks (wrT t) = some [t] := by
 have := toks_wr t hm [] (.inl rfl)
 rw [List.append_nil] at this
 exact this
/-- A piece of text has these tokens, whatever stands behind it that does not go on with its last one. -/
def Tk (s : List UInt8) (a : List Tok) : Prop := ∀ rest, Edge rest → toks (s ++ rest) = (toks rest).map (a ++ ·)
/-- A text may stand behind a piece. -/
def Edgy (s : List UInt8) : Prop := ∃ b q, s = b :: q ∧ partB b = false ∧ ¬ b.toNat = 39
theorem Edgy.mk (b : UInt8) (q : List UInt8) (h : partB b = false := by decide) (h2 : ¬ b.toNat = 39 := by decide) : Edgy (b :: q) := ⟨b, q, rfl, h, h2⟩
theorem Edgy.edge {s : List UInt8} (h : Edgy s) (rest : List UInt8) : Edge (s ++ rest) := by
 obtain ⟨b, q, rfl, h1, h2⟩ := h
 exact .inr ⟨b, q ++ rest, rfl, h1, h2⟩
theorem Edgy.app {s : List UInt8} (h : Edgy s) (t : List UInt8) : Edgy (s ++ t) := by
 obtain ⟨b, q, rfl, h1, h2⟩ := h
 exact ⟨b, q ++ t, rfl, h1, h2⟩
theorem Tk.of {s : List UInt8} {a : List Tok} (h : toks s = some a) : Tk s a := fun rest hr => toks_edge rest hr _ s a (Nat.le_refl _) h
theorem Tk.out {s : List UInt8} {a : List Tok} (h : Tk s a) : toks s = some a := by
 have := h [] (.inl rfl)
 rw [List.append_nil] at this
 rw [this]
 simp [toks_nil]
theorem Tk.nil : Tk [] [] := Tk.of toks_nil
theorem Tk.wr {t : Tok} (hm : mayT t = true) : Tk (wrT t) [t] := Tk.of (toks_wr1 t hm)
theorem Tk.app {s t : List UInt8} {a b : List Tok} (h : Tk s a) (k : Tk t b) (e : t = [] ∨ Edgy t) : Tk (s ++ t) (a ++ b) := fun rest hr => by
 rw [List.append_assoc, h (t ++ rest) (by rcases e with rfl | e; exact hr; exact e.edge rest), k rest hr]
 cases toks rest <;> simp
theorem Tk.blank {s : List UInt8} {a : List Tok} (h : Tk s a) : Tk (32 :: s) a := fun rest hr => by
 rw [List.cons_append, toks_blank 32 _ (by decide)]
 exact h rest hr
theorem Tk.sign {c : UInt8} {s : List UInt8} {a : List Tok} (hc : signB c = true) (h : Tk s a) : Tk (c :: s) (⟨4, [c]⟩ :: a) := fun rest hr => by
 obtain ⟨f1, f2, f3, f4⟩ := sign_facts c hc
 have hf : firstT ([c] ++ (s ++ rest)) = (⟨4, [c]⟩, ([c] : List UInt8).length) := by
  show firstT (c :: (s ++ rest)) = _
  unfold firstT
  have l1 : lenRun letB partB (c :: (s ++ rest)) = 0 := by unfold lenRun; simp [f1]
  have l2 : lenRun digB digB (c :: (s ++ rest)) = 0 := by unfold lenRun; simp [f2]
  rw [l1, l2]
  simp only [Nat.lt_irrefl, if_false]
  rw [if_neg f3]
  rfl
 have := toks_of_first [c] (s ++ rest) ⟨4, [c]⟩ c [] rfl f4 (show oneSign [c] = true from hc) hf
 rw [List.cons_append]
 rw [show c :: (s ++ rest) = [c] ++ (s ++ rest) from rfl, this, h rest hr]
 cases toks rest <;> simp
theorem Tk.word {x s : List UInt8} {a : List Tok} (hx : nameB x = true) (h : Tk s a) (e : s = [] ∨ Edgy s) : Tk (x ++ s) (⟨1, x⟩ :: a) := by
 have := (Tk.wr (t := ⟨1, x⟩) hx).app h e
 exact this
theorem Tk.num {x s : List UInt8} {a : List Tok} (hx : runB 19 digB digB x = true) (h : Tk s a) (e : s = [] ∨ Edgy s) : Tk (x ++ s) (⟨2, x⟩ :: a) := by
 have := (Tk.wr (t := ⟨2, x⟩) hx).app h e
 exact this
end Go.Proofs.YtchilcchogcibaaGreatDoor
namespace Go.Proofs.YtchilcchogcibaaGreatDoor
open Go.RowKit
attribute [local go_sem] ByteArray.extract_mk ba_get ba_append
attribute [local go_sem ↓] Go.wp_at_zero Go.wp_at_succ
theorem rdigit_any (c : UInt8) (w : World) : Calls Tryz.prog 117 #[.int .u8 (c.toNat : Int)] w (RetB (digB c) w) := by
 by_cases h1 : 48 ≤ c.toNat
 ·have p1 : (48 : Int) ≤ (c.toNat : Int) := by omega
  by_cases h2 : c.toNat ≤ 57
  ·have p2 : (c.toNat : Int) ≤ 57 := by omega
   go_enter Tryz.func117, Tryz.ntmps117
   go_wp2
   go_ret
   exact ⟨by simp [digB, h1, h2], rfl⟩
  ·have p2 : ¬ (c.toNat : Int) ≤ 57 := by omega
   go_enter Tryz.func117, Tryz.ntmps117
   go_wp2
   go_ret
   exact ⟨by simp [digB, h2], rfl⟩
 ·have p1 : ¬ (48 : Int) ≤ (c.toNat : Int) := by omega
  go_enter Tryz.func117, Tryz.ntmps117
  go_wp2
  go_ret
  exact ⟨by simp [digB, h1], rfl⟩
theorem rletter_any (c : UInt8) (w : World) : Calls Tryz.prog 115 #[.int .u8 (c.toNat : Int)] w (RetB (letB c) w) := by
 by_cases h3 : 65 ≤ c.toNat
 ·have p3 : (65 : Int) ≤ (c.toNat : Int) := by omega
  by_cases h4 : c.toNat ≤ 90
  ·have p4 : (c.toNat : Int) ≤ 90 := by omega
   go_enter Tryz.func115, Tryz.ntmps115
   go_wp2
   go_ret
   exact ⟨by simp [letB, h3, h4], rfl⟩
  ·have p4 : ¬ (c.toNat : Int) ≤ 90 := by omega
   by_cases h1 : 97 ≤ c.toNat
   ·have p1 : (97 : Int) ≤ (c.toNat : Int) := by omega
    by_cases h2 : c.toNat ≤ 122
    ·have p2 : (c.toNat : Int) ≤ 122 := by omega
     go_enter Tryz.func115, Tryz.ntmps115
     go_wp2
     go_ret
     exact ⟨by simp [letB, h1, h2], rfl⟩
    ·have p2 : ¬ (c.toNat : Int) ≤ 122 := by omega
     go_enter Tryz.func115, Tryz.ntmps115
     go_wp2
     go_ret
     exact ⟨by simp [letB, h2, h4], rfl⟩
   ·have p1 : ¬ (97 : Int) ≤ (c.toNat : Int) := by omega
    go_enter Tryz.func115, Tryz.ntmps115
    go_wp2
    go_ret
    exact ⟨by simp [letB, h1, h4], rfl⟩
 ·have p3 : ¬ (65 : Int) ≤ (c.toNat : Int) := by omega
  have p1 : ¬ (97 : Int) ≤ (c.toNat : Int) := by omega
  have h1 : ¬ 97 ≤ c.toNat := by omega
  go_enter Tryz.func115, Tryz.ntmps115
  go_wp2
  go_ret
  exact ⟨by simp [letB, h1, h3], rfl⟩
theorem rpart_any (c : UInt8) (w : World) : Calls Tryz.prog 116 #[.int .u8 (c.toNat : Int)] w (RetB (partB c) w) := by
 obtain ⟨R, hR⟩ : ∃ R, partB c = R := ⟨_, rfl⟩
 rw [hR]
 cases hd : digB c
 ·have HD := Lib.hid hd
  cases hl : letB c
  ·have HL := Lib.hid hl
   have HP : Hid (R = ((c.toNat : Int) == 95)) := by
    show _ = _
    rw [← hR]
    unfold partB
    rw [hl, hd]
    by_cases h : c.toNat = 95
    ·simp [h]
    ·have : ¬ ((c.toNat : Int) = 95) := by omega
     simp [h, this]
   clear hl hd hR
   go_enter Tryz.func116, Tryz.ntmps116
   go_wp2_with (first | (go_at_call 117; refine (rdigit_any c _).mono ?_; rw [HD.out]; rintro e w' ⟨rfl, rfl⟩) | (go_at_call 115; refine (rletter_any c _).mono ?_; rw [HL.out]; rintro e w' ⟨rfl, rfl⟩))
   go_ret
   exact ⟨by rw [HP.out]; rfl, rfl⟩
  ·have HL := Lib.hid hl
   have HP : Hid (R = true) := by show _ = _; rw [← hR]; unfold partB; rw [hl]; rfl
   clear hl hd hR
   go_enter Tryz.func116, Tryz.ntmps116
   go_wp2_with (first | (go_at_call 117; refine (rdigit_any c _).mono ?_; rw [HD.out]; rintro e w' ⟨rfl, rfl⟩) | (go_at_call 115; refine (rletter_any c _).mono ?_; rw [HL.out]; rintro e w' ⟨rfl, rfl⟩))
   go_ret
   exact ⟨by rw [HP.out]; rfl, rfl⟩
 ·have HD := Lib.hid hd
  have HP : Hid (R = true) := by show _ = _; rw [← hR]; unfold partB; rw [hd]; simp
  clear hd hR
  go_enter Tryz.func116, Tryz.ntmps116
  go_wp2_with (go_at_call 117; refine (rdigit_any c _).mono ?_; rw [HD.out]; rintro e w' ⟨rfl, rfl⟩)
  go_ret
  exact ⟨by rw [HP.out]; rfl, rfl⟩
/-- A name, as the document says. -/
theorem takeWhile_len (g : UInt8 → Bool) : ∀ r : List UInt8, ((r.takeWhile g).length = r.length) ↔ r.all g = true
 | [] => by simp
 | c :: r => by
  have ih := takeWhile_len g r
  rw [List.takeWhile_cons, List.all_cons]
  cases hg : g c
  ·simp
  ·simp only [if_true, List.length_cons, Bool.true_and]
   rw [← ih]
   omega
def headB (f : UInt8 → Bool) : List UInt8 → Bool
 | [] => false
 | c :: _ => f c
theorem runB_name (m : Nat) (f g : UInt8 → Bool) (hfg : ∀ c, f c = true → g c = true) (s : List UInt8) : runB m f g s = (s.all g && (decide (1 ≤ s.length) && decide (s.length ≤ m) && headB f s)) := by
 unfold runB
 cases s with
 | nil => simp
 | cons c r =>
  have hl : lenRun f g (c :: r) = if f c then 1 + (r.takeWhile g).length else 0 := rfl
  rw [hl]
  cases hf : f c
  ·have : headB f (c :: r) = false := hf
   rw [this]
   simp
  ·have hg := hfg c hf
   have hh : headB f (c :: r) = true := hf
   have key : ((1 + (r.takeWhile g).length) == (c :: r).length) = r.all g := by
    rw [Bool.eq_iff_iff, beq_iff_eq, ← takeWhile_len, List.length_cons]
    omega
   rw [hh, List.all_cons, hg]
   simp only [if_true, key, Bool.true_and, Bool.and_true]
   cases r.all g <;> simp
theorem all_at (g : UInt8 → Bool) (s : List UInt8) (j : Nat) (hj : j < s.length) : (s.drop j).all g = (g s[j] && (s.drop (j + 1)).all g) := by
 rw [List.drop_eq_getElem_cons hj, List.all_cons]
set_option maxHeartbeats 1000000 in
theorem rname_any (s : List UInt8) (w : World) (hs : s.length ≤ 1000000) : Calls Tryz.prog 70 #[.string ⟨s.toArray⟩] w (RetB (runB 16 letB partB s) w) := by
 obtain ⟨R, hR⟩ : ∃ R, runB 16 letB partB s = R := ⟨_, rfl⟩
 rw [hR]
 rw [runB_name 16 letB partB (fun c h => by unfold partB; rw [h]; rfl)] at hR
 obtain ⟨T, hT⟩ : ∃ T, (decide (1 ≤ s.length) && decide (s.length ≤ 16) && headB letB s) = T := ⟨_, rfl⟩
 rw [hT] at hR
 have HT := Lib.hid hT
 have HR : Hid (((s.drop 0).all partB && T) = R) := hR
 clear hT hR
 go_enter Tryz.func70, Tryz.ntmps70
 go_wp2
 go_loopg [3] s.length (fun g i wr => ∃ j : Nat, j + g = s.length ∧ i = .int .i64 j ∧ Hid (((s.drop j).all partB && T) = R) ∧ wr = w)
 case atStart => exact ⟨0, by omega, rfl, HR, rfl⟩
 case round =>
  obtain ⟨j, hj, rfl, hrest, rfl⟩ := hrel
  have HJ := Lib.hid hj
  by_cases hlt : j < s.length
  ·obtain ⟨c, hcg⟩ : ∃ c, s[j] = c := ⟨_, rfl⟩
   have hrest' := hrest.out
   rw [all_at _ _ _ hlt, hcg] at hrest'
   obtain ⟨g', rfl⟩ : ∃ g', gk = g' + 1 := ⟨gk - 1, by omega⟩
   clear hj hrest
   cases hq : partB c
   ·have HF : Hid (R = false) := by show R = false; rw [← hrest', hq]; rfl
    have HQ := Lib.hid hq
    clear hrest' hq
    go_wp2_with (go_at_call 116; refine (rpart_any c _).mono ?_; rw [HQ.out]; rintro e w' ⟨rfl, rfl⟩)
    go_ret
    exact ⟨by rw [HF.out]; rfl, rfl⟩
   ·have HF : Hid (((s.drop (j + 1)).all partB && T) = R) := by show _ = R; rw [← hrest', hq]; rfl
    have HQ := Lib.hid hq
    clear hrest' hq
    go_wp2_with (go_at_call 116; refine (rpart_any c _).mono ?_; rw [HQ.out]; rintro e w' ⟨rfl, rfl⟩)
    go_roundg g'
    case measure => omega
    case rel => exact ⟨j + 1, by have := HJ.out; omega, by go_num, HF, rfl⟩
  ·have HF : Hid (R = T) := by
    show R = T
    rw [← hrest.out, List.drop_of_length_le (by omega)]
    rfl
   clear hj hrest HR
   by_cases h1 : 1 ≤ s.length
   ·by_cases h16 : s.length ≤ 16
    ·obtain ⟨c, hc⟩ : ∃ c, s[0] = c := ⟨_, rfl⟩
     have HTL : Hid (T = letB c) := by
      show _ = _
      rw [← HT.out, ← hc]
      cases s with
      | nil => simp at h1
      | cons a r => simp at h16; simp [h16, headB]
     have h2 : (s.length : Int) ≤ 16 := by omega
     have h3 : (1 : Int) ≤ s.length := by omega
     clear HT
     go_wp2_with (go_at_call 115; refine (rletter_any c _).mono ?_; rintro e w' ⟨rfl, rfl⟩)
     go_ret
     exact ⟨by rw [HF.out, HTL.out]; rfl, rfl⟩
    ·have HTL : Hid (T = false) := by show _ = _; rw [← HT.out]; simp [h16]
     have h2 : ¬ (s.length : Int) ≤ 16 := by omega
     have h3 : (1 : Int) ≤ s.length := by omega
     clear HT
     go_wp2_with fail
     go_ret
     exact ⟨by rw [HF.out, HTL.out]; rfl, rfl⟩
   ·have HTL : Hid (T = false) := by show _ = _; rw [← HT.out]; simp [show ¬ 1 ≤ s.length by omega]
    have h3 : ¬ (1 : Int) ≤ s.length := by omega
    clear HT
    go_wp2_with fail
    go_ret
    exact ⟨by rw [HF.out, HTL.out]; rfl, rfl⟩
theorem runB_digs (s : List UInt8) : runB 19 digB digB s = (s.all digB && (decide (1 ≤ s.length) && decide (s.length ≤ 19))) := by
 rw [runB_name 19 digB digB (fun _ h => h)]
 cases s with
 | nil => rfl
 | cons c r =>
  cases h : digB c
  ·simp [h]
  ·simp [h, headB]
set_option maxHeartbeats 2000000 in
theorem rmayTok_any (k : Int) (s : List UInt8) (w : World) (hs : s.length ≤ 1000000) :
  Calls Tryz.prog 118 #[.agg #[.int .i64 k, .string ⟨s.toArray⟩]] w (Ret (.bool (mayT ⟨k, s⟩)) w) := by
 obtain ⟨R, hR⟩ : ∃ R, mayT ⟨k, s⟩ = R := ⟨_, rfl⟩
 rw [hR]
 by_cases h1 : k = 1
 ·subst h1
  have HR : Hid (R = runB 16 letB partB s) := by show _ = _; rw [← hR]; rfl
  clear hR
  go_enter Tryz.func118, Tryz.ntmps118
  go_wp2_with fail
  refine (rname_any s _ hs).mono ?_
  rintro e w1 ⟨rfl, rfl⟩
  go_wp2_with fail
  go_ret
  exact ⟨by rw [HR.out]; rfl, by exact bl⟩
 by_cases h2 : k = 2
 ·subst h2
  have HR : Hid (((s.drop 0).all digB && (decide (1 ≤ s.length) && decide (s.length ≤ 19))) = R) := by show _ = _; rw [List.drop_zero, ← runB_digs, ← hR]; rfl
  clear hR h1
  go_enter Tryz.func118, Tryz.ntmps118
  go_wp2_with fail
  go_loopg [3] s.length (fun g i wr => ∃ j : Nat, j + g = s.length ∧ i = .int .i64 j ∧ Hid (((s.drop j).all digB && (decide (1 ≤ s.length) && decide (s.length ≤ 19))) = R) ∧ wr = w.alloc (.cells #[.int .i64 2, .string ⟨s.toArray⟩] 128))
  case atStart => exact ⟨0, by omega, rfl, HR, rfl⟩
  case round =>
   obtain ⟨j, hj, rfl, hrest, rfl⟩ := hrel
   have HJ := Lib.hid hj
   by_cases hlt : j < s.length
   ·obtain ⟨c, hcg⟩ : ∃ c, s[j] = c := ⟨_, rfl⟩
    have hrest' := hrest.out
    rw [all_at _ _ _ hlt, hcg] at hrest'
    obtain ⟨g', rfl⟩ : ∃ g', gk = g' + 1 := ⟨gk - 1, by omega⟩
    clear hj hrest
    cases hq : digB c
    ·have HF : Hid (R = false) := by show R = false; rw [← hrest', hq]; rfl
     have HQ := Lib.hid hq
     clear hrest' hq
     go_wp2_with (go_at_call 117; refine (rdigit_any c _).mono ?_; rw [HQ.out]; rintro e w' ⟨rfl, rfl⟩)
     go_ret
     exact ⟨by rw [HF.out]; rfl, by exact bl⟩
    ·have HF : Hid (((s.drop (j + 1)).all digB && (decide (1 ≤ s.length) && decide (s.length ≤ 19))) = R) := by show _ = R; rw [← hrest', hq]; rfl
     have HQ := Lib.hid hq
     clear hrest' hq
     go_wp2_with (go_at_call 117; refine (rdigit_any c _).mono ?_; rw [HQ.out]; rintro e w' ⟨rfl, rfl⟩)
     go_roundg g'
     case measure => omega
     case rel => exact ⟨j + 1, by have := HJ.out; omega, by go_num, HF, rfl⟩
   ·have HF : Hid (R = (decide (1 ≤ s.length) && decide (s.length ≤ 19))) := by
     show R = _
     rw [← hrest.out, List.drop_of_length_le (by omega)]
     rfl
    clear hj hrest HR
    by_cases h1 : 1 ≤ s.length
    ·by_cases h16 : s.length ≤ 19
     ·have HTL : Hid (R = true) := by show _ = _; rw [HF.out]; simp; omega
      have h2 : (s.length : Int) ≤ 19 := by omega
      have h3 : (1 : Int) ≤ s.length := by omega
      go_wp2_with fail
      go_ret
      exact ⟨by rw [HTL.out]; rfl, by exact bl⟩
     ·have HTL : Hid (R = false) := by show _ = _; rw [HF.out]; simp; omega
      have h2 : ¬ (s.length : Int) ≤ 19 := by omega
      have h3 : (1 : Int) ≤ s.length := by omega
      go_wp2_with fail
      go_ret
      exact ⟨by rw [HTL.out]; rfl, by exact bl⟩
    ·have HTL : Hid (R = false) := by show _ = _; rw [HF.out]; simp; omega
     have h3 : ¬ (1 : Int) ≤ s.length := by omega
     go_wp2_with fail
     go_ret
     exact ⟨by rw [HTL.out]; rfl, by exact bl⟩
 by_cases h3 : k = 3
 ·subst h3
  have HR : Hid (R = mayB 2 0 s) := by show _ = _; rw [← hR]; rfl
  clear hR h1 h2
  go_enter Tryz.func118, Tryz.ntmps118
  go_wp2_with fail
  refine (rmay_any 2 0 s _ (by omega)).mono ?_
  rintro e w1 ⟨rfl, hb1⟩
  rw [← HR.out]
  go_wp2_with fail
  go_ret
  exact ⟨rfl, by exact bl⟩
 by_cases h4 : k = 4
 ·subst h4
  have HR : Hid (R = oneSign s) := by show _ = _; rw [← hR]; rfl
  clear hR h1 h2 h3
  match s, HR with
  | [], HR =>
   go_enter Tryz.func118, Tryz.ntmps118
   go_wp2_with fail
   go_ret
   exact ⟨by rw [HR.out]; rfl, by exact bl⟩
  | [c], HR =>
   by_cases hc : signB c = true
   ·have hm : c ∈ signL := by
     unfold signB at hc
     simp only [decide_eq_true_eq] at hc
     exact indexByte_mem _ _ hc
    simp only [signL, List.mem_cons, List.not_mem_nil, or_false] at hm
    have HR2 : Hid (R = true) := by show _ = _; rw [HR.out]; exact hc
    clear HR
    have HR := HR2
    clear HR2
    rcases hm with rfl | rfl | rfl | rfl | rfl | rfl | rfl | rfl
    all_goals
     go_enter Tryz.func118, Tryz.ntmps118
     go_wp2_with fail
     go_ret
     exact ⟨by rw [HR.out]; rfl, by exact bl⟩
   ·have n1 : (c == 40) = false := by rw [beq_eq_false_iff_ne]; intro e; subst e; exact hc (by decide)
    have n2 : (c == 41) = false := by rw [beq_eq_false_iff_ne]; intro e; subst e; exact hc (by decide)
    have n3 : (c == 44) = false := by rw [beq_eq_false_iff_ne]; intro e; subst e; exact hc (by decide)
    have n4 : (c == 61) = false := by rw [beq_eq_false_iff_ne]; intro e; subst e; exact hc (by decide)
    have n5 : (c == 60) = false := by rw [beq_eq_false_iff_ne]; intro e; subst e; exact hc (by decide)
    have n6 : (c == 43) = false := by rw [beq_eq_false_iff_ne]; intro e; subst e; exact hc (by decide)
    have n7 : (c == 45) = false := by rw [beq_eq_false_iff_ne]; intro e; subst e; exact hc (by decide)
    have n8 : (c == 42) = false := by rw [beq_eq_false_iff_ne]; intro e; subst e; exact hc (by decide)
    have HR2 : Hid (R = false) := by show _ = _; rw [HR.out]; simpa [oneSign] using hc
    clear HR hc
    have HR := HR2
    clear HR2
    go_enter Tryz.func118, Tryz.ntmps118
    go_wp2_with fail
    go_ret
    exact ⟨by rw [HR.out]; rfl, by exact bl⟩
  | c :: d :: r, HR =>
   go_enter Tryz.func118, Tryz.ntmps118
   go_wp2_with fail
   go_ret
   exact ⟨by rw [HR.out]; rfl, by exact bl⟩
 ·have e1 : (k == 1) = false := by simpa using h1
  have e2 : (k == 2) = false := by simpa using h2
  have e3 : (k == 3) = false := by simpa using h3
  have e4 : (k == 4) = false := by simpa using h4
  have HR : Hid (R = false) := by show _ = _; rw [← hR]; simp [mayT, h1, h2, h3, h4]
  clear hR h1 h2 h3 h4
  go_enter Tryz.func118, Tryz.ntmps118
  go_wp2_with fail
  go_ret
  exact ⟨by rw [HR.out]; rfl, by exact bl⟩
end Go.Proofs.YtchilcchogcibaaGreatDoor
