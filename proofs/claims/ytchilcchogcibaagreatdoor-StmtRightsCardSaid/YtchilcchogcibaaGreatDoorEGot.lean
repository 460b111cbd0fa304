/- Statements and grants in memory; Statements, in plain words; The document's reserved words, names and Ops of two parts, as plain functions; The document's form, nodes and May of an expression, as plain functions; Words for a drawn region of calls that answer memory, and of one new variable. -/
import Derived.Test.YtchilcchogcibaaGreatDoorERelW
namespace Go.Proofs.YtchilcchogcibaaGreatDoor
open Go.RowKit
structure Rf where
 c : List UInt8
 t : List UInt8
structure Se where
 n : List UInt8
 e : Ex
structure St where
 op : List UInt8
 tb : List UInt8
 ot : List UInt8
 names : List (List UInt8)
 cols : List Col
 key : List UInt8
 uniq : List (List UInt8)
 refs : List Rf
 chk : Ex
 row : List V
 sets : List Se
 whr : Ex
 role : List UInt8
structure StP where
 names : Sl
 cols : Sl
 uniq : Sl
 refs : Sl
 chk : Sl
 row : Sl
 sets : Sl
 whr : Sl
structure Gr where
 r : List UInt8
 t : List UInt8
 w : Bool
def St.cells (s : St) (p : StP) : List Value :=
 [.string ⟨s.op.toArray⟩, .string ⟨s.tb.toArray⟩, .string ⟨s.ot.toArray⟩, .slice p.names.a s.names.length p.names.c, .slice p.cols.a s.cols.length p.cols.c, .string ⟨s.key.toArray⟩, .slice p.uniq.a s.uniq.length p.uniq.c, .slice p.refs.a s.refs.length p.refs.c,
  .string ⟨s.chk.op.toArray⟩, .int .i64 s.chk.v.k, .int .i64 s.chk.v.i, .string ⟨s.chk.v.s.toArray⟩, .string ⟨s.chk.s.toArray⟩, .slice p.chk.a s.chk.l.length p.chk.c, .slice p.row.a s.row.length p.row.c, .slice p.sets.a s.sets.length p.sets.c,
  .string ⟨s.whr.op.toArray⟩, .int .i64 s.whr.v.k, .int .i64 s.whr.v.i, .string ⟨s.whr.v.s.toArray⟩, .string ⟨s.whr.s.toArray⟩, .slice p.whr.a s.whr.l.length p.whr.c, .string ⟨s.role.toArray⟩]
def SQ (l : List (List UInt8)) (A : Option Addr) (Q : Nat → Prop) (w : World) : Prop := 0 < l.length → ∃ b off, A = some ⟨b, off, none⟩ ∧ Q b ∧ ∀ i x, l[i]? = some x → w.cell? ⟨b, off + i, none⟩ = some (.string ⟨x.toArray⟩)
def XQ (l : List Rf) (A : Option Addr) (Q : Nat → Prop) (w : World) : Prop := 0 < l.length → ∃ b off, A = some ⟨b, off, none⟩ ∧ Q b ∧ ∀ i x, l[i]? = some x → w.cell? ⟨b, off + i * 2, none⟩ = some (.string ⟨x.c.toArray⟩) ∧ w.cell? ⟨b, off + i * 2 + 1, none⟩ = some (.string ⟨x.t.toArray⟩)
def ZQ (K n : Nat) (l : List Se) (A : Option Addr) (Q : Nat → Prop) (w : World) : Prop := 0 < l.length → ∃ b off, A = some ⟨b, off, none⟩ ∧ Q b ∧ ∀ i x, l[i]? = some x → w.cell? ⟨b, off + i * 7, none⟩ = some (.string ⟨x.n.toArray⟩) ∧
 ∃ A' c', x.e.fit K ∧ x.e.l.length ≤ c' ∧ c' ≤ maxLen ∧ Six w b (off + i * 7 + 1) x.e A' c' ∧ ExQ K n w Q A' x.e.l
def GQ (l : List Gr) (A : Option Addr) (Q : Nat → Prop) (w : World) : Prop := 0 < l.length → ∃ b off, A = some ⟨b, off, none⟩ ∧ Q b ∧ ∀ i x, l[i]? = some x → w.cell? ⟨b, off + i * 3, none⟩ = some (.string ⟨x.r.toArray⟩) ∧ w.cell? ⟨b, off + i * 3 + 1, none⟩ = some (.string ⟨x.t.toArray⟩) ∧ w.cell? ⟨b, off + i * 3 + 2, none⟩ = some (.bool x.w)
section
variable {A : Option Addr} {Q Q' : Nat → Prop} {w w' : World}
theorem SQ.keep {l : List (List UInt8)} (h : SQ l A Q w) (hk : ∀ b, Q b → Q' b ∧ ∀ o, w'.cell? ⟨b, o, none⟩ = w.cell? ⟨b, o, none⟩) : SQ l A Q' w' := fun hl => by
 obtain ⟨b, off, rfl, h1, h2⟩ := h hl
 exact ⟨b, off, rfl, (hk b h1).1, fun i x hx => ((hk b h1).2 _).trans (h2 i x hx)⟩
theorem XQ.keep {l : List Rf} (h : XQ l A Q w) (hk : ∀ b, Q b → Q' b ∧ ∀ o, w'.cell? ⟨b, o, none⟩ = w.cell? ⟨b, o, none⟩) : XQ l A Q' w' := fun hl => by
 obtain ⟨b, off, rfl, h1, h2⟩ := h hl
 exact ⟨b, off, rfl, (hk b h1).1, fun i x hx => ⟨((hk b h1).2 _).trans (h2 i x hx).1, ((hk b h1).2 _).trans (h2 i x hx).2⟩⟩
theorem ZQ.keep {K n : Nat} {l : List Se} (h : ZQ K n l A Q w) (hk : ∀ b, Q b → Q' b ∧ ∀ o, w'.cell? ⟨b, o, none⟩ = w.cell? ⟨b, o, none⟩) : ZQ K n l A Q' w' := fun hl => by
 obtain ⟨b, off, rfl, h1, h2⟩ := h hl
 refine ⟨b, off, rfl, (hk b h1).1, fun i x hx => ?_⟩
 obtain ⟨c0, A', c', f, g1, g2, g3, g4⟩ := h2 i x hx
 exact ⟨((hk b h1).2 _).trans c0, A', c', f, g1, g2, g3.keep (hk b h1).2, g4.keep hk n⟩
theorem ZQ.ups {K n m : Nat} {l : List Se} (h : ZQ K n l A Q w) (hm : n ≤ m) : ZQ K m l A Q w := fun hl => by
 obtain ⟨b, off, rfl, h1, h2⟩ := h hl
 refine ⟨b, off, rfl, h1, fun i x hx => ?_⟩
 obtain ⟨c0, A', c', f, g1, g2, g3, g4⟩ := h2 i x hx
 exact ⟨c0, A', c', f, g1, g2, g3, g4.ups m hm⟩
theorem GQ.keep {l : List Gr} (h : GQ l A Q w) (hk : ∀ b, Q b → Q' b ∧ ∀ o, w'.cell? ⟨b, o, none⟩ = w.cell? ⟨b, o, none⟩) : GQ l A Q' w' := fun hl => by
 obtain ⟨b, off, rfl, h1, h2⟩ := h hl
 exact ⟨b, off, rfl, (hk b h1).1, fun i x hx => ⟨((hk b h1).2 _).trans (h2 i x hx).1, ((hk b h1).2 _).trans (h2 i x hx).2.1, ((hk b h1).2 _).trans (h2 i x hx).2.2⟩⟩
theorem SQ.nil : SQ [] A Q w := fun h => absurd h (by simp)
theorem XQ.nil : XQ [] A Q w := fun h => absurd h (by simp)
theorem ZQ.nil {K n : Nat} : ZQ K n [] A Q w := fun h => absurd h (by simp)
theorem GQ.nil : GQ [] A Q w := fun h => absurd h (by simp)
theorem SQ.at_ {l : List (List UInt8)} (h : SQ l A Q w) {j : Nat} (hj : j < l.length) : ∃ b off x, A = some ⟨b, off, none⟩ ∧ Q b ∧ l[j]? = some x ∧ w.cell? ⟨b, off + j, none⟩ = some (.string ⟨x.toArray⟩) := by
 obtain ⟨b, off, rfl, hb, hr⟩ := h (by omega)
 exact ⟨b, off, l[j], rfl, hb, List.getElem?_eq_getElem hj, hr j _ (List.getElem?_eq_getElem hj)⟩
theorem XQ.at_ {l : List Rf} (h : XQ l A Q w) {j : Nat} (hj : j < l.length) : ∃ b off x, A = some ⟨b, off, none⟩ ∧ Q b ∧ l[j]? = some x ∧ w.cell? ⟨b, off + j * 2, none⟩ = some (.string ⟨x.c.toArray⟩) ∧ w.cell? ⟨b, off + j * 2 + 1, none⟩ = some (.string ⟨x.t.toArray⟩) := by
 obtain ⟨b, off, rfl, hb, hr⟩ := h (by omega)
 exact ⟨b, off, l[j], rfl, hb, List.getElem?_eq_getElem hj, hr j _ (List.getElem?_eq_getElem hj)⟩
theorem ZQ.at_ {K n : Nat} {l : List Se} (h : ZQ K n l A Q w) {j : Nat} (hj : j < l.length) : ∃ b off x A' c', A = some ⟨b, off, none⟩ ∧ Q b ∧ l[j]? = some x ∧ w.cell? ⟨b, off + j * 7, none⟩ = some (.string ⟨x.n.toArray⟩) ∧
  x.e.fit K ∧ x.e.l.length ≤ c' ∧ c' ≤ maxLen ∧ Six w b (off + j * 7 + 1) x.e A' c' ∧ ExQ K n w Q A' x.e.l := by
 obtain ⟨b, off, rfl, hb, hr⟩ := h (by omega)
 obtain ⟨c0, A', c', f, g1, g2, g3, g4⟩ := hr j _ (List.getElem?_eq_getElem hj)
 exact ⟨b, off, l[j], A', c', rfl, hb, List.getElem?_eq_getElem hj, c0, f, g1, g2, g3, g4⟩
theorem GQ.at_ {l : List Gr} (h : GQ l A Q w) {j : Nat} (hj : j < l.length) : ∃ b off x, A = some ⟨b, off, none⟩ ∧ Q b ∧ l[j]? = some x ∧ w.cell? ⟨b, off + j * 3, none⟩ = some (.string ⟨x.r.toArray⟩) ∧ w.cell? ⟨b, off + j * 3 + 1, none⟩ = some (.string ⟨x.t.toArray⟩) ∧ w.cell? ⟨b, off + j * 3 + 2, none⟩ = some (.bool x.w) := by
 obtain ⟨b, off, rfl, hb, hr⟩ := h (by omega)
 exact ⟨b, off, l[j], rfl, hb, List.getElem?_eq_getElem hj, hr j _ (List.getElem?_eq_getElem hj)⟩
end
def StQ (K : Nat) (s : St) (p : StP) (Q : Nat → Prop) (w : World) : Prop :=
 SQ s.names p.names.a Q w ∧ CQ s.cols p.cols.a Q w ∧ SQ s.uniq p.uniq.a Q w ∧ XQ s.refs p.refs.a Q w ∧ (∃ n, ExQ K n w Q p.chk.a s.chk.l) ∧ WQ s.row p.row.a Q w ∧ (∃ n, ZQ K n s.sets p.sets.a Q w) ∧ ∃ n, ExQ K n w Q p.whr.a s.whr.l
theorem StQ.keep {K : Nat} {s : St} {p : StP} {Q Q' : Nat → Prop} {w w' : World} (h : StQ K s p Q w) (hk : ∀ b, Q b → Q' b ∧ ∀ o, w'.cell? ⟨b, o, none⟩ = w.cell? ⟨b, o, none⟩) : StQ K s p Q' w' := by
 obtain ⟨h1, h2, h3, h4, ⟨n, h5⟩, h6, ⟨m, h7⟩, k, h8⟩ := h
 exact ⟨h1.keep hk, h2.keep hk, h3.keep hk, h4.keep hk, ⟨n, h5.keep hk n⟩, h6.keep hk, ⟨m, h7.keep hk⟩, k, h8.keep hk k⟩
def nameG (s : List UInt8) : Bool := nameB s && !reserved s
def noneE (e : Ex) : Bool := e.op.isEmpty && veq e.v V.zero && e.s.isEmpty && e.l.isEmpty
def perhapsE (e : Ex) : Bool := noneE e || mayX e
def manyB {α : Type} (l : List α) (lo hi : Nat) (p : α → Bool) : Bool := decide (lo ≤ l.length) && decide (l.length ≤ hi) && l.all p
def colOkB (c : Col) : Bool := nameG c.n && decide (1 ≤ c.t) && decide (c.t ≤ 3)
def refOkB (r : Rf) : Bool := nameG r.c && nameG r.t
def setOkB (x : Se) : Bool := nameG x.n && mayX x.e
def emptyS (s : St) : Bool := (s.tb ++ s.ot ++ s.key ++ s.role).isEmpty && decide (s.names.length + s.cols.length + s.uniq.length + s.refs.length + s.row.length + s.sets.length = 0) && noneE s.chk && noneE s.whr
def creS (s : St) : Bool := manyB s.cols 1 8 colOkB && nameG s.key && manyB s.uniq 0 8 nameG && manyB s.refs 0 8 refOkB && perhapsE s.chk
def oCreate : List UInt8 := [99, 114, 101, 97, 116, 101]
def oDrop : List UInt8 := [100, 114, 111, 112]
def oInsert : List UInt8 := [105, 110, 115, 101, 114, 116]
def oUpdate : List UInt8 := [117, 112, 100, 97, 116, 101]
def oDelete : List UInt8 := [100, 101, 108, 101, 116, 101]
def oSelect : List UInt8 := [115, 101, 108, 101, 99, 116]
def oRead : List UInt8 := [114, 101, 97, 100]
def oWrite : List UInt8 := [119, 114, 105, 116, 101]
def oUnread : List UInt8 := [117, 110, 114, 101, 97, 100]
def oUnwrite : List UInt8 := [117, 110, 119, 114, 105, 116, 101]
def oCopy : List UInt8 := [99, 111, 112, 121]
def oJoin : List UInt8 := [106, 111, 105, 110]
def oGroup : List UInt8 := [103, 114, 111, 117, 112]
def partsS (s : St) : Bool :=
 if s.op = oCreate then nameG s.tb && creS s && emptyS { s with tb := [], cols := [], key := [], uniq := [], refs := [], chk := exZero }
 else if s.op = oDrop then nameG s.tb && emptyS { s with tb := [] }
 else if s.op = oInsert then nameG s.tb && manyB s.row 1 12 (fun v => mayB v.k v.i v.s) && emptyS { s with tb := [], row := [] }
 else if s.op = oUpdate then nameG s.tb && manyB s.sets 1 8 setOkB && perhapsE s.whr && emptyS { s with tb := [], sets := [], whr := exZero }
 else if s.op = oDelete ∨ s.op = oSelect then nameG s.tb && perhapsE s.whr && emptyS { s with tb := [], whr := exZero }
 else if s.op = oRead ∨ s.op = oWrite ∨ s.op = oUnread ∨ s.op = oUnwrite then nameG s.tb && nameG s.role && emptyS { s with tb := [], role := [] }
 else if s.op = oCopy then nameG s.tb && nameG s.ot && manyB s.names 1 8 nameG && perhapsE s.chk && emptyS { s with tb := [], ot := [], names := [], chk := exZero }
 else if s.op = oJoin then nameG s.tb && nameG s.ot && nameG s.key && nameG s.role && perhapsE s.chk && emptyS { s with tb := [], ot := [], key := [], role := [], chk := exZero }
 else if s.op = oGroup then nameG s.tb && nameG s.ot && manyB s.names 2 2 nameG && perhapsE s.chk && emptyS { s with tb := [], ot := [], names := [], chk := exZero }
 else false
def upperB (l : List UInt8) : List UInt8 := l.map fun c => if 97 ≤ c ∧ c ≤ 122 then c - 32 else c
def textN : Nat → Ex → List UInt8
 | 0, _ => []
 | n + 1, e =>
  if e.op = opLit then textF e.v.k e.v.i e.v.s
  else if e.op = opCol then e.s
  else if e.op = opNot then [40, 78, 79, 84, 32] ++ textN n (e.l.getD 0 exZero) ++ [41]
  else if e.op = opNull then [40] ++ textN n (e.l.getD 0 exZero) ++ [32, 73, 83, 32, 78, 85, 76, 76, 41]
  else [40] ++ textN n (e.l.getD 0 exZero) ++ [32] ++ upperB e.op ++ [32] ++ textN n (e.l.getD 1 exZero) ++ [41]
def textX (e : Ex) : List UInt8 := textN 13 e
def whereT (e : Ex) : List UInt8 := if noneE e then [] else [32, 87, 72, 69, 82, 69, 32] ++ textX e
def checkT (a : List UInt8) (e : Ex) : List UInt8 := if noneE e then [] else a ++ [67, 72, 69, 67, 75, 32, 40, 32] ++ textX e ++ [32, 41]
def joinL (sep : List UInt8) : List (List UInt8) → List UInt8
 | [] => []
 | [x] => x
 | x :: y :: r => x ++ sep ++ joinL sep (y :: r)
def comma : List UInt8 := [32, 44, 32]
def typeT (t : Int) : List UInt8 := if t = 1 then [73, 78, 84] else if t = 2 then [84, 69, 88, 84] else [66, 79, 79, 76]
def colT (c : Col) : List UInt8 := c.n ++ [32] ++ typeT c.t ++ (if c.b then [32, 78, 79, 84, 32, 78, 85, 76, 76] else [])
def setT (x : Se) : List UInt8 := x.n ++ [32, 61, 32] ++ textX x.e
def uniqT (l : List (List UInt8)) : List UInt8 := l.flatMap fun c => [32, 44, 32, 85, 78, 73, 81, 85, 69, 32, 40, 32] ++ c ++ [32, 41]
def refsT (l : List Rf) : List UInt8 := l.flatMap fun r => [32, 44, 32, 82, 69, 70, 69, 82, 69, 78, 67, 69, 83, 32, 40, 32] ++ r.c ++ [32, 41, 32] ++ r.t
def migT (s : St) : List UInt8 := [77, 73, 71, 82, 65, 84, 69, 32] ++ upperB s.op ++ [32] ++ s.tb ++ [32, 70, 82, 79, 77, 32] ++ s.ot
def textS (s : St) : List UInt8 :=
 if s.op = oCreate then [67, 82, 69, 65, 84, 69, 32, 84, 65, 66, 76, 69, 32] ++ s.tb ++ [32, 40, 32] ++ joinL comma (s.cols.map colT) ++ [32, 44, 32, 75, 69, 89, 32, 40, 32] ++ s.key ++ [32, 41] ++ uniqT s.uniq ++ refsT s.refs ++ checkT comma s.chk ++ [32, 41]
 else if s.op = oDrop then [68, 82, 79, 80, 32, 84, 65, 66, 76, 69, 32] ++ s.tb
 else if s.op = oInsert then [73, 78, 83, 69, 82, 84, 32, 73, 78, 84, 79, 32] ++ s.tb ++ [32, 86, 65, 76, 85, 69, 83, 32, 40, 32] ++ joinL comma (s.row.map fun v => textF v.k v.i v.s) ++ [32, 41]
 else if s.op = oUpdate then [85, 80, 68, 65, 84, 69, 32] ++ s.tb ++ [32, 83, 69, 84, 32] ++ joinL comma (s.sets.map setT) ++ whereT s.whr
 else if s.op = oDelete then [68, 69, 76, 69, 84, 69, 32, 70, 82, 79, 77, 32] ++ s.tb ++ whereT s.whr
 else if s.op = oSelect then [83, 69, 76, 69, 67, 84, 32, 42, 32, 70, 82, 79, 77, 32] ++ s.tb ++ whereT s.whr
 else if s.op = oRead ∨ s.op = oWrite then [71, 82, 65, 78, 84, 32] ++ upperB s.op ++ [32, 79, 78, 32] ++ s.tb ++ [32, 84, 79, 32] ++ s.role
 else if s.op = oUnread ∨ s.op = oUnwrite then [82, 69, 86, 79, 75, 69, 32] ++ upperB (s.op.drop 2) ++ [32, 79, 78, 32] ++ s.tb ++ [32, 70, 82, 79, 77, 32] ++ s.role
 else if s.op = oCopy then migT s ++ [32, 40, 32] ++ joinL comma s.names ++ [32, 41] ++ checkT [32] s.chk
 else if s.op = oJoin then migT s ++ [32, 44, 32] ++ s.role ++ [32, 79, 78, 32] ++ s.key ++ checkT [32] s.chk
 else migT s ++ [32, 66, 89, 32] ++ s.names.getD 0 [] ++ [32, 83, 85, 77, 32] ++ s.names.getD 1 [] ++ checkT [32] s.chk
def mayS (s : St) : Bool := partsS s && (cutT (textS s)).isSome
end Go.Proofs.YtchilcchogcibaaGreatDoor
namespace Go.Proofs.YtchilcchogcibaaGreatDoor
open Go.RowKit
attribute [local go_sem] ByteArray.extract_mk ba_get ba_append
attribute [local go_sem ↓] Go.wp_at_zero Go.wp_at_succ
def twoB (op : List UInt8) : Bool := decide (op = opAnd ∨ op = opOr ∨ op = opEq ∨ op = opLt ∨ op = opPlus ∨ op = opMinus)
end Go.Proofs.YtchilcchogcibaaGreatDoor
namespace Go.Proofs.YtchilcchogcibaaGreatDoor
open Go.RowKit
attribute [local go_sem] ByteArray.extract_mk ba_get ba_append
attribute [local go_sem ↓] Go.wp_at_zero Go.wp_at_succ run_eql_V run_neq_V
def ex0 : Ex := .mk [] V.zero [] []
def formE : Nat → Ex → Bool
 | 0, _ => false
 | d + 1, e =>
  if e.op = opLit then mayB e.v.k e.v.i e.v.s && ((e.s == []) && decide (e.l.length = 0))
  else if e.op = opCol then veq e.v V.zero && (nameB e.s && (!reserved e.s && decide (e.l.length = 0)))
  else if e.op = opNot ∨ e.op = opNull then veq e.v V.zero && ((e.s == []) && (decide (e.l.length = 1) && formE d (e.l.getD 0 ex0)))
  else if twoB e.op = true then veq e.v V.zero && ((e.s == []) && (decide (e.l.length = 2) && (formE d (e.l.getD 0 ex0) && formE d (e.l.getD 1 ex0))))
  else false
theorem six0 {K n : Nat} {w : World} {B : Nat} {A : Option Addr} {l : List Ex} (h : ExS K n w B A l) {j : Nat} (hj : j < l.length) :
  ∃ m b off e A' c', n = m + 1 ∧ A = some ⟨b, off, none⟩ ∧ b < B ∧ l[j]? = some e ∧ l.getD j ex0 = e ∧ e.fit K ∧ e.l.length ≤ c' ∧ c' ≤ maxLen ∧ Six w b (off + j * 6) e A' c' ∧ ExS K m w B A' e.l := by
 cases n with
 | zero => rw [show l = [] from h] at hj; simp at hj
 | succ m =>
  obtain ⟨b, off, e, A', c', h1, h2, h3, h4, h5, h6, h7, h8⟩ := h.at_ hj
  exact ⟨m, b, off, e, A', c', rfl, h1, h2, h3, by rw [List.getD_eq_getElem?_getD, h3]; rfl, h4, h5, h6, h7, h8⟩
end Go.Proofs.YtchilcchogcibaaGreatDoor
namespace Go.Proofs.YtchilcchogcibaaGreatDoor
open Go.RowKit
def GotX (E : Ex) (u : Value) (Q : Nat → Prop) (w : World) : Prop := ∃ A c, u = .agg #[.string ⟨E.op.toArray⟩, .int .i64 E.v.k, .int .i64 E.v.i, .string ⟨E.v.s.toArray⟩, .string ⟨E.s.toArray⟩, .slice A E.l.length c] ∧ ExR Q E A c w
def GotK (l : List Col) (u : Value) (Q : Nat → Prop) (w : World) : Prop := ∃ A c, u = .slice A l.length c ∧ CQ l A Q w
def GotT (t : Tb) (u : Value) (Q : Nat → Prop) (w : World) : Prop := ∃ p : TbP, u = .agg (t.cells p).toArray ∧ TbQ 1000 t p Q w
def Keep1 (G : (Nat → Prop) → World → Prop) : Prop := ∀ (Q Q' : Nat → Prop) (w w' : World), (∀ b, Q b → Q' b ∧ ∀ o, w'.cell? ⟨b, o, none⟩ = w.cell? ⟨b, o, none⟩) → G Q w → G Q' w'
theorem GotX.keeps (E : Ex) (u : Value) : Keep1 (GotX E u) := fun _ _ _ _ hk ⟨A, c, h1, h2⟩ => ⟨A, c, h1, h2.keep hk⟩
theorem GotK.keeps (l : List Col) (u : Value) : Keep1 (GotK l u) := fun _ _ _ _ hk ⟨A, c, h1, h2⟩ => ⟨A, c, h1, h2.keep hk⟩
theorem GotT.keeps (t : Tb) (u : Value) : Keep1 (GotT t u) := fun _ _ _ _ hk ⟨p, h1, h2⟩ => ⟨p, h1, h2.keep hk⟩
def Av1 (L : Array Bool) (i B : Nat) (u : Value) (w : World) (b : Nat) : Prop := (B ≤ b ∧ b < w.heap.size) ∧ (Up L i → u ≠ .pointer (some ⟨b, 0, none⟩))
def New1 (L : Array Bool) (i B : Nat) (t : TypeId) (cs : Array Value) (w : World) (u : Value) : Prop := Up L i → ∃ g, u = .pointer (some ⟨g, 0, none⟩) ∧ B ≤ g ∧ Blk w g t cs
theorem New1.put {L : Array Bool} {i j B : Nat} {t : TypeId} {cs : Array Value} {w w' : World} {u : Value} (h : New1 L j B t cs w u) (hne : i ≠ j) (hb : Below w.heap.size w w') : New1 (L.setIfInBounds i true) j B t cs w' u := fun hu => by
 obtain ⟨g, e, h1, h2⟩ := h (hu.put hne)
 exact ⟨g, e, h1, h2.below hb h2.lt⟩
theorem New1.new {L : Array Bool} {i B : Nat} {t : TypeId} {cs : Array Value} {w : World} (hB : B ≤ w.heap.size) : New1 L i B t cs (w.alloc (.cells cs t)) (.pointer (some ⟨w.heap.size, 0, none⟩)) :=
 fun _ => ⟨_, rfl, hB, Blk.new w _ _⟩
section
variable {L : Array Bool} {i a B k : Nat} {t : TypeId} {cs : Array Value} {U : Value} {w w' : World} {G : (Nat → Prop) → World → Prop}
theorem ptr1_ne {g b : Nat} (h : g ≠ b) : (Value.pointer (some ⟨g, 0, none⟩)) ≠ .pointer (some ⟨b, 0, none⟩) := fun e => by
 injection e with e
 injection e with e
 injection e with e
 exact h e
theorem Av1.call (h1 : i ≠ a) (hb : Below w.heap.size w w') (b : Nat) (h : Av1 L a B U w b) : Av1 (L.setIfInBounds i true) a B U w' b := ⟨⟨h.1.1, Nat.lt_of_lt_of_le h.1.2 hb.size⟩, fun hu => h.2 (hu.put h1)⟩
theorem Av1.new (o : Obj) (b : Nat) (h : Av1 L a B U w b) : Av1 (L.setIfInBounds a true) a B (.pointer (some ⟨w.heap.size, 0, none⟩)) (w.alloc o) b :=
 ⟨by have := h.1; simp; omega, fun _ => ptr1_ne (by have := h.1; omega)⟩
theorem Av1.fresh (hA : New1 L a B t cs w U) (h1 : i ≠ a) (hB : B ≤ w.heap.size) (b : Nat) (h : w.heap.size ≤ b ∧ b < w'.heap.size) : Av1 (L.setIfInBounds i true) a B U w' b :=
 ⟨⟨Nat.le_trans hB h.1, h.2⟩, fun hu => by
  obtain ⟨g, rfl, _, hk⟩ := hA (hu.put h1)
  have := hk.lt
  exact ptr1_ne (by omega)⟩
theorem Av1.parts {g b : Nat} (z1 : Up L a) (h : Av1 L a B (.pointer (some ⟨g, 0, none⟩)) w b) : (B ≤ b ∧ b < w.heap.size) ∧ b ≠ g := ⟨h.1, fun e => h.2 z1 (by rw [e])⟩
def Had1 (L : Array Bool) (k : Nat) (G : (Nat → Prop) → World → Prop) (Q : Nat → Prop) (w : World) : Prop := Up L k → G Q w
theorem Had1.put {U' : Value} (h : Had1 L k G (Av1 L a B U w) w) (hG : Keep1 G) (hne : i ≠ k) (hb : Below w.heap.size w w') (hav : ∀ b, Av1 L a B U w b → Av1 (L.setIfInBounds i true) a B U' w' b) : Had1 (L.setIfInBounds i true) k G (Av1 (L.setIfInBounds i true) a B U' w') w' :=
 fun hu => hG _ _ _ _ (fun b hq => ⟨hav b hq, fun o => hb.cell (p := ⟨b, o, none⟩) hq.1.2⟩) (h (hu.put hne))
end
theorem GotX.fresh {E : Ex} {A : Option Addr} {c : Nat} {w w' : World} {Q : Nat → Prop} (h : ExR (fun b => w.heap.size ≤ b ∧ b < w'.heap.size) E A c w') (hq : ∀ b, w.heap.size ≤ b ∧ b < w'.heap.size → Q b) :
  GotX E (.agg #[.string ⟨E.op.toArray⟩, .int .i64 E.v.k, .int .i64 E.v.i, .string ⟨E.v.s.toArray⟩, .string ⟨E.s.toArray⟩, .slice A E.l.length c]) Q w' := ⟨A, c, rfl, h.keep fun b hb => ⟨hq b hb, fun _ => rfl⟩⟩
theorem GotK.fresh {l : List Col} {A : Option Addr} {c : Nat} {w w' : World} {Q : Nat → Prop} (h : ColF w' w.heap.size w'.heap.size A l) (hq : ∀ b, w.heap.size ≤ b ∧ b < w'.heap.size → Q b) : GotK l (.slice A l.length c) Q w' :=
 ⟨A, c, rfl, CQ.ofF h (fun b h1 h2 => hq b ⟨h1, h2⟩)⟩
end Go.Proofs.YtchilcchogcibaaGreatDoor
