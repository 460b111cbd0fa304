/- lexer.Is, and the parser's take and taken, as plain functions; Expressions whose memory lies in blocks of a kind; caddislaw04.Cols; A variable of six cells is stored anew. -/
import Derived.Test.YtchilcchogcibaaGreatDoorEExpr2
import Derived.Test.YtchilcchogcibaaGreatDoorEJoinLaw
set_option maxRecDepth 100000
set_option maxHeartbeats 2000000
namespace Go.Proofs.YtchilcchogcibaaGreatDoor
open Go.RowKit
attribute [local go_sem] ByteArray.extract_mk ba_get ba_append
attribute [local go_sem ↓] Go.wp_at_zero Go.wp_at_succ run_eql_V run_neq_V
def isB (k : Int) (s word : List UInt8) : Bool := (decide (k = 1) || decide (k = 4)) && s == word
def hit (l : List Tok) (a : Nat) (word : List UInt8) : Bool := match l[a]? with | none => false | some t => isB t.k t.s word
def EnvP (p : Nat) (w : World) : Prop := ∃ W0 : World, Errs W0 ∧ W0.heap.size ≤ p ∧ Below W0.heap.size W0 w
theorem EnvP.below {p : Nat} {w w' : World} (h : EnvP p w) (hb : Below p w w') : EnvP p w' := by
 obtain ⟨W0, h1, h2, h3⟩ := h
 exact ⟨W0, h1, h2, h3.trans (hb.mono h2)⟩
theorem EnvP.more {p q : Nat} {w : World} (h : EnvP p w) (hq : p ≤ q) : EnvP q w := by
 obtain ⟨W0, h1, h2, h3⟩ := h
 exact ⟨W0, h1, Nat.le_trans h2 hq, h3⟩
theorem EnvP.errs {p : Nat} {w : World} (h : EnvP p w) : Errs w := by
 obtain ⟨W0, h1, h2, h3⟩ := h
 exact h1.below h3 rfl
theorem EnvP.of {w : World} (h : Errs w) : EnvP w.heap.size w := ⟨w, h, Nat.le_refl _, Below.refl _ _⟩
def TkE (w : World) (p : Nat) (A : Option Addr) (l : List Tok) : Prop := TkS w p A l ∧ EnvP p w
theorem TkE.below {w w' : World} {p : Nat} {A : Option Addr} {l : List Tok} (h : TkE w p A l) (hb : Below p w w') : TkE w' p A l := ⟨h.1.below hb, h.2.below hb⟩
theorem TkE.at_ {w : World} {p : Nat} {A : Option Addr} {l : List Tok} (h : TkE w p A l) {j : Nat} (hj : j < l.length) :
  ∃ b off v, A = some ⟨b, off, none⟩ ∧ b < p ∧ l[j]? = some v ∧ w.cell? ⟨b, off + j * 2, none⟩ = some (.int .i64 v.k) ∧ w.cell? ⟨b, off + j * 2 + 1, none⟩ = some (.string ⟨v.s.toArray⟩) := h.1.at_ hj
def PSt (p : Nat) (A : Option Addr) (c : Nat) (l : List Tok) (a deep : Nat) (w : World) : Prop :=
 Blk w p 235 #[.slice A l.length c, .int .i64 (a : Nat), .int .i64 (deep : Nat)] ∧ TkE w p A l
theorem PSt.but {p : Nat} {A : Option Addr} {c : Nat} {l : List Tok} {a deep : Nat} {w w' : World} (h : PSt p A c l a deep w) (hb : Below w.heap.size w w') : PSt p A c l a deep w' :=
 ⟨h.1.below hb h.1.lt, h.2.below (hb.mono (Nat.le_of_lt h.1.lt))⟩
theorem is3_any (k : Int) (s word : List UInt8) (w : World) : Calls Tryz.prog 211 #[.agg #[.int .i64 k, .string ⟨s.toArray⟩], .string ⟨word.toArray⟩] w (Ret (.bool (isB k s word)) w) := by
 by_cases h1 : k = 1
 ·subst h1
  go_in
  go_wp2
  go_ret
  exact ⟨by simp [isB], by exact bl⟩
 ·have e1 : (k == 1) = false := by simpa using h1
  by_cases h4 : k = 4
  ·subst h4
   go_in
   go_wp2
   go_ret
   exact ⟨by simp [isB], by exact bl⟩
  ·have e4 : (k == 4) = false := by simpa using h4
   have HF : Hid (isB k s word = false) := by show _ = _; simp [isB, h1, h4]
   clear h1 h4
   go_in
   go_wp2
   go_ret
   exact ⟨by rw [HF.out]; rfl, by exact bl⟩
def RetTake (b : Bool) (p : Nat) (A : Option Addr) (c : Nat) (l : List Tok) (a deep : Nat) (w : World) (en : Ending) (w' : World) : Prop :=
 en = .returned (.bool b) ∧ PSt p A c l (if b then a + 1 else a) deep w' ∧ But p w w'
theorem take_any (p : Nat) (A : Option Addr) (c : Nat) (l : List Tok) (a deep : Nat) (word : List UInt8) (w : World) (ha : a ≤ 1000) (h : PSt p A c l a deep w) :
  Calls Tryz.prog 258 #[.pointer (some ⟨p, 0, none⟩), .string ⟨word.toArray⟩] w (RetTake (hit l a word) p A c l a deep w) := by
 have lp := h.1.lt
 have HP := Lib.hid h
 by_cases hlt : a < l.length
 ·obtain ⟨b1, o1, t, rfl, hbB, hv, c0, c1⟩ := h.2.at_ hlt
  have hit1 : hit l a word = isB t.k t.s word := by unfold hit; rw [hv]
  rw [hit1]
  have b0 : ¬ (l.length : Int) ≤ (a : Int) := by omega
  have i1 : (0 : Int) ≤ (a : Int) := by omega
  have i2 : (a : Int) < (l.length : Int) := by omega
  have HSH : Hid (∀ w' : World, Below w.heap.size w w' → (w'.cell? ⟨p, 0, none⟩ = some (.slice (some ⟨b1, o1, none⟩) l.length c) ∧ w'.cell? ⟨p, 1, none⟩ = some (.int .i64 (a : Nat)) ∧ w'.cell? ⟨b1, o1 + a * 2, none⟩ = some (.int .i64 t.k) ∧ w'.cell? ⟨b1, o1 + a * 2 + 1, none⟩ = some (.string ⟨t.s.toArray⟩))) :=
   fun w' hb => ⟨(h.1.below hb lp).cell 0, (h.1.below hb lp).cell 1, (hb.cell (p := ⟨b1, o1 + a * 2, none⟩) (show b1 < _ by omega)).trans c0, (hb.cell (p := ⟨b1, o1 + a * 2 + 1, none⟩) (show b1 < _ by omega)).trans c1⟩
  clear c0 c1 hv hit1 h
  obtain ⟨B, hB⟩ : ∃ B, isB t.k t.s word = B := ⟨_, rfl⟩
  rw [hB]
  have HB := Lib.hid hB
  clear hB
  go_in
  go_upto_region 1 with fail
  refine rgn HSH fun hHeld => ?_
  refine tS [0, 1, 2, 3, 4, 5, 6, 7, 8, 9, 10, 11, 12, 13, 14, 15, 16, 17, 18, 19, 20, 21] ?_
  iterate 22 (refine tC ?_; refine ap ?_)
  refine tN ?_
  refine rdy 22 fun K hK => ?_
  go_simp
  refine (is3_any t.k t.s word _).mono ?_ <;> rw [HB.out] <;> rintro en w5 ⟨rfl, hb5⟩ <;> have hz5 := hb5.size <;> have hb15 : Below w.heap.size w w5 := (Below.drew (Below.refl _ w)).trans hb5
  go_wp2_with fail
  refine hK.out _ _ (HSH.out _ (by exact bl)) fun hHeld => ?_
  clear hK K
  refine ap ?_
  refine tS [23, 24] ?_
  iterate 2 (refine tC ?_; refine ap ?_)
  refine tN ?_
  refine wpAnyH_done (by kernel_rfl) ?_ _
  have hP5 := HP.out.but hb15
  have lp5 := hP5.1.lt
  have d1 : w5.cell? ⟨p, 1, none⟩ = some (.int .i64 (a : Nat)) := hP5.1.cell 1
  have f1 := hP5.1.frozen 1
  cases B
  ·go_wp2_with fail
   go_ret
   exact ⟨rfl, hP5, But.of_below hb15⟩
  ·go_wp2_with fail
   go_ret
   exact ⟨rfl, ⟨hP5.1.set_ 1 _, hP5.2.below (by exact bl)⟩, (But.of_below hb15).set 1 _⟩
 ·have hit1 : hit l a word = false := by unfold hit; rw [List.getElem?_eq_none (by omega)]
  rw [hit1]
  have b0 : (l.length : Int) ≤ (a : Int) := by omega
  have HSH : Hid (∀ w' : World, Below w.heap.size w w' → (w'.cell? ⟨p, 0, none⟩ = some (.slice A l.length c) ∧ w'.cell? ⟨p, 1, none⟩ = some (.int .i64 (a : Nat)))) :=
   fun w' hb => ⟨(h.1.below hb lp).cell 0, (h.1.below hb lp).cell 1⟩
  clear hit1 h
  go_in
  go_upto_region 1 with fail
  refine rgn HSH fun hHeld => ?_
  refine tS [0, 1, 2, 3, 4, 5, 6, 7, 8, 9, 10] ?_
  iterate 11 (refine tC ?_; refine ap ?_)
  refine tN ?_
  refine tS [11, 12, 13, 14, 15, 16, 17, 18, 19, 20, 21, 22, 23] ?_
  iterate 13 (refine tX ?_; refine ap ?_)
  refine tN ?_
  refine tS [24] (tC ?_)
  refine ap (tN ?_)
  refine wpAnyH_done (by kernel_rfl) ?_ _
  go_wp2_with fail
  go_ret
  exact ⟨rfl, HP.out.but (Below.drew (Below.refl _ w)), (But.refl _ _).drew⟩
def takenF (l : List Tok) (a : Nat) : List (List UInt8) → Option (List UInt8)
 | [] => none
 | x :: r => if hit l a x then some x else takenF l a r
def strV (s : List UInt8) : Value := .string ⟨s.toArray⟩
def RetTaken (o : Option (List UInt8)) (p : Nat) (A : Option Addr) (c : Nat) (l : List Tok) (a deep : Nat) (w : World) (en : Ending) (w' : World) : Prop :=
 en = .returned (.string ⟨(o.getD []).toArray⟩) ∧ PSt p A c l (if o.isSome then a + 1 else a) deep w' ∧ But p w w'
theorem taken_any (p : Nat) (A : Option Addr) (c : Nat) (l : List Tok) (a deep g : Nat) (ws : List (List UInt8)) (w : World) (ha : a ≤ 1000) (hw : ws.length ≤ 1000) (hg : g ≠ p) (h : PSt p A c l a deep w) (kg : Blk w g 9 (ws.map strV).toArray) (cg : Nat) :
  Calls Tryz.prog 255 #[.pointer (some ⟨p, 0, none⟩), .slice (some ⟨g, 0, none⟩) ws.length cg] w (RetTaken (takenF l a ws) p A c l a deep w) := by
 obtain ⟨R, hR⟩ : ∃ R, takenF l a ws = R := ⟨_, rfl⟩
 rw [hR]
 have HR : Hid (takenF l a (ws.drop 0) = R) := hR
 clear hR
 go_in
 go_wp2
 go_loopw [9] (fun i wr => ∃ j : Nat, j ≤ ws.length ∧ i = .int .i64 j ∧ Hid (takenF l a (ws.drop j) = R) ∧ Hid (PSt p A c l a deep wr) ∧ Blk wr g 9 (ws.map strV).toArray ∧ But p w wr) (fun i _ => ws.length - (intOf i).toNat)
 case atStart => exact ⟨0, by omega, rfl, HR, h, kg, But.refl _ _⟩
 case round =>
  obtain ⟨j, hj, rfl, HJ, HPr, kgr, hbr⟩ := hrel
  have lg := kgr.lt
  by_cases hlt : j < ws.length
  ·obtain ⟨x, hx⟩ : ∃ x, ws[j]? = some x := ⟨_, List.getElem?_eq_getElem hlt⟩
   have hdr : ws.drop j = x :: ws.drop (j + 1) := by
    obtain ⟨hj', rfl⟩ := List.getElem?_eq_some_iff.1 hx
    exact List.drop_eq_getElem_cons hj'
   have hJ := HJ.out
   rw [hdr] at hJ
   unfold takenF at hJ
   have c0 : wr.cell? ⟨g, j, none⟩ = some (.string ⟨x.toArray⟩) := by rw [kgr.cell]; simp [hx, strV]
   have i1 : (0 : Int) ≤ (j : Int) := by omega
   have i2 : (j : Int) < (ws.length : Int) := by omega
   clear hdr hx HJ
   cases hh : hit l a x
   ·have HF : Hid (takenF l a (ws.drop (j + 1)) = R) := by show _ = _; rw [← hJ, hh]; rfl
    have HH := Lib.hid hh
    clear hJ hh
    go_wp2_with fail
    refine (take_any p A c l a deep x wr ha HPr.out).mono ?_
    rw [HH.out]
    rintro en w5 ⟨rfl, hP5, hb5⟩
    have HP5 := Lib.hid hP5
    clear hP5
    go_wp2_with fail
    go_roundw
    case rel => exact ⟨j + 1, by omega, by go_num, HF, HP5, hb5.blk kgr hg, hbr.trans hb5⟩
    case measure => simp [intOf]; omega
   ·have HF : Hid (R = some x) := by show _ = _; rw [← hJ, hh]; rfl
    have HH := Lib.hid hh
    clear hJ hh
    go_wp2_with fail
    refine (take_any p A c l a deep x wr ha HPr.out).mono ?_
    rw [HH.out]
    rintro en w5 ⟨rfl, hP5, hb5⟩
    have HP5 := Lib.hid hP5
    clear hP5
    go_wp2_with fail
    go_ret
    exact ⟨by rw [HF.out]; rfl, by rw [HF.out]; exact HP5.out, hbr.trans hb5⟩
  ·have HF : Hid (R = none) := by
    show _ = _
    rw [← HJ.out, List.drop_of_length_le (by omega)]
    rfl
   obtain rfl : j = ws.length := by omega
   have b0 : ¬ ((ws.length : Int) < (ws.length : Int)) := by omega
   clear HJ
   go_wp2_with fail
   go_ret
   exact ⟨by rw [HF.out]; rfl, by rw [HF.out]; exact HPr.out, hbr⟩
end Go.Proofs.YtchilcchogcibaaGreatDoor
namespace Go.Proofs.YtchilcchogcibaaGreatDoor
open Go.RowKit
def exZero : Ex := .mk [] V.zero [] []
theorem exZero_fit : exZero.fit 1000 := ⟨⟨by simp [exZero, Ex.v, V.zero], by simp [exZero, Ex.v, V.zero]⟩, by simp [exZero, Ex.op], by simp [exZero, Ex.s], by simp [exZero, Ex.v, V.zero]⟩
def ExQ (K : Nat) : Nat → World → (Nat → Prop) → Option Addr → List Ex → Prop
 | 0, _, _, _, l => l = []
 | n + 1, w, Q, A, l => 0 < l.length → ∃ b off, A = some ⟨b, off, none⟩ ∧ Q b ∧ ∀ i e, l[i]? = some e →
   ∃ A' c', e.fit K ∧ e.l.length ≤ c' ∧ c' ≤ maxLen ∧ Six w b (off + i * 6) e A' c' ∧ ExQ K n w Q A' e.l
theorem ExQ.nil {K : Nat} {w : World} {Q : Nat → Prop} {A : Option Addr} : ∀ n, ExQ K n w Q A []
 | 0 => rfl
 | _ + 1 => fun h => absurd h (by simp)
theorem ExQ.keep {K : Nat} {w w' : World} {Q Q' : Nat → Prop} (hk : ∀ b, Q b → Q' b ∧ ∀ o, w'.cell? ⟨b, o, none⟩ = w.cell? ⟨b, o, none⟩) : ∀ (n : Nat) {A : Option Addr} {l : List Ex}, ExQ K n w Q A l → ExQ K n w' Q' A l
 | 0, _, _, h => h
 | n + 1, _, _, h => fun hl => by
  obtain ⟨b, off, rfl, hb, hr⟩ := h hl
  refine ⟨b, off, rfl, (hk b hb).1, fun i e he => ?_⟩
  obtain ⟨A', c', hf, h1, h2, h3, h4⟩ := hr i e he
  exact ⟨A', c', hf, h1, h2, h3.keep (hk b hb).2, h4.keep hk n⟩
theorem ExQ.toS {K : Nat} {w : World} {Q : Nat → Prop} {B : Nat} (hk : ∀ b, Q b → b < B) : ∀ (n : Nat) {A : Option Addr} {l : List Ex}, ExQ K n w Q A l → ExS K n w B A l
 | 0, _, _, h => h
 | n + 1, _, _, h => fun hl => by
  obtain ⟨b, off, rfl, hb, hr⟩ := h hl
  refine ⟨b, off, rfl, hk b hb, fun i e he => ?_⟩
  obtain ⟨A', c', hf, h1, h2, h3, h4⟩ := hr i e he
  exact ⟨A', c', hf, h1, h2, h3, h4.toS hk n⟩
theorem ExQ.up {K : Nat} {w : World} {Q : Nat → Prop} : ∀ (n : Nat) {A : Option Addr} {l : List Ex}, ExQ K n w Q A l → ExQ K (n + 1) w Q A l
 | 0, _, _, h => by cases h; exact ExQ.nil 1
 | n + 1, _, _, h => fun hl => by
  obtain ⟨b, off, rfl, hb, hr⟩ := h hl
  refine ⟨b, off, rfl, hb, fun i e he => ?_⟩
  obtain ⟨A', c', hf, h1, h2, h3, h4⟩ := hr i e he
  exact ⟨A', c', hf, h1, h2, h3, h4.up n⟩
theorem ExQ.ups {K : Nat} {w : World} {Q : Nat → Prop} {A : Option Addr} {l : List Ex} {n : Nat} (h : ExQ K n w Q A l) : ∀ m, n ≤ m → ExQ K m w Q A l
 | 0, hm => by
  have : n = 0 := by omega
  subst this; exact h
 | m + 1, hm => by
  by_cases e : n = m + 1
  ·subst e; exact h
  ·exact (h.ups m (by omega)).up m
theorem exQ_one {K : Nat} {w : World} {Q : Nat → Prop} {g n : Nat} {t : TypeId} {e : Ex} {A : Option Addr} {c : Nat} (h : Blk w g t (e.cells A c).toArray) (hq : Q g) (hf : e.fit K) (h1 : e.l.length ≤ c) (h2 : c ≤ maxLen) (h3 : ExQ K n w Q A e.l) :
  ExQ K (n + 1) w Q (some ⟨g, 0, none⟩) [e] := fun _ => by
 refine ⟨g, 0, rfl, hq, fun i x hx => ?_⟩
 match i, hx with
 | 0, hx =>
  simp at hx; subst hx
  exact ⟨A, c, hf, h1, h2, ⟨h.cell 0, h.cell 1, h.cell 2, h.cell 3, h.cell 4, h.cell 5⟩, h3⟩
theorem exQ_two {K : Nat} {w : World} {Q : Nat → Prop} {g n : Nat} {t : TypeId} {e e' : Ex} {A A' : Option Addr} {c c' : Nat} (h : Blk w g t (e.cells A c ++ e'.cells A' c').toArray) (hq : Q g) (hf : e.fit K) (h1 : e.l.length ≤ c) (h2 : c ≤ maxLen) (h3 : ExQ K n w Q A e.l)
  (hf' : e'.fit K) (h1' : e'.l.length ≤ c') (h2' : c' ≤ maxLen) (h3' : ExQ K n w Q A' e'.l) : ExQ K (n + 1) w Q (some ⟨g, 0, none⟩) [e, e'] := fun _ => by
 refine ⟨g, 0, rfl, hq, fun i x hx => ?_⟩
 match i, hx with
 | 0, hx =>
  simp at hx; subst hx
  exact ⟨A, c, hf, h1, h2, ⟨h.cell 0, h.cell 1, h.cell 2, h.cell 3, h.cell 4, h.cell 5⟩, h3⟩
 | 1, hx =>
  simp at hx; subst hx
  exact ⟨A', c', hf', h1', h2', ⟨h.cell 6, h.cell 7, h.cell 8, h.cell 9, h.cell 10, h.cell 11⟩, h3'⟩
def ExR (Q : Nat → Prop) (e : Ex) (A : Option Addr) (c : Nat) (w : World) : Prop := e.fit 1000 ∧ e.l.length ≤ c ∧ c ≤ maxLen ∧ ∃ n, ExQ 1000 n w Q A e.l
theorem ExR.keep {Q Q' : Nat → Prop} {e : Ex} {A : Option Addr} {c : Nat} {w w' : World} (h : ExR Q e A c w) (hk : ∀ b, Q b → Q' b ∧ ∀ o, w'.cell? ⟨b, o, none⟩ = w.cell? ⟨b, o, none⟩) : ExR Q' e A c w' := by
 obtain ⟨h1, h2, h3, n, h4⟩ := h
 exact ⟨h1, h2, h3, n, h4.keep hk n⟩
theorem ExR.two {Q : Nat → Prop} {op : List UInt8} {e e' : Ex} {A A' : Option Addr} {c c' g : Nat} {t : TypeId} {w : World} (h : ExR Q e A c w) (h' : ExR Q e' A' c' w) (k : Blk w g t (e.cells A c ++ e'.cells A' c').toArray) (hq : Q g) (ho : op.length ≤ 1000) :
  ExR Q (.mk op V.zero [] [e, e']) (some ⟨g, 0, none⟩) 2 w := by
 obtain ⟨h1, h2, h3, n, h4⟩ := h
 obtain ⟨h1', h2', h3', n', h4'⟩ := h'
 refine ⟨⟨⟨by simp [Ex.v, V.zero], by simp [Ex.v, V.zero]⟩, ho, by simp [Ex.s], by simp [Ex.v, V.zero]⟩, by simp [Ex.l], by unfold maxLen; omega, max n n' + 1, ?_⟩
 exact exQ_two k hq h1 h2 h3 (h4.ups _ (Nat.le_max_left _ _)) h1' h2' h3' (h4'.ups _ (Nat.le_max_right _ _))
theorem ExR.one {Q : Nat → Prop} {op : List UInt8} {e : Ex} {A : Option Addr} {c g : Nat} {t : TypeId} {w : World} (h : ExR Q e A c w) (k : Blk w g t (e.cells A c).toArray) (hq : Q g) (ho : op.length ≤ 1000) :
  ExR Q (.mk op V.zero [] [e]) (some ⟨g, 0, none⟩) 1 w := by
 obtain ⟨h1, h2, h3, n, h4⟩ := h
 exact ⟨⟨⟨by simp [Ex.v, V.zero], by simp [Ex.v, V.zero]⟩, ho, by simp [Ex.s], by simp [Ex.v, V.zero]⟩, by simp [Ex.l], by unfold maxLen; omega, n + 1, exQ_one k hq h1 h2 h3 h4⟩
theorem But.cell {p : Nat} {w w' : World} (h : But p w w') {b : Nat} (hb : b < w.heap.size) (hp : b ≠ p) (o : Nat) : w'.cell? ⟨b, o, none⟩ = w.cell? ⟨b, o, none⟩ := by
 have hk := h.block b hb hp
 unfold World.cell?
 simp only [hk]
theorem But.own {p : Nat} {a w : World} (h : But p a w) {g : Nat} (hg : a.heap.size ≤ g) (i : Nat) (u : Value) : But p a (w.setCell ⟨g, i, none⟩ u) := by
 have hb : Below 0 w (w.setCell ⟨g, i, none⟩ u) := by exact bl
 exact ⟨hb.os.trans h.os, hb.tape.trans h.tape, hb.output.trans h.output, Nat.le_trans h.size hb.size, fun k hk hp => (Below.heap_setCell w ⟨g, i, none⟩ u k (show k ≠ g by omega)).trans (h.block k hk hp)⟩
end Go.Proofs.YtchilcchogcibaaGreatDoor
namespace Go.Proofs.YtchilcchogcibaaGreatDoor
open Go.RowKit
attribute [local go_sem] ByteArray.extract_mk ba_get
attribute [local go_sem ↓] Go.wp_at_zero Go.wp_at_succ
theorem Col.cells_length (v : Col) : v.cells.length = 3 := rfl
theorem col_at : ∀ (l : List Col) (i j : Nat) (v : Col), l[i]? = some v → j < 3 → (l.flatMap Col.cells)[i * 3 + j]? = v.cells[j]? := by
 intro l
 induction l with
 | nil => intro i j v h; simp at h
 | cons x r ih =>
  intro i j v h hj
  cases i with
  | zero =>
   simp at h; subst h
   rw [List.flatMap_cons, List.getElem?_append_left (by rw [Col.cells_length]; omega)]
   simp
  | succ i =>
   rw [List.flatMap_cons, List.getElem?_append_right (by rw [Col.cells_length]; omega), Col.cells_length]
   have e : (i + 1) * 3 + j - 3 = i * 3 + j := by omega
   rw [e]
   exact ih i j v (by simpa using h) hj
theorem col_len (l : List Col) : (l.flatMap Col.cells).length = l.length * 3 := by
 induction l with
 | nil => rfl
 | cons x r ih => rw [List.flatMap_cons, List.length_append, ih, Col.cells_length, List.length_cons]; omega
def ColF (w : World) (lo hi : Nat) (A : Option Addr) (l : List Col) : Prop := 0 < l.length → ∃ b off, A = some ⟨b, off, none⟩ ∧ lo ≤ b ∧ b < hi ∧ ColRow w b off l
theorem ColF.s {w : World} {lo hi : Nat} {A : Option Addr} {l : List Col} (h : ColF w lo hi A l) {B : Nat} (hB : hi ≤ B) : ColS w B A l := fun hl => by
 obtain ⟨b, off, rfl, _, h2, h3⟩ := h hl
 exact ⟨b, off, rfl, by omega, h3⟩
theorem ColRow.keep {w w' : World} {b off : Nat} {l : List Col} (h : ColRow w b off l) (hk : ∀ o, w'.cell? ⟨b, o, none⟩ = w.cell? ⟨b, o, none⟩) : ColRow w' b off l := by
 intro i v hv
 obtain ⟨h0, h1, h2⟩ := h i v hv
 exact ⟨(hk _).trans h0, (hk _).trans h1, (hk _).trans h2⟩
theorem ColF.keep {w w' : World} {lo hi lo' hi' : Nat} {A : Option Addr} {l : List Col} (h : ColF w lo hi A l) (hk : ∀ b, lo ≤ b → b < hi → (lo' ≤ b ∧ b < hi') ∧ ∀ o, w'.cell? ⟨b, o, none⟩ = w.cell? ⟨b, o, none⟩) : ColF w' lo' hi' A l := fun hl => by
 obtain ⟨b, off, rfl, h1, h2, h3⟩ := h hl
 exact ⟨b, off, rfl, (hk b h1 h2).1.1, (hk b h1 h2).1.2, h3.keep (hk b h1 h2).2⟩
theorem ColF.own {w : World} {base : Nat} {e : TypeId} {sv : Value} {n : Nat} {l : List Col} (h : w.ownsRow base e 3 sv n (l.flatMap Col.cells)) :
  ∃ A c, sv = .slice A l.length c ∧ l.length ≤ c ∧ c ≤ maxLen ∧ ColF w base w.heap.size A l := by
 have hn : l.length = n := by have := h.1; rw [col_len] at this; omega
 rcases h.2 with ⟨rfl, h0⟩ | ⟨g, cap, cur, rfl, hb, hg, hnc, hcm, hcs, htk⟩
 ·refine ⟨none, 0, ?_, by omega, Nat.zero_le _, fun hl => absurd hl (by omega)⟩
  rw [hn, h0]
 ·refine ⟨some ⟨g, 0, none⟩, cap, by rw [hn], by omega, hcm, fun _ => ⟨g, 0, rfl, hb, ?_, ?_⟩⟩
  ·exact (Array.getElem?_eq_some_iff.1 hg).1
  ·intro i v hv
   have hc := h.cells (g := g) rfl
   have key : ∀ j u, j < 3 → v.cells[j]? = some u → w.cell? ⟨g, 0 + i * 3 + j, none⟩ = some u := by
    intro j u hj hu
    have := hc (i * 3 + j) u (by rw [col_at l i j v hv hj]; exact hu)
    rw [add_mid] at this
    rw [Nat.add_assoc]
    exact this
   exact ⟨key 0 _ (by omega) rfl, key 1 _ (by omega) rfl, key 2 _ (by omega) rfl⟩
end Go.Proofs.YtchilcchogcibaaGreatDoor
namespace Go.Proofs.YtchilcchogcibaaGreatDoor
open Go.RowKit
theorem Blk.sixF {w : World} {g : Nat} {t : TypeId} {cs : Array Value} (h : Blk w g t cs) : w.frozen? ⟨g, 0, none⟩ = false ∧ w.frozen? ⟨g, 1, none⟩ = false ∧ w.frozen? ⟨g, 2, none⟩ = false ∧ w.frozen? ⟨g, 3, none⟩ = false ∧ w.frozen? ⟨g, 4, none⟩ = false ∧ w.frozen? ⟨g, 5, none⟩ = false :=
 ⟨h.frozen 0, h.frozen 1, h.frozen 2, h.frozen 3, h.frozen 4, h.frozen 5⟩
theorem Blk.sixSet {w : World} {g : Nat} {t : TypeId} {e0 : Ex} {A0 : Option Addr} {c0 : Nat} (h : Blk w g t (e0.cells A0 c0).toArray) (y0 y1 y2 y3 y4 y5 : Value) :
  Blk ((((((w.setCell ⟨g, 0, none⟩ y0).setCell ⟨g, 1, none⟩ y1).setCell ⟨g, 2, none⟩ y2).setCell ⟨g, 3, none⟩ y3).setCell ⟨g, 4, none⟩ y4).setCell ⟨g, 5, none⟩ y5) g t #[y0, y1, y2, y3, y4, y5] :=
 (((((h.set_ 0 y0).set_ 1 y1).set_ 2 y2).set_ 3 y3).set_ 4 y4).set_ 5 y5
theorem But.sixSet (w : World) (g : Nat) (y0 y1 y2 y3 y4 y5 : Value) :
  But g w ((((((w.setCell ⟨g, 0, none⟩ y0).setCell ⟨g, 1, none⟩ y1).setCell ⟨g, 2, none⟩ y2).setCell ⟨g, 3, none⟩ y3).setCell ⟨g, 4, none⟩ y4).setCell ⟨g, 5, none⟩ y5) :=
 ((((((But.refl g w).set 0 y0).set 1 y1).set 2 y2).set 3 y3).set 4 y4).set 5 y5
theorem But.sixOwn {p : Nat} {a w : World} (h : But p a w) {g : Nat} (hg : a.heap.size ≤ g) (y0 y1 y2 y3 y4 y5 : Value) :
  But p a ((((((w.setCell ⟨g, 0, none⟩ y0).setCell ⟨g, 1, none⟩ y1).setCell ⟨g, 2, none⟩ y2).setCell ⟨g, 3, none⟩ y3).setCell ⟨g, 4, none⟩ y4).setCell ⟨g, 5, none⟩ y5) :=
 (((((h.own hg 0 y0).own hg 1 y1).own hg 2 y2).own hg 3 y3).own hg 4 y4).own hg 5 y5
end Go.Proofs.YtchilcchogcibaaGreatDoor
