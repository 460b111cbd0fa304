/- slices.IndexFunc at grants, by a closure that has one captured variable; grant.place, and the closures that are held against a grant; Words for a drawn region of calls that answer memory, and of one new variable; schema.name, Place, check as plain functions; expr.Same against none; expr.Parse as a plain function; The closures of package grant that are held against a grant, or a table; The document's Same of grants as a plain function. -/
import Derived.Test.YtchilcchogcibaaGreatDoorDGr1
set_option maxRecDepth 100000
set_option maxHeartbeats 4000000
namespace Go.Proofs.YtchilcchogcibaaGreatDoor
open Go.RowKit
attribute [local go_sem] ByteArray.extract_mk ba_get ba_append
attribute [local go_sem ↓] Go.wp_at_zero Go.wp_at_succ
theorem idxG_any (A : Option Addr) (c : Nat) (l : List Gr) (p : Gr → Bool) (f g : Nat) (eg : ∀ args (w : World), (callFunc f args).run Tryz.prog w = .ok (.enter f args) w) (w : World) (hl : l.length ≤ 1000000) (h : GQ l A (Old w.heap.size) w)
  (hp : ∀ x ∈ l, ∀ Z : World, Below w.heap.size w Z → Calls Tryz.prog f #[.agg #[.string ⟨x.r.toArray⟩, .string ⟨x.t.toArray⟩, .bool x.w], .pointer (some ⟨g, 0, none⟩)] Z (Ret (.bool (p x)) Z)) :
  Calls Tryz.prog 60 #[.slice A l.length c, .func (.func f) #[] #[.pointer (some ⟨g, 0, none⟩)]] w (Ret (.int .i64 (firstP p l 0)) w) := by
 obtain ⟨R, hR⟩ : ∃ R, firstP p l 0 = R := ⟨_, rfl⟩
 rw [hR]
 have HR : Hid (firstP p (l.drop 0) 0 = R) := hR
 have HP := Lib.hid hp
 have HQ : Hid (∀ Z : World, Below w.heap.size w Z → GQ l A (Old w.heap.size) Z) := fun Z hz => h.keep fun b hb => ⟨hb, fun o => hz.cell (p := ⟨b, o, none⟩) hb⟩
 clear hR hp h
 go_in
 go_wp2
 go_loopw [8] (fun i wr => ∃ j : Nat, j ≤ l.length ∧ i = .int .i64 j ∧ Hid (firstP p (l.drop j) j = R) ∧ Below w.heap.size w wr) (fun i _ => l.length - (intOf i).toNat)
 case atStart => exact ⟨0, by omega, rfl, HR, Below.refl _ _⟩
 case round =>
  obtain ⟨j, hj, rfl, hrest, hbw⟩ := hrel
  by_cases hlt : j < l.length
  ·obtain ⟨b, off, x, rfl, hbB, hv, c0, c1, c2⟩ := (HQ.out _ hbw).at_ hlt
   have hrest' := hrest.out
   have hdr : l.drop j = x :: l.drop (j + 1) := by
    obtain ⟨hj', rfl⟩ := List.getElem?_eq_some_iff.1 hv
    exact List.drop_eq_getElem_cons hj'
   rw [hdr, firstP_cons] at hrest'
   have hzw := hbw.size
   obtain ⟨W, rfl⟩ : ∃ W, W = wr := ⟨_, rfl⟩
   have HC := Lib.hid (HP.out x (List.mem_of_getElem? hv) W hbw)
   clear hv hrest hdr
   cases hq : p x
   ·have HF : Hid (firstP p (l.drop (j + 1)) (j + 1) = R) := by
     show _ = _
     rw [← hrest', hq]; rfl
    have HQ2 := Lib.hid hq
    clear hrest' hq
    go_wp2_with fail
    refine HC.out.mono ?_
    rintro e w1 ⟨rfl, hb1⟩
    rw [HQ2.out]
    go_wp2_with fail
    go_roundw
    case rel => exact ⟨j + 1, by omega, by go_num, HF, hbw.trans (hb1.mono hzw)⟩
    case measure => simp [intOf]; omega
   ·have HF : Hid ((j : Int) = R) := by
     show _ = _
     rw [← hrest', hq]; rfl
    have HQ2 := Lib.hid hq
    clear hrest' hq
    go_wp2_with fail
    refine HC.out.mono ?_
    rintro e w1 ⟨rfl, hb1⟩
    rw [HQ2.out]
    go_wp2_with fail
    go_ret
    exact ⟨by rw [← HF.out]; rfl, hbw.trans (hb1.mono hzw)⟩
  ·have HF : Hid (R = -1) := by
    show _ = _
    rw [← hrest.out, List.drop_of_length_le (by omega)]
    rfl
   clear hrest
   go_wp2
   go_ret
   exact ⟨by rw [HF.out]; rfl, hbw⟩
def eqG (a b : Gr) : Bool := decide (a.r = b.r) && (decide (a.t = b.t) && decide (a.w = b.w))
theorem eqG_iff (a b : Gr) : eqG a b = decide (a = b) := by
 obtain ⟨r, t, w⟩ := a
 obtain ⟨r', t', w'⟩ := b
 unfold eqG
 by_cases h1 : r = r' <;> by_cases h2 : t = t' <;> by_cases h3 : w = w' <;> simp [h1, h2, h3]
theorem run_eql_G (r t : List UInt8) (u : Bool) (r' t' : List UInt8) (u' : Bool) (w : World) :
  (binOp .eql 54 (.agg #[.string ⟨r.toArray⟩, .string ⟨t.toArray⟩, .bool u]) (.agg #[.string ⟨r'.toArray⟩, .string ⟨t'.toArray⟩, .bool u'])).run Tryz.prog w = .ok (.bool (eqG ⟨r, t, u⟩ ⟨r', t', u'⟩)) w := by
 by_cases h1 : r = r' <;> by_cases h2 : t = t' <;> cases u <;> cases u' <;> simp [go_sem, eqG, h1, h2, Tryz.underlying54, Tryz.underlying9, Tryz.underlying4]
attribute [local go_sem ↓] run_eql_G
theorem placeC_any (x y : Gr) (g : Nat) (w : World) (h0 : w.cell? ⟨g, 0, none⟩ = some (.string ⟨y.r.toArray⟩)) (h1 : w.cell? ⟨g, 1, none⟩ = some (.string ⟨y.t.toArray⟩)) (h2 : w.cell? ⟨g, 2, none⟩ = some (.bool y.w)) :
  Calls Tryz.prog 61 #[.agg #[.string ⟨x.r.toArray⟩, .string ⟨x.t.toArray⟩, .bool x.w], .pointer (some ⟨g, 0, none⟩)] w (Ret (.bool (decide (x = y))) w) := by
 have hg : g < w.heap.size := Blk_lt_of_cell h0
 have HE := Lib.hid (eqG_iff x y)
 rw [← HE.out]
 go_in
 go_wp2_with fail
 go_ret
 exact ⟨rfl, by exact bl⟩
theorem place_any (A : Option Addr) (c : Nat) (l : List Gr) (y : Gr) (w : World) (hl : l.length ≤ 1000000) (h : GQ l A (Old w.heap.size) w) :
  Calls Tryz.prog 37 #[.slice A l.length c, .agg #[.string ⟨y.r.toArray⟩, .string ⟨y.t.toArray⟩, .bool y.w]] w (Ret (.int .i64 (firstP (fun x => decide (x = y)) l 0)) w) := by
 obtain ⟨w0, hw0⟩ : ∃ w0, w.alloc (.cells #[.string ⟨y.r.toArray⟩, .string ⟨y.t.toArray⟩, .bool y.w] 54) = w0 := ⟨_, rfl⟩
 have kg : Blk w0 w.heap.size 54 #[.string ⟨y.r.toArray⟩, .string ⟨y.t.toArray⟩, .bool y.w] := by rw [← hw0]; exact Blk.new _ _ _
 have hb0 : Below w.heap.size w w0 := by rw [← hw0]; exact bl
 have hI := idxG_any A c l (fun x => decide (x = y)) 61 w.heap.size (Go.Proofs.enters_of Tryz.func61 (by kernel_rfl) rfl) w0 hl (h.keep (old_keep hb0 hb0.size)) (fun x _ Z hz => by
  have k := kg.below hz kg.lt
  exact placeC_any x y w.heap.size Z (k.cell 0) (k.cell 1) (k.cell 2))
 have HI := Lib.hid hI
 have HW := Lib.hid hw0
 have HB0 := Lib.hid hb0
 clear hI hw0 kg h hb0
 go_in
 go_upto_region 1 with fail
 rw [HW.out]
 clear HW
 go_wp2_with fail
 refine HI.out.mono ?_
 rintro en w1 ⟨rfl, hb1⟩
 go_wp2_with fail
 go_ret
 exact ⟨rfl, HB0.out.trans (hb1.mono HB0.out.size)⟩
theorem firstP_mem (l : List Gr) (y : Gr) : decide (0 ≤ firstP (fun x => decide (x = y)) l 0) = decide (y ∈ l) := by
 rw [firstP_any]
 induction l with
 | nil => simp
 | cons x r ih =>
  rw [List.any_cons, ih]
  by_cases h : x = y
  ·simp [h]
  ·have h' : ¬ y = x := fun e => h e.symm
   by_cases h2 : y ∈ r <;> simp [h, h', h2]
end Go.Proofs.YtchilcchogcibaaGreatDoor
namespace Go.Proofs.YtchilcchogcibaaGreatDoor
open Go.RowKit
def GotX (E : Ex) (u : Value) (Q : Nat → Prop) (w : World) : Prop := ∃ A c, u = .agg #[.string ⟨E.op.toArray⟩, .int .i64 E.v.k, .int .i64 E.v.i, .string ⟨E.v.s.toArray⟩, .string ⟨E.s.toArray⟩, .slice A E.l.length c] ∧ ExR Q E A c w
def GotK (l : List Col) (u : Value) (Q : Nat → Prop) (w : World) : Prop := ∃ A c, u = .slice A l.length c ∧ CQ l A Q w
def GotT (t : Tb) (u : Value) (Q : Nat → Prop) (w : World) : Prop := ∃ p : TbP, u = .agg (t.cells p).toArray ∧ TbQ 1000 t p Q w
def Keep1 (G : (Nat → Prop) → World → Prop) : Prop := ∀ (Q Q' : Nat → Prop) (w w' : World), (∀ b, Q b → Q' b ∧ ∀ o, w'.cell? ⟨b, o, none⟩ = w.cell? ⟨b, o, none⟩) → G Q w → G Q' w'
theorem GotX.keeps (E : Ex) (u : Value) : Keep1 (GotX E u) := fun _ _ _ _ hk ⟨A, c, h1, h2⟩ => ⟨A, c, h1, h2.keep hk⟩
theorem GotK.keeps (l : List Col) (u : Value) : Keep1 (GotK l u) := fun _ _ _ _ hk ⟨A, c, h1, h2⟩ => ⟨A, c, h1, h2.keep hk⟩
theorem GotT.keeps (t : Tb) (u : Value) : Keep1 (GotT t u) := fun _ _ _ _ hk ⟨p, h1, h2⟩ => ⟨p, h1, h2.keep hk⟩
def Av1 (L : Array Bool) (i B : Nat) (u : Value) (w : World) (b : Nat) : Prop := (B ≤ b ∧ b < w.heap.size) ∧ (Up L i → u ≠ .pointer (some ⟨b, 0, none⟩))
def New1 (L : Array Bool) (i B : Nat) (t : TypeId) (cs : Array Value) (w : World) (u : Value) : Prop := Up L i → ∃ g, u = .pointer (some ⟨g, 0, none⟩) ∧ B ≤ g ∧ Blk w g t cs
theorem New1.put {L : Array Bool} {i j B : Nat} {t : TypeId} {cs : Array Value} {w w' : World} {u : Value} (h : New1 L j B t cs w u) (hne : i ≠ j) (hb : Below w.heap.size w w') : New1 (L.setIfInBounds i true) j B t cs w' u := fun hu => by
 obtain ⟨g, e, h1, h2⟩ := h (hu.put hne)
 exact ⟨g, e, h1, h2.below hb h2.lt⟩
theorem New1.new {L : Array Bool} {i B : Nat} {t : TypeId} {cs : Array Value} {w : World} (hB : B ≤ w.heap.size) : New1 L i B t cs (w.alloc (.cells cs t)) (.pointer (some ⟨w.heap.size, 0, none⟩)) :=
 fun _ => ⟨_, rfl, hB, Blk.new w _ _⟩
section
variable {L : Array Bool} {i a B k : Nat} {t : TypeId} {cs : Array Value} {U : Value} {w w' : World} {G : (Nat → Prop) → World → Prop}
theorem ptr1_ne {g b : Nat} (h : g ≠ b) : (Value.pointer (some ⟨g, 0, none⟩)) ≠ .pointer (some ⟨b, 0, none⟩) := fun e => by
 injection e with e
 injection e with e
 injection e with e
 exact h e
theorem Av1.call (h1 : i ≠ a) (hb : Below w.heap.size w w') (b : Nat) (h : Av1 L a B U w b) : Av1 (L.setIfInBounds i true) a B U w' b := ⟨⟨h.1.1, Nat.lt_of_lt_of_le h.1.2 hb.size⟩, fun hu => h.2 (hu.put h1)⟩
theorem Av1.new (o : Obj) (b : Nat) (h : Av1 L a B U w b) : Av1 (L.setIfInBounds a true) a B (.pointer (some ⟨w.heap.size, 0, none⟩)) (w.alloc o) b :=
 ⟨by have := h.1; simp; omega, fun _ => ptr1_ne (by have := h.1; omega)⟩
theorem Av1.fresh (hA : New1 L a B t cs w U) (h1 : i ≠ a) (hB : B ≤ w.heap.size) (b : Nat) (h : w.heap.size ≤ b ∧ b < w'.heap.size) : Av1 (L.setIfInBounds i true) a B U w' b :=
 ⟨⟨Nat.le_trans hB h.1, h.2⟩, fun hu => by
  obtain ⟨g, rfl, _, hk⟩ := hA (hu.put h1)
  have := hk.lt
  exact ptr1_ne (by omega)⟩
theorem Av1.parts {g b : Nat} (z1 : Up L a) (h : Av1 L a B (.pointer (some ⟨g, 0, none⟩)) w b) : (B ≤ b ∧ b < w.heap.size) ∧ b ≠ g := ⟨h.1, fun e => h.2 z1 (by rw [e])⟩
def Had1 (L : Array Bool) (k : Nat) (G : (Nat → Prop) → World → Prop) (Q : Nat → Prop) (w : World) : Prop := Up L k → G Q w
theorem Had1.put {U' : Value} (h : Had1 L k G (Av1 L a B U w) w) (hG : Keep1 G) (hne : i ≠ k) (hb : Below w.heap.size w w') (hav : ∀ b, Av1 L a B U w b → Av1 (L.setIfInBounds i true) a B U' w' b) : Had1 (L.setIfInBounds i true) k G (Av1 (L.setIfInBounds i true) a B U' w') w' :=
 fun hu => hG _ _ _ _ (fun b hq => ⟨hav b hq, fun o => hb.cell (p := ⟨b, o, none⟩) hq.1.2⟩) (h (hu.put hne))
end
theorem GotX.fresh {E : Ex} {A : Option Addr} {c : Nat} {w w' : World} {Q : Nat → Prop} (h : ExR (fun b => w.heap.size ≤ b ∧ b < w'.heap.size) E A c w') (hq : ∀ b, w.heap.size ≤ b ∧ b < w'.heap.size → Q b) :
  GotX E (.agg #[.string ⟨E.op.toArray⟩, .int .i64 E.v.k, .int .i64 E.v.i, .string ⟨E.v.s.toArray⟩, .string ⟨E.s.toArray⟩, .slice A E.l.length c]) Q w' := ⟨A, c, rfl, h.keep fun b hb => ⟨hq b hb, fun _ => rfl⟩⟩
theorem GotK.fresh {l : List Col} {A : Option Addr} {c : Nat} {w w' : World} {Q : Nat → Prop} (h : ColF w' w.heap.size w'.heap.size A l) (hq : ∀ b, w.heap.size ≤ b ∧ b < w'.heap.size → Q b) : GotK l (.slice A l.length c) Q w' :=
 ⟨A, c, rfl, CQ.ofF h (fun b h1 h2 => hq b ⟨h1, h2⟩)⟩
end Go.Proofs.YtchilcchogcibaaGreatDoor
namespace Go.Proofs.YtchilcchogcibaaGreatDoor
open Go.RowKit Go.ChangeMaps
attribute [local go_sem] ByteArray.extract_mk ba_get ba_append
attribute [local go_sem ↓] Go.wp_at_zero Go.wp_at_succ run_eql_V run_neq_V
def same0 (e : Ex) : Bool := e.op == [] && (veq e.v V.zero && (e.s == [] && decide (e.l.length = 0)))
end Go.Proofs.YtchilcchogcibaaGreatDoor
namespace Go.Proofs.YtchilcchogcibaaGreatDoor
open Go.RowKit
attribute [local go_sem] ByteArray.extract_mk ba_get ba_append
attribute [local go_sem ↓] Go.wp_at_zero Go.wp_at_succ run_eql_V run_neq_V
def RetParse (R : Ex × Nat × Int) (w : World) (en : Ending) (w' : World) : Prop :=
 ∃ A' c', en = .returned (.tuple #[.agg (R.1.cells A' c').toArray, .int .i64 (R.2.1 : Nat), .int .i64 R.2.2]) ∧ ExR (fun b => w.heap.size ≤ b ∧ b < w'.heap.size) R.1 A' c' w' ∧ Below w.heap.size w w'
theorem RetParse.drew {R : Ex × Nat × Int} {w w' : World} {en : Ending} (h : RetParse R w en w') : RetParse R w en w'.drew := by
 obtain ⟨A', c', h1, h2, h3⟩ := h
 exact ⟨A', c', h1, h2.keep fun b hb => ⟨hb, fun o => rfl⟩, h3.drew⟩
theorem ExR.may {Q : Nat → Prop} {e : Ex} {A : Option Addr} {c : Nat} {w : World} (h : ExR Q e A c w) {B : Nat} (hQ : ∀ b, Q b → b < B) : ∃ n, ExS 1000 n w B A e.l := by
 obtain ⟨_, _, _, n, h4⟩ := h
 exact ⟨n, h4.toS hQ n⟩
end Go.Proofs.YtchilcchogcibaaGreatDoor
namespace Go.Proofs.YtchilcchogcibaaGreatDoor
open Go.RowKit
attribute [local go_sem] ByteArray.extract_mk ba_get ba_append
attribute [local go_sem ↓] Go.wp_at_zero Go.wp_at_succ run_eql_G
theorem doC_any (x y : Gr) (g : Nat) (w : World) (h0 : w.cell? ⟨g, 0, none⟩ = some (.string ⟨y.r.toArray⟩)) (h1 : w.cell? ⟨g, 1, none⟩ = some (.string ⟨y.t.toArray⟩)) (h2 : w.cell? ⟨g, 2, none⟩ = some (.bool y.w)) :
  Calls Tryz.prog 41 #[.agg #[.string ⟨x.r.toArray⟩, .string ⟨x.t.toArray⟩, .bool x.w], .pointer (some ⟨g, 0, none⟩)] w (Ret (.bool (decide (x = y))) w) := by
 have hg : g < w.heap.size := Blk_lt_of_cell h0
 have HE := Lib.hid (eqG_iff x y)
 rw [← HE.out]
 go_in
 go_wp2_with fail
 go_ret
 exact ⟨rfl, by exact bl⟩
theorem withC_any (x y : Gr) (g : Nat) (w : World) (h0 : w.cell? ⟨g, 0, none⟩ = some (.string ⟨y.r.toArray⟩)) (h1 : w.cell? ⟨g, 1, none⟩ = some (.string ⟨y.t.toArray⟩)) (h2 : w.cell? ⟨g, 2, none⟩ = some (.bool y.w)) :
  Calls Tryz.prog 62 #[.agg #[.string ⟨x.r.toArray⟩, .string ⟨x.t.toArray⟩, .bool x.w], .pointer (some ⟨g, 0, none⟩)] w (Ret (.bool (decide (0 < gord x y))) w) := by
 have hg : g < w.heap.size := Blk_lt_of_cell h0
 have HO := Lib.hid (order_any x y)
 obtain ⟨O, hO⟩ : ∃ O, gord x y = O := ⟨_, rfl⟩
 rw [hO] at HO ⊢
 clear hO
 go_in
 go_wp2_with fail
 refine (HO.out _).mono ?_
 rintro en w1 ⟨rfl, hb1⟩
 have hz1 := hb1.size
 go_wp2_with fail
 go_ret
 exact ⟨rfl, Below.trans (b := _) (by exact bl) (hb1.mono (by simp))⟩
end Go.Proofs.YtchilcchogcibaaGreatDoor
namespace Go.Proofs.YtchilcchogcibaaGreatDoor
open Go.RowKit
theorem run_neq_G (r t : List UInt8) (u : Bool) (r' t' : List UInt8) (u' : Bool) (w : World) :
  (binOp .neq 54 (.agg #[.string ⟨r.toArray⟩, .string ⟨t.toArray⟩, .bool u]) (.agg #[.string ⟨r'.toArray⟩, .string ⟨t'.toArray⟩, .bool u'])).run Tryz.prog w = .ok (.bool (!eqG ⟨r, t, u⟩ ⟨r', t', u'⟩)) w := by
 by_cases h1 : r = r' <;> by_cases h2 : t = t' <;> cases u <;> cases u' <;> simp [go_sem, eqG, h1, h2, Tryz.underlying54, Tryz.underlying9, Tryz.underlying4]
attribute [local go_sem] ByteArray.extract_mk ba_get ba_append
attribute [local go_sem ↓] Go.wp_at_zero Go.wp_at_succ run_eql_G run_neq_G
theorem rsameG_any (A B : Option Addr) (c d : Nat) (a b : List Gr) (w : World) (ha : a.length ≤ 1000000) (hb : b.length ≤ 1000000) (hA : GQ a A (Old w.heap.size) w) (hB : GQ b B (Old w.heap.size) w) :
  Calls Tryz.prog 17 #[.slice A a.length c, .slice B b.length d] w (Ret (.bool (decide (a = b))) w) := by
 obtain ⟨N, hN⟩ : ∃ N, a.length = N := ⟨_, rfl⟩
 obtain ⟨M, hM⟩ : ∃ N, b.length = N := ⟨_, rfl⟩
 have HN := Lib.hid hN
 have HM := Lib.hid hM
 obtain ⟨R, hR⟩ : ∃ R, decide (a = b) = R := ⟨_, rfl⟩
 rw [hR]
 have HR := Lib.hid hR
 have HQA : Hid (∀ Z : World, Below w.heap.size w Z → GQ a A (Old w.heap.size) Z) := fun Z hz => hA.keep fun b hb => ⟨hb, fun o => hz.cell (p := ⟨b, o, none⟩) hb⟩
 have HQB : Hid (∀ Z : World, Below w.heap.size w Z → GQ b B (Old w.heap.size) Z) := fun Z hz => hB.keep fun b hb => ⟨hb, fun o => hz.cell (p := ⟨b, o, none⟩) hb⟩
 rw [hN] at ha ⊢
 rw [hM] at hb ⊢
 clear hN hM hR hA hB
 by_cases hl : N = M
 ·subst hl
  go_in
  go_wp2_with fail
  go_loopw [5] (fun i wr => ∃ j : Nat, j ≤ N ∧ i = .int .i64 j ∧ Hid (a.take j = b.take j) ∧ Below w.heap.size w wr) (fun i _ => N - (intOf i).toNat)
  case atStart => exact ⟨0, by omega, rfl, by show _ = _; simp, Below.refl _ _⟩
  case round =>
   obtain ⟨j, hj, rfl, HJ, hbw⟩ := hrel
   obtain ⟨W, rfl⟩ : ∃ W, W = wr := ⟨_, rfl⟩
   have hzw := hbw.size
   by_cases hlt : j < N
   ·obtain ⟨b1, o1, x, rfl, hb1, hv, c0, c1, c2⟩ := (HQA.out _ hbw).at_ (j := j) (by rw [HN.out]; exact hlt)
    obtain ⟨b2, o2, y, rfl, hb2, hv2, d0, d1, d2⟩ := (HQB.out _ hbw).at_ (j := j) (by rw [HM.out]; exact hlt)
    have l1 : b1 < w.heap.size := hb1
    have l2 : b2 < w.heap.size := hb2
    have HSH : Hid (∀ Z : World, Below W.heap.size W Z → (Z.cell? ⟨b1, o1 + j * 3, none⟩ = some (.string ⟨x.r.toArray⟩) ∧ Z.cell? ⟨b1, o1 + j * 3 + 1, none⟩ = some (.string ⟨x.t.toArray⟩) ∧ Z.cell? ⟨b1, o1 + j * 3 + 2, none⟩ = some (.bool x.w)) ∧ Z.cell? ⟨b2, o2 + j * 3, none⟩ = some (.string ⟨y.r.toArray⟩) ∧ Z.cell? ⟨b2, o2 + j * 3 + 1, none⟩ = some (.string ⟨y.t.toArray⟩) ∧ Z.cell? ⟨b2, o2 + j * 3 + 2, none⟩ = some (.bool y.w)) := fun Z hz => by
     have h1 : ∀ o, Z.cell? ⟨b1, o, none⟩ = W.cell? ⟨b1, o, none⟩ := fun o => hz.cell (p := ⟨b1, o, none⟩) (show b1 < _ by omega)
     have h2 : ∀ o, Z.cell? ⟨b2, o, none⟩ = W.cell? ⟨b2, o, none⟩ := fun o => hz.cell (p := ⟨b2, o, none⟩) (show b2 < _ by omega)
     exact ⟨⟨(h1 _).trans c0, (h1 _).trans c1, (h1 _).trans c2⟩, (h2 _).trans d0, (h2 _).trans d1, (h2 _).trans d2⟩
    have HE : Hid (eqG x y = decide (x = y)) := eqG_iff x y
    have HT : Hid (x = y → a.take (j + 1) = b.take (j + 1)) := fun e => by rw [List.take_add_one, List.take_add_one, hv, hv2, HJ.out, e]
    have HF0 : Hid (¬ x = y → R = false) := fun e => by
     rw [← HR.out]
     exact decide_eq_false fun h => e (by rw [h, hv2] at hv; cases hv; rfl)
    have g10 : (0 : Int) ≤ (j : Int) := by omega
    have g11 : (j : Int) < (N : Int) := by omega
    clear hv hv2 c0 c1 c2 d0 d1 d2
    go_wp2_with fail
    refine rgn HSH fun hHeld => ?_
    refine tS [0, 1, 2, 3, 4, 5, 6, 7, 8] ?_
    iterate 9 (refine tC ?_; refine ap ?_)
    refine tN ?_
    refine wpAnyH_done (by kernel_rfl) ?_ _
    have hbd : Below w.heap.size w W.drew := hbw.trans ((show Below W.heap.size W W.drew by exact bl).mono hzw)
    have HBD := Lib.hid hbd
    clear hbd
    obtain ⟨E, hE⟩ : ∃ E, eqG ⟨x.r, x.t, x.w⟩ ⟨y.r, y.t, y.w⟩ = E := ⟨_, rfl⟩
    rw [hE]
    have HE2 : Hid (E = decide (x = y)) := by show _ = _; rw [← hE]; exact HE.out
    clear hE HE
    cases E with
    | false =>
     have HF : Hid (R = false) := HF0.out (by have := HE2.out; simpa using this)
     clear HE2 HT HF0 HJ HR
     go_wp2_with fail
     go_ret
     exact ⟨by rw [HF.out]; rfl, HBD.out⟩
    | true =>
     have HF : Hid (a.take (j + 1) = b.take (j + 1)) := HT.out (by have := HE2.out; simpa using this)
     clear HE2 HT HF0 HJ
     go_wp2_with fail
     go_roundw
     case rel => exact ⟨j + 1, by omega, by go_num, HF, HBD.out⟩
     case measure => simp [intOf]; omega
   ·obtain rfl : j = N := by omega
    have HF : Hid (R = true) := by
     show _ = _
     have := HJ.out
     rw [← HN.out, List.take_length, HN.out, ← HM.out, List.take_length] at this
     rw [← HR.out]
     exact decide_eq_true this
    have g11 : ¬ (j : Int) < (j : Int) := by omega
    clear HJ hlt
    go_wp2_with fail
    go_ret
    exact ⟨by rw [HF.out]; rfl, hbw⟩
 ·have HF : Hid (R = false) := by
   show _ = _
   rw [← HR.out]
   exact decide_eq_false fun h => hl (by rw [← HN.out, ← HM.out, h])
  have e1 : ((N : Int) != (M : Int)) = true := by simp; omega
  have e2 : ¬ (N : Int) = (M : Int) := by omega
  clear HR
  go_in
  go_wp2_with fail
  go_ret
  exact ⟨by rw [HF.out]; rfl, by exact bl⟩
end Go.Proofs.YtchilcchogcibaaGreatDoor
