/- The parser's or, and, sum as plain functions over their parts. Condition: what a part is is known (PartC). The parser's inner and not as plain functions. Condition: what the parts are is known. The parser's comparison as a plain function. Condition: what a sum is is known (PartC). The parser's atom as a plain function: an or in ( and ). Condition: what inner answers is known. The parser's atom as a plain function: a value, or a name. Condition: tokens whose texts are no longer than a million. The parser knot: or, and not, at each depth, as plain functions. Condition: no more than 990 tokens, with texts no longer than a million. expr.Parse as a plain function. Condition: no more than 990 tokens, with texts no longer than a million; strconv's errors lie as they were laid. -/
import Derived.Test.YtdnkkkgneikhkaaGreatDoorParse2
import Derived.Shelf.Abstract
import Derived.Test.YtdnkkkgneikhkaaGreatDoorExLaw3
namespace Go.Proofs.YtdnkkkgneikhkaaGreatDoor
open Go.RowKit

attribute [local go_sem] ByteArray.extract_mk ba_get ba_append
attribute [local go_sem ↓] Go.wp_at_zero Go.wp_at_succ run_eql_V run_neq_V

theorem go_enters {f : Nat} (h : Enters Tryz.prog f) : ∀ args w, (callFunc f args).run Tryz.prog w = .ok (.enter f args) w := h

theorem or_words : ∀ x ∈ ([[79, 82]] : List (List UInt8)), x ≠ [] ∧ x.length ≤ 1000 ∧ ∀ b ∈ x, b.toNat < 128 := by decide
set_option maxRecDepth 100000 in
set_option maxHeartbeats 2000000 in
theorem or_part (p : Nat) (A : Option Addr) (c : Nat) (l : List Tok) (deep : Nat) (F : Nat → Ex × Bool × Nat) (hll : l.length ≤ 999) (hC : PartC 68 p A c l deep F) : PartC 42 p A c l deep (chainF F l [[79, 82]]) := by
  refine ⟨fun a ha => ?_, fun a w ha hP => ?_⟩
  · have h1 := hC.1 a ha
    have h2 := chain_in F l [[79, 82]] hC.1 (l.length + 1) (F a).1 (F a).2.1 (F a).2.2 h1.2
    exact ⟨Nat.le_trans h1.1 h2.1, h2.2⟩
  · have lp := hP.1.lt
    obtain ⟨w0, hw0⟩ : ∃ w0, (w.alloc (.cells (exZero.cells none 0).toArray 26)).alloc (.cells #[.string ⟨#[79, 82]⟩] 9) = w0 := ⟨_, rfl⟩
    have kR0 : Blk w0 w.heap.size 26 (exZero.cells none 0).toArray := by rw [← hw0]; exact (Blk.new _ _ _).alloc _
    have kg0 : Blk w0 (w.heap.size + 1) 9 (([[79, 82]] : List (List UInt8)).map strV).toArray := by rw [← hw0]; exact Blk.new' _ _ _ _ (by simp)
    have hb0 : Below w.heap.size w w0 := by rw [← hw0]; ((repeat' (first | with_reducible exact Below.refl _ _ | with_reducible assumption | with_reducible refine Below.drew ?_ | with_reducible refine below_drewN ?_ _ | with_reducible refine Below.setCell ?_ ?_ _ | with_reducible refine Below.alloc ?_ ?_ _ | with_reducible refine Below.trans ?_ (Below.mono (by assumption) ?_))) <;> (first | (simp; done) | (simp; omega) | omega))
    have hs0 : w0.heap.size = w.heap.size + 2 := by rw [← hw0]; simp
    have HW := Lib.hid hw0
    have HP0 := Lib.hid (hP.but hb0)
    have HC := Lib.hid hC
    clear hw0 hP hC
    obtain ⟨R, hR⟩ : ∃ R, chainF F l [[79, 82]] a = R := ⟨_, rfl⟩
    rw [hR]
    have HR := Lib.hid hR
    clear hR
    go_enter Tryz.func42, Tryz.ntmps42
    go_wp2_with fail
    rw [show (w.alloc (.cells #[.string ⟨#[]⟩, .int .i64 0, .int .i64 0, .string ⟨#[]⟩, .string ⟨#[]⟩, .slice none 0 0] 26)).alloc (.cells #[.string ⟨#[79, 82]⟩] 9) = w0 from HW.out]
    refine (chain_any 68 p A c l deep F HC.out [[79, 82]] (w.heap.size + 1) ([[79, 82]] : List (List UInt8)).length a w0 hll ha (by decide) or_words (by omega) (go_enters (enters_of Tryz.func68 (by kernel_rfl) rfl)) HP0.out kg0).mono ?_
    rw [HR.out]
    obtain ⟨e1, ok1, a1⟩ := R
    rintro en w1 ⟨A1, c1, rfl, hE1, hP1, hb1⟩
    dsimp only [Ex.cells]
    have kR1 := hb1.blk kR0 (by omega)
    have lR1 := kR1.lt
    have hz1 := hb1.size
    have HE1 : Hid (ExR (fun x => w.heap.size ≤ x ∧ x < w1.heap.size ∧ x ≠ w.heap.size) e1 A1 c1 w1) := hE1.keep fun x hx => ⟨⟨by omega, hx.2, by omega⟩, fun o => rfl⟩
    have HP1 := Lib.hid hP1
    have hbw1 := (But.of_below (p := p) hb0).trans hb1
    clear hE1 hP1
    obtain ⟨z0, z1, z2, z3, z4, z5⟩ := kR1.sixF
    obtain ⟨r0, r1, r2, r3, r4, r5⟩ := kR1.six
    go_wp2_with fail
    refine bodyPost_ret (v := .tuple #[.agg (e1.cells A1 c1).toArray, .bool ok1]) (by simp [results, Tryz.results42, go_sem, *, Ex.cells]) rfl ?_
    exact retPE_end rfl (Nat.le_refl _) lp HE1.out HP1.out hbw1 _ _ _ _ _ _
theorem and_words : ∀ x ∈ ([[65, 78, 68]] : List (List UInt8)), x ≠ [] ∧ x.length ≤ 1000 ∧ ∀ b ∈ x, b.toNat < 128 := by decide
set_option maxRecDepth 100000 in
set_option maxHeartbeats 2000000 in
theorem and_part (p : Nat) (A : Option Addr) (c : Nat) (l : List Tok) (deep : Nat) (F : Nat → Ex × Bool × Nat) (hll : l.length ≤ 999) (hC : PartC 113 p A c l deep F) : PartC 68 p A c l deep (chainF F l [[65, 78, 68]]) := by
  refine ⟨fun a ha => ?_, fun a w ha hP => ?_⟩
  · have h1 := hC.1 a ha
    have h2 := chain_in F l [[65, 78, 68]] hC.1 (l.length + 1) (F a).1 (F a).2.1 (F a).2.2 h1.2
    exact ⟨Nat.le_trans h1.1 h2.1, h2.2⟩
  · have lp := hP.1.lt
    obtain ⟨w0, hw0⟩ : ∃ w0, (w.alloc (.cells (exZero.cells none 0).toArray 26)).alloc (.cells #[.string ⟨#[65, 78, 68]⟩] 9) = w0 := ⟨_, rfl⟩
    have kR0 : Blk w0 w.heap.size 26 (exZero.cells none 0).toArray := by rw [← hw0]; exact (Blk.new _ _ _).alloc _
    have kg0 : Blk w0 (w.heap.size + 1) 9 (([[65, 78, 68]] : List (List UInt8)).map strV).toArray := by rw [← hw0]; exact Blk.new' _ _ _ _ (by simp)
    have hb0 : Below w.heap.size w w0 := by rw [← hw0]; ((repeat' (first | with_reducible exact Below.refl _ _ | with_reducible assumption | with_reducible refine Below.drew ?_ | with_reducible refine below_drewN ?_ _ | with_reducible refine Below.setCell ?_ ?_ _ | with_reducible refine Below.alloc ?_ ?_ _ | with_reducible refine Below.trans ?_ (Below.mono (by assumption) ?_))) <;> (first | (simp; done) | (simp; omega) | omega))
    have hs0 : w0.heap.size = w.heap.size + 2 := by rw [← hw0]; simp
    have HW := Lib.hid hw0
    have HP0 := Lib.hid (hP.but hb0)
    have HC := Lib.hid hC
    clear hw0 hP hC
    obtain ⟨R, hR⟩ : ∃ R, chainF F l [[65, 78, 68]] a = R := ⟨_, rfl⟩
    rw [hR]
    have HR := Lib.hid hR
    clear hR
    go_enter Tryz.func68, Tryz.ntmps68
    go_wp2_with fail
    rw [show (w.alloc (.cells #[.string ⟨#[]⟩, .int .i64 0, .int .i64 0, .string ⟨#[]⟩, .string ⟨#[]⟩, .slice none 0 0] 26)).alloc (.cells #[.string ⟨#[65, 78, 68]⟩] 9) = w0 from HW.out]
    refine (chain_any 113 p A c l deep F HC.out [[65, 78, 68]] (w.heap.size + 1) ([[65, 78, 68]] : List (List UInt8)).length a w0 hll ha (by decide) and_words (by omega) (go_enters (enters_of Tryz.func113 (by kernel_rfl) rfl)) HP0.out kg0).mono ?_
    rw [HR.out]
    obtain ⟨e1, ok1, a1⟩ := R
    rintro en w1 ⟨A1, c1, rfl, hE1, hP1, hb1⟩
    dsimp only [Ex.cells]
    have kR1 := hb1.blk kR0 (by omega)
    have lR1 := kR1.lt
    have hz1 := hb1.size
    have HE1 : Hid (ExR (fun x => w.heap.size ≤ x ∧ x < w1.heap.size ∧ x ≠ w.heap.size) e1 A1 c1 w1) := hE1.keep fun x hx => ⟨⟨by omega, hx.2, by omega⟩, fun o => rfl⟩
    have HP1 := Lib.hid hP1
    have hbw1 := (But.of_below (p := p) hb0).trans hb1
    clear hE1 hP1
    obtain ⟨z0, z1, z2, z3, z4, z5⟩ := kR1.sixF
    obtain ⟨r0, r1, r2, r3, r4, r5⟩ := kR1.six
    go_wp2_with fail
    refine bodyPost_ret (v := .tuple #[.agg (e1.cells A1 c1).toArray, .bool ok1]) (by simp [results, Tryz.results68, go_sem, *, Ex.cells]) rfl ?_
    exact retPE_end rfl (Nat.le_refl _) lp HE1.out HP1.out hbw1 _ _ _ _ _ _
theorem sum_words : ∀ x ∈ ([[43], [45]] : List (List UInt8)), x ≠ [] ∧ x.length ≤ 1000 ∧ ∀ b ∈ x, b.toNat < 128 := by decide
set_option maxRecDepth 100000 in
set_option maxHeartbeats 2000000 in
theorem sum_part (p : Nat) (A : Option Addr) (c : Nat) (l : List Tok) (deep : Nat) (F : Nat → Ex × Bool × Nat) (hll : l.length ≤ 999) (hC : PartC 215 p A c l deep F) : PartC 202 p A c l deep (chainF F l [[43], [45]]) := by
  refine ⟨fun a ha => ?_, fun a w ha hP => ?_⟩
  · have h1 := hC.1 a ha
    have h2 := chain_in F l [[43], [45]] hC.1 (l.length + 1) (F a).1 (F a).2.1 (F a).2.2 h1.2
    exact ⟨Nat.le_trans h1.1 h2.1, h2.2⟩
  · have lp := hP.1.lt
    obtain ⟨w0, hw0⟩ : ∃ w0, (w.alloc (.cells (exZero.cells none 0).toArray 26)).alloc (.cells #[.string ⟨#[43]⟩, .string ⟨#[45]⟩] 9) = w0 := ⟨_, rfl⟩
    have kR0 : Blk w0 w.heap.size 26 (exZero.cells none 0).toArray := by rw [← hw0]; exact (Blk.new _ _ _).alloc _
    have kg0 : Blk w0 (w.heap.size + 1) 9 (([[43], [45]] : List (List UInt8)).map strV).toArray := by rw [← hw0]; exact Blk.new' _ _ _ _ (by simp)
    have hb0 : Below w.heap.size w w0 := by rw [← hw0]; ((repeat' (first | with_reducible exact Below.refl _ _ | with_reducible assumption | with_reducible refine Below.drew ?_ | with_reducible refine below_drewN ?_ _ | with_reducible refine Below.setCell ?_ ?_ _ | with_reducible refine Below.alloc ?_ ?_ _ | with_reducible refine Below.trans ?_ (Below.mono (by assumption) ?_))) <;> (first | (simp; done) | (simp; omega) | omega))
    have hs0 : w0.heap.size = w.heap.size + 2 := by rw [← hw0]; simp
    have HW := Lib.hid hw0
    have HP0 := Lib.hid (hP.but hb0)
    have HC := Lib.hid hC
    clear hw0 hP hC
    obtain ⟨R, hR⟩ : ∃ R, chainF F l [[43], [45]] a = R := ⟨_, rfl⟩
    rw [hR]
    have HR := Lib.hid hR
    clear hR
    go_enter Tryz.func202, Tryz.ntmps202
    go_wp2_with fail
    rw [show (w.alloc (.cells #[.string ⟨#[]⟩, .int .i64 0, .int .i64 0, .string ⟨#[]⟩, .string ⟨#[]⟩, .slice none 0 0] 26)).alloc (.cells #[.string ⟨#[43]⟩, .string ⟨#[45]⟩] 9) = w0 from HW.out]
    refine (chain_any 215 p A c l deep F HC.out [[43], [45]] (w.heap.size + 1) ([[43], [45]] : List (List UInt8)).length a w0 hll ha (by decide) sum_words (by omega) (go_enters (enters_of Tryz.func215 (by kernel_rfl) rfl)) HP0.out kg0).mono ?_
    rw [HR.out]
    obtain ⟨e1, ok1, a1⟩ := R
    rintro en w1 ⟨A1, c1, rfl, hE1, hP1, hb1⟩
    dsimp only [Ex.cells]
    have kR1 := hb1.blk kR0 (by omega)
    have lR1 := kR1.lt
    have hz1 := hb1.size
    have HE1 : Hid (ExR (fun x => w.heap.size ≤ x ∧ x < w1.heap.size ∧ x ≠ w.heap.size) e1 A1 c1 w1) := hE1.keep fun x hx => ⟨⟨by omega, hx.2, by omega⟩, fun o => rfl⟩
    have HP1 := Lib.hid hP1
    have hbw1 := (But.of_below (p := p) hb0).trans hb1
    clear hE1 hP1
    obtain ⟨z0, z1, z2, z3, z4, z5⟩ := kR1.sixF
    obtain ⟨r0, r1, r2, r3, r4, r5⟩ := kR1.six
    go_wp2_with fail
    refine bodyPost_ret (v := .tuple #[.agg (e1.cells A1 c1).toArray, .bool ok1]) (by simp [results, Tryz.results202, go_sem, *, Ex.cells]) rfl ?_
    exact retPE_end rfl (Nat.le_refl _) lp HE1.out HP1.out hbw1 _ _ _ _ _ _

end Go.Proofs.YtdnkkkgneikhkaaGreatDoor

namespace Go.Proofs.YtdnkkkgneikhkaaGreatDoor
open Go.RowKit

attribute [local go_sem] ByteArray.extract_mk ba_get ba_append
attribute [local go_sem ↓] Go.wp_at_zero Go.wp_at_succ run_eql_V run_neq_V

/-- A part of the parser at one place. -/
def AtC (f p : Nat) (A : Option Addr) (c : Nat) (l : List Tok) (deep a : Nat) (R : Ex × Bool × Nat) : Prop :=
  ∀ w, PSt p A c l a deep w → Calls Tryz.prog f #[.pointer (some ⟨p, 0, none⟩)] w (RetPE R p A c l deep w)

/-- What the part inner answers, of or, at one place. -/
def InC (f p : Nat) (A : Option Addr) (c : Nat) (l : List Tok) (deep a : Nat) (R : Ex × Bool × Nat) : Prop :=
  ∀ w, PSt p A c l a deep w → Calls Tryz.prog 171 #[.pointer (some ⟨p, 0, none⟩), .func (.func f) #[.pointer (some ⟨p, 0, none⟩)] #[]] w (RetPE R p A c l deep w)

set_option maxRecDepth 100000 in
set_option maxHeartbeats 2000000 in
theorem inner_any (f p : Nat) (A : Option Addr) (c : Nat) (l : List Tok) (deep a : Nat) (R : Ex × Bool × Nat) (hd : deep < 65536) (hC : AtC f p A c l (deep + 1) a R) (hent : ∀ args w, (callFunc f args).run Tryz.prog w = .ok (.enter f args) w) (w : World) (hP : PSt p A c l a deep w) :
    Calls Tryz.prog 171 #[.pointer (some ⟨p, 0, none⟩), .func (.func f) #[.pointer (some ⟨p, 0, none⟩)] #[]] w (RetPE R p A c l deep w) := by
  have lp := hP.1.lt
  have HC := Lib.hid hC
  obtain ⟨w0, hw0⟩ : ∃ w0, w.alloc (.cells (exZero.cells none 0).toArray 26) = w0 := ⟨_, rfl⟩
  have kR0 : Blk w0 w.heap.size 26 (exZero.cells none 0).toArray := by rw [← hw0]; exact Blk.new _ _ _
  have hb0 : Below w.heap.size w w0 := by rw [← hw0]; ((repeat' (first | with_reducible exact Below.refl _ _ | with_reducible assumption | with_reducible refine Below.drew ?_ | with_reducible refine below_drewN ?_ _ | with_reducible refine Below.setCell ?_ ?_ _ | with_reducible refine Below.alloc ?_ ?_ _ | with_reducible refine Below.trans ?_ (Below.mono (by assumption) ?_))) <;> (first | (simp; done) | (simp; omega) | omega))
  have hs0 : w0.heap.size = w.heap.size + 1 := by rw [← hw0]; simp
  have HW := Lib.hid hw0
  have hP0 := hP.but hb0
  clear hw0 hP hC
  have x2 : w0.cell? ⟨p, 2, none⟩ = some (.int .i64 (deep : Nat)) := hP0.1.cell 2
  have y2 := hP0.1.frozen 2
  have b6 : ((deep : Int) == 65536) = false := by rw [beq_eq_false_iff_ne]; omega
  have HP0 := Lib.hid hP0
  clear hP0
  obtain ⟨e1, ok1, a1⟩ := R
  go_enter Tryz.func171, Tryz.ntmps171
  go_upto_region 1 with fail
  rw [show w.alloc (.cells #[.string ⟨#[]⟩, .int .i64 0, .int .i64 0, .string ⟨#[]⟩, .string ⟨#[]⟩, .slice none 0 0] 26) = w0 from HW.out]
  clear HW
  go_upto_region 4 with fail
  refine wp_forget (fun wx => Blk wx w.heap.size 26 (exZero.cells none 0).toArray ∧ Hid (PSt p A c l a (deep + 1) wx) ∧ But p w wx ∧ w.heap.size < wx.heap.size)
    ⟨kR0.far (by show w.heap.size ≠ p; omega) _, ⟨HP0.out.1.set_ 2 _, HP0.out.2.below (by ((repeat' (first | with_reducible exact Below.refl _ _ | with_reducible assumption | with_reducible refine Below.drew ?_ | with_reducible refine below_drewN ?_ _ | with_reducible refine Below.setCell ?_ ?_ _ | with_reducible refine Below.alloc ?_ ?_ _ | with_reducible refine Below.trans ?_ (Below.mono (by assumption) ?_))) <;> (first | (simp; done) | (simp; omega) | omega)))⟩, (But.of_below hb0).set 2 _, by simp; omega⟩ ?_
  clear x2 y2 HP0 kR0
  rintro W ⟨kR, HPW, hbW, hsW⟩
  go_wp2_with fail
  refine (HC.out W HPW.out).mono ?_
  rintro en w1 ⟨A1, c1, rfl, hE1, hP1, hb1⟩
  dsimp only [Ex.cells]
  obtain ⟨w2, hw2⟩ : ∃ w2, w1.alloc (.cells (e1.cells A1 c1).toArray 26) = w2 := ⟨_, rfl⟩
  have kB2 : Blk w2 w1.heap.size 26 (e1.cells A1 c1).toArray := by rw [← hw2]; exact Blk.new _ _ _
  have hb2 : Below w1.heap.size w1 w2 := by rw [← hw2]; ((repeat' (first | with_reducible exact Below.refl _ _ | with_reducible assumption | with_reducible refine Below.drew ?_ | with_reducible refine below_drewN ?_ _ | with_reducible refine Below.setCell ?_ ?_ _ | with_reducible refine Below.alloc ?_ ?_ _ | with_reducible refine Below.trans ?_ (Below.mono (by assumption) ?_))) <;> (first | (simp; done) | (simp; omega) | omega))
  have hs2 : w2.heap.size = w1.heap.size + 1 := by rw [← hw2]; simp
  have HW2 := Lib.hid hw2
  clear hw2
  have hz1 := hb1.size
  have kR2 := (hb1.blk kR (by omega)).below hb2 (by omega)
  have hP2 := hP1.but hb2
  have x2 : w2.cell? ⟨p, 2, none⟩ = some (.int .i64 ((deep + 1 : Nat) : Int)) := hP2.1.cell 2
  have x3 : w2.cell? ⟨p, 2, none⟩ = some (.int .i64 ((deep : Int) + 1)) := by rw [x2]; simp
  have y2 := hP2.1.frozen 2
  have HP2 := Lib.hid hP2
  have HE2 : Hid (ExR (fun x => w.heap.size < x ∧ x < w1.heap.size) e1 A1 c1 w2) := hE1.keep fun x hx => ⟨⟨by omega, by omega⟩, fun o => hb2.cell (p := ⟨x, o, none⟩) hx.2⟩
  have hbw2 : But p w w2 := (hbW.trans hb1).after hb2
  have lp2 := hP2.1.lt
  clear hP1 hE1 hb2 hP2 x2 HPW
  go_upto_region 5 with fail
  rw [show w1.alloc (.cells #[.string ⟨e1.op.toArray⟩, .int .i64 e1.v.k, .int .i64 e1.v.i, .string ⟨e1.v.s.toArray⟩, .string ⟨e1.s.toArray⟩, .slice A1 e1.l.length c1] 26) = w2 from HW2.out]
  clear HW2
  go_upto_region 6 with fail
  have hB3 := (But.refl p w2).set 2 (.int .i64 (deep : Nat))
  refine wp_forget (fun wx => Blk wx w.heap.size 26 (exZero.cells none 0).toArray ∧ Blk wx w1.heap.size 26 (e1.cells A1 c1).toArray ∧ Hid (PSt p A c l a1 deep wx) ∧ Hid (ExR (fun x => w.heap.size < x ∧ x < wx.heap.size) e1 A1 c1 wx) ∧ But p w wx)
    ⟨kR2.far (by show w.heap.size ≠ p; omega) _, kB2.far (by show w1.heap.size ≠ p; omega) _, ⟨by simpa using HP2.out.1.set_ 2 (.int .i64 (deep : Nat)), HP2.out.2.below (by ((repeat' (first | with_reducible exact Below.refl _ _ | with_reducible assumption | with_reducible refine Below.drew ?_ | with_reducible refine below_drewN ?_ _ | with_reducible refine Below.setCell ?_ ?_ _ | with_reducible refine Below.alloc ?_ ?_ _ | with_reducible refine Below.trans ?_ (Below.mono (by assumption) ?_))) <;> (first | (simp; done) | (simp; omega) | omega)))⟩, HE2.out.keep fun x hx => ⟨⟨hx.1, by simp; omega⟩, fun o => by simpa using hB3.cell (b := x) (by omega) (by omega) o⟩, hbw2.set 2 _⟩ ?_
  clear HP2 HE2 kR2 kB2 x3 y2 hbw2 hB3
  rintro X ⟨kR, kB, HPX, HEX, hbX⟩
  have lR := kR.lt
  have lB := kB.lt
  obtain ⟨q0, q1, q2, q3, q4, q5⟩ := kB.six
  obtain ⟨z0, z1, z2, z3, z4, z5⟩ := kR.sixF
  obtain ⟨r0, r1, r2, r3, r4, r5⟩ := kR.six
  go_wp2_with fail
  refine bodyPost_ret (v := .tuple #[.agg (e1.cells A1 c1).toArray, .bool ok1]) (by simp [results, Tryz.results171, go_sem, *, Ex.cells]) rfl ?_
  exact retPE_end rfl (Nat.le_refl _) lp (HEX.out.keep fun x hx => ⟨⟨by omega, hx.2, by omega⟩, fun o => rfl⟩) HPX.out hbX _ _ _ _ _ _

set_option maxRecDepth 100000 in
set_option maxHeartbeats 2000000 in
theorem inner_top (f p : Nat) (A : Option Addr) (c : Nat) (l : List Tok) (a : Nat) : InC f p A c l 65536 a (exZero, false, a) := by
  intro w hP
  have lp := hP.1.lt
  obtain ⟨w0, hw0⟩ : ∃ w0, w.alloc (.cells (exZero.cells none 0).toArray 26) = w0 := ⟨_, rfl⟩
  have kR0 : Blk w0 w.heap.size 26 (exZero.cells none 0).toArray := by rw [← hw0]; exact Blk.new _ _ _
  have hb0 : Below w.heap.size w w0 := by rw [← hw0]; ((repeat' (first | with_reducible exact Below.refl _ _ | with_reducible assumption | with_reducible refine Below.drew ?_ | with_reducible refine below_drewN ?_ _ | with_reducible refine Below.setCell ?_ ?_ _ | with_reducible refine Below.alloc ?_ ?_ _ | with_reducible refine Below.trans ?_ (Below.mono (by assumption) ?_))) <;> (first | (simp; done) | (simp; omega) | omega))
  have lR0 := kR0.lt
  have HW := Lib.hid hw0
  have hP0 := hP.but hb0
  clear hw0 hP
  have x2 : w0.cell? ⟨p, 2, none⟩ = some (.int .i64 65536) := hP0.1.cell 2
  have HP0 := Lib.hid hP0
  clear hP0
  obtain ⟨z0, z1, z2, z3, z4, z5⟩ := kR0.sixF
  obtain ⟨r0, r1, r2, r3, r4, r5⟩ := kR0.six
  go_enter Tryz.func171, Tryz.ntmps171
  go_upto_region 1 with fail
  rw [show w.alloc (.cells #[.string ⟨#[]⟩, .int .i64 0, .int .i64 0, .string ⟨#[]⟩, .string ⟨#[]⟩, .slice none 0 0] 26) = w0 from HW.out]
  clear HW
  go_wp2_with fail
  refine bodyPost_ret (v := .tuple #[.agg (exZero.cells none 0).toArray, .bool false]) (by simp [results, Tryz.results171, go_sem, *, Ex.cells, exZero, Ex.op, Ex.v, Ex.s, Ex.l, V.zero]) rfl ?_
  exact retPE_end rfl (Nat.le_refl _) lp ⟨⟨⟨by simp [exZero, Ex.v, V.zero], by simp [exZero, Ex.v, V.zero]⟩, by simp [exZero, Ex.op], by simp [exZero, Ex.s], by simp [exZero, Ex.v, V.zero]⟩, Nat.le_refl _, Nat.zero_le _, 0, ExQ.nil 0⟩ HP0.out (But.of_below hb0) _ _ _ _ _ _

/-- The end of a part whose answer is an expression of one part, made at the end. -/
theorem oned_end {p : Nat} {A : Option Addr} {c : Nat} {l : List Tok} {deep : Nat} {w X : World} {op : List UInt8} {e : Ex} {A' : Option Addr} {c' g a : Nat} {b : Bool} (ho : op.length ≤ 1000) (hg : w.heap.size ≤ g) (hpg : p < g) (hE : ExR (fun x => w.heap.size ≤ x ∧ x < X.heap.size ∧ x ≠ g) e A' c' X)
    (hP : PSt p A c l a deep X) (hb : But p w X) :
    RetPE (.mk op V.zero [] [e], b, a) p A c l deep w (.returned (.tuple #[.agg ((Ex.mk op V.zero [] [e]).cells (some ⟨X.heap.size, 0, none⟩) 1).toArray, .bool b]))
      (((((((X.setCell ⟨g, 0, none⟩ (.string ⟨op.toArray⟩)).setCell ⟨g, 1, none⟩ (.int .i64 0)).setCell ⟨g, 2, none⟩ (.int .i64 0)).setCell ⟨g, 3, none⟩ (.string ⟨#[]⟩)).setCell ⟨g, 4, none⟩ (.string ⟨#[]⟩)).setCell ⟨g, 5, none⟩ (.slice (some ⟨X.heap.size, 0, none⟩) 1 1)).alloc (.cells #[.string ⟨e.op.toArray⟩, .int .i64 e.v.k, .int .i64 e.v.i, .string ⟨e.v.s.toArray⟩, .string ⟨e.s.toArray⟩, .slice A' e.l.length c'] 26)) := by
  have hB := But.sixSet X g (.string ⟨op.toArray⟩) (.int .i64 0) (.int .i64 0) (.string ⟨#[]⟩) (.string ⟨#[]⟩) (.slice (some ⟨X.heap.size, 0, none⟩) 1 1)
  have hP1 := hP.far hB hpg
  have hbs := hb.sixOwn hg (.string ⟨op.toArray⟩) (.int .i64 0) (.int .i64 0) (.string ⟨#[]⟩) (.string ⟨#[]⟩) (.slice (some ⟨X.heap.size, 0, none⟩) 1 1)
  have hsz : ((((((X.setCell ⟨g, 0, none⟩ (.string ⟨op.toArray⟩)).setCell ⟨g, 1, none⟩ (.int .i64 0)).setCell ⟨g, 2, none⟩ (.int .i64 0)).setCell ⟨g, 3, none⟩ (.string ⟨#[]⟩)).setCell ⟨g, 4, none⟩ (.string ⟨#[]⟩)).setCell ⟨g, 5, none⟩ (.slice (some ⟨X.heap.size, 0, none⟩) 1 1)).heap.size = X.heap.size := by simp
  have hE1 := hE.keep (Q' := fun x => w.heap.size ≤ x ∧ x < X.heap.size ∧ x ≠ g) fun x hx => ⟨hx, fun o => hB.cell hx.2.1 hx.2.2 o⟩
  generalize ((((((X.setCell ⟨g, 0, none⟩ (.string ⟨op.toArray⟩)).setCell ⟨g, 1, none⟩ (.int .i64 0)).setCell ⟨g, 2, none⟩ (.int .i64 0)).setCell ⟨g, 3, none⟩ (.string ⟨#[]⟩)).setCell ⟨g, 4, none⟩ (.string ⟨#[]⟩)).setCell ⟨g, 5, none⟩ (.slice (some ⟨X.heap.size, 0, none⟩) 1 1)) = Y at *
  have hz := hb.size
  have hbl : Below Y.heap.size Y (Y.alloc (.cells (e.cells A' c').toArray 26)) := (Below.refl _ _).alloc (Nat.le_refl _) _
  refine ⟨some ⟨X.heap.size, 0, none⟩, 1, rfl, ?_, hP1.but hbl, hbs.after hbl⟩
  refine ExR.one (t := 26) (hE1.keep fun x hx => ⟨⟨hx.1, by simp; omega⟩, fun o => hbl.cell (p := ⟨x, o, none⟩) (show x < Y.heap.size by omega)⟩) (Blk.new' Y X.heap.size _ _ hsz) ⟨by omega, by simp; omega⟩ ho

set_option maxRecDepth 100000 in
set_option maxHeartbeats 2000000 in
theorem not_plain (p : Nat) (A : Option Addr) (c : Nat) (l : List Tok) (deep a : Nat) (R : Ex × Bool × Nat) (ha : a ≤ 1000) (hh : hit l a [78, 79, 84] = false) (hC : AtC 170 p A c l deep a R) : AtC 113 p A c l deep a R := by
  intro w hP
  have lp := hP.1.lt
  have HC := Lib.hid hC
  have HH := Lib.hid hh
  obtain ⟨w0, hw0⟩ : ∃ w0, w.alloc (.cells (exZero.cells none 0).toArray 26) = w0 := ⟨_, rfl⟩
  have kR0 : Blk w0 w.heap.size 26 (exZero.cells none 0).toArray := by rw [← hw0]; exact Blk.new _ _ _
  have hb0 : Below w.heap.size w w0 := by rw [← hw0]; ((repeat' (first | with_reducible exact Below.refl _ _ | with_reducible assumption | with_reducible refine Below.drew ?_ | with_reducible refine below_drewN ?_ _ | with_reducible refine Below.setCell ?_ ?_ _ | with_reducible refine Below.alloc ?_ ?_ _ | with_reducible refine Below.trans ?_ (Below.mono (by assumption) ?_))) <;> (first | (simp; done) | (simp; omega) | omega))
  have hs0 : w0.heap.size = w.heap.size + 1 := by rw [← hw0]; simp
  have HW := Lib.hid hw0
  have HP0 := Lib.hid (hP.but hb0)
  clear hw0 hP hC hh
  obtain ⟨e1, ok1, a1⟩ := R
  go_enter Tryz.func113, Tryz.ntmps113
  go_upto_region 1 with fail
  rw [show w.alloc (.cells #[.string ⟨#[]⟩, .int .i64 0, .int .i64 0, .string ⟨#[]⟩, .string ⟨#[]⟩, .slice none 0 0] 26) = w0 from HW.out]
  clear HW
  go_wp2_with fail
  refine (take_any p A c l a deep [78, 79, 84] w0 ha HP0.out).mono ?_
  rw [HH.out]
  rintro en w1 ⟨rfl, hP1, hb1⟩
  have hz1 := hb1.size
  have HP1 : Hid (PSt p A c l a deep w1) := hP1
  clear hP1
  go_wp2_with fail
  refine (HC.out w1 HP1.out).mono ?_
  rintro en w2 ⟨A2, c2, rfl, hE2, hP2, hb2⟩
  dsimp only [Ex.cells]
  have hz2 := hb2.size
  have kR2 := hb2.blk (hb1.blk kR0 (by omega)) (by omega)
  have lR2 := kR2.lt
  have HE2 : Hid (ExR (fun x => w.heap.size ≤ x ∧ x < w2.heap.size ∧ x ≠ w.heap.size) e1 A2 c2 w2) := hE2.keep fun x hx => ⟨⟨by omega, hx.2, by omega⟩, fun o => rfl⟩
  have HP2 := Lib.hid hP2
  have hbw2 := ((But.of_below (p := p) hb0).trans hb1).trans hb2
  clear hE2 hP2
  obtain ⟨z0, z1, z2, z3, z4, z5⟩ := kR2.sixF
  obtain ⟨r0, r1, r2, r3, r4, r5⟩ := kR2.six
  go_wp2_with fail
  refine bodyPost_ret (v := .tuple #[.agg (e1.cells A2 c2).toArray, .bool ok1]) (by simp [results, Tryz.results113, go_sem, *, Ex.cells]) rfl ?_
  exact retPE_end rfl (Nat.le_refl _) lp HE2.out HP2.out hbw2 _ _ _ _ _ _

set_option maxRecDepth 100000 in
set_option maxHeartbeats 2000000 in
theorem not_more (p : Nat) (A : Option Addr) (c : Nat) (l : List Tok) (deep a : Nat) (e1 : Ex) (ok1 : Bool) (a1 : Nat) (ha : a ≤ 1000) (hh : hit l a [78, 79, 84] = true) (hC : InC 113 p A c l deep (a + 1) (e1, ok1, a1)) :
    AtC 113 p A c l deep a (.mk opNot V.zero [] [e1], ok1, a1) := by
  intro w hP
  have lp := hP.1.lt
  have HC := Lib.hid hC
  have HH := Lib.hid hh
  obtain ⟨w0, hw0⟩ : ∃ w0, w.alloc (.cells (exZero.cells none 0).toArray 26) = w0 := ⟨_, rfl⟩
  have kR0 : Blk w0 w.heap.size 26 (exZero.cells none 0).toArray := by rw [← hw0]; exact Blk.new _ _ _
  have hb0 : Below w.heap.size w w0 := by rw [← hw0]; ((repeat' (first | with_reducible exact Below.refl _ _ | with_reducible assumption | with_reducible refine Below.drew ?_ | with_reducible refine below_drewN ?_ _ | with_reducible refine Below.setCell ?_ ?_ _ | with_reducible refine Below.alloc ?_ ?_ _ | with_reducible refine Below.trans ?_ (Below.mono (by assumption) ?_))) <;> (first | (simp; done) | (simp; omega) | omega))
  have hs0 : w0.heap.size = w.heap.size + 1 := by rw [← hw0]; simp
  have HW := Lib.hid hw0
  have HP0 := Lib.hid (hP.but hb0)
  clear hw0 hP hC hh
  go_enter Tryz.func113, Tryz.ntmps113
  go_upto_region 1 with fail
  rw [show w.alloc (.cells #[.string ⟨#[]⟩, .int .i64 0, .int .i64 0, .string ⟨#[]⟩, .string ⟨#[]⟩, .slice none 0 0] 26) = w0 from HW.out]
  clear HW
  go_wp2_with fail
  refine (take_any p A c l a deep [78, 79, 84] w0 ha HP0.out).mono ?_
  rw [HH.out]
  rintro en w1 ⟨rfl, hP1, hb1⟩
  have hz1 := hb1.size
  have HP1 : Hid (PSt p A c l (a + 1) deep w1) := hP1
  clear hP1
  go_wp2_with fail
  refine (HC.out w1 HP1.out).mono ?_
  rintro en w2 ⟨A2, c2, rfl, hE2, hP2, hb2⟩
  dsimp only [Ex.cells]
  have hz2 := hb2.size
  obtain ⟨w3, hw3⟩ : ∃ w3, w2.alloc (.cells (e1.cells A2 c2).toArray 26) = w3 := ⟨_, rfl⟩
  have kB3 : Blk w3 w2.heap.size 26 (e1.cells A2 c2).toArray := by rw [← hw3]; exact Blk.new _ _ _
  have hb3 : Below w2.heap.size w2 w3 := by rw [← hw3]; ((repeat' (first | with_reducible exact Below.refl _ _ | with_reducible assumption | with_reducible refine Below.drew ?_ | with_reducible refine below_drewN ?_ _ | with_reducible refine Below.setCell ?_ ?_ _ | with_reducible refine Below.alloc ?_ ?_ _ | with_reducible refine Below.trans ?_ (Below.mono (by assumption) ?_))) <;> (first | (simp; done) | (simp; omega) | omega))
  have hs3 : w3.heap.size = w2.heap.size + 1 := by rw [← hw3]; simp
  have HW3 := Lib.hid hw3
  clear hw3
  have kR3 := (hb2.blk (hb1.blk kR0 (by omega)) (by omega)).below hb3 (by omega)
  have lR3 := kR3.lt
  have lB3 := kB3.lt
  have HE3 : Hid (ExR (fun x => w.heap.size ≤ x ∧ x < w3.heap.size ∧ x ≠ w.heap.size) e1 A2 c2 w3) := hE2.keep fun x hx => ⟨⟨by omega, by omega, by omega⟩, fun o => hb3.cell (p := ⟨x, o, none⟩) hx.2⟩
  have HP3 := Lib.hid (hP2.but hb3)
  have hbw3 := (((But.of_below (p := p) hb0).trans hb1).trans hb2).after hb3
  clear hE2 hP2
  obtain ⟨z0, z1, z2, z3, z4, z5⟩ := kR3.sixF
  obtain ⟨r0, r1, r2, r3, r4, r5⟩ := kR3.six
  obtain ⟨q0, q1, q2, q3, q4, q5⟩ := kB3.six
  go_upto_region 4 with fail
  rw [show w2.alloc (.cells #[.string ⟨e1.op.toArray⟩, .int .i64 e1.v.k, .int .i64 e1.v.i, .string ⟨e1.v.s.toArray⟩, .string ⟨e1.s.toArray⟩, .slice A2 e1.l.length c2] 26) = w3 from HW3.out]
  clear HW3 hs3 hs0 hz1 hz2
  go_wp2_with fail
  refine bodyPost_ret (v := .tuple #[.agg ((Ex.mk opNot V.zero [] [e1]).cells (some ⟨w3.heap.size, 0, none⟩) 1).toArray, .bool ok1]) (by simp [results, Tryz.results113, go_sem, *, Ex.cells, Ex.op, Ex.v, Ex.s, Ex.l, V.zero, opNot]) rfl ?_
  exact oned_end (by decide) (Nat.le_refl _) lp HE3.out HP3.out hbw3

end Go.Proofs.YtdnkkkgneikhkaaGreatDoor

namespace Go.Proofs.YtdnkkkgneikhkaaGreatDoor
open Go.RowKit

attribute [local go_sem] ByteArray.extract_mk ba_get ba_append
attribute [local go_sem ↓] Go.wp_at_zero Go.wp_at_succ run_eql_V run_neq_V

/-- The end of a part whose answer is an expression of two parts, made at the end. -/
theorem twoed_end {p : Nat} {A : Option Addr} {c : Nat} {l : List Tok} {deep : Nat} {w X : World} {op : List UInt8} {e e5 : Ex} {A' A5 : Option Addr} {c' c5 g a : Nat} {b : Bool} (ho : op.length ≤ 1000) (hg : w.heap.size ≤ g) (hpg : p < g) (hE : ExR (fun x => w.heap.size ≤ x ∧ x < X.heap.size ∧ x ≠ g) e A' c' X) (hE5 : ExR (fun x => w.heap.size ≤ x ∧ x < X.heap.size ∧ x ≠ g) e5 A5 c5 X)
    (hP : PSt p A c l a deep X) (hb : But p w X) :
    RetPE (.mk op V.zero [] [e, e5], b, a) p A c l deep w (.returned (.tuple #[.agg ((Ex.mk op V.zero [] [e, e5]).cells (some ⟨X.heap.size, 0, none⟩) 2).toArray, .bool b]))
      (((((((X.setCell ⟨g, 0, none⟩ (.string ⟨op.toArray⟩)).setCell ⟨g, 1, none⟩ (.int .i64 0)).setCell ⟨g, 2, none⟩ (.int .i64 0)).setCell ⟨g, 3, none⟩ (.string ⟨#[]⟩)).setCell ⟨g, 4, none⟩ (.string ⟨#[]⟩)).setCell ⟨g, 5, none⟩ (.slice (some ⟨X.heap.size, 0, none⟩) 2 2)).alloc (.cells #[.string ⟨e.op.toArray⟩, .int .i64 e.v.k, .int .i64 e.v.i, .string ⟨e.v.s.toArray⟩, .string ⟨e.s.toArray⟩, .slice A' e.l.length c', .string ⟨e5.op.toArray⟩, .int .i64 e5.v.k, .int .i64 e5.v.i, .string ⟨e5.v.s.toArray⟩, .string ⟨e5.s.toArray⟩, .slice A5 e5.l.length c5] 26)) := by
  have hB := But.sixSet X g (.string ⟨op.toArray⟩) (.int .i64 0) (.int .i64 0) (.string ⟨#[]⟩) (.string ⟨#[]⟩) (.slice (some ⟨X.heap.size, 0, none⟩) 2 2)
  have hP1 := hP.far hB hpg
  have hbs := hb.sixOwn hg (.string ⟨op.toArray⟩) (.int .i64 0) (.int .i64 0) (.string ⟨#[]⟩) (.string ⟨#[]⟩) (.slice (some ⟨X.heap.size, 0, none⟩) 2 2)
  have hsz : ((((((X.setCell ⟨g, 0, none⟩ (.string ⟨op.toArray⟩)).setCell ⟨g, 1, none⟩ (.int .i64 0)).setCell ⟨g, 2, none⟩ (.int .i64 0)).setCell ⟨g, 3, none⟩ (.string ⟨#[]⟩)).setCell ⟨g, 4, none⟩ (.string ⟨#[]⟩)).setCell ⟨g, 5, none⟩ (.slice (some ⟨X.heap.size, 0, none⟩) 2 2)).heap.size = X.heap.size := by simp
  have hE1 := hE.keep (Q' := fun x => w.heap.size ≤ x ∧ x < X.heap.size ∧ x ≠ g) fun x hx => ⟨hx, fun o => hB.cell hx.2.1 hx.2.2 o⟩
  have hE51 := hE5.keep (Q' := fun x => w.heap.size ≤ x ∧ x < X.heap.size ∧ x ≠ g) fun x hx => ⟨hx, fun o => hB.cell hx.2.1 hx.2.2 o⟩
  generalize ((((((X.setCell ⟨g, 0, none⟩ (.string ⟨op.toArray⟩)).setCell ⟨g, 1, none⟩ (.int .i64 0)).setCell ⟨g, 2, none⟩ (.int .i64 0)).setCell ⟨g, 3, none⟩ (.string ⟨#[]⟩)).setCell ⟨g, 4, none⟩ (.string ⟨#[]⟩)).setCell ⟨g, 5, none⟩ (.slice (some ⟨X.heap.size, 0, none⟩) 2 2)) = Y at *
  have hz := hb.size
  have hbl : Below Y.heap.size Y (Y.alloc (.cells (e.cells A' c' ++ e5.cells A5 c5).toArray 26)) := (Below.refl _ _).alloc (Nat.le_refl _) _
  refine ⟨some ⟨X.heap.size, 0, none⟩, 2, rfl, ?_, hP1.but hbl, hbs.after hbl⟩
  refine ExR.two (t := 26) (hE1.keep fun x hx => ⟨⟨hx.1, by simp; omega⟩, fun o => hbl.cell (p := ⟨x, o, none⟩) (show x < Y.heap.size by omega)⟩) (hE51.keep fun x hx => ⟨⟨hx.1, by simp; omega⟩, fun o => hbl.cell (p := ⟨x, o, none⟩) (show x < Y.heap.size by omega)⟩) (Blk.new' Y X.heap.size _ _ hsz) ⟨by omega, by simp; omega⟩ ho


theorem oned_end1 {p : Nat} {A : Option Addr} {c : Nat} {l : List Tok} {deep : Nat} {w X : World} {op : List UInt8} {e : Ex} {A' : Option Addr} {c' g gs a : Nat} {b : Bool} (ho : op.length ≤ 1000) (hg : w.heap.size ≤ g) (hpg : p < g) (hE : ExR (fun x => w.heap.size ≤ x ∧ x < X.heap.size ∧ x ≠ g) e A' c' X)
    (ks : Blk X gs 26 (e.cells A' c').toArray) (hgs : w.heap.size ≤ gs) (hgg : gs ≠ g) (hP : PSt p A c l a deep X) (hb : But p w X) :
    RetPE (.mk op V.zero [] [e], b, a) p A c l deep w (.returned (.tuple #[.agg ((Ex.mk op V.zero [] [e]).cells (some ⟨gs, 0, none⟩) 1).toArray, .bool b]))
      ((((((X.setCell ⟨g, 0, none⟩ (.string ⟨op.toArray⟩)).setCell ⟨g, 1, none⟩ (.int .i64 0)).setCell ⟨g, 2, none⟩ (.int .i64 0)).setCell ⟨g, 3, none⟩ (.string ⟨#[]⟩)).setCell ⟨g, 4, none⟩ (.string ⟨#[]⟩)).setCell ⟨g, 5, none⟩ (.slice (some ⟨gs, 0, none⟩) 1 1)) :=
  retPE_end rfl hg hpg (ExR.one hE ks ⟨hgs, ks.lt, hgg⟩ ho) hP hb _ _ _ _ _ _


def cmpWs : List (List UInt8) := [[61], [60], [73, 83]]
def compF (l : List Tok) (Fs : Nat → Ex × Bool × Nat) (a : Nat) : Ex × Bool × Nat :=
  if (Fs a).2.1 then (match takenF l (Fs a).2.2 cmpWs with
    | none => ((Fs a).1, true, (Fs a).2.2)
    | some x => if x = [73, 83] then (.mk opNull V.zero [] [(Fs a).1], hit l ((Fs a).2.2 + 1) [78, 85, 76, 76], if hit l ((Fs a).2.2 + 1) [78, 85, 76, 76] then (Fs a).2.2 + 1 + 1 else (Fs a).2.2 + 1)
      else (.mk x V.zero [] [(Fs a).1, (Fs ((Fs a).2.2 + 1)).1], (Fs ((Fs a).2.2 + 1)).2.1, (Fs ((Fs a).2.2 + 1)).2.2))
  else ((Fs a).1, false, (Fs a).2.2)
theorem hit_lt {l : List Tok} {a : Nat} {x : List UInt8} (h : hit l a x = true) : a < l.length := by
  unfold hit at h
  split at h
  · cases h
  · rename_i t ht
    exact (List.getElem?_eq_some_iff.1 ht).1
theorem comp_in (l : List Tok) (Fs : Nat → Ex × Bool × Nat) (hF : ∀ a, a ≤ l.length → a ≤ (Fs a).2.2 ∧ (Fs a).2.2 ≤ l.length) (a : Nat) (ha : a ≤ l.length) : a ≤ (compF l Fs a).2.2 ∧ (compF l Fs a).2.2 ≤ l.length := by
  have h1 := hF a ha
  unfold compF
  split
  · split
    · exact h1
    · rename_i x hx
      have h2 := (takenF_lt hx).1
      split
      · simp only
        split
        · rename_i hh
          have := hit_lt hh
          omega
        · omega
      · have h3 := hF ((Fs a).2.2 + 1) (by omega)
        simp only
        omega
  · exact h1

set_option maxRecDepth 100000 in
set_option maxHeartbeats 8000000 in
theorem comp_part (p : Nat) (A : Option Addr) (c : Nat) (l : List Tok) (deep : Nat) (Fs : Nat → Ex × Bool × Nat) (hll : l.length ≤ 990) (hC : PartC 202 p A c l deep Fs) : PartC 170 p A c l deep (compF l Fs) := by
  refine ⟨comp_in l Fs hC.1, fun a w ha hP => ?_⟩
  have lp := hP.1.lt
  have hFa := hC.1 a ha
  have HC := Lib.hid hC
  obtain ⟨R, hR⟩ : ∃ R, compF l Fs a = R := ⟨_, rfl⟩
  rw [hR]
  obtain ⟨w0, hw0⟩ : ∃ w0, w.alloc (.cells (exZero.cells none 0).toArray 26) = w0 := ⟨_, rfl⟩
  have kR0 : Blk w0 w.heap.size 26 (exZero.cells none 0).toArray := by rw [← hw0]; exact Blk.new _ _ _
  have hb0 : Below w.heap.size w w0 := by rw [← hw0]; ((repeat' (first | with_reducible exact Below.refl _ _ | with_reducible assumption | with_reducible refine Below.drew ?_ | with_reducible refine below_drewN ?_ _ | with_reducible refine Below.setCell ?_ ?_ _ | with_reducible refine Below.alloc ?_ ?_ _ | with_reducible refine Below.trans ?_ (Below.mono (by assumption) ?_))) <;> (first | (simp; done) | (simp; omega) | omega))
  have hs0 : w0.heap.size = w.heap.size + 1 := by rw [← hw0]; simp
  have HW := Lib.hid hw0
  have HP0 := Lib.hid (hP.but hb0)
  clear hw0 hP hC
  obtain ⟨Q, hQ⟩ : ∃ Q, Fs a = Q := ⟨_, rfl⟩
  unfold compF at hR
  rw [hQ] at hR hFa
  obtain ⟨e1, ok1, a1⟩ := Q
  have HQ := Lib.hid hQ
  simp only at hR hFa
  have HR := Lib.hid hR
  clear hQ hR
  go_enter Tryz.func170, Tryz.ntmps170
  go_upto_region 1 with fail
  rw [show w.alloc (.cells #[.string ⟨#[]⟩, .int .i64 0, .int .i64 0, .string ⟨#[]⟩, .string ⟨#[]⟩, .slice none 0 0] 26) = w0 from HW.out]
  clear HW
  go_wp2_with fail
  refine (HC.out.2 a w0 ha HP0.out).mono ?_
  rw [HQ.out]
  rintro en w1 ⟨A1, c1, rfl, hE1, hP1, hb1⟩
  dsimp only [Ex.cells]
  obtain ⟨w2, hw2⟩ : ∃ w2, w1.alloc (.cells (e1.cells A1 c1).toArray 26) = w2 := ⟨_, rfl⟩
  have kB2 : Blk w2 w1.heap.size 26 (e1.cells A1 c1).toArray := by rw [← hw2]; exact Blk.new _ _ _
  have hb2 : Below w1.heap.size w1 w2 := by rw [← hw2]; ((repeat' (first | with_reducible exact Below.refl _ _ | with_reducible assumption | with_reducible refine Below.drew ?_ | with_reducible refine below_drewN ?_ _ | with_reducible refine Below.setCell ?_ ?_ _ | with_reducible refine Below.alloc ?_ ?_ _ | with_reducible refine Below.trans ?_ (Below.mono (by assumption) ?_))) <;> (first | (simp; done) | (simp; omega) | omega))
  have hs2 : w2.heap.size = w1.heap.size + 1 := by rw [← hw2]; simp
  have HW2 := Lib.hid hw2
  clear hw2
  have hz1 := hb1.size
  have kR2 := (hb1.blk kR0 (by omega)).below hb2 (by omega)
  have HP2 := Lib.hid (hP1.but hb2)
  have HE2 : Hid (ExR (fun x => w.heap.size < x ∧ x < w2.heap.size) e1 A1 c1 w2) := hE1.keep fun x hx => ⟨⟨by omega, by omega⟩, fun o => hb2.cell (p := ⟨x, o, none⟩) hx.2⟩
  have hbw2 : But p w w2 := ((But.of_below hb0).trans hb1).after hb2
  clear hP1 hE1 hb1 hb2 kR0 HP0
  go_upto_region 2 with fail
  rw [show w1.alloc (.cells #[.string ⟨e1.op.toArray⟩, .int .i64 e1.v.k, .int .i64 e1.v.i, .string ⟨e1.v.s.toArray⟩, .string ⟨e1.s.toArray⟩, .slice A1 e1.l.length c1] 26) = w2 from HW2.out]
  clear HW2
  obtain ⟨G, hG⟩ : ∃ G, w1.heap.size = G := ⟨_, rfl⟩
  rw [hG] at kB2 hz1 hs2 ⊢
  have hGw : w.heap.size < G := by omega
  clear hG hz1 hs2 hs0 hb0
  have lB2 := kB2.lt
  have lR2 := kR2.lt
  cases ok1
  · have HF : Hid (R = (e1, false, a1)) := HR.out.symm
    clear HR
    obtain ⟨q0, q1, q2, q3, q4, q5⟩ := kB2.six
    obtain ⟨z0, z1, z2, z3, z4, z5⟩ := kR2.sixF
    obtain ⟨r0, r1, r2, r3, r4, r5⟩ := kR2.six
    go_wp2_with fail
    refine bodyPost_ret (v := .tuple #[.agg (e1.cells A1 c1).toArray, .bool false]) (by simp [results, Tryz.results170, go_sem, *, Ex.cells]) rfl ?_
    exact retPE_end HF.out (Nat.le_refl _) lp (HE2.out.keep fun x hx => ⟨⟨by omega, hx.2, by omega⟩, fun o => rfl⟩) HP2.out hbw2 _ _ _ _ _ _
  obtain ⟨w3, hw3⟩ : ∃ w3, w2.alloc (.cells #[.string ⟨#[61]⟩, .string ⟨#[60]⟩, .string ⟨#[73, 83]⟩] 9) = w3 := ⟨_, rfl⟩
  have kg3 : Blk w3 w2.heap.size 9 (cmpWs.map strV).toArray := by rw [← hw3]; exact Blk.new _ _ _
  have hb3 : Below w2.heap.size w2 w3 := by rw [← hw3]; ((repeat' (first | with_reducible exact Below.refl _ _ | with_reducible assumption | with_reducible refine Below.drew ?_ | with_reducible refine below_drewN ?_ _ | with_reducible refine Below.setCell ?_ ?_ _ | with_reducible refine Below.alloc ?_ ?_ _ | with_reducible refine Below.trans ?_ (Below.mono (by assumption) ?_))) <;> (first | (simp; done) | (simp; omega) | omega))
  have hs3 : w3.heap.size = w2.heap.size + 1 := by rw [← hw3]; simp
  have HW3 := Lib.hid hw3
  clear hw3
  have kB3 := kB2.below hb3 lB2
  have kR3 := kR2.below hb3 lR2
  have HP3 := Lib.hid (HP2.out.but hb3)
  have HE3 : Hid (ExR (fun x => w.heap.size < x ∧ x < w3.heap.size) e1 A1 c1 w3) := HE2.out.keep fun x hx => ⟨⟨hx.1, by omega⟩, fun o => hb3.cell (p := ⟨x, o, none⟩) hx.2⟩
  have hbw3 := hbw2.after hb3
  have hgp : w2.heap.size ≠ p := by omega
  clear HP2 HE2 kB2 kR2 hbw2 hb3 hs3
  go_wp2_with fail
  rw [HW3.out]
  clear HW3
  refine (taken_any p A c l a1 deep w2.heap.size cmpWs w3 (by omega) (by decide) hgp HP3.out kg3 3).mono ?_
  obtain ⟨O, hO⟩ : ∃ O, takenF l a1 cmpWs = O := ⟨_, rfl⟩
  have hR := HR.out
  rw [hO] at hR ⊢
  simp only [if_true] at hR
  rintro en w4 ⟨rfl, hP4, hb4⟩
  have hz4 := hb4.size
  have kB4 := hb4.blk kB3 (by omega)
  have kR4 := hb4.blk kR3 (by omega)
  have lB4 := kB4.lt
  have lR4 := kR4.lt
  have HE4 : Hid (ExR (fun x => w.heap.size < x ∧ x < w4.heap.size) e1 A1 c1 w4) := HE3.out.keep fun x hx => ⟨⟨hx.1, by omega⟩, fun o => hb4.cell hx.2 (by omega) o⟩
  have hbw4 := hbw3.trans hb4
  have HP4 := Lib.hid hP4
  clear hP4 HE3 HP3 kB3 kR3 kg3 hbw3 hb4 HR HQ lB2 lR2 hz4
  cases O with
  | none =>
    have HF : Hid (R = (e1, true, a1)) := hR.symm
    clear hR
    obtain ⟨q0, q1, q2, q3, q4, q5⟩ := kB4.six
    obtain ⟨z0, z1, z2, z3, z4, z5⟩ := kR4.sixF
    obtain ⟨r0, r1, r2, r3, r4, r5⟩ := kR4.six
    go_wp2_with fail
    refine bodyPost_ret (v := .tuple #[.agg (e1.cells A1 c1).toArray, .bool true]) (by simp [results, Tryz.results170, go_sem, *, Ex.cells]) rfl ?_
    exact retPE_end HF.out (Nat.le_refl _) lp (HE4.out.keep fun x hx => ⟨⟨by omega, hx.2, by omega⟩, fun o => rfl⟩) HP4.out hbw4 _ _ _ _ _ _
  | some x =>
    obtain ⟨halt, hxw⟩ := takenF_lt hO
    simp only at hR
    have HP5 : Hid (PSt p A c l (a1 + 1) deep w4) := HP4.out
    clear HP4 hO
    simp only [cmpWs, List.mem_cons, List.not_mem_nil, or_false] at hxw
    rcases hxw with rfl | rfl | rfl
    ·
      have eIS : (([61] : List UInt8) == [73, 83]) = false := by decide
      rw [if_neg (by decide)] at hR
      have hFn := HC.out.1 (a1 + 1) (by omega)
      obtain ⟨Q, hQ⟩ : ∃ Q, Fs (a1 + 1) = Q := ⟨_, rfl⟩
      rw [hQ] at hR hFn
      obtain ⟨e5, ok5, a5⟩ := Q
      have HQ := Lib.hid hQ
      simp only at hR
      have HF := Lib.hid hR
      clear hR hQ
      go_wp2_with fail
      refine (HC.out.2 (a1 + 1) w4 (by omega) HP5.out).mono ?_
      rw [HQ.out]
      rintro en w5 ⟨A5, c5, rfl, hE5, hP6, hb5⟩
      dsimp only [Ex.cells]
      have hz5 := hb5.size
      obtain ⟨w6, hw6⟩ : ∃ w6, w5.alloc (.cells (e5.cells A5 c5).toArray 26) = w6 := ⟨_, rfl⟩
      have kC6 : Blk w6 w5.heap.size 26 (e5.cells A5 c5).toArray := by rw [← hw6]; exact Blk.new _ _ _
      have hb6 : Below w5.heap.size w5 w6 := by rw [← hw6]; ((repeat' (first | with_reducible exact Below.refl _ _ | with_reducible assumption | with_reducible refine Below.drew ?_ | with_reducible refine below_drewN ?_ _ | with_reducible refine Below.setCell ?_ ?_ _ | with_reducible refine Below.alloc ?_ ?_ _ | with_reducible refine Below.trans ?_ (Below.mono (by assumption) ?_))) <;> (first | (simp; done) | (simp; omega) | omega))
      have hs6 : w6.heap.size = w5.heap.size + 1 := by rw [← hw6]; simp
      have HW6 := Lib.hid hw6
      clear hw6
      have kB6 := (hb5.blk kB4 (by omega)).below hb6 (by omega)
      have kR6 := (hb5.blk kR4 (by omega)).below hb6 (by omega)
      have lB6 := kB6.lt
      have lR6 := kR6.lt
      have lC6 := kC6.lt
      have HE6 : Hid (ExR (fun x => w.heap.size ≤ x ∧ x < w6.heap.size ∧ x ≠ w.heap.size) e1 A1 c1 w6) := HE4.out.keep fun x hx => ⟨⟨by omega, by omega, by omega⟩, fun o => (hb6.cell (p := ⟨x, o, none⟩) (show x < _ by omega)).trans (hb5.cell hx.2 (by omega) o)⟩
      have HN6 : Hid (ExR (fun x => w.heap.size ≤ x ∧ x < w6.heap.size ∧ x ≠ w.heap.size) e5 A5 c5 w6) := hE5.keep fun x hx => ⟨⟨by omega, by omega, by omega⟩, fun o => hb6.cell (p := ⟨x, o, none⟩) hx.2⟩
      have HP7 := Lib.hid (hP6.but hb6)
      have hbw6 := (hbw4.trans hb5).after hb6
      clear hE5 hP6 HE4 HP5 kB4 kR4 hbw4 hb5 hb6 hs6 hz5 lB4 lR4
      obtain ⟨z0, z1, z2, z3, z4, z5⟩ := kR6.sixF
      obtain ⟨r0, r1, r2, r3, r4, r5⟩ := kR6.six
      obtain ⟨q0, q1, q2, q3, q4, q5⟩ := kB6.six
      obtain ⟨s0, s1, s2, s3, s4, s5⟩ := kC6.six
      go_upto_region 7 with fail
      rw [show w5.alloc (.cells #[.string ⟨e5.op.toArray⟩, .int .i64 e5.v.k, .int .i64 e5.v.i, .string ⟨e5.v.s.toArray⟩, .string ⟨e5.s.toArray⟩, .slice A5 e5.l.length c5] 26) = w6 from HW6.out]
      clear HW6
      go_wp2_with fail
      refine bodyPost_ret (v := .tuple #[.agg ((Ex.mk [61] V.zero [] [e1, e5]).cells (some ⟨w6.heap.size, 0, none⟩) 2).toArray, .bool ok5]) (by simp [results, Tryz.results170, go_sem, *, Ex.cells, Ex.op, Ex.v, Ex.s, Ex.l, V.zero]) rfl ?_
      rw [← HF.out]
      exact twoed_end (by decide) (Nat.le_refl _) lp HE6.out HN6.out HP7.out hbw6
    ·
      have eIS : (([60] : List UInt8) == [73, 83]) = false := by decide
      rw [if_neg (by decide)] at hR
      have hFn := HC.out.1 (a1 + 1) (by omega)
      obtain ⟨Q, hQ⟩ : ∃ Q, Fs (a1 + 1) = Q := ⟨_, rfl⟩
      rw [hQ] at hR hFn
      obtain ⟨e5, ok5, a5⟩ := Q
      have HQ := Lib.hid hQ
      simp only at hR
      have HF := Lib.hid hR
      clear hR hQ
      go_wp2_with fail
      refine (HC.out.2 (a1 + 1) w4 (by omega) HP5.out).mono ?_
      rw [HQ.out]
      rintro en w5 ⟨A5, c5, rfl, hE5, hP6, hb5⟩
      dsimp only [Ex.cells]
      have hz5 := hb5.size
      obtain ⟨w6, hw6⟩ : ∃ w6, w5.alloc (.cells (e5.cells A5 c5).toArray 26) = w6 := ⟨_, rfl⟩
      have kC6 : Blk w6 w5.heap.size 26 (e5.cells A5 c5).toArray := by rw [← hw6]; exact Blk.new _ _ _
      have hb6 : Below w5.heap.size w5 w6 := by rw [← hw6]; ((repeat' (first | with_reducible exact Below.refl _ _ | with_reducible assumption | with_reducible refine Below.drew ?_ | with_reducible refine below_drewN ?_ _ | with_reducible refine Below.setCell ?_ ?_ _ | with_reducible refine Below.alloc ?_ ?_ _ | with_reducible refine Below.trans ?_ (Below.mono (by assumption) ?_))) <;> (first | (simp; done) | (simp; omega) | omega))
      have hs6 : w6.heap.size = w5.heap.size + 1 := by rw [← hw6]; simp
      have HW6 := Lib.hid hw6
      clear hw6
      have kB6 := (hb5.blk kB4 (by omega)).below hb6 (by omega)
      have kR6 := (hb5.blk kR4 (by omega)).below hb6 (by omega)
      have lB6 := kB6.lt
      have lR6 := kR6.lt
      have lC6 := kC6.lt
      have HE6 : Hid (ExR (fun x => w.heap.size ≤ x ∧ x < w6.heap.size ∧ x ≠ w.heap.size) e1 A1 c1 w6) := HE4.out.keep fun x hx => ⟨⟨by omega, by omega, by omega⟩, fun o => (hb6.cell (p := ⟨x, o, none⟩) (show x < _ by omega)).trans (hb5.cell hx.2 (by omega) o)⟩
      have HN6 : Hid (ExR (fun x => w.heap.size ≤ x ∧ x < w6.heap.size ∧ x ≠ w.heap.size) e5 A5 c5 w6) := hE5.keep fun x hx => ⟨⟨by omega, by omega, by omega⟩, fun o => hb6.cell (p := ⟨x, o, none⟩) hx.2⟩
      have HP7 := Lib.hid (hP6.but hb6)
      have hbw6 := (hbw4.trans hb5).after hb6
      clear hE5 hP6 HE4 HP5 kB4 kR4 hbw4 hb5 hb6 hs6 hz5 lB4 lR4
      obtain ⟨z0, z1, z2, z3, z4, z5⟩ := kR6.sixF
      obtain ⟨r0, r1, r2, r3, r4, r5⟩ := kR6.six
      obtain ⟨q0, q1, q2, q3, q4, q5⟩ := kB6.six
      obtain ⟨s0, s1, s2, s3, s4, s5⟩ := kC6.six
      go_upto_region 7 with fail
      rw [show w5.alloc (.cells #[.string ⟨e5.op.toArray⟩, .int .i64 e5.v.k, .int .i64 e5.v.i, .string ⟨e5.v.s.toArray⟩, .string ⟨e5.s.toArray⟩, .slice A5 e5.l.length c5] 26) = w6 from HW6.out]
      clear HW6
      go_wp2_with fail
      refine bodyPost_ret (v := .tuple #[.agg ((Ex.mk [60] V.zero [] [e1, e5]).cells (some ⟨w6.heap.size, 0, none⟩) 2).toArray, .bool ok5]) (by simp [results, Tryz.results170, go_sem, *, Ex.cells, Ex.op, Ex.v, Ex.s, Ex.l, V.zero]) rfl ?_
      rw [← HF.out]
      exact twoed_end (by decide) (Nat.le_refl _) lp HE6.out HN6.out HP7.out hbw6
    · rw [if_pos rfl] at hR
      obtain ⟨B, hB⟩ : ∃ B, hit l (a1 + 1) [78, 85, 76, 76] = B := ⟨_, rfl⟩
      rw [hB] at hR
      have HF := Lib.hid hR
      have HTK : Hid (∀ X : World, PSt p A c l (a1 + 1) deep X → Calls Tryz.prog 168 #[.pointer (some ⟨p, 0, none⟩), .string ⟨#[78, 85, 76, 76]⟩] X (RetTake B p A c l (a1 + 1) deep X)) := fun X hX => by
        have := take_any p A c l (a1 + 1) deep [78, 85, 76, 76] X (by omega) hX
        rw [hB] at this
        exact this
      clear hB hR
      have hpG : p ≠ G := by omega
      have hpw : p ≠ w.heap.size := by omega
      obtain ⟨q0, q1, q2, q3, q4, q5⟩ := kB4.six
      obtain ⟨z0, z1, z2, z3, z4, z5⟩ := kR4.sixF
      obtain ⟨r0, r1, r2, r3, r4, r5⟩ := kR4.six
      go_upto_region 11 with fail
      go_region_with (go_at_call 168; refine (HTK.out _ (HP5.out.but (by ((repeat' (first | with_reducible exact Below.refl _ _ | with_reducible assumption | with_reducible refine Below.drew ?_ | with_reducible refine below_drewN ?_ _ | with_reducible refine Below.setCell ?_ ?_ _ | with_reducible refine Below.alloc ?_ ?_ _ | with_reducible refine Below.trans ?_ (Below.mono (by assumption) ?_))) <;> (first | (simp; done) | (simp; omega) | omega))))).mono ?_; rintro en w6 ⟨rfl, hP6, hb6⟩; have HP6 := Lib.hid hP6; clear hP6; have hz6 := hb6.size; (try simp at hz6); have lG6 : G < w6.heap.size := (by omega); have lR6 : w.heap.size < w6.heap.size := (by omega); have hb46 : But p w4 w6 := But.trans (But.of_below (by ((repeat' (first | with_reducible exact Below.refl _ _ | with_reducible assumption | with_reducible refine Below.drew ?_ | with_reducible refine below_drewN ?_ _ | with_reducible refine Below.setCell ?_ ?_ _ | with_reducible refine Below.alloc ?_ ?_ _ | with_reducible refine Below.trans ?_ (Below.mono (by assumption) ?_))) <;> (first | (simp; done) | (simp; omega) | omega)))) hb6; have kB6 := hb46.blk kB4 (Ne.symm hpG); have kR6 := hb46.blk kR4 (Ne.symm hpw); obtain ⟨u0, u1, u2, u3, u4, u5⟩ := kB6.six; obtain ⟨v0, v1, v2, v3, v4, v5⟩ := kR6.sixF; obtain ⟨x0, x1, x2, x3, x4, x5⟩ := kR6.six)
      all_goals (go_wp2_with fail)
      all_goals (have HE6 : ExR (fun x => w.heap.size ≤ x ∧ x < w6.heap.size ∧ x ≠ w.heap.size) e1 A1 c1 w6 := HE4.out.keep fun x hx => ⟨⟨by omega, by have := hb46.size; omega, by omega⟩, fun o => hb46.cell hx.2 (by omega) o⟩)
      all_goals (have hbw6 := hbw4.trans hb46)
      all_goals
        first
        | (refine bodyPost_ret (v := .tuple #[.agg ((Ex.mk opNull V.zero [] [e1]).cells (some ⟨w6.heap.size, 0, none⟩) 1).toArray, .bool B]) ?_ rfl ?_
           focus (simp [results, Tryz.results170, go_sem, *, Ex.cells, Ex.op, Ex.v, Ex.s, Ex.l, V.zero, opNull]; done)
           rw [← HF.out]
           exact oned_end (by decide) (Nat.le_refl _) lp HE6 HP6.out hbw6)
        | (refine bodyPost_ret (v := .tuple #[.agg ((Ex.mk opNull V.zero [] [e1]).cells (some ⟨w4.heap.size, 0, none⟩) 1).toArray, .bool B]) ?_ rfl ?_
           focus (simp [results, Tryz.results170, go_sem, *, Ex.cells, Ex.op, Ex.v, Ex.s, Ex.l, V.zero, opNull]; done)
           rw [← HF.out]
           have ks : Blk w6 w4.heap.size 26 (e1.cells A1 c1).toArray := hb6.blk (Blk.new' _ _ _ _ (by simp)) (by omega)
           exact oned_end1 (by decide) (Nat.le_refl _) lp HE6 ks (by omega) (by omega) HP6.out hbw6)

end Go.Proofs.YtdnkkkgneikhkaaGreatDoor

namespace Go.Proofs.YtdnkkkgneikhkaaGreatDoor
open Go.RowKit

attribute [local go_sem] ByteArray.extract_mk ba_get ba_append
attribute [local go_sem ↓] Go.wp_at_zero Go.wp_at_succ run_eql_V run_neq_V

theorem RetPE.drew {R : Ex × Bool × Nat} {p : Nat} {A : Option Addr} {c : Nat} {l : List Tok} {deep : Nat} {w w' : World} {en : Ending} (h : RetPE R p A c l deep w en w') : RetPE R p A c l deep w en w'.drew := by
  obtain ⟨A', c', h1, h2, h3, h4⟩ := h
  exact ⟨A', c', h1, h2.keep fun b hb => ⟨hb, fun o => rfl⟩, h3.but (Below.drew (Below.refl _ _)), h4.drew⟩
set_option maxRecDepth 100000 in
set_option maxHeartbeats 2000000 in
theorem atom_paren (p : Nat) (A : Option Addr) (c : Nat) (l : List Tok) (deep a : Nat) (e1 : Ex) (ok1 : Bool) (a1 : Nat) (ha : a ≤ 1000) (ha1 : a1 ≤ 1000) (hh : hit l a [40] = true) (hC : InC 42 p A c l deep (a + 1) (e1, ok1, a1)) :
    AtC 215 p A c l deep a (e1, ok1 && hit l a1 [41], if ok1 && hit l a1 [41] then a1 + 1 else a1) := by
  obtain ⟨R, hR⟩ : ∃ R : Ex × Bool × Nat, (e1, ok1 && hit l a1 [41], if ok1 && hit l a1 [41] then a1 + 1 else a1) = R := ⟨_, rfl⟩
  rw [hR]
  have HR := Lib.hid hR
  clear hR
  intro w hP
  have lp := hP.1.lt
  have HC := Lib.hid hC
  have HH := Lib.hid hh
  obtain ⟨w0, hw0⟩ : ∃ w0, w.alloc (.cells (exZero.cells none 0).toArray 26) = w0 := ⟨_, rfl⟩
  have kR0 : Blk w0 w.heap.size 26 (exZero.cells none 0).toArray := by rw [← hw0]; exact Blk.new _ _ _
  have hb0 : Below w.heap.size w w0 := by rw [← hw0]; ((repeat' (first | with_reducible exact Below.refl _ _ | with_reducible assumption | with_reducible refine Below.drew ?_ | with_reducible refine below_drewN ?_ _ | with_reducible refine Below.setCell ?_ ?_ _ | with_reducible refine Below.alloc ?_ ?_ _ | with_reducible refine Below.trans ?_ (Below.mono (by assumption) ?_))) <;> (first | (simp; done) | (simp; omega) | omega))
  have hs0 : w0.heap.size = w.heap.size + 1 := by rw [← hw0]; simp
  have HW := Lib.hid hw0
  have HP0 := Lib.hid (hP.but hb0)
  clear hw0 hP hC hh
  go_enter Tryz.func215, Tryz.ntmps215
  go_upto_region 1 with fail
  rw [show w.alloc (.cells #[.string ⟨#[]⟩, .int .i64 0, .int .i64 0, .string ⟨#[]⟩, .string ⟨#[]⟩, .slice none 0 0] 26) = w0 from HW.out]
  clear HW
  go_wp2_with fail
  refine (take_any p A c l a deep [40] w0 ha HP0.out).mono ?_
  rw [HH.out]
  rintro en w1 ⟨rfl, hP1, hb1⟩
  have hz1 := hb1.size
  have HP1 : Hid (PSt p A c l (a + 1) deep w1) := hP1
  clear hP1
  go_wp2_with fail
  refine (HC.out w1 HP1.out).mono ?_
  rintro en w2 ⟨A2, c2, rfl, hE2, hP2, hb2⟩
  dsimp only [Ex.cells]
  have hz2 := hb2.size
  obtain ⟨w3, hw3⟩ : ∃ w3, w2.alloc (.cells (e1.cells A2 c2).toArray 26) = w3 := ⟨_, rfl⟩
  have kB3 : Blk w3 w2.heap.size 26 (e1.cells A2 c2).toArray := by rw [← hw3]; exact Blk.new _ _ _
  have hb3 : Below w2.heap.size w2 w3 := by rw [← hw3]; ((repeat' (first | with_reducible exact Below.refl _ _ | with_reducible assumption | with_reducible refine Below.drew ?_ | with_reducible refine below_drewN ?_ _ | with_reducible refine Below.setCell ?_ ?_ _ | with_reducible refine Below.alloc ?_ ?_ _ | with_reducible refine Below.trans ?_ (Below.mono (by assumption) ?_))) <;> (first | (simp; done) | (simp; omega) | omega))
  have hs3 : w3.heap.size = w2.heap.size + 1 := by rw [← hw3]; simp
  have HW3 := Lib.hid hw3
  clear hw3
  have kR3 := (hb2.blk (hb1.blk kR0 (by omega)) (by omega)).below hb3 (by omega)
  have lR3 := kR3.lt
  have lB3 := kB3.lt
  have HE3 : Hid (ExR (fun x => w.heap.size ≤ x ∧ x < w2.heap.size ∧ x ≠ w.heap.size) e1 A2 c2 w3) := hE2.keep fun x hx => ⟨⟨by omega, by omega, by omega⟩, fun o => hb3.cell (p := ⟨x, o, none⟩) hx.2⟩
  have HP3 := Lib.hid (hP2.but hb3)
  have hbw3 := (((But.of_below (p := p) hb0).trans hb1).trans hb2).after hb3
  clear hE2 hP2
  go_upto_region 3 with fail
  rw [show w2.alloc (.cells #[.string ⟨e1.op.toArray⟩, .int .i64 e1.v.k, .int .i64 e1.v.i, .string ⟨e1.v.s.toArray⟩, .string ⟨e1.s.toArray⟩, .slice A2 e1.l.length c2] 26) = w3 from HW3.out]
  clear HW3
  obtain ⟨G, hG⟩ : ∃ G, w2.heap.size = G := ⟨_, rfl⟩
  rw [hG] at kB3 lB3 HE3 hb3 hs3 hz2 ⊢
  have hGw : w.heap.size < G := by omega
  have hpG : p < G := by omega
  clear hG hs0 hz1 hz2
  cases ok1
  · obtain ⟨z0, z1, z2, z3, z4, z5⟩ := kR3.sixF
    obtain ⟨r0, r1, r2, r3, r4, r5⟩ := kR3.six
    obtain ⟨q0, q1, q2, q3, q4, q5⟩ := kB3.six
    have HSH : Hid (∀ w' : World, Below w3.heap.size w3 w' → (w'.cell? ⟨G, 0, none⟩ = some (.string ⟨e1.op.toArray⟩) ∧ w'.cell? ⟨G, 1, none⟩ = some (.int .i64 e1.v.k) ∧ w'.cell? ⟨G, 2, none⟩ = some (.int .i64 e1.v.i) ∧ w'.cell? ⟨G, 3, none⟩ = some (.string ⟨e1.v.s.toArray⟩) ∧ w'.cell? ⟨G, 4, none⟩ = some (.string ⟨e1.s.toArray⟩) ∧ w'.cell? ⟨G, 5, none⟩ = some (.slice A2 e1.l.length c2))) :=
      fun w' h => (kB3.below h lB3).six
    clear q0 q1 q2 q3 q4 q5
    refine wp_region_held_drew (S := (fun w' => w'.cell? ⟨G, 0, none⟩ = some (.string ⟨e1.op.toArray⟩) ∧ w'.cell? ⟨G, 1, none⟩ = some (.int .i64 e1.v.k) ∧ w'.cell? ⟨G, 2, none⟩ = some (.int .i64 e1.v.i) ∧ w'.cell? ⟨G, 3, none⟩ = some (.string ⟨e1.v.s.toArray⟩) ∧ w'.cell? ⟨G, 4, none⟩ = some (.string ⟨e1.s.toArray⟩) ∧ w'.cell? ⟨G, 5, none⟩ = some (.slice A2 e1.l.length c2))) (by kernel_rfl) ?_ (fun hHeld => ?_)
    · try dsimp only
      exact Blk.six (t := 26) (by ((repeat' (first | with_reducible assumption | with_reducible refine Blk.drew ?_ | with_reducible refine Blk.drewN ?_ _ | with_reducible refine Blk.set3 ?_ _ _ _ | with_reducible refine Blk.far ?_ ?_ _ | ((with_reducible refine Blk.new' _ _ _ _ ?_) <;> (first | (simp; done) | (simp; omega) | omega) <;> done) | with_reducible refine Blk.alloc ?_ _ | with_reducible refine Blk3.drew ?_ | with_reducible refine Blk3.drewN ?_ _ | ((with_reducible refine Blk3.new' _ _ _ _ _ _ ?_) <;> (first | (simp; done) | (simp; omega) | omega) <;> done) | with_reducible refine Blk3.alloc ?_ _ | with_reducible refine Blk3.far ?_ ?_ _ | with_reducible refine Blk3.below ?_ (by assumption) ?_ | with_reducible refine Blk.below ?_ (by assumption) ?_)) <;> (first | (simp; done) | (simp; omega) | omega)))
    refine wpAnyH_take (i := 0) (v := ?_) rfl (by kernel_rfl) (by kernel_rfl) (by kernel_rfl) (fun _ _ _ h => h) (Or.inl ⟨by rfl, ?_⟩) (by assumption) ?_
    rotate_left
    · intro wq hSw
      try dsimp only at hSw
      go_simp
      try with_reducible rfl
    try simp only [Act.put, List.getElem_toArray, List.getElem_cons_zero, List.setIfInBounds_toArray, List.set_cons_zero, List.set_cons_succ]
    refine wpAnyH_take (i := 1) (v := ?_) rfl (by kernel_rfl) (by kernel_rfl) (by kernel_rfl) (fun _ _ _ h => h) (Or.inl ⟨by rfl, ?_⟩) (by assumption) ?_
    rotate_left
    · intro wq hSw
      try dsimp only at hSw
      go_simp
      try with_reducible rfl
    try simp only [Act.put, List.getElem_toArray, List.getElem_cons_zero, List.getElem_cons_succ, List.setIfInBounds_toArray, List.set_cons_zero, List.set_cons_succ]
    refine wpAnyH_take (i := 2) (v := ?_) rfl (by kernel_rfl) (by kernel_rfl) (by kernel_rfl) (fun _ _ _ h => h) (Or.inl ⟨by rfl, ?_⟩) (by assumption) ?_
    rotate_left
    · intro wq hSw
      try dsimp only at hSw
      go_simp
      try with_reducible rfl
    try simp only [Act.put, List.getElem_toArray, List.getElem_cons_zero, List.getElem_cons_succ, List.setIfInBounds_toArray, List.set_cons_zero, List.set_cons_succ]
    refine wpAnyH_take (i := 3) (v := undef) rfl (by kernel_rfl) (by kernel_rfl) (by kernel_rfl) (fun _ _ _ h => h) (Or.inr ⟨by rfl, rfl⟩) (by assumption) ?_
    try simp only [Act.put, List.getElem_toArray, List.getElem_cons_zero, List.getElem_cons_succ, List.setIfInBounds_toArray, List.set_cons_zero, List.set_cons_succ]
    refine wpAnyH_take (i := 4) (v := undef) rfl (by kernel_rfl) (by kernel_rfl) (by kernel_rfl) (fun _ _ _ h => h) (Or.inr ⟨by rfl, rfl⟩) (by assumption) ?_
    try simp only [Act.put, List.getElem_toArray, List.getElem_cons_zero, List.getElem_cons_succ, List.setIfInBounds_toArray, List.set_cons_zero, List.set_cons_succ]
    refine wpAnyH_take (i := 5) (v := ?_) rfl (by kernel_rfl) (by kernel_rfl) (by kernel_rfl) (fun _ _ _ h => h) (Or.inl ⟨by rfl, ?_⟩) (by assumption) ?_
    rotate_left
    · intro wq hSw
      try dsimp only at hSw
      go_simp
      try with_reducible rfl
    try simp only [Act.put, List.getElem_toArray, List.getElem_cons_zero, List.getElem_cons_succ, List.setIfInBounds_toArray, List.set_cons_zero, List.set_cons_succ]
    refine wpAnyH_ready (rs := [6]) (by kernel_rfl) (by simp) ?_
    refine AllReadyH.cons rfl (fun K hK => ?_) AllReadyH.nil
    go_simp
    skip
    go_wp2_with fail
    refine hK.out _ _ ?_ (fun hHeld => ?_)
    · try dsimp only
      exact Blk.six (t := 26) (by ((repeat' (first | with_reducible assumption | with_reducible refine Blk.drew ?_ | with_reducible refine Blk.drewN ?_ _ | with_reducible refine Blk.set3 ?_ _ _ _ | with_reducible refine Blk.far ?_ ?_ _ | ((with_reducible refine Blk.new' _ _ _ _ ?_) <;> (first | (simp; done) | (simp; omega) | omega) <;> done) | with_reducible refine Blk.alloc ?_ _ | with_reducible refine Blk3.drew ?_ | with_reducible refine Blk3.drewN ?_ _ | ((with_reducible refine Blk3.new' _ _ _ _ _ _ ?_) <;> (first | (simp; done) | (simp; omega) | omega) <;> done) | with_reducible refine Blk3.alloc ?_ _ | with_reducible refine Blk3.far ?_ ?_ _ | with_reducible refine Blk3.below ?_ (by assumption) ?_ | with_reducible refine Blk.below ?_ (by assumption) ?_)) <;> (first | (simp; done) | (simp; omega) | omega)))
    clear hK K
    try simp only [Act.put, List.getElem_toArray, List.getElem_cons_zero, List.getElem_cons_succ, List.setIfInBounds_toArray, List.set_cons_zero, List.set_cons_succ]
    refine wpAnyH_take (i := 7) (v := ?_) rfl (by kernel_rfl) (by kernel_rfl) (by kernel_rfl) (fun _ _ _ h => h) (Or.inl ⟨by rfl, ?_⟩) (by assumption) ?_
    rotate_left
    · intro wq hSw
      try dsimp only at hSw
      go_simp
      try with_reducible rfl
    try simp only [Act.put, List.getElem_toArray, List.getElem_cons_zero, List.getElem_cons_succ, List.setIfInBounds_toArray, List.set_cons_zero, List.set_cons_succ]
    refine wpAnyH_done (by kernel_rfl) ?_ _
    go_wp2_with fail
    refine bodyPost_ret (v := .tuple #[.agg (e1.cells A2 c2).toArray, .bool false]) (by simp [results, Tryz.results215, go_sem, *, Ex.cells]) rfl ?_
    exact (retPE_end HR.out.symm (Nat.le_refl _) lp (HE3.out.keep fun x hx => ⟨⟨hx.1, by omega, hx.2.2⟩, fun o => rfl⟩) HP3.out hbw3 _ _ _ _ _ _).drew
  · obtain ⟨B, hB⟩ : ∃ B, hit l a1 [41] = B := ⟨_, rfl⟩
    have hR := HR.out
    rw [hB] at hR
    have HR2 : Hid ((e1, B, if B then a1 + 1 else a1) = R) := by show _ = _; rw [← hR]; rfl
    have HTK : Hid (∀ X : World, PSt p A c l a1 deep X → Calls Tryz.prog 168 #[.pointer (some ⟨p, 0, none⟩), .string ⟨#[41]⟩] X (RetTake B p A c l a1 deep X)) := fun X hX => by
      have := take_any p A c l a1 deep [41] X (by omega) hX
      rw [hB] at this
      exact this
    clear hB hR HR
    obtain ⟨z0, z1, z2, z3, z4, z5⟩ := kR3.sixF
    obtain ⟨r0, r1, r2, r3, r4, r5⟩ := kR3.six
    clear z0 z1 z2 z3 z4 z5 r0 r1 r2 r3 r4 r5
    refine wp_region_held_drew (S := (fun w' => w'.cell? ⟨G, 0, none⟩ = some (.string ⟨e1.op.toArray⟩) ∧ w'.cell? ⟨G, 1, none⟩ = some (.int .i64 e1.v.k) ∧ w'.cell? ⟨G, 2, none⟩ = some (.int .i64 e1.v.i) ∧ w'.cell? ⟨G, 3, none⟩ = some (.string ⟨e1.v.s.toArray⟩) ∧ w'.cell? ⟨G, 4, none⟩ = some (.string ⟨e1.s.toArray⟩) ∧ w'.cell? ⟨G, 5, none⟩ = some (.slice A2 e1.l.length c2))) (by kernel_rfl) ?_ (fun hHeld => ?_)
    · try dsimp only
      exact Blk.six (t := 26) (by ((repeat' (first | with_reducible assumption | with_reducible refine Blk.drew ?_ | with_reducible refine Blk.drewN ?_ _ | with_reducible refine Blk.set3 ?_ _ _ _ | with_reducible refine Blk.far ?_ ?_ _ | ((with_reducible refine Blk.new' _ _ _ _ ?_) <;> (first | (simp; done) | (simp; omega) | omega) <;> done) | with_reducible refine Blk.alloc ?_ _ | with_reducible refine Blk3.drew ?_ | with_reducible refine Blk3.drewN ?_ _ | ((with_reducible refine Blk3.new' _ _ _ _ _ _ ?_) <;> (first | (simp; done) | (simp; omega) | omega) <;> done) | with_reducible refine Blk3.alloc ?_ _ | with_reducible refine Blk3.far ?_ ?_ _ | with_reducible refine Blk3.below ?_ (by assumption) ?_ | with_reducible refine Blk.below ?_ (by assumption) ?_)) <;> (first | (simp; done) | (simp; omega) | omega)))
    refine wpAnyH_take (i := 0) (v := ?_) rfl (by kernel_rfl) (by kernel_rfl) (by kernel_rfl) (fun _ _ _ h => h) (Or.inl ⟨by rfl, ?_⟩) (by assumption) ?_
    rotate_left
    · intro wq hSw
      try dsimp only at hSw
      go_simp
      try with_reducible rfl
    try simp only [Act.put, List.getElem_toArray, List.getElem_cons_zero, List.setIfInBounds_toArray, List.set_cons_zero, List.set_cons_succ]
    refine wpAnyH_take (i := 1) (v := ?_) rfl (by kernel_rfl) (by kernel_rfl) (by kernel_rfl) (fun _ _ _ h => h) (Or.inl ⟨by rfl, ?_⟩) (by assumption) ?_
    rotate_left
    · intro wq hSw
      try dsimp only at hSw
      go_simp
      try with_reducible rfl
    try simp only [Act.put, List.getElem_toArray, List.getElem_cons_zero, List.getElem_cons_succ, List.setIfInBounds_toArray, List.set_cons_zero, List.set_cons_succ]
    refine wpAnyH_take (i := 2) (v := ?_) rfl (by kernel_rfl) (by kernel_rfl) (by kernel_rfl) (fun _ _ _ h => h) (Or.inl ⟨by rfl, ?_⟩) (by assumption) ?_
    rotate_left
    · intro wq hSw
      try dsimp only at hSw
      go_simp
      try with_reducible rfl
    try simp only [Act.put, List.getElem_toArray, List.getElem_cons_zero, List.getElem_cons_succ, List.setIfInBounds_toArray, List.set_cons_zero, List.set_cons_succ]
    refine wpAnyH_take (i := 3) (v := ?_) rfl (by kernel_rfl) (by kernel_rfl) (by kernel_rfl) (fun _ _ _ h => h) (Or.inl ⟨by rfl, ?_⟩) (by assumption) ?_
    rotate_left
    · intro wq hSw
      try dsimp only at hSw
      go_simp
      try with_reducible rfl
    try simp only [Act.put, List.getElem_toArray, List.getElem_cons_zero, List.getElem_cons_succ, List.setIfInBounds_toArray, List.set_cons_zero, List.set_cons_succ]
    refine wpAnyH_ready (rs := [4]) (by kernel_rfl) (by simp) ?_
    refine AllReadyH.cons rfl (fun K hK => ?_) AllReadyH.nil
    go_simp
    refine (HTK.out _ (HP3.out.but (by ((repeat' (first | with_reducible exact Below.refl _ _ | with_reducible assumption | with_reducible refine Below.drew ?_ | with_reducible refine below_drewN ?_ _ | with_reducible refine Below.setCell ?_ ?_ _ | with_reducible refine Below.alloc ?_ ?_ _ | with_reducible refine Below.trans ?_ (Below.mono (by assumption) ?_))) <;> (first | (simp; done) | (simp; omega) | omega))))).mono ?_ <;> rintro en w6 ⟨rfl, hP6, hb6⟩ <;> have HP6 := Lib.hid hP6 <;> clear hP6 <;> have hb36 : But p w3 w6 := But.trans (But.of_below (by ((repeat' (first | with_reducible exact Below.refl _ _ | with_reducible assumption | with_reducible refine Below.drew ?_ | with_reducible refine below_drewN ?_ _ | with_reducible refine Below.setCell ?_ ?_ _ | with_reducible refine Below.alloc ?_ ?_ _ | with_reducible refine Below.trans ?_ (Below.mono (by assumption) ?_))) <;> (first | (simp; done) | (simp; omega) | omega)))) hb6 <;> have hz6 := hb36.size <;> have lG6 : G < w6.heap.size := (by omega) <;> have lR6 : w.heap.size < w6.heap.size := (by omega) <;> have kB6 := hb36.blk kB3 (Nat.ne_of_gt hpG) <;> have kR6 := hb36.blk kR3 (Nat.ne_of_gt lp) <;> obtain ⟨v0, v1, v2, v3, v4, v5⟩ := kR6.sixF <;> obtain ⟨x0, x1, x2, x3, x4, x5⟩ := kR6.six
    go_wp2_with fail
    refine hK.out _ _ ?_ (fun hHeld => ?_)
    · try dsimp only
      exact Blk.six (t := 26) (by ((repeat' (first | with_reducible assumption | with_reducible refine Blk.drew ?_ | with_reducible refine Blk.drewN ?_ _ | with_reducible refine Blk.set3 ?_ _ _ _ | with_reducible refine Blk.far ?_ ?_ _ | ((with_reducible refine Blk.new' _ _ _ _ ?_) <;> (first | (simp; done) | (simp; omega) | omega) <;> done) | with_reducible refine Blk.alloc ?_ _ | with_reducible refine Blk3.drew ?_ | with_reducible refine Blk3.drewN ?_ _ | ((with_reducible refine Blk3.new' _ _ _ _ _ _ ?_) <;> (first | (simp; done) | (simp; omega) | omega) <;> done) | with_reducible refine Blk3.alloc ?_ _ | with_reducible refine Blk3.far ?_ ?_ _ | with_reducible refine Blk3.below ?_ (by assumption) ?_ | with_reducible refine Blk.below ?_ (by assumption) ?_)) <;> (first | (simp; done) | (simp; omega) | omega)))
    clear hK K
    try simp only [Act.put, List.getElem_toArray, List.getElem_cons_zero, List.getElem_cons_succ, List.setIfInBounds_toArray, List.set_cons_zero, List.set_cons_succ]
    refine wpAnyH_take (i := 5) (v := ?_) rfl (by kernel_rfl) (by kernel_rfl) (by kernel_rfl) (fun _ _ _ h => h) (Or.inl ⟨by rfl, ?_⟩) (by assumption) ?_
    rotate_left
    · intro wq hSw
      try dsimp only at hSw
      go_simp
      try with_reducible rfl
    try simp only [Act.put, List.getElem_toArray, List.getElem_cons_zero, List.getElem_cons_succ, List.setIfInBounds_toArray, List.set_cons_zero, List.set_cons_succ]
    refine wpAnyH_ready (rs := [6]) (by kernel_rfl) (by simp) ?_
    refine AllReadyH.cons rfl (fun K hK => ?_) AllReadyH.nil
    go_simp
    skip
    go_wp2_with fail
    refine hK.out _ _ ?_ (fun hHeld => ?_)
    · try dsimp only
      exact Blk.six (t := 26) (by ((repeat' (first | with_reducible assumption | with_reducible refine Blk.drew ?_ | with_reducible refine Blk.drewN ?_ _ | with_reducible refine Blk.set3 ?_ _ _ _ | with_reducible refine Blk.far ?_ ?_ _ | ((with_reducible refine Blk.new' _ _ _ _ ?_) <;> (first | (simp; done) | (simp; omega) | omega) <;> done) | with_reducible refine Blk.alloc ?_ _ | with_reducible refine Blk3.drew ?_ | with_reducible refine Blk3.drewN ?_ _ | ((with_reducible refine Blk3.new' _ _ _ _ _ _ ?_) <;> (first | (simp; done) | (simp; omega) | omega) <;> done) | with_reducible refine Blk3.alloc ?_ _ | with_reducible refine Blk3.far ?_ ?_ _ | with_reducible refine Blk3.below ?_ (by assumption) ?_ | with_reducible refine Blk.below ?_ (by assumption) ?_)) <;> (first | (simp; done) | (simp; omega) | omega)))
    clear hK K
    try simp only [Act.put, List.getElem_toArray, List.getElem_cons_zero, List.getElem_cons_succ, List.setIfInBounds_toArray, List.set_cons_zero, List.set_cons_succ]
    refine wpAnyH_take (i := 7) (v := ?_) rfl (by kernel_rfl) (by kernel_rfl) (by kernel_rfl) (fun _ _ _ h => h) (Or.inl ⟨by rfl, ?_⟩) (by assumption) ?_
    rotate_left
    · intro wq hSw
      try dsimp only at hSw
      go_simp
      try with_reducible rfl
    try simp only [Act.put, List.getElem_toArray, List.getElem_cons_zero, List.getElem_cons_succ, List.setIfInBounds_toArray, List.set_cons_zero, List.set_cons_succ]
    refine wpAnyH_done (by kernel_rfl) ?_ _
    go_wp2_with fail
    refine bodyPost_ret (v := .tuple #[.agg (e1.cells A2 c2).toArray, .bool B]) (by simp [results, Tryz.results215, go_sem, *, Ex.cells]) rfl ?_
    exact retPE_end HR2.out.symm (Nat.le_refl _) lp (HE3.out.keep fun x hx => ⟨⟨hx.1, by omega, hx.2.2⟩, fun o => hb36.cell (by omega) (by omega) o⟩) HP6.out (hbw3.trans hb36) _ _ _ _ _ _

end Go.Proofs.YtdnkkkgneikhkaaGreatDoor

namespace Go.Proofs.YtdnkkkgneikhkaaGreatDoor
open Go.RowKit

attribute [local go_sem] ByteArray.extract_mk ba_get ba_append
attribute [local go_sem ↓] Go.wp_at_zero Go.wp_at_succ run_eql_V run_neq_V

/-- What strconv.ParseInt answers of a text in base 10, and whether it is a number of 64 bits. -/
def numF (s : List UInt8) : Int × Bool := match Lib.parseIntB 64 s with
  | .ok v => (v, true)
  | .range => (Lib.intSat 64 s, false)
  | _ => (0, false)
theorem numF_in (s : List UInt8) : fitI (numF s).1 := by
  unfold numF fitI
  split
  · rename_i v h
    have hnb := Lib.parseIntB_bounds h
    have n1 := hnb.1
    have n2 := hnb.2
    simp at n1 n2 ⊢
    omega
  · unfold Lib.intSat
    split <;> simp
  · simp
/-- The number, and an error. -/
def BadN (n : Int) (w : World) (e : Ending) (w' : World) : Prop := ∃ t p, e = .returned (.tuple #[.int .i64 n, .iface t p]) ∧ Below w.heap.size w w'
theorem num_bad (s : List UInt8) (w : World) (hs : s.length ≤ 1000000) (hE : Errs w) (h : (numF s).2 = false) :
    Calls Tryz.prog 230 #[.string ⟨s.toArray⟩, .int .i64 10, .int .i64 64] w (BadN (numF s).1 w) := by
  obtain ⟨⟨t1, p1, h1⟩, t2, p2, h2⟩ := hE
  have hl : (⟨s.toArray⟩ : ByteArray).size ≤ 281474976710656 := by show s.length ≤ _; omega
  cases hp : Lib.parseIntB 64 s with
  | ok v => unfold numF at h; rw [hp] at h; cases h
  | range =>
    have e : (numF s).1 = Lib.intSat 64 s := by unfold numF; rw [hp]
    rw [e]
    exact (Any.strconv_ParseInt_10_at64_range_var Tryz.laysC174 ⟨s.toArray⟩ hl hp t2 p2 w h2).mono fun e w' ⟨N, he, _, _, hb⟩ => ⟨_, _, he, hb⟩
  | _ =>
    have e : (numF s).1 = 0 := by unfold numF; rw [hp]
    rw [e]
    exact (Any.strconv_ParseInt_10_at64_syntax_var Tryz.laysC174 ⟨s.toArray⟩ hl hp t1 p1 w h1).mono fun e w' ⟨N, he, _, _, hb⟩ => ⟨_, _, he, hb⟩
theorem num_ok (s : List UInt8) (w : World) (hs : s.length ≤ 1000000) (h : (numF s).2 = true) :
    Calls Tryz.prog 230 #[.string ⟨s.toArray⟩, .int .i64 10, .int .i64 64] w (Ret (.tuple #[.int .i64 (numF s).1, .nilIface]) w) := by
  cases hp : Lib.parseIntB 64 s with
  | ok v =>
    have e : (numF s).1 = v := by unfold numF; rw [hp]
    rw [e]
    exact parseInt_ok s v w hs hp
  | range => unfold numF at h; rw [hp] at h; cases h
  | _ => unfold numF at h; rw [hp] at h; cases h

def exLit (v : V) : Ex := .mk opLit v [] []
def sgn (b : Bool) (s : List UInt8) : List UInt8 := if b then 45 :: s else s
/-- The expression of one token, behind a sign, or none. -/
def tokF (sg : Bool) (t : Tok) : Ex × Bool :=
  if t.k = 2 then (exLit ⟨1, (numF (sgn sg t.s)).1, []⟩, (numF (sgn sg t.s)).2)
  else if sg then (exZero, false)
  else if t.k = 3 then (exLit ⟨2, 0, t.s⟩, true)
  else if t.k = 1 then
    (if t.s = [84, 82, 85, 69] then (exLit ⟨3, 1, []⟩, true) else if t.s = [70, 65, 76, 83, 69] then (exLit ⟨3, 0, []⟩, true) else if t.s = [78, 85, 76, 76] then (exLit V.zero, true)
     else (.mk opCol V.zero t.s [], !reserved t.s))
  else (exZero, false)
def atomS (l : List Tok) (sg : Bool) (a : Nat) : Ex × Bool × Nat :=
  match l[a]? with
  | none => (exZero, false, a)
  | some t => if mayT t then ((tokF sg t).1, (tokF sg t).2, a + 1) else (exZero, false, a)
def atomF (l : List Tok) (orI : Nat → Ex × Bool × Nat) (a : Nat) : Ex × Bool × Nat :=
  if hit l a [40] then ((orI (a + 1)).1, (orI (a + 1)).2.1 && hit l (orI (a + 1)).2.2 [41], if (orI (a + 1)).2.1 && hit l (orI (a + 1)).2.2 [41] then (orI (a + 1)).2.2 + 1 else (orI (a + 1)).2.2)
  else atomS l (hit l a [45]) (if hit l a [45] then a + 1 else a)

theorem exLit_fit (v : V) (h : fitI v.i) (hs : v.s.length ≤ 1000) : (exLit v).fit 1000 := ⟨h, by simp [exLit, Ex.op, opLit], by simp [exLit, Ex.s], hs⟩
theorem mayT_len {t : Tok} (h : mayT t = true) : t.s.length ≤ 40 := by
  unfold mayT at h
  split at h
  · have := (may_kinds h)
    rcases this with ⟨h2, _⟩ | ⟨h2, _⟩ | ⟨_, _, h3, _⟩ | ⟨h2, _⟩
    · cases h2
    · cases h2
    · exact h3
    · cases h2
  · split at h
    · match hs : t.s, h with
      | [c], _ => simp
    · split at h
      · simp only [runB, Bool.and_eq_true, decide_eq_true_eq] at h; omega
      · split at h
        · simp only [runB, Bool.and_eq_true, decide_eq_true_eq] at h; omega
        · cases h
/-- The end of a part whose answer is an expression without parts. -/
theorem leaf_end {R : Ex × Bool × Nat} {p : Nat} {A : Option Addr} {c : Nat} {l : List Tok} {deep : Nat} {w wr : World} {e : Ex} {g a : Nat} {b : Bool} (hR : R = (e, b, a)) (hl : e.l = []) (hf : e.fit 1000) (hg : w.heap.size ≤ g) (hpg : p < g)
    (hP : PSt p A c l a deep wr) (hb : But p w wr) (y0 y1 y2 y3 y4 y5 : Value) :
    RetPE R p A c l deep w (.returned (.tuple #[.agg (e.cells none 0).toArray, .bool b])) ((((((wr.setCell ⟨g, 0, none⟩ y0).setCell ⟨g, 1, none⟩ y1).setCell ⟨g, 2, none⟩ y2).setCell ⟨g, 3, none⟩ y3).setCell ⟨g, 4, none⟩ y4).setCell ⟨g, 5, none⟩ y5) :=
  retPE_end hR hg hpg ⟨hf, by rw [hl]; exact Nat.le_refl _, by unfold maxLen; omega, 0, by rw [hl]; exact ExQ.nil 0⟩ hP hb _ _ _ _ _ _

set_option maxRecDepth 100000 in
set_option maxHeartbeats 8000000 in
theorem atom_tok (p : Nat) (A : Option Addr) (c : Nat) (l : List Tok) (deep a : Nat) (sg : Bool) (ha : a ≤ 1000) (hh : hit l a [40] = false) (hs : hit l a [45] = sg) (hl : ∀ t ∈ l, t.s.length ≤ 1000000) :
    AtC 215 p A c l deep a (atomS l sg (if sg then a + 1 else a)) := by
  obtain ⟨a1, hA1⟩ : ∃ a1, (if sg then a + 1 else a) = a1 := ⟨_, rfl⟩
  rw [hA1]
  have ha1 : a1 ≤ 1001 := by rw [← hA1]; split <;> omega
  obtain ⟨R, hR⟩ : ∃ R : Ex × Bool × Nat, atomS l sg a1 = R := ⟨_, rfl⟩
  rw [hR]
  have HR := Lib.hid hR
  have HA1 := Lib.hid hA1
  have HL := Lib.hid hl
  clear hR hA1 hl
  intro w hP
  have lp := hP.1.lt
  have HH := Lib.hid hh
  have HS := Lib.hid hs
  obtain ⟨w0, hw0⟩ : ∃ w0, w.alloc (.cells (exZero.cells none 0).toArray 26) = w0 := ⟨_, rfl⟩
  have kR0 : Blk w0 w.heap.size 26 (exZero.cells none 0).toArray := by rw [← hw0]; exact Blk.new _ _ _
  have hb0 : Below w.heap.size w w0 := by rw [← hw0]; ((repeat' (first | with_reducible exact Below.refl _ _ | with_reducible assumption | with_reducible refine Below.drew ?_ | with_reducible refine below_drewN ?_ _ | with_reducible refine Below.setCell ?_ ?_ _ | with_reducible refine Below.alloc ?_ ?_ _ | with_reducible refine Below.trans ?_ (Below.mono (by assumption) ?_))) <;> (first | (simp; done) | (simp; omega) | omega))
  have hs0 : w0.heap.size = w.heap.size + 1 := by rw [← hw0]; simp
  have HW := Lib.hid hw0
  have HP0 := Lib.hid (hP.but hb0)
  clear hw0 hP hh hs
  go_enter Tryz.func215, Tryz.ntmps215
  go_upto_region 1 with fail
  rw [show w.alloc (.cells #[.string ⟨#[]⟩, .int .i64 0, .int .i64 0, .string ⟨#[]⟩, .string ⟨#[]⟩, .slice none 0 0] 26) = w0 from HW.out]
  clear HW
  go_wp2_with fail
  refine (take_any p A c l a deep [40] w0 ha HP0.out).mono ?_
  rw [HH.out]
  rintro en w1 ⟨rfl, hP1, hb1⟩
  have hz1 := hb1.size
  obtain ⟨w2, hw2⟩ : ∃ w2, w1.alloc (.cells #[.string ⟨#[45]⟩] 9) = w2 := ⟨_, rfl⟩
  have kg2 : Blk w2 w1.heap.size 9 (([[45]] : List (List UInt8)).map strV).toArray := by rw [← hw2]; exact Blk.new _ _ _
  have hb2 : Below w1.heap.size w1 w2 := by rw [← hw2]; ((repeat' (first | with_reducible exact Below.refl _ _ | with_reducible assumption | with_reducible refine Below.drew ?_ | with_reducible refine below_drewN ?_ _ | with_reducible refine Below.setCell ?_ ?_ _ | with_reducible refine Below.alloc ?_ ?_ _ | with_reducible refine Below.trans ?_ (Below.mono (by assumption) ?_))) <;> (first | (simp; done) | (simp; omega) | omega))
  have hs2 : w2.heap.size = w1.heap.size + 1 := by rw [← hw2]; simp
  have HW2 := Lib.hid hw2
  have HP2 : Hid (PSt p A c l a deep w2) := hP1.but hb2
  have kR2 := (hb1.blk kR0 (by omega)).below hb2 (by omega)
  have hbw2 : But p w w2 := ((But.of_below hb0).trans hb1).after hb2
  have hgp : w1.heap.size ≠ p := by omega
  clear hw2 hP1 HP0 kR0 hb0 hb1 hb2
  go_wp2_with fail
  rw [HW2.out]
  clear HW2
  refine (taken_any p A c l a deep w1.heap.size [[45]] w2 ha (by decide) hgp HP2.out kg2 1).mono ?_
  have hO : takenF l a [[45]] = if sg then some [45] else none := by unfold takenF; rw [HS.out]; cases sg <;> rfl
  rw [hO]
  clear hO
  rintro en w3 ⟨rfl, hP3, hb3⟩
  have HP3 : Hid (PSt p A c l a1 deep w3) := by show PSt _ _ _ _ _ _ _; rw [← HA1.out]; cases sg <;> exact hP3
  have hz3 := hb3.size
  have kR3 := hb3.blk kR2 (by omega)
  have lR3 := kR3.lt
  have hbw3 := hbw2.trans hb3
  clear hP3 hb3 hbw2 kR2 HP2 kg2 HA1
  obtain ⟨Z, hZ⟩ : ∃ Z, ((if sg then some [45] else none : Option (List UInt8)).getD []) = Z := ⟨_, rfl⟩
  have hZ2 : Z = sgn sg [] := by rw [← hZ]; cases sg <;> rfl
  rw [hZ]
  have HZ := Lib.hid hZ2
  clear hZ hZ2
  by_cases hlt : a1 < l.length
  · obtain ⟨b1, o1, t, rfl, hbB, hv, c0, c1⟩ := HP3.out.2.at_ hlt
    have hlt2 := HL.out t (List.mem_of_getElem? hv)
    have hR2 : (if mayT t then ((tokF sg t).1, (tokF sg t).2, a1 + 1) else (exZero, false, a1)) = R := by rw [← HR.out]; unfold atomS; rw [hv]
    have lp3 := HP3.out.1.lt
    have HSH : Hid (∀ w' : World, Below w3.heap.size w3 w' → (w'.cell? ⟨p, 0, none⟩ = some (.slice (some ⟨b1, o1, none⟩) l.length c) ∧ w'.cell? ⟨p, 1, none⟩ = some (.int .i64 (a1 : Nat)) ∧ w'.cell? ⟨b1, o1 + a1 * 2, none⟩ = some (.int .i64 t.k) ∧ w'.cell? ⟨b1, o1 + a1 * 2 + 1, none⟩ = some (.string ⟨t.s.toArray⟩))) :=
      fun w' hb => ⟨(HP3.out.1.below hb lp3).cell 0, (HP3.out.1.below hb lp3).cell 1, (hb.cell (p := ⟨b1, o1 + a1 * 2, none⟩) (show b1 < _ by omega)).trans c0, (hb.cell (p := ⟨b1, o1 + a1 * 2 + 1, none⟩) (show b1 < _ by omega)).trans c1⟩
    have b0 : decide (l.length ≤ a1) = false := decide_eq_false (by omega)
    have i1 : (0 : Int) ≤ (a1 : Int) := by omega
    have i2 : (a1 : Int) < (l.length : Int) := by omega
    obtain ⟨M, hM⟩ : ∃ M, mayT t = M := ⟨_, rfl⟩
    have HM : Hid (mayT ⟨t.k, t.s⟩ = M) := hM
    rw [hM] at hR2
    have HR2 := Lib.hid hR2
    clear c0 c1 hv hR2 HR hM
    go_upto_region 5 with fail
    refine wp_region_held_drew (S := (fun w' => w'.cell? ⟨p, 0, none⟩ = some (.slice (some ⟨b1, o1, none⟩) l.length c) ∧ w'.cell? ⟨p, 1, none⟩ = some (.int .i64 (a1 : Nat)) ∧ w'.cell? ⟨b1, o1 + a1 * 2, none⟩ = some (.int .i64 t.k) ∧ w'.cell? ⟨b1, o1 + a1 * 2 + 1, none⟩ = some (.string ⟨t.s.toArray⟩))) (by kernel_rfl) ?_ (fun hHeld => ?_)
    · try dsimp only
      exact HSH.out _ (by ((repeat' (first | with_reducible exact Below.refl _ _ | with_reducible assumption | with_reducible refine Below.drew ?_ | with_reducible refine below_drewN ?_ _ | with_reducible refine Below.setCell ?_ ?_ _ | with_reducible refine Below.alloc ?_ ?_ _ | with_reducible refine Below.trans ?_ (Below.mono (by assumption) ?_))) <;> (first | (simp; done) | (simp; omega) | omega)))
    refine wpAnyH_take (i := 0) (v := ?_) rfl (by kernel_rfl) (by kernel_rfl) (by kernel_rfl) (fun _ _ _ h => h) (Or.inl ⟨by rfl, ?_⟩) (by assumption) ?_
    rotate_left
    · intro wq hSw
      try dsimp only at hSw
      go_simp
      try with_reducible rfl
    try simp only [Act.put, List.getElem_toArray, List.getElem_cons_zero, List.setIfInBounds_toArray, List.set_cons_zero, List.set_cons_succ]
    refine wpAnyH_take (i := 1) (v := ?_) rfl (by kernel_rfl) (by kernel_rfl) (by kernel_rfl) (fun _ _ _ h => h) (Or.inl ⟨by rfl, ?_⟩) (by assumption) ?_
    rotate_left
    · intro wq hSw
      try dsimp only at hSw
      go_simp
      try with_reducible rfl
    try simp only [Act.put, List.getElem_toArray, List.getElem_cons_zero, List.getElem_cons_succ, List.setIfInBounds_toArray, List.set_cons_zero, List.set_cons_succ]
    refine wpAnyH_take (i := 2) (v := ?_) rfl (by kernel_rfl) (by kernel_rfl) (by kernel_rfl) (fun _ _ _ h => h) (Or.inl ⟨by rfl, ?_⟩) (by assumption) ?_
    rotate_left
    · intro wq hSw
      try dsimp only at hSw
      go_simp
      try with_reducible rfl
    try simp only [Act.put, List.getElem_toArray, List.getElem_cons_zero, List.getElem_cons_succ, List.setIfInBounds_toArray, List.set_cons_zero, List.set_cons_succ]
    refine wpAnyH_take (i := 3) (v := ?_) rfl (by kernel_rfl) (by kernel_rfl) (by kernel_rfl) (fun _ _ _ h => h) (Or.inl ⟨by rfl, ?_⟩) (by assumption) ?_
    rotate_left
    · intro wq hSw
      try dsimp only at hSw
      go_simp
      try with_reducible rfl
    try simp only [Act.put, List.getElem_toArray, List.getElem_cons_zero, List.getElem_cons_succ, List.setIfInBounds_toArray, List.set_cons_zero, List.set_cons_succ]
    refine wpAnyH_take (i := 4) (v := ?_) rfl (by kernel_rfl) (by kernel_rfl) (by kernel_rfl) (fun _ _ _ h => h) (Or.inl ⟨by rfl, ?_⟩) (by assumption) ?_
    rotate_left
    · intro wq hSw
      try dsimp only at hSw
      go_simp
      try with_reducible rfl
    try simp only [Act.put, List.getElem_toArray, List.getElem_cons_zero, List.getElem_cons_succ, List.setIfInBounds_toArray, List.set_cons_zero, List.set_cons_succ]
    refine wpAnyH_take (i := 5) (v := ?_) rfl (by kernel_rfl) (by kernel_rfl) (by kernel_rfl) (fun _ _ _ h => h) (Or.inl ⟨by rfl, ?_⟩) (by assumption) ?_
    rotate_left
    · intro wq hSw
      try dsimp only at hSw
      go_simp
      try with_reducible rfl
    try simp only [Act.put, List.getElem_toArray, List.getElem_cons_zero, List.getElem_cons_succ, List.setIfInBounds_toArray, List.set_cons_zero, List.set_cons_succ]
    refine wpAnyH_take (i := 6) (v := ?_) rfl (by kernel_rfl) (by kernel_rfl) (by kernel_rfl) (fun _ _ _ h => h) (Or.inl ⟨by rfl, ?_⟩) (by assumption) ?_
    rotate_left
    · intro wq hSw
      try dsimp only at hSw
      go_simp
      try with_reducible rfl
    try simp only [Act.put, List.getElem_toArray, List.getElem_cons_zero, List.getElem_cons_succ, List.setIfInBounds_toArray, List.set_cons_zero, List.set_cons_succ]
    refine wpAnyH_take (i := 7) (v := ?_) rfl (by kernel_rfl) (by kernel_rfl) (by kernel_rfl) (fun _ _ _ h => h) (Or.inl ⟨by rfl, ?_⟩) (by assumption) ?_
    rotate_left
    · intro wq hSw
      try dsimp only at hSw
      go_simp
      try with_reducible rfl
    try simp only [Act.put, List.getElem_toArray, List.getElem_cons_zero, List.getElem_cons_succ, List.setIfInBounds_toArray, List.set_cons_zero, List.set_cons_succ]
    refine wpAnyH_take (i := 8) (v := ?_) rfl (by kernel_rfl) (by kernel_rfl) (by kernel_rfl) (fun _ _ _ h => h) (Or.inl ⟨by rfl, ?_⟩) (by assumption) ?_
    rotate_left
    · intro wq hSw
      try dsimp only at hSw
      go_simp
      try with_reducible rfl
    try simp only [Act.put, List.getElem_toArray, List.getElem_cons_zero, List.getElem_cons_succ, List.setIfInBounds_toArray, List.set_cons_zero, List.set_cons_succ]
    refine wpAnyH_take (i := 9) (v := ?_) rfl (by kernel_rfl) (by kernel_rfl) (by kernel_rfl) (fun _ _ _ h => h) (Or.inl ⟨by rfl, ?_⟩) (by assumption) ?_
    rotate_left
    · intro wq hSw
      try dsimp only at hSw
      go_simp
      try with_reducible rfl
    try simp only [Act.put, List.getElem_toArray, List.getElem_cons_zero, List.getElem_cons_succ, List.setIfInBounds_toArray, List.set_cons_zero, List.set_cons_succ]
    refine wpAnyH_take (i := 10) (v := ?_) rfl (by kernel_rfl) (by kernel_rfl) (by kernel_rfl) (fun _ _ _ h => h) (Or.inl ⟨by rfl, ?_⟩) (by assumption) ?_
    rotate_left
    · intro wq hSw
      try dsimp only at hSw
      go_simp
      try with_reducible rfl
    try simp only [Act.put, List.getElem_toArray, List.getElem_cons_zero, List.getElem_cons_succ, List.setIfInBounds_toArray, List.set_cons_zero, List.set_cons_succ]
    refine wpAnyH_take (i := 11) (v := ?_) rfl (by kernel_rfl) (by kernel_rfl) (by kernel_rfl) (fun _ _ _ h => h) (Or.inl ⟨by rfl, ?_⟩) (by assumption) ?_
    rotate_left
    · intro wq hSw
      try dsimp only at hSw
      go_simp
      try with_reducible rfl
    try simp only [Act.put, List.getElem_toArray, List.getElem_cons_zero, List.getElem_cons_succ, List.setIfInBounds_toArray, List.set_cons_zero, List.set_cons_succ]
    refine wpAnyH_take (i := 12) (v := ?_) rfl (by kernel_rfl) (by kernel_rfl) (by kernel_rfl) (fun _ _ _ h => h) (Or.inl ⟨by rfl, ?_⟩) (by assumption) ?_
    rotate_left
    · intro wq hSw
      try dsimp only at hSw
      go_simp
      try with_reducible rfl
    try simp only [Act.put, List.getElem_toArray, List.getElem_cons_zero, List.getElem_cons_succ, List.setIfInBounds_toArray, List.set_cons_zero, List.set_cons_succ]
    refine wpAnyH_take (i := 13) (v := ?_) rfl (by kernel_rfl) (by kernel_rfl) (by kernel_rfl) (fun _ _ _ h => h) (Or.inl ⟨by rfl, ?_⟩) (by assumption) ?_
    rotate_left
    · intro wq hSw
      try dsimp only at hSw
      go_simp
      try with_reducible rfl
    try simp only [Act.put, List.getElem_toArray, List.getElem_cons_zero, List.getElem_cons_succ, List.setIfInBounds_toArray, List.set_cons_zero, List.set_cons_succ]
    refine wpAnyH_take (i := 14) (v := ?_) rfl (by kernel_rfl) (by kernel_rfl) (by kernel_rfl) (fun _ _ _ h => h) (Or.inl ⟨by rfl, ?_⟩) (by assumption) ?_
    rotate_left
    · intro wq hSw
      try dsimp only at hSw
      go_simp
      try with_reducible rfl
    try simp only [Act.put, List.getElem_toArray, List.getElem_cons_zero, List.getElem_cons_succ, List.setIfInBounds_toArray, List.set_cons_zero, List.set_cons_succ]
    refine wpAnyH_take (i := 15) (v := ?_) rfl (by kernel_rfl) (by kernel_rfl) (by kernel_rfl) (fun _ _ _ h => h) (Or.inl ⟨by rfl, ?_⟩) (by assumption) ?_
    rotate_left
    · intro wq hSw
      try dsimp only at hSw
      go_simp
      try with_reducible rfl
    try simp only [Act.put, List.getElem_toArray, List.getElem_cons_zero, List.getElem_cons_succ, List.setIfInBounds_toArray, List.set_cons_zero, List.set_cons_succ]
    refine wpAnyH_take (i := 16) (v := ?_) rfl (by kernel_rfl) (by kernel_rfl) (by kernel_rfl) (fun _ _ _ h => h) (Or.inl ⟨by rfl, ?_⟩) (by assumption) ?_
    rotate_left
    · intro wq hSw
      try dsimp only at hSw
      go_simp
      try with_reducible rfl
    try simp only [Act.put, List.getElem_toArray, List.getElem_cons_zero, List.getElem_cons_succ, List.setIfInBounds_toArray, List.set_cons_zero, List.set_cons_succ]
    refine wpAnyH_take (i := 17) (v := ?_) rfl (by kernel_rfl) (by kernel_rfl) (by kernel_rfl) (fun _ _ _ h => h) (Or.inl ⟨by rfl, ?_⟩) (by assumption) ?_
    rotate_left
    · intro wq hSw
      try dsimp only at hSw
      go_simp
      try with_reducible rfl
    try simp only [Act.put, List.getElem_toArray, List.getElem_cons_zero, List.getElem_cons_succ, List.setIfInBounds_toArray, List.set_cons_zero, List.set_cons_succ]
    refine wpAnyH_take (i := 18) (v := ?_) rfl (by kernel_rfl) (by kernel_rfl) (by kernel_rfl) (fun _ _ _ h => h) (Or.inl ⟨by rfl, ?_⟩) (by assumption) ?_
    rotate_left
    · intro wq hSw
      try dsimp only at hSw
      go_simp
      try with_reducible rfl
    try simp only [Act.put, List.getElem_toArray, List.getElem_cons_zero, List.getElem_cons_succ, List.setIfInBounds_toArray, List.set_cons_zero, List.set_cons_succ]
    refine wpAnyH_take (i := 19) (v := ?_) rfl (by kernel_rfl) (by kernel_rfl) (by kernel_rfl) (fun _ _ _ h => h) (Or.inl ⟨by rfl, ?_⟩) (by assumption) ?_
    rotate_left
    · intro wq hSw
      try dsimp only at hSw
      go_simp
      try with_reducible rfl
    try simp only [Act.put, List.getElem_toArray, List.getElem_cons_zero, List.getElem_cons_succ, List.setIfInBounds_toArray, List.set_cons_zero, List.set_cons_succ]
    refine wpAnyH_take (i := 20) (v := ?_) rfl (by kernel_rfl) (by kernel_rfl) (by kernel_rfl) (fun _ _ _ h => h) (Or.inl ⟨by rfl, ?_⟩) (by assumption) ?_
    rotate_left
    · intro wq hSw
      try dsimp only at hSw
      go_simp
      try with_reducible rfl
    try simp only [Act.put, List.getElem_toArray, List.getElem_cons_zero, List.getElem_cons_succ, List.setIfInBounds_toArray, List.set_cons_zero, List.set_cons_succ]
    refine wpAnyH_ready (rs := [21]) (by kernel_rfl) (by simp) ?_
    refine AllReadyH.cons rfl (fun K hK => ?_) AllReadyH.nil
    go_simp
    refine (mayTok_any t.k t.s _ hlt2).mono ?_ <;> rw [HM.out] <;> rintro en w5 ⟨rfl, hb5⟩ <;> have hz5 := hb5.size <;> have hb35 : Below w3.heap.size w3 w5 := (Below.drew (Below.refl _ w3)).trans hb5
    go_wp2_with fail
    refine hK.out _ _ ?_ (fun hHeld => ?_)
    · try dsimp only
      exact HSH.out _ (by ((repeat' (first | with_reducible exact Below.refl _ _ | with_reducible assumption | with_reducible refine Below.drew ?_ | with_reducible refine below_drewN ?_ _ | with_reducible refine Below.setCell ?_ ?_ _ | with_reducible refine Below.alloc ?_ ?_ _ | with_reducible refine Below.trans ?_ (Below.mono (by assumption) ?_))) <;> (first | (simp; done) | (simp; omega) | omega)))
    clear hK K
    try simp only [Act.put, List.getElem_toArray, List.getElem_cons_zero, List.getElem_cons_succ, List.setIfInBounds_toArray, List.set_cons_zero, List.set_cons_succ]
    refine wpAnyH_take (i := 22) (v := ?_) rfl (by kernel_rfl) (by kernel_rfl) (by kernel_rfl) (fun _ _ _ h => h) (Or.inl ⟨by rfl, ?_⟩) (by assumption) ?_
    rotate_left
    · intro wq hSw
      try dsimp only at hSw
      go_simp
      try with_reducible rfl
    try simp only [Act.put, List.getElem_toArray, List.getElem_cons_zero, List.getElem_cons_succ, List.setIfInBounds_toArray, List.set_cons_zero, List.set_cons_succ]
    refine wpAnyH_take (i := 23) (v := ?_) rfl (by kernel_rfl) (by kernel_rfl) (by kernel_rfl) (fun _ _ _ h => h) (Or.inl ⟨by rfl, ?_⟩) (by assumption) ?_
    rotate_left
    · intro wq hSw
      try dsimp only at hSw
      go_simp
      try with_reducible rfl
    try simp only [Act.put, List.getElem_toArray, List.getElem_cons_zero, List.getElem_cons_succ, List.setIfInBounds_toArray, List.set_cons_zero, List.set_cons_succ]
    refine wpAnyH_done (by kernel_rfl) ?_ _
    have kR5 := kR3.below hb35 lR3
    have lR5 := kR5.lt
    have HP5 := Lib.hid (HP3.out.but hb35)
    have hbw5 := hbw3.after hb35
    cases M
    · have HF : Hid (R = (exZero, false, a1)) := HR2.out.symm
      obtain ⟨z0, z1, z2, z3, z4, z5⟩ := kR5.sixF
      obtain ⟨r0, r1, r2, r3, r4, r5⟩ := kR5.six
      go_wp2_with fail
      refine bodyPost_ret (v := .tuple #[.agg (exZero.cells none 0).toArray, .bool false]) (by simp [results, Tryz.results215, go_sem, *, Ex.cells, exZero, Ex.op, Ex.v, Ex.s, Ex.l, V.zero]) rfl ?_
      exact leaf_end HF.out rfl exZero_fit (Nat.le_refl _) lp HP5.out hbw5 _ _ _ _ _ _
    · have HF : Hid (((tokF sg t).1, (tokF sg t).2, a1 + 1) = R) := HR2.out
      have htl := mayT_len (t := t) (by have := HM.out; exact this)
      obtain ⟨w6, hw6⟩ : ∃ w6, w5.alloc (.cells t.cells.toArray 48) = w6 := ⟨_, rfl⟩
      have kT6 : Blk w6 w5.heap.size 48 t.cells.toArray := by rw [← hw6]; exact Blk.new _ _ _
      have hb6 : Below w5.heap.size w5 w6 := by rw [← hw6]; ((repeat' (first | with_reducible exact Below.refl _ _ | with_reducible assumption | with_reducible refine Below.drew ?_ | with_reducible refine below_drewN ?_ _ | with_reducible refine Below.setCell ?_ ?_ _ | with_reducible refine Below.alloc ?_ ?_ _ | with_reducible refine Below.trans ?_ (Below.mono (by assumption) ?_))) <;> (first | (simp; done) | (simp; omega) | omega))
      have hs6 : w6.heap.size = w5.heap.size + 1 := by rw [← hw6]; simp
      have HW6 := Lib.hid hw6
      have HSH5 : Hid (∀ w' : World, Below w5.heap.size w5 w' → (w'.cell? ⟨p, 0, none⟩ = some (.slice (some ⟨b1, o1, none⟩) l.length c) ∧ w'.cell? ⟨p, 1, none⟩ = some (.int .i64 (a1 : Nat)) ∧ w'.cell? ⟨b1, o1 + a1 * 2, none⟩ = some (.int .i64 t.k) ∧ w'.cell? ⟨b1, o1 + a1 * 2 + 1, none⟩ = some (.string ⟨t.s.toArray⟩))) :=
        fun w' hb => HSH.out w' (hb35.trans (hb.mono hb35.size))
      clear hw6
      go_upto_region 7 with fail
      refine wp_region_held_drew (S := (fun w' => w'.cell? ⟨p, 0, none⟩ = some (.slice (some ⟨b1, o1, none⟩) l.length c) ∧ w'.cell? ⟨p, 1, none⟩ = some (.int .i64 (a1 : Nat)) ∧ w'.cell? ⟨b1, o1 + a1 * 2, none⟩ = some (.int .i64 t.k) ∧ w'.cell? ⟨b1, o1 + a1 * 2 + 1, none⟩ = some (.string ⟨t.s.toArray⟩))) (by kernel_rfl) ?_ (fun hHeld => ?_)
      · try dsimp only
        exact HSH5.out _ (by ((repeat' (first | with_reducible exact Below.refl _ _ | with_reducible assumption | with_reducible refine Below.drew ?_ | with_reducible refine below_drewN ?_ _ | with_reducible refine Below.setCell ?_ ?_ _ | with_reducible refine Below.alloc ?_ ?_ _ | with_reducible refine Below.trans ?_ (Below.mono (by assumption) ?_))) <;> (first | (simp; done) | (simp; omega) | omega)))
      refine wpAnyH_take (i := 0) (v := ?_) rfl (by kernel_rfl) (by kernel_rfl) (by kernel_rfl) (fun _ _ _ h => h) (Or.inl ⟨by rfl, ?_⟩) (by assumption) ?_
      rotate_left
      · intro wq hSw
        try dsimp only at hSw
        go_simp
        try with_reducible rfl
      try simp only [Act.put, List.getElem_toArray, List.getElem_cons_zero, List.setIfInBounds_toArray, List.set_cons_zero, List.set_cons_succ]
      refine wpAnyH_take (i := 1) (v := ?_) rfl (by kernel_rfl) (by kernel_rfl) (by kernel_rfl) (fun _ _ _ h => h) (Or.inl ⟨by rfl, ?_⟩) (by assumption) ?_
      rotate_left
      · intro wq hSw
        try dsimp only at hSw
        go_simp
        try with_reducible rfl
      try simp only [Act.put, List.getElem_toArray, List.getElem_cons_zero, List.getElem_cons_succ, List.setIfInBounds_toArray, List.set_cons_zero, List.set_cons_succ]
      refine wpAnyH_take (i := 2) (v := ?_) rfl (by kernel_rfl) (by kernel_rfl) (by kernel_rfl) (fun _ _ _ h => h) (Or.inl ⟨by rfl, ?_⟩) (by assumption) ?_
      rotate_left
      · intro wq hSw
        try dsimp only at hSw
        go_simp
        try with_reducible rfl
      try simp only [Act.put, List.getElem_toArray, List.getElem_cons_zero, List.getElem_cons_succ, List.setIfInBounds_toArray, List.set_cons_zero, List.set_cons_succ]
      refine wpAnyH_take (i := 3) (v := ?_) rfl (by kernel_rfl) (by kernel_rfl) (by kernel_rfl) (fun _ _ _ h => h) (Or.inl ⟨by rfl, ?_⟩) (by assumption) ?_
      rotate_left
      · intro wq hSw
        try dsimp only at hSw
        go_simp
        try with_reducible rfl
      try simp only [Act.put, List.getElem_toArray, List.getElem_cons_zero, List.getElem_cons_succ, List.setIfInBounds_toArray, List.set_cons_zero, List.set_cons_succ]
      refine wpAnyH_take (i := 4) (v := ?_) rfl (by kernel_rfl) (by kernel_rfl) (by kernel_rfl) (fun _ _ _ h => h) (Or.inl ⟨by rfl, ?_⟩) (by assumption) ?_
      rotate_left
      · intro wq hSw
        try dsimp only at hSw
        go_simp
        try with_reducible rfl
      try simp only [Act.put, List.getElem_toArray, List.getElem_cons_zero, List.getElem_cons_succ, List.setIfInBounds_toArray, List.set_cons_zero, List.set_cons_succ]
      refine wpAnyH_take (i := 5) (v := ?_) rfl (by kernel_rfl) (by kernel_rfl) (by kernel_rfl) (fun _ _ _ h => h) (Or.inl ⟨by rfl, ?_⟩) (by assumption) ?_
      rotate_left
      · intro wq hSw
        try dsimp only at hSw
        go_simp
        try with_reducible rfl
      try simp only [Act.put, List.getElem_toArray, List.getElem_cons_zero, List.getElem_cons_succ, List.setIfInBounds_toArray, List.set_cons_zero, List.set_cons_succ]
      refine wpAnyH_take (i := 6) (v := ?_) rfl (by kernel_rfl) (by kernel_rfl) (by kernel_rfl) (fun _ _ _ h => h) (Or.inl ⟨by rfl, ?_⟩) (by assumption) ?_
      rotate_left
      · intro wq hSw
        try dsimp only at hSw
        go_simp
        try with_reducible rfl
      try simp only [Act.put, List.getElem_toArray, List.getElem_cons_zero, List.getElem_cons_succ, List.setIfInBounds_toArray, List.set_cons_zero, List.set_cons_succ]
      refine wpAnyH_take (i := 7) (v := ?_) rfl (by kernel_rfl) (by kernel_rfl) (by kernel_rfl) (fun _ _ _ h => h) (Or.inl ⟨by rfl, ?_⟩) (by assumption) ?_
      rotate_left
      · intro wq hSw
        try dsimp only at hSw
        go_simp
        try with_reducible rfl
      try simp only [Act.put, List.getElem_toArray, List.getElem_cons_zero, List.getElem_cons_succ, List.setIfInBounds_toArray, List.set_cons_zero, List.set_cons_succ]
      refine wpAnyH_take (i := 8) (v := ?_) rfl (by kernel_rfl) (by kernel_rfl) (by kernel_rfl) (fun _ _ _ h => h) (Or.inl ⟨by rfl, ?_⟩) (by assumption) ?_
      rotate_left
      · intro wq hSw
        try dsimp only at hSw
        go_simp
        try with_reducible rfl
      try simp only [Act.put, List.getElem_toArray, List.getElem_cons_zero, List.getElem_cons_succ, List.setIfInBounds_toArray, List.set_cons_zero, List.set_cons_succ]
      refine wpAnyH_take (i := 9) (v := ?_) rfl (by kernel_rfl) (by kernel_rfl) (by kernel_rfl) (fun _ _ _ h => h) (Or.inl ⟨by rfl, ?_⟩) (by assumption) ?_
      rotate_left
      · intro wq hSw
        try dsimp only at hSw
        go_simp
        try with_reducible rfl
      try simp only [Act.put, List.getElem_toArray, List.getElem_cons_zero, List.getElem_cons_succ, List.setIfInBounds_toArray, List.set_cons_zero, List.set_cons_succ]
      refine wpAnyH_ready (rs := [10]) (by kernel_rfl) (by simp) ?_
      refine AllReadyH.cons rfl (fun K hK => ?_) AllReadyH.nil
      go_simp
      skip
      go_wp2_with fail
      refine hK.out _ _ ?_ (fun hHeld => ?_)
      · try dsimp only
        exact HSH5.out _ (by ((repeat' (first | with_reducible exact Below.refl _ _ | with_reducible assumption | with_reducible refine Below.drew ?_ | with_reducible refine below_drewN ?_ _ | with_reducible refine Below.setCell ?_ ?_ _ | with_reducible refine Below.alloc ?_ ?_ _ | with_reducible refine Below.trans ?_ (Below.mono (by assumption) ?_))) <;> (first | (simp; done) | (simp; omega) | omega)))
      clear hK K
      try simp only [Act.put, List.getElem_toArray, List.getElem_cons_zero, List.getElem_cons_succ, List.setIfInBounds_toArray, List.set_cons_zero, List.set_cons_succ]
      refine wpAnyH_ready (rs := [11]) (by kernel_rfl) (by simp) ?_
      refine AllReadyH.cons rfl (fun K hK => ?_) AllReadyH.nil
      go_simp
      skip
      go_wp2_with fail
      refine hK.out _ _ ?_ (fun hHeld => ?_)
      · try dsimp only
        exact HSH5.out _ (by ((repeat' (first | with_reducible exact Below.refl _ _ | with_reducible assumption | with_reducible refine Below.drew ?_ | with_reducible refine below_drewN ?_ _ | with_reducible refine Below.setCell ?_ ?_ _ | with_reducible refine Below.alloc ?_ ?_ _ | with_reducible refine Below.trans ?_ (Below.mono (by assumption) ?_))) <;> (first | (simp; done) | (simp; omega) | omega)))
      clear hK K
      try simp only [Act.put, List.getElem_toArray, List.getElem_cons_zero, List.getElem_cons_succ, List.setIfInBounds_toArray, List.set_cons_zero, List.set_cons_succ]
      refine wpAnyH_done (by kernel_rfl) ?_ _
      rw [show w5.alloc (.cells #[.int .i64 t.k, .string ⟨t.s.toArray⟩] 48) = w6 from HW6.out]
      clear HW6
      have HP6 := Lib.hid (HP5.out.but hb6)
      have kR6 := kR5.below hb6 lR5
      have x1 : w6.cell? ⟨p, 1, none⟩ = some (.int .i64 (a1 : Nat)) := HP6.out.1.cell 1
      have y1 := HP6.out.1.frozen 1
      go_upto_region 9 with fail
      refine wp_forget (fun wx => Blk wx w5.heap.size 48 t.cells.toArray ∧ Blk wx w.heap.size 26 (exZero.cells none 0).toArray ∧ Hid (PSt p (some ⟨b1, o1, none⟩) c l (a1 + 1) deep wx) ∧ But p w wx)
        ⟨kT6.far (by show w5.heap.size ≠ p; omega) _, kR6.far (by show w.heap.size ≠ p; omega) _, ⟨HP6.out.1.set_ 1 _, HP6.out.2.below (by ((repeat' (first | with_reducible exact Below.refl _ _ | with_reducible assumption | with_reducible refine Below.drew ?_ | with_reducible refine below_drewN ?_ _ | with_reducible refine Below.setCell ?_ ?_ _ | with_reducible refine Below.alloc ?_ ?_ _ | with_reducible refine Below.trans ?_ (Below.mono (by assumption) ?_))) <;> (first | (simp; done) | (simp; omega) | omega)))⟩, ((hbw5.after hb6).set 1 _).drew⟩ ?_
      clear x1 y1 HP6 HP5 HP3 kR6 kR5 kR3 kT6 hb6 HSH HSH5 hs6 hbw5 hbw3 hb35 HM HR2
      rintro X ⟨kT, kR, HPX, hbX⟩
      have lT := kT.lt
      have lR := kR.lt
      obtain ⟨T, hT⟩ : ∃ T, w5.heap.size = T := ⟨_, rfl⟩
      rw [hT] at kT lT ⊢
      have hwT : w.heap.size < T := by omega
      clear hT hz5 hz3 lR5 lR3 lp3
      obtain ⟨⟨t0, t1⟩, _⟩ := (show Blk X T 48 #[.int .i64 t.k, .string ⟨t.s.toArray⟩] from kT).two
      obtain ⟨z0, z1, z2, z3, z4, z5⟩ := kR.sixF
      obtain ⟨r0, r1, r2, r3, r4, r5⟩ := kR.six
      unfold tokF at HF
      by_cases h2 : t.k = 2
      · have e2 : (t.k == 2) = true := by simpa using h2
        obtain ⟨S, hS⟩ : ∃ S, sgn sg t.s = S := ⟨_, rfl⟩
        have hS2 : Z ++ t.s = S := by rw [HZ.out, ← hS]; cases sg <;> rfl
        have hSl : S.length ≤ 41 := by rw [← hS]; cases sg <;> simp [sgn] <;> omega
        have hZl : Z.length ≤ 1 := by rw [HZ.out]; cases sg <;> simp [sgn]
        have hF2 := HF.out
        rw [if_pos h2, hS] at hF2
        have HF2 : Hid (R = (exLit ⟨1, (numF S).1, []⟩, (numF S).2, a1 + 1)) := hF2.symm
        have HS2 := Lib.hid hS2
        clear h2 hS hS2 hF2 HF
        go_wp2_with fail
        rw [HS2.out]
        cases hB : (numF S).2
        · refine (num_bad S _ (by omega) HPX.out.2.2.errs hB).mono ?_
          obtain ⟨NN, hNN⟩ : ∃ NN, (numF S).1 = NN := ⟨_, rfl⟩
          have hfit := numF_in S
          rw [hB] at HF2
          rw [hNN] at HF2 hfit ⊢
          have HFT := Lib.hid hfit
          clear hB hNN hfit
          rintro en w7 ⟨tp, pp, rfl, hb7⟩
          have kR7 := kR.below hb7 lR
          have lR7 := kR7.lt
          have HP7 := Lib.hid (HPX.out.but hb7)
          have hbw7 := hbX.after hb7
          clear z0 z1 z2 z3 z4 z5 r0 r1 r2 r3 r4 r5 t0 t1
          obtain ⟨z0, z1, z2, z3, z4, z5⟩ := kR7.sixF
          obtain ⟨r0, r1, r2, r3, r4, r5⟩ := kR7.six
          go_upto_region 11 with fail
          refine wp_region_held_drew (S := (fun _ => True)) (by kernel_rfl) ?_ (fun hHeld => ?_)
          · try dsimp only
            all_goals trivial
          refine wpAnyH_take (i := 0) (v := ?_) rfl (by kernel_rfl) (by kernel_rfl) (by kernel_rfl) (fun _ _ _ h => h) (Or.inl ⟨by rfl, ?_⟩) (by assumption) ?_
          rotate_left
          · intro wq hSw
            try dsimp only at hSw
            go_simp
            try with_reducible rfl
          try simp only [Act.put, List.getElem_toArray, List.getElem_cons_zero, List.setIfInBounds_toArray, List.set_cons_zero, List.set_cons_succ]
          refine wpAnyH_take (i := 1) (v := ?_) rfl (by kernel_rfl) (by kernel_rfl) (by kernel_rfl) (fun _ _ _ h => h) (Or.inl ⟨by rfl, ?_⟩) (by assumption) ?_
          rotate_left
          · intro wq hSw
            try dsimp only at hSw
            go_simp
            try with_reducible rfl
          try simp only [Act.put, List.getElem_toArray, List.getElem_cons_zero, List.getElem_cons_succ, List.setIfInBounds_toArray, List.set_cons_zero, List.set_cons_succ]
          refine wpAnyH_take (i := 2) (v := ?_) rfl (by kernel_rfl) (by kernel_rfl) (by kernel_rfl) (fun _ _ _ h => h) (Or.inl ⟨by rfl, ?_⟩) (by assumption) ?_
          rotate_left
          · intro wq hSw
            try dsimp only at hSw
            go_simp
            try with_reducible rfl
          try simp only [Act.put, List.getElem_toArray, List.getElem_cons_zero, List.getElem_cons_succ, List.setIfInBounds_toArray, List.set_cons_zero, List.set_cons_succ]
          refine wpAnyH_take (i := 3) (v := ?_) rfl (by kernel_rfl) (by kernel_rfl) (by kernel_rfl) (fun _ _ _ h => h) (Or.inl ⟨by rfl, ?_⟩) (by assumption) ?_
          rotate_left
          · intro wq hSw
            try dsimp only at hSw
            go_simp
            try with_reducible rfl
          try simp only [Act.put, List.getElem_toArray, List.getElem_cons_zero, List.getElem_cons_succ, List.setIfInBounds_toArray, List.set_cons_zero, List.set_cons_succ]
          refine wpAnyH_take (i := 4) (v := ?_) rfl (by kernel_rfl) (by kernel_rfl) (by kernel_rfl) (fun _ _ _ h => h) (Or.inl ⟨by rfl, ?_⟩) (by assumption) ?_
          rotate_left
          · intro wq hSw
            try dsimp only at hSw
            go_simp
            try with_reducible rfl
          try simp only [Act.put, List.getElem_toArray, List.getElem_cons_zero, List.getElem_cons_succ, List.setIfInBounds_toArray, List.set_cons_zero, List.set_cons_succ]
          refine wpAnyH_ready (rs := [5]) (by kernel_rfl) (by simp) ?_
          refine AllReadyH.cons rfl (fun K hK => ?_) AllReadyH.nil
          go_simp
          skip
          go_wp2_with fail
          refine hK.out _ _ ?_ (fun hHeld => ?_)
          · try dsimp only
            all_goals trivial
          clear hK K
          try simp only [Act.put, List.getElem_toArray, List.getElem_cons_zero, List.getElem_cons_succ, List.setIfInBounds_toArray, List.set_cons_zero, List.set_cons_succ]
          refine wpAnyH_take (i := 6) (v := ?_) rfl (by kernel_rfl) (by kernel_rfl) (by kernel_rfl) (fun _ _ _ h => h) (Or.inl ⟨by rfl, ?_⟩) (by assumption) ?_
          rotate_left
          · intro wq hSw
            try dsimp only at hSw
            go_simp
            try with_reducible rfl
          try simp only [Act.put, List.getElem_toArray, List.getElem_cons_zero, List.getElem_cons_succ, List.setIfInBounds_toArray, List.set_cons_zero, List.set_cons_succ]
          refine wpAnyH_done (by kernel_rfl) ?_ _
          go_wp2_with fail
          refine bodyPost_ret (v := .tuple #[.agg ((exLit ⟨1, NN, []⟩ : Ex).cells none 0).toArray, .bool false]) (by simp [results, Tryz.results215, go_sem, *, Ex.cells, exLit, opLit, Ex.op, Ex.v, Ex.s, Ex.l]) rfl ?_
          exact (leaf_end HF2.out rfl (exLit_fit _ HFT.out (by simp)) (Nat.le_refl _) lp HP7.out hbw7 _ _ _ _ _ _).drew
        · refine (num_ok S _ (by omega) hB).mono ?_
          obtain ⟨NN, hNN⟩ : ∃ NN, (numF S).1 = NN := ⟨_, rfl⟩
          have hfit := numF_in S
          rw [hB] at HF2
          rw [hNN] at HF2 hfit ⊢
          have HFT := Lib.hid hfit
          clear hB hNN hfit
          rintro en w7 ⟨rfl, hb7⟩
          have kR7 := kR.below hb7 lR
          have lR7 := kR7.lt
          have HP7 := Lib.hid (HPX.out.but hb7)
          have hbw7 := hbX.after hb7
          clear z0 z1 z2 z3 z4 z5 r0 r1 r2 r3 r4 r5 t0 t1
          obtain ⟨z0, z1, z2, z3, z4, z5⟩ := kR7.sixF
          obtain ⟨r0, r1, r2, r3, r4, r5⟩ := kR7.six
          go_upto_region 11 with fail
          refine wp_region_held_drew (S := (fun _ => True)) (by kernel_rfl) ?_ (fun hHeld => ?_)
          · try dsimp only
            all_goals trivial
          refine wpAnyH_take (i := 0) (v := ?_) rfl (by kernel_rfl) (by kernel_rfl) (by kernel_rfl) (fun _ _ _ h => h) (Or.inl ⟨by rfl, ?_⟩) (by assumption) ?_
          rotate_left
          · intro wq hSw
            try dsimp only at hSw
            go_simp
            try with_reducible rfl
          try simp only [Act.put, List.getElem_toArray, List.getElem_cons_zero, List.setIfInBounds_toArray, List.set_cons_zero, List.set_cons_succ]
          refine wpAnyH_take (i := 1) (v := ?_) rfl (by kernel_rfl) (by kernel_rfl) (by kernel_rfl) (fun _ _ _ h => h) (Or.inl ⟨by rfl, ?_⟩) (by assumption) ?_
          rotate_left
          · intro wq hSw
            try dsimp only at hSw
            go_simp
            try with_reducible rfl
          try simp only [Act.put, List.getElem_toArray, List.getElem_cons_zero, List.getElem_cons_succ, List.setIfInBounds_toArray, List.set_cons_zero, List.set_cons_succ]
          refine wpAnyH_take (i := 2) (v := ?_) rfl (by kernel_rfl) (by kernel_rfl) (by kernel_rfl) (fun _ _ _ h => h) (Or.inl ⟨by rfl, ?_⟩) (by assumption) ?_
          rotate_left
          · intro wq hSw
            try dsimp only at hSw
            go_simp
            try with_reducible rfl
          try simp only [Act.put, List.getElem_toArray, List.getElem_cons_zero, List.getElem_cons_succ, List.setIfInBounds_toArray, List.set_cons_zero, List.set_cons_succ]
          refine wpAnyH_take (i := 3) (v := ?_) rfl (by kernel_rfl) (by kernel_rfl) (by kernel_rfl) (fun _ _ _ h => h) (Or.inl ⟨by rfl, ?_⟩) (by assumption) ?_
          rotate_left
          · intro wq hSw
            try dsimp only at hSw
            go_simp
            try with_reducible rfl
          try simp only [Act.put, List.getElem_toArray, List.getElem_cons_zero, List.getElem_cons_succ, List.setIfInBounds_toArray, List.set_cons_zero, List.set_cons_succ]
          refine wpAnyH_take (i := 4) (v := ?_) rfl (by kernel_rfl) (by kernel_rfl) (by kernel_rfl) (fun _ _ _ h => h) (Or.inl ⟨by rfl, ?_⟩) (by assumption) ?_
          rotate_left
          · intro wq hSw
            try dsimp only at hSw
            go_simp
            try with_reducible rfl
          try simp only [Act.put, List.getElem_toArray, List.getElem_cons_zero, List.getElem_cons_succ, List.setIfInBounds_toArray, List.set_cons_zero, List.set_cons_succ]
          refine wpAnyH_ready (rs := [5]) (by kernel_rfl) (by simp) ?_
          refine AllReadyH.cons rfl (fun K hK => ?_) AllReadyH.nil
          go_simp
          skip
          go_wp2_with fail
          refine hK.out _ _ ?_ (fun hHeld => ?_)
          · try dsimp only
            all_goals trivial
          clear hK K
          try simp only [Act.put, List.getElem_toArray, List.getElem_cons_zero, List.getElem_cons_succ, List.setIfInBounds_toArray, List.set_cons_zero, List.set_cons_succ]
          refine wpAnyH_take (i := 6) (v := ?_) rfl (by kernel_rfl) (by kernel_rfl) (by kernel_rfl) (fun _ _ _ h => h) (Or.inl ⟨by rfl, ?_⟩) (by assumption) ?_
          rotate_left
          · intro wq hSw
            try dsimp only at hSw
            go_simp
            try with_reducible rfl
          try simp only [Act.put, List.getElem_toArray, List.getElem_cons_zero, List.getElem_cons_succ, List.setIfInBounds_toArray, List.set_cons_zero, List.set_cons_succ]
          refine wpAnyH_done (by kernel_rfl) ?_ _
          go_wp2_with fail
          refine bodyPost_ret (v := .tuple #[.agg ((exLit ⟨1, NN, []⟩ : Ex).cells none 0).toArray, .bool true]) (by simp [results, Tryz.results215, go_sem, *, Ex.cells, exLit, opLit, Ex.op, Ex.v, Ex.s, Ex.l]) rfl ?_
          exact (leaf_end HF2.out rfl (exLit_fit _ HFT.out (by simp)) (Nat.le_refl _) lp HP7.out hbw7 _ _ _ _ _ _).drew
      · have e2 : (t.k == 2) = false := by simpa using h2
        have hF2 := HF.out
        rw [if_neg h2] at hF2
        clear HF
        cases sg
        · obtain rfl : Z = [] := HZ.out
          simp only [Bool.false_eq_true, if_false] at hF2
          by_cases h3 : t.k = 3
          · have e3 : (t.k == 3) = true := by simpa using h3
            rw [if_pos h3] at hF2
            have HF2 := Lib.hid hF2.symm
            clear h2 h3 hF2
            go_wp2_with fail
            refine bodyPost_ret (v := .tuple #[.agg ((exLit ⟨2, 0, t.s⟩ : Ex).cells none 0).toArray, .bool true]) (by simp [results, Tryz.results215, go_sem, *, Ex.cells, exLit, opLit, Ex.op, Ex.v, Ex.s, Ex.l]) rfl ?_
            exact leaf_end HF2.out rfl (exLit_fit _ zero_in (by show t.s.length ≤ _; omega)) (Nat.le_refl _) lp HPX.out hbX _ _ _ _ _ _
          · have e3 : (t.k == 3) = false := by simpa using h3
            rw [if_neg h3] at hF2
            by_cases h1 : t.k = 1
            · have e1 : (t.k != 1) = false := by simpa using h1
              have e1' : (t.k == 1) = true := by simpa using h1
              rw [if_pos h1] at hF2
              clear h1 h2 h3
              by_cases hT : t.s = [84, 82, 85, 69]
              · rw [if_pos hT] at hF2
                have HF2 := Lib.hid hF2.symm
                rw [hT] at t1
                clear hT hF2
                go_wp2_with fail
                refine (parse_true _).mono ?_
                rintro en w7 ⟨rfl, hb7⟩
                have kR7 := kR.below hb7 lR
                have lR7 := kR7.lt
                have HP7 := Lib.hid (HPX.out.but hb7)
                have hbw7 := hbX.after hb7
                have hs7 := hb7.size
                clear z0 z1 z2 z3 z4 z5 r0 r1 r2 r3 r4 r5 t0 t1
                obtain ⟨w8, hw8⟩ : ∃ w8, w7.alloc (.cells (⟨3, 1, []⟩ : V).cells.toArray 23) = w8 := ⟨_, rfl⟩
                have kV8 : Blk w8 w7.heap.size 23 (⟨3, 1, []⟩ : V).cells.toArray := by rw [← hw8]; exact Blk.new _ _ _
                have hb8 : Below w7.heap.size w7 w8 := by rw [← hw8]; ((repeat' (first | with_reducible exact Below.refl _ _ | with_reducible assumption | with_reducible refine Below.drew ?_ | with_reducible refine below_drewN ?_ _ | with_reducible refine Below.setCell ?_ ?_ _ | with_reducible refine Below.alloc ?_ ?_ _ | with_reducible refine Below.trans ?_ (Below.mono (by assumption) ?_))) <;> (first | (simp; done) | (simp; omega) | omega))
                have HW8 := Lib.hid hw8
                clear hw8
                have kR8 := kR7.below hb8 lR7
                have lR8 := kR8.lt
                obtain ⟨z0, z1, z2, z3, z4, z5⟩ := kR8.sixF
                obtain ⟨r0, r1, r2, r3, r4, r5⟩ := kR8.six
                obtain ⟨⟨v0, v1, v2⟩, _⟩ := (show Blk w8 w7.heap.size 23 #[.int .i64 (⟨3, 1, []⟩ : V).k, .int .i64 (⟨3, 1, []⟩ : V).i, .string ⟨(⟨3, 1, []⟩ : V).s.toArray⟩] from kV8).three
                go_upto_region 23 with fail
                rw [show w7.alloc (.cells #[.int .i64 (⟨3, 1, []⟩ : V).k, .int .i64 (⟨3, 1, []⟩ : V).i, .string ⟨(⟨3, 1, []⟩ : V).s.toArray⟩] 23) = w8 from HW8.out]
                clear HW8
                go_wp2_with fail
                refine bodyPost_ret (v := .tuple #[.agg ((exLit ⟨3, 1, []⟩ : Ex).cells none 0).toArray, .bool true]) (by simp [results, Tryz.results215, go_sem, *, Ex.cells, exLit, opLit, Ex.op, Ex.v, Ex.s, Ex.l]) rfl ?_
                exact leaf_end HF2.out rfl (exLit_fit _ (by constructor <;> decide) (by decide)) (Nat.le_refl _) lp (HP7.out.but hb8) (hbw7.after hb8) _ _ _ _ _ _
              by_cases hFa : t.s = [70, 65, 76, 83, 69]
              · rw [if_neg hT, if_pos hFa] at hF2
                have HF2 := Lib.hid hF2.symm
                rw [hFa] at t1
                clear hT hFa hF2
                go_wp2_with fail
                refine (parse_false _).mono ?_
                rintro en w7 ⟨rfl, hb7⟩
                have kR7 := kR.below hb7 lR
                have lR7 := kR7.lt
                have HP7 := Lib.hid (HPX.out.but hb7)
                have hbw7 := hbX.after hb7
                have hs7 := hb7.size
                clear z0 z1 z2 z3 z4 z5 r0 r1 r2 r3 r4 r5 t0 t1
                obtain ⟨w8, hw8⟩ : ∃ w8, w7.alloc (.cells (⟨3, 0, []⟩ : V).cells.toArray 23) = w8 := ⟨_, rfl⟩
                have kV8 : Blk w8 w7.heap.size 23 (⟨3, 0, []⟩ : V).cells.toArray := by rw [← hw8]; exact Blk.new _ _ _
                have hb8 : Below w7.heap.size w7 w8 := by rw [← hw8]; ((repeat' (first | with_reducible exact Below.refl _ _ | with_reducible assumption | with_reducible refine Below.drew ?_ | with_reducible refine below_drewN ?_ _ | with_reducible refine Below.setCell ?_ ?_ _ | with_reducible refine Below.alloc ?_ ?_ _ | with_reducible refine Below.trans ?_ (Below.mono (by assumption) ?_))) <;> (first | (simp; done) | (simp; omega) | omega))
                have HW8 := Lib.hid hw8
                clear hw8
                have kR8 := kR7.below hb8 lR7
                have lR8 := kR8.lt
                obtain ⟨z0, z1, z2, z3, z4, z5⟩ := kR8.sixF
                obtain ⟨r0, r1, r2, r3, r4, r5⟩ := kR8.six
                obtain ⟨⟨v0, v1, v2⟩, _⟩ := (show Blk w8 w7.heap.size 23 #[.int .i64 (⟨3, 0, []⟩ : V).k, .int .i64 (⟨3, 0, []⟩ : V).i, .string ⟨(⟨3, 0, []⟩ : V).s.toArray⟩] from kV8).three
                go_upto_region 23 with fail
                rw [show w7.alloc (.cells #[.int .i64 (⟨3, 0, []⟩ : V).k, .int .i64 (⟨3, 0, []⟩ : V).i, .string ⟨(⟨3, 0, []⟩ : V).s.toArray⟩] 23) = w8 from HW8.out]
                clear HW8
                go_wp2_with fail
                refine bodyPost_ret (v := .tuple #[.agg ((exLit ⟨3, 0, []⟩ : Ex).cells none 0).toArray, .bool true]) (by simp [results, Tryz.results215, go_sem, *, Ex.cells, exLit, opLit, Ex.op, Ex.v, Ex.s, Ex.l]) rfl ?_
                exact leaf_end HF2.out rfl (exLit_fit _ (by constructor <;> decide) (by decide)) (Nat.le_refl _) lp (HP7.out.but hb8) (hbw7.after hb8) _ _ _ _ _ _
              by_cases hN : t.s = [78, 85, 76, 76]
              · rw [if_neg hT, if_neg hFa, if_pos hN] at hF2
                have HF2 := Lib.hid hF2.symm
                rw [hN] at t1
                clear hT hFa hN hF2
                go_wp2_with fail
                refine (parse_null _).mono ?_
                rintro en w7 ⟨rfl, hb7⟩
                have kR7 := kR.below hb7 lR
                have lR7 := kR7.lt
                have HP7 := Lib.hid (HPX.out.but hb7)
                have hbw7 := hbX.after hb7
                have hs7 := hb7.size
                clear z0 z1 z2 z3 z4 z5 r0 r1 r2 r3 r4 r5 t0 t1
                obtain ⟨w8, hw8⟩ : ∃ w8, w7.alloc (.cells (⟨0, 0, []⟩ : V).cells.toArray 23) = w8 := ⟨_, rfl⟩
                have kV8 : Blk w8 w7.heap.size 23 (⟨0, 0, []⟩ : V).cells.toArray := by rw [← hw8]; exact Blk.new _ _ _
                have hb8 : Below w7.heap.size w7 w8 := by rw [← hw8]; ((repeat' (first | with_reducible exact Below.refl _ _ | with_reducible assumption | with_reducible refine Below.drew ?_ | with_reducible refine below_drewN ?_ _ | with_reducible refine Below.setCell ?_ ?_ _ | with_reducible refine Below.alloc ?_ ?_ _ | with_reducible refine Below.trans ?_ (Below.mono (by assumption) ?_))) <;> (first | (simp; done) | (simp; omega) | omega))
                have HW8 := Lib.hid hw8
                clear hw8
                have kR8 := kR7.below hb8 lR7
                have lR8 := kR8.lt
                obtain ⟨z0, z1, z2, z3, z4, z5⟩ := kR8.sixF
                obtain ⟨r0, r1, r2, r3, r4, r5⟩ := kR8.six
                obtain ⟨⟨v0, v1, v2⟩, _⟩ := (show Blk w8 w7.heap.size 23 #[.int .i64 (⟨0, 0, []⟩ : V).k, .int .i64 (⟨0, 0, []⟩ : V).i, .string ⟨(⟨0, 0, []⟩ : V).s.toArray⟩] from kV8).three
                go_upto_region 23 with fail
                rw [show w7.alloc (.cells #[.int .i64 (⟨0, 0, []⟩ : V).k, .int .i64 (⟨0, 0, []⟩ : V).i, .string ⟨(⟨0, 0, []⟩ : V).s.toArray⟩] 23) = w8 from HW8.out]
                clear HW8
                go_wp2_with fail
                refine bodyPost_ret (v := .tuple #[.agg ((exLit ⟨0, 0, []⟩ : Ex).cells none 0).toArray, .bool true]) (by simp [results, Tryz.results215, go_sem, *, Ex.cells, exLit, opLit, Ex.op, Ex.v, Ex.s, Ex.l]) rfl ?_
                exact leaf_end HF2.out rfl (exLit_fit _ (by constructor <;> decide) (by decide)) (Nat.le_refl _) lp (HP7.out.but hb8) (hbw7.after hb8) _ _ _ _ _ _
              rw [if_neg hT, if_neg hFa, if_neg hN] at hF2
              have HF2 := Lib.hid hF2.symm
              have g1 : (t.s == [84, 82, 85, 69]) = false := by simpa using hT
              have g2 : (t.s == [70, 65, 76, 83, 69]) = false := by simpa using hFa
              have g3 : (t.s == [78, 85, 76, 76]) = false := by simpa using hN
              clear hT hFa hN hF2
              obtain ⟨B, hB⟩ : ∃ B, reserved t.s = B := ⟨_, rfl⟩
              rw [hB] at HF2
              have HB := Lib.hid hB
              clear hB
              have kT' : Blk X T 48 #[.int .i64 t.k, .string ⟨t.s.toArray⟩] := kT
              go_upto_region 24 with fail
              refine wp_region_held_drew (S := (fun w' => w'.cell? ⟨T, 0, none⟩ = some (.int .i64 t.k) ∧ w'.cell? ⟨T, 1, none⟩ = some (.string ⟨t.s.toArray⟩))) (by kernel_rfl) ?_ (fun hHeld => ?_)
              · try dsimp only
                exact (Blk.two (t := 48) (by ((repeat' (first | with_reducible assumption | with_reducible refine Blk.drew ?_ | with_reducible refine Blk.drewN ?_ _ | with_reducible refine Blk.set3 ?_ _ _ _ | with_reducible refine Blk.far ?_ ?_ _ | ((with_reducible refine Blk.new' _ _ _ _ ?_) <;> (first | (simp; done) | (simp; omega) | omega) <;> done) | with_reducible refine Blk.alloc ?_ _ | with_reducible refine Blk3.drew ?_ | with_reducible refine Blk3.drewN ?_ _ | ((with_reducible refine Blk3.new' _ _ _ _ _ _ ?_) <;> (first | (simp; done) | (simp; omega) | omega) <;> done) | with_reducible refine Blk3.alloc ?_ _ | with_reducible refine Blk3.far ?_ ?_ _ | with_reducible refine Blk3.below ?_ (by assumption) ?_ | with_reducible refine Blk.below ?_ (by assumption) ?_)) <;> (first | (simp; done) | (simp; omega) | omega)))).1
              refine wpAnyH_take (i := 0) (v := ?_) rfl (by kernel_rfl) (by kernel_rfl) (by kernel_rfl) (fun _ _ _ h => h) (Or.inl ⟨by rfl, ?_⟩) (by assumption) ?_
              rotate_left
              · intro wq hSw
                try dsimp only at hSw
                go_simp
                try with_reducible rfl
              try simp only [Act.put, List.getElem_toArray, List.getElem_cons_zero, List.setIfInBounds_toArray, List.set_cons_zero, List.set_cons_succ]
              refine wpAnyH_take (i := 1) (v := ?_) rfl (by kernel_rfl) (by kernel_rfl) (by kernel_rfl) (fun _ _ _ h => h) (Or.inl ⟨by rfl, ?_⟩) (by assumption) ?_
              rotate_left
              · intro wq hSw
                try dsimp only at hSw
                go_simp
                try with_reducible rfl
              try simp only [Act.put, List.getElem_toArray, List.getElem_cons_zero, List.getElem_cons_succ, List.setIfInBounds_toArray, List.set_cons_zero, List.set_cons_succ]
              refine wpAnyH_take (i := 2) (v := ?_) rfl (by kernel_rfl) (by kernel_rfl) (by kernel_rfl) (fun _ _ _ h => h) (Or.inl ⟨by rfl, ?_⟩) (by assumption) ?_
              rotate_left
              · intro wq hSw
                try dsimp only at hSw
                go_simp
                try with_reducible rfl
              try simp only [Act.put, List.getElem_toArray, List.getElem_cons_zero, List.getElem_cons_succ, List.setIfInBounds_toArray, List.set_cons_zero, List.set_cons_succ]
              refine wpAnyH_take (i := 3) (v := ?_) rfl (by kernel_rfl) (by kernel_rfl) (by kernel_rfl) (fun _ _ _ h => h) (Or.inl ⟨by rfl, ?_⟩) (by assumption) ?_
              rotate_left
              · intro wq hSw
                try dsimp only at hSw
                go_simp
                try with_reducible rfl
              try simp only [Act.put, List.getElem_toArray, List.getElem_cons_zero, List.getElem_cons_succ, List.setIfInBounds_toArray, List.set_cons_zero, List.set_cons_succ]
              refine wpAnyH_take (i := 4) (v := ?_) rfl (by kernel_rfl) (by kernel_rfl) (by kernel_rfl) (fun _ _ _ h => h) (Or.inl ⟨by rfl, ?_⟩) (by assumption) ?_
              rotate_left
              · intro wq hSw
                try dsimp only at hSw
                go_simp
                try with_reducible rfl
              try simp only [Act.put, List.getElem_toArray, List.getElem_cons_zero, List.getElem_cons_succ, List.setIfInBounds_toArray, List.set_cons_zero, List.set_cons_succ]
              refine wpAnyH_ready (rs := [5]) (by kernel_rfl) (by simp) ?_
              refine AllReadyH.cons rfl (fun K hK => ?_) AllReadyH.nil
              go_simp
              refine (reserved_any t.s _).mono ?_ <;> rw [HB.out] <;> rintro en w7 ⟨rfl, rfl⟩
              go_wp2_with fail
              refine hK.out _ _ ?_ (fun hHeld => ?_)
              · try dsimp only
                exact (Blk.two (t := 48) (by ((repeat' (first | with_reducible assumption | with_reducible refine Blk.drew ?_ | with_reducible refine Blk.drewN ?_ _ | with_reducible refine Blk.set3 ?_ _ _ _ | with_reducible refine Blk.far ?_ ?_ _ | ((with_reducible refine Blk.new' _ _ _ _ ?_) <;> (first | (simp; done) | (simp; omega) | omega) <;> done) | with_reducible refine Blk.alloc ?_ _ | with_reducible refine Blk3.drew ?_ | with_reducible refine Blk3.drewN ?_ _ | ((with_reducible refine Blk3.new' _ _ _ _ _ _ ?_) <;> (first | (simp; done) | (simp; omega) | omega) <;> done) | with_reducible refine Blk3.alloc ?_ _ | with_reducible refine Blk3.far ?_ ?_ _ | with_reducible refine Blk3.below ?_ (by assumption) ?_ | with_reducible refine Blk.below ?_ (by assumption) ?_)) <;> (first | (simp; done) | (simp; omega) | omega)))).1
              clear hK K
              try simp only [Act.put, List.getElem_toArray, List.getElem_cons_zero, List.getElem_cons_succ, List.setIfInBounds_toArray, List.set_cons_zero, List.set_cons_succ]
              refine wpAnyH_take (i := 6) (v := ?_) rfl (by kernel_rfl) (by kernel_rfl) (by kernel_rfl) (fun _ _ _ h => h) (Or.inl ⟨by rfl, ?_⟩) (by assumption) ?_
              rotate_left
              · intro wq hSw
                try dsimp only at hSw
                go_simp
                try with_reducible rfl
              try simp only [Act.put, List.getElem_toArray, List.getElem_cons_zero, List.getElem_cons_succ, List.setIfInBounds_toArray, List.set_cons_zero, List.set_cons_succ]
              refine wpAnyH_ready (rs := [7]) (by kernel_rfl) (by simp) ?_
              refine AllReadyH.cons rfl (fun K hK => ?_) AllReadyH.nil
              go_simp
              skip
              go_wp2_with fail
              refine hK.out _ _ ?_ (fun hHeld => ?_)
              · try dsimp only
                exact (Blk.two (t := 48) (by ((repeat' (first | with_reducible assumption | with_reducible refine Blk.drew ?_ | with_reducible refine Blk.drewN ?_ _ | with_reducible refine Blk.set3 ?_ _ _ _ | with_reducible refine Blk.far ?_ ?_ _ | ((with_reducible refine Blk.new' _ _ _ _ ?_) <;> (first | (simp; done) | (simp; omega) | omega) <;> done) | with_reducible refine Blk.alloc ?_ _ | with_reducible refine Blk3.drew ?_ | with_reducible refine Blk3.drewN ?_ _ | ((with_reducible refine Blk3.new' _ _ _ _ _ _ ?_) <;> (first | (simp; done) | (simp; omega) | omega) <;> done) | with_reducible refine Blk3.alloc ?_ _ | with_reducible refine Blk3.far ?_ ?_ _ | with_reducible refine Blk3.below ?_ (by assumption) ?_ | with_reducible refine Blk.below ?_ (by assumption) ?_)) <;> (first | (simp; done) | (simp; omega) | omega)))).1
              clear hK K
              try simp only [Act.put, List.getElem_toArray, List.getElem_cons_zero, List.getElem_cons_succ, List.setIfInBounds_toArray, List.set_cons_zero, List.set_cons_succ]
              refine wpAnyH_take (i := 8) (v := ?_) rfl (by kernel_rfl) (by kernel_rfl) (by kernel_rfl) (fun _ _ _ h => h) (Or.inl ⟨by rfl, ?_⟩) (by assumption) ?_
              rotate_left
              · intro wq hSw
                try dsimp only at hSw
                go_simp
                try with_reducible rfl
              try simp only [Act.put, List.getElem_toArray, List.getElem_cons_zero, List.getElem_cons_succ, List.setIfInBounds_toArray, List.set_cons_zero, List.set_cons_succ]
              refine wpAnyH_done (by kernel_rfl) ?_ _
              go_wp2_with fail
              refine bodyPost_ret (v := .tuple #[.agg ((.mk opCol V.zero t.s [] : Ex).cells none 0).toArray, .bool (!B)]) (by simp [results, Tryz.results215, go_sem, *, Ex.cells, opCol, V.zero, Ex.op, Ex.v, Ex.s, Ex.l]) rfl ?_
              exact (leaf_end HF2.out rfl ⟨zero_in, by simp [opCol, Ex.op], by show t.s.length ≤ _; omega, by simp [Ex.v, V.zero]⟩ (Nat.le_refl _) lp HPX.out hbX _ _ _ _ _ _).drew
            · have e1 : (t.k != 1) = true := by simpa using h1
              have e1' : (t.k == 1) = false := by simpa using h1
              rw [if_neg h1] at hF2
              have HF2 := Lib.hid hF2.symm
              clear h1 h2 h3 hF2
              go_wp2_with fail
              refine bodyPost_ret (v := .tuple #[.agg ((exZero : Ex).cells none 0).toArray, .bool false]) (by simp [results, Tryz.results215, go_sem, *, Ex.cells, exZero, V.zero, Ex.op, Ex.v, Ex.s, Ex.l]) rfl ?_
              exact leaf_end HF2.out rfl exZero_fit (Nat.le_refl _) lp HPX.out hbX _ _ _ _ _ _
        · obtain rfl : Z = [45] := HZ.out
          simp only [if_true] at hF2
          have HF2 := Lib.hid hF2.symm
          clear h2 hF2
          go_wp2_with fail
          refine bodyPost_ret (v := .tuple #[.agg ((exZero : Ex).cells none 0).toArray, .bool false]) (by simp [results, Tryz.results215, go_sem, *, Ex.cells, exZero, V.zero, Ex.op, Ex.v, Ex.s, Ex.l]) rfl ?_
          exact leaf_end HF2.out rfl exZero_fit (Nat.le_refl _) lp HPX.out hbX _ _ _ _ _ _
  · have HF : Hid (R = (exZero, false, a1)) := by show _ = _; rw [← HR.out]; unfold atomS; rw [List.getElem?_eq_none (by omega)]
    have b0 : (l.length : Int) ≤ (a1 : Int) := by omega
    have HSH : Hid (∀ w' : World, Below w3.heap.size w3 w' → (w'.cell? ⟨p, 0, none⟩ = some (.slice A l.length c) ∧ w'.cell? ⟨p, 1, none⟩ = some (.int .i64 (a1 : Nat)))) :=
      fun w' hb => ⟨(HP3.out.1.below hb HP3.out.1.lt).cell 0, (HP3.out.1.below hb HP3.out.1.lt).cell 1⟩
    go_upto_region 5 with fail
    refine wp_region_held_drew (S := (fun w' => w'.cell? ⟨p, 0, none⟩ = some (.slice A l.length c) ∧ w'.cell? ⟨p, 1, none⟩ = some (.int .i64 (a1 : Nat)))) (by kernel_rfl) ?_ (fun hHeld => ?_)
    · try dsimp only
      exact HSH.out _ (by ((repeat' (first | with_reducible exact Below.refl _ _ | with_reducible assumption | with_reducible refine Below.drew ?_ | with_reducible refine below_drewN ?_ _ | with_reducible refine Below.setCell ?_ ?_ _ | with_reducible refine Below.alloc ?_ ?_ _ | with_reducible refine Below.trans ?_ (Below.mono (by assumption) ?_))) <;> (first | (simp; done) | (simp; omega) | omega)))
    refine wpAnyH_take (i := 0) (v := ?_) rfl (by kernel_rfl) (by kernel_rfl) (by kernel_rfl) (fun _ _ _ h => h) (Or.inl ⟨by rfl, ?_⟩) (by assumption) ?_
    rotate_left
    · intro wq hSw
      try dsimp only at hSw
      go_simp
      try with_reducible rfl
    try simp only [Act.put, List.getElem_toArray, List.getElem_cons_zero, List.setIfInBounds_toArray, List.set_cons_zero, List.set_cons_succ]
    refine wpAnyH_take (i := 1) (v := ?_) rfl (by kernel_rfl) (by kernel_rfl) (by kernel_rfl) (fun _ _ _ h => h) (Or.inl ⟨by rfl, ?_⟩) (by assumption) ?_
    rotate_left
    · intro wq hSw
      try dsimp only at hSw
      go_simp
      try with_reducible rfl
    try simp only [Act.put, List.getElem_toArray, List.getElem_cons_zero, List.getElem_cons_succ, List.setIfInBounds_toArray, List.set_cons_zero, List.set_cons_succ]
    refine wpAnyH_take (i := 2) (v := ?_) rfl (by kernel_rfl) (by kernel_rfl) (by kernel_rfl) (fun _ _ _ h => h) (Or.inl ⟨by rfl, ?_⟩) (by assumption) ?_
    rotate_left
    · intro wq hSw
      try dsimp only at hSw
      go_simp
      try with_reducible rfl
    try simp only [Act.put, List.getElem_toArray, List.getElem_cons_zero, List.getElem_cons_succ, List.setIfInBounds_toArray, List.set_cons_zero, List.set_cons_succ]
    refine wpAnyH_take (i := 3) (v := ?_) rfl (by kernel_rfl) (by kernel_rfl) (by kernel_rfl) (fun _ _ _ h => h) (Or.inl ⟨by rfl, ?_⟩) (by assumption) ?_
    rotate_left
    · intro wq hSw
      try dsimp only at hSw
      go_simp
      try with_reducible rfl
    try simp only [Act.put, List.getElem_toArray, List.getElem_cons_zero, List.getElem_cons_succ, List.setIfInBounds_toArray, List.set_cons_zero, List.set_cons_succ]
    refine wpAnyH_take (i := 4) (v := ?_) rfl (by kernel_rfl) (by kernel_rfl) (by kernel_rfl) (fun _ _ _ h => h) (Or.inl ⟨by rfl, ?_⟩) (by assumption) ?_
    rotate_left
    · intro wq hSw
      try dsimp only at hSw
      go_simp
      try with_reducible rfl
    try simp only [Act.put, List.getElem_toArray, List.getElem_cons_zero, List.getElem_cons_succ, List.setIfInBounds_toArray, List.set_cons_zero, List.set_cons_succ]
    refine wpAnyH_take (i := 5) (v := ?_) rfl (by kernel_rfl) (by kernel_rfl) (by kernel_rfl) (fun _ _ _ h => h) (Or.inl ⟨by rfl, ?_⟩) (by assumption) ?_
    rotate_left
    · intro wq hSw
      try dsimp only at hSw
      go_simp
      try with_reducible rfl
    try simp only [Act.put, List.getElem_toArray, List.getElem_cons_zero, List.getElem_cons_succ, List.setIfInBounds_toArray, List.set_cons_zero, List.set_cons_succ]
    refine wpAnyH_take (i := 6) (v := ?_) rfl (by kernel_rfl) (by kernel_rfl) (by kernel_rfl) (fun _ _ _ h => h) (Or.inl ⟨by rfl, ?_⟩) (by assumption) ?_
    rotate_left
    · intro wq hSw
      try dsimp only at hSw
      go_simp
      try with_reducible rfl
    try simp only [Act.put, List.getElem_toArray, List.getElem_cons_zero, List.getElem_cons_succ, List.setIfInBounds_toArray, List.set_cons_zero, List.set_cons_succ]
    refine wpAnyH_take (i := 7) (v := ?_) rfl (by kernel_rfl) (by kernel_rfl) (by kernel_rfl) (fun _ _ _ h => h) (Or.inl ⟨by rfl, ?_⟩) (by assumption) ?_
    rotate_left
    · intro wq hSw
      try dsimp only at hSw
      go_simp
      try with_reducible rfl
    try simp only [Act.put, List.getElem_toArray, List.getElem_cons_zero, List.getElem_cons_succ, List.setIfInBounds_toArray, List.set_cons_zero, List.set_cons_succ]
    refine wpAnyH_take (i := 8) (v := ?_) rfl (by kernel_rfl) (by kernel_rfl) (by kernel_rfl) (fun _ _ _ h => h) (Or.inl ⟨by rfl, ?_⟩) (by assumption) ?_
    rotate_left
    · intro wq hSw
      try dsimp only at hSw
      go_simp
      try with_reducible rfl
    try simp only [Act.put, List.getElem_toArray, List.getElem_cons_zero, List.getElem_cons_succ, List.setIfInBounds_toArray, List.set_cons_zero, List.set_cons_succ]
    refine wpAnyH_take (i := 9) (v := ?_) rfl (by kernel_rfl) (by kernel_rfl) (by kernel_rfl) (fun _ _ _ h => h) (Or.inl ⟨by rfl, ?_⟩) (by assumption) ?_
    rotate_left
    · intro wq hSw
      try dsimp only at hSw
      go_simp
      try with_reducible rfl
    try simp only [Act.put, List.getElem_toArray, List.getElem_cons_zero, List.getElem_cons_succ, List.setIfInBounds_toArray, List.set_cons_zero, List.set_cons_succ]
    refine wpAnyH_take (i := 10) (v := ?_) rfl (by kernel_rfl) (by kernel_rfl) (by kernel_rfl) (fun _ _ _ h => h) (Or.inl ⟨by rfl, ?_⟩) (by assumption) ?_
    rotate_left
    · intro wq hSw
      try dsimp only at hSw
      go_simp
      try with_reducible rfl
    try simp only [Act.put, List.getElem_toArray, List.getElem_cons_zero, List.getElem_cons_succ, List.setIfInBounds_toArray, List.set_cons_zero, List.set_cons_succ]
    refine wpAnyH_take (i := 11) (v := undef) rfl (by kernel_rfl) (by kernel_rfl) (by kernel_rfl) (fun _ _ _ h => h) (Or.inr ⟨by rfl, rfl⟩) (by assumption) ?_
    try simp only [Act.put, List.getElem_toArray, List.getElem_cons_zero, List.getElem_cons_succ, List.setIfInBounds_toArray, List.set_cons_zero, List.set_cons_succ]
    refine wpAnyH_take (i := 12) (v := undef) rfl (by kernel_rfl) (by kernel_rfl) (by kernel_rfl) (fun _ _ _ h => h) (Or.inr ⟨by rfl, rfl⟩) (by assumption) ?_
    try simp only [Act.put, List.getElem_toArray, List.getElem_cons_zero, List.getElem_cons_succ, List.setIfInBounds_toArray, List.set_cons_zero, List.set_cons_succ]
    refine wpAnyH_take (i := 13) (v := undef) rfl (by kernel_rfl) (by kernel_rfl) (by kernel_rfl) (fun _ _ _ h => h) (Or.inr ⟨by rfl, rfl⟩) (by assumption) ?_
    try simp only [Act.put, List.getElem_toArray, List.getElem_cons_zero, List.getElem_cons_succ, List.setIfInBounds_toArray, List.set_cons_zero, List.set_cons_succ]
    refine wpAnyH_take (i := 14) (v := undef) rfl (by kernel_rfl) (by kernel_rfl) (by kernel_rfl) (fun _ _ _ h => h) (Or.inr ⟨by rfl, rfl⟩) (by assumption) ?_
    try simp only [Act.put, List.getElem_toArray, List.getElem_cons_zero, List.getElem_cons_succ, List.setIfInBounds_toArray, List.set_cons_zero, List.set_cons_succ]
    refine wpAnyH_take (i := 15) (v := undef) rfl (by kernel_rfl) (by kernel_rfl) (by kernel_rfl) (fun _ _ _ h => h) (Or.inr ⟨by rfl, rfl⟩) (by assumption) ?_
    try simp only [Act.put, List.getElem_toArray, List.getElem_cons_zero, List.getElem_cons_succ, List.setIfInBounds_toArray, List.set_cons_zero, List.set_cons_succ]
    refine wpAnyH_take (i := 16) (v := undef) rfl (by kernel_rfl) (by kernel_rfl) (by kernel_rfl) (fun _ _ _ h => h) (Or.inr ⟨by rfl, rfl⟩) (by assumption) ?_
    try simp only [Act.put, List.getElem_toArray, List.getElem_cons_zero, List.getElem_cons_succ, List.setIfInBounds_toArray, List.set_cons_zero, List.set_cons_succ]
    refine wpAnyH_take (i := 17) (v := undef) rfl (by kernel_rfl) (by kernel_rfl) (by kernel_rfl) (fun _ _ _ h => h) (Or.inr ⟨by rfl, rfl⟩) (by assumption) ?_
    try simp only [Act.put, List.getElem_toArray, List.getElem_cons_zero, List.getElem_cons_succ, List.setIfInBounds_toArray, List.set_cons_zero, List.set_cons_succ]
    refine wpAnyH_take (i := 18) (v := undef) rfl (by kernel_rfl) (by kernel_rfl) (by kernel_rfl) (fun _ _ _ h => h) (Or.inr ⟨by rfl, rfl⟩) (by assumption) ?_
    try simp only [Act.put, List.getElem_toArray, List.getElem_cons_zero, List.getElem_cons_succ, List.setIfInBounds_toArray, List.set_cons_zero, List.set_cons_succ]
    refine wpAnyH_take (i := 19) (v := undef) rfl (by kernel_rfl) (by kernel_rfl) (by kernel_rfl) (fun _ _ _ h => h) (Or.inr ⟨by rfl, rfl⟩) (by assumption) ?_
    try simp only [Act.put, List.getElem_toArray, List.getElem_cons_zero, List.getElem_cons_succ, List.setIfInBounds_toArray, List.set_cons_zero, List.set_cons_succ]
    refine wpAnyH_take (i := 20) (v := undef) rfl (by kernel_rfl) (by kernel_rfl) (by kernel_rfl) (fun _ _ _ h => h) (Or.inr ⟨by rfl, rfl⟩) (by assumption) ?_
    try simp only [Act.put, List.getElem_toArray, List.getElem_cons_zero, List.getElem_cons_succ, List.setIfInBounds_toArray, List.set_cons_zero, List.set_cons_succ]
    refine wpAnyH_take (i := 21) (v := undef) rfl (by kernel_rfl) (by kernel_rfl) (by kernel_rfl) (fun _ _ _ h => h) (Or.inr ⟨by rfl, rfl⟩) (by assumption) ?_
    try simp only [Act.put, List.getElem_toArray, List.getElem_cons_zero, List.getElem_cons_succ, List.setIfInBounds_toArray, List.set_cons_zero, List.set_cons_succ]
    refine wpAnyH_take (i := 22) (v := undef) rfl (by kernel_rfl) (by kernel_rfl) (by kernel_rfl) (fun _ _ _ h => h) (Or.inr ⟨by rfl, rfl⟩) (by assumption) ?_
    try simp only [Act.put, List.getElem_toArray, List.getElem_cons_zero, List.getElem_cons_succ, List.setIfInBounds_toArray, List.set_cons_zero, List.set_cons_succ]
    refine wpAnyH_take (i := 23) (v := ?_) rfl (by kernel_rfl) (by kernel_rfl) (by kernel_rfl) (fun _ _ _ h => h) (Or.inl ⟨by rfl, ?_⟩) (by assumption) ?_
    rotate_left
    · intro wq hSw
      try dsimp only at hSw
      go_simp
      try with_reducible rfl
    try simp only [Act.put, List.getElem_toArray, List.getElem_cons_zero, List.getElem_cons_succ, List.setIfInBounds_toArray, List.set_cons_zero, List.set_cons_succ]
    refine wpAnyH_done (by kernel_rfl) ?_ _
    obtain ⟨z0, z1, z2, z3, z4, z5⟩ := kR3.sixF
    obtain ⟨r0, r1, r2, r3, r4, r5⟩ := kR3.six
    go_wp2_with fail
    refine bodyPost_ret (v := .tuple #[.agg (exZero.cells none 0).toArray, .bool false]) (by simp [results, Tryz.results215, go_sem, *, Ex.cells, exZero, Ex.op, Ex.v, Ex.s, Ex.l, V.zero]) rfl ?_
    exact (leaf_end HF.out rfl exZero_fit (Nat.le_refl _) lp HP3.out hbw3 _ _ _ _ _ _).drew

end Go.Proofs.YtdnkkkgneikhkaaGreatDoor

namespace Go.Proofs.YtdnkkkgneikhkaaGreatDoor
open Go.RowKit

theorem RetPE.in_ {l : List Tok} {F : Nat → Ex × Bool × Nat} (h : ∀ a, a ≤ l.length → a ≤ (F a).2.2 ∧ (F a).2.2 ≤ l.length) {a : Nat} (ha : a ≤ l.length) : a ≤ (F a).2.2 ∧ (F a).2.2 ≤ l.length := h a ha
theorem atom_in (l : List Tok) (orI : Nat → Ex × Bool × Nat) (hF : ∀ a, a ≤ l.length → a ≤ (orI a).2.2 ∧ (orI a).2.2 ≤ l.length) (a : Nat) (ha : a ≤ l.length) : a ≤ (atomF l orI a).2.2 ∧ (atomF l orI a).2.2 ≤ l.length := by
  unfold atomF
  split
  · rename_i h
    have h1 := hit_lt h
    have h2 := hF (a + 1) (by omega)
    simp only
    split
    · rename_i h3
      simp only [Bool.and_eq_true] at h3
      have := hit_lt h3.2
      omega
    · omega
  · have key : ∀ (sg : Bool) (b : Nat), b ≤ l.length → b ≤ (atomS l sg b).2.2 ∧ (atomS l sg b).2.2 ≤ l.length := by
      intro sg b hb
      unfold atomS
      split
      · exact ⟨Nat.le_refl _, hb⟩
      · rename_i t ht
        have h1 := (List.getElem?_eq_some_iff.1 ht).1
        split
        · simp only; omega
        · exact ⟨Nat.le_refl _, hb⟩
    split
    · rename_i h
      have h1 := hit_lt h
      have := key (hit l a [45]) (a + 1) (by omega)
      omega
    · exact key _ a ha
def notF (l : List Tok) (notI cmp : Nat → Ex × Bool × Nat) (a : Nat) : Ex × Bool × Nat :=
  if hit l a [78, 79, 84] then (.mk opNot V.zero [] [(notI (a + 1)).1], (notI (a + 1)).2.1, (notI (a + 1)).2.2) else cmp a
theorem not_in (l : List Tok) (notI cmp : Nat → Ex × Bool × Nat) (hF : ∀ a, a ≤ l.length → a ≤ (notI a).2.2 ∧ (notI a).2.2 ≤ l.length) (hC : ∀ a, a ≤ l.length → a ≤ (cmp a).2.2 ∧ (cmp a).2.2 ≤ l.length) (a : Nat) (ha : a ≤ l.length) : a ≤ (notF l notI cmp a).2.2 ∧ (notF l notI cmp a).2.2 ≤ l.length := by
  unfold notF
  split
  · rename_i h
    have h1 := hit_lt h
    have h2 := hF (a + 1) (by omega)
    simp only; omega
  · exact hC a ha

/-- One depth: not, and or, of what stands in it. -/
def lev (l : List Tok) (I : (Nat → Ex × Bool × Nat) × (Nat → Ex × Bool × Nat)) : (Nat → Ex × Bool × Nat) × (Nat → Ex × Bool × Nat) :=
  (notF l I.1 (compF l (chainF (atomF l I.2) l [[43], [45]])), chainF (chainF (notF l I.1 (compF l (chainF (atomF l I.2) l [[43], [45]]))) l [[65, 78, 68]]) l [[79, 82]])
/-- So many depths. -/
def levN (l : List Tok) : Nat → (Nat → Ex × Bool × Nat) × (Nat → Ex × Bool × Nat)
  | 0 => lev l (fun a => (exZero, false, a), fun a => (exZero, false, a))
  | n + 1 => lev l (levN l n)

def InAll (p : Nat) (A : Option Addr) (c : Nat) (l : List Tok) (deep : Nat) (I : (Nat → Ex × Bool × Nat) × (Nat → Ex × Bool × Nat)) : Prop :=
  (∀ a, a ≤ l.length → (a ≤ (I.1 a).2.2 ∧ (I.1 a).2.2 ≤ l.length) ∧ InC 113 p A c l deep a (I.1 a)) ∧
  (∀ a, a ≤ l.length → (a ≤ (I.2 a).2.2 ∧ (I.2 a).2.2 ≤ l.length) ∧ InC 42 p A c l deep a (I.2 a))

theorem atom_part (p : Nat) (A : Option Addr) (c : Nat) (l : List Tok) (deep : Nat) (I : (Nat → Ex × Bool × Nat) × (Nat → Ex × Bool × Nat)) (hll : l.length ≤ 990) (hl : ∀ t ∈ l, t.s.length ≤ 1000000) (h : InAll p A c l deep I) :
    PartC 215 p A c l deep (atomF l I.2) := by
  refine ⟨atom_in l I.2 (fun a ha => (h.2 a ha).1), fun a w ha hP => ?_⟩
  unfold atomF
  by_cases hh : hit l a [40] = true
  · rw [if_pos hh]
    have h1 := hit_lt hh
    have h2 := h.2 (a + 1) (by omega)
    exact atom_paren p A c l deep a (I.2 (a + 1)).1 (I.2 (a + 1)).2.1 (I.2 (a + 1)).2.2 (by omega) (by omega) hh h2.2 w hP
  · rw [if_neg hh]
    exact atom_tok p A c l deep a (hit l a [45]) (by omega) (by simpa using hh) rfl hl w hP
theorem not_part (p : Nat) (A : Option Addr) (c : Nat) (l : List Tok) (deep : Nat) (I : (Nat → Ex × Bool × Nat) × (Nat → Ex × Bool × Nat)) (cmp : Nat → Ex × Bool × Nat) (hll : l.length ≤ 990) (h : InAll p A c l deep I)
    (hC : PartC 170 p A c l deep cmp) : PartC 113 p A c l deep (notF l I.1 cmp) := by
  refine ⟨not_in l I.1 cmp (fun a ha => (h.1 a ha).1) hC.1, fun a w ha hP => ?_⟩
  unfold notF
  by_cases hh : hit l a [78, 79, 84] = true
  · rw [if_pos hh]
    have h1 := hit_lt hh
    exact not_more p A c l deep a (I.1 (a + 1)).1 (I.1 (a + 1)).2.1 (I.1 (a + 1)).2.2 (by omega) hh (h.1 (a + 1) (by omega)).2 w hP
  · rw [if_neg hh]
    exact not_plain p A c l deep a (cmp a) (by omega) (by simpa using hh) (fun w' hP' => hC.2 a w' ha hP') w hP
theorem lev_part (p : Nat) (A : Option Addr) (c : Nat) (l : List Tok) (deep : Nat) (I : (Nat → Ex × Bool × Nat) × (Nat → Ex × Bool × Nat)) (hll : l.length ≤ 990) (hl : ∀ t ∈ l, t.s.length ≤ 1000000) (h : InAll p A c l deep I) :
    PartC 113 p A c l deep (lev l I).1 ∧ PartC 42 p A c l deep (lev l I).2 := by
  have h1 := atom_part p A c l deep I hll hl h
  have h2 := sum_part p A c l deep _ (by omega) h1
  have h3 := comp_part p A c l deep _ hll h2
  have h4 := not_part p A c l deep I _ hll h h3
  exact ⟨h4, or_part p A c l deep _ (by omega) (and_part p A c l deep _ (by omega) h4)⟩
theorem in_of_part {p : Nat} {A : Option Addr} {c : Nat} {l : List Tok} {deep : Nat} {I : (Nat → Ex × Bool × Nat) × (Nat → Ex × Bool × Nat)} (hd : deep < 65536)
    (h : PartC 113 p A c l (deep + 1) I.1 ∧ PartC 42 p A c l (deep + 1) I.2) : InAll p A c l deep I :=
  ⟨fun a ha => ⟨h.1.1 a ha, fun w hP => inner_any 113 p A c l deep a (I.1 a) hd (fun w' hP' => h.1.2 a w' ha hP') (go_enters (enters_of Tryz.func113 (by kernel_rfl) rfl)) w hP⟩,
   fun a ha => ⟨h.2.1 a ha, fun w hP => inner_any 42 p A c l deep a (I.2 a) hd (fun w' hP' => h.2.2 a w' ha hP') (go_enters (enters_of Tryz.func42 (by kernel_rfl) rfl)) w hP⟩⟩
theorem levN_part (p : Nat) (A : Option Addr) (c : Nat) (l : List Tok) (hll : l.length ≤ 990) (hl : ∀ t ∈ l, t.s.length ≤ 1000000) : ∀ (n deep : Nat), deep + n = 65536 →
    PartC 113 p A c l deep (levN l n).1 ∧ PartC 42 p A c l deep (levN l n).2
  | 0, deep, hd => by
    obtain rfl : deep = 65536 := by omega
    refine lev_part p A c l 65536 _ hll hl ⟨fun a ha => ⟨⟨Nat.le_refl _, ha⟩, inner_top _ p A c l a⟩, fun a ha => ⟨⟨Nat.le_refl _, ha⟩, inner_top _ p A c l a⟩⟩
  | n + 1, deep, hd => lev_part p A c l deep _ hll hl (in_of_part (by omega) (levN_part p A c l hll hl n (deep + 1) (by omega)))

end Go.Proofs.YtdnkkkgneikhkaaGreatDoor

namespace Go.Proofs.YtdnkkkgneikhkaaGreatDoor
open Go.RowKit

attribute [local go_sem] ByteArray.extract_mk ba_get ba_append
attribute [local go_sem ↓] Go.wp_at_zero Go.wp_at_succ run_eql_V run_neq_V

/-- The expression with which tokens begin, how many it takes, and the error's number. -/
def parseX (l : List Tok) : Ex × Nat × Int :=
  if ((levN l 65536).2 0).2.1 && mayX ((levN l 65536).2 0).1 then (((levN l 65536).2 0).1, ((levN l 65536).2 0).2.2, 0) else (exZero, 0, 2)
/-- What expr.Parse leaves. -/
def RetParse (R : Ex × Nat × Int) (w : World) (en : Ending) (w' : World) : Prop :=
  ∃ A' c', en = .returned (.tuple #[.agg (R.1.cells A' c').toArray, .int .i64 (R.2.1 : Nat), .int .i64 R.2.2]) ∧ ExR (fun b => w.heap.size ≤ b ∧ b < w'.heap.size) R.1 A' c' w' ∧ Below w.heap.size w w'

theorem RetParse.drew {R : Ex × Nat × Int} {w w' : World} {en : Ending} (h : RetParse R w en w') : RetParse R w en w'.drew := by
  obtain ⟨A', c', h1, h2, h3⟩ := h
  exact ⟨A', c', h1, h2.keep fun b hb => ⟨hb, fun o => rfl⟩, h3.drew⟩
theorem ExR.may {Q : Nat → Prop} {e : Ex} {A : Option Addr} {c : Nat} {w : World} (h : ExR Q e A c w) {B : Nat} (hQ : ∀ b, Q b → b < B) : ∃ n, ExS 1000 n w B A e.l := by
  obtain ⟨_, _, _, n, h4⟩ := h
  exact ⟨n, h4.toS hQ n⟩

set_option maxRecDepth 100000 in
set_option maxHeartbeats 4000000 in
theorem parseX_any (A : Option Addr) (c : Nat) (l : List Tok) (w : World) (hll : l.length ≤ 990) (hl : ∀ t ∈ l, t.s.length ≤ 1000000) (hT : TkS w w.heap.size A l) (hE : Errs w) :
    Calls Tryz.prog 24 #[.slice A l.length c] w (RetParse (parseX l) w) := by
  obtain ⟨w0, hw0⟩ : ∃ w0, (w.alloc (.cells (exZero.cells none 0).toArray 26)).alloc (.cells #[.slice A l.length c, .int .i64 0, .int .i64 0] 84) = w0 := ⟨_, rfl⟩
  have kR0 : Blk w0 w.heap.size 26 (exZero.cells none 0).toArray := by rw [← hw0]; exact (Blk.new _ _ _).alloc _
  have kp0 : Blk w0 (w.heap.size + 1) 84 #[.slice A l.length c, .int .i64 ((0 : Nat) : Int), .int .i64 ((0 : Nat) : Int)] := by rw [← hw0]; exact Blk.new' _ _ _ _ (by simp)
  have hb0 : Below w.heap.size w w0 := by rw [← hw0]; ((repeat' (first | with_reducible exact Below.refl _ _ | with_reducible assumption | with_reducible refine Below.drew ?_ | with_reducible refine below_drewN ?_ _ | with_reducible refine Below.setCell ?_ ?_ _ | with_reducible refine Below.alloc ?_ ?_ _ | with_reducible refine Below.trans ?_ (Below.mono (by assumption) ?_))) <;> (first | (simp; done) | (simp; omega) | omega))
  have hs0 : w0.heap.size = w.heap.size + 2 := by rw [← hw0]; simp
  have HW := Lib.hid hw0
  have HP0 : Hid (PSt (w.heap.size + 1) A c l 0 0 w0) := ⟨kp0, (hT.below hb0).more (by omega), w, hE, by omega, hb0⟩
  have HC := Lib.hid ((levN_part (w.heap.size + 1) A c l hll hl 65536 0 rfl).2.2 0 w0 (Nat.zero_le _) HP0.out)
  obtain ⟨R, hR⟩ : ∃ R, parseX l = R := ⟨_, rfl⟩
  rw [hR]
  unfold parseX at hR
  obtain ⟨Q, hQ⟩ : ∃ Q, (levN l 65536).2 0 = Q := ⟨_, rfl⟩
  rw [hQ] at hR
  obtain ⟨e1, ok1, a1⟩ := Q
  simp only at hR
  have HR := Lib.hid hR
  have HC2 : Hid (Calls Tryz.prog 42 #[.pointer (some ⟨w.heap.size + 1, 0, none⟩)] w0 (RetPE (e1, ok1, a1) (w.heap.size + 1) A c l 0 w0)) := by
    have := HC.out
    rw [hQ] at this
    exact this
  clear hw0 hT hE kp0 hR hQ HC
  go_enter Tryz.func24, Tryz.ntmps24
  go_upto_region 2 with fail
  rw [show (w.alloc (.cells #[.string ⟨#[]⟩, .int .i64 0, .int .i64 0, .string ⟨#[]⟩, .string ⟨#[]⟩, .slice none 0 0] 26)).alloc (.cells #[.slice A l.length c, .int .i64 0, .int .i64 0] 84) = w0 from HW.out]
  clear HW
  go_wp2_with fail
  refine (HC2.out).mono ?_
  rintro en w1 ⟨A1, c1, rfl, hE1, hP1, hb1⟩
  dsimp only [Ex.cells]
  have hz1 := hb1.size
  obtain ⟨w2, hw2⟩ : ∃ w2, w1.alloc (.cells (e1.cells A1 c1).toArray 26) = w2 := ⟨_, rfl⟩
  have kB2 : Blk w2 w1.heap.size 26 (e1.cells A1 c1).toArray := by rw [← hw2]; exact Blk.new _ _ _
  have hb2 : Below w1.heap.size w1 w2 := by rw [← hw2]; ((repeat' (first | with_reducible exact Below.refl _ _ | with_reducible assumption | with_reducible refine Below.drew ?_ | with_reducible refine below_drewN ?_ _ | with_reducible refine Below.setCell ?_ ?_ _ | with_reducible refine Below.alloc ?_ ?_ _ | with_reducible refine Below.trans ?_ (Below.mono (by assumption) ?_))) <;> (first | (simp; done) | (simp; omega) | omega))
  have hs2 : w2.heap.size = w1.heap.size + 1 := by rw [← hw2]; simp
  have HW2 := Lib.hid hw2
  have kR2 := (hb1.blk kR0 (by omega)).below hb2 (by omega)
  have lR2 := kR2.lt
  have lB2 := kB2.lt
  have HE2 : Hid (ExR (fun x => w.heap.size < x ∧ x < w1.heap.size) e1 A1 c1 w2) := hE1.keep fun x hx => ⟨⟨by omega, by omega⟩, fun o => hb2.cell (p := ⟨x, o, none⟩) hx.2⟩
  have hP2 := hP1.but hb2
  have HB1 : Hid (∀ n, ExS 1000 n w2 w1.heap.size A1 e1.l → Calls Tryz.prog 12 #[.agg (e1.cells A1 c1).toArray] w2 (Ret (.bool (mayX e1)) w2)) := fun n h => by
    rw [← may_X n e1 (ExS.hgt n h)]
    exact mayX_any n e1 A1 c1 w2 HE2.out.1 (h.more (by omega) n)
  have hbw2 : Below w.heap.size w w2 := (hb1.inside hb0 (by omega)).trans (hb2.mono (by omega))
  have HP2 := Lib.hid hP2
  clear hw2 hE1 hP1 hP2 hb1 hb2 HP0 HC2 kR0
  go_upto_region 3 with fail
  rw [show w1.alloc (.cells #[.string ⟨e1.op.toArray⟩, .int .i64 e1.v.k, .int .i64 e1.v.i, .string ⟨e1.v.s.toArray⟩, .string ⟨e1.s.toArray⟩, .slice A1 e1.l.length c1] 26) = w2 from HW2.out]
  clear HW2
  obtain ⟨G, hG⟩ : ∃ G, w1.heap.size = G := ⟨_, rfl⟩
  rw [hG] at kB2 lB2 HE2 hs2 HB1 hz1 ⊢
  have hGw : w.heap.size < G := by omega
  clear hG hz1 hs0
  obtain ⟨z0, z1, z2, z3, z4, z5⟩ := kR2.sixF
  obtain ⟨r0, r1, r2, r3, r4, r5⟩ := kR2.six
  obtain ⟨q0, q1, q2, q3, q4, q5⟩ := kB2.six
  cases ok1
  · have HF : Hid (R = (exZero, 0, 2)) := HR.out.symm
    clear HR
    go_wp2_with fail
    refine bodyPost_ret (v := .tuple #[.agg (exZero.cells none 0).toArray, .int .i64 0, .int .i64 2]) (by simp [results, Tryz.results24, go_sem, *, Ex.cells, exZero, Ex.op, Ex.v, Ex.s, Ex.l, V.zero]) rfl ?_
    rw [HF.out]
    exact ⟨none, 0, rfl, ⟨exZero_fit, Nat.le_refl _, Nat.zero_le _, 0, ExQ.nil 0⟩, by ((repeat' (first | with_reducible exact Below.refl _ _ | with_reducible assumption | with_reducible refine Below.drew ?_ | with_reducible refine below_drewN ?_ _ | with_reducible refine Below.setCell ?_ ?_ _ | with_reducible refine Below.alloc ?_ ?_ _ | with_reducible refine Below.trans ?_ (Below.mono (by assumption) ?_))) <;> (first | (simp; done) | (simp; omega) | omega))⟩
  · obtain ⟨n, hn⟩ := HE2.out.may (B := G) (fun b hb => hb.2)
    have HM := Lib.hid (HB1.out n hn)
    clear HB1 hn
    obtain ⟨M, hM⟩ : ∃ M, mayX e1 = M := ⟨_, rfl⟩
    have hR := HR.out
    rw [hM] at hR HM
    clear HR hM
    go_wp2_with fail
    refine (HM.out).mono ?_
    rintro en w3 ⟨rfl, hb3⟩
    have hz3 := hb3.size
    have kR3 := kR2.below hb3 lR2
    have kB3 := kB2.below hb3 lB2
    have lR3 := kR3.lt
    have lB3 := kB3.lt
    have hbw3 : Below w.heap.size w w3 := hbw2.trans (hb3.mono (by omega))
    clear z0 z1 z2 z3 z4 z5 r0 r1 r2 r3 r4 r5 q0 q1 q2 q3 q4 q5
    obtain ⟨z0, z1, z2, z3, z4, z5⟩ := kR3.sixF
    obtain ⟨r0, r1, r2, r3, r4, r5⟩ := kR3.six
    obtain ⟨q0, q1, q2, q3, q4, q5⟩ := kB3.six
    cases M
    · have HF : Hid (R = (exZero, 0, 2)) := hR.symm
      clear hR
      go_wp2_with fail
      refine bodyPost_ret (v := .tuple #[.agg (exZero.cells none 0).toArray, .int .i64 0, .int .i64 2]) (by simp [results, Tryz.results24, go_sem, *, Ex.cells, exZero, Ex.op, Ex.v, Ex.s, Ex.l, V.zero]) rfl ?_
      rw [HF.out]
      exact ⟨none, 0, rfl, ⟨exZero_fit, Nat.le_refl _, Nat.zero_le _, 0, ExQ.nil 0⟩, by ((repeat' (first | with_reducible exact Below.refl _ _ | with_reducible assumption | with_reducible refine Below.drew ?_ | with_reducible refine below_drewN ?_ _ | with_reducible refine Below.setCell ?_ ?_ _ | with_reducible refine Below.alloc ?_ ?_ _ | with_reducible refine Below.trans ?_ (Below.mono (by assumption) ?_))) <;> (first | (simp; done) | (simp; omega) | omega))⟩
    · have HF : Hid (R = (e1, a1, 0)) := hR.symm
      clear hR
      have hP3 := HP2.out.1.below hb3 HP2.out.1.lt
      have p1 : w3.cell? ⟨w.heap.size + 1, 1, none⟩ = some (.int .i64 (a1 : Nat)) := hP3.cell 1
      have lP3 := hP3.lt
      go_upto_region 5 with fail
      refine wp_region_held_drew (S := (fun w' => (w'.cell? ⟨G, 0, none⟩ = some (.string ⟨e1.op.toArray⟩) ∧ w'.cell? ⟨G, 1, none⟩ = some (.int .i64 e1.v.k) ∧ w'.cell? ⟨G, 2, none⟩ = some (.int .i64 e1.v.i) ∧ w'.cell? ⟨G, 3, none⟩ = some (.string ⟨e1.v.s.toArray⟩) ∧ w'.cell? ⟨G, 4, none⟩ = some (.string ⟨e1.s.toArray⟩) ∧ w'.cell? ⟨G, 5, none⟩ = some (.slice A1 e1.l.length c1)) ∧ w'.cell? ⟨w.heap.size + 1, 1, none⟩ = some (.int .i64 (a1 : Nat)))) (by kernel_rfl) ?_ (fun hHeld => ?_)
      · try dsimp only
        exact ⟨Blk.six (t := 26) (by ((repeat' (first | with_reducible assumption | with_reducible refine Blk.drew ?_ | with_reducible refine Blk.drewN ?_ _ | with_reducible refine Blk.set3 ?_ _ _ _ | with_reducible refine Blk.far ?_ ?_ _ | ((with_reducible refine Blk.new' _ _ _ _ ?_) <;> (first | (simp; done) | (simp; omega) | omega) <;> done) | with_reducible refine Blk.alloc ?_ _ | with_reducible refine Blk3.drew ?_ | with_reducible refine Blk3.drewN ?_ _ | ((with_reducible refine Blk3.new' _ _ _ _ _ _ ?_) <;> (first | (simp; done) | (simp; omega) | omega) <;> done) | with_reducible refine Blk3.alloc ?_ _ | with_reducible refine Blk3.far ?_ ?_ _ | with_reducible refine Blk3.below ?_ (by assumption) ?_ | with_reducible refine Blk.below ?_ (by assumption) ?_)) <;> (first | (simp; done) | (simp; omega) | omega))), Blk.cell (t := 84) (cs := #[.slice A l.length c, .int .i64 (a1 : Nat), .int .i64 ((0 : Nat) : Int)]) (by ((repeat' (first | with_reducible assumption | with_reducible refine Blk.drew ?_ | with_reducible refine Blk.drewN ?_ _ | with_reducible refine Blk.set3 ?_ _ _ _ | with_reducible refine Blk.far ?_ ?_ _ | ((with_reducible refine Blk.new' _ _ _ _ ?_) <;> (first | (simp; done) | (simp; omega) | omega) <;> done) | with_reducible refine Blk.alloc ?_ _ | with_reducible refine Blk3.drew ?_ | with_reducible refine Blk3.drewN ?_ _ | ((with_reducible refine Blk3.new' _ _ _ _ _ _ ?_) <;> (first | (simp; done) | (simp; omega) | omega) <;> done) | with_reducible refine Blk3.alloc ?_ _ | with_reducible refine Blk3.far ?_ ?_ _ | with_reducible refine Blk3.below ?_ (by assumption) ?_ | with_reducible refine Blk.below ?_ (by assumption) ?_)) <;> (first | (simp; done) | (simp; omega) | omega))) 1⟩
      refine wpAnyH_take (i := 0) (v := ?_) rfl (by kernel_rfl) (by kernel_rfl) (by kernel_rfl) (fun _ _ _ h => h) (Or.inl ⟨by rfl, ?_⟩) (by assumption) ?_
      rotate_left
      · intro wq hSw
        try dsimp only at hSw
        go_simp
        try with_reducible rfl
      try simp only [Act.put, List.getElem_toArray, List.getElem_cons_zero, List.setIfInBounds_toArray, List.set_cons_zero, List.set_cons_succ]
      refine wpAnyH_take (i := 1) (v := ?_) rfl (by kernel_rfl) (by kernel_rfl) (by kernel_rfl) (fun _ _ _ h => h) (Or.inl ⟨by rfl, ?_⟩) (by assumption) ?_
      rotate_left
      · intro wq hSw
        try dsimp only at hSw
        go_simp
        try with_reducible rfl
      try simp only [Act.put, List.getElem_toArray, List.getElem_cons_zero, List.getElem_cons_succ, List.setIfInBounds_toArray, List.set_cons_zero, List.set_cons_succ]
      refine wpAnyH_take (i := 2) (v := ?_) rfl (by kernel_rfl) (by kernel_rfl) (by kernel_rfl) (fun _ _ _ h => h) (Or.inl ⟨by rfl, ?_⟩) (by assumption) ?_
      rotate_left
      · intro wq hSw
        try dsimp only at hSw
        go_simp
        try with_reducible rfl
      try simp only [Act.put, List.getElem_toArray, List.getElem_cons_zero, List.getElem_cons_succ, List.setIfInBounds_toArray, List.set_cons_zero, List.set_cons_succ]
      refine wpAnyH_take (i := 3) (v := ?_) rfl (by kernel_rfl) (by kernel_rfl) (by kernel_rfl) (fun _ _ _ h => h) (Or.inl ⟨by rfl, ?_⟩) (by assumption) ?_
      rotate_left
      · intro wq hSw
        try dsimp only at hSw
        go_simp
        try with_reducible rfl
      try simp only [Act.put, List.getElem_toArray, List.getElem_cons_zero, List.getElem_cons_succ, List.setIfInBounds_toArray, List.set_cons_zero, List.set_cons_succ]
      refine wpAnyH_take (i := 4) (v := ?_) rfl (by kernel_rfl) (by kernel_rfl) (by kernel_rfl) (fun _ _ _ h => h) (Or.inl ⟨by rfl, ?_⟩) (by assumption) ?_
      rotate_left
      · intro wq hSw
        try dsimp only at hSw
        go_simp
        try with_reducible rfl
      try simp only [Act.put, List.getElem_toArray, List.getElem_cons_zero, List.getElem_cons_succ, List.setIfInBounds_toArray, List.set_cons_zero, List.set_cons_succ]
      refine wpAnyH_ready (rs := [5]) (by kernel_rfl) (by simp) ?_
      refine AllReadyH.cons rfl (fun K hK => ?_) AllReadyH.nil
      go_simp
      skip
      go_wp2_with fail
      refine hK.out _ _ ?_ (fun hHeld => ?_)
      · try dsimp only
        exact ⟨Blk.six (t := 26) (by ((repeat' (first | with_reducible assumption | with_reducible refine Blk.drew ?_ | with_reducible refine Blk.drewN ?_ _ | with_reducible refine Blk.set3 ?_ _ _ _ | with_reducible refine Blk.far ?_ ?_ _ | ((with_reducible refine Blk.new' _ _ _ _ ?_) <;> (first | (simp; done) | (simp; omega) | omega) <;> done) | with_reducible refine Blk.alloc ?_ _ | with_reducible refine Blk3.drew ?_ | with_reducible refine Blk3.drewN ?_ _ | ((with_reducible refine Blk3.new' _ _ _ _ _ _ ?_) <;> (first | (simp; done) | (simp; omega) | omega) <;> done) | with_reducible refine Blk3.alloc ?_ _ | with_reducible refine Blk3.far ?_ ?_ _ | with_reducible refine Blk3.below ?_ (by assumption) ?_ | with_reducible refine Blk.below ?_ (by assumption) ?_)) <;> (first | (simp; done) | (simp; omega) | omega))), Blk.cell (t := 84) (cs := #[.slice A l.length c, .int .i64 (a1 : Nat), .int .i64 ((0 : Nat) : Int)]) (by ((repeat' (first | with_reducible assumption | with_reducible refine Blk.drew ?_ | with_reducible refine Blk.drewN ?_ _ | with_reducible refine Blk.set3 ?_ _ _ _ | with_reducible refine Blk.far ?_ ?_ _ | ((with_reducible refine Blk.new' _ _ _ _ ?_) <;> (first | (simp; done) | (simp; omega) | omega) <;> done) | with_reducible refine Blk.alloc ?_ _ | with_reducible refine Blk3.drew ?_ | with_reducible refine Blk3.drewN ?_ _ | ((with_reducible refine Blk3.new' _ _ _ _ _ _ ?_) <;> (first | (simp; done) | (simp; omega) | omega) <;> done) | with_reducible refine Blk3.alloc ?_ _ | with_reducible refine Blk3.far ?_ ?_ _ | with_reducible refine Blk3.below ?_ (by assumption) ?_ | with_reducible refine Blk.below ?_ (by assumption) ?_)) <;> (first | (simp; done) | (simp; omega) | omega))) 1⟩
      clear hK K
      try simp only [Act.put, List.getElem_toArray, List.getElem_cons_zero, List.getElem_cons_succ, List.setIfInBounds_toArray, List.set_cons_zero, List.set_cons_succ]
      refine wpAnyH_take (i := 6) (v := ?_) rfl (by kernel_rfl) (by kernel_rfl) (by kernel_rfl) (fun _ _ _ h => h) (Or.inl ⟨by rfl, ?_⟩) (by assumption) ?_
      rotate_left
      · intro wq hSw
        try dsimp only at hSw
        go_simp
        try with_reducible rfl
      try simp only [Act.put, List.getElem_toArray, List.getElem_cons_zero, List.getElem_cons_succ, List.setIfInBounds_toArray, List.set_cons_zero, List.set_cons_succ]
      refine wpAnyH_take (i := 7) (v := ?_) rfl (by kernel_rfl) (by kernel_rfl) (by kernel_rfl) (fun _ _ _ h => h) (Or.inl ⟨by rfl, ?_⟩) (by assumption) ?_
      rotate_left
      · intro wq hSw
        try dsimp only at hSw
        go_simp
        try with_reducible rfl
      try simp only [Act.put, List.getElem_toArray, List.getElem_cons_zero, List.getElem_cons_succ, List.setIfInBounds_toArray, List.set_cons_zero, List.set_cons_succ]
      refine wpAnyH_done (by kernel_rfl) ?_ _
      go_wp2_with fail
      refine bodyPost_ret (v := .tuple #[.agg (e1.cells A1 c1).toArray, .int .i64 (a1 : Nat), .int .i64 0]) (by simp [results, Tryz.results24, go_sem, *, Ex.cells]) rfl ?_
      rw [HF.out]
      have hB6 := But.sixSet w3 w.heap.size (.string ⟨e1.op.toArray⟩) (.int .i64 e1.v.k) (.int .i64 e1.v.i) (.string ⟨e1.v.s.toArray⟩) (.string ⟨e1.s.toArray⟩) (.slice A1 e1.l.length c1)
      refine RetParse.drew ?_
      exact ⟨A1, c1, rfl, HE2.out.keep fun x hx => ⟨⟨by omega, by have := hB6.size; omega⟩, fun o => (hB6.cell (by omega) (by omega) o).trans (hb3.cell (p := ⟨x, o, none⟩) (show x < _ by omega))⟩, by ((repeat' (first | with_reducible exact Below.refl _ _ | with_reducible assumption | with_reducible refine Below.drew ?_ | with_reducible refine below_drewN ?_ _ | with_reducible refine Below.setCell ?_ ?_ _ | with_reducible refine Below.alloc ?_ ?_ _ | with_reducible refine Below.trans ?_ (Below.mono (by assumption) ?_))) <;> (first | (simp; done) | (simp; omega) | omega))⟩

end Go.Proofs.YtdnkkkgneikhkaaGreatDoor
