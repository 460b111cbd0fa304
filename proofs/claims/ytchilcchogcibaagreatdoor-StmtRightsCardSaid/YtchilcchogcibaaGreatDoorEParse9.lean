/- The parser knot; expr.Parse as a plain function. -/
import Derived.Test.YtchilcchogcibaaGreatDoorEParse5
import Derived.Test.YtchilcchogcibaaGreatDoorEParse7
set_option maxRecDepth 100000
set_option maxHeartbeats 4000000
namespace Go.Proofs.YtchilcchogcibaaGreatDoor
open Go.RowKit
theorem atom_in (l : List Tok) (orI : Nat → Ex × Bool × Nat) (hF : ∀ a, a ≤ l.length → a ≤ (orI a).2.2 ∧ (orI a).2.2 ≤ l.length) (a : Nat) (ha : a ≤ l.length) : a ≤ (atomF l orI a).2.2 ∧ (atomF l orI a).2.2 ≤ l.length := by
 unfold atomF
 split
 ·rename_i h
  have h1 := hit_lt h
  have h2 := hF (a + 1) (by omega)
  simp only
  split
  ·rename_i h3
   simp only [Bool.and_eq_true] at h3
   have := hit_lt h3.2
   omega
  ·omega
 ·have key : ∀ (sg : Bool) (b : Nat), b ≤ l.length → b ≤ (atomS l sg b).2.2 ∧ (atomS l sg b).2.2 ≤ l.length := by
   intro sg b hb
   unfold atomS
   split
   ·exact ⟨Nat.le_refl _, hb⟩
   ·rename_i t ht
    have h1 := (List.getElem?_eq_some_iff.1 ht).1
    split
    ·simp only; omega
    ·exact ⟨Nat.le_refl _, hb⟩
  split
  ·rename_i h
   have h1 := hit_lt h
   have := key (hit l a [45]) (a + 1) (by omega)
   omega
  ·exact key _ a ha
def notF (l : List Tok) (notI cmp : Nat → Ex × Bool × Nat) (a : Nat) : Ex × Bool × Nat :=
 if hit l a [78, 79, 84] then (.mk opNot V.zero [] [(notI (a + 1)).1], (notI (a + 1)).2.1, (notI (a + 1)).2.2) else cmp a
theorem not_in (l : List Tok) (notI cmp : Nat → Ex × Bool × Nat) (hF : ∀ a, a ≤ l.length → a ≤ (notI a).2.2 ∧ (notI a).2.2 ≤ l.length) (hC : ∀ a, a ≤ l.length → a ≤ (cmp a).2.2 ∧ (cmp a).2.2 ≤ l.length) (a : Nat) (ha : a ≤ l.length) : a ≤ (notF l notI cmp a).2.2 ∧ (notF l notI cmp a).2.2 ≤ l.length := by
 unfold notF
 split
 ·rename_i h
  have h1 := hit_lt h
  have h2 := hF (a + 1) (by omega)
  simp only; omega
 ·exact hC a ha
def lev (l : List Tok) (I : (Nat → Ex × Bool × Nat) × (Nat → Ex × Bool × Nat)) : (Nat → Ex × Bool × Nat) × (Nat → Ex × Bool × Nat) :=
 (notF l I.1 (compF l (chainF (atomF l I.2) l [[43], [45]])), chainF (chainF (notF l I.1 (compF l (chainF (atomF l I.2) l [[43], [45]]))) l [[65, 78, 68]]) l [[79, 82]])
def levN (l : List Tok) : Nat → (Nat → Ex × Bool × Nat) × (Nat → Ex × Bool × Nat)
 | 0 => lev l (fun a => (exZero, false, a), fun a => (exZero, false, a))
 | n + 1 => lev l (levN l n)
def InAll (p : Nat) (A : Option Addr) (c : Nat) (l : List Tok) (deep : Nat) (I : (Nat → Ex × Bool × Nat) × (Nat → Ex × Bool × Nat)) : Prop :=
 (∀ a, a ≤ l.length → (a ≤ (I.1 a).2.2 ∧ (I.1 a).2.2 ≤ l.length) ∧ InC 257 p A c l deep a (I.1 a)) ∧
 (∀ a, a ≤ l.length → (a ≤ (I.2 a).2.2 ∧ (I.2 a).2.2 ≤ l.length) ∧ InC 230 p A c l deep a (I.2 a))
theorem atom_part (p : Nat) (A : Option Addr) (c : Nat) (l : List Tok) (deep : Nat) (I : (Nat → Ex × Bool × Nat) × (Nat → Ex × Bool × Nat)) (hll : l.length ≤ 990) (hl : ∀ t ∈ l, t.s.length ≤ 1000000) (h : InAll p A c l deep I) :
  PartC 263 p A c l deep (atomF l I.2) := by
 refine ⟨atom_in l I.2 (fun a ha => (h.2 a ha).1), fun a w ha hP => ?_⟩
 unfold atomF
 by_cases hh : hit l a [40] = true
 ·rw [if_pos hh]
  have h1 := hit_lt hh
  have h2 := h.2 (a + 1) (by omega)
  exact atom_paren p A c l deep a (I.2 (a + 1)).1 (I.2 (a + 1)).2.1 (I.2 (a + 1)).2.2 (by omega) (by omega) hh h2.2 w hP
 ·rw [if_neg hh]
  exact atom_tok p A c l deep a (hit l a [45]) (by omega) (by simpa using hh) rfl hl w hP
theorem not_part (p : Nat) (A : Option Addr) (c : Nat) (l : List Tok) (deep : Nat) (I : (Nat → Ex × Bool × Nat) × (Nat → Ex × Bool × Nat)) (cmp : Nat → Ex × Bool × Nat) (hll : l.length ≤ 990) (h : InAll p A c l deep I)
  (hC : PartC 260 p A c l deep cmp) : PartC 257 p A c l deep (notF l I.1 cmp) := by
 refine ⟨not_in l I.1 cmp (fun a ha => (h.1 a ha).1) hC.1, fun a w ha hP => ?_⟩
 unfold notF
 by_cases hh : hit l a [78, 79, 84] = true
 ·rw [if_pos hh]
  have h1 := hit_lt hh
  exact not_more p A c l deep a (I.1 (a + 1)).1 (I.1 (a + 1)).2.1 (I.1 (a + 1)).2.2 (by omega) hh (h.1 (a + 1) (by omega)).2 w hP
 ·rw [if_neg hh]
  exact not_plain p A c l deep a (cmp a) (by omega) (by simpa using hh) (fun w' hP' => hC.2 a w' ha hP') w hP
theorem lev_part (p : Nat) (A : Option Addr) (c : Nat) (l : List Tok) (deep : Nat) (I : (Nat → Ex × Bool × Nat) × (Nat → Ex × Bool × Nat)) (hll : l.length ≤ 990) (hl : ∀ t ∈ l, t.s.length ≤ 1000000) (h : InAll p A c l deep I) :
  PartC 257 p A c l deep (lev l I).1 ∧ PartC 230 p A c l deep (lev l I).2 := by
 have h1 := atom_part p A c l deep I hll hl h
 have h2 := sum_part p A c l deep _ (by omega) h1
 have h3 := comp_part p A c l deep _ hll h2
 have h4 := not_part p A c l deep I _ hll h h3
 exact ⟨h4, or_part p A c l deep _ (by omega) (and_part p A c l deep _ (by omega) h4)⟩
theorem in_of_part {p : Nat} {A : Option Addr} {c : Nat} {l : List Tok} {deep : Nat} {I : (Nat → Ex × Bool × Nat) × (Nat → Ex × Bool × Nat)} (hd : deep < 65536)
  (h : PartC 257 p A c l (deep + 1) I.1 ∧ PartC 230 p A c l (deep + 1) I.2) : InAll p A c l deep I :=
 ⟨fun a ha => ⟨h.1.1 a ha, fun w hP => inner_any 257 p A c l deep a (I.1 a) hd (fun w' hP' => h.1.2 a w' ha hP') (go_enters (enters_of Tryz.func257 (by kernel_rfl) rfl)) w hP⟩,
  fun a ha => ⟨h.2.1 a ha, fun w hP => inner_any 230 p A c l deep a (I.2 a) hd (fun w' hP' => h.2.2 a w' ha hP') (go_enters (enters_of Tryz.func230 (by kernel_rfl) rfl)) w hP⟩⟩
theorem levN_part (p : Nat) (A : Option Addr) (c : Nat) (l : List Tok) (hll : l.length ≤ 990) (hl : ∀ t ∈ l, t.s.length ≤ 1000000) : ∀ (n deep : Nat), deep + n = 65536 →
  PartC 257 p A c l deep (levN l n).1 ∧ PartC 230 p A c l deep (levN l n).2
 | 0, deep, hd => by
  obtain rfl : deep = 65536 := by omega
  refine lev_part p A c l 65536 _ hll hl ⟨fun a ha => ⟨⟨Nat.le_refl _, ha⟩, inner_top _ p A c l a⟩, fun a ha => ⟨⟨Nat.le_refl _, ha⟩, inner_top _ p A c l a⟩⟩
 | n + 1, deep, hd => lev_part p A c l deep _ hll hl (in_of_part (by omega) (levN_part p A c l hll hl n (deep + 1) (by omega)))
end Go.Proofs.YtchilcchogcibaaGreatDoor
namespace Go.Proofs.YtchilcchogcibaaGreatDoor
open Go.RowKit
attribute [local go_sem] ByteArray.extract_mk ba_get ba_append
attribute [local go_sem ↓] Go.wp_at_zero Go.wp_at_succ run_eql_V run_neq_V
def parseX (l : List Tok) : Ex × Nat × Int :=
 if ((levN l 65536).2 0).2.1 && mayX ((levN l 65536).2 0).1 then (((levN l 65536).2 0).1, ((levN l 65536).2 0).2.2, 0) else (exZero, 0, 2)
def RetParse (R : Ex × Nat × Int) (w : World) (en : Ending) (w' : World) : Prop :=
 ∃ A' c', en = .returned (.tuple #[.agg (R.1.cells A' c').toArray, .int .i64 (R.2.1 : Nat), .int .i64 R.2.2]) ∧ ExR (fun b => w.heap.size ≤ b ∧ b < w'.heap.size) R.1 A' c' w' ∧ Below w.heap.size w w'
theorem RetParse.drew {R : Ex × Nat × Int} {w w' : World} {en : Ending} (h : RetParse R w en w') : RetParse R w en w'.drew := by
 obtain ⟨A', c', h1, h2, h3⟩ := h
 exact ⟨A', c', h1, h2.keep fun b hb => ⟨hb, fun o => rfl⟩, h3.drew⟩
theorem ExR.may {Q : Nat → Prop} {e : Ex} {A : Option Addr} {c : Nat} {w : World} (h : ExR Q e A c w) {B : Nat} (hQ : ∀ b, Q b → b < B) : ∃ n, ExS 1000 n w B A e.l := by
 obtain ⟨_, _, _, n, h4⟩ := h
 exact ⟨n, h4.toS hQ n⟩
theorem parseX_any (A : Option Addr) (c : Nat) (l : List Tok) (w : World) (hll : l.length ≤ 990) (hl : ∀ t ∈ l, t.s.length ≤ 1000000) (hT : TkS w w.heap.size A l) (hE : Errs w) :
  Calls Tryz.prog 213 #[.slice A l.length c] w (RetParse (parseX l) w) := by
 obtain ⟨w0, hw0⟩ : ∃ w0, (w.alloc (.cells (exZero.cells none 0).toArray 30)).alloc (.cells #[.slice A l.length c, .int .i64 0, .int .i64 0] 235) = w0 := ⟨_, rfl⟩
 have kR0 : Blk w0 w.heap.size 30 (exZero.cells none 0).toArray := by rw [← hw0]; exact (Blk.new _ _ _).alloc _
 have kp0 : Blk w0 (w.heap.size + 1) 235 #[.slice A l.length c, .int .i64 ((0 : Nat) : Int), .int .i64 ((0 : Nat) : Int)] := by rw [← hw0]; exact Blk.new' _ _ _ _ (by simp)
 have hb0 : Below w.heap.size w w0 := by rw [← hw0]; exact bl
 have hs0 : w0.heap.size = w.heap.size + 2 := by rw [← hw0]; simp
 have HW := Lib.hid hw0
 have HP0 : Hid (PSt (w.heap.size + 1) A c l 0 0 w0) := ⟨kp0, (hT.below hb0).more (by omega), w, hE, by omega, hb0⟩
 have HC := Lib.hid ((levN_part (w.heap.size + 1) A c l hll hl 65536 0 rfl).2.2 0 w0 (Nat.zero_le _) HP0.out)
 obtain ⟨R, hR⟩ : ∃ R, parseX l = R := ⟨_, rfl⟩
 rw [hR]
 unfold parseX at hR
 obtain ⟨Q, hQ⟩ : ∃ Q, (levN l 65536).2 0 = Q := ⟨_, rfl⟩
 rw [hQ] at hR
 obtain ⟨e1, ok1, a1⟩ := Q
 simp only at hR
 have HR := Lib.hid hR
 have HC2 : Hid (Calls Tryz.prog 230 #[.pointer (some ⟨w.heap.size + 1, 0, none⟩)] w0 (RetPE (e1, ok1, a1) (w.heap.size + 1) A c l 0 w0)) := by
  have := HC.out
  rw [hQ] at this
  exact this
 clear hw0 hT hE kp0 hR hQ HC
 go_in
 go_upto_region 2 with fail
 rw [show (w.alloc (.cells #[.string ⟨#[]⟩, .int .i64 0, .int .i64 0, .string ⟨#[]⟩, .string ⟨#[]⟩, .slice none 0 0] 30)).alloc (.cells #[.slice A l.length c, .int .i64 0, .int .i64 0] 235) = w0 from HW.out]
 clear HW
 go_wp2_with fail
 refine (HC2.out).mono ?_
 rintro en w1 ⟨A1, c1, rfl, hE1, hP1, hb1⟩
 dsimp only [Ex.cells]
 have hz1 := hb1.size
 obtain ⟨w2, hw2⟩ : ∃ w2, w1.alloc (.cells (e1.cells A1 c1).toArray 30) = w2 := ⟨_, rfl⟩
 have kB2 : Blk w2 w1.heap.size 30 (e1.cells A1 c1).toArray := by rw [← hw2]; exact Blk.new _ _ _
 have hb2 : Below w1.heap.size w1 w2 := by rw [← hw2]; exact bl
 have hs2 : w2.heap.size = w1.heap.size + 1 := by rw [← hw2]; simp
 have HW2 := Lib.hid hw2
 have kR2 := (hb1.blk kR0 (by omega)).below hb2 (by omega)
 have lR2 := kR2.lt
 have lB2 := kB2.lt
 have HE2 : Hid (ExR (fun x => w.heap.size < x ∧ x < w1.heap.size) e1 A1 c1 w2) := hE1.keep fun x hx => ⟨⟨by omega, by omega⟩, fun o => hb2.cell (p := ⟨x, o, none⟩) hx.2⟩
 have hP2 := hP1.but hb2
 have HB1 : Hid (∀ n, ExS 1000 n w2 w1.heap.size A1 e1.l → Calls Tryz.prog 79 #[.agg (e1.cells A1 c1).toArray] w2 (Ret (.bool (mayX e1)) w2)) := fun n h => by
  rw [← may_X n e1 (ExS.hgt n h)]
  exact mayX_any n e1 A1 c1 w2 HE2.out.1 (h.more (by omega) n)
 have hbw2 : Below w.heap.size w w2 := (hb1.inside hb0 (by omega)).trans (hb2.mono (by omega))
 have HP2 := Lib.hid hP2
 clear hw2 hE1 hP1 hP2 hb1 hb2 HP0 HC2 kR0
 go_upto_region 3 with fail
 rw [show w1.alloc (.cells #[.string ⟨e1.op.toArray⟩, .int .i64 e1.v.k, .int .i64 e1.v.i, .string ⟨e1.v.s.toArray⟩, .string ⟨e1.s.toArray⟩, .slice A1 e1.l.length c1] 30) = w2 from HW2.out]
 clear HW2
 obtain ⟨G, hG⟩ : ∃ G, w1.heap.size = G := ⟨_, rfl⟩
 rw [hG] at kB2 lB2 HE2 hs2 HB1 hz1 ⊢
 have hGw : w.heap.size < G := by omega
 clear hG hz1 hs0
 obtain ⟨z0, z1, z2, z3, z4, z5⟩ := kR2.sixF
 obtain ⟨r0, r1, r2, r3, r4, r5⟩ := kR2.six
 obtain ⟨q0, q1, q2, q3, q4, q5⟩ := kB2.six
 cases ok1
 ·have HF : Hid (R = (exZero, 0, 2)) := HR.out.symm
  clear HR
  go_wp2_with fail
  refine bodyPost_ret (v := .tuple #[.agg (exZero.cells none 0).toArray, .int .i64 0, .int .i64 2]) (by simp [results, Tryz.results213, go_sem, *, Ex.cells, exZero, Ex.op, Ex.v, Ex.s, Ex.l, V.zero]) rfl ?_
  rw [HF.out]
  exact ⟨none, 0, rfl, ⟨exZero_fit, Nat.le_refl _, Nat.zero_le _, 0, ExQ.nil 0⟩, by exact bl⟩
 ·obtain ⟨n, hn⟩ := HE2.out.may (B := G) (fun b hb => hb.2)
  have HM := Lib.hid (HB1.out n hn)
  clear HB1 hn
  obtain ⟨M, hM⟩ : ∃ M, mayX e1 = M := ⟨_, rfl⟩
  have hR := HR.out
  rw [hM] at hR HM
  clear HR hM
  go_wp2_with fail
  refine (HM.out).mono ?_
  rintro en w3 ⟨rfl, hb3⟩
  have hz3 := hb3.size
  have kR3 := kR2.below hb3 lR2
  have kB3 := kB2.below hb3 lB2
  have lR3 := kR3.lt
  have lB3 := kB3.lt
  have hbw3 : Below w.heap.size w w3 := hbw2.trans (hb3.mono (by omega))
  clear z0 z1 z2 z3 z4 z5 r0 r1 r2 r3 r4 r5 q0 q1 q2 q3 q4 q5
  obtain ⟨z0, z1, z2, z3, z4, z5⟩ := kR3.sixF
  obtain ⟨r0, r1, r2, r3, r4, r5⟩ := kR3.six
  obtain ⟨q0, q1, q2, q3, q4, q5⟩ := kB3.six
  cases M
  ·have HF : Hid (R = (exZero, 0, 2)) := hR.symm
   clear hR
   go_wp2_with fail
   refine bodyPost_ret (v := .tuple #[.agg (exZero.cells none 0).toArray, .int .i64 0, .int .i64 2]) (by simp [results, Tryz.results213, go_sem, *, Ex.cells, exZero, Ex.op, Ex.v, Ex.s, Ex.l, V.zero]) rfl ?_
   rw [HF.out]
   exact ⟨none, 0, rfl, ⟨exZero_fit, Nat.le_refl _, Nat.zero_le _, 0, ExQ.nil 0⟩, by exact bl⟩
  ·have HF : Hid (R = (e1, a1, 0)) := hR.symm
   clear hR
   have hP3 := HP2.out.1.below hb3 HP2.out.1.lt
   have p1 : w3.cell? ⟨w.heap.size + 1, 1, none⟩ = some (.int .i64 (a1 : Nat)) := hP3.cell 1
   have lP3 := hP3.lt
   go_upto_region 5 with fail
   refine wp_region_held_drew (S := (fun w' => (w'.cell? ⟨G, 0, none⟩ = some (.string ⟨e1.op.toArray⟩) ∧ w'.cell? ⟨G, 1, none⟩ = some (.int .i64 e1.v.k) ∧ w'.cell? ⟨G, 2, none⟩ = some (.int .i64 e1.v.i) ∧ w'.cell? ⟨G, 3, none⟩ = some (.string ⟨e1.v.s.toArray⟩) ∧ w'.cell? ⟨G, 4, none⟩ = some (.string ⟨e1.s.toArray⟩) ∧ w'.cell? ⟨G, 5, none⟩ = some (.slice A1 e1.l.length c1)) ∧ w'.cell? ⟨w.heap.size + 1, 1, none⟩ = some (.int .i64 (a1 : Nat)))) (by kernel_rfl) ?_ (fun hHeld => ?_)
   ·try dsimp only
    exact ⟨Blk.six (t := 30) (by ((repeat' (first | with_reducible assumption | with_reducible refine Blk.drew ?_ | with_reducible refine Blk.drewN ?_ _ | with_reducible refine Blk.set3 ?_ _ _ _ | with_reducible refine Blk.far ?_ ?_ _ | ((with_reducible refine Blk.new' _ _ _ _ ?_) <;> (first | (simp; done) | (simp; omega) | omega) <;> done) | with_reducible refine Blk.alloc ?_ _ | with_reducible refine Blk3.drew ?_ | with_reducible refine Blk3.drewN ?_ _ | ((with_reducible refine Blk3.new' _ _ _ _ _ _ ?_) <;> (first | (simp; done) | (simp; omega) | omega) <;> done) | with_reducible refine Blk3.alloc ?_ _ | with_reducible refine Blk3.far ?_ ?_ _ | with_reducible refine Blk3.below ?_ (by assumption) ?_ | with_reducible refine Blk.below ?_ (by assumption) ?_)) <;> (first | (simp; done) | (simp; omega) | omega))), Blk.cell (t := 235) (cs := #[.slice A l.length c, .int .i64 (a1 : Nat), .int .i64 ((0 : Nat) : Int)]) (by ((repeat' (first | with_reducible assumption | with_reducible refine Blk.drew ?_ | with_reducible refine Blk.drewN ?_ _ | with_reducible refine Blk.set3 ?_ _ _ _ | with_reducible refine Blk.far ?_ ?_ _ | ((with_reducible refine Blk.new' _ _ _ _ ?_) <;> (first | (simp; done) | (simp; omega) | omega) <;> done) | with_reducible refine Blk.alloc ?_ _ | with_reducible refine Blk3.drew ?_ | with_reducible refine Blk3.drewN ?_ _ | ((with_reducible refine Blk3.new' _ _ _ _ _ _ ?_) <;> (first | (simp; done) | (simp; omega) | omega) <;> done) | with_reducible refine Blk3.alloc ?_ _ | with_reducible refine Blk3.far ?_ ?_ _ | with_reducible refine Blk3.below ?_ (by assumption) ?_ | with_reducible refine Blk.below ?_ (by assumption) ?_)) <;> (first | (simp; done) | (simp; omega) | omega))) 1⟩
   refine tS [0, 1, 2, 3, 4] ?_
   iterate 5 (refine tC ?_; refine ap ?_)
   refine tN ?_
   refine rdy 5 fun K hK => ?_
   go_simp
   skip
   go_wp2_with fail
   refine hK.out _ _ (⟨Blk.six (t := 30) (by ((repeat' (first | with_reducible assumption | with_reducible refine Blk.drew ?_ | with_reducible refine Blk.drewN ?_ _ | with_reducible refine Blk.set3 ?_ _ _ _ | with_reducible refine Blk.far ?_ ?_ _ | ((with_reducible refine Blk.new' _ _ _ _ ?_) <;> (first | (simp; done) | (simp; omega) | omega) <;> done) | with_reducible refine Blk.alloc ?_ _ | with_reducible refine Blk3.drew ?_ | with_reducible refine Blk3.drewN ?_ _ | ((with_reducible refine Blk3.new' _ _ _ _ _ _ ?_) <;> (first | (simp; done) | (simp; omega) | omega) <;> done) | with_reducible refine Blk3.alloc ?_ _ | with_reducible refine Blk3.far ?_ ?_ _ | with_reducible refine Blk3.below ?_ (by assumption) ?_ | with_reducible refine Blk.below ?_ (by assumption) ?_)) <;> (first | (simp; done) | (simp; omega) | omega))), Blk.cell (t := 235) (cs := #[.slice A l.length c, .int .i64 (a1 : Nat), .int .i64 ((0 : Nat) : Int)]) (by ((repeat' (first | with_reducible assumption | with_reducible refine Blk.drew ?_ | with_reducible refine Blk.drewN ?_ _ | with_reducible refine Blk.set3 ?_ _ _ _ | with_reducible refine Blk.far ?_ ?_ _ | ((with_reducible refine Blk.new' _ _ _ _ ?_) <;> (first | (simp; done) | (simp; omega) | omega) <;> done) | with_reducible refine Blk.alloc ?_ _ | with_reducible refine Blk3.drew ?_ | with_reducible refine Blk3.drewN ?_ _ | ((with_reducible refine Blk3.new' _ _ _ _ _ _ ?_) <;> (first | (simp; done) | (simp; omega) | omega) <;> done) | with_reducible refine Blk3.alloc ?_ _ | with_reducible refine Blk3.far ?_ ?_ _ | with_reducible refine Blk3.below ?_ (by assumption) ?_ | with_reducible refine Blk.below ?_ (by assumption) ?_)) <;> (first | (simp; done) | (simp; omega) | omega))) 1⟩) fun hHeld => ?_
   clear hK K
   refine ap ?_
   refine tS [6, 7] ?_
   iterate 2 (refine tC ?_; refine ap ?_)
   refine tN ?_
   refine wpAnyH_done (by kernel_rfl) ?_ _
   go_wp2_with fail
   refine bodyPost_ret (v := .tuple #[.agg (e1.cells A1 c1).toArray, .int .i64 (a1 : Nat), .int .i64 0]) (by simp [results, Tryz.results213, go_sem, *, Ex.cells]) rfl ?_
   rw [HF.out]
   have hB6 := But.sixSet w3 w.heap.size (.string ⟨e1.op.toArray⟩) (.int .i64 e1.v.k) (.int .i64 e1.v.i) (.string ⟨e1.v.s.toArray⟩) (.string ⟨e1.s.toArray⟩) (.slice A1 e1.l.length c1)
   refine RetParse.drew ?_
   exact ⟨A1, c1, rfl, HE2.out.keep fun x hx => ⟨⟨by omega, by have := hB6.size; omega⟩, fun o => (hB6.cell (by omega) (by omega) o).trans (hb3.cell (p := ⟨x, o, none⟩) (show x < _ by omega))⟩, by exact bl⟩
end Go.Proofs.YtchilcchogcibaaGreatDoor
