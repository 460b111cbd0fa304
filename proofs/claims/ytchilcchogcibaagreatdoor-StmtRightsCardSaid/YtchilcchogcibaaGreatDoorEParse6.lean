/- The parser's atom as a plain function: an or in ( and ). Condition: what inner answers is known.. -/
import Derived.Test.YtchilcchogcibaaGreatDoorEParse4
set_option maxRecDepth 100000
set_option maxHeartbeats 2000000
namespace Go.Proofs.YtchilcchogcibaaGreatDoor
open Go.RowKit
attribute [local go_sem] ByteArray.extract_mk ba_get ba_append
attribute [local go_sem ↓] Go.wp_at_zero Go.wp_at_succ run_eql_V run_neq_V
theorem RetPE.drew {R : Ex × Bool × Nat} {p : Nat} {A : Option Addr} {c : Nat} {l : List Tok} {deep : Nat} {w w' : World} {en : Ending} (h : RetPE R p A c l deep w en w') : RetPE R p A c l deep w en w'.drew := by
 obtain ⟨A', c', h1, h2, h3, h4⟩ := h
 exact ⟨A', c', h1, h2.keep fun b hb => ⟨hb, fun o => rfl⟩, h3.but (Below.drew (Below.refl _ _)), h4.drew⟩
theorem atom_paren (p : Nat) (A : Option Addr) (c : Nat) (l : List Tok) (deep a : Nat) (e1 : Ex) (ok1 : Bool) (a1 : Nat) (ha : a ≤ 1000) (ha1 : a1 ≤ 1000) (hh : hit l a [40] = true) (hC : InC 230 p A c l deep (a + 1) (e1, ok1, a1)) :
  AtC 263 p A c l deep a (e1, ok1 && hit l a1 [41], if ok1 && hit l a1 [41] then a1 + 1 else a1) := by
 obtain ⟨R, hR⟩ : ∃ R : Ex × Bool × Nat, (e1, ok1 && hit l a1 [41], if ok1 && hit l a1 [41] then a1 + 1 else a1) = R := ⟨_, rfl⟩
 rw [hR]
 have HR := Lib.hid hR
 clear hR
 intro w hP
 have lp := hP.1.lt
 have HC := Lib.hid hC
 have HH := Lib.hid hh
 obtain ⟨w0, hw0⟩ : ∃ w0, w.alloc (.cells (exZero.cells none 0).toArray 30) = w0 := ⟨_, rfl⟩
 have kR0 : Blk w0 w.heap.size 30 (exZero.cells none 0).toArray := by rw [← hw0]; exact Blk.new _ _ _
 have hb0 : Below w.heap.size w w0 := by rw [← hw0]; exact bl
 have hs0 : w0.heap.size = w.heap.size + 1 := by rw [← hw0]; simp
 have HW := Lib.hid hw0
 have HP0 := Lib.hid (hP.but hb0)
 clear hw0 hP hC hh
 go_in
 go_upto_region 1 with fail
 rw [show w.alloc (.cells #[.string ⟨#[]⟩, .int .i64 0, .int .i64 0, .string ⟨#[]⟩, .string ⟨#[]⟩, .slice none 0 0] 30) = w0 from HW.out]
 clear HW
 go_wp2_with fail
 refine (take_any p A c l a deep [40] w0 ha HP0.out).mono ?_
 rw [HH.out]
 rintro en w1 ⟨rfl, hP1, hb1⟩
 have hz1 := hb1.size
 have HP1 : Hid (PSt p A c l (a + 1) deep w1) := hP1
 clear hP1
 go_wp2_with fail
 refine (HC.out w1 HP1.out).mono ?_
 rintro en w2 ⟨A2, c2, rfl, hE2, hP2, hb2⟩
 dsimp only [Ex.cells]
 have hz2 := hb2.size
 obtain ⟨w3, hw3⟩ : ∃ w3, w2.alloc (.cells (e1.cells A2 c2).toArray 30) = w3 := ⟨_, rfl⟩
 have kB3 : Blk w3 w2.heap.size 30 (e1.cells A2 c2).toArray := by rw [← hw3]; exact Blk.new _ _ _
 have hb3 : Below w2.heap.size w2 w3 := by rw [← hw3]; exact bl
 have hs3 : w3.heap.size = w2.heap.size + 1 := by rw [← hw3]; simp
 have HW3 := Lib.hid hw3
 clear hw3
 have kR3 := (hb2.blk (hb1.blk kR0 (by omega)) (by omega)).below hb3 (by omega)
 have lR3 := kR3.lt
 have lB3 := kB3.lt
 have HE3 : Hid (ExR (fun x => w.heap.size ≤ x ∧ x < w2.heap.size ∧ x ≠ w.heap.size) e1 A2 c2 w3) := hE2.keep fun x hx => ⟨⟨by omega, by omega, by omega⟩, fun o => hb3.cell (p := ⟨x, o, none⟩) hx.2⟩
 have HP3 := Lib.hid (hP2.but hb3)
 have hbw3 := (((But.of_below (p := p) hb0).trans hb1).trans hb2).after hb3
 clear hE2 hP2
 go_upto_region 3 with fail
 rw [show w2.alloc (.cells #[.string ⟨e1.op.toArray⟩, .int .i64 e1.v.k, .int .i64 e1.v.i, .string ⟨e1.v.s.toArray⟩, .string ⟨e1.s.toArray⟩, .slice A2 e1.l.length c2] 30) = w3 from HW3.out]
 clear HW3
 obtain ⟨G, hG⟩ : ∃ G, w2.heap.size = G := ⟨_, rfl⟩
 rw [hG] at kB3 lB3 HE3 hb3 hs3 hz2 ⊢
 have hGw : w.heap.size < G := by omega
 have hpG : p < G := by omega
 clear hG hs0 hz1 hz2
 cases ok1
 ·obtain ⟨z0, z1, z2, z3, z4, z5⟩ := kR3.sixF
  obtain ⟨r0, r1, r2, r3, r4, r5⟩ := kR3.six
  obtain ⟨q0, q1, q2, q3, q4, q5⟩ := kB3.six
  have HSH : Hid (∀ w' : World, Below w3.heap.size w3 w' → (w'.cell? ⟨G, 0, none⟩ = some (.string ⟨e1.op.toArray⟩) ∧ w'.cell? ⟨G, 1, none⟩ = some (.int .i64 e1.v.k) ∧ w'.cell? ⟨G, 2, none⟩ = some (.int .i64 e1.v.i) ∧ w'.cell? ⟨G, 3, none⟩ = some (.string ⟨e1.v.s.toArray⟩) ∧ w'.cell? ⟨G, 4, none⟩ = some (.string ⟨e1.s.toArray⟩) ∧ w'.cell? ⟨G, 5, none⟩ = some (.slice A2 e1.l.length c2))) :=
   fun w' h => (kB3.below h lB3).six
  clear q0 q1 q2 q3 q4 q5
  refine wp_region_held_drew (S := (fun w' => w'.cell? ⟨G, 0, none⟩ = some (.string ⟨e1.op.toArray⟩) ∧ w'.cell? ⟨G, 1, none⟩ = some (.int .i64 e1.v.k) ∧ w'.cell? ⟨G, 2, none⟩ = some (.int .i64 e1.v.i) ∧ w'.cell? ⟨G, 3, none⟩ = some (.string ⟨e1.v.s.toArray⟩) ∧ w'.cell? ⟨G, 4, none⟩ = some (.string ⟨e1.s.toArray⟩) ∧ w'.cell? ⟨G, 5, none⟩ = some (.slice A2 e1.l.length c2))) (by kernel_rfl) ?_ (fun hHeld => ?_)
  ·try dsimp only
   exact Blk.six (t := 30) (by ((repeat' (first | with_reducible assumption | with_reducible refine Blk.drew ?_ | with_reducible refine Blk.drewN ?_ _ | with_reducible refine Blk.set3 ?_ _ _ _ | with_reducible refine Blk.far ?_ ?_ _ | ((with_reducible refine Blk.new' _ _ _ _ ?_) <;> (first | (simp; done) | (simp; omega) | omega) <;> done) | with_reducible refine Blk.alloc ?_ _ | with_reducible refine Blk3.drew ?_ | with_reducible refine Blk3.drewN ?_ _ | ((with_reducible refine Blk3.new' _ _ _ _ _ _ ?_) <;> (first | (simp; done) | (simp; omega) | omega) <;> done) | with_reducible refine Blk3.alloc ?_ _ | with_reducible refine Blk3.far ?_ ?_ _ | with_reducible refine Blk3.below ?_ (by assumption) ?_ | with_reducible refine Blk.below ?_ (by assumption) ?_)) <;> (first | (simp; done) | (simp; omega) | omega)))
  refine tS [0, 1, 2] ?_
  iterate 3 (refine tC ?_; refine ap ?_)
  refine tN ?_
  refine tS [3, 4] ?_
  iterate 2 (refine tX ?_; refine ap ?_)
  refine tN ?_
  refine tS [5] (tC ?_)
  refine ap (tN ?_)
  refine rdy 6 fun K hK => ?_
  go_simp
  skip
  go_wp2_with fail
  refine hK.out _ _ (Blk.six (t := 30) (by ((repeat' (first | with_reducible assumption | with_reducible refine Blk.drew ?_ | with_reducible refine Blk.drewN ?_ _ | with_reducible refine Blk.set3 ?_ _ _ _ | with_reducible refine Blk.far ?_ ?_ _ | ((with_reducible refine Blk.new' _ _ _ _ ?_) <;> (first | (simp; done) | (simp; omega) | omega) <;> done) | with_reducible refine Blk.alloc ?_ _ | with_reducible refine Blk3.drew ?_ | with_reducible refine Blk3.drewN ?_ _ | ((with_reducible refine Blk3.new' _ _ _ _ _ _ ?_) <;> (first | (simp; done) | (simp; omega) | omega) <;> done) | with_reducible refine Blk3.alloc ?_ _ | with_reducible refine Blk3.far ?_ ?_ _ | with_reducible refine Blk3.below ?_ (by assumption) ?_ | with_reducible refine Blk.below ?_ (by assumption) ?_)) <;> (first | (simp; done) | (simp; omega) | omega)))) fun hHeld => ?_
  clear hK K
  refine ap ?_
  refine tS [7] (tC ?_)
  refine ap (tN ?_)
  refine wpAnyH_done (by kernel_rfl) ?_ _
  go_wp2_with fail
  refine bodyPost_ret (v := .tuple #[.agg (e1.cells A2 c2).toArray, .bool false]) (by simp [results, Tryz.results263, go_sem, *, Ex.cells]) rfl ?_
  exact (retPE_end HR.out.symm (Nat.le_refl _) lp (HE3.out.keep fun x hx => ⟨⟨hx.1, by omega, hx.2.2⟩, fun o => rfl⟩) HP3.out hbw3 _ _ _ _ _ _).drew
 ·obtain ⟨B, hB⟩ : ∃ B, hit l a1 [41] = B := ⟨_, rfl⟩
  have hR := HR.out
  rw [hB] at hR
  have HR2 : Hid ((e1, B, if B then a1 + 1 else a1) = R) := by show _ = _; rw [← hR]; rfl
  have HTK : Hid (∀ X : World, PSt p A c l a1 deep X → Calls Tryz.prog 258 #[.pointer (some ⟨p, 0, none⟩), .string ⟨#[41]⟩] X (RetTake B p A c l a1 deep X)) := fun X hX => by
   have := take_any p A c l a1 deep [41] X (by omega) hX
   rw [hB] at this
   exact this
  clear hB hR HR
  obtain ⟨z0, z1, z2, z3, z4, z5⟩ := kR3.sixF
  obtain ⟨r0, r1, r2, r3, r4, r5⟩ := kR3.six
  clear z0 z1 z2 z3 z4 z5 r0 r1 r2 r3 r4 r5
  refine wp_region_held_drew (S := (fun w' => w'.cell? ⟨G, 0, none⟩ = some (.string ⟨e1.op.toArray⟩) ∧ w'.cell? ⟨G, 1, none⟩ = some (.int .i64 e1.v.k) ∧ w'.cell? ⟨G, 2, none⟩ = some (.int .i64 e1.v.i) ∧ w'.cell? ⟨G, 3, none⟩ = some (.string ⟨e1.v.s.toArray⟩) ∧ w'.cell? ⟨G, 4, none⟩ = some (.string ⟨e1.s.toArray⟩) ∧ w'.cell? ⟨G, 5, none⟩ = some (.slice A2 e1.l.length c2))) (by kernel_rfl) ?_ (fun hHeld => ?_)
  ·try dsimp only
   exact Blk.six (t := 30) (by ((repeat' (first | with_reducible assumption | with_reducible refine Blk.drew ?_ | with_reducible refine Blk.drewN ?_ _ | with_reducible refine Blk.set3 ?_ _ _ _ | with_reducible refine Blk.far ?_ ?_ _ | ((with_reducible refine Blk.new' _ _ _ _ ?_) <;> (first | (simp; done) | (simp; omega) | omega) <;> done) | with_reducible refine Blk.alloc ?_ _ | with_reducible refine Blk3.drew ?_ | with_reducible refine Blk3.drewN ?_ _ | ((with_reducible refine Blk3.new' _ _ _ _ _ _ ?_) <;> (first | (simp; done) | (simp; omega) | omega) <;> done) | with_reducible refine Blk3.alloc ?_ _ | with_reducible refine Blk3.far ?_ ?_ _ | with_reducible refine Blk3.below ?_ (by assumption) ?_ | with_reducible refine Blk.below ?_ (by assumption) ?_)) <;> (first | (simp; done) | (simp; omega) | omega)))
  refine tS [0, 1, 2, 3] ?_
  iterate 4 (refine tC ?_; refine ap ?_)
  refine tN ?_
  refine rdy 4 fun K hK => ?_
  go_simp
  refine (HTK.out _ (HP3.out.but (by exact bl))).mono ?_ <;> rintro en w6 ⟨rfl, hP6, hb6⟩ <;> have HP6 := Lib.hid hP6 <;> clear hP6 <;> have hb36 : But p w3 w6 := But.trans (But.of_below (by exact bl)) hb6 <;> have hz6 := hb36.size <;> have lG6 : G < w6.heap.size := (by omega) <;> have lR6 : w.heap.size < w6.heap.size := (by omega) <;> have kB6 := hb36.blk kB3 (Nat.ne_of_gt hpG) <;> have kR6 := hb36.blk kR3 (Nat.ne_of_gt lp) <;> obtain ⟨v0, v1, v2, v3, v4, v5⟩ := kR6.sixF <;> obtain ⟨x0, x1, x2, x3, x4, x5⟩ := kR6.six
  go_wp2_with fail
  refine hK.out _ _ (Blk.six (t := 30) (by ((repeat' (first | with_reducible assumption | with_reducible refine Blk.drew ?_ | with_reducible refine Blk.drewN ?_ _ | with_reducible refine Blk.set3 ?_ _ _ _ | with_reducible refine Blk.far ?_ ?_ _ | ((with_reducible refine Blk.new' _ _ _ _ ?_) <;> (first | (simp; done) | (simp; omega) | omega) <;> done) | with_reducible refine Blk.alloc ?_ _ | with_reducible refine Blk3.drew ?_ | with_reducible refine Blk3.drewN ?_ _ | ((with_reducible refine Blk3.new' _ _ _ _ _ _ ?_) <;> (first | (simp; done) | (simp; omega) | omega) <;> done) | with_reducible refine Blk3.alloc ?_ _ | with_reducible refine Blk3.far ?_ ?_ _ | with_reducible refine Blk3.below ?_ (by assumption) ?_ | with_reducible refine Blk.below ?_ (by assumption) ?_)) <;> (first | (simp; done) | (simp; omega) | omega)))) fun hHeld => ?_
  clear hK K
  refine ap ?_
  refine tS [5] (tC ?_)
  refine ap (tN ?_)
  refine rdy 6 fun K hK => ?_
  go_simp
  skip
  go_wp2_with fail
  refine hK.out _ _ (Blk.six (t := 30) (by ((repeat' (first | with_reducible assumption | with_reducible refine Blk.drew ?_ | with_reducible refine Blk.drewN ?_ _ | with_reducible refine Blk.set3 ?_ _ _ _ | with_reducible refine Blk.far ?_ ?_ _ | ((with_reducible refine Blk.new' _ _ _ _ ?_) <;> (first | (simp; done) | (simp; omega) | omega) <;> done) | with_reducible refine Blk.alloc ?_ _ | with_reducible refine Blk3.drew ?_ | with_reducible refine Blk3.drewN ?_ _ | ((with_reducible refine Blk3.new' _ _ _ _ _ _ ?_) <;> (first | (simp; done) | (simp; omega) | omega) <;> done) | with_reducible refine Blk3.alloc ?_ _ | with_reducible refine Blk3.far ?_ ?_ _ | with_reducible refine Blk3.below ?_ (by assumption) ?_ | with_reducible refine Blk.below ?_ (by assumption) ?_)) <;> (first | (simp; done) | (simp; omega) | omega)))) fun hHeld => ?_
  clear hK K
  refine ap ?_
  refine tS [7] (tC ?_)
  refine ap (tN ?_)
  refine wpAnyH_done (by kernel_rfl) ?_ _
  go_wp2_with fail
  refine bodyPost_ret (v := .tuple #[.agg (e1.cells A2 c2).toArray, .bool B]) (by simp [results, Tryz.results263, go_sem, *, Ex.cells]) rfl ?_
  exact retPE_end HR2.out.symm (Nat.le_refl _) lp (HE3.out.keep fun x hx => ⟨⟨hx.1, by omega, hx.2.2⟩, fun o => hb36.cell (by omega) (by omega) o⟩) HP6.out (hbw3.trans hb36) _ _ _ _ _ _
end Go.Proofs.YtchilcchogcibaaGreatDoor
