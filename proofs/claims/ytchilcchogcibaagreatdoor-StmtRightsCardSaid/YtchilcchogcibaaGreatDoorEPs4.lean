/- The statement parser's statement at GRANT and REVOKE. Condition: tokens that memory reaches, below the parser, of texts no longer than a thousand.. -/
import Derived.ChangeMaps4
import Derived.Test.YtchilcchogcibaaGreatDoorEPs3
set_option maxRecDepth 100000
set_option maxHeartbeats 8000000
namespace Go.Proofs.YtchilcchogcibaaGreatDoor
open Go.RowKit Go.ChangeMaps Go.MapKept
attribute [local go_sem] ByteArray.extract_mk ba_get ba_append
attribute [local go_sem ↓] Go.wp_at_zero Go.wp_at_succ
theorem updK {w : World} {b : Nat} {es : Array MapEntry} {clock : Nat} (s : List UInt8) (val : Value) (h : w.heap[b]? = some (.map es clock)) (hf : Instr.findNow .string (.string ⟨s.toArray⟩) es.toList 0 = some none) :
  ∃ w' : World, (Instr.mapUpdate 132 (.map (some b)) (.string ⟨s.toArray⟩) val).run Tryz.prog w = .ok () w' ∧ w'.heap[b]? = some (.map (es.push ⟨.string ⟨s.toArray⟩, val, clock⟩) (clock + 1)) ∧ w.grownBy w' (some b) := by
 have hlt : b < w.heap.size := (Array.getElem?_eq_some_iff.1 h).1
 have hc : (Instr.checkKey false 10000 9 (.string ⟨s.toArray⟩)).run Tryz.prog w = .ok () w := MapKept.run_checkKey (k := .string ⟨s.toArray⟩) Tryz.underlying9 (by simp [MapKept.IsKey]) false 9999
 refine ⟨setBlock w b (.map (es.push ⟨.string ⟨s.toArray⟩, val, clock⟩) (clock + 1)), ?_, by simp [setBlock, hlt], ⟨rfl, rfl, rfl, by simp [setBlock], fun k _ hne => ?_⟩⟩
 ·simp [Instr.mapUpdate, run_underlying Tryz.underlying132, MapKept.run_getObj_map h, hc, MapKept.run_findKey Tryz.underlying9 hf, MapKept.run_setObj_map _ h, Result.andThen, setBlock]
 ·have : k ≠ b := fun e => hne (by rw [e])
  simp [setBlock, Ne.symm this]
def meV (g f : Nat) : Value := .func (.func f) #[.pointer (some ⟨g, 0, none⟩)] #[]
def kindsE (g : Nat) : Array MapEntry := #[]
 |>.push ⟨.string ⟨([67, 82, 69, 65, 84, 69] : List UInt8).toArray⟩, meV g 97, 0⟩
 |>.push ⟨.string ⟨([68, 82, 79, 80] : List UInt8).toArray⟩, meV g 98, 1⟩
 |>.push ⟨.string ⟨([73, 78, 83, 69, 82, 84] : List UInt8).toArray⟩, meV g 99, 2⟩
 |>.push ⟨.string ⟨([85, 80, 68, 65, 84, 69] : List UInt8).toArray⟩, meV g 100, 3⟩
 |>.push ⟨.string ⟨([68, 69, 76, 69, 84, 69] : List UInt8).toArray⟩, meV g 101, 4⟩
 |>.push ⟨.string ⟨([83, 69, 76, 69, 67, 84] : List UInt8).toArray⟩, meV g 102, 5⟩
 |>.push ⟨.string ⟨([71, 82, 65, 78, 84] : List UInt8).toArray⟩, meV g 103, 6⟩
 |>.push ⟨.string ⟨([82, 69, 86, 79, 75, 69] : List UInt8).toArray⟩, meV g 104, 7⟩
 |>.push ⟨.string ⟨([77, 73, 71, 82, 65, 84, 69] : List UInt8).toArray⟩, meV g 105, 8⟩
theorem lookK {w : World} {b i g f : Nat} (op : List UInt8) (h : w.heap[b]? = some (.map (kindsE g) 9)) (hf : Instr.findNow .string (.string ⟨op.toArray⟩) (kindsE g).toList 0 = some (some (i, meV g f))) :
  (Instr.lookup 132 (.map (some b)) (.string ⟨op.toArray⟩) true).run Tryz.prog w = .ok (.tuple #[meV g f, .bool true]) w := by
 have hc : ∀ e, (Instr.checkKey e 10000 9 (.string ⟨op.toArray⟩)).run Tryz.prog w = .ok () w := fun e => MapKept.run_checkKey (k := .string ⟨op.toArray⟩) Tryz.underlying9 (by simp [MapKept.IsKey]) e 9999
 simp [Instr.lookup, run_underlying Tryz.underlying132, MapKept.run_getObj_map h, hc, MapKept.run_findKey Tryz.underlying9 hf, Result.andThen]
theorem kindsM (g : Nat) (w : World) : ∃ w0 w1 w2 w3 w4 w5 w6 w7 w8 w9 : World, (Instr.makeMap 132 none).run Tryz.prog w = .ok (.map (some w.heap.size)) w0 ∧
  (Instr.mapUpdate 132 (.map (some w.heap.size)) (.string ⟨([67, 82, 69, 65, 84, 69] : List UInt8).toArray⟩) (meV g 97)).run Tryz.prog w0 = .ok () w1 ∧
  (Instr.mapUpdate 132 (.map (some w.heap.size)) (.string ⟨([68, 82, 79, 80] : List UInt8).toArray⟩) (meV g 98)).run Tryz.prog w1 = .ok () w2 ∧
  (Instr.mapUpdate 132 (.map (some w.heap.size)) (.string ⟨([73, 78, 83, 69, 82, 84] : List UInt8).toArray⟩) (meV g 99)).run Tryz.prog w2 = .ok () w3 ∧
  (Instr.mapUpdate 132 (.map (some w.heap.size)) (.string ⟨([85, 80, 68, 65, 84, 69] : List UInt8).toArray⟩) (meV g 100)).run Tryz.prog w3 = .ok () w4 ∧
  (Instr.mapUpdate 132 (.map (some w.heap.size)) (.string ⟨([68, 69, 76, 69, 84, 69] : List UInt8).toArray⟩) (meV g 101)).run Tryz.prog w4 = .ok () w5 ∧
  (Instr.mapUpdate 132 (.map (some w.heap.size)) (.string ⟨([83, 69, 76, 69, 67, 84] : List UInt8).toArray⟩) (meV g 102)).run Tryz.prog w5 = .ok () w6 ∧
  (Instr.mapUpdate 132 (.map (some w.heap.size)) (.string ⟨([71, 82, 65, 78, 84] : List UInt8).toArray⟩) (meV g 103)).run Tryz.prog w6 = .ok () w7 ∧
  (Instr.mapUpdate 132 (.map (some w.heap.size)) (.string ⟨([82, 69, 86, 79, 75, 69] : List UInt8).toArray⟩) (meV g 104)).run Tryz.prog w7 = .ok () w8 ∧
  (Instr.mapUpdate 132 (.map (some w.heap.size)) (.string ⟨([77, 73, 71, 82, 65, 84, 69] : List UInt8).toArray⟩) (meV g 105)).run Tryz.prog w8 = .ok () w9 ∧
  w9.heap[w.heap.size]? = some (.map (kindsE g) 9) ∧ Below w.heap.size w w9 := by
 have m0 : (Instr.makeMap 132 none).run Tryz.prog w = .ok (.map (some w.heap.size)) (w.alloc (.map #[] 0)) := run_makeMap_plain w _
 have h0 : (w.alloc (.map #[] 0)).heap[w.heap.size]? = some (.map #[] 0) := heap_alloc_new w _
 have g0 : Below w.heap.size w (w.alloc (.map #[] 0)) := (Below.refl _ _).alloc (Nat.le_refl _) _
 generalize w.alloc (.map #[] 0) = w0 at *
 obtain ⟨w1, m1, h1, y1⟩ := updK ([67, 82, 69, 65, 84, 69]) (meV g 97) h0 (by kernel_rfl)
 have g1 := g0.grown y1 g0.size (fun k hk => by cases hk; exact Nat.le_refl _)
 clear y1 h0 g0
 obtain ⟨w2, m2, h2, y2⟩ := updK ([68, 82, 79, 80]) (meV g 98) h1 (by kernel_rfl)
 have g2 := g1.grown y2 g1.size (fun k hk => by cases hk; exact Nat.le_refl _)
 clear y2 h1 g1
 obtain ⟨w3, m3, h3, y3⟩ := updK ([73, 78, 83, 69, 82, 84]) (meV g 99) h2 (by kernel_rfl)
 have g3 := g2.grown y3 g2.size (fun k hk => by cases hk; exact Nat.le_refl _)
 clear y3 h2 g2
 obtain ⟨w4, m4, h4, y4⟩ := updK ([85, 80, 68, 65, 84, 69]) (meV g 100) h3 (by kernel_rfl)
 have g4 := g3.grown y4 g3.size (fun k hk => by cases hk; exact Nat.le_refl _)
 clear y4 h3 g3
 obtain ⟨w5, m5, h5, y5⟩ := updK ([68, 69, 76, 69, 84, 69]) (meV g 101) h4 (by kernel_rfl)
 have g5 := g4.grown y5 g4.size (fun k hk => by cases hk; exact Nat.le_refl _)
 clear y5 h4 g4
 obtain ⟨w6, m6, h6, y6⟩ := updK ([83, 69, 76, 69, 67, 84]) (meV g 102) h5 (by kernel_rfl)
 have g6 := g5.grown y6 g5.size (fun k hk => by cases hk; exact Nat.le_refl _)
 clear y6 h5 g5
 obtain ⟨w7, m7, h7, y7⟩ := updK ([71, 82, 65, 78, 84]) (meV g 103) h6 (by kernel_rfl)
 have g7 := g6.grown y7 g6.size (fun k hk => by cases hk; exact Nat.le_refl _)
 clear y7 h6 g6
 obtain ⟨w8, m8, h8, y8⟩ := updK ([82, 69, 86, 79, 75, 69]) (meV g 104) h7 (by kernel_rfl)
 have g8 := g7.grown y8 g7.size (fun k hk => by cases hk; exact Nat.le_refl _)
 clear y8 h7 g7
 obtain ⟨w9, m9, h9, y9⟩ := updK ([77, 73, 71, 82, 65, 84, 69]) (meV g 105) h8 (by kernel_rfl)
 have g9 := g8.grown y9 g8.size (fun k hk => by cases hk; exact Nat.le_refl _)
 clear y9 h8 g8
 exact ⟨w0, w1, w2, w3, w4, w5, w6, w7, w8, w9, m0, m1, m2, m3, m4, m5, m6, m7, m8, m9, h9, g9⟩
theorem pstmt_grant (g : Nat) (A : Option Addr) (c : Nat) (l : List Tok) (cs : Array Value) (o2 o3 o4 : List UInt8) (w : World) (hl : l.length ≤ 1000000) (h0 : l[0]? = some ⟨1, [71, 82, 65, 78, 84]⟩) (h : PsS g A c l 0 cs w) (h2 : cs[2]? = some (.string ⟨o2.toArray⟩)) (h3 : cs[3]? = some (.string ⟨o3.toArray⟩)) (h4 : cs[24]? = some (.string ⟨o4.toArray⟩)) (hs : ∀ t ∈ l, t.s.length ≤ 1000) :
  Calls Tryz.prog 57 #[.pointer (some ⟨g, 0, none⟩)] w (RetGt ((grantP l 1 [] [84, 79]).bind fun r => if l.length = 6 then some r else none) g A c l 1 (goAt cs 1) w) := by
 obtain ⟨R, hR⟩ : ∃ R, ((grantP l 1 [] [84, 79]).bind fun r => if l.length = 6 then some r else none) = R := ⟨_, rfl⟩
 rw [hR]
 have hgw : g < w.heap.size := h.blk.lt
 have hll : 0 < l.length := by
  rcases Nat.eq_zero_or_pos l.length with e | e
  ·rw [List.getElem?_eq_none (by omega)] at h0; cases h0
  ·exact e
 obtain ⟨b1, o1, t, rfl, hbB, hv, c0, c1⟩ := h.tk.at_ hll
 obtain rfl : t = ⟨1, [71, 82, 65, 78, 84]⟩ := by rw [h0] at hv; injection hv with hv; exact hv.symm
 rw [Nat.zero_mul, Nat.add_zero] at c0 c1
 obtain ⟨w0, v1, v2, v3, v4, v5, v6, v7, v8, w9, m0, m1, m2, m3, m4, m5, m6, m7, m8, m9, hm, hbm⟩ := kindsM g w
 have hP9 := h.below hbm
 have c0' : w9.cell? ⟨b1, o1, none⟩ = some (.int .i64 1) := (hbm.cell (p := ⟨b1, o1, none⟩) (show b1 < _ by omega)).trans c0
 have c1' : w9.cell? ⟨b1, o1 + 1, none⟩ = some (.string ⟨([71, 82, 65, 78, 84] : List UInt8).toArray⟩) := (hbm.cell (p := ⟨b1, o1 + 1, none⟩) (show b1 < _ by omega)).trans c1
 have x0 : w9.cell? ⟨g, 0, none⟩ = some (.slice (some ⟨b1, o1, none⟩) l.length c) := (hP9.blk.cell 0).trans hP9.c0
 have x1 : w9.cell? ⟨g, 1, none⟩ = some (.int .i64 0) := (hP9.blk.cell 1).trans hP9.c1
 have f1 := hP9.blk.frozen 1
 have q1 := lookK (i := 6) (f := 103) [71, 82, 65, 78, 84] hm (by kernel_rfl)
 have hP10 := hP9.move 1
 obtain ⟨w10, hw10⟩ : ∃ x, w9.setCell ⟨g, 1, none⟩ (.int .i64 1) = x := ⟨_, rfl⟩
 have hw10' : w9.setCell ⟨g, 1, none⟩ (.int .i64 (1 : Nat)) = w10 := hw10
 rw [hw10'] at hP10
 have HB10 : Hid (But g w w10) := by rw [← hw10]; exact (But.of_below (p := g) hbm).set 1 _
 have HW10 := Lib.hid hw10
 have HM : Hid (∀ Z : World, Below w10.heap.size w10 Z → Calls Tryz.prog 103 #[.pointer (some ⟨g, 0, none⟩)] Z (RetGt (grantP l 1 [] [84, 79]) g (some ⟨b1, o1, none⟩) c l 1 (goAt cs 1) Z)) := fun Z hz =>
  pgrant_any g (some ⟨b1, o1, none⟩) c l 1 (goAt cs 1) o2 o3 o4 Z (by omega) (hP10.below hz) (by unfold goAt; rw [Array.getElem?_setIfInBounds_ne (by decide)]; exact h2) (by unfold goAt; rw [Array.getElem?_setIfInBounds_ne (by decide)]; exact h3) (by unfold goAt; rw [Array.getElem?_setIfInBounds_ne (by decide)]; exact h4) hs
 obtain ⟨G, hG⟩ : ∃ x, grantP l 1 [] [84, 79] = x := ⟨_, rfl⟩
 rw [hG] at HM hR
 obtain ⟨N, hN⟩ : ∃ N, l.length = N := ⟨_, rfl⟩
 have HSA : Hid (∀ Z : World, Below w10.heap.size w10 Z → Z.cell? ⟨g, 0, none⟩ = some (.slice (some ⟨b1, o1, none⟩) N c)) := fun Z hz => by rw [← hN]; exact ((hP10.below hz).blk.cell 0).trans hP10.c0
 rw [hN] at hR hll x0
 have HR := Lib.hid hR
 have HN := Lib.hid hN
 have i0 : ¬ (N : Int) = 0 := by omega
 have i1 : ((N : Int) == 0) = false := by rw [beq_eq_false_iff_ne]; exact i0
 have i2 : (0 : Int) < (N : Int) := by omega
 unfold meV at m1 m2 m3 m4 m5 m6 m7 m8 m9 q1
 clear hR hG h h0 h2 h3 h4 hs hP9 hP10 hw10 hw10' hm hbm c0 c1 hv hN
 go_in
 go_upto_region 6 with fail
 rw [HW10.out]
 clear m0 m1 m2 m3 m4 m5 m6 m7 m8 m9 q1 x0 x1 c0' c1' f1 HW10
 cases G with
 | none =>
  have hR : R = none := HR.out.symm
  subst hR
  refine wp_region_held_drew (S := (fun _ => True)) (by kernel_rfl) ?_ (fun hHeld => ?_)
  ·try dsimp only
   first | done | exact trivial
  refine tS [0, 1, 2] ?_
  iterate 3 (refine tC ?_; refine ap ?_)
  refine tN ?_
  refine rdy 3 fun K hK => ?_
  go_simp
  (refine (HM.out _ (by exact bl)).mono ?_) <;> rintro en w3 ⟨rfl, hb3⟩
  go_wp2_with fail
  refine hK.out _ _ ?_ (fun hHeld => ?_)
  ·try dsimp only
   first | done | exact trivial
  clear hK K
  refine ap ?_
  refine tS [4, 5] ?_
  iterate 2 (refine tC ?_; refine ap ?_)
  refine tN ?_
  refine tS [6, 7, 8, 9, 10, 11, 12, 13, 14, 15] ?_
  iterate 10 (refine tX ?_; refine ap ?_)
  refine tN ?_
  refine tS [16, 17] ?_
  iterate 2 (refine tC ?_; refine ap ?_)
  refine tN ?_
  refine wpAnyH_done (by kernel_rfl) ?_ _
  go_wp2_with fail
  go_ret
  exact ⟨rfl, HB10.out.drew.trans hb3⟩
 | some r =>
  have HR : Hid ((if N = 6 then some r else none) = R) := HR.out
  by_cases h6 : N = 6
  ·have hR : R = some r := by rw [← HR.out, if_pos h6]
   clear HR
   subst hR
   subst h6
   refine wp_region_held_drew (S := (fun Z => Z.cell? ⟨g, 0, none⟩ = some (.slice (some ⟨b1, o1, none⟩) 6 c))) (by kernel_rfl) ?_ (fun hHeld => ?_)
   ·try dsimp only
    first | exact HSA.out _ (by exact bl) | exact HSB.out _ (by exact bl)
   refine tS [0, 1, 2] ?_
   iterate 3 (refine tC ?_; refine ap ?_)
   refine tN ?_
   refine rdy 3 fun K hK => ?_
   go_simp
   (refine (HM.out _ (by exact bl)).mono ?_) <;> rintro en w3 ⟨rfl, hP3, hb3⟩ <;> have HSB : Hid (∀ Z : World, Below w3.heap.size w3 Z → Z.cell? ⟨g, 0, none⟩ = some (.slice (some ⟨b1, o1, none⟩) 6 c)) := (fun Z hz => HN.out ▸ (((hP3.below hz).blk.cell 0).trans hP3.c0)) <;> have x1 : w3.cell? ⟨g, 1, none⟩ = some (.int .i64 6) := (hP3.blk.cell 1).trans hP3.c1 <;> have HP3 := Lib.hid hP3 <;> clear hP3
   go_wp2_with fail
   refine hK.out _ _ ?_ (fun hHeld => ?_)
   ·try dsimp only
    first | exact HSA.out _ (by exact bl) | exact HSB.out _ (by exact bl)
   clear hK K
   refine ap ?_
   refine tS [4, 5, 6, 7, 8, 10, 11, 12, 13, 14] ?_
   iterate 10 (refine tC ?_; refine ap ?_)
   refine tN ?_
   refine rdy 9 fun K hK => ?_
   go_simp
   skip
   go_wp2_with fail
   refine hK.out _ _ ?_ (fun hHeld => ?_)
   ·try dsimp only
    first | exact HSA.out _ (by exact bl) | exact HSB.out _ (by exact bl)
   clear hK K
   refine ap ?_
   refine tS [15, 16, 17] ?_
   iterate 3 (refine tC ?_; refine ap ?_)
   refine tN ?_
   refine wpAnyH_done (by kernel_rfl) ?_ _
   go_wp2_with fail
   go_ret
   exact ⟨rfl, HP3.out, HB10.out.drew.trans hb3⟩
  ·have hR : R = none := by rw [← HR.out, if_neg h6]
   have e7 : ¬ (6 : Int) = (N : Int) := by omega
   have e6 : ((6 : Int) == (N : Int)) = false := by rw [beq_eq_false_iff_ne]; exact e7
   clear HR h6
   subst hR
   refine wp_region_held_drew (S := (fun Z => Z.cell? ⟨g, 0, none⟩ = some (.slice (some ⟨b1, o1, none⟩) N c))) (by kernel_rfl) ?_ (fun hHeld => ?_)
   ·try dsimp only
    first | exact HSA.out _ (by exact bl) | exact HSB.out _ (by exact bl)
   refine tS [0, 1, 2] ?_
   iterate 3 (refine tC ?_; refine ap ?_)
   refine tN ?_
   refine rdy 3 fun K hK => ?_
   go_simp
   (refine (HM.out _ (by exact bl)).mono ?_) <;> rintro en w3 ⟨rfl, hP3, hb3⟩ <;> have HSB : Hid (∀ Z : World, Below w3.heap.size w3 Z → Z.cell? ⟨g, 0, none⟩ = some (.slice (some ⟨b1, o1, none⟩) N c)) := (fun Z hz => HN.out ▸ (((hP3.below hz).blk.cell 0).trans hP3.c0)) <;> have x1 : w3.cell? ⟨g, 1, none⟩ = some (.int .i64 6) := (hP3.blk.cell 1).trans hP3.c1 <;> clear hP3
   go_wp2_with fail
   refine hK.out _ _ ?_ (fun hHeld => ?_)
   ·try dsimp only
    first | exact HSA.out _ (by exact bl) | exact HSB.out _ (by exact bl)
   clear hK K
   refine ap ?_
   refine tS [4, 5, 6, 7, 8, 10, 11, 12, 13, 14] ?_
   iterate 10 (refine tC ?_; refine ap ?_)
   refine tN ?_
   refine rdy 9 fun K hK => ?_
   go_simp
   skip
   go_wp2_with fail
   refine hK.out _ _ ?_ (fun hHeld => ?_)
   ·try dsimp only
    first | exact HSA.out _ (by exact bl) | exact HSB.out _ (by exact bl)
   clear hK K
   refine ap ?_
   refine tS [15, 16, 17] ?_
   iterate 3 (refine tC ?_; refine ap ?_)
   refine tN ?_
   refine wpAnyH_done (by kernel_rfl) ?_ _
   go_wp2_with fail
   go_ret
   exact ⟨rfl, HB10.out.drew.trans hb3⟩
theorem pstmt_revoke (g : Nat) (A : Option Addr) (c : Nat) (l : List Tok) (cs : Array Value) (o2 o3 o4 : List UInt8) (w : World) (hl : l.length ≤ 1000000) (h0 : l[0]? = some ⟨1, [82, 69, 86, 79, 75, 69]⟩) (h : PsS g A c l 0 cs w) (h2 : cs[2]? = some (.string ⟨o2.toArray⟩)) (h3 : cs[3]? = some (.string ⟨o3.toArray⟩)) (h4 : cs[24]? = some (.string ⟨o4.toArray⟩)) (hs : ∀ t ∈ l, t.s.length ≤ 1000) :
  Calls Tryz.prog 57 #[.pointer (some ⟨g, 0, none⟩)] w (RetGt ((grantP l 1 [117, 110] [70, 82, 79, 77]).bind fun r => if l.length = 6 then some r else none) g A c l 1 (goAt cs 1) w) := by
 obtain ⟨R, hR⟩ : ∃ R, ((grantP l 1 [117, 110] [70, 82, 79, 77]).bind fun r => if l.length = 6 then some r else none) = R := ⟨_, rfl⟩
 rw [hR]
 have hgw : g < w.heap.size := h.blk.lt
 have hll : 0 < l.length := by
  rcases Nat.eq_zero_or_pos l.length with e | e
  ·rw [List.getElem?_eq_none (by omega)] at h0; cases h0
  ·exact e
 obtain ⟨b1, o1, t, rfl, hbB, hv, c0, c1⟩ := h.tk.at_ hll
 obtain rfl : t = ⟨1, [82, 69, 86, 79, 75, 69]⟩ := by rw [h0] at hv; injection hv with hv; exact hv.symm
 rw [Nat.zero_mul, Nat.add_zero] at c0 c1
 obtain ⟨w0, v1, v2, v3, v4, v5, v6, v7, v8, w9, m0, m1, m2, m3, m4, m5, m6, m7, m8, m9, hm, hbm⟩ := kindsM g w
 have hP9 := h.below hbm
 have c0' : w9.cell? ⟨b1, o1, none⟩ = some (.int .i64 1) := (hbm.cell (p := ⟨b1, o1, none⟩) (show b1 < _ by omega)).trans c0
 have c1' : w9.cell? ⟨b1, o1 + 1, none⟩ = some (.string ⟨([82, 69, 86, 79, 75, 69] : List UInt8).toArray⟩) := (hbm.cell (p := ⟨b1, o1 + 1, none⟩) (show b1 < _ by omega)).trans c1
 have x0 : w9.cell? ⟨g, 0, none⟩ = some (.slice (some ⟨b1, o1, none⟩) l.length c) := (hP9.blk.cell 0).trans hP9.c0
 have x1 : w9.cell? ⟨g, 1, none⟩ = some (.int .i64 0) := (hP9.blk.cell 1).trans hP9.c1
 have f1 := hP9.blk.frozen 1
 have q1 := lookK (i := 7) (f := 104) [82, 69, 86, 79, 75, 69] hm (by kernel_rfl)
 have hP10 := hP9.move 1
 obtain ⟨w10, hw10⟩ : ∃ x, w9.setCell ⟨g, 1, none⟩ (.int .i64 1) = x := ⟨_, rfl⟩
 have hw10' : w9.setCell ⟨g, 1, none⟩ (.int .i64 (1 : Nat)) = w10 := hw10
 rw [hw10'] at hP10
 have HB10 : Hid (But g w w10) := by rw [← hw10]; exact (But.of_below (p := g) hbm).set 1 _
 have HW10 := Lib.hid hw10
 have HM : Hid (∀ Z : World, Below w10.heap.size w10 Z → Calls Tryz.prog 104 #[.pointer (some ⟨g, 0, none⟩)] Z (RetGt (grantP l 1 [117, 110] [70, 82, 79, 77]) g (some ⟨b1, o1, none⟩) c l 1 (goAt cs 1) Z)) := fun Z hz =>
  prevoke_any g (some ⟨b1, o1, none⟩) c l 1 (goAt cs 1) o2 o3 o4 Z (by omega) (hP10.below hz) (by unfold goAt; rw [Array.getElem?_setIfInBounds_ne (by decide)]; exact h2) (by unfold goAt; rw [Array.getElem?_setIfInBounds_ne (by decide)]; exact h3) (by unfold goAt; rw [Array.getElem?_setIfInBounds_ne (by decide)]; exact h4) hs
 obtain ⟨G, hG⟩ : ∃ x, grantP l 1 [117, 110] [70, 82, 79, 77] = x := ⟨_, rfl⟩
 rw [hG] at HM hR
 obtain ⟨N, hN⟩ : ∃ N, l.length = N := ⟨_, rfl⟩
 have HSA : Hid (∀ Z : World, Below w10.heap.size w10 Z → Z.cell? ⟨g, 0, none⟩ = some (.slice (some ⟨b1, o1, none⟩) N c)) := fun Z hz => by rw [← hN]; exact ((hP10.below hz).blk.cell 0).trans hP10.c0
 rw [hN] at hR hll x0
 have HR := Lib.hid hR
 have HN := Lib.hid hN
 have i0 : ¬ (N : Int) = 0 := by omega
 have i1 : ((N : Int) == 0) = false := by rw [beq_eq_false_iff_ne]; exact i0
 have i2 : (0 : Int) < (N : Int) := by omega
 unfold meV at m1 m2 m3 m4 m5 m6 m7 m8 m9 q1
 clear hR hG h h0 h2 h3 h4 hs hP9 hP10 hw10 hw10' hm hbm c0 c1 hv hN
 go_in
 go_upto_region 6 with fail
 rw [HW10.out]
 clear m0 m1 m2 m3 m4 m5 m6 m7 m8 m9 q1 x0 x1 c0' c1' f1 HW10
 cases G with
 | none =>
  have hR : R = none := HR.out.symm
  subst hR
  refine wp_region_held_drew (S := (fun _ => True)) (by kernel_rfl) ?_ (fun hHeld => ?_)
  ·try dsimp only
   first | done | exact trivial
  refine tS [0, 1, 2] ?_
  iterate 3 (refine tC ?_; refine ap ?_)
  refine tN ?_
  refine rdy 3 fun K hK => ?_
  go_simp
  (refine (HM.out _ (by exact bl)).mono ?_) <;> rintro en w3 ⟨rfl, hb3⟩
  go_wp2_with fail
  refine hK.out _ _ ?_ (fun hHeld => ?_)
  ·try dsimp only
   first | done | exact trivial
  clear hK K
  refine ap ?_
  refine tS [4, 5] ?_
  iterate 2 (refine tC ?_; refine ap ?_)
  refine tN ?_
  refine tS [6, 7, 8, 9, 10, 11, 12, 13, 14, 15] ?_
  iterate 10 (refine tX ?_; refine ap ?_)
  refine tN ?_
  refine tS [16, 17] ?_
  iterate 2 (refine tC ?_; refine ap ?_)
  refine tN ?_
  refine wpAnyH_done (by kernel_rfl) ?_ _
  go_wp2_with fail
  go_ret
  exact ⟨rfl, HB10.out.drew.trans hb3⟩
 | some r =>
  have HR : Hid ((if N = 6 then some r else none) = R) := HR.out
  by_cases h6 : N = 6
  ·have hR : R = some r := by rw [← HR.out, if_pos h6]
   clear HR
   subst hR
   subst h6
   refine wp_region_held_drew (S := (fun Z => Z.cell? ⟨g, 0, none⟩ = some (.slice (some ⟨b1, o1, none⟩) 6 c))) (by kernel_rfl) ?_ (fun hHeld => ?_)
   ·try dsimp only
    first | exact HSA.out _ (by exact bl) | exact HSB.out _ (by exact bl)
   refine tS [0, 1, 2] ?_
   iterate 3 (refine tC ?_; refine ap ?_)
   refine tN ?_
   refine rdy 3 fun K hK => ?_
   go_simp
   (refine (HM.out _ (by exact bl)).mono ?_) <;> rintro en w3 ⟨rfl, hP3, hb3⟩ <;> have HSB : Hid (∀ Z : World, Below w3.heap.size w3 Z → Z.cell? ⟨g, 0, none⟩ = some (.slice (some ⟨b1, o1, none⟩) 6 c)) := (fun Z hz => HN.out ▸ (((hP3.below hz).blk.cell 0).trans hP3.c0)) <;> have x1 : w3.cell? ⟨g, 1, none⟩ = some (.int .i64 6) := (hP3.blk.cell 1).trans hP3.c1 <;> have HP3 := Lib.hid hP3 <;> clear hP3
   go_wp2_with fail
   refine hK.out _ _ ?_ (fun hHeld => ?_)
   ·try dsimp only
    first | exact HSA.out _ (by exact bl) | exact HSB.out _ (by exact bl)
   clear hK K
   refine ap ?_
   refine tS [4, 5, 6, 7, 8, 10, 11, 12, 13, 14] ?_
   iterate 10 (refine tC ?_; refine ap ?_)
   refine tN ?_
   refine rdy 9 fun K hK => ?_
   go_simp
   skip
   go_wp2_with fail
   refine hK.out _ _ ?_ (fun hHeld => ?_)
   ·try dsimp only
    first | exact HSA.out _ (by exact bl) | exact HSB.out _ (by exact bl)
   clear hK K
   refine ap ?_
   refine tS [15, 16, 17] ?_
   iterate 3 (refine tC ?_; refine ap ?_)
   refine tN ?_
   refine wpAnyH_done (by kernel_rfl) ?_ _
   go_wp2_with fail
   go_ret
   exact ⟨rfl, HP3.out, HB10.out.drew.trans hb3⟩
  ·have hR : R = none := by rw [← HR.out, if_neg h6]
   have e7 : ¬ (6 : Int) = (N : Int) := by omega
   have e6 : ((6 : Int) == (N : Int)) = false := by rw [beq_eq_false_iff_ne]; exact e7
   clear HR h6
   subst hR
   refine wp_region_held_drew (S := (fun Z => Z.cell? ⟨g, 0, none⟩ = some (.slice (some ⟨b1, o1, none⟩) N c))) (by kernel_rfl) ?_ (fun hHeld => ?_)
   ·try dsimp only
    first | exact HSA.out _ (by exact bl) | exact HSB.out _ (by exact bl)
   refine tS [0, 1, 2] ?_
   iterate 3 (refine tC ?_; refine ap ?_)
   refine tN ?_
   refine rdy 3 fun K hK => ?_
   go_simp
   (refine (HM.out _ (by exact bl)).mono ?_) <;> rintro en w3 ⟨rfl, hP3, hb3⟩ <;> have HSB : Hid (∀ Z : World, Below w3.heap.size w3 Z → Z.cell? ⟨g, 0, none⟩ = some (.slice (some ⟨b1, o1, none⟩) N c)) := (fun Z hz => HN.out ▸ (((hP3.below hz).blk.cell 0).trans hP3.c0)) <;> have x1 : w3.cell? ⟨g, 1, none⟩ = some (.int .i64 6) := (hP3.blk.cell 1).trans hP3.c1 <;> clear hP3
   go_wp2_with fail
   refine hK.out _ _ ?_ (fun hHeld => ?_)
   ·try dsimp only
    first | exact HSA.out _ (by exact bl) | exact HSB.out _ (by exact bl)
   clear hK K
   refine ap ?_
   refine tS [4, 5, 6, 7, 8, 10, 11, 12, 13, 14] ?_
   iterate 10 (refine tC ?_; refine ap ?_)
   refine tN ?_
   refine rdy 9 fun K hK => ?_
   go_simp
   skip
   go_wp2_with fail
   refine hK.out _ _ ?_ (fun hHeld => ?_)
   ·try dsimp only
    first | exact HSA.out _ (by exact bl) | exact HSB.out _ (by exact bl)
   clear hK K
   refine ap ?_
   refine tS [15, 16, 17] ?_
   iterate 3 (refine tC ?_; refine ap ?_)
   refine tN ?_
   refine wpAnyH_done (by kernel_rfl) ?_ _
   go_wp2_with fail
   go_ret
   exact ⟨rfl, HB10.out.drew.trans hb3⟩
end Go.Proofs.YtchilcchogcibaaGreatDoor
