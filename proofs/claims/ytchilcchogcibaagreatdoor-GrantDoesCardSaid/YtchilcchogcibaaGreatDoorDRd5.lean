/- The document's reader: a MIGRATE COPY of one column that is read. Condition: tokens that memory reaches.. -/
import Derived.Test.YtchilcchogcibaaGreatDoorDR5P
set_option maxRecDepth 100000
set_option maxHeartbeats 4000000
namespace Go.Proofs.YtchilcchogcibaaGreatDoor
open Go.RowKit
attribute [local go_sem] ByteArray.extract_mk ba_get ba_append
attribute [local go_sem ↓] Go.wp_at_zero Go.wp_at_succ
def migS (t o k : List UInt8) : St := ⟨oCopy, t, o, [k], [], [], [], [], ex0, [], [], ex0, []⟩
def migP (N : Nat) (cap : Nat) : StP := ⟨⟨some ⟨N, 0, none⟩, cap⟩, slZ, slZ, slZ, slZ, slZ, slZ, slZ⟩
def RetMig (g sb : Nat) (A : Option Addr) (c : Nat) (l : List Tok) (a : Nat) (t o k : List UInt8) (w : World) (e : Ending) (w' : World) : Prop :=
 ∃ N cap, e = .returned (.tuple #[]) ∧ RdS g A c l a true w' ∧ Blk w' sb 34 ((migS t o k).cells (migP N cap)).toArray ∧ w.heap.size ≤ N ∧ N < w'.heap.size ∧ w'.cell? ⟨N, 0, none⟩ = some (.string ⟨k.toArray⟩) ∧ But2 g sb w w'
theorem But2.of {g b : Nat} {w w' : World} (h : But g w w') : But2 g b w w' := ⟨h.os, h.tape, h.output, h.size, fun i hi h1 _ => h.block i hi h1⟩
theorem But2.ofS {g b : Nat} {w w' : World} (h : But b w w') : But2 g b w w' := ⟨h.os, h.tape, h.output, h.size, fun i hi _ h2 => h.block i hi h2⟩
theorem But2.trans {g b : Nat} {x y z : World} (h : But2 g b x y) (k : But2 g b y z) : But2 g b x z :=
 ⟨k.1.trans h.1, k.2.1.trans h.2.1, k.2.2.1.trans h.2.2.1, Nat.le_trans h.2.2.2.1 k.2.2.2.1, fun i hi h1 h2 => (k.2.2.2.2 i (Nat.lt_of_lt_of_le hi h.2.2.2.1) h1 h2).trans (h.2.2.2.2 i hi h1 h2)⟩
theorem RdS.far {g sb : Nat} {A : Option Addr} {c : Nat} {l : List Tok} {a : Nat} {ok : Bool} {w : World} (h : RdS g A c l a ok w) (hs : g < sb) (i : Nat) (v : Value) : RdS g A c l a ok (w.setCell ⟨sb, i, none⟩ v) :=
 ⟨Blk.below h.1 (bwS (Below.refl sb w) (Nat.le_refl _)) hs, h.2.below ((bwS (Below.refl sb w) (Nat.le_refl _)).mono (Nat.le_of_lt hs))⟩
def MigOk (g sb : Nat) (A : Option Addr) (c : Nat) (l : List Tok) (a : Nat) (t o k : List UInt8) (w w' : World) : Prop :=
 ∃ N cap, RdS g A c l a true w' ∧ Blk w' sb 34 ((migS t o k).cells (migP N cap)).toArray ∧ w.heap.size ≤ N ∧ N < w'.heap.size ∧ w'.cell? ⟨N, 0, none⟩ = some (.string ⟨k.toArray⟩) ∧ But2 g sb w w'
theorem mig_ok {g sb : Nat} {A : Option Addr} {c : Nat} {l : List Tok} {a : Nat} {t o k : List UInt8} {w W0 W : World} {N cap : Nat} (hs : g < sb) (hg : sb < W0.heap.size) (hP : RdS g A c l a true W0) (hk : Blk W0 sb 34 ((⟨oCopy, t, o, [], [], [], [], [], ex0, [], [], ex0, []⟩ : St).cells stPZ).toArray) (hB : But2 g sb w W0)
  (hb : Below W0.heap.size W0 W) (hN : W0.heap.size ≤ N) (hN2 : N < W.heap.size) (hc : W.cell? ⟨N, 0, none⟩ = some (.string ⟨k.toArray⟩)) : MigOk g sb A c l a t o k w (W.setCell ⟨sb, 3, none⟩ (.slice (some ⟨N, 0, none⟩) 1 cap)) := by
 have hw := hB.2.2.2.1
 refine ⟨N, cap, (hP.but hb).far hs 3 _, own_set (hk.below hb hg) 3 _ rfl, by omega, by simpa using hN2, ?_, hB.trans ((But2.of (But.of_below hb)).trans (.ofS ((But.refl _ _).set 3 _)))⟩
 exact (World.cell?_setCell_other _ _ _ _ (fun e => by have := congrArg Addr.block e; simp at this; omega)).trans hc
theorem rdmigrate_any (l : List Tok) (A : Option Addr) (c a g sb : Nat) (t o k : List UInt8) (w : World) (hl : l.length ≤ 1000) (ha : a + 7 ≤ l.length) (h : RdS g A c l a true w) (hs : g < sb) (ks : Blk w sb 34 ((stZ [] []).cells stPZ).toArray)
  (h1 : seeT l a [67, 79, 80, 89] = true) (h2 : rnameT l (a + 1) = some t) (h3 : seeT l (a + 2) [70, 82, 79, 77] = true) (h4 : rnameT l (a + 3) = some o) (h5 : seeT l (a + 4) [40] = true) (h6 : rnameT l (a + 5) = some k) (h7 : seeT l (a + 6) [44] = false) (h8 : seeT l (a + 6) [41] = true) (h9 : seeT l (a + 7) [67, 72, 69, 67, 75] = false) :
  Calls Tryz.prog 129 #[.pointer (some ⟨g, 0, none⟩), .pointer (some ⟨sb, 0, none⟩)] w (RetMig g sb A c l (a + 7) t o k w) := by
 have hg0 := Blk.lt h.1
 have hs0 := ks.lt
 have hC1 := rpass_any l A c a g true [67, 79, 80, 89] w (by omega) (by omega) h
 rw [h1] at hC1
 have H2 := Lib.hid h2
 have H3 := Lib.hid h3
 have H4 := Lib.hid h4
 have H5 := Lib.hid h5
 have H6 := Lib.hid h6
 have H7 := Lib.hid h7
 have H8 := Lib.hid h8
 have H9 := Lib.hid h9
 clear h1 h2 h3 h4 h5 h6 h7 h8 h9
 go_in
 go_wp2_with fail
 refine hC1.mono ?_
 rintro e w1 ⟨rfl, hQ, hb1⟩
 have hP1 : RdS g A c l (a + 1) true w1 := hQ
 have k1 := hb1.blk ks (by omega)
 have hB1 : But2 g sb w w1 := .of hb1
 clear hC1 hQ hb1 h ks
 have r0 : w1.cell? ⟨sb, 0, none⟩ = some (.string ⟨#[]⟩) := k1.cell 0
 have z0 := k1.frozen 0
 go_upto_region 7 with fail
 obtain ⟨w2, hw2⟩ : ∃ z, w1.setCell ⟨sb, 0, none⟩ (.string ⟨#[99, 111, 112, 121]⟩) = z := ⟨_, rfl⟩
 rw [hw2]
 have k2 : Blk w2 sb 34 ((stZ oCopy []).cells stPZ).toArray := by rw [← hw2]; exact own_set k1 0 _ rfl
 have hP2 : RdS g A c l (a + 1) true w2 := by rw [← hw2]; exact hP1.far hs 0 _
 have hB2 : But2 g sb w w2 := hB1.trans (.ofS (by rw [← hw2]; exact (But.refl _ _).set 0 _))
 clear hw2 r0 z0 k1 hP1 hB1
 have hC := rdname_any l A c (a + 1) g true w2 (by omega) hP2
 rw [H2.out] at hC
 go_wp2_with fail
 refine hC.mono ?_
 rintro e w3 ⟨rfl, hQ, hb3⟩
 have hP3 : RdS g A c l (a + 2) true w3 := hQ
 have k3 := hb3.blk k2 (by omega)
 have hB3 := hB2.trans (.of hb3)
 clear hC hQ hb3 k2 hP2 hB2
 have r1 : w3.cell? ⟨sb, 1, none⟩ = some (.string ⟨#[]⟩) := k3.cell 1
 have z1 := k3.frozen 1
 go_upto_region 8 with fail
 obtain ⟨w4, hw4⟩ : ∃ z, w3.setCell ⟨sb, 1, none⟩ (.string ⟨t.toArray⟩) = z := ⟨_, rfl⟩
 rw [hw4]
 have k4 : Blk w4 sb 34 ((stZ oCopy t).cells stPZ).toArray := by rw [← hw4]; exact own_set k3 1 _ rfl
 have hP4 : RdS g A c l (a + 2) true w4 := by rw [← hw4]; exact hP3.far hs 1 _
 have hB4 : But2 g sb w w4 := hB3.trans (.ofS (by rw [← hw4]; exact (But.refl _ _).set 1 _))
 clear hw4 r1 z1 k3 hP3 hB3
 have hC := rmust_any l A c (a + 2) g true [70, 82, 79, 77] w4 (by omega) (by omega) hP4
 rw [H3.out] at hC
 go_wp2_with fail
 refine hC.mono ?_
 rintro e w5 ⟨rfl, hQ, hb5⟩
 have hP5 : RdS g A c l (a + 3) true w5 := hQ
 have k5 := hb5.blk k4 (by omega)
 have hB5 := hB4.trans (.of hb5)
 clear hC hQ hb5 k4 hP4 hB4
 have hC := rdname_any l A c (a + 3) g true w5 (by omega) hP5
 rw [H4.out] at hC
 go_wp2_with fail
 refine hC.mono ?_
 rintro e w6 ⟨rfl, hQ, hb6⟩
 have hP6 : RdS g A c l (a + 4) true w6 := hQ
 have k6 := hb6.blk k5 (by omega)
 have hB6 := hB5.trans (.of hb6)
 clear hC hQ hb6 k5 hP5 hB5
 have r2 : w6.cell? ⟨sb, 2, none⟩ = some (.string ⟨#[]⟩) := k6.cell 2
 have z2 := k6.frozen 2
 go_upto_region 10 with fail
 obtain ⟨w7, hw7⟩ : ∃ z, w6.setCell ⟨sb, 2, none⟩ (.string ⟨o.toArray⟩) = z := ⟨_, rfl⟩
 rw [hw7]
 have k7 : Blk w7 sb 34 ((⟨oCopy, t, o, [], [], [], [], [], ex0, [], [], ex0, []⟩ : St).cells stPZ).toArray := by rw [← hw7]; exact own_set k6 2 _ rfl
 have hP7 : RdS g A c l (a + 4) true w7 := by rw [← hw7]; exact hP6.far hs 2 _
 have hB7 : But2 g sb w w7 := hB6.trans (.ofS (by rw [← hw7]; exact (But.refl _ _).set 2 _))
 clear hw7 r2 z2 k6 hP6 hB6
 have r0 : w7.cell? ⟨sb, 0, none⟩ = some (.string ⟨#[99, 111, 112, 121]⟩) := k7.cell 0
 have hC := rmust_any l A c (a + 4) g true [40] w7 (by omega) (by omega) hP7
 rw [H5.out] at hC
 go_wp2_with fail
 refine hC.mono ?_
 rintro e w8 ⟨rfl, hQ, hb8⟩
 have hP8 : RdS g A c l (a + 5) true w8 := hQ
 have k8 := hb8.blk k7 (by omega)
 have hB8 := hB7.trans (.of hb8)
 clear hC hQ hb8 k7 hP7 hB7 r0
 obtain ⟨⟨x0, x1, x2⟩, -⟩ := Blk.three hP8.1
 go_wp2_with fail
 refine wp_loop_rounds 3 ?_
 rw [rounds_succ]
 go_upto_region 16 with fail
 have hg8 := k8.lt
 have HP8 := Lib.hid hP8
 have HK8 := Lib.hid k8
 have HB8 := Lib.hid hB8
 obtain ⟨i0, hi0, zi0, zi1, zi2⟩ := info_parts infoStr
 have r3 : w8.cell? ⟨sb, 3, none⟩ = some (.slice none 0 0) := k8.cell 3
 have HCN : Hid (∀ Z : World, Below w8.heap.size w8 Z → Calls Tryz.prog 123 #[.pointer (some ⟨g, 0, none⟩)] Z (RetRd (.returned (.string ⟨k.toArray⟩)) g A c l (a + 6) true Z)) := fun Z hz => by
  have hC := rdname_any l A c (a + 5) g true Z (by omega) (hP8.but hz)
  rw [H6.out] at hC
  exact hC
 clear x0 x1 x2 hP8 k8 hB8
 have hB8' := HB8.out
 refine wp_region_held_drew (S := (fun _ => True)) (by kernel_rfl) ?_ (fun hHeld => ?_)
 ·try dsimp only
  first | done | trivial
 refine tS [0, 1, 2, 3, 5] ?_
 iterate 5 (refine tC ?_; refine ap ?_)
 refine tN ?_
 refine wpAnyH_ready (rs := [4, 6]) (by kernel_rfl) (by simp) ?_
 refine (AllReadyH.cons rfl (fun K hK => ?_) (AllReadyH.cons rfl (fun K hK => ?_) AllReadyH.nil))
 ·skip
  go_simp
  skip
  go_wp2_with fail
  refine hK.out _ _ ?_ (fun hHeld => ?_)
  ·try dsimp only
   first | done | trivial
  clear hK K
  refine ap ?_
  refine rdy 6 fun K hK => ?_
  go_simp
  (refine (HCN.out _ (by exact bl)).mono ?_) <;> rintro e w6 ⟨rfl, hP9, hb9⟩ <;> have k9 : Blk w6 sb 34 ((⟨oCopy, t, o, [], [], [], [], [], ex0, [], [], ex0, []⟩ : St).cells stPZ).toArray := hb9.blk (by first | exact HK8.out.drew | exact HK8.out) (by omega) <;> have r9 : w6.cell? ⟨sb, 3, none⟩ = some (.slice none 0 0) := k9.cell 3 <;> have r9a : (w6.alloc (.cells #[.string ⟨k.toArray⟩] 9)).cell? ⟨sb, 3, none⟩ = some (.slice none 0 0) := (k9.alloc _).cell 3 <;> have hz9 := hb9.size
  go_wp2_with fail
  refine hK.out _ _ ?_ (fun hHeld => ?_)
  ·try dsimp only
   first | done | trivial
  clear hK K
  refine ap ?_
  refine rdy 7 fun K hK => ?_
  go_simp
  skip
  go_wp2_with fail
  refine hK.out _ _ ?_ (fun hHeld => ?_)
  ·try dsimp only
   first | done | trivial
  clear hK K
  refine ap ?_
  refine rdy 8 fun K hK => ?_
  refine step_append_lies _ rfl (.tmp 59) (.tmp 62) 23 rfl 0 9 i0 _ 1 16 Tryz.underlying23 hi0 zi0 zi1 zi2 rfl (by decide) (.slice none 0 0) 0 [] (by simp [Act.eval]) (World.ownsRow_nil _ _ _ _) ⟨w6.heap.size, 0, none⟩ 1 1 [.string ⟨k.toArray⟩] (by simp [Act.eval]) rfl (World.news_of_block (cs := #[.string ⟨k.toArray⟩]) (t := 9) (fr := (0, 0)) (heap_alloc_new w6 _)) (by simp [Value.oneCell']) (by omega) (by unfold maxLen; omega) (by omega) (by simp) _ rfl ?_; intro g5 cap w9 hown9 hg9 hor9 hl9; have k5 : Blk w9 sb 34 ((⟨oCopy, t, o, [], [], [], [], [], ex0, [], [], ex0, []⟩ : St).cells stPZ).toArray := (k9.alloc (.cells #[.string ⟨k.toArray⟩] 9)).grown hg9 (fun e => by simp [Value.ownBlock] at e); have f5 := k5.frozen 3; have c5 : w9.cell? ⟨sb, 3, none⟩ = some (.slice none 0 0) := k5.cell 3
  refine hK.out _ _ ?_ (fun hHeld => ?_)
  ·try dsimp only
   first | done | trivial
  clear hK K
  refine ap ?_
  refine tS [9, 10] ?_
  iterate 2 (refine tC ?_; refine ap ?_)
  refine tN ?_
  refine rdy 11 fun K hK => ?_
  go_simp
  skip
  go_wp2_with fail
  refine hK.out _ _ ?_ (fun hHeld => ?_)
  ·try dsimp only
   first | done | trivial
  clear hK K
  refine ap ?_
  refine wpAnyH_done (by kernel_rfl) ?_ _
  have hc9 : w9.cell? ⟨g5, 0, none⟩ = some (.string ⟨k.toArray⟩) := by
   have hc := hown9.cells (g := g5) rfl 0 _ rfl
   simpa [Addr.add] using hc
  have hb69 : Below w6.heap.size w6 w9 := Below.grown ((Below.refl _ _).alloc (Nat.le_refl _) _) hg9 (by simp) (fun k hk => by simp [Value.ownBlock] at hk)
  have hN6 : w6.heap.size ≤ g5 := by
   rcases hor9 with h | h
   ·simp [Value.ownBlock] at h
   ·rw [h]; simp
  have hM := mig_ok (cap := cap) hs k9.lt hP9 k9 (HB8.out.trans (.of (((But.refl g w8).after (bwD bwR)).trans hb9))) hb69 hN6 hl9 hc9
  obtain ⟨wz, hwz⟩ : ∃ z, w9.setCell ⟨sb, 3, none⟩ (.slice (some ⟨g5, 0, none⟩) 1 cap) = z := ⟨_, rfl⟩
  rw [hwz] at hM ⊢
  clear hwz hc9 hb69 hN6 hown9 hg9 hor9 hl9 k5 f5 c5 r9 r9a k9 hP9 hb9 hz9 r3
  obtain ⟨N, cp, hP10, k10, hN1, hN2, hcN, hB10⟩ := hM
  have hC := rpass_any l A c (a + 6) g true [44] wz (by omega) (by omega) hP10
  rw [H7.out] at hC
  go_wp2_with fail
  refine hC.mono ?_
  rintro e wa ⟨rfl, hQ, hba⟩
  have hP11 : RdS g A c l (a + 6) true wa := hQ
  have k11 := hba.blk k10 (by omega)
  have hcA := (hba.cell hN2 (by omega) 0).trans hcN
  have hB11 := hB10.trans (.of hba)
  have hNA := Nat.lt_of_lt_of_le hN2 hba.size
  clear hC hQ hba k10 hP10 hB10 hcN hN2
  go_wp2_with fail
  rw [rounds_succ]
  have hC := rmust_any l A c (a + 6) g true [41] wa (by omega) (by omega) hP11
  rw [H8.out] at hC
  go_wp2_with fail
  refine hC.mono ?_
  rintro e wb ⟨rfl, hQ, hbb⟩
  have hP12 : RdS g A c l (a + 7) true wb := hQ
  have k12 := hbb.blk k11 (by omega)
  have hcB := (hbb.cell hNA (by omega) 0).trans hcA
  have hB12 := hB11.trans (.of hbb)
  have hNB := Nat.lt_of_lt_of_le hNA hbb.size
  clear hC hQ hbb k11 hP11 hB11 hcA hNA
  have hC := rdcond_none l A c (a + 7) g true [67, 72, 69, 67, 75] wb (by omega) (by omega) hP12 H9.out
  go_wp2_with fail
  refine hC.mono ?_
  rintro e wc ⟨rfl, hQ, hbc⟩
  have hP13 : RdS g A c l (a + 7) true wc := hQ
  have k13 := hbc.blk k12 (by omega)
  have hcC := (hbc.cell hNB (by omega) 0).trans hcB
  have hB13 := hB12.trans (.of hbc)
  have hNC := Nat.lt_of_lt_of_le hNB hbc.size
  clear hC hQ hbc k12 hP12 hB12 hcB hNB
  have r8 : wc.cell? ⟨sb, 8, none⟩ = some (.string ⟨#[]⟩) := k13.cell 8
  have z8 := k13.frozen 8
  have r9 : wc.cell? ⟨sb, 9, none⟩ = some (.int .i64 0) := k13.cell 9
  have z9 := k13.frozen 9
  have r10 : wc.cell? ⟨sb, 10, none⟩ = some (.int .i64 0) := k13.cell 10
  have z10 := k13.frozen 10
  have r11 : wc.cell? ⟨sb, 11, none⟩ = some (.string ⟨#[]⟩) := k13.cell 11
  have z11 := k13.frozen 11
  have r12 : wc.cell? ⟨sb, 12, none⟩ = some (.string ⟨#[]⟩) := k13.cell 12
  have z12 := k13.frozen 12
  have r13 : wc.cell? ⟨sb, 13, none⟩ = some (.slice none 0 0) := k13.cell 13
  have z13 := k13.frozen 13
  go_wp2_with fail
  refine bodyPost_ret (v := .tuple #[]) (by simp [results, Tryz.results129, go_sem, *]) rfl ?_
  refine ⟨N, cp, rfl, (((((hP13.far hs 8 _).far hs 9 _).far hs 10 _).far hs 11 _).far hs 12 _).far hs 13 _, blk_eq (own_set6 k13 8 ex0 none 0 rfl) (by simp only [St.cells, migS, migP, slZ, List.setIfInBounds_toArray, List.set_cons_zero, List.set_cons_succ]; first | done | rfl), hN1, by simpa using hNC, ?_, hB13.trans (.ofS ((((((But.refl _ _).set 8 _).set 9 _).set 10 _).set 11 _).set 12 _ |>.set 13 _))⟩
  iterate 6 refine (World.cell?_setCell_other _ _ _ _ (fun e => by have := congrArg Addr.block e; simp at this; omega)).trans ?_
  exact hcC
 ·skip
  go_simp
  (refine (HCN.out _ (by exact bl)).mono ?_) <;> rintro e w6 ⟨rfl, hP9, hb9⟩ <;> have k9 : Blk w6 sb 34 ((⟨oCopy, t, o, [], [], [], [], [], ex0, [], [], ex0, []⟩ : St).cells stPZ).toArray := hb9.blk (by first | exact HK8.out.drew | exact HK8.out) (by omega) <;> have r9 : w6.cell? ⟨sb, 3, none⟩ = some (.slice none 0 0) := k9.cell 3 <;> have r9a : (w6.alloc (.cells #[.string ⟨k.toArray⟩] 9)).cell? ⟨sb, 3, none⟩ = some (.slice none 0 0) := (k9.alloc _).cell 3 <;> have hz9 := hb9.size
  go_wp2_with fail
  refine hK.out _ _ ?_ (fun hHeld => ?_)
  ·try dsimp only
   first | done | trivial
  clear hK K
  refine ap ?_
  refine wpAnyH_ready (rs := [4, 7]) (by kernel_rfl) (by simp) ?_
  refine (AllReadyH.cons rfl (fun K hK => ?_) (AllReadyH.cons rfl (fun K hK => ?_) AllReadyH.nil))
  ·skip
   go_simp
   skip
   go_wp2_with fail
   refine hK.out _ _ ?_ (fun hHeld => ?_)
   ·try dsimp only
    first | done | trivial
   clear hK K
   refine ap ?_
   refine rdy 7 fun K hK => ?_
   go_simp
   skip
   go_wp2_with fail
   refine hK.out _ _ ?_ (fun hHeld => ?_)
   ·try dsimp only
    first | done | trivial
   clear hK K
   refine ap ?_
   refine rdy 8 fun K hK => ?_
   refine step_append_lies _ rfl (.tmp 59) (.tmp 62) 23 rfl 0 9 i0 _ 1 16 Tryz.underlying23 hi0 zi0 zi1 zi2 rfl (by decide) (.slice none 0 0) 0 [] (by simp [Act.eval]) (World.ownsRow_nil _ _ _ _) ⟨w6.heap.size, 0, none⟩ 1 1 [.string ⟨k.toArray⟩] (by simp [Act.eval]) rfl (World.news_of_block (cs := #[.string ⟨k.toArray⟩]) (t := 9) (fr := (0, 0)) (heap_alloc_new w6 _)) (by simp [Value.oneCell']) (by omega) (by unfold maxLen; omega) (by omega) (by simp) _ rfl ?_; intro g5 cap w9 hown9 hg9 hor9 hl9; have k5 : Blk w9 sb 34 ((⟨oCopy, t, o, [], [], [], [], [], ex0, [], [], ex0, []⟩ : St).cells stPZ).toArray := (k9.alloc (.cells #[.string ⟨k.toArray⟩] 9)).grown hg9 (fun e => by simp [Value.ownBlock] at e); have f5 := k5.frozen 3; have c5 : w9.cell? ⟨sb, 3, none⟩ = some (.slice none 0 0) := k5.cell 3
   refine hK.out _ _ ?_ (fun hHeld => ?_)
   ·try dsimp only
    first | done | trivial
   clear hK K
   refine ap ?_
   refine tS [9, 10] ?_
   iterate 2 (refine tC ?_; refine ap ?_)
   refine tN ?_
   refine rdy 11 fun K hK => ?_
   go_simp
   skip
   go_wp2_with fail
   refine hK.out _ _ ?_ (fun hHeld => ?_)
   ·try dsimp only
    first | done | trivial
   clear hK K
   refine ap ?_
   refine wpAnyH_done (by kernel_rfl) ?_ _
   have hc9 : w9.cell? ⟨g5, 0, none⟩ = some (.string ⟨k.toArray⟩) := by
    have hc := hown9.cells (g := g5) rfl 0 _ rfl
    simpa [Addr.add] using hc
   have hb69 : Below w6.heap.size w6 w9 := Below.grown ((Below.refl _ _).alloc (Nat.le_refl _) _) hg9 (by simp) (fun k hk => by simp [Value.ownBlock] at hk)
   have hN6 : w6.heap.size ≤ g5 := by
    rcases hor9 with h | h
    ·simp [Value.ownBlock] at h
    ·rw [h]; simp
   have hM := mig_ok (cap := cap) hs k9.lt hP9 k9 (HB8.out.trans (.of (((But.refl g w8).after (bwD bwR)).trans hb9))) hb69 hN6 hl9 hc9
   obtain ⟨wz, hwz⟩ : ∃ z, w9.setCell ⟨sb, 3, none⟩ (.slice (some ⟨g5, 0, none⟩) 1 cap) = z := ⟨_, rfl⟩
   rw [hwz] at hM ⊢
   clear hwz hc9 hb69 hN6 hown9 hg9 hor9 hl9 k5 f5 c5 r9 r9a k9 hP9 hb9 hz9 r3
   obtain ⟨N, cp, hP10, k10, hN1, hN2, hcN, hB10⟩ := hM
   have hC := rpass_any l A c (a + 6) g true [44] wz (by omega) (by omega) hP10
   rw [H7.out] at hC
   go_wp2_with fail
   refine hC.mono ?_
   rintro e wa ⟨rfl, hQ, hba⟩
   have hP11 : RdS g A c l (a + 6) true wa := hQ
   have k11 := hba.blk k10 (by omega)
   have hcA := (hba.cell hN2 (by omega) 0).trans hcN
   have hB11 := hB10.trans (.of hba)
   have hNA := Nat.lt_of_lt_of_le hN2 hba.size
   clear hC hQ hba k10 hP10 hB10 hcN hN2
   go_wp2_with fail
   rw [rounds_succ]
   have hC := rmust_any l A c (a + 6) g true [41] wa (by omega) (by omega) hP11
   rw [H8.out] at hC
   go_wp2_with fail
   refine hC.mono ?_
   rintro e wb ⟨rfl, hQ, hbb⟩
   have hP12 : RdS g A c l (a + 7) true wb := hQ
   have k12 := hbb.blk k11 (by omega)
   have hcB := (hbb.cell hNA (by omega) 0).trans hcA
   have hB12 := hB11.trans (.of hbb)
   have hNB := Nat.lt_of_lt_of_le hNA hbb.size
   clear hC hQ hbb k11 hP11 hB11 hcA hNA
   have hC := rdcond_none l A c (a + 7) g true [67, 72, 69, 67, 75] wb (by omega) (by omega) hP12 H9.out
   go_wp2_with fail
   refine hC.mono ?_
   rintro e wc ⟨rfl, hQ, hbc⟩
   have hP13 : RdS g A c l (a + 7) true wc := hQ
   have k13 := hbc.blk k12 (by omega)
   have hcC := (hbc.cell hNB (by omega) 0).trans hcB
   have hB13 := hB12.trans (.of hbc)
   have hNC := Nat.lt_of_lt_of_le hNB hbc.size
   clear hC hQ hbc k12 hP12 hB12 hcB hNB
   have r8 : wc.cell? ⟨sb, 8, none⟩ = some (.string ⟨#[]⟩) := k13.cell 8
   have z8 := k13.frozen 8
   have r9 : wc.cell? ⟨sb, 9, none⟩ = some (.int .i64 0) := k13.cell 9
   have z9 := k13.frozen 9
   have r10 : wc.cell? ⟨sb, 10, none⟩ = some (.int .i64 0) := k13.cell 10
   have z10 := k13.frozen 10
   have r11 : wc.cell? ⟨sb, 11, none⟩ = some (.string ⟨#[]⟩) := k13.cell 11
   have z11 := k13.frozen 11
   have r12 : wc.cell? ⟨sb, 12, none⟩ = some (.string ⟨#[]⟩) := k13.cell 12
   have z12 := k13.frozen 12
   have r13 : wc.cell? ⟨sb, 13, none⟩ = some (.slice none 0 0) := k13.cell 13
   have z13 := k13.frozen 13
   go_wp2_with fail
   refine bodyPost_ret (v := .tuple #[]) (by simp [results, Tryz.results129, go_sem, *]) rfl ?_
   refine ⟨N, cp, rfl, (((((hP13.far hs 8 _).far hs 9 _).far hs 10 _).far hs 11 _).far hs 12 _).far hs 13 _, blk_eq (own_set6 k13 8 ex0 none 0 rfl) (by simp only [St.cells, migS, migP, slZ, List.setIfInBounds_toArray, List.set_cons_zero, List.set_cons_succ]; first | done | rfl), hN1, by simpa using hNC, ?_, hB13.trans (.ofS ((((((But.refl _ _).set 8 _).set 9 _).set 10 _).set 11 _).set 12 _ |>.set 13 _))⟩
   iterate 6 refine (World.cell?_setCell_other _ _ _ _ (fun e => by have := congrArg Addr.block e; simp at this; omega)).trans ?_
   exact hcC
  ·skip
   go_simp
   skip
   go_wp2_with fail
   refine hK.out _ _ ?_ (fun hHeld => ?_)
   ·try dsimp only
    first | done | trivial
   clear hK K
   refine ap ?_
   refine rdy 4 fun K hK => ?_
   go_simp
   skip
   go_wp2_with fail
   refine hK.out _ _ ?_ (fun hHeld => ?_)
   ·try dsimp only
    first | done | trivial
   clear hK K
   refine ap ?_
   refine rdy 8 fun K hK => ?_
   refine step_append_lies _ rfl (.tmp 59) (.tmp 62) 23 rfl 0 9 i0 _ 1 16 Tryz.underlying23 hi0 zi0 zi1 zi2 rfl (by decide) (.slice none 0 0) 0 [] (by simp [Act.eval]) (World.ownsRow_nil _ _ _ _) ⟨w6.heap.size, 0, none⟩ 1 1 [.string ⟨k.toArray⟩] (by simp [Act.eval]) rfl (World.news_of_block (cs := #[.string ⟨k.toArray⟩]) (t := 9) (fr := (0, 0)) (heap_alloc_new w6 _)) (by simp [Value.oneCell']) (by omega) (by unfold maxLen; omega) (by omega) (by simp) _ rfl ?_; intro g5 cap w9 hown9 hg9 hor9 hl9; have k5 : Blk w9 sb 34 ((⟨oCopy, t, o, [], [], [], [], [], ex0, [], [], ex0, []⟩ : St).cells stPZ).toArray := (k9.alloc (.cells #[.string ⟨k.toArray⟩] 9)).grown hg9 (fun e => by simp [Value.ownBlock] at e); have f5 := k5.frozen 3; have c5 : w9.cell? ⟨sb, 3, none⟩ = some (.slice none 0 0) := k5.cell 3
   refine hK.out _ _ ?_ (fun hHeld => ?_)
   ·try dsimp only
    first | done | trivial
   clear hK K
   refine ap ?_
   refine tS [9, 10] ?_
   iterate 2 (refine tC ?_; refine ap ?_)
   refine tN ?_
   refine rdy 11 fun K hK => ?_
   go_simp
   skip
   go_wp2_with fail
   refine hK.out _ _ ?_ (fun hHeld => ?_)
   ·try dsimp only
    first | done | trivial
   clear hK K
   refine ap ?_
   refine wpAnyH_done (by kernel_rfl) ?_ _
   have hc9 : w9.cell? ⟨g5, 0, none⟩ = some (.string ⟨k.toArray⟩) := by
    have hc := hown9.cells (g := g5) rfl 0 _ rfl
    simpa [Addr.add] using hc
   have hb69 : Below w6.heap.size w6 w9 := Below.grown ((Below.refl _ _).alloc (Nat.le_refl _) _) hg9 (by simp) (fun k hk => by simp [Value.ownBlock] at hk)
   have hN6 : w6.heap.size ≤ g5 := by
    rcases hor9 with h | h
    ·simp [Value.ownBlock] at h
    ·rw [h]; simp
   have hM := mig_ok (cap := cap) hs k9.lt hP9 k9 (HB8.out.trans (.of (((But.refl g w8).after (bwD bwR)).trans hb9))) hb69 hN6 hl9 hc9
   obtain ⟨wz, hwz⟩ : ∃ z, w9.setCell ⟨sb, 3, none⟩ (.slice (some ⟨g5, 0, none⟩) 1 cap) = z := ⟨_, rfl⟩
   rw [hwz] at hM ⊢
   clear hwz hc9 hb69 hN6 hown9 hg9 hor9 hl9 k5 f5 c5 r9 r9a k9 hP9 hb9 hz9 r3
   obtain ⟨N, cp, hP10, k10, hN1, hN2, hcN, hB10⟩ := hM
   have hC := rpass_any l A c (a + 6) g true [44] wz (by omega) (by omega) hP10
   rw [H7.out] at hC
   go_wp2_with fail
   refine hC.mono ?_
   rintro e wa ⟨rfl, hQ, hba⟩
   have hP11 : RdS g A c l (a + 6) true wa := hQ
   have k11 := hba.blk k10 (by omega)
   have hcA := (hba.cell hN2 (by omega) 0).trans hcN
   have hB11 := hB10.trans (.of hba)
   have hNA := Nat.lt_of_lt_of_le hN2 hba.size
   clear hC hQ hba k10 hP10 hB10 hcN hN2
   go_wp2_with fail
   rw [rounds_succ]
   have hC := rmust_any l A c (a + 6) g true [41] wa (by omega) (by omega) hP11
   rw [H8.out] at hC
   go_wp2_with fail
   refine hC.mono ?_
   rintro e wb ⟨rfl, hQ, hbb⟩
   have hP12 : RdS g A c l (a + 7) true wb := hQ
   have k12 := hbb.blk k11 (by omega)
   have hcB := (hbb.cell hNA (by omega) 0).trans hcA
   have hB12 := hB11.trans (.of hbb)
   have hNB := Nat.lt_of_lt_of_le hNA hbb.size
   clear hC hQ hbb k11 hP11 hB11 hcA hNA
   have hC := rdcond_none l A c (a + 7) g true [67, 72, 69, 67, 75] wb (by omega) (by omega) hP12 H9.out
   go_wp2_with fail
   refine hC.mono ?_
   rintro e wc ⟨rfl, hQ, hbc⟩
   have hP13 : RdS g A c l (a + 7) true wc := hQ
   have k13 := hbc.blk k12 (by omega)
   have hcC := (hbc.cell hNB (by omega) 0).trans hcB
   have hB13 := hB12.trans (.of hbc)
   have hNC := Nat.lt_of_lt_of_le hNB hbc.size
   clear hC hQ hbc k12 hP12 hB12 hcB hNB
   have r8 : wc.cell? ⟨sb, 8, none⟩ = some (.string ⟨#[]⟩) := k13.cell 8
   have z8 := k13.frozen 8
   have r9 : wc.cell? ⟨sb, 9, none⟩ = some (.int .i64 0) := k13.cell 9
   have z9 := k13.frozen 9
   have r10 : wc.cell? ⟨sb, 10, none⟩ = some (.int .i64 0) := k13.cell 10
   have z10 := k13.frozen 10
   have r11 : wc.cell? ⟨sb, 11, none⟩ = some (.string ⟨#[]⟩) := k13.cell 11
   have z11 := k13.frozen 11
   have r12 : wc.cell? ⟨sb, 12, none⟩ = some (.string ⟨#[]⟩) := k13.cell 12
   have z12 := k13.frozen 12
   have r13 : wc.cell? ⟨sb, 13, none⟩ = some (.slice none 0 0) := k13.cell 13
   have z13 := k13.frozen 13
   go_wp2_with fail
   refine bodyPost_ret (v := .tuple #[]) (by simp [results, Tryz.results129, go_sem, *]) rfl ?_
   refine ⟨N, cp, rfl, (((((hP13.far hs 8 _).far hs 9 _).far hs 10 _).far hs 11 _).far hs 12 _).far hs 13 _, blk_eq (own_set6 k13 8 ex0 none 0 rfl) (by simp only [St.cells, migS, migP, slZ, List.setIfInBounds_toArray, List.set_cons_zero, List.set_cons_succ]; first | done | rfl), hN1, by simpa using hNC, ?_, hB13.trans (.ofS ((((((But.refl _ _).set 8 _).set 9 _).set 10 _).set 11 _).set 12 _ |>.set 13 _))⟩
   iterate 6 refine (World.cell?_setCell_other _ _ _ _ (fun e => by have := congrArg Addr.block e; simp at this; omega)).trans ?_
   exact hcC
end Go.Proofs.YtchilcchogcibaaGreatDoor
