/- slices.Insert at grants: one more at a place. Condition: a row of the call's own of no more than 1000 grants; the new one in another block.. -/
import Derived.Test.YtchilcchogcibaaGreatDoorDStTok
set_option maxRecDepth 100000
set_option maxHeartbeats 4000000
namespace Go.Proofs.YtchilcchogcibaaGreatDoor
open Go.RowKit
attribute [local go_sem] ByteArray.extract_mk ba_get ba_append
attribute [local go_sem ↓] Go.wp_at_zero Go.wp_at_succ
def RetOG (base : Nat) (l : List Gr) (w : World) (en : Ending) (w' : World) : Prop := ∃ sv, en = .returned sv ∧ w'.ownsRow base 54 3 sv l.length (gcs l) ∧ Below base w w'
theorem gcs_take (l : List Gr) (i : Nat) : gcs (l.take i) = (gcs l).take (i * 3) ∧ gcs (l.drop i) = (gcs l).drop (i * 3) := by
 by_cases hi : i ≤ l.length
 ·have e : gcs l = gcs (l.take i) ++ gcs (l.drop i) := by rw [← gcs_app, List.take_append_drop]
  have hlen : (gcs (l.take i)).length = i * 3 := by rw [gcs_len, List.length_take]; omega
  rw [e]
  exact ⟨(List.take_left' hlen).symm, (List.drop_left' hlen).symm⟩
 ·rw [List.take_of_length_le (by omega), List.drop_of_length_le (by omega), List.take_of_length_le (by rw [gcs_len]; omega), List.drop_of_length_le (by rw [gcs_len]; omega)]
  exact ⟨rfl, rfl⟩
def zGr : Value := .agg #[.string ⟨#[]⟩, .string ⟨#[]⟩, .bool false]
theorem insG_end (base : Nat) (A : Option Addr) (c : Nat) (l : List Gr) (vb : Nat) (x : Gr) (w : World) (hl : l.length ≤ 1000) (hbw : base ≤ w.heap.size) (hc : l.length ≤ c) (hown : w.ownsRow base 54 3 (.slice A l.length c) l.length (gcs l))
  (kv : Blk w vb 54 #[.string ⟨x.r.toArray⟩, .string ⟨x.t.toArray⟩, .bool x.w]) :
  Calls Tryz.prog 63 #[.slice A l.length c, .int .i64 l.length, .slice (some ⟨vb, 0, none⟩) 1 1] w (RetOG base (l ++ [x]) w) := by
 obtain ⟨i0, hi0, zi0, zi1, zi2⟩ := info_parts infoGr
 obtain ⟨N, hN⟩ : ∃ N, l.length = N := ⟨_, rfl⟩
 have HL := Lib.hid hN
 obtain ⟨L, hL⟩ : ∃ L, gcs l = L := ⟨_, rfl⟩
 have HG := Lib.hid hL
 rw [hN] at hl hc hown ⊢
 rw [hL] at hown
 have HO := Lib.hid hown
 have HLT := Lib.hid hown.lt
 have HK := Lib.hid kv
 clear hN hL hown kv
 by_cases hcn : N = c
 ·subst hcn
  cases A
  all_goals
   go_in
   go_wp2_with (at_builtin; refine wpList_append_own _ rfl _ _ 22 rfl base 54 i0 _ 3 40 Tryz.underlying22 hi0 zi0 zi1 zi2 rfl (by decide) _ _ _ rfl HO.out ⟨vb, 0, none⟩ 1 1 [.string ⟨x.r.toArray⟩, .string ⟨x.t.toArray⟩, .bool x.w] rfl rfl ?c1 ?c2 ?c3 ?c4 ?c5 ?_)
   case c1 => exact World.news_of_block (cs := #[.string ⟨x.r.toArray⟩, .string ⟨x.t.toArray⟩, .bool x.w]) (t := 54) (fr := (0, 0)) HK.out
   case c2 => intro u hu; simp at hu; rcases hu with rfl | rfl | rfl <;> rfl
   case c3 => unfold maxLen; omega
   case c4 => omega
   case c5 => omega
   intro v' w2 hown2 hg2 _
   have hb2 : Below base w w2 := (Below.refl base w).grown hg2 hbw (fun k hk => (HLT.out k hk).1)
   have HO2 : Hid (w2.ownsRow base 54 3 v' (N + 1) (L ++ [.string ⟨x.r.toArray⟩, .string ⟨x.t.toArray⟩, .bool x.w])) := hown2
   clear hown2 hg2
   go_wp2_with fail
   go_ret
   refine ⟨_, rfl, ?_, hb2⟩
   rw [List.length_append, HL.out, gcs_snoc, HG.out]
   exact HO2.out
 ·have hcn' : ¬ c = N := fun h => hcn h.symm
  cases A
  all_goals
   go_in
   go_wp2_with (at_builtin; refine wpList_append_own _ rfl _ _ 22 rfl base 54 i0 _ 3 40 Tryz.underlying22 hi0 zi0 zi1 zi2 rfl (by decide) _ _ _ rfl HO.out ⟨vb, 0, none⟩ 1 1 [.string ⟨x.r.toArray⟩, .string ⟨x.t.toArray⟩, .bool x.w] rfl rfl ?c1 ?c2 ?c3 ?c4 ?c5 ?_)
   case c1 => exact World.news_of_block (cs := #[.string ⟨x.r.toArray⟩, .string ⟨x.t.toArray⟩, .bool x.w]) (t := 54) (fr := (0, 0)) HK.out
   case c2 => intro u hu; simp at hu; rcases hu with rfl | rfl | rfl <;> rfl
   case c3 => unfold maxLen; omega
   case c4 => omega
   case c5 => omega
   intro v' w2 hown2 hg2 _
   have hb2 : Below base w w2 := (Below.refl base w).grown hg2 hbw (fun k hk => (HLT.out k hk).1)
   have HO2 : Hid (w2.ownsRow base 54 3 v' (N + 1) (L ++ [.string ⟨x.r.toArray⟩, .string ⟨x.t.toArray⟩, .bool x.w])) := hown2
   clear hown2 hg2
   go_wp2_with fail
   go_ret
   refine ⟨_, rfl, ?_, hb2⟩
   rw [List.length_append, HL.out, gcs_snoc, HG.out]
   exact HO2.out
theorem row_put {P D S X : List Value} {a n : Nat} (hP : P.length = a * 3) (hD : D.length = n * 3) (hX : X.length = 3) (hS : 3 ≤ S.length) (C : List Value) (hC : C = (P ++ (D ++ S)).take ((a + 1) * 3) ++ D ++ (P ++ (D ++ S)).drop ((a + 1) * 3 + D.length)) :
  C.take (a * 3) ++ X ++ C.drop (a * 3 + X.length) = P ++ (X ++ (D ++ S.drop 3)) ∧ C.length = (P ++ (D ++ S)).length := by
 have e1 : (P ++ (D ++ S)).take ((a + 1) * 3) = P ++ (D ++ S).take 3 := by
  rw [List.take_append, List.take_of_length_le (by omega), show (a + 1) * 3 - P.length = 3 by omega]
 have e2 : (P ++ (D ++ S)).drop ((a + 1) * 3 + D.length) = S.drop 3 := by
  rw [List.drop_append, List.drop_of_length_le (by omega), List.nil_append, show (a + 1) * 3 + D.length - P.length = D.length + 3 by omega, ← List.drop_drop, List.drop_left']
  rfl
 rw [e1, e2] at hC
 have hT : ((D ++ S).take 3).length = 3 := by rw [List.length_take, List.length_append]; omega
 have e3 : C = P ++ ((D ++ S).take 3 ++ (D ++ S.drop 3)) := by rw [hC]; simp
 refine ⟨?_, ?_⟩
 ·rw [e3, List.take_left' hP, hX, ← List.drop_drop, List.drop_left' hP, List.drop_left' hT]
  simp
 ·rw [e3]
  simp only [List.length_append, hT, List.length_drop]
  omega
theorem insG_shift (base g cap i vb : Nat) (l : List Gr) (x : Gr) (cur : Array Value) (w : World) (hi : i < l.length) (hl : l.length ≤ 1000) (hroom : l.length + 1 ≤ cap) (hg : Blk w g 54 cur) (hb : base ≤ g) (hcs : cur.size = cap * 3) (hcm : cap ≤ maxLen)
  (htk : cur.toList.take (l.length * 3) = gcs l) (kv : Blk w vb 54 #[.string ⟨x.r.toArray⟩, .string ⟨x.t.toArray⟩, .bool x.w]) (hvb : vb ≠ g) :
  Calls Tryz.prog 63 #[.slice (some ⟨g, 0, none⟩) l.length cap, .int .i64 i, .slice (some ⟨vb, 0, none⟩) 1 1] w (RetOG base (l.take i ++ x :: l.drop i) w) := by
 obtain ⟨i0, hi0, zi0, zi1, zi2⟩ := info_parts infoGr
 have hsz : (Tryz.prog.info? 54).map (·.size) = some 3 := by rw [hi0]; simp [zi1]
 obtain ⟨h1, h2⟩ := gcs_take l i
 obtain ⟨N, hN⟩ : ∃ N, l.length = N := ⟨_, rfl⟩
 obtain ⟨P, hP⟩ : ∃ P, gcs (l.take i) = P := ⟨_, rfl⟩
 obtain ⟨D, hD⟩ : ∃ D, gcs (l.drop i) = D := ⟨_, rfl⟩
 obtain ⟨S, hS⟩ : ∃ S, cur.toList.drop (l.length * 3) = S := ⟨_, rfl⟩
 obtain ⟨X, hX⟩ : ∃ X : List Value, [.string ⟨x.r.toArray⟩, .string ⟨x.t.toArray⟩, .bool x.w] = X := ⟨_, rfl⟩
 have hPl : P.length = i * 3 := by rw [← hP, gcs_len, List.length_take]; omega
 have hDl : D.length = (N - i) * 3 := by rw [← hD, gcs_len, List.length_drop, hN]
 have hXl : X.length = 3 := by rw [← hX]; rfl
 have hSl : S.length = (cap - N) * 3 := by rw [← hS, List.length_drop, Array.length_toList, hcs, hN]; omega
 have hcur : cur.toList = P ++ (D ++ S) := by rw [← List.append_assoc, ← hP, ← hD, ← gcs_app, List.take_append_drop, ← htk, ← hS, List.take_append_drop]
 have hDo : ∀ u ∈ D, u.oneCell' = true := by rw [← hD]; exact gcs_one _
 have hXo : ∀ u ∈ X, u.oneCell' = true := by rw [← hX]; intro u hu; simp at hu; rcases hu with rfl | rfl | rfl <;> rfl
 have hres : gcs (l.take i ++ x :: l.drop i) = P ++ (X ++ D) := by
  rw [gcs_app, hP, show x :: l.drop i = [x] ++ l.drop i from rfl, gcs_app, hD, ← hX]; rfl
 have hrl : (l.take i ++ x :: l.drop i).length = N + 1 := by rw [List.length_append, List.length_cons, List.length_take, List.length_drop]; omega
 obtain ⟨C, hC⟩ : ∃ C, (P ++ (D ++ S)).take ((i + 1) * 3) ++ D ++ (P ++ (D ++ S)).drop ((i + 1) * 3 + D.length) = C := ⟨_, rfl⟩
 obtain ⟨c1, c2⟩ := row_put (X := X) hPl hDl hXl (by omega) C hC.symm
 obtain ⟨w1, hw1⟩ : ∃ w1, w.drew.setRow g C.toArray = w1 := ⟨_, rfl⟩
 have k1 : Blk w1 g 54 C.toArray := by rw [← hw1]; exact hg.drew.row _
 have kv1 : Blk w1 vb 54 X.toArray := by rw [← hw1, ← hX]; exact kv.drew.rowFar hvb _
 have hcp1 : ∀ ty dc sc, (Builtin.copy_ #[22, 22] ty #[.slice (some ⟨g, (i + 1) * 3, none⟩) (N + 1 - (i + 1)) dc, .slice (some ⟨g, i * 3, none⟩) (N + 1 - i) sc]).run Tryz.prog w.drew = .ok (goInt ((N - i : Nat) : Int)) w1 := fun ty dc sc => by
  rw [run_copy_rowN w.drew _ _ ty 54 3 (N - i) g ((i + 1) * 3) (N + 1 - (i + 1)) dc ⟨g, i * 3, none⟩ (N + 1 - i) sc cur _ D Tryz.underlying22 hsz (by simp only [Nat.min_def]; split <;> omega) hDl hg
   (fun j v hj => by
    have := hg.cell (i * 3 + j)
    rw [add_mid]
    show w.cell? _ = _
    rw [this, ← Array.getElem?_toList, hcur, List.getElem?_append_right (by omega), hPl, Nat.add_sub_cancel_left, List.getElem?_append_left (List.getElem?_eq_some_iff.1 hj).1]
    exact hj) (by rw [hDl, hcs]; omega) hDo, hcur, hC, hw1]
 have hcp2 : ∀ ty dc, (Builtin.copy_ #[22, 22] ty #[.slice (some ⟨g, i * 3, none⟩) (N + 1 - i) dc, .slice (some ⟨vb, 0, none⟩) 1 1]).run Tryz.prog w1 = .ok (goInt 1) (w1.setRow g (P ++ (X ++ (D ++ S.drop 3))).toArray) := fun ty dc => by
  rw [run_copy_rowN w1 _ _ ty 54 3 1 g (i * 3) (N + 1 - i) dc ⟨vb, 0, none⟩ 1 1 C.toArray _ X Tryz.underlying22 hsz (by simp only [Nat.min_def]; split <;> omega) hXl k1
   (fun j v hj => by
    have := kv1.cell j
    rw [add_mid, Nat.zero_add, this]
    simpa using hj) (by
    have := congrArg List.length hcur
    have hcz : C.length = cap * 3 := by rw [c2, ← this, Array.length_toList, hcs]
    show i * 3 + X.length ≤ C.length
    omega) hXo, ← c1]
  rfl
 obtain ⟨w2, hw2⟩ : ∃ w2, w1.setRow g (P ++ (X ++ (D ++ S.drop 3))).toArray = w2 := ⟨_, rfl⟩
 rw [hw2] at hcp2
 have k2 : Blk w2 g 54 (P ++ (X ++ (D ++ S.drop 3))).toArray := by rw [← hw2]; exact k1.row _
 have hown : w2.ownsRow base 54 3 (.slice (some ⟨g, 0, none⟩) (N + 1) cap) (N + 1) (P ++ (X ++ D)) := by
  refine k2.own hb (by omega) hcm ?_ ?_
  ·simp only [List.size_toArray, List.length_append, List.length_drop, hPl, hXl, hDl, hSl]; omega
  ·have e : P ++ (X ++ (D ++ S.drop 3)) = (P ++ (X ++ D)) ++ S.drop 3 := by simp
   show List.take _ (P ++ (X ++ (D ++ S.drop 3))) = _
   rw [e, List.take_left']
   simp only [List.length_append, hPl, hXl, hDl]; omega
 have hb2 : Below base w w2 := by rw [← hw2, ← hw1]; exact bwRow (bwRow (Below.refl base w).drew hb _) hb _
 have hov : ∀ lb cb, (callFunc 106 #[.slice (some ⟨vb, 0, none⟩) 1 1, .slice (some ⟨g, (i + 1) * 3, none⟩) lb cb]).run Tryz.prog w = .ok (.value (.bool false)) w := fun lb cb => by
  rw [run_callFunc_extern Tryz.func106 (by kernel_rfl) (by kernel_rfl) (by kernel_rfl) (e := Extern.SlicesOverlaps.overlaps #[22, 22] #[4]) (by kernel_rfl),
   Lib.run_overlaps_apart w 22 4 54 Tryz.underlying22 3 (fun w => by simp [sizeOf, typeInfo, hi0, zi1]) ⟨vb, 0, none⟩ ⟨g, (i + 1) * 3, none⟩ 1 1 lb cb hvb 54 54 3 cur.size (by unfold Blk at kv; simp [World.shape?, kv]) (by unfold Blk at hg; simp [World.shape?, hg]) (by omega) (kv.frozen 0) (kv.frozen 3)]
  rfl
 have H1 := Lib.hid hcp1
 have H2 := Lib.hid hcp2
 have HO := Lib.hid hown
 have HB := Lib.hid hb2
 have HR := Lib.hid hres
 have HRL := Lib.hid hrl
 have hw0 : IntKind.i64.wrap ((i : Int) + 1) = (i : Int) + 1 := IntWalk.i64_in _ (by omega)
 have hw1' : IntKind.i64.wrap ((N : Int) + 1) = (N : Int) + 1 := IntWalk.i64_in _ (by omega)
 have g1 : ¬ (i : Int) = (N : Int) := by omega
 have g2 : ¬ (cap : Int) < (N : Int) + 1 := by omega
 have g7 : ((i : Int) + 1).toNat = i + 1 := by omega
 have g8 : ((N : Int) + 1).toNat = N + 1 := by omega
 have g9 : (0 : Int) ≤ (i : Int) + 1 := by omega
 have g10 : (0 : Int) ≤ (N : Int) + 1 := by omega
 have g11 : (N : Int) + 1 ≤ (cap : Int) := by omega
 have g12 : (i : Int) + 1 ≤ (N : Int) + 1 := by omega
 have g13 : (i : Int) ≤ (N : Int) + 1 := by omega
 have g3 : ¬ cap = i := by omega
 have g4 : ¬ cap = i + 1 := by omega
 have g5 : i ≤ N := by omega
 have g6 : i ≤ N + 1 := by omega
 rw [hN] at hroom hl hi ⊢
 clear hcp1 hcp2 hown hb2 hres hrl h1 h2 hP hD hS hX hPl hDl hXl hSl hcur hDo hXo hC c1 c2 hw1 k1 kv1 hw2 k2 hg hcs htk kv hN
 go_in
 go_wp2_with (simp only [hov])
 refine wp_region_held_drew (S := (fun _ => True)) (by kernel_rfl) ?_ (fun hHeld => ?_)
 ·try dsimp only
  skip
 refine tS [0, 1, 2, 3, 4, 5, 6, 7] ?_
 iterate 8 (refine tC ?_; refine ap ?_)
 refine tN ?_
 refine rdy 8 fun K hK => ?_
 refine step_copyR rfl (.tmp 73) (.tmp 76) 22 22 rfl (.slice (some ⟨g, (i + 1) * 3, none⟩) (N + 1 - (i + 1)) (cap - (i + 1))) (.slice (some ⟨g, i * 3, none⟩) (N + 1 - i) (cap - i)) (by simp [Act.eval]) (by simp [Act.eval]) (H1.out _ _ _) ?_
 refine hK.out _ _ ?_ (fun hHeld => ?_)
 ·try dsimp only
  skip
 clear hK K
 refine ap ?_
 refine wpAnyH_done (by kernel_rfl) ?_ _
 have hq := H2.out
 go_wp2
 go_ret
 refine ⟨_, rfl, ?_, HB.out⟩
 rw [HRL.out, HR.out]
 exact HO.out
theorem row_grow {P D X Z T : List Value} {a n : Nat} (hP : P.length = a * 3) (hD : D.length = n * 3) (hX : X.length = 3) (hZ : Z.length = (n + 1) * 3) :
  (P ++ Z ++ T).take (a * 3) ++ X ++ (P ++ Z ++ T).drop (a * 3 + X.length) = P ++ (X ++ (Z.drop 3 ++ T)) ∧
  (P ++ (X ++ (Z.drop 3 ++ T))).take ((a + 1) * 3) ++ D ++ (P ++ (X ++ (Z.drop 3 ++ T))).drop ((a + 1) * 3 + D.length) = P ++ (X ++ (D ++ T)) := by
 have hPX : (P ++ X).length = (a + 1) * 3 := by rw [List.length_append]; omega
 have hZ2 : (Z.drop 3).length = n * 3 := by rw [List.length_drop]; omega
 refine ⟨?_, ?_⟩
 ·rw [List.append_assoc P, List.take_left' hP, ← List.drop_drop, List.drop_left' hP, List.drop_append, hX, show 3 - Z.length = 0 by omega]
  simp
 ·rw [← List.append_assoc P X, List.take_left' hPX, ← List.drop_drop, List.drop_left' hPX, List.drop_left' (by omega)]
  simp
theorem insG_grow (base g cap i vb : Nat) (l : List Gr) (x : Gr) (cur : Array Value) (w : World) (hi : i < l.length) (hl : l.length ≤ 1000) (hroom : cap < l.length + 1) (hnc : l.length ≤ cap) (hbw : base ≤ w.heap.size) (hg : Blk w g 54 cur) (hcs : cur.size = cap * 3)
  (htk : cur.toList.take (l.length * 3) = gcs l) (kv : Blk w vb 54 #[.string ⟨x.r.toArray⟩, .string ⟨x.t.toArray⟩, .bool x.w]) :
  Calls Tryz.prog 63 #[.slice (some ⟨g, 0, none⟩) l.length cap, .int .i64 i, .slice (some ⟨vb, 0, none⟩) 1 1] w (RetOG base (l.take i ++ x :: l.drop i) w) := by
 obtain ⟨i0, hi0, zi0, zi1, zi2⟩ := info_parts infoGr
 have hsz : (Tryz.prog.info? 54).map (·.size) = some 3 := by rw [hi0]; simp [zi1]
 obtain ⟨N, hN⟩ : ∃ N, l.length = N := ⟨_, rfl⟩
 obtain ⟨P, hP⟩ : ∃ P, gcs (l.take i) = P := ⟨_, rfl⟩
 obtain ⟨D, hD⟩ : ∃ D, gcs (l.drop i) = D := ⟨_, rfl⟩
 obtain ⟨X, hX⟩ : ∃ X : List Value, [.string ⟨x.r.toArray⟩, .string ⟨x.t.toArray⟩, .bool x.w] = X := ⟨_, rfl⟩
 have hcN : cap = N := by omega
 have hPl : P.length = i * 3 := by rw [← hP, gcs_len, List.length_take]; omega
 have hDl : D.length = (N - i) * 3 := by rw [← hD, gcs_len, List.length_drop, hN]
 have hXl : X.length = 3 := by rw [← hX]; rfl
 have hcur : cur.toList = P ++ D := by
  rw [← hP, ← hD, ← gcs_app, List.take_append_drop, ← htk, List.take_of_length_le]
  rw [Array.length_toList, hcs]; omega
 have hDo : ∀ u ∈ D, u.oneCell' = true := by rw [← hD]; exact gcs_one _
 have hXo : ∀ u ∈ X, u.oneCell' = true := by rw [← hX]; intro u hu; simp at hu; rcases hu with rfl | rfl | rfl <;> rfl
 have hres : gcs (l.take i ++ x :: l.drop i) = P ++ (X ++ D) := by
  rw [gcs_app, hP, show x :: l.drop i = [x] ++ l.drop i from rfl, gcs_app, hD, ← hX]; rfl
 have hrl : (l.take i ++ x :: l.drop i).length = N + 1 := by rw [List.length_append, List.length_cons, List.length_take, List.length_drop]; omega
 obtain ⟨G, hG⟩ : ∃ G, grownCap w (N + 1) cap 54 = G := ⟨_, rfl⟩
 have hGn : N + 1 ≤ G := by rw [← hG]; exact grownCap_ge w _ _ _
 have hGm : G ≤ maxLen := by rw [← hG]; exact grownCap_le_maxLen w (N + 1) cap 54 (by unfold maxLen; omega)
 obtain ⟨Z, hZ⟩ : ∃ Z, (Builtin.zeroCells zGr.cells (N + 1 - i)).toList = Z := ⟨_, rfl⟩
 obtain ⟨T, hT⟩ : ∃ T, (Builtin.zeroCells zGr.cells (G - (N + 1))).toList = T := ⟨_, rfl⟩
 have hZl : Z.length = (N - i + 1) * 3 := by rw [← hZ, zeroCells_len]; show (N + 1 - i) * 3 = _; omega
 have hTl : T.length = (G - (N + 1)) * 3 := by rw [← hT, zeroCells_len]; rfl
 obtain ⟨r1, r2⟩ := row_grow (T := T) hPl hDl hXl hZl
 obtain ⟨w1, hw1⟩ : ∃ w1, w.drew.alloc (.cells (P ++ Z ++ T).toArray 54) = w1 := ⟨_, rfl⟩
 obtain ⟨b, hb⟩ : ∃ b, w.heap.size = b := ⟨_, rfl⟩
 have k1 : Blk w1 b 54 (P ++ Z ++ T).toArray := by rw [← hw1]; exact Blk.new' _ _ _ _ hb
 have kv1 : Blk w1 vb 54 X.toArray := by rw [← hw1, ← hX]; exact kv.drew.alloc _
 have kg1 : Blk w1 g 54 cur := by rw [← hw1]; exact hg.drew.alloc _
 have hvb : vb ≠ b := by have := kv.lt; omega
 have hgb : g ≠ b := by have := hg.lt; omega
 have hap : ∀ ty, (Builtin.append_ #[22, 3] ty #[.slice (some ⟨g, 0, none⟩) i cap, .int .i64 ((N : Int) + 1 - (i : Int))]).run Tryz.prog w = .ok (.slice (some ⟨b, 0, none⟩) (N + 1) G) w1 := fun ty => by
  have hold : (Builtin.firstCells i0.size i (.slice (some ⟨g, 0, none⟩) i cap)).run Tryz.prog w.drew = .ok P.toArray w.drew := by
   rw [zi1]
   exact run_firstCells_some w.drew 3 i ⟨g, 0, none⟩ i cap P hPl (fun j v hj => by
    have := hg.cell j
    rw [add_mid, Nat.zero_add]
    show w.cell? _ = _
    rw [this, ← Array.getElem?_toList, hcur, List.getElem?_append_left (List.getElem?_eq_some_iff.1 hj).1]
    exact hj)
  have h := Lib.run_append_grow_zeros w 22 3 ty 54 i0 _ .i64 .i64 Tryz.underlying22 Tryz.underlying3 hi0 zi0 (some ⟨g, 0, none⟩) i cap P hold (N + 1 - i) (by omega) (by omega) (by omega) (by omega) (by rw [zi2]; omega) (by rw [zi2, show i + (N + 1 - i) = N + 1 by omega]; exact growslice_fits (hN ▸ hroom) (by omega))
  rw [show i + (N + 1 - i) = N + 1 by omega, hG, show (((N + 1 - i : Nat)) : Int) = (N : Int) + 1 - (i : Int) by omega, hb] at h
  rw [h, ← hw1, ← hZ, ← hT]
  congr 4
  simp [zGr]
 obtain ⟨w2, hw2⟩ : ∃ w2, w1.setRow b (P ++ (X ++ (Z.drop 3 ++ T))).toArray = w2 := ⟨_, rfl⟩
 have k2 : Blk w2 b 54 (P ++ (X ++ (Z.drop 3 ++ T))).toArray := by rw [← hw2]; exact k1.row _
 have kg2 : Blk w2 g 54 cur := by rw [← hw2]; exact kg1.rowFar hgb _
 have hcp1 : ∀ ty dc, (Builtin.copy_ #[22, 22] ty #[.slice (some ⟨b, i * 3, none⟩) (N + 1 - i) dc, .slice (some ⟨vb, 0, none⟩) 1 1]).run Tryz.prog w1 = .ok (goInt 1) w2 := fun ty dc => by
  rw [run_copy_rowN w1 _ _ ty 54 3 1 b (i * 3) (N + 1 - i) dc ⟨vb, 0, none⟩ 1 1 (P ++ Z ++ T).toArray _ X Tryz.underlying22 hsz (by simp only [Nat.min_def]; split <;> omega) hXl k1
   (fun j v hj => by
    have := kv1.cell j
    rw [add_mid, Nat.zero_add, this]
    simpa using hj) (by
    show i * 3 + X.length ≤ (P ++ Z ++ T).length
    simp only [List.length_append]
    omega) hXo, ← hw2, ← r1]
  rfl
 obtain ⟨w3, hw3⟩ : ∃ w3, w2.drew.setRow b (P ++ (X ++ (D ++ T))).toArray = w3 := ⟨_, rfl⟩
 have k3 : Blk w3 b 54 (P ++ (X ++ (D ++ T))).toArray := by rw [← hw3]; exact k2.drew.row _
 have hcp2 : ∀ ty dc sc, (Builtin.copy_ #[22, 22] ty #[.slice (some ⟨b, (i + 1) * 3, none⟩) (N + 1 - (i + 1)) dc, .slice (some ⟨g, i * 3, none⟩) (N - i) sc]).run Tryz.prog w2.drew = .ok (goInt ((N - i : Nat) : Int)) w3 := fun ty dc sc => by
  rw [run_copy_rowN w2.drew _ _ ty 54 3 (N - i) b ((i + 1) * 3) (N + 1 - (i + 1)) dc ⟨g, i * 3, none⟩ (N - i) sc (P ++ (X ++ (Z.drop 3 ++ T))).toArray _ D Tryz.underlying22 hsz (by simp only [Nat.min_def]; split <;> omega) hDl k2
   (fun j v hj => by
    have := kg2.cell (i * 3 + j)
    rw [add_mid]
    show w2.cell? _ = _
    rw [this, ← Array.getElem?_toList, hcur, List.getElem?_append_right (by omega), hPl, Nat.add_sub_cancel_left]
    exact hj) (by
    show (i + 1) * 3 + D.length ≤ (P ++ (X ++ (Z.drop 3 ++ T))).length
    simp only [List.length_append, List.length_drop]
    omega) hDo, ← hw3, ← r2]
 have hown : w3.ownsRow base 54 3 (.slice (some ⟨b, 0, none⟩) (N + 1) G) (N + 1) (P ++ (X ++ D)) := by
  refine k3.own (by omega) hGn hGm ?_ ?_
  ·simp only [List.size_toArray, List.length_append, hPl, hXl, hDl, hTl]; omega
  ·have e : P ++ (X ++ (D ++ T)) = (P ++ (X ++ D)) ++ T := by simp
   show List.take _ (P ++ (X ++ (D ++ T))) = _
   rw [e, List.take_left']
   simp only [List.length_append, hPl, hXl, hDl]; omega
 have hb3 : Below base w w3 := by
  rw [← hw3, ← hw2, ← hw1]
  exact bwRow (bwRow (((Below.refl base w).drew).alloc hbw _) (by omega) _).drew (by omega) _
 have H1 := Lib.hid hcp1
 have H2 := Lib.hid hcp2
 have HA := Lib.hid hap
 have HO := Lib.hid hown
 have HB := Lib.hid hb3
 have HR := Lib.hid hres
 have HRL := Lib.hid hrl
 have hw0 : IntKind.i64.wrap ((i : Int) + 1) = (i : Int) + 1 := IntWalk.i64_in _ (by omega)
 have hw1' : IntKind.i64.wrap ((N : Int) + 1) = (N : Int) + 1 := IntWalk.i64_in _ (by omega)
 have hw2' : IntKind.i64.wrap ((N : Int) + 1 - (i : Int)) = (N : Int) + 1 - (i : Int) := IntWalk.i64_in _ (by omega)
 have g1 : ¬ (i : Int) = (N : Int) := by omega
 have g2 : (cap : Int) < (N : Int) + 1 := by omega
 have g3 : ¬ cap = i := by omega
 have g4 : ¬ G = i := by omega
 have g14 : ¬ G = i + 1 := by omega
 have g5 : i ≤ N := by omega
 have g6 : i ≤ N + 1 := by omega
 have g7 : ((i : Int) + 1).toNat = i + 1 := by omega
 have g9 : (0 : Int) ≤ (i : Int) + 1 := by omega
 have g12 : (i : Int) + 1 ≤ (N : Int) + 1 := by omega
 have g13 : (i : Int) ≤ (N : Int) + 1 := by omega
 have g15 : i ≤ cap := by omega
 rw [hN] at hroom hl hi hnc ⊢
 clear hcp1 hcp2 hap hown hb3 hres hrl hP hD hX hPl hDl hXl hcur hDo hXo hw1 k1 kv1 kg1 hw2 k2 kg2 hw3 k3 hg hcs htk kv hN hG hZ hT hZl hTl r1 r2 hcN
 have hq := H1.out
 go_in
 go_wp2_with (at_builtin; refine Lib.wpList_append_run _ rfl _ _ _ _ rfl _ _ rfl rfl _ _ (HA.out _) ?_)
 refine wp_region_held_drew (S := (fun _ => True)) (by kernel_rfl) ?_ (fun hHeld => ?_)
 ·try dsimp only
  skip
 refine tS [0, 1, 2, 3, 4, 5, 6, 7] ?_
 iterate 8 (refine tC ?_; refine ap ?_)
 refine tN ?_
 refine rdy 8 fun K hK => ?_
 refine step_copyR rfl (.tmp 50) (.tmp 53) 22 22 rfl (.slice (some ⟨b, (i + 1) * 3, none⟩) (N + 1 - (i + 1)) (G - (i + 1))) (.slice (some ⟨g, i * 3, none⟩) (N - i) (cap - i)) (by simp [Act.eval]) (by simp [Act.eval]) (H2.out _ _ _) ?_
 refine hK.out _ _ ?_ (fun hHeld => ?_)
 ·try dsimp only
  skip
 clear hK K
 refine ap ?_
 refine wpAnyH_done (by kernel_rfl) ?_ _
 go_wp2_with fail
 go_ret
 refine ⟨_, rfl, ?_, HB.out⟩
 rw [HRL.out, HR.out]
 exact HO.out
theorem insG_any (base i vb : Nat) (A : Option Addr) (c : Nat) (l : List Gr) (x : Gr) (w : World) (hi : i ≤ l.length) (hl : l.length ≤ 1000) (hbw : base ≤ w.heap.size) (hown : w.ownsRow base 54 3 (.slice A l.length c) l.length (gcs l))
  (kv : Blk w vb 54 #[.string ⟨x.r.toArray⟩, .string ⟨x.t.toArray⟩, .bool x.w]) (hvb : ∀ a, A = some a → vb ≠ a.block) :
  Calls Tryz.prog 63 #[.slice A l.length c, .int .i64 i, .slice (some ⟨vb, 0, none⟩) 1 1] w (RetOG base (l.take i ++ x :: l.drop i) w) := by
 by_cases h : i = l.length
 ·subst h
  have hc : l.length ≤ c := by
   rcases hown.2 with ⟨e, h0⟩ | ⟨g, cap, cur, e, _, _, hnc, _⟩
   ·injection e with _ e2 e3; omega
   ·injection e with _ e2 e3; omega
  rw [List.take_length, List.drop_length]
  exact insG_end base A c l vb x w hl hbw hc hown kv
 ·rcases hown.2 with ⟨_, h0⟩ | ⟨g, cap, cur, e, hb, hg, hnc, hcm, hcs, htk⟩
  ·omega
  ·injection e with e1 e2 e3
   subst e1 e3
   by_cases hr : l.length + 1 ≤ c
   ·exact insG_shift base g c i vb l x cur w (by omega) hl hr hg hb hcs hcm htk kv (hvb _ rfl)
   ·exact insG_grow base g c i vb l x cur w (by omega) hl (by omega) hnc hbw hg hcs htk kv
end Go.Proofs.YtchilcchogcibaaGreatDoor
