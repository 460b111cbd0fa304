/- The document's Do of grants as a plain function. Condition: a slice that reads as no more than 400 grants, a statement, and what the document's Text answers at it.. -/
import Derived.Test.YtchilcchogcibaaGreatDoorDAwake9
set_option maxRecDepth 100000
set_option maxHeartbeats 8000000
namespace Go.Proofs.YtchilcchogcibaaGreatDoor
open Go.RowKit
attribute [local go_sem] ByteArray.extract_mk ba_get ba_append
attribute [local go_sem ↓] Go.wp_at_zero Go.wp_at_succ run_eql_G run_neq_G
theorem rdo_no {l : List Gr} {s : St} {b : Bool} (hb : rightO s.op → b = mayS s) (h : ¬ chkG l = 0 ∨ b = false ∨ s.role = adminT ∨ ¬ rightO s.op) : rdoG l s = ([], 1) := by
 unfold rdoG
 refine if_pos ?_
 by_cases hr : rightO s.op
 ·rcases h with h | h | h | h
  ·exact .inl h
  ·exact .inr (.inl ((hb hr).symm.trans h))
  ·exact .inr (.inr (.inl h))
  ·exact absurd hr h
 ·unfold rightO at hr
  simp only [not_or] at hr
  exact .inr (.inr (.inr hr))
theorem rdo_del {l : List Gr} {s : St} (hc : chkG l = 0) (hm : mayS s = true) (hr : ¬ s.role = adminT) (ho : s.op = oUnread ∨ s.op = oUnwrite) : rdoG l s = (delG l (stG s), 0) := by
 unfold rdoG
 rw [if_neg, if_pos ho]
 rintro (h | h | h | h)
 ·exact h hc
 ·rw [hm] at h; cases h
 ·exact hr h
 ·rcases ho with ho | ho
  ·exact h.2.2.1 ho
  ·exact h.2.2.2 ho
theorem rdo_add {l : List Gr} {s : St} (hc : chkG l = 0) (hm : mayS s = true) (hr : ¬ s.role = adminT) (ho : s.op = oRead ∨ s.op = oWrite) : rdoG l s = if decide (60 ≤ l.length) && !decide (stG s ∈ l) then ([], 13) else (withG l (stG s), 0) := by
 unfold rdoG
 have hn : ¬ (s.op = oUnread ∨ s.op = oUnwrite) := by rcases ho with e | e <;> rw [e] <;> decide
 rw [if_neg, if_neg hn]
 rintro (h | h | h | h)
 ·exact h hc
 ·rw [hm] at h; cases h
 ·exact hr h
 ·rcases ho with ho | ho
  ·exact h.1 ho
  ·exact h.2.1 ho
theorem rdo_any (A : Option Addr) (c : Nat) (l : List Gr) (s : St) (p : StP) (w : World) (hl : l.length ≤ 400) (hn : ∀ g ∈ l, g.r.length ≤ 1000000 ∧ g.t.length ≤ 1000000) (h : GQ l A (Old w.heap.size) w)
  (hTX : ∀ Z : World, Below w.heap.size w Z → Calls Tryz.prog 42 #[.agg (s.cells p).toArray] Z (RetTx s Z)) : Calls Tryz.prog 16 #[.slice A l.length c, .agg (s.cells p).toArray] w (RetGE (rdoG l s) w) := by
 obtain ⟨i0, hi0, zi0, zi1, zi2⟩ := info_parts infoGr
 refine stBox_in s p w fun w0 HW ks0 hb0 hz0 HST HB => ?_
 have HQ : Hid (∀ Z : World, Below w0.heap.size w0 Z → GQ l A (Old w.heap.size) Z) := fun Z hz => h.keep fun b hb => ⟨hb, fun o => (hb0.trans (hz.mono hz0)).cell (p := ⟨b, o, none⟩) hb⟩
 have HQZ : ∀ Z : World, Below w0.heap.size w0 Z → GQ l A (Old Z.heap.size) Z := fun Z hz => h.keep (old_keep (hb0.trans (hz.mono hz0)) (Nat.le_trans hz0 hz.size))
 have HCK : Hid (∀ Z : World, Below w0.heap.size w0 Z → Calls Tryz.prog 21 #[.slice A l.length c] Z (Ret (.int .i64 (chkG l)) Z)) := fun Z hz => rcheckG_any A c l Z (by omega) hn (HQZ Z hz)
 have HTX := Lib.hid (hTX w0 hb0)
 have HKB : Hid (∀ Z : World, Below w0.heap.size w0 Z → Blk Z w.heap.size 34 (s.cells p).toArray) := fun Z hz => ks0.below hz ks0.lt
 have HHAS : Hid (∀ (g : Gr) (Z : World), Below w0.heap.size w0 Z → Calls Tryz.prog 43 #[.slice A l.length c, .agg #[.string ⟨g.r.toArray⟩, .string ⟨g.t.toArray⟩, .bool g.w]] Z (Ret (.bool (decide (g ∈ l))) Z)) := fun g Z hz => has_any A c l g Z (by omega) (HQZ Z hz)
 have HWI : Hid (∀ (g : Gr) (Z : World), Below w0.heap.size w0 Z → Calls Tryz.prog 44 #[.slice A l.length c, .agg #[.string ⟨g.r.toArray⟩, .string ⟨g.t.toArray⟩, .bool g.w]] Z (RetGs (withG l g) Z)) := fun g Z hz => rwith_any A c l g Z (by omega) (HQZ Z hz)
 obtain ⟨O, hO⟩ : ∃ O, s.op = O := ⟨_, rfl⟩
 have HS1 : Hid (∀ Z : World, Below w0.heap.size w0 Z → Z.cell? ⟨w.heap.size, 0, none⟩ = some (.string ⟨O.toArray⟩) ∧ Z.cell? ⟨w.heap.size, 1, none⟩ = some (.string ⟨s.tb.toArray⟩) ∧ Z.cell? ⟨w.heap.size, 22, none⟩ = some (.string ⟨s.role.toArray⟩)) := fun Z hz => by
  rw [← hO]
  exact ⟨(HST.out Z hz).1, (HST.out Z hz).2.1, (HST.out Z hz).2.2.2.2.2.2.2.2.2.2.2.2.2.2.2.2.2.2.2.2.2.2⟩
 have hc0 : Below w0.heap.size w0 w0 := Below.refl _ _
 obtain ⟨C, hC⟩ : ∃ C, chkG l = C := ⟨_, rfl⟩
 obtain ⟨R, hR⟩ : ∃ R, rdoG l s = R := ⟨_, rfl⟩
 have hNO : ∀ b : Bool, (rightO s.op → b = mayS s) → (¬ C = 0 ∨ b = false ∨ s.role = adminT ∨ ¬ rightO O) → R = ([], 1) := fun b h1 h2 => by
  rw [← hR]
  rw [← hC, ← hO] at h2
  exact rdo_no h1 h2
 have hDEL : C = 0 → mayS s = true → ¬ s.role = adminT → (O = oUnread ∨ O = oUnwrite) → R = (delG l (stG s), 0) := fun h1 h2 h3 h4 => by
  rw [← hR]
  exact rdo_del (hC.trans h1) h2 h3 (hO.symm ▸ h4)
 have hADD : C = 0 → mayS s = true → ¬ s.role = adminT → (O = oRead ∨ O = oWrite) → R = if decide (60 ≤ l.length) && !decide (stG s ∈ l) then ([], 13) else (withG l (stG s), 0) := fun h1 h2 h3 h4 => by
  rw [← hR]
  exact rdo_add (hC.trans h1) h2 h3 (hO.symm ▸ h4)
 obtain ⟨V, hV⟩ : ∃ V, wrOp O = V := ⟨_, rfl⟩
 have hSG : stG s = ⟨s.role, s.tb, V⟩ := by unfold stG; rw [hO, hV]
 rw [hSG] at hDEL hADD
 have HRT : Hid (rightO s.op ↔ rightO O) := by show _ ↔ _; rw [hO]
 have HNO := Lib.hid hNO
 have HDEL := Lib.hid hDEL
 have HADD := Lib.hid hADD
 rw [hC] at HCK
 rw [hR]
 obtain ⟨N, hN⟩ : ∃ N, l.length = N := ⟨_, rfl⟩
 have HL := Lib.hid hN
 rw [hN] at HCK HHAS HWI HADD hl ⊢
 clear hN hNO hDEL hADD hSG hR hC hO HST hTX HQZ h hn ks0 hb0
 go_in
 go_upto_region 1 with fail
 rw [show w.alloc _ = w0 from HW.out]
 clear HW
 go_wp2_with (refine wpList_load_rowG (by rfl) 34 _ rfl w.heap.size rfl 34 (s.cells p).toArray (0, 0) _ (HKB.out _ hc0) Tryz.underlying34 rfl size_st ?_)
 refine HTX.out.mono ?_
 rintro en w1 ⟨T, b, rfl, hb0, hb1⟩
 have hb : rightO s.op → b = mayS s := fun h => (hb0 (.inr (.inr (.inr (.inr h))))).2
 have HBT := Lib.hid hb
 clear hb0
 have HNB := Lib.hid (HNO.out b hb)
 have hz1 := hb1.size
 clear hb HNO HTX
 have HC1 := Lib.hid (HCK.out w1 hb1)
 go_wp2_with fail
 refine HC1.out.mono ?_
 rintro en w2 ⟨rfl, hb2⟩
 have hc2 : Below w0.heap.size w0 w2 := hb1.trans (hb2.mono hz1)
 have hz2 := hc2.size
 have hbf2 := HB.out.trans (hc2.mono hz0)
 clear HC1 HCK
 by_cases hc : C = 0
 case neg =>
  have hR1 : R = ([], 1) := HNB.out (.inl hc)
  have e1 : (C != 0) = true := by simpa using hc
  clear HNB HDEL HADD HHAS HWI HQ HBT
  subst hR1
  go_wp2_with fail
  refine bodyPost_ret (v := .tuple #[.slice none 0 0, .int .i64 1]) (by simp [results, Tryz.results16, go_sem, *]) rfl ?_
  exact RetGE.none_ hbf2
 have e1 : (C != 0) = false := by simpa using hc
 cases b with
 | false =>
  have hR1 : R = ([], 1) := HNB.out (.inr (.inl rfl))
  clear HNB HDEL HADD HHAS HWI HQ HBT
  subst hR1
  go_wp2_with fail
  refine bodyPost_ret (v := .tuple #[.slice none 0 0, .int .i64 1]) (by simp [results, Tryz.results16, go_sem, *]) rfl ?_
  exact RetGE.none_ hbf2
 | true =>
  by_cases hra : s.role = adminT
  ·have hR1 : R = ([], 1) := HNB.out (.inr (.inr (.inl hra)))
   have g2 : (s.role == [97, 100, 109, 105, 110]) = true := by rw [hra]; rfl
   obtain ⟨s0, s1, s22⟩ := HS1.out w2 hc2
   clear HNB HDEL HADD HHAS HWI HQ HBT hra hc
   subst hR1
   go_wp2_with fail
   refine bodyPost_ret (v := .tuple #[.slice none 0 0, .int .i64 1]) (by simp [results, Tryz.results16, go_sem, *]) rfl ?_
   exact RetGE.none_ hbf2
  by_cases hro : rightO O
  case neg =>
   have hR1 : R = ([], 1) := HNB.out (.inr (.inr (.inr hro)))
   have g2 : (s.role == [97, 100, 109, 105, 110]) = false := beq_eq_false_iff_ne.2 hra
   unfold rightO at hro
   simp only [not_or] at hro
   obtain ⟨n1, n2, n3, n4⟩ := hro
   have o1 : (O != [114, 101, 97, 100]) = true := bne_iff_ne.2 n1
   have q1 : (O == [114, 101, 97, 100]) = false := beq_eq_false_iff_ne.2 n1
   have r1 : ¬ O = [114, 101, 97, 100] := n1
   have o2 : (O != [119, 114, 105, 116, 101]) = true := bne_iff_ne.2 n2
   have q2 : (O == [119, 114, 105, 116, 101]) = false := beq_eq_false_iff_ne.2 n2
   have r2 : ¬ O = [119, 114, 105, 116, 101] := n2
   have o3 : (O != [117, 110, 114, 101, 97, 100]) = true := bne_iff_ne.2 n3
   have q3 : (O == [117, 110, 114, 101, 97, 100]) = false := beq_eq_false_iff_ne.2 n3
   have r3 : ¬ O = [117, 110, 114, 101, 97, 100] := n3
   have o4 : (O != [117, 110, 119, 114, 105, 116, 101]) = true := bne_iff_ne.2 n4
   have q4 : (O == [117, 110, 119, 114, 105, 116, 101]) = false := beq_eq_false_iff_ne.2 n4
   have r4 : ¬ O = [117, 110, 119, 114, 105, 116, 101] := n4
   obtain ⟨s0, s1, s22⟩ := HS1.out w2 hc2
   clear HNB HDEL HADD HHAS HWI HQ HBT hra hc n1 n2 n3 n4
   subst hR1
   go_wp2_with fail
   refine bodyPost_ret (v := .tuple #[.slice none 0 0, .int .i64 1]) (by simp [results, Tryz.results16, go_sem, *]) rfl ?_
   exact RetGE.none_ hbf2
  have hm : mayS s = true := (HBT.out (HRT.out.2 hro)).symm
  have hro2 : (O = oUnread ∨ O = oUnwrite) ∨ (O = oRead ∨ O = oWrite) := by
   rcases hro with e | e | e | e
   ·exact .inr (.inl e)
   ·exact .inr (.inr e)
   ·exact .inl (.inl e)
   ·exact .inl (.inr e)
  rcases hro2 with hro2 | hro2
  ·have hR1 : R = (delG l ⟨s.role, s.tb, V⟩, 0) := HDEL.out hc hm hra hro2
   clear HNB HDEL HADD HHAS HWI HBT hro hm HRT
   obtain ⟨s0, s1, s22⟩ := HS1.out w2 hc2
   obtain ⟨w3, hw3⟩ : ∃ w3, w2.alloc (.cells #[.string ⟨s.role.toArray⟩, .string ⟨s.tb.toArray⟩, .bool V] 54) = w3 := ⟨_, rfl⟩
   have k3 : Blk w3 w2.heap.size 54 #[.string ⟨s.role.toArray⟩, .string ⟨s.tb.toArray⟩, .bool V] := by rw [← hw3]; exact Blk.new _ _ _
   have hb23 : Below w2.heap.size w2 w3 := by rw [← hw3]; exact bl
   have hc3 : Below w0.heap.size w0 w3 := hc2.trans (hb23.mono hz2)
   have hz3 := hc3.size
   have h23 := hb23.size
   have HW3 := Lib.hid hw3
   have HK3 := Lib.hid k3
   have hlt3 : w2.heap.size < w3.heap.size := k3.lt
   have g1 : (s.role != [97, 100, 109, 105, 110]) = true := bne_iff_ne.2 hra
   have g2 : (s.role == [97, 100, 109, 105, 110]) = false := beq_eq_false_iff_ne.2 hra
   clear hw3 k3
   have HQ3 : Hid (∀ Z : World, Below w3.heap.size w3 Z → GQ l A (Old w.heap.size) Z) := fun Z hz => HQ.out Z (hc3.trans (hz.mono hz3))
   have HB3 := Lib.hid (HB.out.trans (hc3.mono hz0))
   have hzw3 := HB3.out.size
   obtain ⟨G, hG⟩ : ∃ G : Gr, (⟨s.role, s.tb, V⟩ : Gr) = G := ⟨_, rfl⟩
   have HKG : Hid (Blk w3 w2.heap.size 54 #[.string ⟨G.r.toArray⟩, .string ⟨G.t.toArray⟩, .bool G.w]) := by rw [← hG]; exact HK3.out
   rw [hG] at hR1
   have HR := Lib.hid hR1
   clear HQ hc hra hG hR1 HK3
   rcases hro2 with hro2 | hro2 <;> cases V <;> first | exact absurd hV (by rw [hro2]; decide) | skip
   all_goals
    simp only [oUnread, oUnwrite] at hro2
    subst hro2
    go_upto_region 4 with fail
    go_upto_region 5 with fail
    rw [show w2.alloc _ = w3 from HW3.out]
    clear s0 s1 s22
    obtain ⟨s0, -, -⟩ := HS1.out w3 hc3
    go_wp2_with fail
    clear s0
    go_loopw [9, 10] (fun s9' i wr => ∃ (s9 : Value) (j M : Nat) (L : List Gr), s9 = s9' ∧ j ≤ N ∧ M ≤ j ∧ i = .int .i64 j ∧ Hid (M = L.length) ∧ Hid (delG (l.take j) G = L) ∧ wr.ownsRow w3.heap.size 54 3 s9 M (gcs L) ∧ Below w3.heap.size w3 wr) (fun _ i _ => N - (intOf i).toNat)
    case atStart => exact ⟨_, 0, 0, [], rfl, by omega, by omega, rfl, rfl, rfl, World.ownsRow_nil _ _ _ _, Below.refl _ _⟩
    case round =>
     obtain ⟨s9, j, M, L, rfl, hj, hM, rfl, HM, HJ, hown, hbw⟩ := hrel
     obtain ⟨W, rfl⟩ : ∃ W, W = wr := ⟨_, rfl⟩
     have hzw := hbw.size
     by_cases hlt : j < N
     ·obtain ⟨b, off, x, rfl, hbB, hv, c0, c1, c2⟩ := (HQ3.out _ hbw).at_ (j := j) (by rw [HL.out]; exact hlt)
      have lb : b < W.heap.size := by have : b < w.heap.size := hbB; omega
      have kw := HKG.out.below hbw hlt3
      have lk := kw.lt
      have HSH : Hid (∀ Z : World, Below W.heap.size W Z → (Z.cell? ⟨b, off + j * 3, none⟩ = some (.string ⟨x.r.toArray⟩) ∧ Z.cell? ⟨b, off + j * 3 + 1, none⟩ = some (.string ⟨x.t.toArray⟩) ∧ Z.cell? ⟨b, off + j * 3 + 2, none⟩ = some (.bool x.w)) ∧ Z.cell? ⟨w2.heap.size, 0, none⟩ = some (.string ⟨G.r.toArray⟩) ∧ Z.cell? ⟨w2.heap.size, 1, none⟩ = some (.string ⟨G.t.toArray⟩) ∧ Z.cell? ⟨w2.heap.size, 2, none⟩ = some (.bool G.w)) := fun Z hz => by
       have hc : ∀ o, Z.cell? ⟨b, o, none⟩ = W.cell? ⟨b, o, none⟩ := fun o => hz.cell (p := ⟨b, o, none⟩) lb
       have kz := kw.below hz lk
       exact ⟨⟨(hc _).trans c0, (hc _).trans c1, (hc _).trans c2⟩, kz.cell 0, kz.cell 1, kz.cell 2⟩
      have HE : Hid (eqG x G = decide (x = G)) := eqG_iff x G
      have HT : Hid (delG (l.take (j + 1)) G = if x = G then L else L ++ [x]) := by
       show _ = _
       have := HJ.out
       unfold delG at this ⊢
       rw [List.take_add_one, hv, List.filter_append, this]
       by_cases hq : x = G <;> simp [hq]
      have g10 : (0 : Int) ≤ (j : Int) := by omega
      have g11 : (j : Int) < (N : Int) := by omega
      have HO := Lib.hid hown
      clear hv c0 c1 c2 kw HJ hown
      go_wp2_with fail
      refine rgn HSH fun hHeld => ?_
      refine tS [0, 1, 2, 3, 4, 5] ?_
      iterate 6 (refine tC ?_; refine ap ?_)
      refine tN ?_
      refine wpAnyH_done (by kernel_rfl) ?_ _
      have hbd0 : Below W.heap.size W W.drew := by exact bl
      have hbd : Below w3.heap.size w3 W.drew := hbw.trans (hbd0.mono hzw)
      have HBD := Lib.hid hbd
      have HO := Lib.hid (own_below HO.out hbd0)
      obtain ⟨⟨c0, c1, c2⟩, -⟩ := HSH.out W.drew hbd0
      obtain ⟨W', hW'⟩ : ∃ W', World.drew W = W' := ⟨_, rfl⟩
      rw [hW'] at HBD HO c0 c1 c2 ⊢
      have hzw' : w3.heap.size ≤ W'.heap.size := HBD.out.size
      have lb' : b < W'.heap.size := by have : b < w.heap.size := hbB; omega
      clear hbd hbd0 hW' HSH
      obtain ⟨E, hE⟩ : ∃ E, eqG ⟨x.r, x.t, x.w⟩ ⟨G.r, G.t, G.w⟩ = E := ⟨_, rfl⟩
      rw [hE]
      have HE2 : Hid (E = decide (x = G)) := by show _ = _; rw [← hE]; exact HE.out
      clear hE HE
      cases E with
      | true =>
       have he : x = G := by have := HE2.out; simpa using this
       have HT2 : Hid (delG (l.take (j + 1)) G = L) := by have := HT.out; rw [if_pos he] at this; exact this
       clear HT HE2 he c0 c1 c2
       go_wp2_with fail
       go_roundw
       case rel => exact ⟨_, j + 1, M, L, rfl, by omega, by omega, by go_num, HM, HT2, HO.out, HBD.out⟩
       case measure => simp [intOf]; omega
      | false =>
       have he : ¬ x = G := by have := HE2.out; simpa using this
       have HT2 : Hid (delG (l.take (j + 1)) G = L ++ [x]) := by have := HT.out; rw [if_neg he] at this; exact this
       have HOL := Lib.hid HO.out.lt
       have HOW := Lib.hid (HO.out.alloc (.cells #[.string ⟨x.r.toArray⟩, .string ⟨x.t.toArray⟩, .bool x.w] 54))
       clear HT HE2 he HO
       go_wp2_with (at_builtin; refine wpList_append_own _ rfl _ _ 22 rfl w3.heap.size 54 i0 _ 3 40 Tryz.underlying22 hi0 zi0 zi1 zi2 rfl (by decide) _ _ _ rfl HOW.out ⟨W'.heap.size, 0, none⟩ 1 1 [.string ⟨x.r.toArray⟩, .string ⟨x.t.toArray⟩, .bool x.w] rfl rfl ?c1 ?c2 ?c3 ?c4 ?c5 ?_)
       case c1 => exact World.news_of_block (cs := #[.string ⟨x.r.toArray⟩, .string ⟨x.t.toArray⟩, .bool x.w]) (t := 54) (fr := (0, 0)) (heap_alloc_new W' _)
       case c2 => intro u hu; simp at hu; rcases hu with rfl | rfl | rfl <;> rfl
       case c3 => unfold maxLen; omega
       case c4 => omega
       case c5 => simp; omega
       intro v' w5 hown5 hg5 _
       have hb5 : Below w3.heap.size w3 w5 := (HBD.out.alloc hzw' _).grown hg5 (by simp; omega) (fun k hk => (HOL.out k hk).1)
       have HO5 : Hid (w5.ownsRow w3.heap.size 54 3 v' (M + 1) (gcs (L ++ [x]))) := by show World.ownsRow _ _ _ _ _ _ _; rw [gcs_snoc]; exact hown5
       clear hown5 hg5 c0 c1 c2
       go_wp2_with fail
       go_roundw
       case rel => exact ⟨_, j + 1, M + 1, L ++ [x], rfl, by omega, by omega, by go_num, by show _ = _; rw [List.length_append, ← HM.out]; rfl, HT2, HO5.out, hb5⟩
       case measure => simp [intOf]; omega
     ·obtain rfl : j = N := by omega
      have HF : Hid (delG l G = L) := by
       show _ = _
       have := HJ.out
       rw [← HL.out, List.take_length] at this
       exact this
      have HO := Lib.hid (own_less hown hzw3)
      have HBB := Lib.hid (HB3.out.trans (hbw.mono hzw3))
      have g11 : ¬ (j : Int) < (j : Int) := by omega
      clear HJ hlt hown hbw
      go_wp2_with fail
      refine bodyPost_ret (v := .tuple #[s9, .int .i64 0]) (by simp [results, Tryz.results16, go_sem, *]) rfl ?_
      rw [HR.out, HF.out]
      exact ⟨s9, rfl, by have := HO.out; rw [HM.out] at this; exact this, HBB.out⟩
  ·have hR1 := HADD.out hc hm hra hro2
   clear HNB HDEL HADD HBT hro hm HRT
   obtain ⟨s0, s1, s22⟩ := HS1.out w2 hc2
   obtain ⟨w3, hw3⟩ : ∃ w3, w2.alloc (.cells #[.string ⟨s.role.toArray⟩, .string ⟨s.tb.toArray⟩, .bool V] 54) = w3 := ⟨_, rfl⟩
   have k3 : Blk w3 w2.heap.size 54 #[.string ⟨s.role.toArray⟩, .string ⟨s.tb.toArray⟩, .bool V] := by rw [← hw3]; exact Blk.new _ _ _
   have hb23 : Below w2.heap.size w2 w3 := by rw [← hw3]; exact bl
   have hc3 : Below w0.heap.size w0 w3 := hc2.trans (hb23.mono hz2)
   have hz3 := hc3.size
   have h23 := hb23.size
   have HW3 := Lib.hid hw3
   have HK3 := Lib.hid k3
   have hlt3 : w2.heap.size < w3.heap.size := k3.lt
   have g1 : (s.role != [97, 100, 109, 105, 110]) = true := bne_iff_ne.2 hra
   have g2 : (s.role == [97, 100, 109, 105, 110]) = false := beq_eq_false_iff_ne.2 hra
   clear hw3 k3
   have HB3 := Lib.hid (HB.out.trans (hc3.mono hz0))
   have hzw3 := HB3.out.size
   obtain ⟨G, hG⟩ : ∃ G : Gr, (⟨s.role, s.tb, V⟩ : Gr) = G := ⟨_, rfl⟩
   have HKG : Hid (Blk w3 w2.heap.size 54 #[.string ⟨G.r.toArray⟩, .string ⟨G.t.toArray⟩, .bool G.w]) := by rw [← hG]; exact HK3.out
   rw [hG] at hR1
   have HHG : Hid (Calls Tryz.prog 43 #[.slice A N c, .agg #[.string ⟨G.r.toArray⟩, .string ⟨G.t.toArray⟩, .bool G.w]] w3 (Ret (.bool (decide (G ∈ l))) w3)) := HHAS.out G w3 hc3
   have HWG : Hid (∀ Z : World, Below w0.heap.size w0 Z → Calls Tryz.prog 44 #[.slice A N c, .agg #[.string ⟨G.r.toArray⟩, .string ⟨G.t.toArray⟩, .bool G.w]] Z (RetGs (withG l G) Z)) := fun Z hz => HWI.out G Z hz
   obtain ⟨D, hD⟩ : ∃ D, decide (G ∈ l) = D := ⟨_, rfl⟩
   obtain ⟨L, hL⟩ : ∃ L, withG l G = L := ⟨_, rfl⟩
   rw [hD] at hR1 HHG
   rw [hL] at hR1 HWG
   have HR := Lib.hid hR1
   clear HQ HHAS HWI hc hra hG hD hL hR1 HK3
   rcases hro2 with hro2 | hro2 <;> cases V <;> first | exact absurd hV (by rw [hro2]; decide) | skip
   all_goals
    simp only [oRead, oWrite] at hro2
    subst hro2
    go_upto_region 4 with fail
    go_upto_region 5 with fail
    rw [show w2.alloc _ = w3 from HW3.out]
    clear s0 s1 s22
    obtain ⟨s0, -, -⟩ := HS1.out w3 hc3
    obtain ⟨⟨k0, k1, k2⟩, _⟩ := HKG.out.three
    by_cases h60 : 60 ≤ N
    ·go_wp2_with fail
     refine HHG.out.mono ?_
     rintro en w4 ⟨rfl, hb4⟩
     have hc4 : Below w0.heap.size w0 w4 := hc3.trans (hb4.mono hz3)
     have hz4 := hc4.size
     clear k0 k1 k2
     obtain ⟨⟨k0, k1, k2⟩, _⟩ := (HKG.out.below hb4 hlt3).three
     cases D with
     | true =>
      have hR2 : R = (L, 0) := by rw [HR.out]; simp
      have HWX := Lib.hid (HWG.out w4 hc4)
      have hbf := HB.out.trans ((hc4).mono hz0)
      clear HR
      subst hR2
      go_wp2_with fail
      refine HWX.out.mono ?_
      rintro en w5 ⟨sv, rfl, hown5, hb5⟩
      have HO5 := Lib.hid (own_less hown5 (Nat.le_trans HB.out.size hz4))
      have HB5 := Lib.hid (hbf.trans (hb5.mono (Nat.le_trans HB.out.size hz4)))
      clear hown5 hb5
      go_wp2_with fail
      refine bodyPost_ret (v := .tuple #[sv, .int .i64 0]) (by simp [results, Tryz.results16, go_sem, *]) rfl ?_
      exact ⟨sv, rfl, HO5.out, HB5.out⟩
     | false =>
      have hR2 : R = ([], 13) := by rw [HR.out]; simp [h60]
      have hbf := HB.out.trans (hc4.mono hz0)
      clear HR
      subst hR2
      go_wp2_with fail
      refine bodyPost_ret (v := .tuple #[.slice none 0 0, .int .i64 13]) (by simp [results, Tryz.results16, go_sem, *]) rfl ?_
      exact RetGE.none_ hbf
    ·have hR2 : R = (L, 0) := by rw [HR.out]; simp [h60]
     have HWX := Lib.hid (HWG.out w3 hc3)
     have hbf := HB.out.trans ((hc3).mono hz0)
     clear HR
     subst hR2
     go_wp2_with fail
     refine HWX.out.mono ?_
     rintro en w5 ⟨sv, rfl, hown5, hb5⟩
     have HO5 := Lib.hid (own_less hown5 (Nat.le_trans HB.out.size hz3))
     have HB5 := Lib.hid (hbf.trans (hb5.mono (Nat.le_trans HB.out.size hz3)))
     clear hown5 hb5
     go_wp2_with fail
     refine bodyPost_ret (v := .tuple #[sv, .int .i64 0]) (by simp [results, Tryz.results16, go_sem, *]) rfl ?_
     exact ⟨sv, rfl, HO5.out, HB5.out⟩
end Go.Proofs.YtchilcchogcibaaGreatDoor
