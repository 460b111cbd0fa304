/- stmt.Text and stmt.May as plain functions; grant.Do as a plain function. -/
import Derived.Test.YtchilcchogcibaaGreatDoorDStK
set_option maxRecDepth 100000
set_option maxHeartbeats 8000000
namespace Go.Proofs.YtchilcchogcibaaGreatDoor
open Go.RowKit
attribute [local go_sem] ByteArray.extract_mk ba_get ba_append
attribute [local go_sem ↓] Go.wp_at_zero Go.wp_at_succ
theorem uniqT_len : ∀ l : List (List UInt8), (∀ c ∈ l, nameG c = true) → (uniqT l).length ≤ l.length * 40
 | [], _ => by simp [uniqT]
 | c :: r, h => by
  have ih := uniqT_len r (fun x hx => h x (by simp [hx]))
  have := nameG_len (h c (by simp))
  unfold uniqT at ih ⊢
  rw [List.flatMap_cons, List.length_append, List.length_cons]
  simp at ih ⊢
  omega
theorem refsT_len : ∀ l : List Rf, (∀ c ∈ l, refOkB c = true) → (refsT l).length ≤ l.length * 80
 | [], _ => by simp [refsT]
 | c :: r, h => by
  have ih := refsT_len r (fun x hx => h x (by simp [hx]))
  have h0 := h c (by simp)
  unfold refOkB at h0
  simp only [Bool.and_eq_true] at h0
  have h1 := nameG_len h0.1
  have h2 := nameG_len h0.2
  unfold refsT at ih ⊢
  rw [List.flatMap_cons, List.length_append, List.length_cons]
  simp at ih ⊢
  omega
theorem textS_len (s : St) (hok : s.Ok) (h : partsS s = true) : (textS s).length ≤ 200000 := by
 have hno := hok.op
 have hnt := hok.ot
 have htb := hok.tb
 have hro := hok.role
 have hke := hok.key
 have hu := upper_len s.op
 have hu2 := upper_len (s.op.drop 2)
 have hd2 : (s.op.drop 2).length ≤ s.op.length := by rw [List.length_drop]; omega
 have hmig : (migT s).length ≤ 4000 := by unfold migT; simp; omega
 unfold partsS at h
 unfold textS
 split at h
 ·rename_i hop
  rw [if_pos hop]
  unfold creS at h
  simp only [Bool.and_eq_true] at h
  obtain ⟨⟨h1, ⟨⟨⟨⟨h2, h3⟩, h4⟩, h5⟩, h6⟩⟩, _⟩ := h
  have k1 := check_len (a := comma) (by decide) h6 hok.num.1
  have k2 := uniqT_len s.uniq (many_all h4).2.2
  have k3 := refsT_len s.refs (many_all h5).2.2
  have k4 := joined_len colT 100 s.cols (fun c hc => colT_len ((many_all h2).2.2 c hc))
  have n1 := (many_all h2).2.1
  have n2 := (many_all h4).2.1
  have n3 := (many_all h5).2.1
  simp only [List.length_append, List.length_cons, List.length_nil]
  omega
 rename_i n1
 rw [if_neg n1]
 split at h
 ·rename_i hop
  rw [if_pos hop]
  simp only [List.length_append, List.length_cons, List.length_nil]
  omega
 rename_i n2
 rw [if_neg n2]
 split at h
 ·rename_i hop
  rw [if_pos hop]
  simp only [Bool.and_eq_true] at h
  have k4 := joined_len (fun v : V => textF v.k v.i v.s) 100 s.row (fun v hv => textF_len v.k v.i v.s (hok.row v hv).1)
  have k5 := (many_all h.1.2).2.1
  simp only [List.length_append, List.length_cons, List.length_nil]
  omega
 rename_i n3
 rw [if_neg n3]
 split at h
 ·rename_i hop
  rw [if_pos hop]
  simp only [Bool.and_eq_true] at h
  obtain ⟨⟨⟨h1, h2⟩, h3⟩, _⟩ := h
  have k1 := where_len h3 hok.num.2.1
  have k4 := joined_len setT 7000 s.sets (fun v hv => setT_len ((many_all h2).2.2 v hv) (hok.num.2.2.2 v hv))
  have k5 := (many_all h2).2.1
  simp only [List.length_append, List.length_cons, List.length_nil]
  omega
 rename_i n4
 rw [if_neg n4]
 split at h
 ·rename_i hop
  simp only [Bool.and_eq_true] at h
  have k1 := where_len h.1.2 hok.num.2.1
  by_cases hd : s.op = oDelete
  ·rw [if_pos hd]
   simp only [List.length_append, List.length_cons, List.length_nil]
   omega
  ·rw [if_neg hd, if_pos (by rcases hop with h | h; exact absurd h hd; exact h)]
   simp only [List.length_append, List.length_cons, List.length_nil]
   omega
 rename_i n5
 rw [if_neg (fun h => n5 (.inl h)), if_neg (fun h => n5 (.inr h))]
 split at h
 ·rename_i hop
  by_cases hd : s.op = oRead ∨ s.op = oWrite
  ·rw [if_pos hd]
   simp only [List.length_append, List.length_cons, List.length_nil]
   omega
  ·have hd2 : s.op = oUnread ∨ s.op = oUnwrite := by
    rcases hop with h | h | h
    ·exact absurd (.inl h) hd
    ·exact absurd (.inr h) hd
    ·exact h
   rw [if_neg hd, if_pos hd2]
   simp only [List.length_append, List.length_cons, List.length_nil]
   omega
 rename_i n6
 rw [if_neg (fun h => n6 (h.elim .inl fun h => .inr (.inl h))), if_neg (fun h => n6 (.inr (.inr h)))]
 split at h
 ·rename_i hop
  rw [if_pos hop]
  simp only [Bool.and_eq_true] at h
  obtain ⟨⟨⟨⟨h1, h2⟩, h3⟩, h4⟩, _⟩ := h
  have k1 := check_len (a := [32]) (by decide) h4 hok.num.1
  have k4 := joined_len (fun x : List UInt8 => x) 16 s.names (fun v hv => nameG_len ((many_all h3).2.2 v hv))
  rw [List.map_id'] at k4
  have k5 := (many_all h3).2.1
  simp only [List.length_append, List.length_cons, List.length_nil]
  omega
 rename_i n7
 rw [if_neg n7]
 split at h
 ·rename_i hop
  rw [if_pos hop]
  simp only [Bool.and_eq_true] at h
  obtain ⟨⟨⟨⟨⟨h1, h2⟩, h3⟩, h4⟩, h5⟩, _⟩ := h
  have k1 := check_len (a := [32]) (by decide) h5 hok.num.1
  simp only [List.length_append, List.length_cons, List.length_nil]
  omega
 rename_i n8
 rw [if_neg n8]
 split at h
 ·rename_i hop
  simp only [Bool.and_eq_true] at h
  obtain ⟨⟨⟨⟨h1, h2⟩, h3⟩, h4⟩, _⟩ := h
  have k1 := check_len (a := [32]) (by decide) h4 hok.num.1
  obtain ⟨g1, g2, g3⟩ := many_all h3
  have k2 := nameG_len (getD_all (d := []) (k := 0) g3 (by omega))
  have k3 := nameG_len (getD_all (d := []) (k := 1) g3 (by omega))
  simp only [List.length_append, List.length_cons, List.length_nil]
  omega
 ·cases h
def textR (s : St) : List UInt8 := if mayS s then textS s else []
theorem cutRes_two (o : Option (List Tok)) : (cutRes o).2 = if o.isSome then 0 else 2 := by cases o <;> rfl
theorem stText_any (s : St) (p : StP) (w : World) (hok : s.Ok) (hQ : StQ 1000 s p (Old w.heap.size) w) (hV : Env0 w) :
  Calls Tryz.prog 27 #[.agg (s.cells p).toArray] w (Ret (.tuple #[.string ⟨(textR s).toArray⟩, .int .i64 (if mayS s then 0 else 1)]) w) := by
 obtain ⟨kc, ks, kw, hM⟩ := hQ.h
 refine stBox_in s p w fun w0 HW ks0 hb0 hz0 HST HB => ?_
 have HMQ : ∀ Y : World, Below w0.heap.size w0 Y → StQ 1000 s p (Old Y.heap.size) Y := fun Y hY => (hM.keep (old_keep (hb0.trans (hY.mono hz0)) (Nat.le_trans hz0 hY.size))).q
 have HEV : ∀ Y : World, Below w0.heap.size w0 Y → Env0 Y := fun Y hY => hV.below (hb0.trans (hY.mono hz0))
 have HKB : Hid (∀ Z : World, Below w0.heap.size w0 Z → Blk Z w.heap.size 34 (s.cells p).toArray) := fun Z hz => ks0.below hz ks0.lt
 have HP := Lib.hid (partsSt_any s p w0 hok (HMQ w0 (Below.refl _ _)) )
 have HT : Hid (partsS s = true → ∀ Y : World, Below w0.heap.size w0 Y → Calls Tryz.prog 54 #[.agg (s.cells p).toArray] Y (Ret (.string ⟨(textS s).toArray⟩) Y)) := fun hp Y hY => textSt_any s p Y hok (HMQ Y hY) (HEV Y hY) hp
 have HC : Hid (partsS s = true → ∀ Y : World, Below w0.heap.size w0 Y → Calls Tryz.prog 55 #[.string ⟨(textS s).toArray⟩] Y (RetTk (cutRes (cutT (textS s))).1 (cutRes (cutT (textS s))).2 Y)) := fun hp Y hY => cutT_any (textS s) Y (by have := textS_len s hok hp; omega) (HEV Y hY).1
 obtain ⟨P, hP⟩ : ∃ P, partsS s = P := ⟨_, rfl⟩
 obtain ⟨C, hC⟩ : ∃ C, cutT (textS s) = C := ⟨_, rfl⟩
 have HM2 : Hid (mayS s = (P && C.isSome)) := by show _ = _; unfold mayS; rw [hP, hC]
 have HR : Hid (textR s = if mayS s then textS s else []) := rfl
 obtain ⟨M, hM0⟩ : ∃ M, mayS s = M := ⟨_, rfl⟩
 obtain ⟨R, hR0⟩ : ∃ R, textR s = R := ⟨_, rfl⟩
 obtain ⟨T, hT0⟩ : ∃ T, textS s = T := ⟨_, rfl⟩
 rw [hM0] at HM2 HR
 rw [hR0, hT0] at HR
 rw [hT0] at HT HC hC
 rw [hP] at HP HT HC
 rw [hC] at HC
 rw [hM0, hR0]
 obtain ⟨E, hE0⟩ : ∃ E : Int, (if M then 0 else 1) = E := ⟨_, rfl⟩
 rw [hE0]
 have HE := Lib.hid hE0
 clear hE0
 have HCT := Lib.hid (cutRes_two C)
 clear hQ hM hV HMQ HEV ks0 hP hC hM0 hR0 hT0 hok hb0
 have hc0 : Below w0.heap.size w0 w0 := Below.refl _ _
 cases P with
 | false =>
  have hm : M = false := HM2.out
  subst hm
  have hr : R = [] := HR.out
  subst hr
  have he : E = 1 := HE.out.symm
  subst he
  go_in
  go_upto_region 1 with fail
  rw [show w.alloc _ = w0 from HW.out]
  clear HW
  go_wp2_with (refine wpList_load_row rfl 34 _ rfl w.heap.size rfl 34 (s.cells p).toArray (0, 0) _ (HKB.out _ hc0) Tryz.underlying34 rfl size_st ?_)
  refine HP.out.mono ?_
  rintro en w1 ⟨rfl, hb1⟩
  have hbf := HB.out.trans (hb1.mono hz0)
  go_wp2_with fail
  refine bodyPost_ret (v := .tuple #[.string ⟨#[]⟩, .int .i64 1]) (by simp [results, Tryz.results27, go_sem, *]) rfl ?_
  exact ⟨rfl, hbf⟩
 | true =>
  have HMC : Hid (M = C.isSome) := HM2.out
  clear HM2
  go_in
  go_upto_region 1 with fail
  rw [show w.alloc _ = w0 from HW.out]
  clear HW
  go_wp2_with (refine wpList_load_row rfl 34 _ rfl w.heap.size rfl 34 (s.cells p).toArray (0, 0) _ (HKB.out _ hc0) Tryz.underlying34 rfl size_st ?_)
  refine HP.out.mono ?_
  rintro en w1 ⟨rfl, hb1⟩
  have hz1 := hb1.size
  have HT1 := Lib.hid (HT.out trivial w1 hb1)
  go_wp2_with (refine wpList_load_row rfl 34 _ rfl w.heap.size rfl 34 (s.cells p).toArray (0, 0) _ (HKB.out _ hb1) Tryz.underlying34 rfl size_st ?_)
  refine HT1.out.mono ?_
  rintro en w2 ⟨rfl, hb2⟩
  have hc2 : Below w0.heap.size w0 w2 := hb1.trans (hb2.mono hz1)
  have hz2 := hc2.size
  have HC2 := Lib.hid (HC.out trivial w2 hc2)
  go_wp2_with fail
  refine HC2.out.mono ?_
  rintro en w3 ⟨A3, c3, rfl, _, _, _, hb3⟩
  have hbf := HB.out.trans ((hc2.trans (hb3.mono hz2)).mono hz0)
  cases C with
  | none =>
   have hm : M = false := HMC.out
   subst hm
   have hr : R = [] := HR.out
   subst hr
   have he : E = 1 := HE.out.symm
   subst he
   have e2 : (cutRes (none : Option (List Tok))).2 = 2 := rfl
   go_wp2_with fail
   refine bodyPost_ret (v := .tuple #[.string ⟨#[]⟩, .int .i64 1]) (by simp [results, Tryz.results27, go_sem, *]) rfl ?_
   exact ⟨rfl, hbf⟩
  | some l =>
   have hm : M = true := HMC.out
   subst hm
   have hr : R = T := HR.out
   subst hr
   have he : E = 0 := HE.out.symm
   subst he
   have e2 : (cutRes (some l)).2 = 0 := rfl
   go_wp2_with fail
   refine bodyPost_ret (v := .tuple #[.string ⟨R.toArray⟩, .int .i64 0]) (by simp [results, Tryz.results27, go_sem, *]) rfl ?_
   exact ⟨rfl, hbf⟩
theorem stMay_any (s : St) (p : StP) (w : World) (hok : s.Ok) (hQ : StQ 1000 s p (Old w.heap.size) w) (hV : Env0 w) :
  Calls Tryz.prog 36 #[.agg (s.cells p).toArray] w (Ret (.bool (mayS s)) w) := by
 refine stBox_in s p w fun w0 HW ks0 hb0 hz0 HST HB => ?_
 have HT := Lib.hid (stText_any s p w0 hok (hQ.keep (old_keep hb0 hz0)) (hV.below hb0))
 have HKS := Lib.hid ks0
 obtain ⟨M, hM0⟩ : ∃ M, mayS s = M := ⟨_, rfl⟩
 obtain ⟨R, hR0⟩ : ∃ R, textR s = R := ⟨_, rfl⟩
 rw [hM0, hR0] at HT
 rw [hM0]
 obtain ⟨E, hE0⟩ : ∃ E : Int, (if M then 0 else 1) = E := ⟨_, rfl⟩
 rw [hE0] at HT
 clear hQ hV ks0 hM0 hR0 hok hb0
 cases M with
 | false =>
  have he : E = 1 := hE0.symm
  subst he
  clear hE0
  go_in
  go_upto_region 1 with fail
  rw [show w.alloc _ = w0 from HW.out]
  clear HW
  go_wp2_with (refine wpList_load_row rfl 34 _ rfl w.heap.size rfl 34 (s.cells p).toArray (0, 0) _ HKS.out Tryz.underlying34 rfl size_st ?_)
  refine HT.out.mono ?_
  rintro en w1 ⟨rfl, hb1⟩
  have hbf := HB.out.trans (hb1.mono hz0)
  go_wp2_with fail
  go_ret
  exact ⟨rfl, hbf⟩
 | true =>
  have he : E = 0 := hE0.symm
  subst he
  clear hE0
  go_in
  go_upto_region 1 with fail
  rw [show w.alloc _ = w0 from HW.out]
  clear HW
  go_wp2_with (refine wpList_load_row rfl 34 _ rfl w.heap.size rfl 34 (s.cells p).toArray (0, 0) _ HKS.out Tryz.underlying34 rfl size_st ?_)
  refine HT.out.mono ?_
  rintro en w1 ⟨rfl, hb1⟩
  have hbf := HB.out.trans (hb1.mono hz0)
  go_wp2_with fail
  go_ret
  exact ⟨rfl, hbf⟩
def wrOp (op : List UInt8) : Bool := decide (op = oWrite) || decide (op = oUnwrite)
def stG (s : St) : Gr := ⟨s.role, s.tb, wrOp s.op⟩
def doG (l : List Gr) (s : St) : List Gr × Int :=
 if chkG l = 0 then
  if mayS s then
   if s.role = adminT then ([], 1)
   else if s.op = oRead ∨ s.op = oWrite then (if decide (60 ≤ l.length) && !decide (stG s ∈ l) then ([], 13) else (addG l (stG s), 0))
   else if s.op = oUnread ∨ s.op = oUnwrite then (delG l (stG s), 0)
   else ([], 1)
  else ([], 1)
 else ([], 1)
def RetGE (r : List Gr × Int) (w : World) (en : Ending) (w' : World) : Prop := ∃ sv, en = .returned (.tuple #[sv, .int .i64 r.2]) ∧ w'.ownsRow w.heap.size 54 3 sv r.1.length (gcs r.1) ∧ Below w.heap.size w w'
theorem RetGE.none_ {n : Int} {w w' : World} (h : Below w.heap.size w w') : RetGE ([], n) w (.returned (.tuple #[.slice none 0 0, .int .i64 n])) w' := ⟨_, rfl, World.ownsRow_nil _ _ _ _, h⟩
theorem do_any (A : Option Addr) (c : Nat) (l : List Gr) (s : St) (p : StP) (w : World) (hl : l.length ≤ 400) (hn : ∀ g ∈ l, g.r.length ≤ 1000000 ∧ g.t.length ≤ 1000000) (h : GQ l A (Old w.heap.size) w) (hok : s.Ok) (hQ : StQ 1000 s p (Old w.heap.size) w) (hV : Env0 w) :
  Calls Tryz.prog 15 #[.slice A l.length c, .agg (s.cells p).toArray] w (RetGE (doG l s) w) := by
 have hmq := hQ
 refine stBox_in s p w fun w0 HW ks0 hb0 hz0 HST HB => ?_
 have HQ : Hid (∀ Z : World, Below w0.heap.size w0 Z → GQ l A (Old Z.heap.size) Z) := fun Z hz => h.keep (old_keep (hb0.trans (hz.mono hz0)) (Nat.le_trans hz0 hz.size))
 have HCK : Hid (Calls Tryz.prog 20 #[.slice A l.length c] w0 (Ret (.int .i64 (chkG l)) w0)) := checkG_any A c l w0 (by omega) hn (HQ.out w0 (Below.refl _ _))
 have HMY : Hid (∀ Z : World, Below w0.heap.size w0 Z → Calls Tryz.prog 36 #[.agg (s.cells p).toArray] Z (Ret (.bool (mayS s)) Z)) := fun Z hz => stMay_any s p Z hok (hmq.keep (old_keep (hb0.trans (hz.mono hz0)) (Nat.le_trans hz0 hz.size))) (hV.below (hb0.trans (hz.mono hz0)))
 have HKB : Hid (∀ Z : World, Below w0.heap.size w0 Z → Blk Z w.heap.size 34 (s.cells p).toArray) := fun Z hz => ks0.below hz ks0.lt
 obtain ⟨O, hO⟩ : ∃ O, s.op = O := ⟨_, rfl⟩
 have HS1 : Hid (∀ Z : World, Below w0.heap.size w0 Z → Z.cell? ⟨w.heap.size, 0, none⟩ = some (.string ⟨O.toArray⟩) ∧ Z.cell? ⟨w.heap.size, 1, none⟩ = some (.string ⟨s.tb.toArray⟩) ∧ Z.cell? ⟨w.heap.size, 22, none⟩ = some (.string ⟨s.role.toArray⟩)) := fun Z hz => by
  rw [← hO]
  exact ⟨(HST.out Z hz).1, (HST.out Z hz).2.1, (HST.out Z hz).2.2.2.2.2.2.2.2.2.2.2.2.2.2.2.2.2.2.2.2.2.2⟩
 obtain ⟨C, hC⟩ : ∃ C, chkG l = C := ⟨_, rfl⟩
 obtain ⟨M, hM⟩ : ∃ M, mayS s = M := ⟨_, rfl⟩
 obtain ⟨V, hVV⟩ : ∃ V, wrOp O = V := ⟨_, rfl⟩
 obtain ⟨G, hG⟩ : ∃ G : Gr, (⟨s.role, s.tb, V⟩ : Gr) = G := ⟨_, rfl⟩
 have hSG : stG s = G := by unfold stG; rw [hO, hVV, hG]
 obtain ⟨R, hR⟩ : ∃ R, doG l s = R := ⟨_, rfl⟩
 have HR : Hid ((if C = 0 then if M then if s.role = adminT then ([], 1) else if O = oRead ∨ O = oWrite then (if decide (60 ≤ l.length) && !decide (G ∈ l) then ([], 13) else (addG l G, 0)) else if O = oUnread ∨ O = oUnwrite then (delG l G, 0) else ([], 1) else ([], 1) else ([], 1)) = R) := by
  show _ = _
  rw [← hR, ← hSG, ← hC, ← hM, ← hO]
  rfl
 rw [hR]
 rw [hC] at HCK
 rw [hM] at HMY
 have HP : Hid (∀ Z : World, Below w0.heap.size w0 Z → Calls Tryz.prog 37 #[.slice A l.length c, .agg #[.string ⟨G.r.toArray⟩, .string ⟨G.t.toArray⟩, .bool G.w]] Z (Ret (.int .i64 (firstP (fun x => decide (x = G)) l 0)) Z)) := fun Z hz => place_any A c l G Z (by omega) (HQ.out Z hz)
 have hFM := firstP_mem l G
 obtain ⟨F, hF⟩ : ∃ F, firstP (fun x => decide (x = G)) l 0 = F := ⟨_, rfl⟩
 rw [hF] at HP hFM
 obtain ⟨D, hD⟩ : ∃ D, decide (G ∈ l) = D := ⟨_, rfl⟩
 rw [hD] at hFM HR
 obtain ⟨L, hL⟩ : ∃ L, addG l G = L := ⟨_, rfl⟩
 obtain ⟨L', hL'⟩ : ∃ L, delG l G = L := ⟨_, rfl⟩
 rw [hL, hL'] at HR
 have HWI : Hid (∀ Z : World, Below w0.heap.size w0 Z → Calls Tryz.prog 38 #[.slice A l.length c, .agg #[.string ⟨G.r.toArray⟩, .string ⟨G.t.toArray⟩, .bool G.w]] Z (RetGs L Z)) := fun Z hz => by rw [← hL]; exact with_any A c l G Z (by omega) (HQ.out Z hz)
 have HCL : Hid (∀ Z : World, Below w0.heap.size w0 Z → Calls Tryz.prog 40 #[.slice A l.length c] Z (fun e w' => ∃ A' c', e = .returned (.slice A' l.length c') ∧ w'.ownsRow Z.heap.size 54 3 (.slice A' l.length c') l.length (gcs l) ∧ Below Z.heap.size Z w')) := fun Z hz => cloneG_any A c l Z (by omega) (HQ.out Z hz)
 have HDF : Hid (∀ (base g : Nat) (A' : Option Addr) (c' : Nat) (Z : World), g < base → base ≤ Z.heap.size → Blk Z g 54 #[.string ⟨G.r.toArray⟩, .string ⟨G.t.toArray⟩, .bool G.w] → Z.ownsRow base 54 3 (.slice A' l.length c') l.length (gcs l) →
   Calls Tryz.prog 39 #[.slice A' l.length c', .func (.func 41) #[] #[.pointer (some ⟨g, 0, none⟩)]] Z (RetOG base L' Z)) := fun base g A' c' Z hgb hbz hk hown => by
  rw [← hL']
  exact delG_any base 41 g (fun x => decide (x = G)) A' c' l (Go.Proofs.enters_of Tryz.func41 (by kernel_rfl) rfl) Z (by omega) hbz hown (fun x _ Y hY => by
   have k := hk.below hY hgb
   exact doC_any x G g Y (k.cell 0) (k.cell 1) (k.cell 2))
 have HFM := Lib.hid hFM
 have HG := Lib.hid hG
 obtain ⟨N, hN⟩ : ∃ N, l.length = N := ⟨_, rfl⟩
 rw [hN] at HCK HP HWI HCL HDF HR ⊢
 clear hN hL hL' hD hF hFM hSG hR hG hC hM hO HST hmq hok hQ hV ks0 hb0 h hn
 go_in
 go_upto_region 1 with fail
 rw [show w.alloc _ = w0 from HW.out]
 clear HW
 go_wp2_with fail
 refine HCK.out.mono ?_
 rintro en w1 ⟨rfl, hb1⟩
 have hz1 := hb1.size
 by_cases hc : C = 0
 case neg =>
  have hR2 : R = ([], 1) := by rw [← HR.out, if_neg hc]
  have e1 : (C != 0) = true := by simpa using hc
  have hbf := HB.out.trans (hb1.mono hz0)
  clear HR HP HWI HCL HDF HQ
  subst hR2
  go_wp2_with fail
  refine bodyPost_ret (v := .tuple #[.slice none 0 0, .int .i64 1]) (by simp [results, Tryz.results15, go_sem, *]) rfl ?_
  exact RetGE.none_ hbf
 have HRb : Hid ((if M then if s.role = adminT then ([], 1) else if O = oRead ∨ O = oWrite then (if decide (60 ≤ N) && !D then ([], 13) else (L, 0)) else if O = oUnread ∨ O = oUnwrite then (L', 0) else ([], 1) else ([], 1)) = R) := by show _ = _; rw [← HR.out, if_pos hc]
 clear HR
 subst hc
 have HX := Lib.hid (HMY.out w1 hb1)
 go_wp2_with (refine wpList_load_rowG (by rfl) 34 _ rfl w.heap.size rfl 34 (s.cells p).toArray (0, 0) _ (HKB.out _ hb1) Tryz.underlying34 rfl size_st ?_)
 refine HX.out.mono ?_
 rintro en w2 ⟨rfl, hb2⟩
 have hc2 : Below w0.heap.size w0 w2 := hb1.trans (hb2.mono hz1)
 have hz2 := hc2.size
 have hbf := HB.out.trans (hc2.mono hz0)
 cases M with
 | false =>
  have hR2 : R = ([], 1) := HRb.out.symm
  clear HRb HP HWI HCL HDF HQ
  subst hR2
  go_wp2_with fail
  refine bodyPost_ret (v := .tuple #[.slice none 0 0, .int .i64 1]) (by simp [results, Tryz.results15, go_sem, *]) rfl ?_
  exact RetGE.none_ hbf
 | true =>
  obtain ⟨s0, s1, s22⟩ := HS1.out w2 hc2
  by_cases hra : s.role = adminT
  ·have hR2 : R = ([], 1) := by rw [← HRb.out]; simp [hra]
   have o_a : (s.role == [97, 100, 109, 105, 110]) = true := by rw [hra]; rfl
   clear HRb HP HWI HCL HDF HQ hra
   subst hR2
   go_wp2_with fail
   refine bodyPost_ret (v := .tuple #[.slice none 0 0, .int .i64 1]) (by simp [results, Tryz.results15, go_sem, *]) rfl ?_
   exact RetGE.none_ hbf
  have HRc : Hid ((if O = oRead ∨ O = oWrite then (if decide (60 ≤ N) && !D then ([], 13) else (L, 0)) else if O = oUnread ∨ O = oUnwrite then (L', 0) else ([], 1)) = R) := by show _ = _; rw [← HRb.out]; simp only [hra, if_true, if_false]
  have o_a : (s.role == [97, 100, 109, 105, 110]) = false := beq_eq_false_iff_ne.2 hra
  obtain ⟨w3, hw3⟩ : ∃ w3, w2.alloc (.cells #[.string ⟨s.role.toArray⟩, .string ⟨s.tb.toArray⟩, .bool V] 54) = w3 := ⟨_, rfl⟩
  have k3 : Blk w3 w2.heap.size 54 #[.string ⟨s.role.toArray⟩, .string ⟨s.tb.toArray⟩, .bool V] := by rw [← hw3]; exact Blk.new _ _ _
  have hb23 : Below w2.heap.size w2 w3 := by rw [← hw3]; exact bl
  have hc3 : Below w0.heap.size w0 w3 := hc2.trans (hb23.mono hz2)
  have hz3 := hc3.size
  have h23 := hb23.size
  have hlt3 : w2.heap.size < w3.heap.size := k3.lt
  have HW3 := Lib.hid hw3
  have HK3 : Hid (Blk w3 w2.heap.size 54 #[.string ⟨G.r.toArray⟩, .string ⟨G.t.toArray⟩, .bool G.w]) := by rw [← HG.out]; exact k3
  clear hw3 k3 hra HRb
  by_cases ho : O = oRead ∨ O = oWrite
  ·have hR1 : R = if decide (60 ≤ N) && !D then ([], 13) else (L, 0) := by rw [← HRc.out, if_pos ho]
   have HR := Lib.hid hR1
   clear HCL HDF HQ hR1 HRc
   rcases ho with ho | ho <;> cases V <;> first | exact absurd hVV (by rw [ho]; decide) | skip
   all_goals
    simp only [oRead, oWrite] at ho
    subst ho
    go_upto_region 4 with fail
    rw [show w2.alloc _ = w3 from HW3.out]
    clear s0 s1 s22
    obtain ⟨s0, -, -⟩ := HS1.out w3 hc3
    obtain ⟨⟨k0, k1, k2⟩, _⟩ := HK3.out.three
    by_cases h60 : 60 ≤ N
    ·have HPX := Lib.hid (HP.out w3 hc3)
     go_wp2_with fail
     refine HPX.out.mono ?_
     rintro en w4 ⟨rfl, hb4⟩
     have hc4 : Below w0.heap.size w0 w4 := hc3.trans (hb4.mono hz3)
     have hz4 := hc4.size
     clear k0 k1 k2
     obtain ⟨⟨k0, k1, k2⟩, _⟩ := (HK3.out.below hb4 hlt3).three
     cases D with
     | true =>
      have hR2 : R = (L, 0) := by rw [HR.out]; simp
      have g0 : ¬ F < 0 := by have := HFM.out; simp at this; omega
      have HWX := Lib.hid (HWI.out w4 hc4)
      have hbf := HB.out.trans ((hc4).mono hz0)
      clear HR
      subst hR2
      go_wp2_with fail
      refine HWX.out.mono ?_
      rintro en w5 ⟨sv, rfl, hown5, hb5⟩
      have hzz := Nat.le_trans HB.out.size hz4
      have HO5 := Lib.hid (own_less hown5 hzz)
      have HB5 := Lib.hid (hbf.trans (hb5.mono hzz))
      clear hown5 hb5
      go_wp2_with fail
      refine bodyPost_ret (v := .tuple #[sv, .int .i64 0]) (by simp [results, Tryz.results15, go_sem, *]) rfl ?_
      exact ⟨sv, rfl, HO5.out, HB5.out⟩
     | false =>
      have hR2 : R = ([], 13) := by rw [HR.out]; simp [h60]
      have g0 : F < 0 := by have := HFM.out; simp at this; omega
      have hbf := HB.out.trans (hc4.mono hz0)
      clear HR
      subst hR2
      go_wp2_with fail
      refine bodyPost_ret (v := .tuple #[.slice none 0 0, .int .i64 13]) (by simp [results, Tryz.results15, go_sem, *]) rfl ?_
      exact RetGE.none_ hbf
    ·have hR2 : R = (L, 0) := by rw [HR.out]; simp [h60]
     have HWX := Lib.hid (HWI.out w3 hc3)
     have hbf := HB.out.trans ((hc3).mono hz0)
     clear HR
     subst hR2
     go_wp2_with fail
     refine HWX.out.mono ?_
     rintro en w5 ⟨sv, rfl, hown5, hb5⟩
     have hzz := Nat.le_trans HB.out.size hz3
     have HO5 := Lib.hid (own_less hown5 hzz)
     have HB5 := Lib.hid (hbf.trans (hb5.mono hzz))
     clear hown5 hb5
     go_wp2_with fail
     refine bodyPost_ret (v := .tuple #[sv, .int .i64 0]) (by simp [results, Tryz.results15, go_sem, *]) rfl ?_
     exact ⟨sv, rfl, HO5.out, HB5.out⟩
  by_cases hu : O = oUnread ∨ O = oUnwrite
  ·have hR2 : R = (L', 0) := by rw [← HRc.out, if_neg ho, if_pos hu]
   clear HRc HP HWI HQ ho
   subst hR2
   rcases hu with ho | ho <;> cases V <;> first | exact absurd hVV (by rw [ho]; decide) | skip
   all_goals
    simp only [oUnread, oUnwrite] at ho
    subst ho
    go_upto_region 4 with fail
    rw [show w2.alloc _ = w3 from HW3.out]
    clear s0 s1 s22
    obtain ⟨s0, -, -⟩ := HS1.out w3 hc3
    obtain ⟨⟨k0, k1, k2⟩, _⟩ := HK3.out.three
    have HCX := Lib.hid (HCL.out w3 hc3)
    go_wp2_with fail
    refine HCX.out.mono ?_
    rintro en w4 ⟨A', c', rfl, hown4, hb4⟩
    have hk4 := HK3.out.below hb4 hlt3
    have HDX := Lib.hid (HDF.out w3.heap.size w2.heap.size A' c' w4 hlt3 hb4.size hk4 hown4)
    have hbf : Below w.heap.size w w4 := HB.out.trans ((hc3.trans (hb4.mono hz3)).mono hz0)
    clear hown4 hk4
    go_wp2_with fail
    refine HDX.out.mono ?_
    rintro en w5 ⟨sv, rfl, hown5, hb5⟩
    have hzz := Nat.le_trans HB.out.size hz3
    have HO5 := Lib.hid (own_less hown5 hzz)
    have HB5 := Lib.hid (hbf.trans (hb5.mono hzz))
    clear hown5 hb5
    go_wp2_with fail
    refine bodyPost_ret (v := .tuple #[sv, .int .i64 0]) (by simp [results, Tryz.results15, go_sem, *]) rfl ?_
    exact ⟨sv, rfl, HO5.out, HB5.out⟩
  have hR2 : R = ([], 1) := by rw [← HRc.out, if_neg ho, if_neg hu]
  simp only [not_or] at ho hu
  obtain ⟨n1, n2⟩ := ho
  obtain ⟨n3, n4⟩ := hu
  cases V with
  | true => exact absurd hVV (by unfold wrOp; simp [n2, n4])
  | false =>
   have o1 : (O == [114, 101, 97, 100]) = false := beq_eq_false_iff_ne.2 n1
   have o2 : (O == [119, 114, 105, 116, 101]) = false := beq_eq_false_iff_ne.2 n2
   have o3 : (O == [117, 110, 114, 101, 97, 100]) = false := beq_eq_false_iff_ne.2 n3
   have o4 : (O == [117, 110, 119, 114, 105, 116, 101]) = false := beq_eq_false_iff_ne.2 n4
   have hbf := HB.out.trans (hc3.mono hz0)
   clear HRc HP HWI HCL HDF HQ n1 n2 n3 n4
   subst hR2
   go_upto_region 4 with fail
   rw [show w2.alloc _ = w3 from HW3.out]
   clear s0 s1 s22
   obtain ⟨s0, -, -⟩ := HS1.out w3 hc3
   obtain ⟨⟨k0, k1, k2⟩, _⟩ := HK3.out.three
   go_wp2_with fail
   refine bodyPost_ret (v := .tuple #[.slice none 0 0, .int .i64 1]) (by simp [results, Tryz.results15, go_sem, *]) rfl ?_
   exact RetGE.none_ hbf
end Go.Proofs.YtchilcchogcibaaGreatDoor
