/- stmt.Text and stmt.May as plain functions: textS and mayS. Condition: a statement whose texts and lists are no longer than a thousand; what the library's variables hold.. -/
import Derived.Test.YtchilcchogcibaaGreatDoorEStK
set_option maxRecDepth 100000
set_option maxHeartbeats 2000000
namespace Go.Proofs.YtchilcchogcibaaGreatDoor
open Go.RowKit
attribute [local go_sem] ByteArray.extract_mk ba_get ba_append
attribute [local go_sem ↓] Go.wp_at_zero Go.wp_at_succ
theorem uniqT_len : ∀ l : List (List UInt8), (∀ c ∈ l, nameG c = true) → (uniqT l).length ≤ l.length * 40
 | [], _ => by simp [uniqT]
 | c :: r, h => by
  have ih := uniqT_len r (fun x hx => h x (by simp [hx]))
  have := nameG_len (h c (by simp))
  unfold uniqT at ih ⊢
  rw [List.flatMap_cons, List.length_append, List.length_cons]
  simp at ih ⊢
  omega
theorem refsT_len : ∀ l : List Rf, (∀ c ∈ l, refOkB c = true) → (refsT l).length ≤ l.length * 80
 | [], _ => by simp [refsT]
 | c :: r, h => by
  have ih := refsT_len r (fun x hx => h x (by simp [hx]))
  have h0 := h c (by simp)
  unfold refOkB at h0
  simp only [Bool.and_eq_true] at h0
  have h1 := nameG_len h0.1
  have h2 := nameG_len h0.2
  unfold refsT at ih ⊢
  rw [List.flatMap_cons, List.length_append, List.length_cons]
  simp at ih ⊢
  omega
theorem textS_len (s : St) (hok : s.Ok) (h : partsS s = true) : (textS s).length ≤ 200000 := by
 have hno := hok.op
 have hnt := hok.ot
 have htb := hok.tb
 have hro := hok.role
 have hke := hok.key
 have hu := upper_len s.op
 have hu2 := upper_len (s.op.drop 2)
 have hd2 : (s.op.drop 2).length ≤ s.op.length := by rw [List.length_drop]; omega
 have hmig : (migT s).length ≤ 4000 := by unfold migT; simp; omega
 unfold partsS at h
 unfold textS
 split at h
 ·rename_i hop
  rw [if_pos hop]
  unfold creS at h
  simp only [Bool.and_eq_true] at h
  obtain ⟨⟨h1, ⟨⟨⟨⟨h2, h3⟩, h4⟩, h5⟩, h6⟩⟩, _⟩ := h
  have k1 := check_len (a := comma) (by decide) h6 hok.num.1
  have k2 := uniqT_len s.uniq (many_all h4).2.2
  have k3 := refsT_len s.refs (many_all h5).2.2
  have k4 := joined_len colT 100 s.cols (fun c hc => colT_len ((many_all h2).2.2 c hc))
  have n1 := (many_all h2).2.1
  have n2 := (many_all h4).2.1
  have n3 := (many_all h5).2.1
  simp only [List.length_append, List.length_cons, List.length_nil]
  omega
 rename_i n1
 rw [if_neg n1]
 split at h
 ·rename_i hop
  rw [if_pos hop]
  simp only [List.length_append, List.length_cons, List.length_nil]
  omega
 rename_i n2
 rw [if_neg n2]
 split at h
 ·rename_i hop
  rw [if_pos hop]
  simp only [Bool.and_eq_true] at h
  have k4 := joined_len (fun v : V => textF v.k v.i v.s) 100 s.row (fun v hv => textF_len v.k v.i v.s (hok.row v hv).1)
  have k5 := (many_all h.1.2).2.1
  simp only [List.length_append, List.length_cons, List.length_nil]
  omega
 rename_i n3
 rw [if_neg n3]
 split at h
 ·rename_i hop
  rw [if_pos hop]
  simp only [Bool.and_eq_true] at h
  obtain ⟨⟨⟨h1, h2⟩, h3⟩, _⟩ := h
  have k1 := where_len h3 hok.num.2.1
  have k4 := joined_len setT 7000 s.sets (fun v hv => setT_len ((many_all h2).2.2 v hv) (hok.num.2.2.2 v hv))
  have k5 := (many_all h2).2.1
  simp only [List.length_append, List.length_cons, List.length_nil]
  omega
 rename_i n4
 rw [if_neg n4]
 split at h
 ·rename_i hop
  simp only [Bool.and_eq_true] at h
  have k1 := where_len h.1.2 hok.num.2.1
  by_cases hd : s.op = oDelete
  ·rw [if_pos hd]
   simp only [List.length_append, List.length_cons, List.length_nil]
   omega
  ·rw [if_neg hd, if_pos (by rcases hop with h | h; exact absurd h hd; exact h)]
   simp only [List.length_append, List.length_cons, List.length_nil]
   omega
 rename_i n5
 rw [if_neg (fun h => n5 (.inl h)), if_neg (fun h => n5 (.inr h))]
 split at h
 ·rename_i hop
  by_cases hd : s.op = oRead ∨ s.op = oWrite
  ·rw [if_pos hd]
   simp only [List.length_append, List.length_cons, List.length_nil]
   omega
  ·have hd2 : s.op = oUnread ∨ s.op = oUnwrite := by
    rcases hop with h | h | h
    ·exact absurd (.inl h) hd
    ·exact absurd (.inr h) hd
    ·exact h
   rw [if_neg hd, if_pos hd2]
   simp only [List.length_append, List.length_cons, List.length_nil]
   omega
 rename_i n6
 rw [if_neg (fun h => n6 (h.elim .inl fun h => .inr (.inl h))), if_neg (fun h => n6 (.inr (.inr h)))]
 split at h
 ·rename_i hop
  rw [if_pos hop]
  simp only [Bool.and_eq_true] at h
  obtain ⟨⟨⟨⟨h1, h2⟩, h3⟩, h4⟩, _⟩ := h
  have k1 := check_len (a := [32]) (by decide) h4 hok.num.1
  have k4 := joined_len (fun x : List UInt8 => x) 16 s.names (fun v hv => nameG_len ((many_all h3).2.2 v hv))
  rw [List.map_id'] at k4
  have k5 := (many_all h3).2.1
  simp only [List.length_append, List.length_cons, List.length_nil]
  omega
 rename_i n7
 rw [if_neg n7]
 split at h
 ·rename_i hop
  rw [if_pos hop]
  simp only [Bool.and_eq_true] at h
  obtain ⟨⟨⟨⟨⟨h1, h2⟩, h3⟩, h4⟩, h5⟩, _⟩ := h
  have k1 := check_len (a := [32]) (by decide) h5 hok.num.1
  simp only [List.length_append, List.length_cons, List.length_nil]
  omega
 rename_i n8
 rw [if_neg n8]
 split at h
 ·rename_i hop
  simp only [Bool.and_eq_true] at h
  obtain ⟨⟨⟨⟨h1, h2⟩, h3⟩, h4⟩, _⟩ := h
  have k1 := check_len (a := [32]) (by decide) h4 hok.num.1
  obtain ⟨g1, g2, g3⟩ := many_all h3
  have k2 := nameG_len (getD_all (d := []) (k := 0) g3 (by omega))
  have k3 := nameG_len (getD_all (d := []) (k := 1) g3 (by omega))
  simp only [List.length_append, List.length_cons, List.length_nil]
  omega
 ·cases h
def textR (s : St) : List UInt8 := if mayS s then textS s else []
theorem cutRes_two (o : Option (List Tok)) : (cutRes o).2 = if o.isSome then 0 else 2 := by cases o <;> rfl
theorem stText_any (s : St) (p : StP) (w : World) (hok : s.Ok) (hQ : StQ 1000 s p (Old w.heap.size) w) (hV : Env0 w) :
  Calls Tryz.prog 27 #[.agg (s.cells p).toArray] w (Ret (.tuple #[.string ⟨(textR s).toArray⟩, .int .i64 (if mayS s then 0 else 1)]) w) := by
 obtain ⟨kc, ks, kw, hM⟩ := hQ.h
 refine stBox_in s p w fun w0 HW ks0 hb0 hz0 HST HB => ?_
 have HMQ : ∀ Y : World, Below w0.heap.size w0 Y → StQ 1000 s p (Old Y.heap.size) Y := fun Y hY => (hM.keep (old_keep (hb0.trans (hY.mono hz0)) (Nat.le_trans hz0 hY.size))).q
 have HEV : ∀ Y : World, Below w0.heap.size w0 Y → Env0 Y := fun Y hY => hV.below (hb0.trans (hY.mono hz0))
 have HKB : Hid (∀ Z : World, Below w0.heap.size w0 Z → Blk Z w.heap.size 34 (s.cells p).toArray) := fun Z hz => ks0.below hz ks0.lt
 have HP := Lib.hid (partsSt_any s p w0 hok (HMQ w0 (Below.refl _ _)) )
 have HT : Hid (partsS s = true → ∀ Y : World, Below w0.heap.size w0 Y → Calls Tryz.prog 54 #[.agg (s.cells p).toArray] Y (Ret (.string ⟨(textS s).toArray⟩) Y)) := fun hp Y hY => textSt_any s p Y hok (HMQ Y hY) (HEV Y hY) hp
 have HC : Hid (partsS s = true → ∀ Y : World, Below w0.heap.size w0 Y → Calls Tryz.prog 55 #[.string ⟨(textS s).toArray⟩] Y (RetTk (cutRes (cutT (textS s))).1 (cutRes (cutT (textS s))).2 Y)) := fun hp Y hY => cutT_any (textS s) Y (by have := textS_len s hok hp; omega) (HEV Y hY).1
 obtain ⟨P, hP⟩ : ∃ P, partsS s = P := ⟨_, rfl⟩
 obtain ⟨C, hC⟩ : ∃ C, cutT (textS s) = C := ⟨_, rfl⟩
 have HM2 : Hid (mayS s = (P && C.isSome)) := by show _ = _; unfold mayS; rw [hP, hC]
 have HR : Hid (textR s = if mayS s then textS s else []) := rfl
 obtain ⟨M, hM0⟩ : ∃ M, mayS s = M := ⟨_, rfl⟩
 obtain ⟨R, hR0⟩ : ∃ R, textR s = R := ⟨_, rfl⟩
 obtain ⟨T, hT0⟩ : ∃ T, textS s = T := ⟨_, rfl⟩
 rw [hM0] at HM2 HR
 rw [hR0, hT0] at HR
 rw [hT0] at HT HC hC
 rw [hP] at HP HT HC
 rw [hC] at HC
 rw [hM0, hR0]
 obtain ⟨E, hE0⟩ : ∃ E : Int, (if M then 0 else 1) = E := ⟨_, rfl⟩
 rw [hE0]
 have HE := Lib.hid hE0
 clear hE0
 have HCT := Lib.hid (cutRes_two C)
 clear hQ hM hV HMQ HEV ks0 hP hC hM0 hR0 hT0 hok hb0
 have hc0 : Below w0.heap.size w0 w0 := Below.refl _ _
 cases P with
 | false =>
  have hm : M = false := HM2.out
  subst hm
  have hr : R = [] := HR.out
  subst hr
  have he : E = 1 := HE.out.symm
  subst he
  go_in
  go_upto_region 1 with fail
  rw [show w.alloc _ = w0 from HW.out]
  clear HW
  go_wp2_with (refine wpList_load_row rfl 34 _ rfl w.heap.size rfl 34 (s.cells p).toArray (0, 0) _ (HKB.out _ hc0) Tryz.underlying34 rfl size_st ?_)
  refine HP.out.mono ?_
  rintro en w1 ⟨rfl, hb1⟩
  have hbf := HB.out.trans (hb1.mono hz0)
  go_wp2_with fail
  refine bodyPost_ret (v := .tuple #[.string ⟨#[]⟩, .int .i64 1]) (by simp [results, Tryz.results27, go_sem, *]) rfl ?_
  exact ⟨rfl, hbf⟩
 | true =>
  have HMC : Hid (M = C.isSome) := HM2.out
  clear HM2
  go_in
  go_upto_region 1 with fail
  rw [show w.alloc _ = w0 from HW.out]
  clear HW
  go_wp2_with (refine wpList_load_row rfl 34 _ rfl w.heap.size rfl 34 (s.cells p).toArray (0, 0) _ (HKB.out _ hc0) Tryz.underlying34 rfl size_st ?_)
  refine HP.out.mono ?_
  rintro en w1 ⟨rfl, hb1⟩
  have hz1 := hb1.size
  have HT1 := Lib.hid (HT.out trivial w1 hb1)
  go_wp2_with (refine wpList_load_row rfl 34 _ rfl w.heap.size rfl 34 (s.cells p).toArray (0, 0) _ (HKB.out _ hb1) Tryz.underlying34 rfl size_st ?_)
  refine HT1.out.mono ?_
  rintro en w2 ⟨rfl, hb2⟩
  have hc2 : Below w0.heap.size w0 w2 := hb1.trans (hb2.mono hz1)
  have hz2 := hc2.size
  have HC2 := Lib.hid (HC.out trivial w2 hc2)
  go_wp2_with fail
  refine HC2.out.mono ?_
  rintro en w3 ⟨A3, c3, rfl, _, _, _, hb3⟩
  have hbf := HB.out.trans ((hc2.trans (hb3.mono hz2)).mono hz0)
  cases C with
  | none =>
   have hm : M = false := HMC.out
   subst hm
   have hr : R = [] := HR.out
   subst hr
   have he : E = 1 := HE.out.symm
   subst he
   have e2 : (cutRes (none : Option (List Tok))).2 = 2 := rfl
   go_wp2_with fail
   refine bodyPost_ret (v := .tuple #[.string ⟨#[]⟩, .int .i64 1]) (by simp [results, Tryz.results27, go_sem, *]) rfl ?_
   exact ⟨rfl, hbf⟩
  | some l =>
   have hm : M = true := HMC.out
   subst hm
   have hr : R = T := HR.out
   subst hr
   have he : E = 0 := HE.out.symm
   subst he
   have e2 : (cutRes (some l)).2 = 0 := rfl
   go_wp2_with fail
   refine bodyPost_ret (v := .tuple #[.string ⟨R.toArray⟩, .int .i64 0]) (by simp [results, Tryz.results27, go_sem, *]) rfl ?_
   exact ⟨rfl, hbf⟩
theorem stMay_any (s : St) (p : StP) (w : World) (hok : s.Ok) (hQ : StQ 1000 s p (Old w.heap.size) w) (hV : Env0 w) :
  Calls Tryz.prog 36 #[.agg (s.cells p).toArray] w (Ret (.bool (mayS s)) w) := by
 refine stBox_in s p w fun w0 HW ks0 hb0 hz0 HST HB => ?_
 have HT := Lib.hid (stText_any s p w0 hok (hQ.keep (old_keep hb0 hz0)) (hV.below hb0))
 have HKS := Lib.hid ks0
 obtain ⟨M, hM0⟩ : ∃ M, mayS s = M := ⟨_, rfl⟩
 obtain ⟨R, hR0⟩ : ∃ R, textR s = R := ⟨_, rfl⟩
 rw [hM0, hR0] at HT
 rw [hM0]
 obtain ⟨E, hE0⟩ : ∃ E : Int, (if M then 0 else 1) = E := ⟨_, rfl⟩
 rw [hE0] at HT
 clear hQ hV ks0 hM0 hR0 hok hb0
 cases M with
 | false =>
  have he : E = 1 := hE0.symm
  subst he
  clear hE0
  go_in
  go_upto_region 1 with fail
  rw [show w.alloc _ = w0 from HW.out]
  clear HW
  go_wp2_with (refine wpList_load_row rfl 34 _ rfl w.heap.size rfl 34 (s.cells p).toArray (0, 0) _ HKS.out Tryz.underlying34 rfl size_st ?_)
  refine HT.out.mono ?_
  rintro en w1 ⟨rfl, hb1⟩
  have hbf := HB.out.trans (hb1.mono hz0)
  go_wp2_with fail
  go_ret
  exact ⟨rfl, hbf⟩
 | true =>
  have he : E = 0 := hE0.symm
  subst he
  clear hE0
  go_in
  go_upto_region 1 with fail
  rw [show w.alloc _ = w0 from HW.out]
  clear HW
  go_wp2_with (refine wpList_load_row rfl 34 _ rfl w.heap.size rfl 34 (s.cells p).toArray (0, 0) _ HKS.out Tryz.underlying34 rfl size_st ?_)
  refine HT.out.mono ?_
  rintro en w1 ⟨rfl, hb1⟩
  have hbf := HB.out.trans (hb1.mono hz0)
  go_wp2_with fail
  go_ret
  exact ⟨rfl, hbf⟩
end Go.Proofs.YtchilcchogcibaaGreatDoor
