/- The document's Text of a statement: the text, and whether the statement may be, exactly where the Op is a right, SELECT, DELETE, DROP or COPY; elsewhere that it answers. Condition: a statement whose texts and lists are no longer than a thousand, of no more than twenty names, columns, uniques, references and sets.. -/
import Derived.Test.YtchilcchogcibaaGreatDoorDR5Same
import Derived.Test.YtchilcchogcibaaGreatDoorDR5V
set_option maxRecDepth 100000
set_option maxHeartbeats 8000000
namespace Go.Proofs.YtchilcchogcibaaGreatDoor
open Go.RowKit
attribute [local go_sem] ByteArray.extract_mk ba_get ba_append
attribute [local go_sem ↓] Go.wp_at_zero Go.wp_at_succ
theorem St.Ok.lens {s : St} (h : s.Ok) (h1 : s.chk.l.length ≤ maxLen) (h2 : s.whr.l.length ≤ maxLen) (h3 : ∀ x ∈ s.sets, x.e.l.length ≤ maxLen) : s.lens := ⟨h.nN, h.nC, h.nU, h.nR, h.nW, h.nS, h1, h2, h3⟩
theorem own_lens {s : St} (h : s.lens) : (ownS s).lens := by
 obtain ⟨h1, h2, h3, h4, h5, h6, h7, h8, h9⟩ := h
 have z : ∀ x ∈ ([] : List Se), x.e.l.length ≤ maxLen := fun x hx => by cases hx
 unfold ownS
 repeat' split
 all_goals refine ⟨?_, ?_, ?_, ?_, ?_, ?_, ?_, ?_, ?_⟩
 all_goals first | assumption | exact Nat.zero_le _
theorem own_mem {m : Nat} {s : St} {p : StP} {Q : Nat → Prop} {w : World} (h : StM m s p Q w) : StM m (ownS s) (ownP s p) Q w := by
 obtain ⟨h1, h2, h3, h4, h5, h6, h7, h8⟩ := h
 have e0 : ∀ A, ExQ 1000 m w Q A ex0.l := fun A => by cases m <;> first | rfl | exact fun h => absurd h (by simp [ex0, Ex.l])
 have hs : ∀ (A : Option Addr) (l : List (List UInt8)), l = [] → SQ l A Q w := fun A l e => by subst e; exact SQ.nil
 unfold ownS ownP
 repeat' split
 all_goals refine ⟨?_, ?_, ?_, ?_, ?_, ?_, ?_, ?_⟩
 all_goals first | assumption | exact e0 _ | exact SQ.nil | exact XQ.nil | exact ZQ.nil | (refine fun h => absurd h ?_; simp [stZ]; done)
def RetTx (s : St) (w : World) (en : Ending) (w' : World) : Prop := ∃ (T : List UInt8) (b : Bool), en = .returned (.tuple #[.string ⟨T.toArray⟩, .bool b]) ∧ (strongO s.op → T = textR s ∧ b = mayS s) ∧ Below w.heap.size w w'
theorem rtext_st (s : St) (p : StP) (w : World) (hok : s.Ok) (hlc : s.chk.l.length ≤ maxLen) (hlw : s.whr.l.length ≤ maxLen) (hls : ∀ x ∈ s.sets, x.e.l.length ≤ maxLen) (hsm : s.small) (hQ : StQ 1000 s p (Old w.heap.size) w) :
  Calls Tryz.prog 42 #[.agg (s.cells p).toArray] w (RetTx s w) := by
 obtain ⟨kc, ks, kw, hM0⟩ := hQ.h
 have hM := hM0.ups (m := kc + ks + kw) (by omega) (by omega) (by omega)
 generalize kc + ks + kw = m at hM
 clear hM0
 refine stBox_in s p w fun w0 HW ks0 hb0 hz0 HST HB => ?_
 have hln := hok.lens hlc hlw hls
 have HKB : Hid (∀ Z : World, Below w0.heap.size w0 Z → Blk Z w.heap.size 34 (s.cells p).toArray) := fun Z hz => ks0.below hz ks0.lt
 have HMM : ∀ Z : World, Below w0.heap.size w0 Z → StM m s p (Old Z.heap.size) Z := fun Z hz => hM.keep (old_keep (hb0.trans (hz.mono hz0)) (Nat.le_trans hz0 hz.size))
 have HWR := Lib.hid (wr_any s p w0 hok hlc hlw hsm (hQ.keep (old_keep hb0 hz0)))
 have HSM : Hid (∀ Z : World, Below w0.heap.size w0 Z → Calls Tryz.prog 28 #[.agg ((ownS s).cells (ownP s p)).toArray, .agg (s.cells p).toArray] Z (Ret (.bool (sameS m (ownS s) s)) Z)) := fun Z hz => rsameS_any m (ownS s) s (ownP s p) p Z (own_lens hln) hln (own_mem (HMM Z hz)) (HMM Z hz)
 have HNM : Hid (∀ Z : World, Calls Tryz.prog 47 #[.string ⟨s.tb.toArray⟩] Z (Ret (.bool (nameG s.tb)) Z)) := fun Z => rnameG_any s.tb Z (by have := hok.tb; omega)
 have hP := parts_D m s
 obtain ⟨NB, hNB⟩ : ∃ T, nameG s.tb = T := ⟨_, rfl⟩
 obtain ⟨SB, hSB⟩ : ∃ T, sameS m (ownS s) s = T := ⟨_, rfl⟩
 rw [hNB] at HNM
 rw [hSB] at HSM
 rw [hNB, hSB] at hP
 have HP : Hid (partsS s = (okD s && (NB && SB))) := hP
 have HNO : Hid (partsS s = false → [] = textR s ∧ false = mayS s) := fun h => by
  have hm : mayS s = false := by unfold mayS; rw [h]; rfl
  exact ⟨by unfold textR; rw [hm]; rfl, hm.symm⟩
 have hc0 : Below w0.heap.size w0 w0 := Below.refl _ _
 clear hQ hM HMM hP hNB hSB ks0 hok hln hlc hlw hls hb0 hsm HST
 go_in
 go_upto_region 1 with fail
 rw [show w.alloc _ = w0 from HW.out]
 clear HW
 go_wp2_with (refine wpList_load_row rfl 34 _ rfl w.heap.size rfl 34 (s.cells p).toArray (0, 0) _ (HKB.out _ hc0) Tryz.underlying34 rfl size_st ?_)
 refine HWR.out.mono ?_
 rintro en w1 ⟨T, K, rfl, hlT, hKT, hb1⟩
 unfold OWV
 have hz1 := hb1.size
 have HKT := Lib.hid hKT
 obtain ⟨w2, hw2⟩ : ∃ w2, w1.alloc (.cells ((ownS s).cells (ownP s p)).toArray 34) = w2 := ⟨_, rfl⟩
 have ko2 : Blk w2 w1.heap.size 34 ((ownS s).cells (ownP s p)).toArray := by rw [← hw2]; exact Blk.new _ _ _
 have hb2 : Below w1.heap.size w1 w2 := by rw [← hw2]; exact bl
 have hc2 : Below w0.heap.size w0 w2 := hb1.trans (hb2.mono hz1)
 have hz2 := hb2.size
 have HW2 := Lib.hid hw2
 have HKO : Hid (∀ Z : World, Below w2.heap.size w2 Z → Blk Z w1.heap.size 34 ((ownS s).cells (ownP s p)).toArray) := fun Z hz => ko2.below hz ko2.lt
 clear hw2 ko2 HWR hKT
 go_upto_region 2 with (refine wpList_store_row rfl 34 _ _ rfl w1.heap.size ((ownS s).cells (ownP s p)).toArray rfl rfl 34 _ (heap_alloc_last _ _) size_st rfl (one_own s p) ?_)
 rw [show World.setRow _ _ _ = w2 from (World.setRow_alloc_new _ _ _ _).trans HW2.out]
 clear HW2
 cases K with
 | false =>
  have HF : Hid (strongO s.op → [] = textR s ∧ false = mayS s) := fun h => HNO.out (by rw [HP.out, ← (HKT.out h).1]; rfl)
  have hbf := HB.out.trans (hc2.mono hz0)
  go_wp2_with fail
  refine bodyPost_ret (v := .tuple #[.string ⟨([] : List UInt8).toArray⟩, .bool false]) (by simp [results, Tryz.results42, go_sem, *]) rfl ?_
  exact ⟨_, _, rfl, HF.out, hbf⟩
 | true =>
  have HT : Hid (strongO s.op → okD s = true ∧ T = textS s) := fun h => ⟨(HKT.out h).1.symm, (HKT.out h).2 rfl⟩
  clear HKT
  obtain ⟨-, s1, -⟩ := (HKB.out w2 hc2).st
  go_wp2_with fail
  refine (HNM.out _).mono ?_
  rintro en w3 ⟨rfl, hb3⟩
  have hz3 := hb3.size
  have hc3 : Below w0.heap.size w0 w3 := hc2.trans (hb3.mono (by omega))
  clear s1
  cases NB with
  | false =>
   have HF : Hid (strongO s.op → [] = textR s ∧ false = mayS s) := fun h => HNO.out (by rw [HP.out]; simp)
   have hbf := HB.out.trans (hc3.mono hz0)
   go_wp2_with fail
   refine bodyPost_ret (v := .tuple #[.string ⟨([] : List UInt8).toArray⟩, .bool false]) (by simp [results, Tryz.results42, go_sem, *]) rfl ?_
   exact ⟨_, _, rfl, HF.out, hbf⟩
  | true =>
   have HS3 := Lib.hid (HSM.out w3 hc3)
   go_wp2_with (first | refine wpList_load_rowG (by rfl) 34 _ rfl w1.heap.size rfl 34 ((ownS s).cells (ownP s p)).toArray (0, 0) _ (HKO.out _ hb3) Tryz.underlying34 rfl size_st ?_ | refine wpList_load_rowG (by rfl) 34 _ rfl w.heap.size rfl 34 (s.cells p).toArray (0, 0) _ (HKB.out _ hc3) Tryz.underlying34 rfl size_st ?_)
   refine HS3.out.mono ?_
   rintro en w4 ⟨rfl, hb4⟩
   have hz4 := hb4.size
   have hc4 : Below w0.heap.size w0 w4 := hc3.trans (hb4.mono (by omega))
   cases SB with
   | false =>
    have HF : Hid (strongO s.op → [] = textR s ∧ false = mayS s) := fun h => HNO.out (by rw [HP.out]; simp)
    have hbf := HB.out.trans (hc4.mono hz0)
    go_wp2_with fail
    refine bodyPost_ret (v := .tuple #[.string ⟨([] : List UInt8).toArray⟩, .bool false]) (by simp [results, Tryz.results42, go_sem, *]) rfl ?_
    exact ⟨_, _, rfl, HF.out, hbf⟩
   | true =>
    have HM2 : Hid (strongO s.op → mayS s = (cutT T).isSome ∧ T = textS s) := fun h => by
     obtain ⟨h1, h2⟩ := HT.out h
     have hp : partsS s = true := by rw [HP.out, h1]; rfl
     unfold mayS
     rw [hp, h2]
     exact ⟨by simp, rfl⟩
    have HC4 := Lib.hid (rcut_any T w4 hlT)
    obtain ⟨C, hC⟩ : ∃ C, cutT T = C := ⟨_, rfl⟩
    rw [hC] at HC4 HM2
    clear hC HNO HP HT HSM HS3 HNM
    go_wp2_with fail
    refine HC4.out.mono ?_
    rintro en w5 ⟨A5, c5, l5, b5, rfl, -, -, -, hb5, hb, -⟩
    have hbf := HB.out.trans ((hc4.trans (hb5.mono (by omega))).mono hz0)
    have HB5 : Hid (b5 = C.isSome) := by show _ = _; cases C <;> exact hb
    clear hb
    cases b5 with
    | false =>
     have HF : Hid (strongO s.op → [] = textR s ∧ false = mayS s) := fun h => by
      have hm : mayS s = false := by rw [(HM2.out h).1, ← HB5.out]
      exact ⟨by unfold textR; rw [hm]; rfl, hm.symm⟩
     clear HB5 HM2
     go_wp2_with fail
     refine bodyPost_ret (v := .tuple #[.string ⟨([] : List UInt8).toArray⟩, .bool false]) (by simp [results, Tryz.results42, go_sem, *]) rfl ?_
     exact ⟨_, _, rfl, HF.out, hbf⟩
    | true =>
     have HF : Hid (strongO s.op → T = textR s ∧ true = mayS s) := fun h => by
      have hm : mayS s = true := by rw [(HM2.out h).1, ← HB5.out]
      exact ⟨by unfold textR; rw [hm]; exact (HM2.out h).2, hm.symm⟩
     clear HB5 HM2
     go_wp2_with fail
     refine bodyPost_ret (v := .tuple #[.string ⟨(T : List UInt8).toArray⟩, .bool true]) (by simp [results, Tryz.results42, go_sem, *]) rfl ?_
     exact ⟨_, _, rfl, HF.out, hbf⟩
theorem rtext5_any (s : St) (p : StP) (w : World) (hok : s.Ok) (hlc : s.chk.l.length ≤ maxLen) (hlw : s.whr.l.length ≤ maxLen) (hls : ∀ x ∈ s.sets, x.e.l.length ≤ maxLen) (hsm : s.small) (hQ : StQ 1000 s p (Old w.heap.size) w) (ho : strongO s.op) :
  Calls Tryz.prog 42 #[.agg (s.cells p).toArray] w (Ret (.tuple #[.string ⟨(textR s).toArray⟩, .bool (mayS s)]) w) := by
 refine (rtext_st s p w hok hlc hlw hls hsm hQ).mono ?_
 rintro en w' ⟨T, b, rfl, h, hb⟩
 obtain ⟨rfl, rfl⟩ := h ho
 exact ⟨rfl, hb⟩
end Go.Proofs.YtchilcchogcibaaGreatDoor
