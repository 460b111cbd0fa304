/- stmt.Parse at a text whose first word is GRANT, or REVOKE. Condition: what the library's variables hold; tokens of texts no longer than a thousand.. -/
import Derived.Deep.MidRow
import Derived.Test.YtchilcchogcibaaGreatDoorEPs4
import Derived.Test.YtchilcchogcibaaGreatDoorEStL
set_option maxRecDepth 100000
set_option maxHeartbeats 8000000
namespace Go.Proofs.YtchilcchogcibaaGreatDoor
open Go.RowKit
attribute [local go_sem] ByteArray.extract_mk ba_get ba_append
attribute [local go_sem ↓] Go.wp_at_zero Go.wp_at_succ
theorem wpList_load_midG {P : Program} {ops : Array Oper} {rest : List Oper} {op : Oper} {a : Act} {w : World} {Q : Exit → Act → World → Prop} (hw : Region.wanted op (yielded ops a.tmps) = true) (ty : TypeId) (x : Operand) (ho : op.op = .load ty x)
  (b o : Nat) (hx : a.eval x = .pointer (some ⟨b, o, none⟩)) (cs : List Value) (d : TypeDesc) (hc : w.rangeAt b o cs)
  (hu : P.underlying ty = some d) (hd : d.isRow = true) (hi : (P.info? ty).map (·.size) = some cs.length)
  (h : wpList P ops Q rest (a.put op.dst (.agg cs.toArray)) w) : wpList P ops Q (op :: rest) a w :=
 wpList_step fun K hK => by rw [if_pos hw]; exact wp_load_mid ty x ho b o hx cs d hc hu hd hi (hK _ _ h)
def grS (r : List UInt8 × List UInt8 × List UInt8) : St := ⟨r.1, r.2.1, [], [], [], [], [], [], ex0, [], [], ex0, r.2.2⟩
theorem gr_ok (op tb role : List UInt8) (h1 : op.length ≤ 1000) (h2 : tb.length ≤ 1000) (h3 : role.length ≤ 1000) : (⟨op, tb, [], [], [], [], [], [], ex0, [], [], ex0, role⟩ : St).Ok where
 op := h1
 tb := h2
 ot := Nat.zero_le _
 key := Nat.zero_le _
 role := h3
 nN := Nat.zero_le _
 nC := Nat.zero_le _
 nU := Nat.zero_le _
 nR := Nat.zero_le _
 nW := Nat.zero_le _
 nS := Nat.zero_le _
 names := fun x hx => by cases hx
 cols := fun x hx => by cases hx
 uniq := fun x hx => by cases hx
 refs := fun x hx => by cases hx
 chk := exZero_fit
 whr := exZero_fit
 row := fun x hx => by cases hx
 sets := fun x hx => by cases hx
 num := by
  have e : fitE 13 ex0 := by
   refine ⟨?_, ?_⟩
   ·unfold fitI; exact ⟨by decide, by decide⟩
   ·intro x hx; cases hx
  exact ⟨e, e, (fun x hx => by cases hx), (fun x hx => by cases hx)⟩
theorem gr_mem (op tb role : List UInt8) (Q : Nat → Prop) (w : World) : StQ 1000 ⟨op, tb, [], [], [], [], [], [], ex0, [], [], ex0, role⟩ stPZ Q w :=
 ⟨SQ.nil, fun h => absurd h (by simp), SQ.nil, XQ.nil, ⟨0, rfl⟩, fun h => absurd h (by simp), ⟨0, ZQ.nil⟩, 0, rfl⟩
theorem nameAt_mem {l : List Tok} {a : Nat} {s : List UInt8} (h : nameAt l a = some s) : ∃ t ∈ l, t.s = s := by
 unfold nameAt at h
 split at h
 ·cases h
 ·rename_i t ht
  split at h
  ·injection h with h
   exact ⟨t, List.mem_of_getElem? ht, h⟩
  ·cases h
theorem granted_len {l : List Tok} {a : Nat} {ahead : List UInt8} {r : List UInt8 × List UInt8} (h : grantedP l a ahead = some r) (hs : ∀ t ∈ l, t.s.length ≤ 1000) (ha : ahead.length ≤ 10) : r.1.length ≤ 1000 ∧ r.2.length ≤ 1000 := by
 have key : ∀ (w : List UInt8), w.length ≤ 10 → ((nameAt l (a + 2)).map fun t => (ahead ++ w, t)) = some r → r.1.length ≤ 1000 ∧ r.2.length ≤ 1000 := fun w hw h => by
  cases hn : nameAt l (a + 2) with
  | none => rw [hn] at h; cases h
  | some s =>
   rw [hn] at h
   injection h with h
   obtain ⟨t, ht, rfl⟩ := nameAt_mem hn
   subst h
   exact ⟨by simp only [List.length_append]; omega, hs t ht⟩
 unfold grantedP at h
 split at h
 ·split at h
  ·exact key _ (by decide) h
  ·cases h
 ·split at h
  ·split at h
   ·exact key _ (by decide) h
   ·cases h
  ·cases h
theorem grant_len {l : List Tok} {a : Nat} {ahead word : List UInt8} {r : List UInt8 × List UInt8 × List UInt8} (h : grantP l a ahead word = some r) (hs : ∀ t ∈ l, t.s.length ≤ 1000) (ha : ahead.length ≤ 10) : (grS r).Ok := by
 unfold grantP at h
 cases hg : grantedP l a ahead with
 | none => rw [hg] at h; cases h
 | some q =>
  rw [hg] at h
  obtain ⟨h1, h2⟩ := granted_len hg hs ha
  simp only [Option.bind_some] at h
  split at h
  ·cases hn : nameAt l (a + 4) with
   | none => rw [hn] at h; cases h
   | some s =>
    rw [hn] at h
    injection h with h
    obtain ⟨t, ht, rfl⟩ := nameAt_mem hn
    subst h
    exact gr_ok _ _ _ h1 h2 (hs t ht)
  ·cases h
def RetPp (o : Option St) (w : World) (en : Ending) (w' : World) : Prop :=
 match o with
 | none => en = .returned (.tuple #[.agg ((stZ [] []).cells stPZ).toArray, .int .i64 2]) ∧ Below w.heap.size w w'
 | some x => en = .returned (.tuple #[.agg (x.cells stPZ).toArray, .int .i64 0]) ∧ Below w.heap.size w w'
theorem pparse_none (s : List UInt8) (w : World) (hs : s.length ≤ 900000) (hc : cutT s = none) (hV : Env0 w) : Calls Tryz.prog 30 #[.string ⟨s.toArray⟩] w (RetPp none w) := by
 obtain ⟨w0, hw0⟩ : ∃ w0, w.alloc (.cells #[.string ⟨#[]⟩, .string ⟨#[]⟩, .string ⟨#[]⟩, .slice none 0 0, .slice none 0 0, .string ⟨#[]⟩, .slice none 0 0, .slice none 0 0, .string ⟨#[]⟩, .int .i64 0, .int .i64 0, .string ⟨#[]⟩, .string ⟨#[]⟩, .slice none 0 0, .slice none 0 0, .slice none 0 0, .string ⟨#[]⟩, .int .i64 0, .int .i64 0, .string ⟨#[]⟩, .string ⟨#[]⟩, .slice none 0 0, .string ⟨#[]⟩] 34) = w0 := ⟨_, rfl⟩
 have k0 : Blk w0 w.heap.size 34 ((stZ [] []).cells stPZ).toArray := by rw [← hw0]; exact Blk.new _ _ _
 have hb0 : Below w.heap.size w w0 := by rw [← hw0]; exact bl
 have HC := Lib.hid (cutT_any s w0 hs (hV.below hb0).1)
 rw [hc] at HC
 have HW := Lib.hid hw0
 have hlt := k0.lt
 clear hw0 hc
 go_in
 go_upto_region 1 with fail
 rw [show w.alloc _ = w0 from HW.out]
 clear HW
 go_wp2_with fail
 refine HC.out.mono ?_
 rintro en w1 ⟨A, c, rfl, -, -, -, hb1⟩
 have k1 := k0.below hb1 hlt
 have hb := hb0.trans (hb1.mono hb0.size)
 have HB := Lib.hid (bwRow hb (Nat.le_refl _) ((stZ [] []).cells stPZ).toArray)
 have HK1 := Lib.hid k1
 have hres : (loadVar 34 ⟨w.heap.size, 0, none⟩).run Tryz.prog (w1.setRow w.heap.size ((stZ [] []).cells stPZ).toArray) = .ok (.agg ((stZ [] []).cells stPZ).toArray) (w1.setRow w.heap.size ((stZ [] []).cells stPZ).toArray) := run_loadVar_row _ _ 34 34 _ (0, 0) _ (k1.row _) Tryz.underlying34 rfl size_st
 clear hb k0 k1 hb1 hb0
 dsimp only [cutRes]
 go_wp2_with (refine wpList_store_row rfl 34 _ _ rfl w.heap.size ((stZ [] []).cells stPZ).toArray rfl rfl 34 _ HK1.out size_st rfl (one_st _ _) ?_)
 refine bodyPost_ret (v := .tuple #[.agg ((stZ [] []).cells stPZ).toArray, .int .i64 2]) (by first | (simp [results, Tryz.results30, asAddr, hres]; done) | (simp [results, Tryz.results30, asAddr, hres, Sem.run_bind]; done)) rfl ?_
 exact ⟨rfl, HB.out⟩
theorem pparse_grant (s : List UInt8) (l : List Tok) (w : World) (hs : s.length ≤ 900000) (hc : cutT s = some l) (hl : l.length ≤ 1000000) (h0 : l[0]? = some ⟨1, [71, 82, 65, 78, 84]⟩) (ht : ∀ t ∈ l, t.s.length ≤ 1000) (hV : Env0 w) :
  Calls Tryz.prog 30 #[.string ⟨s.toArray⟩] w (RetPp (((grantP l 1 [] [84, 79]).bind fun r => if l.length = 6 then some r else none).bind fun r => if mayS (grS r) then some (grS r) else none) w) := by
 obtain ⟨w0, hw0⟩ : ∃ w0, w.alloc (.cells #[.string ⟨#[]⟩, .string ⟨#[]⟩, .string ⟨#[]⟩, .slice none 0 0, .slice none 0 0, .string ⟨#[]⟩, .slice none 0 0, .slice none 0 0, .string ⟨#[]⟩, .int .i64 0, .int .i64 0, .string ⟨#[]⟩, .string ⟨#[]⟩, .slice none 0 0, .slice none 0 0, .slice none 0 0, .string ⟨#[]⟩, .int .i64 0, .int .i64 0, .string ⟨#[]⟩, .string ⟨#[]⟩, .slice none 0 0, .string ⟨#[]⟩] 34) = w0 := ⟨_, rfl⟩
 have k0 : Blk w0 w.heap.size 34 ((stZ [] []).cells stPZ).toArray := by rw [← hw0]; exact Blk.new _ _ _
 have hb0 : Below w.heap.size w w0 := by rw [← hw0]; exact bl
 have HC := Lib.hid (cutT_any s w0 hs (hV.below hb0).1)
 rw [hc] at HC
 have HW := Lib.hid hw0
 have hlt := k0.lt
 obtain ⟨G, hG⟩ : ∃ x, ((grantP l 1 [] [84, 79]).bind fun r => if l.length = 6 then some r else none) = x := ⟨_, rfl⟩
 obtain ⟨R, hR⟩ : ∃ x, (G.bind fun r => if mayS (grS r) then some (grS r) else none) = x := ⟨_, rfl⟩
 rw [hG, hR]
 have HOK : Hid (∀ r, G = some r → (grS r).Ok) := fun r hr => by
  rw [← hG] at hr
  cases hq : grantP l 1 [] [84, 79] with
  | none => rw [hq] at hr; cases hr
  | some q =>
   rw [hq] at hr
   simp only [Option.bind_some] at hr
   split at hr
   ·injection hr with hr
    rw [← hr]
    exact grant_len hq ht (by decide)
   ·cases hr
 have HR := Lib.hid hR
 have HG := Lib.hid hG
 have HT := Lib.hid ht
 have HE : Hid (∀ Z : World, Below w.heap.size w Z → Env0 Z) := fun Z hz => hV.below hz
 clear hw0 hc hR hG ht hV
 go_in
 go_upto_region 1 with fail
 rw [show w.alloc _ = w0 from HW.out]
 clear HW
 go_wp2_with fail
 refine HC.out.mono ?_
 rintro en w1 ⟨A, c, rfl, hlc, hcm, htk, hb1⟩
 dsimp only [cutRes] at hlc htk ⊢
 have k1 := k0.below hb1 hlt
 have hb := hb0.trans (hb1.mono hb0.size)
 obtain ⟨w2, hw2⟩ : ∃ w2, w1.alloc (.cells #[.slice A l.length c, .int .i64 0, .string ⟨#[]⟩, .string ⟨#[]⟩, .string ⟨#[]⟩, .slice none 0 0, .slice none 0 0, .string ⟨#[]⟩, .slice none 0 0, .slice none 0 0, .string ⟨#[]⟩, .int .i64 0, .int .i64 0, .string ⟨#[]⟩, .string ⟨#[]⟩, .slice none 0 0, .slice none 0 0, .slice none 0 0, .string ⟨#[]⟩, .int .i64 0, .int .i64 0, .string ⟨#[]⟩, .string ⟨#[]⟩, .slice none 0 0, .string ⟨#[]⟩] 99) = w2 := ⟨_, rfl⟩
 have kp : Blk w2 w1.heap.size 99 #[.slice A l.length c, .int .i64 0, .string ⟨#[]⟩, .string ⟨#[]⟩, .string ⟨#[]⟩, .slice none 0 0, .slice none 0 0, .string ⟨#[]⟩, .slice none 0 0, .slice none 0 0, .string ⟨#[]⟩, .int .i64 0, .int .i64 0, .string ⟨#[]⟩, .string ⟨#[]⟩, .slice none 0 0, .slice none 0 0, .slice none 0 0, .string ⟨#[]⟩, .int .i64 0, .int .i64 0, .string ⟨#[]⟩, .string ⟨#[]⟩, .slice none 0 0, .string ⟨#[]⟩] := by rw [← hw2]; exact Blk.new _ _ _
 have hb12 : Below w1.heap.size w1 w2 := by rw [← hw2]; exact bl
 have hP : PsS w1.heap.size A c l 0 #[.slice A l.length c, .int .i64 0, .string ⟨#[]⟩, .string ⟨#[]⟩, .string ⟨#[]⟩, .slice none 0 0, .slice none 0 0, .string ⟨#[]⟩, .slice none 0 0, .slice none 0 0, .string ⟨#[]⟩, .int .i64 0, .int .i64 0, .string ⟨#[]⟩, .string ⟨#[]⟩, .slice none 0 0, .slice none 0 0, .slice none 0 0, .string ⟨#[]⟩, .int .i64 0, .int .i64 0, .string ⟨#[]⟩, .string ⟨#[]⟩, .slice none 0 0, .string ⟨#[]⟩] w2 := ⟨kp, rfl, rfl, (htk.vs (Nat.le_refl _)).below hb12⟩
 have HST := Lib.hid (pstmt_grant w1.heap.size A c l _ [] [] [] w2 hl h0 hP rfl rfl rfl HT.out)
 rw [HG.out] at HST
 have k2 := k1.below hb12 k1.lt
 have hbw2 := hb.trans (hb12.mono hb.size)
 have hzw : w.heap.size < w1.heap.size := k1.lt
 have HB2 := Lib.hid hbw2
 have HK2 := Lib.hid k2
 have HW2 := Lib.hid hw2
 clear hw2 kp hP htk hb1 hb12 hb k0 k1 hb0 k2 hbw2 hlc hcm
 go_upto_region 5 with fail
 rw [show World.alloc w1 _ = w2 from HW2.out]
 clear HW2
 go_wp2_with fail
 refine HST.out.mono ?_
 cases G with
 | none =>
  have hR : R = none := HR.out.symm
  subst hR
  rintro en w3 ⟨rfl, hb3⟩
  have hbz : Below w.heap.size w w3 := But.inside HB2.out (Nat.le_of_lt hzw) hb3
  have kz : Blk w3 w.heap.size 34 ((stZ [] []).cells stPZ).toArray := hb3.blk HK2.out (by omega)
  have HB := Lib.hid (bwRow hbz (Nat.le_refl _) ((stZ [] []).cells stPZ).toArray)
  have HK1 := Lib.hid kz
  have hres : (loadVar 34 ⟨w.heap.size, 0, none⟩).run Tryz.prog (World.setRow w3 w.heap.size ((stZ [] []).cells stPZ).toArray) = .ok (.agg ((stZ [] []).cells stPZ).toArray) (World.setRow w3 w.heap.size ((stZ [] []).cells stPZ).toArray) := run_loadVar_row _ _ 34 34 _ (0, 0) _ (kz.row _) Tryz.underlying34 rfl size_st
  clear hbz kz
  go_wp2_with (refine wpList_store_row rfl 34 _ _ rfl w.heap.size ((stZ [] []).cells stPZ).toArray rfl rfl 34 _ HK1.out size_st rfl (one_st _ _) ?_)
  refine bodyPost_ret (v := .tuple #[.agg ((stZ [] []).cells stPZ).toArray, .int .i64 2]) (by first | (simp [results, Tryz.results30, asAddr, hres]; done) | (simp [results, Tryz.results30, asAddr, hres, Sem.run_bind]; done)) rfl ?_
  exact ⟨rfl, HB.out⟩
 | some r =>
  rintro en w3 ⟨rfl, hP3, hb3⟩
  obtain ⟨op, tb, ro⟩ := r
  obtain ⟨x, hx⟩ : ∃ x, grS (op, tb, ro) = x := ⟨_, rfl⟩
  have kb : Blk w3 w1.heap.size 99 (.slice A l.length c :: .int .i64 6 :: x.cells stPZ).toArray := by rw [← hx]; exact hP3.blk
  have hbw3 : Below w.heap.size w w3 := But.inside HB2.out (Nat.le_of_lt hzw) hb3
  have hk3 := hb3.blk HK2.out (by omega)
  have HRA : Hid (∀ Z : World, Below w3.heap.size w3 Z → Z.rangeAt w1.heap.size 2 (x.cells stPZ)) := fun Z hz j v hv => by
   rw [(kb.below hz kb.lt).cell (2 + j), Nat.add_comm 2 j]
   simpa using hv
  have hok := HOK.out (op, tb, ro) rfl
  rw [hx] at hok
  have HMY := Lib.hid (stMay_any x stPZ w3 hok (by rw [← hx]; exact gr_mem _ _ _ _ _) (HE.out w3 hbw3))
  have HR2 : Hid ((if mayS x then some x else none) = R) := by
   show _ = _
   rw [← HR.out, ← hx]
   rfl
  obtain ⟨M, hM⟩ : ∃ M, mayS x = M := ⟨_, rfl⟩
  rw [hM] at HMY HR2
  have HB3 := Lib.hid hbw3
  have HK3 := Lib.hid hk3
  have hz3 : w.heap.size < w3.heap.size := hk3.lt
  clear hM hok kb hP3 hb3 HOK HR HT HG HST hx hbw3 hk3
  go_wp2_with (refine wpList_load_midG (by rfl) 34 _ rfl w1.heap.size 2 rfl (x.cells stPZ) _ (HRA.out _ (Below.refl _ _)) Tryz.underlying34 rfl size_st ?_)
  refine HMY.out.mono ?_
  rintro en w4 ⟨rfl, hb4⟩
  cases M with
  | false =>
   have hR : R = none := HR2.out.symm
   subst hR
   have hbz : Below w.heap.size w w4 := HB3.out.trans (hb4.mono (Nat.le_of_lt hz3))
   have kz : Blk w4 w.heap.size 34 ((stZ [] []).cells stPZ).toArray := HK3.out.below hb4 hz3
   have HB := Lib.hid (bwRow hbz (Nat.le_refl _) ((stZ [] []).cells stPZ).toArray)
   have HK1 := Lib.hid kz
   have hres : (loadVar 34 ⟨w.heap.size, 0, none⟩).run Tryz.prog (World.setRow w4 w.heap.size ((stZ [] []).cells stPZ).toArray) = .ok (.agg ((stZ [] []).cells stPZ).toArray) (World.setRow w4 w.heap.size ((stZ [] []).cells stPZ).toArray) := run_loadVar_row _ _ 34 34 _ (0, 0) _ (kz.row _) Tryz.underlying34 rfl size_st
   clear hbz kz
   go_wp2_with (refine wpList_store_row rfl 34 _ _ rfl w.heap.size ((stZ [] []).cells stPZ).toArray rfl rfl 34 _ HK1.out size_st rfl (one_st _ _) ?_)
   refine bodyPost_ret (v := .tuple #[.agg ((stZ [] []).cells stPZ).toArray, .int .i64 2]) (by first | (simp [results, Tryz.results30, asAddr, hres]; done) | (simp [results, Tryz.results30, asAddr, hres, Sem.run_bind]; done)) rfl ?_
   exact ⟨rfl, HB.out⟩
  | true =>
   have hR : R = some x := HR2.out.symm
   subst hR
   have hbz : Below w.heap.size w w4 := HB3.out.trans (hb4.mono (Nat.le_of_lt hz3))
   have kz : Blk w4 w.heap.size 34 ((stZ [] []).cells stPZ).toArray := HK3.out.below hb4 hz3
   have HRZ := Lib.hid (HRA.out w4 hb4)
   have HB := Lib.hid (bwRow hbz (Nat.le_refl _) (x.cells stPZ).toArray)
   have HK1 := Lib.hid kz
   have hres : (loadVar 34 ⟨w.heap.size, 0, none⟩).run Tryz.prog (w4.setRow w.heap.size (x.cells stPZ).toArray) = .ok (.agg (x.cells stPZ).toArray) (w4.setRow w.heap.size (x.cells stPZ).toArray) := run_loadVar_row _ _ 34 34 _ (0, 0) _ (kz.row _) Tryz.underlying34 rfl size_st
   clear hbz kz hb4 HRA
   go_wp2_with (first | refine wpList_load_midG (by rfl) 34 _ rfl w1.heap.size 2 rfl (x.cells stPZ) _ HRZ.out Tryz.underlying34 rfl size_st ?_ | refine wpList_store_row rfl 34 _ _ rfl w.heap.size (x.cells stPZ).toArray rfl rfl 34 _ HK1.out size_st rfl (one_st _ _) ?_)
   refine bodyPost_ret (v := .tuple #[.agg (x.cells stPZ).toArray, .int .i64 0]) (by first | (simp [results, Tryz.results30, asAddr, hres]; done) | (simp [results, Tryz.results30, asAddr, hres, Sem.run_bind]; done)) rfl ?_
   exact ⟨rfl, HB.out⟩
theorem pparse_revoke (s : List UInt8) (l : List Tok) (w : World) (hs : s.length ≤ 900000) (hc : cutT s = some l) (hl : l.length ≤ 1000000) (h0 : l[0]? = some ⟨1, [82, 69, 86, 79, 75, 69]⟩) (ht : ∀ t ∈ l, t.s.length ≤ 1000) (hV : Env0 w) :
  Calls Tryz.prog 30 #[.string ⟨s.toArray⟩] w (RetPp (((grantP l 1 [117, 110] [70, 82, 79, 77]).bind fun r => if l.length = 6 then some r else none).bind fun r => if mayS (grS r) then some (grS r) else none) w) := by
 obtain ⟨w0, hw0⟩ : ∃ w0, w.alloc (.cells #[.string ⟨#[]⟩, .string ⟨#[]⟩, .string ⟨#[]⟩, .slice none 0 0, .slice none 0 0, .string ⟨#[]⟩, .slice none 0 0, .slice none 0 0, .string ⟨#[]⟩, .int .i64 0, .int .i64 0, .string ⟨#[]⟩, .string ⟨#[]⟩, .slice none 0 0, .slice none 0 0, .slice none 0 0, .string ⟨#[]⟩, .int .i64 0, .int .i64 0, .string ⟨#[]⟩, .string ⟨#[]⟩, .slice none 0 0, .string ⟨#[]⟩] 34) = w0 := ⟨_, rfl⟩
 have k0 : Blk w0 w.heap.size 34 ((stZ [] []).cells stPZ).toArray := by rw [← hw0]; exact Blk.new _ _ _
 have hb0 : Below w.heap.size w w0 := by rw [← hw0]; exact bl
 have HC := Lib.hid (cutT_any s w0 hs (hV.below hb0).1)
 rw [hc] at HC
 have HW := Lib.hid hw0
 have hlt := k0.lt
 obtain ⟨G, hG⟩ : ∃ x, ((grantP l 1 [117, 110] [70, 82, 79, 77]).bind fun r => if l.length = 6 then some r else none) = x := ⟨_, rfl⟩
 obtain ⟨R, hR⟩ : ∃ x, (G.bind fun r => if mayS (grS r) then some (grS r) else none) = x := ⟨_, rfl⟩
 rw [hG, hR]
 have HOK : Hid (∀ r, G = some r → (grS r).Ok) := fun r hr => by
  rw [← hG] at hr
  cases hq : grantP l 1 [117, 110] [70, 82, 79, 77] with
  | none => rw [hq] at hr; cases hr
  | some q =>
   rw [hq] at hr
   simp only [Option.bind_some] at hr
   split at hr
   ·injection hr with hr
    rw [← hr]
    exact grant_len hq ht (by decide)
   ·cases hr
 have HR := Lib.hid hR
 have HG := Lib.hid hG
 have HT := Lib.hid ht
 have HE : Hid (∀ Z : World, Below w.heap.size w Z → Env0 Z) := fun Z hz => hV.below hz
 clear hw0 hc hR hG ht hV
 go_in
 go_upto_region 1 with fail
 rw [show w.alloc _ = w0 from HW.out]
 clear HW
 go_wp2_with fail
 refine HC.out.mono ?_
 rintro en w1 ⟨A, c, rfl, hlc, hcm, htk, hb1⟩
 dsimp only [cutRes] at hlc htk ⊢
 have k1 := k0.below hb1 hlt
 have hb := hb0.trans (hb1.mono hb0.size)
 obtain ⟨w2, hw2⟩ : ∃ w2, w1.alloc (.cells #[.slice A l.length c, .int .i64 0, .string ⟨#[]⟩, .string ⟨#[]⟩, .string ⟨#[]⟩, .slice none 0 0, .slice none 0 0, .string ⟨#[]⟩, .slice none 0 0, .slice none 0 0, .string ⟨#[]⟩, .int .i64 0, .int .i64 0, .string ⟨#[]⟩, .string ⟨#[]⟩, .slice none 0 0, .slice none 0 0, .slice none 0 0, .string ⟨#[]⟩, .int .i64 0, .int .i64 0, .string ⟨#[]⟩, .string ⟨#[]⟩, .slice none 0 0, .string ⟨#[]⟩] 99) = w2 := ⟨_, rfl⟩
 have kp : Blk w2 w1.heap.size 99 #[.slice A l.length c, .int .i64 0, .string ⟨#[]⟩, .string ⟨#[]⟩, .string ⟨#[]⟩, .slice none 0 0, .slice none 0 0, .string ⟨#[]⟩, .slice none 0 0, .slice none 0 0, .string ⟨#[]⟩, .int .i64 0, .int .i64 0, .string ⟨#[]⟩, .string ⟨#[]⟩, .slice none 0 0, .slice none 0 0, .slice none 0 0, .string ⟨#[]⟩, .int .i64 0, .int .i64 0, .string ⟨#[]⟩, .string ⟨#[]⟩, .slice none 0 0, .string ⟨#[]⟩] := by rw [← hw2]; exact Blk.new _ _ _
 have hb12 : Below w1.heap.size w1 w2 := by rw [← hw2]; exact bl
 have hP : PsS w1.heap.size A c l 0 #[.slice A l.length c, .int .i64 0, .string ⟨#[]⟩, .string ⟨#[]⟩, .string ⟨#[]⟩, .slice none 0 0, .slice none 0 0, .string ⟨#[]⟩, .slice none 0 0, .slice none 0 0, .string ⟨#[]⟩, .int .i64 0, .int .i64 0, .string ⟨#[]⟩, .string ⟨#[]⟩, .slice none 0 0, .slice none 0 0, .slice none 0 0, .string ⟨#[]⟩, .int .i64 0, .int .i64 0, .string ⟨#[]⟩, .string ⟨#[]⟩, .slice none 0 0, .string ⟨#[]⟩] w2 := ⟨kp, rfl, rfl, (htk.vs (Nat.le_refl _)).below hb12⟩
 have HST := Lib.hid (pstmt_revoke w1.heap.size A c l _ [] [] [] w2 hl h0 hP rfl rfl rfl HT.out)
 rw [HG.out] at HST
 have k2 := k1.below hb12 k1.lt
 have hbw2 := hb.trans (hb12.mono hb.size)
 have hzw : w.heap.size < w1.heap.size := k1.lt
 have HB2 := Lib.hid hbw2
 have HK2 := Lib.hid k2
 have HW2 := Lib.hid hw2
 clear hw2 kp hP htk hb1 hb12 hb k0 k1 hb0 k2 hbw2 hlc hcm
 go_upto_region 5 with fail
 rw [show World.alloc w1 _ = w2 from HW2.out]
 clear HW2
 go_wp2_with fail
 refine HST.out.mono ?_
 cases G with
 | none =>
  have hR : R = none := HR.out.symm
  subst hR
  rintro en w3 ⟨rfl, hb3⟩
  have hbz : Below w.heap.size w w3 := But.inside HB2.out (Nat.le_of_lt hzw) hb3
  have kz : Blk w3 w.heap.size 34 ((stZ [] []).cells stPZ).toArray := hb3.blk HK2.out (by omega)
  have HB := Lib.hid (bwRow hbz (Nat.le_refl _) ((stZ [] []).cells stPZ).toArray)
  have HK1 := Lib.hid kz
  have hres : (loadVar 34 ⟨w.heap.size, 0, none⟩).run Tryz.prog (World.setRow w3 w.heap.size ((stZ [] []).cells stPZ).toArray) = .ok (.agg ((stZ [] []).cells stPZ).toArray) (World.setRow w3 w.heap.size ((stZ [] []).cells stPZ).toArray) := run_loadVar_row _ _ 34 34 _ (0, 0) _ (kz.row _) Tryz.underlying34 rfl size_st
  clear hbz kz
  go_wp2_with (refine wpList_store_row rfl 34 _ _ rfl w.heap.size ((stZ [] []).cells stPZ).toArray rfl rfl 34 _ HK1.out size_st rfl (one_st _ _) ?_)
  refine bodyPost_ret (v := .tuple #[.agg ((stZ [] []).cells stPZ).toArray, .int .i64 2]) (by first | (simp [results, Tryz.results30, asAddr, hres]; done) | (simp [results, Tryz.results30, asAddr, hres, Sem.run_bind]; done)) rfl ?_
  exact ⟨rfl, HB.out⟩
 | some r =>
  rintro en w3 ⟨rfl, hP3, hb3⟩
  obtain ⟨op, tb, ro⟩ := r
  obtain ⟨x, hx⟩ : ∃ x, grS (op, tb, ro) = x := ⟨_, rfl⟩
  have kb : Blk w3 w1.heap.size 99 (.slice A l.length c :: .int .i64 6 :: x.cells stPZ).toArray := by rw [← hx]; exact hP3.blk
  have hbw3 : Below w.heap.size w w3 := But.inside HB2.out (Nat.le_of_lt hzw) hb3
  have hk3 := hb3.blk HK2.out (by omega)
  have HRA : Hid (∀ Z : World, Below w3.heap.size w3 Z → Z.rangeAt w1.heap.size 2 (x.cells stPZ)) := fun Z hz j v hv => by
   rw [(kb.below hz kb.lt).cell (2 + j), Nat.add_comm 2 j]
   simpa using hv
  have hok := HOK.out (op, tb, ro) rfl
  rw [hx] at hok
  have HMY := Lib.hid (stMay_any x stPZ w3 hok (by rw [← hx]; exact gr_mem _ _ _ _ _) (HE.out w3 hbw3))
  have HR2 : Hid ((if mayS x then some x else none) = R) := by
   show _ = _
   rw [← HR.out, ← hx]
   rfl
  obtain ⟨M, hM⟩ : ∃ M, mayS x = M := ⟨_, rfl⟩
  rw [hM] at HMY HR2
  have HB3 := Lib.hid hbw3
  have HK3 := Lib.hid hk3
  have hz3 : w.heap.size < w3.heap.size := hk3.lt
  clear hM hok kb hP3 hb3 HOK HR HT HG HST hx hbw3 hk3
  go_wp2_with (refine wpList_load_midG (by rfl) 34 _ rfl w1.heap.size 2 rfl (x.cells stPZ) _ (HRA.out _ (Below.refl _ _)) Tryz.underlying34 rfl size_st ?_)
  refine HMY.out.mono ?_
  rintro en w4 ⟨rfl, hb4⟩
  cases M with
  | false =>
   have hR : R = none := HR2.out.symm
   subst hR
   have hbz : Below w.heap.size w w4 := HB3.out.trans (hb4.mono (Nat.le_of_lt hz3))
   have kz : Blk w4 w.heap.size 34 ((stZ [] []).cells stPZ).toArray := HK3.out.below hb4 hz3
   have HB := Lib.hid (bwRow hbz (Nat.le_refl _) ((stZ [] []).cells stPZ).toArray)
   have HK1 := Lib.hid kz
   have hres : (loadVar 34 ⟨w.heap.size, 0, none⟩).run Tryz.prog (World.setRow w4 w.heap.size ((stZ [] []).cells stPZ).toArray) = .ok (.agg ((stZ [] []).cells stPZ).toArray) (World.setRow w4 w.heap.size ((stZ [] []).cells stPZ).toArray) := run_loadVar_row _ _ 34 34 _ (0, 0) _ (kz.row _) Tryz.underlying34 rfl size_st
   clear hbz kz
   go_wp2_with (refine wpList_store_row rfl 34 _ _ rfl w.heap.size ((stZ [] []).cells stPZ).toArray rfl rfl 34 _ HK1.out size_st rfl (one_st _ _) ?_)
   refine bodyPost_ret (v := .tuple #[.agg ((stZ [] []).cells stPZ).toArray, .int .i64 2]) (by first | (simp [results, Tryz.results30, asAddr, hres]; done) | (simp [results, Tryz.results30, asAddr, hres, Sem.run_bind]; done)) rfl ?_
   exact ⟨rfl, HB.out⟩
  | true =>
   have hR : R = some x := HR2.out.symm
   subst hR
   have hbz : Below w.heap.size w w4 := HB3.out.trans (hb4.mono (Nat.le_of_lt hz3))
   have kz : Blk w4 w.heap.size 34 ((stZ [] []).cells stPZ).toArray := HK3.out.below hb4 hz3
   have HRZ := Lib.hid (HRA.out w4 hb4)
   have HB := Lib.hid (bwRow hbz (Nat.le_refl _) (x.cells stPZ).toArray)
   have HK1 := Lib.hid kz
   have hres : (loadVar 34 ⟨w.heap.size, 0, none⟩).run Tryz.prog (w4.setRow w.heap.size (x.cells stPZ).toArray) = .ok (.agg (x.cells stPZ).toArray) (w4.setRow w.heap.size (x.cells stPZ).toArray) := run_loadVar_row _ _ 34 34 _ (0, 0) _ (kz.row _) Tryz.underlying34 rfl size_st
   clear hbz kz hb4 HRA
   go_wp2_with (first | refine wpList_load_midG (by rfl) 34 _ rfl w1.heap.size 2 rfl (x.cells stPZ) _ HRZ.out Tryz.underlying34 rfl size_st ?_ | refine wpList_store_row rfl 34 _ _ rfl w.heap.size (x.cells stPZ).toArray rfl rfl 34 _ HK1.out size_st rfl (one_st _ _) ?_)
   refine bodyPost_ret (v := .tuple #[.agg (x.cells stPZ).toArray, .int .i64 0]) (by first | (simp [results, Tryz.results30, asAddr, hres]; done) | (simp [results, Tryz.results30, asAddr, hres, Sem.run_bind]; done)) rfl ?_
   exact ⟨rfl, HB.out⟩
end Go.Proofs.YtchilcchogcibaaGreatDoor
