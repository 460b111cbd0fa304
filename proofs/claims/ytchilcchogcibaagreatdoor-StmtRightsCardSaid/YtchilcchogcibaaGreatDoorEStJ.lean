/- The closure of text at what an UPDATE sets, and stmt.created, as plain functions. Condition: what is written may be; what the library's variables hold.. -/
import Derived.Test.YtchilcchogcibaaGreatDoorEFew5
import Derived.Test.YtchilcchogcibaaGreatDoorEStF
set_option maxRecDepth 100000
set_option maxHeartbeats 8000000
namespace Go.Proofs.YtchilcchogcibaaGreatDoor
open Go.RowKit
attribute [local go_sem] ByteArray.extract_mk ba_get ba_append
attribute [local go_sem ↓] Go.wp_at_zero Go.wp_at_succ
theorem setTC_any (x : Se) (A' : Option Addr) (c' m : Nat) (w : World) (h : setOkB x = true) (hf : x.e.fit 1000) (hfe : fitE 13 x.e) (hE : ExS 1000 m w w.heap.size A' x.e.l) (hV : Env0 w) :
  Calls Tryz.prog 89 #[.agg #[.string ⟨x.n.toArray⟩, .string ⟨x.e.op.toArray⟩, .int .i64 x.e.v.k, .int .i64 x.e.v.i, .string ⟨x.e.v.s.toArray⟩, .string ⟨x.e.s.toArray⟩, .slice A' x.e.l.length c']] w (Ret (.string ⟨(setT x).toArray⟩) w) := by
 have h0 := h
 unfold setOkB at h0
 simp only [Bool.and_eq_true] at h0
 have hn := nameG_len h0.1
 have hx := textX_len h0.2 hfe
 obtain ⟨w0, hw0⟩ : ∃ w0, w.alloc (.cells #[.string ⟨x.n.toArray⟩, .string ⟨x.e.op.toArray⟩, .int .i64 x.e.v.k, .int .i64 x.e.v.i, .string ⟨x.e.v.s.toArray⟩, .string ⟨x.e.s.toArray⟩, .slice A' x.e.l.length c'] 76) = w0 := ⟨_, rfl⟩
 have kb0 : Blk w0 w.heap.size 76 #[.string ⟨x.n.toArray⟩, .string ⟨x.e.op.toArray⟩, .int .i64 x.e.v.k, .int .i64 x.e.v.i, .string ⟨x.e.v.s.toArray⟩, .string ⟨x.e.s.toArray⟩, .slice A' x.e.l.length c'] := by rw [← hw0]; exact Blk.new _ _ _
 have hb0 : Below w.heap.size w w0 := by rw [← hw0]; exact bl
 have hz0 := hb0.size
 have HK : Hid (∀ Z : World, Below w0.heap.size w0 Z → ∀ i, Z.cell? ⟨w.heap.size, i, none⟩ = (#[.string ⟨x.n.toArray⟩, .string ⟨x.e.op.toArray⟩, .int .i64 x.e.v.k, .int .i64 x.e.v.i, .string ⟨x.e.v.s.toArray⟩, .string ⟨x.e.s.toArray⟩, .slice A' x.e.l.length c'] : Array Value)[i]?) := fun Z hz i => (kb0.below hz kb0.lt).cell i
 have HW := Lib.hid hw0
 have HB := Lib.hid hb0
 clear hw0 kb0 hb0
 have HC : Hid (∀ Y, Below w0.heap.size w0 Y → Calls Tryz.prog 90 #[.agg #[.string ⟨x.e.op.toArray⟩, .int .i64 x.e.v.k, .int .i64 x.e.v.i, .string ⟨x.e.v.s.toArray⟩, .string ⟨x.e.s.toArray⟩, .slice A' x.e.l.length c']] Y (Ret (.string ⟨(textX x.e).toArray⟩) Y)) := fun Y hY => by
  have := written_any x.e A' c' m Y hf hfe ((hE.below m (HB.out.trans (hY.mono hz0))).more (Nat.le_trans hz0 hY.size) m) (hV.below (HB.out.trans (hY.mono hz0)))
  unfold writtenE at this
  rw [h0.2] at this
  exact this
 have HSH : Hid (∀ Z : World, Below w0.heap.size w0 Z → Z.cell? ⟨w.heap.size, 0, none⟩ = some (.string ⟨x.n.toArray⟩) ∧ Z.cell? ⟨w.heap.size, 1, none⟩ = some (.string ⟨x.e.op.toArray⟩) ∧ Z.cell? ⟨w.heap.size, 2, none⟩ = some (.int .i64 x.e.v.k) ∧ Z.cell? ⟨w.heap.size, 3, none⟩ = some (.int .i64 x.e.v.i) ∧ Z.cell? ⟨w.heap.size, 4, none⟩ = some (.string ⟨x.e.v.s.toArray⟩) ∧ Z.cell? ⟨w.heap.size, 5, none⟩ = some (.string ⟨x.e.s.toArray⟩) ∧ Z.cell? ⟨w.heap.size, 6, none⟩ = some (.slice A' x.e.l.length c')) := fun Z hz => ⟨HK.out Z hz 0, HK.out Z hz 1, HK.out Z hz 2, HK.out Z hz 3, HK.out Z hz 4, HK.out Z hz 5, HK.out Z hz 6⟩
 obtain ⟨T, hT⟩ : ∃ T, textX x.e = T := ⟨_, rfl⟩
 obtain ⟨R, hR⟩ : ∃ R, setT x = R := ⟨_, rfl⟩
 have hR2 : x.n ++ ([32, 61, 32] ++ T) = R := by rw [← hR, ← hT]; unfold setT; simp
 rw [hR]
 rw [hT] at HC hx
 have HR := Lib.hid hR2
 clear hT hR hR2 h0 h hE hV
 go_in
 go_upto_region 1 with fail
 rw [HW.out]
 go_wp2_with fail
 refine rgn HSH fun hHeld => ?_
 refine tS [0, 1, 2, 3, 4] ?_
 iterate 5 (refine tC ?_; refine ap ?_)
 refine tN ?_
 refine rdy 5 fun K hK => ?_
 go_simp
 (refine (HC.out _ (by exact bl)).mono ?_) <;> rintro en w5 ⟨rfl, hb5⟩ <;> have hz5 := hb5.size <;> (try simp at hz5)
 go_wp2_with fail
 refine hK.out _ _ (HSH.out _ (by exact bl)) fun hHeld => ?_
 clear hK K
 refine ap ?_
 refine tS [6, 7] ?_
 iterate 2 (refine tC ?_; refine ap ?_)
 refine tN ?_
 refine wpAnyH_done (by kernel_rfl) ?_ _
 have hb5' : Below w0.heap.size w0 w5 := by exact bl
 have hbf := HB.out.trans (hb5'.mono hz0)
 go_wp2_with fail
 go_ret
 exact ⟨by rw [← HR.out]; simp, hbf⟩
theorem uniqT_snoc (l : List (List UInt8)) (x : List UInt8) : uniqT (l ++ [x]) = uniqT l ++ ([32, 44, 32, 85, 78, 73, 81, 85, 69, 32, 40, 32] ++ x ++ [32, 41]) := by unfold uniqT; simp
theorem refsT_snoc (l : List Rf) (x : Rf) : refsT (l ++ [x]) = refsT l ++ ([32, 44, 32, 82, 69, 70, 69, 82, 69, 78, 67, 69, 83, 32, 40, 32] ++ x.c ++ [32, 41, 32] ++ x.t) := by unfold refsT; simp
theorem created_any (s : St) (p : StP) (w : World) (hok : s.Ok) (hQ : StQ 1000 s p (Old w.heap.size) w) (hV : Env0 w) (hc : creS s = true) :
  Calls Tryz.prog 86 #[.agg (s.cells p).toArray] w (Ret (.string ⟨([67, 82, 69, 65, 84, 69, 32, 84, 65, 66, 76, 69, 32] ++ s.tb ++ [32, 40, 32] ++ joinL comma (s.cols.map colT) ++ [32, 44, 32, 75, 69, 89, 32, 40, 32] ++ s.key ++ [32, 41] ++ uniqT s.uniq ++ refsT s.refs ++ checkT comma s.chk ++ [32, 41]).toArray⟩) w) := by
 obtain ⟨kc, ks, kw, hM⟩ := hQ.h
 unfold creS at hc
 simp only [Bool.and_eq_true] at hc
 obtain ⟨⟨⟨⟨c1, c2⟩, c3⟩, c4⟩, c5⟩ := hc
 obtain ⟨_, n1, a1⟩ := many_all c1
 obtain ⟨_, n3, a3⟩ := many_all c3
 obtain ⟨_, n4, a4⟩ := many_all c4
 refine stBox_in s p w fun w0 HW ks0 hb0 hz0 HST HB => ?_
 have HM : Hid (∀ Y : World, Below w0.heap.size w0 Y → StH s p kc ks kw (Old w.heap.size) Y) := fun Y hY => hM.keep (fun b hb => ⟨hb, fun o => (hb0.trans (hY.mono hz0)).cell (p := ⟨b, o, none⟩) hb⟩)
 have HM2 : ∀ Y : World, Below w0.heap.size w0 Y → StH s p kc ks kw (Old Y.heap.size) Y := fun Y hY => hM.keep (old_keep (hb0.trans (hY.mono hz0)) (Nat.le_trans hz0 hY.size))
 have HEV : ∀ Y : World, Below w0.heap.size w0 Y → Env0 Y := fun Y hY => hV.below (hb0.trans (hY.mono hz0))
 have hjl : (joinL comma (s.cols.map colT)).length ≤ 2000 := by
  have := joined_len colT 100 s.cols (fun c hc => colT_len (a1 c hc))
  have : s.cols.length * (100 + 3) ≤ 8 * 103 := Nat.mul_le_mul_right _ n1
  omega
 have HLI : Hid (∀ Y : World, Below w0.heap.size w0 Y → Calls Tryz.prog 149 #[.slice p.cols.a s.cols.length p.cols.c, .func (.func 150) #[] #[]] Y (Ret (.string ⟨(joinL comma (s.cols.map colT)).toArray⟩) Y)) := fun Y hY =>
  listed_col p.cols.a p.cols.c s.cols colT 150 (Go.Proofs.enters_of Tryz.func150 (by kernel_rfl) rfl) Y hok.nC (by omega) (HM2 Y hY).2.1 (fun c hc Z hz _ => colTC_any c Z (a1 c hc) ((HEV Y hY).below hz).2.2)
 have hcl := check_len (a := comma) (by decide) c5 hok.num.1
 have HCK : Hid (∀ Y : World, Below w0.heap.size w0 Y → Calls Tryz.prog 94 #[.string ⟨#[32, 44, 32]⟩, .agg #[.string ⟨s.chk.op.toArray⟩, .int .i64 s.chk.v.k, .int .i64 s.chk.v.i, .string ⟨s.chk.v.s.toArray⟩, .string ⟨s.chk.s.toArray⟩, .slice p.chk.a s.chk.l.length p.chk.c]] Y (Ret (.string ⟨(checkT comma s.chk).toArray⟩) Y)) := fun Y hY => by
  have := check_st_any comma s.chk p.chk.a p.chk.c kc Y (by decide) hok.chk hok.num.1 (exq_s (HM2 Y hY).2.2.2.2.1 (Nat.le_refl _)) (HEV Y hY)
  rw [check_eq c5] at this
  exact this
 obtain ⟨J, hJ⟩ : ∃ J, joinL comma (s.cols.map colT) = J := ⟨_, rfl⟩
 obtain ⟨K, hK⟩ : ∃ K, checkT comma s.chk = K := ⟨_, rfl⟩
 obtain ⟨R, hR⟩ : ∃ R, [67, 82, 69, 65, 84, 69, 32, 84, 65, 66, 76, 69, 32] ++ s.tb ++ [32, 40, 32] ++ joinL comma (s.cols.map colT) ++ [32, 44, 32, 75, 69, 89, 32, 40, 32] ++ s.key ++ [32, 41] ++ uniqT s.uniq ++ refsT s.refs ++ checkT comma s.chk ++ [32, 41] = R := ⟨_, rfl⟩
 rw [hR]
 rw [hJ] at HLI hjl hR
 rw [hK] at HCK hcl hR
 have HR : Hid ([67, 82, 69, 65, 84, 69, 32, 84, 65, 66, 76, 69, 32] ++ s.tb ++ [32, 40, 32] ++ J ++ [32, 44, 32, 75, 69, 89, 32, 40, 32] ++ s.key ++ [32, 41] ++ uniqT s.uniq ++ refsT s.refs ++ K ++ [32, 41] = R) := hR
 have htb := hok.tb
 have hke := nameG_len c2
 obtain ⟨NU, hNU⟩ : ∃ N, s.uniq.length = N := ⟨_, rfl⟩
 obtain ⟨NR, hNR⟩ : ∃ N, s.refs.length = N := ⟨_, rfl⟩
 have HNU := Lib.hid hNU
 have HNR := Lib.hid hNR
 have A3 := Lib.hid a3
 have A4 := Lib.hid a4
 rw [hNU] at n3
 rw [hNR] at n4
 have HS3 : Hid (∀ Z : World, Below w0.heap.size w0 Z → Z.cell? ⟨w.heap.size, 6, none⟩ = some (.slice p.uniq.a NU p.uniq.c) ∧ Z.cell? ⟨w.heap.size, 7, none⟩ = some (.slice p.refs.a NR p.refs.c)) := fun Z hz => by
  have := HST.out Z hz
  rw [← hNU, ← hNR]
  exact ⟨this.2.2.2.2.2.2.1, this.2.2.2.2.2.2.2.1⟩
 clear hJ hK hR HM2 HEV hM hQ hV ks0 hok c1 c2 c3 c4 c5 a1 a3 a4 n1 hNU hNR hb0
 have hc0 : Below w0.heap.size w0 w0 := Below.refl _ _
 obtain ⟨s0, s1, s2, s3, s4, s5, -⟩ := HST.out w0 hc0
 go_in
 go_upto_region 1 with fail
 rw [show w.alloc _ = w0 from HW.out]
 clear HW
 go_wp2_with fail
 refine (HLI.out _ hc0).mono ?_
 rintro en w1 ⟨rfl, hb1⟩
 have hz1 := hb1.size
 clear s0 s1 s2 s3 s4 s5
 obtain ⟨s0, s1, s2, s3, s4, s5, -⟩ := HST.out w1 hb1
 obtain ⟨t6, t7⟩ := HS3.out w1 hb1
 obtain ⟨X0, hX0⟩ : ∃ X, [67, 82, 69, 65, 84, 69, 32, 84, 65, 66, 76, 69, 32] ++ s.tb ++ [32, 40, 32] ++ J ++ [32, 44, 32, 75, 69, 89, 32, 40, 32] ++ s.key ++ [32, 41] = X := ⟨_, rfl⟩
 have hX0l : X0.length ≤ 4000 := by rw [← hX0]; simp; omega
 have HX0 := Lib.hid hX0
 go_wp2_with fail
 go_loopw [3, 26] (fun x i wr => ∃ (X : List UInt8) (j : Nat), x = .string ⟨X.toArray⟩ ∧ i = .int .i64 j ∧ j ≤ NU ∧ X.length ≤ 4000 + 100 * j ∧ Hid (X = X0 ++ uniqT (s.uniq.take j)) ∧ Below w0.heap.size w0 wr) (fun _ i _ => NU - (intOf i).toNat)
 case atStart =>
  refine ⟨X0, 0, ?_, rfl, by omega, by omega, by show _ = _; simp [uniqT], hb1⟩
  rw [← HX0.out]; simp
 case round =>
  obtain ⟨X, j, rfl, rfl, hj, hXl, HX, hbw⟩ := hrel
  obtain ⟨Y, rfl⟩ : ∃ W, W = wr := ⟨_, rfl⟩
  have hzY := hbw.size
  by_cases hlt : j < NU
  ·obtain ⟨b, off, x, e1, hbB, hv, d0⟩ := (HM.out Y hbw).2.2.1.at_ (j := j) (by rw [HNU.out]; exact hlt)
   have hxl := nameG_len (A3.out x (List.mem_of_getElem? hv))
   have HNX : Hid (X ++ ([32, 44, 32, 85, 78, 73, 81, 85, 69, 32, 40, 32] ++ x ++ [32, 41]) = X0 ++ uniqT (s.uniq.take (j + 1))) := by
    show _ = _
    rw [List.take_add_one, hv, show (some x).toList = [x] from rfl, uniqT_snoc, HX.out, List.append_assoc]
   have hlb : b < w.heap.size := hbB
   have g10 : (j : Int) < (NU : Int) := by omega
   rw [e1]
   clear hv
   go_wp2_with fail
   go_roundw
   case rel =>
    refine ⟨_, j + 1, rfl, by go_num, by omega, ?_, HNX, hbw⟩
    simp; omega
   case measure => simp [intOf]; omega
  ·obtain rfl : NU = j := by omega
   have HX2 : Hid (X = X0 ++ uniqT s.uniq) := by show _ = _; rw [HX.out, ← HNU.out, List.take_length]
   clear s0 s1 s2 s3 s4 s5 t6 t7
   obtain ⟨t6, t7⟩ := HS3.out Y hbw
   have g11 : ¬ (NU : Int) < (NU : Int) := by omega
   clear hlt HX
   go_wp2_with fail
   go_loopw [3, 39] (fun x i wr => ∃ (Z : List UInt8) (j : Nat), x = .string ⟨Z.toArray⟩ ∧ i = .int .i64 j ∧ j ≤ NR ∧ Z.length ≤ 5000 + 100 * j ∧ Hid (Z = X ++ refsT (s.refs.take j)) ∧ Below w0.heap.size w0 wr) (fun _ i _ => NR - (intOf i).toNat)
   case atStart => exact ⟨X, 0, rfl, rfl, by omega, by omega, by show _ = _; simp [refsT], hbw⟩
   case round =>
    obtain ⟨Z, j, rfl, rfl, hj2, hZl, HZ, hbv⟩ := hrel
    obtain ⟨U, rfl⟩ : ∃ W, W = wr := ⟨_, rfl⟩
    have hzU := hbv.size
    by_cases hlt : j < NR
    ·obtain ⟨b, off, x, e1, hbB, hv, d0, d1⟩ := (HM.out U hbv).2.2.2.1.at_ (j := j) (by rw [HNR.out]; exact hlt)
     have hx4 := A4.out x (List.mem_of_getElem? hv)
     unfold refOkB at hx4
     simp only [Bool.and_eq_true] at hx4
     have hxl := nameG_len hx4.1
     have hxl2 := nameG_len hx4.2
     have HNX : Hid (Z ++ ([32, 44, 32, 82, 69, 70, 69, 82, 69, 78, 67, 69, 83, 32, 40, 32] ++ (x.c ++ ([32, 41, 32] ++ x.t))) = X ++ refsT (s.refs.take (j + 1))) := by
      show _ = _
      rw [List.take_add_one, hv, show (some x).toList = [x] from rfl, refsT_snoc, HZ.out]
      simp
     obtain ⟨V, hV⟩ : ∃ V, U.alloc (.cells #[.string ⟨x.c.toArray⟩, .string ⟨x.t.toArray⟩] 74) = V := ⟨_, rfl⟩
     have kV : Blk V U.heap.size 74 #[.string ⟨x.c.toArray⟩, .string ⟨x.t.toArray⟩] := by rw [← hV]; exact Blk.new _ _ _
     have hbV : Below w0.heap.size w0 V := by rw [← hV]; exact hbv.alloc hzU _
     obtain ⟨⟨k0, k1⟩, _⟩ := kV.two
     have HV := Lib.hid hV
     have hlb : b < w.heap.size := hbB
     have g10 : (j : Int) < (NR : Int) := by omega
     rw [e1]
     clear hv hV kV hx4
     go_upto_region 12 with fail
     rw [show U.alloc _ = V from HV.out]
     go_wp2_with fail
     go_roundw
     case rel =>
      refine ⟨_, j + 1, rfl, by go_num, by omega, ?_, HNX, hbV⟩
      simp; omega
     case measure => simp [intOf]; omega
    ·obtain rfl : NR = j := by omega
     have HZ2 : Hid (Z = X ++ refsT s.refs) := by show _ = _; rw [HZ.out, ← HNR.out, List.take_length]
     have g12 : ¬ (NR : Int) < (NR : Int) := by omega
     obtain ⟨-, -, -, -, -, -, -, -, s8, s9, s10, s11, s12, s13, -⟩ := HST.out U hbv
     clear hlt HZ t6 t7
     go_wp2_with fail
     refine (HCK.out _ hbv).mono ?_
     rintro en w5 ⟨rfl, hb5⟩
     have hbf := HB.out.trans ((hbv.trans (hb5.mono hzU)).mono hz0)
     go_wp2_with fail
     go_ret
     refine ⟨?_, hbf⟩
     rw [← HR.out, HZ2.out, HX2.out, ← HX0.out]
     simp
end Go.Proofs.YtchilcchogcibaaGreatDoor
