/- The document's Cut as a plain function. Condition: a text that memory reaches.. -/
import Derived.Test.YtchilcchogcibaaGreatDoorDLift
set_option maxRecDepth 100000
set_option maxHeartbeats 4000000
namespace Go.Proofs.YtchilcchogcibaaGreatDoor
open Go.RowKit
attribute [local go_sem] ByteArray.extract_mk ba_get ba_append
attribute [local go_sem ↓] Go.wp_at_zero Go.wp_at_succ
def RetTkB (o : Option (List Tok)) (w : World) (e : Ending) (w' : World) : Prop :=
 ∃ A c l b, e = .returned (.tuple #[.slice A l.length c, .bool b]) ∧ l.length ≤ c ∧ c ≤ maxLen ∧ TkF w' w.heap.size w'.heap.size A l ∧ Below w.heap.size w w' ∧ b = o.isSome ∧ ∀ L, o = some L → l = L
theorem pair_set {w : World} {g : Nat} {t : TypeId} {x0 x1 : Value} (h : Blk w g t #[x0, x1]) (y0 y1 : Value) : Blk ((w.setCell ⟨g, 0, none⟩ y0).setCell ⟨g, 1, none⟩ y1) g t #[y0, y1] := (h.set_ 0 y0).set_ 1 y1
theorem rcut_any (s : List UInt8) (w : World) (hs : s.length ≤ 900000) : Calls Tryz.prog 65 #[.string ⟨s.toArray⟩] w (RetTkB (cutT s) w) := by
 obtain ⟨i0, hi0, zi0, zi1, zi2⟩ := info_parts infoTk
 rw [cutD_T]
 obtain ⟨R, hR⟩ : ∃ R, cutD s.length s [] = R := ⟨_, rfl⟩
 rw [hR]
 have HR : Hid (cutD s.length (s.drop 0) [] = R) := hR
 clear hR
 go_in
 go_wp2
 go_loopw [4, 5] (fun v i wr => ∃ (j n : Nat) (l : List Tok), j ≤ s.length ∧ s.length - j ≤ n ∧ l.length ≤ j ∧ i = .int .i64 j ∧ wr.ownsRow w.heap.size 128 2 v l.length (l.flatMap Tok.cells) ∧ Below w.heap.size w wr ∧ Hid (cutD n (s.drop j) l = R)) (fun _ i _ => s.length - (intOf i).toNat)
 case atStart => exact ⟨0, s.length, [], by omega, by omega, by simp, rfl, World.ownsRow_nil _ _ _ _, Below.refl _ _, HR⟩
 case round =>
  obtain ⟨j, n, l, hj, hn, hl, rfl, hown, hbr, HJ⟩ := hrel
  obtain ⟨WR, rfl⟩ : ∃ W : World, W = wr := ⟨_, rfl⟩
  have hzr := hbr.size
  by_cases hlt : j < s.length
  ·obtain ⟨c, hc⟩ : ∃ c, s[j]? = some c := ⟨_, List.getElem?_eq_getElem hlt⟩
   have hcg : s[j] = c := by rw [List.getElem?_eq_getElem hlt] at hc; exact Option.some.inj hc
   have hdr : s.drop j = c :: s.drop (j + 1) := by rw [List.drop_eq_getElem_cons hlt, hcg]
   obtain ⟨n', rfl⟩ : ∃ n', n = n' + 1 := ⟨n - 1, by omega⟩
   have hJ := HJ.out
   rw [hdr] at hJ
   cases hb : blankB c
   ·have b1 : ((c.toNat : Int) == 32) = false := by
     rw [beq_eq_false_iff_ne]; intro e
     have : blankB c = true := by unfold blankB; simp [show c.toNat = 32 by omega]
     rw [this] at hb; cases hb
    have b2 : ((c.toNat : Int) == 10) = false := by
     rw [beq_eq_false_iff_ne]; intro e
     have : blankB c = true := by unfold blankB; simp [show c.toNat = 10 by omega]
     rw [this] at hb; cases hb
    have hJ2 : (if mayT (firstT (c :: s.drop (j + 1))).1 then cutD n' ((s.drop j).drop (firstT (c :: s.drop (j + 1))).2) (l ++ [(firstT (c :: s.drop (j + 1))).1]) else none) = R := by
     rw [hdr, ← hJ]; simp [cutD, hb]
    rw [List.drop_drop] at hJ2
    have hdp : 0 < (s.drop j).length := by rw [List.length_drop]; omega
    obtain ⟨hf1, hf2⟩ := firstT_le (s.drop j) hdp
    rw [List.length_drop, hdr] at hf1
    rw [hdr] at hf2
    clear hb hJ hc hdp HJ
    have HJ2 := Lib.hid hJ2
    have HF1 := Lib.hid hf1
    have HF2 := Lib.hid hf2
    have HDR := Lib.hid hdr
    clear hJ2 hf1 hf2 hdr
    have p1 : (j : Int) + 1 ≤ s.length := by omega
    by_cases hlet : letB c = true
    ·rw [firstT_let c _ hlet] at HJ2 HF1 HF2
     have HL := Lib.hid hlet
     have HDG : Hid (digB c = false) := by show _ = _; cases h : digB c; rfl; rw [digB_let c h] at hlet; cases hlet
     have n39 : ((c.toNat : Int) == 39) = false := by
      rw [beq_eq_false_iff_ne]; intro e
      have : c = 39 := (nat39 c).1 (by omega)
      subst this; cases hlet
     clear hlet
     generalize hLL : 1 + (List.takeWhile partB (List.drop (j + 1) s)).length = LL at HJ2 HF1 HF2
     have HLL := Lib.hid hLL
     clear hLL
     go_upto_region 10 with fail
     generalize List.take 1 (List.drop j s) = T
     obtain ⟨w2, hw2⟩ : ∃ w2, WR.alloc (.cells #[.int .i64 4, .string ⟨T.toArray⟩] 128) = w2 := ⟨_, rfl⟩
     rw [hw2]
     have k2 : Blk w2 WR.heap.size 128 #[.int .i64 4, .string ⟨T.toArray⟩] := by rw [← hw2]; exact Blk.new _ _ _
     have hb2 : Below WR.heap.size WR w2 := by rw [← hw2]; exact bl
     clear hw2
     have l2 := k2.lt
     obtain ⟨⟨y0, y1⟩, _⟩ := k2.two
     go_wp2_with (go_at_call 115; refine (rletter_any c _).mono ?_; rw [HL.out]; rintro e w' ⟨rfl, rfl⟩)
     go_loopg [5] (s.length - (j + 1)) (fun g i wx => ∃ k : Nat, k + g = s.length ∧ i = .int .i64 k ∧ j < k ∧ Hid (k + ((s.drop k).takeWhile partB).length = j + LL) ∧ wx = w2)
     case atStart => exact ⟨j + 1, by omega, by go_num, by omega, by show _ = _; rw [← HLL.out]; omega, rfl⟩
     case round =>
      obtain ⟨k, hk, rfl, hjk, hrest, rfl⟩ := hrel
      by_cases hkl : k < s.length
      ·obtain ⟨d, hd⟩ : ∃ d, s[k] = d := ⟨_, rfl⟩
       have hkr : s.drop k = d :: s.drop (k + 1) := by rw [List.drop_eq_getElem_cons hkl, hd]
       obtain ⟨g', rfl⟩ : ∃ g', gk = g' + 1 := ⟨gk - 1, by omega⟩
       have hre := hrest.out
       rw [hkr] at hre
       have HK := Lib.hid hk
       clear hk hrest hkr
       cases hq : partB d
       ·have HE : Hid (k = j + LL) := by show _ = _; simpa [hq] using hre
        have HQ := Lib.hid hq
        clear hre hq
        go_upto_region 14 with (go_at_call 116; refine (rpart_any d _).mono ?_; rw [HQ.out]; rintro e w' ⟨rfl, rfl⟩)
        generalize hXX : List.take (k - j) (List.drop j s) = XX
        have hxl : XX.length ≤ 1000000 := by rw [← hXX, List.length_take, List.length_drop]; omega
        have hke := HE.out
        have HJT : Hid ((if mayT ⟨1, XX⟩ then cutD n' (s.drop k) (l ++ [⟨1, XX⟩]) else none) = R) := by
         show _ = _
         rw [← HJ2.out, ← HDR.out, hke, ← hXX, hke, show j + LL - j = LL by omega]
        have HNT : Hid (mayT ⟨1, XX⟩ = true → j < k) := fun _ => hjk
        have hkn : k ≤ s.length := by have h1 : LL ≤ s.length - j := HF1.out; omega
        clear HJ2 HF1 HF2 hke hXX
        obtain ⟨wT, hwT⟩ : ∃ wT, (wr.setCell ⟨WR.heap.size, 0, none⟩ (.int .i64 1)).setCell ⟨WR.heap.size, 1, none⟩ (.string ⟨XX.toArray⟩) = wT := ⟨_, rfl⟩
        rw [hwT]
        have kT : Blk wT WR.heap.size 128 #[.int .i64 1, .string ⟨XX.toArray⟩] := by rw [← hwT]; exact pair_set k2 _ _
        have hbT : Below WR.heap.size WR wT := by rw [← hwT]; ((with_reducible repeat' (first | exact bwR | assumption | refine bwD ?_ | refine bwN ?_ | refine bwS ?_ ?_ | refine bwA ?_ ?_ | refine bwT ?_ (by assumption) ?_)) <;> first | (simp; done) | (simp; omega) | omega)
        clear hwT k2 hb2
        have lT := kT.lt
        obtain ⟨⟨y0, y1⟩, f0, f1⟩ := kT.two
        go_upto_region 28 with (go_at_call 117; refine (rdigit_any c _).mono ?_; rw [HDG.out]; rintro e w' ⟨rfl, rfl⟩)
        go_wp2_with fail
        refine (rmayTok_any 1 XX wT hxl).mono ?_
        rintro e w3 ⟨rfl, hb3⟩
        have k3 := kT.below hb3 lT
        have l3 := k3.lt
        have hb3r : Below WR.heap.size WR w3 := hbT.trans (hb3.mono hbT.size)
        have hbw3 : Below w.heap.size w w3 := hbr.trans (hb3r.mono hzr)
        have hz3 := hbw3.size
        have hown3 := own_below hown hb3r
        obtain ⟨A4, c4, hA4, hc1, hc2, _⟩ := TkS.own hown3
        clear y0 y1 f0 f1 kT lT hbT hb3 hown
        obtain ⟨⟨y0, y1⟩, f0, f1⟩ := k3.two
        obtain ⟨m, hm⟩ : ∃ m, mayT ⟨1, XX⟩ = m := ⟨_, rfl⟩
        rw [hm] at HJT HNT ⊢
        clear hm
        subst hA4
        cases m
        ·have HJ3 : Hid (R = none) := by show _ = _; rw [← HJT.out]; rfl
         clear HJT HNT
         go_wp2_with fail
         refine bodyPost_ret (v := .tuple #[.slice none 0 0, .bool false]) (by simp [results, Tryz.results65, go_sem, *]) rfl ?_
         rw [HJ3.out]
         exact ⟨none, 0, [], false, rfl, Nat.le_refl _, Nat.zero_le _, TkF.nil, hbw3, rfl, fun L h => by cases h⟩
        ·have hjn := HNT.out rfl
         have HJ3 : Hid (cutD n' (s.drop k) (l ++ [⟨1, XX⟩]) = R) := by show _ = _; rw [← HJT.out]; rfl
         clear HJT HNT
         go_wp2_with (at_builtin; refine wpList_append_own _ rfl _ _ 91 rfl w.heap.size 128 i0 _ 2 24 Tryz.underlying91 hi0 zi0 zi1 zi2 rfl (by decide) _ _ _ rfl (hown3.alloc _) ⟨w3.heap.size, 0, none⟩ 1 1 (Tok.cells ⟨1, XX⟩) rfl rfl ?c1 ?c2 ?c3 ?c4 ?c5 ?_)
         case c1 => exact World.news_of_block (cs := #[.int .i64 1, .string ⟨XX.toArray⟩]) (t := 128) (fr := (0, 0)) (heap_alloc_new w3 _)
         case c2 => exact fun u hu => tk_one [⟨1, XX⟩] u (by simpa using hu)
         case c3 => unfold maxLen; omega
         case c4 => omega
         case c5 => simp; omega
         intro v' w4 hown4 hg4 _
         go_wp2
         go_roundw
         case rel =>
          refine ⟨k, n', l ++ [⟨1, XX⟩], by omega, by omega, by simp; omega, by go_num, ?_, ?_, HJ3⟩
          ·rw [tk_snoc]
           simpa using hown4
          ·refine Below.grown (w := w3.alloc (.cells #[.int .i64 1, .string ⟨XX.toArray⟩] 128)) ?_ hg4 (by simp; omega) (fun k hk => (hown3.lt k hk).1)
           exact bl
         case measure => simp [intOf]; omega
       ·have HE : Hid (k + 1 + ((s.drop (k + 1)).takeWhile partB).length = j + LL) := by show _ = _; rw [← hre]; simp [hq]; omega
        have HQ := Lib.hid hq
        clear hre hq
        go_wp2_with (go_at_call 116; refine (rpart_any d _).mono ?_; rw [HQ.out]; rintro e w' ⟨rfl, rfl⟩)
        go_roundg g'
        case measure => omega
        case rel => exact ⟨k + 1, by have := HK.out; omega, by go_num, by omega, HE, rfl⟩
      ·have HE : Hid (k = j + LL) := by
        show _ = _
        have := hrest.out
        rw [List.drop_of_length_le (show s.length ≤ k by omega)] at this
        simpa using this
       have p2 : ¬ (k : Int) < (s.length : Int) := by omega
       have p3 : k ≤ s.length := by omega
       clear hk hrest
       go_upto_region 14 with fail
       generalize hXX : List.take (k - j) (List.drop j s) = XX
       have hxl : XX.length ≤ 1000000 := by rw [← hXX, List.length_take, List.length_drop]; omega
       have hke := HE.out
       have HJT : Hid ((if mayT ⟨1, XX⟩ then cutD n' (s.drop k) (l ++ [⟨1, XX⟩]) else none) = R) := by
        show _ = _
        rw [← HJ2.out, ← HDR.out, hke, ← hXX, hke, show j + LL - j = LL by omega]
       have HNT : Hid (mayT ⟨1, XX⟩ = true → j < k) := fun _ => hjk
       have hkn : k ≤ s.length := by have h1 : LL ≤ s.length - j := HF1.out; omega
       clear HJ2 HF1 HF2 hke hXX
       obtain ⟨wT, hwT⟩ : ∃ wT, (wr.setCell ⟨WR.heap.size, 0, none⟩ (.int .i64 1)).setCell ⟨WR.heap.size, 1, none⟩ (.string ⟨XX.toArray⟩) = wT := ⟨_, rfl⟩
       rw [hwT]
       have kT : Blk wT WR.heap.size 128 #[.int .i64 1, .string ⟨XX.toArray⟩] := by rw [← hwT]; exact pair_set k2 _ _
       have hbT : Below WR.heap.size WR wT := by rw [← hwT]; ((with_reducible repeat' (first | exact bwR | assumption | refine bwD ?_ | refine bwN ?_ | refine bwS ?_ ?_ | refine bwA ?_ ?_ | refine bwT ?_ (by assumption) ?_)) <;> first | (simp; done) | (simp; omega) | omega)
       clear hwT k2 hb2
       have lT := kT.lt
       obtain ⟨⟨y0, y1⟩, f0, f1⟩ := kT.two
       go_upto_region 28 with (go_at_call 117; refine (rdigit_any c _).mono ?_; rw [HDG.out]; rintro e w' ⟨rfl, rfl⟩)
       go_wp2_with fail
       refine (rmayTok_any 1 XX wT hxl).mono ?_
       rintro e w3 ⟨rfl, hb3⟩
       have k3 := kT.below hb3 lT
       have l3 := k3.lt
       have hb3r : Below WR.heap.size WR w3 := hbT.trans (hb3.mono hbT.size)
       have hbw3 : Below w.heap.size w w3 := hbr.trans (hb3r.mono hzr)
       have hz3 := hbw3.size
       have hown3 := own_below hown hb3r
       obtain ⟨A4, c4, hA4, hc1, hc2, _⟩ := TkS.own hown3
       clear y0 y1 f0 f1 kT lT hbT hb3 hown
       obtain ⟨⟨y0, y1⟩, f0, f1⟩ := k3.two
       obtain ⟨m, hm⟩ : ∃ m, mayT ⟨1, XX⟩ = m := ⟨_, rfl⟩
       rw [hm] at HJT HNT ⊢
       clear hm
       subst hA4
       cases m
       ·have HJ3 : Hid (R = none) := by show _ = _; rw [← HJT.out]; rfl
        clear HJT HNT
        go_wp2_with fail
        refine bodyPost_ret (v := .tuple #[.slice none 0 0, .bool false]) (by simp [results, Tryz.results65, go_sem, *]) rfl ?_
        rw [HJ3.out]
        exact ⟨none, 0, [], false, rfl, Nat.le_refl _, Nat.zero_le _, TkF.nil, hbw3, rfl, fun L h => by cases h⟩
       ·have hjn := HNT.out rfl
        have HJ3 : Hid (cutD n' (s.drop k) (l ++ [⟨1, XX⟩]) = R) := by show _ = _; rw [← HJT.out]; rfl
        clear HJT HNT
        go_wp2_with (at_builtin; refine wpList_append_own _ rfl _ _ 91 rfl w.heap.size 128 i0 _ 2 24 Tryz.underlying91 hi0 zi0 zi1 zi2 rfl (by decide) _ _ _ rfl (hown3.alloc _) ⟨w3.heap.size, 0, none⟩ 1 1 (Tok.cells ⟨1, XX⟩) rfl rfl ?c1 ?c2 ?c3 ?c4 ?c5 ?_)
        case c1 => exact World.news_of_block (cs := #[.int .i64 1, .string ⟨XX.toArray⟩]) (t := 128) (fr := (0, 0)) (heap_alloc_new w3 _)
        case c2 => exact fun u hu => tk_one [⟨1, XX⟩] u (by simpa using hu)
        case c3 => unfold maxLen; omega
        case c4 => omega
        case c5 => simp; omega
        intro v' w4 hown4 hg4 _
        go_wp2
        go_roundw
        case rel =>
         refine ⟨k, n', l ++ [⟨1, XX⟩], by omega, by omega, by simp; omega, by go_num, ?_, ?_, HJ3⟩
         ·rw [tk_snoc]
          simpa using hown4
         ·refine Below.grown (w := w3.alloc (.cells #[.int .i64 1, .string ⟨XX.toArray⟩] 128)) ?_ hg4 (by simp; omega) (fun k hk => (hown3.lt k hk).1)
          exact bl
        case measure => simp [intOf]; omega
    ·have hlet := Bool.eq_false_iff.2 hlet
     by_cases hdig : digB c = true
     ·rw [firstT_dig c _ hdig] at HJ2 HF1 HF2
      have HL := Lib.hid hlet
      have HD := Lib.hid hdig
      have n39 : ((c.toNat : Int) == 39) = false := by
       rw [beq_eq_false_iff_ne]; intro e
       have : c = 39 := (nat39 c).1 (by omega)
       subst this; cases hdig
      clear hlet hdig
      generalize hLL : 1 + (List.takeWhile digB (List.drop (j + 1) s)).length = LL at HJ2 HF1 HF2
      have HLL := Lib.hid hLL
      clear hLL
      go_upto_region 10 with fail
      generalize List.take 1 (List.drop j s) = T
      obtain ⟨w2, hw2⟩ : ∃ w2, WR.alloc (.cells #[.int .i64 4, .string ⟨T.toArray⟩] 128) = w2 := ⟨_, rfl⟩
      rw [hw2]
      have k2 : Blk w2 WR.heap.size 128 #[.int .i64 4, .string ⟨T.toArray⟩] := by rw [← hw2]; exact Blk.new _ _ _
      have hb2 : Below WR.heap.size WR w2 := by rw [← hw2]; exact bl
      clear hw2
      have l2 := k2.lt
      obtain ⟨⟨y0, y1⟩, _⟩ := k2.two
      go_wp2_with (first | (go_at_call 115; refine (rletter_any c _).mono ?_; rw [HL.out]; rintro e w' ⟨rfl, rfl⟩) | (go_at_call 117; refine (rdigit_any c _).mono ?_; rw [HD.out]; rintro e w' ⟨rfl, rfl⟩))
      go_loopg [5] (s.length - (j + 1)) (fun g i wx => ∃ k : Nat, k + g = s.length ∧ i = .int .i64 k ∧ j < k ∧ Hid (k + ((s.drop k).takeWhile digB).length = j + LL) ∧ wx = w2)
      case atStart => exact ⟨j + 1, by omega, by go_num, by omega, by show _ = _; rw [← HLL.out]; omega, rfl⟩
      case round =>
       obtain ⟨k, hk, rfl, hjk, hrest, rfl⟩ := hrel
       by_cases hkl : k < s.length
       ·obtain ⟨d, hd⟩ : ∃ d, s[k] = d := ⟨_, rfl⟩
        have hkr : s.drop k = d :: s.drop (k + 1) := by rw [List.drop_eq_getElem_cons hkl, hd]
        obtain ⟨g', rfl⟩ : ∃ g', gk = g' + 1 := ⟨gk - 1, by omega⟩
        have hre := hrest.out
        rw [hkr] at hre
        have HK := Lib.hid hk
        clear hk hrest hkr
        cases hq : digB d
        ·have HE : Hid (k = j + LL) := by show _ = _; simpa [hq] using hre
         have HQ := Lib.hid hq
         clear hre hq
         go_upto_region 18 with (go_at_call 117; refine (rdigit_any d _).mono ?_; rw [HQ.out]; rintro e w' ⟨rfl, rfl⟩)
         generalize hXX : List.take (k - j) (List.drop j s) = XX
         have hxl : XX.length ≤ 1000000 := by rw [← hXX, List.length_take, List.length_drop]; omega
         have hke := HE.out
         have HJT : Hid ((if mayT ⟨2, XX⟩ then cutD n' (s.drop k) (l ++ [⟨2, XX⟩]) else none) = R) := by
          show _ = _
          rw [← HJ2.out, ← HDR.out, hke, ← hXX, hke, show j + LL - j = LL by omega]
         have HNT : Hid (mayT ⟨2, XX⟩ = true → j < k) := fun _ => hjk
         have hkn : k ≤ s.length := by have h1 : LL ≤ s.length - j := HF1.out; omega
         clear HJ2 HF1 HF2 hke hXX
         obtain ⟨wT, hwT⟩ : ∃ wT, (wr.setCell ⟨WR.heap.size, 0, none⟩ (.int .i64 2)).setCell ⟨WR.heap.size, 1, none⟩ (.string ⟨XX.toArray⟩) = wT := ⟨_, rfl⟩
         rw [hwT]
         have kT : Blk wT WR.heap.size 128 #[.int .i64 2, .string ⟨XX.toArray⟩] := by rw [← hwT]; exact pair_set k2 _ _
         have hbT : Below WR.heap.size WR wT := by rw [← hwT]; ((with_reducible repeat' (first | exact bwR | assumption | refine bwD ?_ | refine bwN ?_ | refine bwS ?_ ?_ | refine bwA ?_ ?_ | refine bwT ?_ (by assumption) ?_)) <;> first | (simp; done) | (simp; omega) | omega)
         clear hwT k2 hb2
         have lT := kT.lt
         obtain ⟨⟨y0, y1⟩, f0, f1⟩ := kT.two
         go_upto_region 28 with (go_at_call 117; refine (rdigit_any c _).mono ?_; rw [HDG.out]; rintro e w' ⟨rfl, rfl⟩)
         go_wp2_with fail
         refine (rmayTok_any 2 XX wT hxl).mono ?_
         rintro e w3 ⟨rfl, hb3⟩
         have k3 := kT.below hb3 lT
         have l3 := k3.lt
         have hb3r : Below WR.heap.size WR w3 := hbT.trans (hb3.mono hbT.size)
         have hbw3 : Below w.heap.size w w3 := hbr.trans (hb3r.mono hzr)
         have hz3 := hbw3.size
         have hown3 := own_below hown hb3r
         obtain ⟨A4, c4, hA4, hc1, hc2, _⟩ := TkS.own hown3
         clear y0 y1 f0 f1 kT lT hbT hb3 hown
         obtain ⟨⟨y0, y1⟩, f0, f1⟩ := k3.two
         obtain ⟨m, hm⟩ : ∃ m, mayT ⟨2, XX⟩ = m := ⟨_, rfl⟩
         rw [hm] at HJT HNT ⊢
         clear hm
         subst hA4
         cases m
         ·have HJ3 : Hid (R = none) := by show _ = _; rw [← HJT.out]; rfl
          clear HJT HNT
          go_wp2_with fail
          refine bodyPost_ret (v := .tuple #[.slice none 0 0, .bool false]) (by simp [results, Tryz.results65, go_sem, *]) rfl ?_
          rw [HJ3.out]
          exact ⟨none, 0, [], false, rfl, Nat.le_refl _, Nat.zero_le _, TkF.nil, hbw3, rfl, fun L h => by cases h⟩
         ·have hjn := HNT.out rfl
          have HJ3 : Hid (cutD n' (s.drop k) (l ++ [⟨2, XX⟩]) = R) := by show _ = _; rw [← HJT.out]; rfl
          clear HJT HNT
          go_wp2_with (at_builtin; refine wpList_append_own _ rfl _ _ 91 rfl w.heap.size 128 i0 _ 2 24 Tryz.underlying91 hi0 zi0 zi1 zi2 rfl (by decide) _ _ _ rfl (hown3.alloc _) ⟨w3.heap.size, 0, none⟩ 1 1 (Tok.cells ⟨2, XX⟩) rfl rfl ?c1 ?c2 ?c3 ?c4 ?c5 ?_)
          case c1 => exact World.news_of_block (cs := #[.int .i64 2, .string ⟨XX.toArray⟩]) (t := 128) (fr := (0, 0)) (heap_alloc_new w3 _)
          case c2 => exact fun u hu => tk_one [⟨2, XX⟩] u (by simpa using hu)
          case c3 => unfold maxLen; omega
          case c4 => omega
          case c5 => simp; omega
          intro v' w4 hown4 hg4 _
          go_wp2
          go_roundw
          case rel =>
           refine ⟨k, n', l ++ [⟨2, XX⟩], by omega, by omega, by simp; omega, by go_num, ?_, ?_, HJ3⟩
           ·rw [tk_snoc]
            simpa using hown4
           ·refine Below.grown (w := w3.alloc (.cells #[.int .i64 2, .string ⟨XX.toArray⟩] 128)) ?_ hg4 (by simp; omega) (fun k hk => (hown3.lt k hk).1)
            exact bl
          case measure => simp [intOf]; omega
        ·have HE : Hid (k + 1 + ((s.drop (k + 1)).takeWhile digB).length = j + LL) := by show _ = _; rw [← hre]; simp [hq]; omega
         have HQ := Lib.hid hq
         clear hre hq
         go_wp2_with (go_at_call 117; refine (rdigit_any d _).mono ?_; rw [HQ.out]; rintro e w' ⟨rfl, rfl⟩)
         go_roundg g'
         case measure => omega
         case rel => exact ⟨k + 1, by have := HK.out; omega, by go_num, by omega, HE, rfl⟩
       ·have HE : Hid (k = j + LL) := by
         show _ = _
         have := hrest.out
         rw [List.drop_of_length_le (show s.length ≤ k by omega)] at this
         simpa using this
        have p2 : ¬ (k : Int) < (s.length : Int) := by omega
        have p3 : k ≤ s.length := by omega
        clear hk hrest
        go_upto_region 18 with fail
        generalize hXX : List.take (k - j) (List.drop j s) = XX
        have hxl : XX.length ≤ 1000000 := by rw [← hXX, List.length_take, List.length_drop]; omega
        have hke := HE.out
        have HJT : Hid ((if mayT ⟨2, XX⟩ then cutD n' (s.drop k) (l ++ [⟨2, XX⟩]) else none) = R) := by
         show _ = _
         rw [← HJ2.out, ← HDR.out, hke, ← hXX, hke, show j + LL - j = LL by omega]
        have HNT : Hid (mayT ⟨2, XX⟩ = true → j < k) := fun _ => hjk
        have hkn : k ≤ s.length := by have h1 : LL ≤ s.length - j := HF1.out; omega
        clear HJ2 HF1 HF2 hke hXX
        obtain ⟨wT, hwT⟩ : ∃ wT, (wr.setCell ⟨WR.heap.size, 0, none⟩ (.int .i64 2)).setCell ⟨WR.heap.size, 1, none⟩ (.string ⟨XX.toArray⟩) = wT := ⟨_, rfl⟩
        rw [hwT]
        have kT : Blk wT WR.heap.size 128 #[.int .i64 2, .string ⟨XX.toArray⟩] := by rw [← hwT]; exact pair_set k2 _ _
        have hbT : Below WR.heap.size WR wT := by rw [← hwT]; ((with_reducible repeat' (first | exact bwR | assumption | refine bwD ?_ | refine bwN ?_ | refine bwS ?_ ?_ | refine bwA ?_ ?_ | refine bwT ?_ (by assumption) ?_)) <;> first | (simp; done) | (simp; omega) | omega)
        clear hwT k2 hb2
        have lT := kT.lt
        obtain ⟨⟨y0, y1⟩, f0, f1⟩ := kT.two
        go_upto_region 28 with (go_at_call 117; refine (rdigit_any c _).mono ?_; rw [HDG.out]; rintro e w' ⟨rfl, rfl⟩)
        go_wp2_with fail
        refine (rmayTok_any 2 XX wT hxl).mono ?_
        rintro e w3 ⟨rfl, hb3⟩
        have k3 := kT.below hb3 lT
        have l3 := k3.lt
        have hb3r : Below WR.heap.size WR w3 := hbT.trans (hb3.mono hbT.size)
        have hbw3 : Below w.heap.size w w3 := hbr.trans (hb3r.mono hzr)
        have hz3 := hbw3.size
        have hown3 := own_below hown hb3r
        obtain ⟨A4, c4, hA4, hc1, hc2, _⟩ := TkS.own hown3
        clear y0 y1 f0 f1 kT lT hbT hb3 hown
        obtain ⟨⟨y0, y1⟩, f0, f1⟩ := k3.two
        obtain ⟨m, hm⟩ : ∃ m, mayT ⟨2, XX⟩ = m := ⟨_, rfl⟩
        rw [hm] at HJT HNT ⊢
        clear hm
        subst hA4
        cases m
        ·have HJ3 : Hid (R = none) := by show _ = _; rw [← HJT.out]; rfl
         clear HJT HNT
         go_wp2_with fail
         refine bodyPost_ret (v := .tuple #[.slice none 0 0, .bool false]) (by simp [results, Tryz.results65, go_sem, *]) rfl ?_
         rw [HJ3.out]
         exact ⟨none, 0, [], false, rfl, Nat.le_refl _, Nat.zero_le _, TkF.nil, hbw3, rfl, fun L h => by cases h⟩
        ·have hjn := HNT.out rfl
         have HJ3 : Hid (cutD n' (s.drop k) (l ++ [⟨2, XX⟩]) = R) := by show _ = _; rw [← HJT.out]; rfl
         clear HJT HNT
         go_wp2_with (at_builtin; refine wpList_append_own _ rfl _ _ 91 rfl w.heap.size 128 i0 _ 2 24 Tryz.underlying91 hi0 zi0 zi1 zi2 rfl (by decide) _ _ _ rfl (hown3.alloc _) ⟨w3.heap.size, 0, none⟩ 1 1 (Tok.cells ⟨2, XX⟩) rfl rfl ?c1 ?c2 ?c3 ?c4 ?c5 ?_)
         case c1 => exact World.news_of_block (cs := #[.int .i64 2, .string ⟨XX.toArray⟩]) (t := 128) (fr := (0, 0)) (heap_alloc_new w3 _)
         case c2 => exact fun u hu => tk_one [⟨2, XX⟩] u (by simpa using hu)
         case c3 => unfold maxLen; omega
         case c4 => omega
         case c5 => simp; omega
         intro v' w4 hown4 hg4 _
         go_wp2
         go_roundw
         case rel =>
          refine ⟨k, n', l ++ [⟨2, XX⟩], by omega, by omega, by simp; omega, by go_num, ?_, ?_, HJ3⟩
          ·rw [tk_snoc]
           simpa using hown4
          ·refine Below.grown (w := w3.alloc (.cells #[.int .i64 2, .string ⟨XX.toArray⟩] 128)) ?_ hg4 (by simp; omega) (fun k hk => (hown3.lt k hk).1)
           exact bl
         case measure => simp [intOf]; omega
     ·have hdig := Bool.eq_false_iff.2 hdig
      by_cases hq : c.toNat = 39
      ·rw [firstT_quote c _ hq] at HJ2 HF1 HF2
       have HL := Lib.hid hlet
       have HD := Lib.hid hdig
       have n39 : ((c.toNat : Int) == 39) = true := by rw [hq]; rfl
       clear hlet hdig hq
       generalize hE : scanQ (List.drop (j + 1) s) [] = E at HJ2 HF1 HF2
       have HE := Lib.hid hE
       clear hE
       go_upto_region 10 with fail
       generalize List.take 1 (List.drop j s) = T
       obtain ⟨w2, hw2⟩ : ∃ w2, WR.alloc (.cells #[.int .i64 4, .string ⟨T.toArray⟩] 128) = w2 := ⟨_, rfl⟩
       rw [hw2]
       have k2 : Blk w2 WR.heap.size 128 #[.int .i64 4, .string ⟨T.toArray⟩] := by rw [← hw2]; exact Blk.new _ _ _
       have hb2 : Below WR.heap.size WR w2 := by rw [← hw2]; exact bl
       clear hw2
       have l2 := k2.lt
       obtain ⟨⟨y0, y1⟩, _⟩ := k2.two
       go_upto_region 20 with (first | (go_at_call 115; refine (rletter_any c _).mono ?_; rw [HL.out]; rintro e w' ⟨rfl, rfl⟩) | (go_at_call 117; refine (rdigit_any c _).mono ?_; rw [HD.out]; rintro e w' ⟨rfl, rfl⟩))
       obtain ⟨w5, hw5⟩ : ∃ w5, (w2.setCell ⟨WR.heap.size, 0, none⟩ (.int .i64 3)).setCell ⟨WR.heap.size, 1, none⟩ (.string ⟨#[]⟩) = w5 := ⟨_, rfl⟩
       rw [hw5]
       have k5 : Blk w5 WR.heap.size 128 #[.int .i64 3, .string ⟨#[]⟩] := by rw [← hw5]; exact pair_set k2 _ _
       have hb5 : Below WR.heap.size WR w5 := by rw [← hw5]; ((with_reducible repeat' (first | exact bwR | assumption | refine bwD ?_ | refine bwN ?_ | refine bwS ?_ ?_ | refine bwA ?_ ?_ | refine bwT ?_ (by assumption) ?_)) <;> first | (simp; done) | (simp; omega) | omega)
       clear hw5 k2 hb2 y0 y1 l2
       go_loopw [5] (fun i wx => ∃ (k : Nat) (X : List UInt8), i = .int .i64 k ∧ j < k ∧ k ≤ s.length ∧ X.length ≤ k ∧ Blk wx WR.heap.size 128 #[.int .i64 3, .string ⟨X.toArray⟩] ∧ Below WR.heap.size WR wx ∧ Hid (scanQ (s.drop k) X = E)) (fun i _ => s.length - (intOf i).toNat)
       case atStart => exact ⟨j + 1, [], by go_num, by omega, by omega, by simp, k5, hb5, HE⟩
       case round =>
        obtain ⟨k, X, rfl, hjk, hkn, hX, kx, hbx, hscan⟩ := hrel
        obtain ⟨⟨y0, y1⟩, f0, f1⟩ := kx.two
        have lx := kx.lt
        by_cases hkl : k < s.length
        ·obtain ⟨d, hd⟩ : ∃ d, s[k] = d := ⟨_, rfl⟩
         have hkr : s.drop k = d :: s.drop (k + 1) := by rw [List.drop_eq_getElem_cons hkl, hd]
         have ht1 : List.take 1 (List.drop k s) = [d] := by rw [hkr]; rfl
         have hsc := hscan.out
         rw [hkr] at hsc
         clear hkr hscan
         by_cases hd39 : d.toNat = 39
         ·have m1 : ((d.toNat : Int) == 39) = true := by rw [hd39]; rfl
          have m2 : ((d.toNat : Int) != 39) = false := by rw [hd39]; rfl
          by_cases hk2 : k + 1 < s.length
          ·obtain ⟨d2, hd2⟩ : ∃ d2, s[k + 1] = d2 := ⟨_, rfl⟩
           have hkr2 : s.drop (k + 1) = d2 :: s.drop (k + 2) := by rw [List.drop_eq_getElem_cons hk2, hd2]
           have p5 : (k : Int) + 1 < s.length := by omega
           rw [hkr2] at hsc
           by_cases hd2n : d2.toNat = 39
           ·have m3 : ((d2.toNat : Int) == 39) = true := by rw [hd2n]; rfl
            have HSC : Hid (scanQ (s.drop (k + 2)) (X ++ [d]) = E) := by
             show _ = _
             rw [← hsc, (nat39 d).1 hd39]
             simp [scanQ, hd2n]
            clear hsc hkr2 hd39 hd2n
            have hxx : (X ++ [d]).length = X.length + 1 := by simp
            obtain ⟨XX, hXX⟩ : ∃ XX, X ++ [d] = XX := ⟨_, rfl⟩
            have hst : (⟨X.toArray⟩ : ByteArray) ++ ⟨[d].toArray⟩ = ⟨XX.toArray⟩ := by rw [← hXX]; rfl
            rw [hXX] at HSC hxx
            go_upto_region 21 with fail
            go_region
            go_wp2_with fail
            go_roundw
            case rel =>
             refine ⟨k + 2, XX, by go_num, by omega, by omega, by omega, ?_, ?_, HSC⟩
             ·exact (kx.set_ 1 (.string ⟨XX.toArray⟩)).drew
             ·exact bwD (bwS hbx (Nat.le_refl _))
            case measure => simp [intOf]; omega
           ·have m3 : ((d2.toNat : Int) == 39) = false := by rw [beq_eq_false_iff_ne]; omega
            have HSC : Hid (E = some (X, s.length - (k + 1))) := by
             show _ = _
             have hl2 : (d2 :: s.drop (k + 2)).length = s.length - (k + 1) := by rw [← hkr2, List.length_drop]
             rw [← hsc, ← hl2]
             simp [scanQ, hd39, hd2n]
            clear hsc hkr2 hd2n
            have p7 : ¬ (s.length : Int) ≤ k := by omega
            have HJT : Hid ((if mayT ⟨3, X⟩ then cutD n' (s.drop (k + 1)) (l ++ [⟨3, X⟩]) else none) = R) := by
             show _ = _
             rw [← HJ2.out, HSC.out]
             simp only [scanT, List.length_drop]
             rw [show j + (1 + (s.length - (j + 1) - (s.length - (k + 1)))) = k + 1 by omega]
            have HNT : Hid (mayT ⟨3, X⟩ = true → j < k + 1) := fun _ => by omega
            have hxl : X.length ≤ 1000000 := by omega
            have hkn2 : k + 1 ≤ s.length := by omega
            have kT := kx
            have lT := lx
            have hbT := hbx
            clear HJ2 HF1 HF2 HSC kx lx hbx
            obtain ⟨wT, rfl⟩ : ∃ W, W = wr := ⟨_, rfl⟩
            obtain ⟨XX, rfl⟩ : ∃ Y, Y = X := ⟨_, rfl⟩
            go_upto_region 28 with fail
            go_wp2_with fail
            refine (rmayTok_any 3 XX wT hxl).mono ?_
            rintro e w3 ⟨rfl, hb3⟩
            have k3 := kT.below hb3 lT
            have l3 := k3.lt
            have hb3r : Below WR.heap.size WR w3 := hbT.trans (hb3.mono hbT.size)
            have hbw3 : Below w.heap.size w w3 := hbr.trans (hb3r.mono hzr)
            have hz3 := hbw3.size
            have hown3 := own_below hown hb3r
            obtain ⟨A4, c4, hA4, hc1, hc2, _⟩ := TkS.own hown3
            clear y0 y1 f0 f1 kT lT hbT hb3 hown
            obtain ⟨⟨y0, y1⟩, f0, f1⟩ := k3.two
            obtain ⟨m, hm⟩ : ∃ m, mayT ⟨3, XX⟩ = m := ⟨_, rfl⟩
            rw [hm] at HJT HNT ⊢
            clear hm
            subst hA4
            cases m
            ·have HJ3 : Hid (R = none) := by show _ = _; rw [← HJT.out]; rfl
             clear HJT HNT
             go_wp2_with fail
             refine bodyPost_ret (v := .tuple #[.slice none 0 0, .bool false]) (by simp [results, Tryz.results65, go_sem, *]) rfl ?_
             rw [HJ3.out]
             exact ⟨none, 0, [], false, rfl, Nat.le_refl _, Nat.zero_le _, TkF.nil, hbw3, rfl, fun L h => by cases h⟩
            ·have hjn := HNT.out rfl
             have HJ3 : Hid (cutD n' (s.drop (k + 1)) (l ++ [⟨3, XX⟩]) = R) := by show _ = _; rw [← HJT.out]; rfl
             clear HJT HNT
             go_wp2_with (at_builtin; refine wpList_append_own _ rfl _ _ 91 rfl w.heap.size 128 i0 _ 2 24 Tryz.underlying91 hi0 zi0 zi1 zi2 rfl (by decide) _ _ _ rfl (hown3.alloc _) ⟨w3.heap.size, 0, none⟩ 1 1 (Tok.cells ⟨3, XX⟩) rfl rfl ?c1 ?c2 ?c3 ?c4 ?c5 ?_)
             case c1 => exact World.news_of_block (cs := #[.int .i64 3, .string ⟨XX.toArray⟩]) (t := 128) (fr := (0, 0)) (heap_alloc_new w3 _)
             case c2 => exact fun u hu => tk_one [⟨3, XX⟩] u (by simpa using hu)
             case c3 => unfold maxLen; omega
             case c4 => omega
             case c5 => simp; omega
             intro v' w4 hown4 hg4 _
             go_wp2
             go_roundw
             case rel =>
              refine ⟨(k + 1), n', l ++ [⟨3, XX⟩], by omega, by omega, by simp; omega, by go_num, ?_, ?_, HJ3⟩
              ·rw [tk_snoc]
               simpa using hown4
              ·refine Below.grown (w := w3.alloc (.cells #[.int .i64 3, .string ⟨XX.toArray⟩] 128)) ?_ hg4 (by simp; omega) (fun k hk => (hown3.lt k hk).1)
               exact bl
             case measure => simp [intOf]; omega
          ·have hkr2 : s.drop (k + 1) = [] := List.drop_of_length_le (by omega)
           have p5 : ¬ (k : Int) + 1 < s.length := by omega
           have HSC : Hid (E = some (X, s.length - (k + 1))) := by
            show _ = _
            rw [← hsc, hkr2, show s.length - (k + 1) = 0 by omega]
            simp [scanQ, hd39]
           clear hsc hkr2
           have p7 : ¬ (s.length : Int) ≤ k := by omega
           have HJT : Hid ((if mayT ⟨3, X⟩ then cutD n' (s.drop (k + 1)) (l ++ [⟨3, X⟩]) else none) = R) := by
            show _ = _
            rw [← HJ2.out, HSC.out]
            simp only [scanT, List.length_drop]
            rw [show j + (1 + (s.length - (j + 1) - (s.length - (k + 1)))) = k + 1 by omega]
           have HNT : Hid (mayT ⟨3, X⟩ = true → j < k + 1) := fun _ => by omega
           have hxl : X.length ≤ 1000000 := by omega
           have hkn2 : k + 1 ≤ s.length := by omega
           have kT := kx
           have lT := lx
           have hbT := hbx
           clear HJ2 HF1 HF2 HSC kx lx hbx
           obtain ⟨wT, rfl⟩ : ∃ W, W = wr := ⟨_, rfl⟩
           obtain ⟨XX, rfl⟩ : ∃ Y, Y = X := ⟨_, rfl⟩
           go_upto_region 28 with fail
           go_wp2_with fail
           refine (rmayTok_any 3 XX wT hxl).mono ?_
           rintro e w3 ⟨rfl, hb3⟩
           have k3 := kT.below hb3 lT
           have l3 := k3.lt
           have hb3r : Below WR.heap.size WR w3 := hbT.trans (hb3.mono hbT.size)
           have hbw3 : Below w.heap.size w w3 := hbr.trans (hb3r.mono hzr)
           have hz3 := hbw3.size
           have hown3 := own_below hown hb3r
           obtain ⟨A4, c4, hA4, hc1, hc2, _⟩ := TkS.own hown3
           clear y0 y1 f0 f1 kT lT hbT hb3 hown
           obtain ⟨⟨y0, y1⟩, f0, f1⟩ := k3.two
           obtain ⟨m, hm⟩ : ∃ m, mayT ⟨3, XX⟩ = m := ⟨_, rfl⟩
           rw [hm] at HJT HNT ⊢
           clear hm
           subst hA4
           cases m
           ·have HJ3 : Hid (R = none) := by show _ = _; rw [← HJT.out]; rfl
            clear HJT HNT
            go_wp2_with fail
            refine bodyPost_ret (v := .tuple #[.slice none 0 0, .bool false]) (by simp [results, Tryz.results65, go_sem, *]) rfl ?_
            rw [HJ3.out]
            exact ⟨none, 0, [], false, rfl, Nat.le_refl _, Nat.zero_le _, TkF.nil, hbw3, rfl, fun L h => by cases h⟩
           ·have hjn := HNT.out rfl
            have HJ3 : Hid (cutD n' (s.drop (k + 1)) (l ++ [⟨3, XX⟩]) = R) := by show _ = _; rw [← HJT.out]; rfl
            clear HJT HNT
            go_wp2_with (at_builtin; refine wpList_append_own _ rfl _ _ 91 rfl w.heap.size 128 i0 _ 2 24 Tryz.underlying91 hi0 zi0 zi1 zi2 rfl (by decide) _ _ _ rfl (hown3.alloc _) ⟨w3.heap.size, 0, none⟩ 1 1 (Tok.cells ⟨3, XX⟩) rfl rfl ?c1 ?c2 ?c3 ?c4 ?c5 ?_)
            case c1 => exact World.news_of_block (cs := #[.int .i64 3, .string ⟨XX.toArray⟩]) (t := 128) (fr := (0, 0)) (heap_alloc_new w3 _)
            case c2 => exact fun u hu => tk_one [⟨3, XX⟩] u (by simpa using hu)
            case c3 => unfold maxLen; omega
            case c4 => omega
            case c5 => simp; omega
            intro v' w4 hown4 hg4 _
            go_wp2
            go_roundw
            case rel =>
             refine ⟨(k + 1), n', l ++ [⟨3, XX⟩], by omega, by omega, by simp; omega, by go_num, ?_, ?_, HJ3⟩
             ·rw [tk_snoc]
              simpa using hown4
             ·refine Below.grown (w := w3.alloc (.cells #[.int .i64 3, .string ⟨XX.toArray⟩] 128)) ?_ hg4 (by simp; omega) (fun k hk => (hown3.lt k hk).1)
              exact bl
            case measure => simp [intOf]; omega
         ·have m1 : ((d.toNat : Int) == 39) = false := by rw [beq_eq_false_iff_ne]; omega
          have m2 : ((d.toNat : Int) != 39) = true := by simp; omega
          have HSC : Hid (scanQ (s.drop (k + 1)) (X ++ [d]) = E) := by
           show _ = _
           rw [← hsc]
           cases h : s.drop (k + 1) with
           | nil => simp [scanQ, hd39]
           | cons a b => simp [scanQ, hd39]
          clear hsc hd39
          have hxx : (X ++ [d]).length = X.length + 1 := by simp
          obtain ⟨XX, hXX⟩ : ∃ XX, X ++ [d] = XX := ⟨_, rfl⟩
          have hst : (⟨X.toArray⟩ : ByteArray) ++ ⟨[d].toArray⟩ = ⟨XX.toArray⟩ := by rw [← hXX]; rfl
          rw [hXX] at HSC hxx
          go_upto_region 21 with fail
          go_region
          go_wp2_with fail
          go_roundw
          case rel =>
           refine ⟨k + 1, XX, by go_num, by omega, by omega, by omega, ?_, ?_, HSC⟩
           ·exact (kx.set_ 1 (.string ⟨XX.toArray⟩)).drew
           ·exact bwD (bwS hbx (Nat.le_refl _))
          case measure => simp [intOf]; omega
        ·have p5 : ¬ (k : Int) < s.length := by omega
         have p6 : (s.length : Int) ≤ k := by omega
         have HRN : Hid (R = none) := by
          show _ = _
          have hsc := hscan.out
          rw [List.drop_of_length_le (show s.length ≤ k by omega)] at hsc
          rw [← HJ2.out, ← hsc]
          rfl
         clear hscan HJ2 HF1 HF2
         have hbw : Below w.heap.size w wr := hbr.trans (hbx.mono hzr)
         go_wp2_with fail
         refine bodyPost_ret (v := .tuple #[.slice none 0 0, .bool false]) (by simp [results, Tryz.results65, go_sem, *]) rfl ?_
         rw [HRN.out]
         exact ⟨none, 0, [], false, rfl, Nat.le_refl _, Nat.zero_le _, TkF.nil, hbw, rfl, fun L h => by cases h⟩
      ·rw [firstT_else c _ hlet hdig, if_neg hq] at HJ2 HF1 HF2
       have HL := Lib.hid hlet
       have HD := Lib.hid hdig
       have n39 : ((c.toNat : Int) == 39) = false := by rw [beq_eq_false_iff_ne]; omega
       have hT : List.take 1 (List.drop j s) = [c] := by rw [HDR.out]; rfl
       have HT := Lib.hid hT
       clear hlet hdig hT
       go_upto_region 10 with fail
       rw [HT.out]
       obtain ⟨wr, hw2⟩ : ∃ w2, WR.alloc (.cells #[.int .i64 4, .string ⟨[c].toArray⟩] 128) = w2 := ⟨_, rfl⟩
       rw [hw2]
       have kT : Blk wr WR.heap.size 128 #[.int .i64 4, .string ⟨[c].toArray⟩] := by rw [← hw2]; exact Blk.new _ _ _
       have hbT : Below WR.heap.size WR wr := by rw [← hw2]; exact bl
       clear hw2
       have lT := kT.lt
       obtain ⟨⟨y0, y1⟩, f0, f1⟩ := kT.two
       obtain ⟨XX, hXX⟩ : ∃ XX, [c] = XX := ⟨_, rfl⟩
       have hxl : XX.length ≤ 1000000 := by rw [← hXX]; simp
       rw [hXX] at HJ2 kT y1 ⊢
       have HJT : Hid ((if mayT ⟨4, XX⟩ then cutD n' (s.drop (j + 1)) (l ++ [⟨4, XX⟩]) else none) = R) := HJ2
       have HNT : Hid (mayT ⟨4, XX⟩ = true → j < j + 1) := fun _ => by omega
       have hkn : j + 1 ≤ s.length := by omega
       obtain ⟨wT, rfl⟩ : ∃ W, W = wr := ⟨_, rfl⟩
       clear HJ2 HF1 HF2 hXX
       go_upto_region 28 with (first | (go_at_call 115; refine (rletter_any c _).mono ?_; rw [HL.out]; rintro e w' ⟨rfl, rfl⟩) | (go_at_call 117; refine (rdigit_any c _).mono ?_; rw [HD.out]; rintro e w' ⟨rfl, rfl⟩))
       go_wp2_with fail
       refine (rmayTok_any 4 XX wT hxl).mono ?_
       rintro e w3 ⟨rfl, hb3⟩
       have k3 := kT.below hb3 lT
       have l3 := k3.lt
       have hb3r : Below WR.heap.size WR w3 := hbT.trans (hb3.mono hbT.size)
       have hbw3 : Below w.heap.size w w3 := hbr.trans (hb3r.mono hzr)
       have hz3 := hbw3.size
       have hown3 := own_below hown hb3r
       obtain ⟨A4, c4, hA4, hc1, hc2, _⟩ := TkS.own hown3
       clear y0 y1 f0 f1 kT lT hbT hb3 hown
       obtain ⟨⟨y0, y1⟩, f0, f1⟩ := k3.two
       obtain ⟨m, hm⟩ : ∃ m, mayT ⟨4, XX⟩ = m := ⟨_, rfl⟩
       rw [hm] at HJT HNT ⊢
       clear hm
       subst hA4
       cases m
       ·have HJ3 : Hid (R = none) := by show _ = _; rw [← HJT.out]; rfl
        clear HJT HNT
        go_wp2_with fail
        refine bodyPost_ret (v := .tuple #[.slice none 0 0, .bool false]) (by simp [results, Tryz.results65, go_sem, *]) rfl ?_
        rw [HJ3.out]
        exact ⟨none, 0, [], false, rfl, Nat.le_refl _, Nat.zero_le _, TkF.nil, hbw3, rfl, fun L h => by cases h⟩
       ·have hjn := HNT.out rfl
        have HJ3 : Hid (cutD n' (s.drop (j + 1)) (l ++ [⟨4, XX⟩]) = R) := by show _ = _; rw [← HJT.out]; rfl
        clear HJT HNT
        go_wp2_with (at_builtin; refine wpList_append_own _ rfl _ _ 91 rfl w.heap.size 128 i0 _ 2 24 Tryz.underlying91 hi0 zi0 zi1 zi2 rfl (by decide) _ _ _ rfl (hown3.alloc _) ⟨w3.heap.size, 0, none⟩ 1 1 (Tok.cells ⟨4, XX⟩) rfl rfl ?c1 ?c2 ?c3 ?c4 ?c5 ?_)
        case c1 => exact World.news_of_block (cs := #[.int .i64 4, .string ⟨XX.toArray⟩]) (t := 128) (fr := (0, 0)) (heap_alloc_new w3 _)
        case c2 => exact fun u hu => tk_one [⟨4, XX⟩] u (by simpa using hu)
        case c3 => unfold maxLen; omega
        case c4 => omega
        case c5 => simp; omega
        intro v' w4 hown4 hg4 _
        go_wp2
        go_roundw
        case rel =>
         refine ⟨(j + 1), n', l ++ [⟨4, XX⟩], by omega, by omega, by simp; omega, by go_num, ?_, ?_, HJ3⟩
         ·rw [tk_snoc]
          simpa using hown4
         ·refine Below.grown (w := w3.alloc (.cells #[.int .i64 4, .string ⟨XX.toArray⟩] 128)) ?_ hg4 (by simp; omega) (fun k hk => (hown3.lt k hk).1)
          exact bl
        case measure => simp [intOf]; omega
   ·have hJ2 : cutD n' (s.drop (j + 1)) l = R := by rw [← hJ]; simp [cutD, hb]
    have HJ2 := Lib.hid hJ2
    have b0 : ((c.toNat : Int) == 32) = true ∨ (((c.toNat : Int) == 32) = false ∧ ((c.toNat : Int) == 10) = true) := by
     unfold blankB at hb
     simp only [Bool.or_eq_true, beq_iff_eq] at hb ⊢
     rcases hb with h | h
     ·left; omega
     ·right; exact ⟨by rw [beq_eq_false_iff_ne]; omega, by omega⟩
    clear hb hJ hJ2 hdr hc HJ
    rcases b0 with b1 | ⟨b1, b2⟩
    all_goals
     go_wp2_with fail
     go_roundw
     case rel => exact ⟨j + 1, n', l, by omega, by omega, by omega, by go_num, hown, hbr, HJ2⟩
     case measure => simp [intOf]; omega
  ·have hd : s.drop j = [] := List.drop_of_length_le (by omega)
   have hJ := HJ.out
   rw [hd] at hJ
   have HJ2 : Hid (R = some l) := by show _ = _; rw [← hJ]; cases n <;> rfl
   have hb : ¬ (j : Int) < (s.length : Int) := by omega
   clear hJ hd HJ
   obtain ⟨A, c, rfl, h1, h2, h3⟩ := TkS.own hown
   by_cases h4 : l.length ≤ 400
   ·have p4 : (l.length : Int) ≤ 400 := by omega
    go_wp2_with fail
    refine bodyPost_ret (v := .tuple #[.slice A l.length c, .bool true]) (by simp [results, Tryz.results65, go_sem, *]) rfl ?_
    rw [HJ2.out]
    exact ⟨A, c, l, true, rfl, h1, h2, h3, hbr, by simp [max400, h4], by intro L h; simp [max400, h4] at h; exact h⟩
   ·have p4 : ¬ (l.length : Int) ≤ 400 := by omega
    go_wp2_with fail
    refine bodyPost_ret (v := .tuple #[.slice A l.length c, .bool false]) (by simp [results, Tryz.results65, go_sem, *]) rfl ?_
    rw [HJ2.out]
    exact ⟨A, c, l, false, rfl, h1, h2, h3, hbr, by simp [max400, h4], by intro L h; simp [max400, h4] at h⟩
end Go.Proofs.YtchilcchogcibaaGreatDoor
