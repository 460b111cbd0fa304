/- lexer.Cut as a plain function; Plain laws on cutting. -/
import Derived.Test.YtchilcchogcibaaGreatDoorELex3
set_option maxRecDepth 100000
set_option maxHeartbeats 2000000
namespace Go.Proofs.YtchilcchogcibaaGreatDoor
open Go.RowKit
attribute [local go_sem] ByteArray.extract_mk ba_get ba_append
attribute [local go_sem ↓] Go.wp_at_zero Go.wp_at_succ
theorem infoTk : (Tryz.prog.info? 128).map (fun i => (i.zero, i.size, i.bytes)) = some (some (.agg #[.int .i64 0, .string ⟨#[]⟩]), 2, 24) := by kernel_rfl
theorem endQ_lt : ∀ (s : List UInt8) (n k : Nat), endQ s n = some k → n ≤ k ∧ k < n + s.length
 | [], n, k, h => by simp [endQ] at h
 | [c], n, k, h => by
  unfold endQ at h
  split at h
  ·cases h; simp
  ·cases h
 | c :: d :: r, n, k, h => by
  unfold endQ at h
  split at h
  ·split at h
   ·have := endQ_lt r (n + 2) k h
    simp only [List.length_cons]; omega
   ·cases h; simp only [List.length_cons]; omega
  ·have := endQ_lt (d :: r) (n + 1) k h
   simp only [List.length_cons] at this ⊢; omega
theorem quotedT_le (s : List UInt8) : (quotedT s).2 ≤ s.length ∧ (mayT (quotedT s).1 = true → 1 ≤ (quotedT s).2) := by
 rw [quotedT_eq]
 cases h : endQ (s.drop 1) 1 with
 | none => exact ⟨Nat.zero_le _, fun hm => by cases hm⟩
 | some n =>
  have := endQ_lt _ _ _ h
  rw [List.length_drop] at this
  simp only [quotedOf]
  exact ⟨by omega, fun _ => by omega⟩
theorem firstT_le (s : List UInt8) (h0 : 0 < s.length) : (firstT s).2 ≤ s.length ∧ (mayT (firstT s).1 = true → 1 ≤ (firstT s).2) := by
 unfold firstT
 split
 ·exact ⟨lenRun_le _ _ _, fun _ => by assumption⟩
 ·split
  ·exact ⟨lenRun_le _ _ _, fun _ => by assumption⟩
  ·cases s with
   | nil => simp at h0
   | cons c r =>
    simp only
    split
    ·exact quotedT_le _
    ·exact ⟨by simp, fun _ => Nat.le_refl _⟩
theorem unquoteS_len : ∀ s : List UInt8, (unquoteS s).length ≤ s.length
 | [] => Nat.le_refl _
 | [_] => Nat.le_refl _
 | c :: d :: r => by
  unfold unquoteS
  have h1 := unquoteS_len r
  have h2 := unquoteS_len (d :: r)
  split
  ·simp only [List.length_cons]; omega
  ·simp only [List.length_cons] at h2 ⊢; omega
theorem firstT_slen (s : List UInt8) : (firstT s).1.s.length ≤ s.length + 1 := by
 unfold firstT
 split
 ·simp only [List.length_take]; omega
 ·split
  ·simp only [List.length_take]; omega
  ·cases s with
   | nil => simp
   | cons c r =>
    simp only
    split
    ·rw [quotedT_eq]
     cases h : endQ ((c :: r).drop 1) 1 with
     | none => simp [quotedOf]
     | some n =>
      simp only [quotedOf]
      have := unquoteS_len (((c :: r).take n).drop 1)
      rw [List.length_drop, List.length_take] at this
      omega
    ·simp
def cutRes : Option (List Tok) → List Tok × Int
 | none => ([], 2)
 | some l => (l, 0)
theorem tk_snoc (l : List Tok) (t : Tok) : (l ++ [t]).flatMap Tok.cells = l.flatMap Tok.cells ++ t.cells := by simp
theorem cutT_any (s : List UInt8) (w : World) (hs : s.length ≤ 900000) (hM : MaxL w) : Calls Tryz.prog 55 #[.string ⟨s.toArray⟩] w (RetTk (cutRes (cutT s)).1 (cutRes (cutT s)).2 w) := by
 obtain ⟨i0, hi0, zi0, zi1, zi2⟩ := info_parts infoTk
 obtain ⟨R, hR⟩ : ∃ R, cutT s = R := ⟨_, rfl⟩
 rw [hR]
 have HR : Hid (cutA s.length (s.drop 0) [] = R) := hR
 have HM := Lib.hid hM
 clear hM hR
 go_in
 go_wp2
 go_loopw [4, 5] (fun v i wr => ∃ (j n : Nat) (l : List Tok), j ≤ s.length ∧ s.length - j ≤ n ∧ l.length ≤ 400 ∧ i = .int .i64 j ∧ wr.ownsRow w.heap.size 128 2 v l.length (l.flatMap Tok.cells) ∧ Below w.heap.size w wr ∧ Hid (cutA n (s.drop j) l = R)) (fun _ i _ => s.length - (intOf i).toNat)
 case atStart => exact ⟨0, s.length, [], by omega, by omega, by simp, rfl, World.ownsRow_nil _ _ _ _, Below.refl _ _, HR⟩
 case round =>
  obtain ⟨j, n, l, hj, hn, hl, rfl, hown, hbr, HJ⟩ := hrel
  have hzr := hbr.size
  by_cases hlt : j < s.length
  ·obtain ⟨c, hc⟩ : ∃ c, s[j]? = some c := ⟨_, List.getElem?_eq_getElem hlt⟩
   have hcg : s[j] = c := by rw [List.getElem?_eq_getElem hlt] at hc; exact Option.some.inj hc
   have hdr : s.drop j = c :: s.drop (j + 1) := by rw [List.drop_eq_getElem_cons hlt, hcg]
   obtain ⟨n', rfl⟩ : ∃ n', n = n' + 1 := ⟨n - 1, by omega⟩
   have hJ := HJ.out
   rw [hdr] at hJ
   cases hb : blankB c
   ·have b1 : ((c.toNat : Int) == 32) = false := by
     rw [beq_eq_false_iff_ne]; intro e
     have : blankB c = true := by unfold blankB; simp [show c.toNat = 32 by omega]
     rw [this] at hb; cases hb
    have b2 : ((c.toNat : Int) == 10) = false := by
     rw [beq_eq_false_iff_ne]; intro e
     have : blankB c = true := by unfold blankB; simp [show c.toNat = 10 by omega]
     rw [this] at hb; cases hb
    have hJ2 : (if mayT (firstT (s.drop j)).1 && decide (l.length ≠ 400) then cutA n' ((s.drop j).drop (firstT (s.drop j)).2) (l ++ [(firstT (s.drop j)).1]) else none) = R := by
     rw [hdr, ← hJ]; simp [cutA, hb]
    have hdl : (s.drop j).length ≤ 1000000 := by rw [List.length_drop]; omega
    have hdp : 0 < (s.drop j).length := by rw [List.length_drop]; omega
    obtain ⟨hf1, hf2⟩ := firstT_le (s.drop j) hdp
    rw [List.length_drop] at hf1
    rw [List.drop_drop] at hJ2
    have HDL := Lib.hid hdl
    have HDP := Lib.hid hdp
    obtain ⟨F, hF⟩ : ∃ F, firstT (s.drop j) = F := ⟨_, rfl⟩
    rw [hF] at hJ2 hf1 hf2
    have HF := Lib.hid hF
    have HJ2 := Lib.hid hJ2
    have HF2 := Lib.hid hf2
    clear hb hJ hdr hc hJ2 hdl hdp hF hf2 HJ
    have hMr := HM.out.below hbr rfl
    go_wp2_with fail
    rw [show List.take (s.length - j) (List.drop j s) = s.drop j from List.take_of_length_le (by simp)]
    refine (firstT_any (s.drop j) _ HDL.out HDP.out hMr).mono ?_
    rw [HF.out]
    rintro e w1 ⟨rfl, hb1⟩
    have hfs : F.1.s.length ≤ 1000000 := by
     have := firstT_slen (s.drop j)
     rw [HF.out] at this
     rw [List.length_drop] at this
     omega
    obtain ⟨w2, hw2⟩ : ∃ w2, w1.alloc (.cells #[.int .i64 F.1.k, .string ⟨F.1.s.toArray⟩] 128) = w2 := ⟨_, rfl⟩
    have k2 : Blk w2 w1.heap.size 128 #[.int .i64 F.1.k, .string ⟨F.1.s.toArray⟩] := by rw [← hw2]; exact Blk.new _ _ _
    have hb12 : Below w1.heap.size w1 w2 := by rw [← hw2]; exact bl
    have hbr2 : Below wr.heap.size wr w2 := hb1.trans (hb12.mono hb1.size)
    have HW2 := Lib.hid hw2
    clear hw2 hb1 hMr
    have l2 := k2.lt
    obtain ⟨⟨y0, y1⟩, _⟩ := k2.two
    go_upto_region 7 with fail
    rw [HW2.out]
    clear HW2
    go_wp2_with fail
    refine (mayTok_any F.1.k F.1.s w2 hfs).mono ?_
    rintro e w3 ⟨rfl, hb3⟩
    have k3 := k2.below hb3 l2
    have l3 := k3.lt
    have hbr3 : Below wr.heap.size wr w3 := hbr2.trans (hb3.mono hbr2.size)
    have hbw3 : Below w.heap.size w w3 := hbr.trans (hbr3.mono hzr)
    have hz3 := hbw3.size
    have hown3 := own_below hown hbr3
    obtain ⟨A4, c4, hA4, hc1, hc2, _⟩ := TkS.own hown3
    clear y0 y1 hb12 k2 l2 hbr2 hb3 hown hfs
    obtain ⟨⟨y0, y1⟩, _⟩ := k3.two
    obtain ⟨m, hm⟩ : ∃ m, mayT ⟨F.1.k, F.1.s⟩ = m := ⟨_, rfl⟩
    rw [hm]
    have hmm : mayT F.1 = m := hm
    rw [hmm] at HJ2 HF2
    clear hm hmm
    subst hA4
    cases m
    ·have HJ3 : Hid (R = none) := by show _ = _; rw [← HJ2.out]; rfl
     clear HJ2 HF2
     go_wp2_with fail
     go_ret2
     rw [HJ3.out]
     exact ⟨none, 0, rfl, Nat.le_refl _, Nat.zero_le _, TkF.nil, hbw3⟩
    ·have hm1 := HF2.out rfl
     by_cases h400 : l.length = 400
     ·have e400 : ((l.length : Int) == 400) = true := by rw [h400]; rfl
      have HJ3 : Hid (R = none) := by show _ = _; rw [← HJ2.out]; simp [h400]
      clear HJ2 HF2 h400
      go_wp2_with fail
      go_ret2
      rw [HJ3.out]
      exact ⟨none, 0, rfl, Nat.le_refl _, Nat.zero_le _, TkF.nil, hbw3⟩
     ·have e400 : ((l.length : Int) == 400) = false := by rw [beq_eq_false_iff_ne]; omega
      have HJ3 : Hid (cutA n' (s.drop (j + F.2)) (l ++ [F.1]) = R) := by show _ = _; rw [← HJ2.out]; simp [h400]
      clear HJ2 HF2
      go_wp2_with (at_builtin; refine wpList_append_own _ rfl _ _ 91 rfl w.heap.size 128 i0 _ 2 24 Tryz.underlying91 hi0 zi0 zi1 zi2 rfl (by decide) _ _ _ rfl (hown3.alloc _) ⟨w3.heap.size, 0, none⟩ 1 1 F.1.cells rfl rfl ?c1 ?c2 ?c3 ?c4 ?c5 ?_)
      case c1 =>
       exact World.news_of_block (cs := #[.int .i64 F.1.k, .string ⟨F.1.s.toArray⟩]) (t := 128) (fr := (0, 0)) (heap_alloc_new w3 _)
      case c2 => exact fun u hu => tk_one [F.1] u (by simpa using hu)
      case c3 => unfold maxLen; omega
      case c4 => omega
      case c5 => simp; omega
      intro v' w4 hown4 hg4 _
      go_wp2
      go_roundw
      case rel =>
       refine ⟨j + F.2, n', l ++ [F.1], by omega, by omega, by simp; omega, by go_num, ?_, ?_, HJ3⟩
       ·rw [tk_snoc]
        simpa using hown4
       ·refine Below.grown (w := w3.alloc (.cells #[.int .i64 F.1.k, .string ⟨F.1.s.toArray⟩] 128)) ?_ hg4 (by simp; omega) (fun k hk => (hown3.lt k hk).1)
        exact bl
      case measure => simp [intOf]; omega
   ·have hJ2 : cutA n' (s.drop (j + 1)) l = R := by rw [← hJ]; simp [cutA, hb]
    have HJ2 := Lib.hid hJ2
    have b0 : ((c.toNat : Int) == 32) = true ∨ (((c.toNat : Int) == 32) = false ∧ ((c.toNat : Int) == 10) = true) := by
     unfold blankB at hb
     simp only [Bool.or_eq_true, beq_iff_eq] at hb ⊢
     rcases hb with h | h
     ·left; omega
     ·right; exact ⟨by rw [beq_eq_false_iff_ne]; omega, by omega⟩
    clear hb hJ hJ2 hdr hc HJ
    rcases b0 with b1 | ⟨b1, b2⟩
    all_goals
     go_wp2_with fail
     go_roundw
     case rel => exact ⟨j + 1, n', l, by omega, by omega, hl, by go_num, hown, hbr, HJ2⟩
     case measure => simp [intOf]; omega
  ·have hd : s.drop j = [] := List.drop_of_length_le (by omega)
   have hJ := HJ.out
   rw [hd] at hJ
   have HJ2 : Hid (R = some l) := by show _ = _; rw [← hJ]; cases n <;> rfl
   have hb : ¬ (j : Int) < (s.length : Int) := by omega
   clear hJ hd HJ
   go_wp2_with fail
   go_ret2
   obtain ⟨A, c, rfl, h1, h2, h3⟩ := TkS.own hown
   rw [HJ2.out]
   exact ⟨A, c, rfl, h1, h2, h3, hbr⟩
end Go.Proofs.YtchilcchogcibaaGreatDoor
namespace Go.Proofs.YtchilcchogcibaaGreatDoor
open Go.RowKit
def cutU : Nat → List UInt8 → Option (List Tok)
 | _, [] => some []
 | 0, _ :: _ => none
 | n + 1, c :: r => if blankB c then cutU n r else if mayT (firstT (c :: r)).1 then (cutU n ((c :: r).drop (firstT (c :: r)).2)).map ((firstT (c :: r)).1 :: ·) else none
def lim (l : Option (List Tok)) : Option (List Tok) := l.bind fun t => if t.length ≤ 400 then some t else none
theorem cutA_cutU : ∀ (n : Nat) (s : List UInt8) (l : List Tok), l.length ≤ 400 → cutA n s l = (cutU n s).bind fun t => if l.length + t.length ≤ 400 then some (l ++ t) else none
 | n, [], l, hl => by
  have h1 : cutA n [] l = some l := by cases n <;> rfl
  have h2 : cutU n [] = some [] := by cases n <;> rfl
  rw [h1, h2]; simp [hl]
 | 0, _ :: _, l, _ => rfl
 | n + 1, c :: r, l, hl => by
  unfold cutA cutU
  cases hb : blankB c
  ·simp only [Bool.false_eq_true, if_false]
   cases hm : mayT (firstT (c :: r)).1
   ·simp
   ·by_cases h4 : l.length = 400
    ·simp only [h4, ne_eq, not_true_eq_false, decide_false, Bool.and_false, Bool.false_eq_true, if_false, if_true]
     cases cutU n ((c :: r).drop (firstT (c :: r)).2) with
     | none => rfl
     | some t => simp
    ·have h5 : decide (l.length ≠ 400) = true := by simpa using h4
     simp only [h5, Bool.and_true, if_true]
     rw [cutA_cutU n _ (l ++ [(firstT (c :: r)).1]) (by simp; omega)]
     cases cutU n ((c :: r).drop (firstT (c :: r)).2) with
     | none => rfl
     | some t =>
      simp only [Option.map_some, Option.bind_some, List.length_append, List.length_cons, List.length_nil, List.append_assoc, List.cons_append, List.nil_append]
      congr 1
      rw [show l.length + (0 + 1) + t.length = l.length + (t.length + 1) by omega]
  ·simp only [if_true]
   exact cutA_cutU n r l hl
theorem cutU_fuel : ∀ (n m : Nat) (s : List UInt8), s.length ≤ n → s.length ≤ m → cutU n s = cutU m s
 | n, m, [], _, _ => by cases n <;> cases m <;> rfl
 | 0, _, _ :: _, h, _ => by simp at h
 | _ + 1, 0, _ :: _, _, h => by simp at h
 | n + 1, m + 1, c :: r, h1, h2 => by
  simp only [List.length_cons] at h1 h2
  unfold cutU
  cases hb : blankB c
  ·simp only [Bool.false_eq_true, if_false]
   cases hm : mayT (firstT (c :: r)).1
   ·simp
   ·simp only [if_true]
    have hge := (firstT_le (c :: r) (by simp)).2 hm
    have hl : ((c :: r).drop (firstT (c :: r)).2).length ≤ r.length := by rw [List.length_drop, List.length_cons]; omega
    rw [cutU_fuel n m _ (by omega) (by omega)]
  ·simp only [if_true]
   exact cutU_fuel n m r (by omega) (by omega)
def toks (s : List UInt8) : Option (List Tok) := cutU s.length s
theorem cutT_toks (s : List UInt8) : cutT s = lim (toks s) := by
 unfold cutT toks lim
 rw [cutA_cutU _ _ _ (by simp)]
 simp
theorem toks_nil : toks [] = some [] := rfl
theorem toks_blank (c : UInt8) (r : List UInt8) (h : blankB c = true) : toks (c :: r) = toks r := by
 unfold toks
 rw [List.length_cons]
 conv => lhs; unfold cutU
 rw [h]; rfl
theorem toks_tok (c : UInt8) (r : List UInt8) (h : blankB c = false) (hm : mayT (firstT (c :: r)).1 = true) : toks (c :: r) = (toks ((c :: r).drop (firstT (c :: r)).2)).map ((firstT (c :: r)).1 :: ·) := by
 have hge := (firstT_le (c :: r) (by simp)).2 hm
 unfold toks
 rw [List.length_cons]
 conv => lhs; unfold cutU
 rw [h, hm]
 simp only [Bool.false_eq_true, if_false, if_true]
 rw [cutU_fuel r.length ((c :: r).drop (firstT (c :: r)).2).length _ (by rw [List.length_drop, List.length_cons]; omega) (Nat.le_refl _)]
theorem toks_bad (c : UInt8) (r : List UInt8) (h : blankB c = false) (hm : mayT (firstT (c :: r)).1 = false) : toks (c :: r) = none := by
 unfold toks
 rw [List.length_cons]
 conv => lhs; unfold cutU
 rw [h, hm]; rfl
def Gap (t : List UInt8) : Prop := t = [] ∨ ∃ b r, t = b :: r ∧ blankB b = true
theorem blank_cases {b : UInt8} (h : blankB b = true) : b.toNat = 32 ∨ b.toNat = 10 := by
 unfold blankB at h
 simp only [Bool.or_eq_true, beq_iff_eq] at h
 exact h
theorem blank_not_part {b : UInt8} (h : blankB b = true) : partB b = false ∧ letB b = false ∧ digB b = false := by
 rcases blank_cases h with e | e <;> (unfold partB letB digB; rw [e]; decide)
theorem takeWhile_gap (g : UInt8 → Bool) (r t : List UInt8) (ht : t = [] ∨ ∃ b q, t = b :: q ∧ g b = false) : ((r ++ t).takeWhile g).length = (r.takeWhile g).length := by
 induction r with
 | nil =>
  rcases ht with rfl | ⟨b, q, rfl, hb⟩
  ·rfl
  ·simp [hb]
 | cons c r ih =>
  rw [List.cons_append, List.takeWhile_cons, List.takeWhile_cons]
  split
  ·simp [ih]
  ·rfl
theorem lenRun_gap (f g : UInt8 → Bool) (s t : List UInt8) (h0 : 0 < s.length) (ht : t = [] ∨ ∃ b q, t = b :: q ∧ g b = false) : lenRun f g (s ++ t) = lenRun f g s := by
 cases s with
 | nil => simp at h0
 | cons c r =>
  show (if f c then 1 + ((r ++ t).takeWhile g).length else 0) = (if f c then 1 + (r.takeWhile g).length else 0)
  rw [takeWhile_gap g r t ht]
theorem endQ_app : ∀ (s t : List UInt8) (n k : Nat), (t = [] ∨ ∃ b q, t = b :: q ∧ ¬ b.toNat = 39) → endQ s n = some k → endQ (s ++ t) n = some k
 | [], t, n, k, _, h => by simp [endQ] at h
 | [c], t, n, k, ht, h => by
  rcases ht with rfl | ⟨b, q, rfl, hb⟩
  ·exact h
  ·unfold endQ at h
   split at h
   ·rename_i hc
    cases h
    simp [endQ, hc, hb]
   ·cases h
 | c :: d :: r, t, n, k, ht, h => by
  rw [List.cons_append, List.cons_append]
  unfold endQ at h ⊢
  by_cases hc : c.toNat = 39
  ·rw [if_pos hc] at h ⊢
   by_cases hd : d.toNat = 39
   ·rw [if_pos hd] at h ⊢
    exact endQ_app r t (n + 2) k ht h
   ·rw [if_neg hd] at h ⊢
    exact h
  ·rw [if_neg hc] at h ⊢
   exact endQ_app (d :: r) t (n + 1) k ht h
theorem Gap.run {t : List UInt8} (h : Gap t) : (t = [] ∨ ∃ b q, t = b :: q ∧ partB b = false) ∧ (t = [] ∨ ∃ b q, t = b :: q ∧ digB b = false) ∧ (t = [] ∨ ∃ b q, t = b :: q ∧ ¬ b.toNat = 39) := by
 rcases h with rfl | ⟨b, r, rfl, hb⟩
 ·exact ⟨.inl rfl, .inl rfl, .inl rfl⟩
 ·obtain ⟨h1, _, h3⟩ := blank_not_part hb
  exact ⟨.inr ⟨b, r, rfl, h1⟩, .inr ⟨b, r, rfl, h3⟩, .inr ⟨b, r, rfl, by rcases blank_cases hb with e | e <;> omega⟩⟩
theorem endQ_quote (t : List UInt8) (ht : t = [] ∨ ∃ b q, t = b :: q ∧ ¬ b.toNat = 39) : ∀ (s : List UInt8) (n : Nat), endQ (quoteS s ++ 39 :: t) n = some (n + (quoteS s).length)
 | [], n => by
  rcases ht with rfl | ⟨b, q, rfl, hb⟩
  ·simp [quoteS, endQ]
  ·simp [quoteS, endQ, hb]
 | c :: r, n => by
  by_cases hc : c = 39
  ·subst hc
   have e : quoteS (39 :: r) = 39 :: 39 :: quoteS r := by simp [quoteS]
   rw [e]
   have ih := endQ_quote t ht r (n + 2)
   simp only [List.cons_append, List.length_cons]
   show endQ (39 :: 39 :: (quoteS r ++ 39 :: t)) n = _
   unfold endQ
   rw [if_pos (by rfl), if_pos (by rfl), ih]
   congr 1; omega
  ·have e : quoteS (c :: r) = c :: quoteS r := by simp [quoteS, hc]
   have hn : ¬ c.toNat = 39 := fun h => hc (UInt8.toNat_inj.1 h)
   rw [e]
   have ih := endQ_quote t ht r (n + 1)
   simp only [List.cons_append, List.length_cons]
   cases hq : quoteS r ++ 39 :: t with
   | nil => simp at hq
   | cons d q =>
    rw [hq] at ih
    unfold endQ
    rw [if_neg hn, ih]
    congr 1; omega
def writ (s : List UInt8) : List UInt8 := [39] ++ quoteS s ++ [39]
theorem firstT_writ (s t : List UInt8) (ht : Gap t) : firstT (writ s ++ t) = (⟨3, s⟩, (writ s).length) := by
 have hw : writ s ++ t = 39 :: (quoteS s ++ 39 :: t) := by simp [writ]
 rw [hw]
 unfold firstT
 have l1 : lenRun letB partB (39 :: (quoteS s ++ 39 :: t)) = 0 := rfl
 have l2 : lenRun digB digB (39 :: (quoteS s ++ 39 :: t)) = 0 := rfl
 rw [l1, l2]
 simp only [Nat.lt_irrefl, if_false]
 rw [if_pos (by rfl), quotedT_eq]
 have he : endQ ((39 :: (quoteS s ++ 39 :: t)).drop 1) 1 = some (1 + (quoteS s).length) := endQ_quote t ht.run.2.2 s 1
 rw [he]
 simp only [quotedOf]
 have h1 : ((39 :: (quoteS s ++ 39 :: t)).take (1 + (quoteS s).length)).drop 1 = quoteS s := by
  rw [Nat.add_comm, List.take_succ_cons, List.drop_succ_cons, List.drop_zero, List.take_left']
  rfl
 rw [h1, unquote_quote]
 congr 1
 simp [writ]
 omega
theorem toks_writ (s t : List UInt8) (ht : Gap t) (hm : mayB 2 0 s = true) : toks (writ s ++ t) = (toks t).map (⟨3, s⟩ :: ·) := by
 have hf := firstT_writ s t ht
 have hw : writ s ++ t = 39 :: (quoteS s ++ [39] ++ t) := by simp [writ]
 have hd : (writ s ++ t).drop (writ s).length = t := by simp
 rw [hw] at hf hd ⊢
 rw [toks_tok 39 _ (by decide) (by rw [hf]; exact hm), hf]
 simp only
 rw [hd]
end Go.Proofs.YtchilcchogcibaaGreatDoor
