/- The document's Parse of a text between signs, and of whatever text. Condition: a text that memory reaches. -/
import Derived.Test.YtdoonajhplcmlaaDoorRef1ParseN
namespace Go.Proofs.YtdoonajhplcmlaaDoor
open Go.RowKit

attribute [local go_sem] ByteArray.extract_mk ba_get ba_append
attribute [local go_sem ↓] Go.wp_at_zero Go.wp_at_succ

/-- What the document's Parse makes of what stands between the signs. -/
def refUnq : List UInt8 → List UInt8
  | [] => []
  | [c] => [c]
  | c :: d :: r => c :: (if c.toNat = 39 then refUnq r else refUnq (d :: r))
theorem refUnq_step (M : List UInt8) (p : Nat) (c : UInt8) (h : M[p]? = some c) : refUnq (M.drop p) = c :: refUnq (M.drop (if c.toNat = 39 then p + 2 else p + 1)) := by
  obtain ⟨hp, he⟩ := List.getElem?_eq_some_iff.1 h
  rw [List.drop_eq_getElem_cons hp, he]
  by_cases h2 : p + 1 < M.length
  · rw [List.drop_eq_getElem_cons h2]
    show c :: (if c.toNat = 39 then refUnq (M.drop (p + 1 + 1)) else refUnq (M[p + 1] :: M.drop (p + 1 + 1))) = _
    by_cases hc : c.toNat = 39
    · rw [if_pos hc, if_pos hc]
    · rw [if_neg hc, if_neg hc, List.drop_eq_getElem_cons h2]
  · have e1 : M.drop (p + 1) = [] := List.drop_of_length_le (by omega)
    have e2 : M.drop (if c.toNat = 39 then p + 2 else p + 1) = [] := List.drop_of_length_le (by split <;> omega)
    rw [e1, e2]; rfl
theorem refUnq_quote : ∀ s : List UInt8, refUnq (quoteS s) = s
  | [] => rfl
  | c :: r => by
    have ih := refUnq_quote r
    unfold quoteS
    by_cases hc : c = 39
    · subst hc
      simp [refUnq, ih]
    · have hn : ¬ c.toNat = 39 := fun e => hc (UInt8.toNat_inj.1 e)
      have hq : quoteS (c :: r) = c :: quoteS r := by simp [quoteS, hc]
      rw [← quoteS, hq]
      cases hr : quoteS r with
      | nil => rw [hr] at ih; rw [← ih]; rfl
      | cons d t => rw [hr] at ih; simp only [refUnq, hn, if_false]; rw [ih]
theorem quote_only {M : List UInt8} {v : V} (h : parses (39 :: (M ++ [39])) v) : v = ⟨2, 0, refUnq M⟩ := by
  obtain ⟨h1, h2, h3⟩ := h
  obtain ⟨k, i, s⟩ := v
  have hm : mayB k i s = true := h1
  simp only at h3
  rcases may_kinds hm with ⟨rfl, rfl, rfl⟩ | ⟨rfl, rfl⟩ | ⟨rfl, rfl, _, _⟩ | ⟨rfl, hi, rfl⟩
  · rw [show textF 0 0 [] = [78, 85, 76, 76] by decide +kernel] at h3
    injection h3 with a b
    exact absurd a (by decide)
  · unfold textF at h3
    rw [hm] at h3
    simp only [if_true] at h3
    unfold Lib.itoa at h3
    split at h3
    · injection h3 with a b; cases a
    · obtain ⟨c, r, e, g1, g2⟩ := dec_cons i.toNat
      rw [e] at h3
      injection h3 with a b
      subst a
      exact absurd g1 (by decide)
  · unfold textF at h3
    rw [hm] at h3
    have h4 : (39 : UInt8) :: (quoteS s ++ [39]) = 39 :: (M ++ [39]) := by simpa using h3
    injection h4 with _ h5
    have h6 := List.append_cancel_right h5
    rw [← h6, refUnq_quote]
  · rcases hi with rfl | rfl
    · rw [show textF 3 0 [] = [70, 65, 76, 83, 69] by decide +kernel] at h3
      injection h3 with a b
      exact absurd a (by decide)
    · rw [show textF 3 1 [] = [84, 82, 85, 69] by decide +kernel] at h3
      injection h3 with a b
      exact absurd a (by decide)
theorem retQ_text {M : List UInt8} {w w' : World} (hb : Below w.heap.size w w') : RetQ (39 :: (M ++ [39])) w (.returned (.tuple #[.agg #[.int .i64 ((⟨2, 0, refUnq M⟩ : V)).k, .int .i64 ((⟨2, 0, refUnq M⟩ : V)).i, .string ⟨((⟨2, 0, refUnq M⟩ : V)).s.toArray⟩], .bool (textF 2 0 (refUnq M) == 39 :: (M ++ [39]))])) w' := by
  cases hq : textF 2 0 (refUnq M) == 39 :: (M ++ [39])
  · refine retQ_no (fun v hv => ?_) hb
    have e := quote_only hv
    subst e
    have h3 : textF 2 0 (refUnq M) = _ := hv.2.2
    rw [h3] at hq
    simp at hq
  · have ht : textF 2 0 (refUnq M) = 39 :: (M ++ [39]) := by simpa using hq
    have hm : mayB 2 0 (refUnq M) = true := by
      cases q : mayB 2 0 (refUnq M)
      · unfold textF at ht; rw [q] at ht; cases ht
      · rfl
    exact retQ_yes ⟨hm, ⟨by show (-9223372036854775808 : Int) ≤ 0; omega, by show (0 : Int) ≤ 9223372036854775807; omega⟩, ht⟩ hb

set_option maxRecDepth 100000 in
set_option maxHeartbeats 4000000 in
theorem rparse_quote (S M : List UInt8) (w : World) (hs : S.length ≤ 1000000) (hS : Hid (S = 39 :: (M ++ [39]))) : Calls Tryd.prog 39 #[.string ⟨S.toArray⟩] w (RetQ S w) := by
  have a0 : ([78, 85, 76, 76] == S) = false := by rw [hS.out]; simp
  have a1 : ([70, 65, 76, 83, 69] == S) = false := by rw [hS.out]; simp
  have a2 : ([84, 82, 85, 69] == S) = false := by rw [hS.out]; simp
  have hlen : S.length = M.length + 2 := by rw [hS.out]; simp
  have h2 : 2 ≤ S.length := by omega
  have l0 : w.heap.size < w.heap.size + 1 + 1 := by omega
  have HL := Lib.hid hlen
  clear hlen
  go_enter Tryd.func39, Tryd.ntmps39
  go_wp2_with fail
  refine wp_loop_rounds 4 ?_
  rw [rounds_succ]
  go_wp2_with fail
  refine (rtext0_any _).mono ?_
  rintro e w1 ⟨rfl, hb1⟩
  have hz1 := hb1.size
  obtain ⟨hc1, hf1⟩ := bcell hb1
  simp at hz1 hc1 hf1
  have l1 : w.heap.size < w1.heap.size := by omega
  have l2 : w.heap.size + 1 < w1.heap.size := by omega
  go_wp2_with fail
  rw [rounds_succ]
  go_wp2_with fail
  refine (rtext3_any false _).mono ?_
  rintro e w2 ⟨rfl, hb2⟩
  have hz2 := hb2.size
  obtain ⟨hc2, hf2⟩ := bcell hb2
  have l3 : w.heap.size < w2.heap.size := by omega
  have l4 : w.heap.size + 1 < w2.heap.size := by omega
  go_wp2_with fail
  rw [rounds_succ]
  go_wp2_with fail
  refine (rtext3_any true _).mono ?_
  rintro e w3 ⟨rfl, hb3⟩
  have hz3 := hb3.size
  obtain ⟨hc3, hf3⟩ := bcell hb3
  have l5 : w.heap.size < w3.heap.size := by omega
  have l6 : w.heap.size + 1 < w3.heap.size := by omega
  go_wp2_with fail
  rw [rounds_succ]
  go_upto_region 8 with fail
  refine wp_forget (fun wx => Blk wx w.heap.size 23 #[.int .i64 0, .int .i64 0, .string ⟨#[]⟩] ∧ Blk wx w3.heap.size 23 #[.int .i64 2, .int .i64 0, .string ⟨#[]⟩] ∧ Below w.heap.size w wx) ⟨by ((repeat' (first | with_reducible assumption | with_reducible refine Blk.drew ?_ | with_reducible refine Blk.drewN ?_ _ | with_reducible refine Blk.set3 ?_ _ _ _ | with_reducible refine Blk.far ?_ ?_ _ | ((with_reducible refine Blk.new' _ _ _ _ ?_) <;> (first | (simp; done) | (simp; omega) | omega) <;> done) | with_reducible refine Blk.alloc ?_ _ | with_reducible refine Blk3.drew ?_ | with_reducible refine Blk3.drewN ?_ _ | ((with_reducible refine Blk3.new' _ _ _ _ _ _ ?_) <;> (first | (simp; done) | (simp; omega) | omega) <;> done) | with_reducible refine Blk3.alloc ?_ _ | with_reducible refine Blk3.far ?_ ?_ _ | with_reducible refine Blk3.below ?_ (by assumption) ?_ | with_reducible refine Blk.below ?_ (by assumption) ?_)) <;> (first | (simp; done) | (simp; omega) | omega)), by ((repeat' (first | with_reducible assumption | with_reducible refine Blk.drew ?_ | with_reducible refine Blk.drewN ?_ _ | with_reducible refine Blk.set3 ?_ _ _ _ | with_reducible refine Blk.far ?_ ?_ _ | ((with_reducible refine Blk.new' _ _ _ _ ?_) <;> (first | (simp; done) | (simp; omega) | omega) <;> done) | with_reducible refine Blk.alloc ?_ _ | with_reducible refine Blk3.drew ?_ | with_reducible refine Blk3.drewN ?_ _ | ((with_reducible refine Blk3.new' _ _ _ _ _ _ ?_) <;> (first | (simp; done) | (simp; omega) | omega) <;> done) | with_reducible refine Blk3.alloc ?_ _ | with_reducible refine Blk3.far ?_ ?_ _ | with_reducible refine Blk3.below ?_ (by assumption) ?_ | with_reducible refine Blk.below ?_ (by assumption) ?_)) <;> (first | (simp; done) | (simp; omega) | omega)), by ((repeat' (first | with_reducible exact Below.refl _ _ | with_reducible assumption | with_reducible refine Below.drew ?_ | with_reducible refine below_drewN ?_ _ | with_reducible refine Below.setCell ?_ ?_ _ | with_reducible refine Below.alloc ?_ ?_ _ | with_reducible refine Below.trans ?_ (Below.mono (by assumption) ?_))) <;> (first | (simp; done) | (simp; omega) | omega))⟩ ?_
  rintro W ⟨hR, hV, hbw⟩
  clear hb1 hb2 hb3 hc1 hc2 hc3 hf1 hf2 hf3 a0 a1 a2
  generalize w3.heap.size = g at *
  have lg := hV.lt
  have lr := hR.lt
  have ng : w.heap.size ≠ g := by omega
  have lg2 : w.heap.size < g := by omega
  go_cut [46] (fun s46 wx => s46 = .bool true ∧ wx = W)
  case first =>
    have t0 : 0 < S.length := by omega
    have t1 : ((S[0].toNat : Int) == 39) = true := by simp only [hS.out]; rfl
    have t2 : ((S[S.length - 1].toNat : Int) == 39) = true := by
      have : S[S.length - 1] = 39 := by
        simp only [hS.out]
        simp
      rw [this]; rfl
    go_wp2_with fail
    go_meet
    exact ⟨rfl, rfl⟩
  case rest =>
    obtain ⟨rfl, rfl⟩ := hcut
    obtain ⟨U, hU⟩ : ∃ U, refUnq M = U := ⟨_, rfl⟩
    have HU := Lib.hid hU
    clear hU
    go_wp2_with fail
    go_loopw [7] (fun t wr => ∃ (p : Nat) (acc : List UInt8), t = .int .i64 ((p : Int) + 1) ∧ p ≤ M.length + 1 ∧ acc.length ≤ p ∧ Blk wr w.heap.size 23 #[.int .i64 0, .int .i64 0, .string ⟨#[]⟩] ∧ Blk wr g 23 #[.int .i64 2, .int .i64 0, .string ⟨acc.toArray⟩] ∧ Below w.heap.size w wr ∧ Hid (acc ++ refUnq (M.drop p) = U)) (fun t _ => S.length - (intOf t).toNat)
    case atStart => exact ⟨0, [], rfl, by omega, by simp, hR, hV, hbw, HU.out⟩
    case round =>
      obtain ⟨p, acc, rfl, hp, hal, kR, kV, kb, HA⟩ := hrel
      have hlen := HL.out
      obtain ⟨⟨y0, y1, y2⟩, yf0, yf1, yf2⟩ := kV.three
      obtain ⟨⟨z0, z1, z2⟩, zf0, zf1, zf2⟩ := kR.three
      have lk := kV.lt
      have lk2 := kR.lt
      have kb2 := kb.size
      by_cases hlt : p < M.length
      · have b0 : (p : Int) + 1 < (S.length : Int) - 1 := by omega
        have b1 : p + 1 < S.length := by omega
        obtain ⟨c, hc⟩ : ∃ c, M[p]? = some c := ⟨_, List.getElem?_eq_getElem hlt⟩
        have hSc : S[p + 1]? = some c := by rw [hS.out, List.getElem?_cons_succ, List.getElem?_append_left hlt, hc]
        have hSg : S[p + 1] = c := by rw [List.getElem?_eq_getElem b1] at hSc; exact Option.some.inj hSc
        have hstep := refUnq_step M p c hc
        have hb : (p : Int) + 1 + 1 ≤ (S.length : Int) := by omega
        have HST := Lib.hid hstep
        have HSG := Lib.hid hSg
        clear hstep hSc hc hSg hlen
        obtain ⟨wv, rfl⟩ : ∃ wv, wv = wr := ⟨_, rfl⟩
        go_upto_region 12 with fail
        go_region
        have htk : List.take 1 (List.drop (p + 1) S) = [c] := by rw [List.drop_eq_getElem_cons b1, HSG.out]; rfl
        rw [htk]
        clear htk
        have kV2 := (kV.set_ 2 (.string ⟨(acc ++ [c]).toArray⟩)).drew
        have kR2 := (kR.far (p := ⟨g, 2, none⟩) ng (.string ⟨(acc ++ [c]).toArray⟩)).drew
        have kb3 : Below w.heap.size w (wv.setCell ⟨g, 2, none⟩ (.string ⟨(acc ++ [c]).toArray⟩)).drew := by ((repeat' (first | with_reducible exact Below.refl _ _ | with_reducible assumption | with_reducible refine Below.drew ?_ | with_reducible refine below_drewN ?_ _ | with_reducible refine Below.setCell ?_ ?_ _ | with_reducible refine Below.alloc ?_ ?_ _ | with_reducible refine Below.trans ?_ (Below.mono (by assumption) ?_))) <;> (first | (simp; done) | (simp; omega) | omega))
        have hnx : ∀ q, q = (if c.toNat = 39 then p + 2 else p + 1) → (acc ++ [c]) ++ refUnq (M.drop q) = U := by
          intro q hq
          rw [← HA.out, HST.out, hq]; simp
        have HNX := Lib.hid hnx
        have b4 : (p : Int) + 1 < (S.length : Int) := by omega
        clear hnx y0 y1 y2 yf0 yf1 yf2 z0 z1 z2 zf0 zf1 zf2 kV kR kb
        by_cases h39 : c.toNat = 39
        · have t1 : ((S[p + 1].toNat : Int) == 39) = true := by rw [HSG.out, h39]; rfl
          rw [show (if c.toNat = 39 then p + 2 else p + 1) = p + 2 from if_pos h39] at HNX
          clear h39
          go_wp2_with fail
          go_roundw
          case rel => exact ⟨p + 2, acc ++ [c], by go_num, by omega, by simp; omega, kR2, kV2, kb3, HNX.out _ rfl⟩
          case measure => simp [intOf]; omega
        · have t1 : ((S[p + 1].toNat : Int) == 39) = false := by rw [HSG.out, beq_eq_false_iff_ne]; omega
          rw [show (if c.toNat = 39 then p + 2 else p + 1) = p + 1 from if_neg h39] at HNX
          clear h39
          go_wp2_with fail
          go_roundw
          case rel => exact ⟨p + 1, acc ++ [c], by go_num, by omega, by simp; omega, kR2, kV2, kb3, HNX.out _ rfl⟩
          case measure => simp [intOf]; omega
      · have b0 : ¬ ((p : Int) + 1 < (S.length : Int) - 1) := by omega
        have hd : M.drop p = [] := List.drop_of_length_le (by omega)
        have hau : acc = refUnq M := by
          have := HA.out
          rw [hd] at this
          rw [HU.out, ← this]
          simp [refUnq]
        have hsm : acc.length ≤ 1000000 := by omega
        clear hlen hd HA HU
        subst hau
        obtain ⟨wv, rfl⟩ : ∃ wv, wv = wr := ⟨_, rfl⟩
        have HSH : Hid (∀ w' : World, Below wv.heap.size wv w' → (w'.cell? ⟨g, 0, none⟩ = some (.int .i64 ((⟨2, 0, refUnq M⟩ : V)).k) ∧ w'.cell? ⟨g, 1, none⟩ = some (.int .i64 ((⟨2, 0, refUnq M⟩ : V)).i) ∧ w'.cell? ⟨g, 2, none⟩ = some (.string ⟨((⟨2, 0, refUnq M⟩ : V)).s.toArray⟩))) := fun w' h => (kV.below h kV.lt).three.1
        have HMS := Lib.hid hS.out
        go_upto_region 15 with fail
        refine wp_region_held_drew (S := (fun w' => w'.cell? ⟨g, 0, none⟩ = some (.int .i64 ((⟨2, 0, refUnq M⟩ : V)).k) ∧ w'.cell? ⟨g, 1, none⟩ = some (.int .i64 ((⟨2, 0, refUnq M⟩ : V)).i) ∧ w'.cell? ⟨g, 2, none⟩ = some (.string ⟨((⟨2, 0, refUnq M⟩ : V)).s.toArray⟩))) (by kernel_rfl) ?_ (fun hHeld => ?_)
        · try dsimp only
          first | (refine HSH.out _ ?_; ((repeat' (first | with_reducible exact Below.refl _ _ | with_reducible assumption | with_reducible refine Below.drew ?_ | with_reducible refine below_drewN ?_ _ | with_reducible refine Below.setCell ?_ ?_ _ | with_reducible refine Below.alloc ?_ ?_ _ | with_reducible refine Below.trans ?_ (Below.mono (by assumption) ?_))) <;> (first | (simp; done) | (simp; omega) | omega))) | (refine (fun (h : Blk _ g 23 #[.int .i64 2, .int .i64 0, .string ⟨(refUnq M).toArray⟩]) => h.three.1) ?_; ((repeat' (first | with_reducible assumption | with_reducible refine Blk.drew ?_ | with_reducible refine Blk.drewN ?_ _ | with_reducible refine Blk.set3 ?_ _ _ _ | with_reducible refine Blk.far ?_ ?_ _ | ((with_reducible refine Blk.new' _ _ _ _ ?_) <;> (first | (simp; done) | (simp; omega) | omega) <;> done) | with_reducible refine Blk.alloc ?_ _ | with_reducible refine Blk3.drew ?_ | with_reducible refine Blk3.drewN ?_ _ | ((with_reducible refine Blk3.new' _ _ _ _ _ _ ?_) <;> (first | (simp; done) | (simp; omega) | omega) <;> done) | with_reducible refine Blk3.alloc ?_ _ | with_reducible refine Blk3.far ?_ ?_ _ | with_reducible refine Blk3.below ?_ (by assumption) ?_ | with_reducible refine Blk.below ?_ (by assumption) ?_)) <;> (first | (simp; done) | (simp; omega) | omega)))
        refine wpAnyH_take (i := 0) (v := ?_) rfl (by kernel_rfl) (by kernel_rfl) (by kernel_rfl) (fun _ _ _ h => h) (Or.inl ⟨by rfl, ?_⟩) (by assumption) ?_
        rotate_left
        · intro wq hSw
          try dsimp only at hSw
          go_simp
          try with_reducible rfl
        try simp only [Act.put, List.getElem_toArray, List.getElem_cons_zero, List.setIfInBounds_toArray, List.set_cons_zero, List.set_cons_succ]
        refine wpAnyH_take (i := 1) (v := ?_) rfl (by kernel_rfl) (by kernel_rfl) (by kernel_rfl) (fun _ _ _ h => h) (Or.inl ⟨by rfl, ?_⟩) (by assumption) ?_
        rotate_left
        · intro wq hSw
          try dsimp only at hSw
          go_simp
          try with_reducible rfl
        try simp only [Act.put, List.getElem_toArray, List.getElem_cons_zero, List.getElem_cons_succ, List.setIfInBounds_toArray, List.set_cons_zero, List.set_cons_succ]
        refine wpAnyH_take (i := 3) (v := ?_) rfl (by kernel_rfl) (by kernel_rfl) (by kernel_rfl) (fun _ _ _ h => h) (Or.inl ⟨by rfl, ?_⟩) (by assumption) ?_
        rotate_left
        · intro wq hSw
          try dsimp only at hSw
          go_simp
          try with_reducible rfl
        try simp only [Act.put, List.getElem_toArray, List.getElem_cons_zero, List.getElem_cons_succ, List.setIfInBounds_toArray, List.set_cons_zero, List.set_cons_succ]
        refine wpAnyH_ready (rs := [2]) (by kernel_rfl) (by simp) ?_
        refine AllReadyH.cons rfl (fun K hK => ?_) AllReadyH.nil
        go_simp
        refine (rtext_any 2 0 (refUnq M) _ (by omega) (by omega) (by omega)).mono ?_ <;> rintro e w5 ⟨rfl, hb5⟩ <;> have hz5 := hb5.size <;> obtain ⟨⟨n0, n1, n2⟩, m0, m1, m2⟩ := (Blk.below kR.drew hb5 lk2).three
        go_wp2_with fail
        refine hK.out _ _ ?_ (fun hHeld => ?_)
        · try dsimp only
          first | (refine HSH.out _ ?_; ((repeat' (first | with_reducible exact Below.refl _ _ | with_reducible assumption | with_reducible refine Below.drew ?_ | with_reducible refine below_drewN ?_ _ | with_reducible refine Below.setCell ?_ ?_ _ | with_reducible refine Below.alloc ?_ ?_ _ | with_reducible refine Below.trans ?_ (Below.mono (by assumption) ?_))) <;> (first | (simp; done) | (simp; omega) | omega))) | (refine (fun (h : Blk _ g 23 #[.int .i64 2, .int .i64 0, .string ⟨(refUnq M).toArray⟩]) => h.three.1) ?_; ((repeat' (first | with_reducible assumption | with_reducible refine Blk.drew ?_ | with_reducible refine Blk.drewN ?_ _ | with_reducible refine Blk.set3 ?_ _ _ _ | with_reducible refine Blk.far ?_ ?_ _ | ((with_reducible refine Blk.new' _ _ _ _ ?_) <;> (first | (simp; done) | (simp; omega) | omega) <;> done) | with_reducible refine Blk.alloc ?_ _ | with_reducible refine Blk3.drew ?_ | with_reducible refine Blk3.drewN ?_ _ | ((with_reducible refine Blk3.new' _ _ _ _ _ _ ?_) <;> (first | (simp; done) | (simp; omega) | omega) <;> done) | with_reducible refine Blk3.alloc ?_ _ | with_reducible refine Blk3.far ?_ ?_ _ | with_reducible refine Blk3.below ?_ (by assumption) ?_ | with_reducible refine Blk.below ?_ (by assumption) ?_)) <;> (first | (simp; done) | (simp; omega) | omega)))
        clear hK K
        try simp only [Act.put, List.getElem_toArray, List.getElem_cons_zero, List.getElem_cons_succ, List.setIfInBounds_toArray, List.set_cons_zero, List.set_cons_succ]
        refine wpAnyH_take (i := 4) (v := ?_) rfl (by kernel_rfl) (by kernel_rfl) (by kernel_rfl) (fun _ _ _ h => h) (Or.inl ⟨by rfl, ?_⟩) (by assumption) ?_
        rotate_left
        · intro wq hSw
          try dsimp only at hSw
          go_simp
          try with_reducible rfl
        try simp only [Act.put, List.getElem_toArray, List.getElem_cons_zero, List.getElem_cons_succ, List.setIfInBounds_toArray, List.set_cons_zero, List.set_cons_succ]
        refine wpAnyH_ready (rs := [5]) (by kernel_rfl) (by simp) ?_
        refine AllReadyH.cons rfl (fun K hK => ?_) AllReadyH.nil
        go_simp
        skip
        go_wp2_with fail
        refine hK.out _ _ ?_ (fun hHeld => ?_)
        · try dsimp only
          first | (refine HSH.out _ ?_; ((repeat' (first | with_reducible exact Below.refl _ _ | with_reducible assumption | with_reducible refine Below.drew ?_ | with_reducible refine below_drewN ?_ _ | with_reducible refine Below.setCell ?_ ?_ _ | with_reducible refine Below.alloc ?_ ?_ _ | with_reducible refine Below.trans ?_ (Below.mono (by assumption) ?_))) <;> (first | (simp; done) | (simp; omega) | omega))) | (refine (fun (h : Blk _ g 23 #[.int .i64 2, .int .i64 0, .string ⟨(refUnq M).toArray⟩]) => h.three.1) ?_; ((repeat' (first | with_reducible assumption | with_reducible refine Blk.drew ?_ | with_reducible refine Blk.drewN ?_ _ | with_reducible refine Blk.set3 ?_ _ _ _ | with_reducible refine Blk.far ?_ ?_ _ | ((with_reducible refine Blk.new' _ _ _ _ ?_) <;> (first | (simp; done) | (simp; omega) | omega) <;> done) | with_reducible refine Blk.alloc ?_ _ | with_reducible refine Blk3.drew ?_ | with_reducible refine Blk3.drewN ?_ _ | ((with_reducible refine Blk3.new' _ _ _ _ _ _ ?_) <;> (first | (simp; done) | (simp; omega) | omega) <;> done) | with_reducible refine Blk3.alloc ?_ _ | with_reducible refine Blk3.far ?_ ?_ _ | with_reducible refine Blk3.below ?_ (by assumption) ?_ | with_reducible refine Blk.below ?_ (by assumption) ?_)) <;> (first | (simp; done) | (simp; omega) | omega)))
        clear hK K
        try simp only [Act.put, List.getElem_toArray, List.getElem_cons_zero, List.getElem_cons_succ, List.setIfInBounds_toArray, List.set_cons_zero, List.set_cons_succ]
        refine wpAnyH_take (i := 6) (v := ?_) rfl (by kernel_rfl) (by kernel_rfl) (by kernel_rfl) (fun _ _ _ h => h) (Or.inl ⟨by rfl, ?_⟩) (by assumption) ?_
        rotate_left
        · intro wq hSw
          try dsimp only at hSw
          go_simp
          try with_reducible rfl
        try simp only [Act.put, List.getElem_toArray, List.getElem_cons_zero, List.getElem_cons_succ, List.setIfInBounds_toArray, List.set_cons_zero, List.set_cons_succ]
        refine wpAnyH_done (by kernel_rfl) ?_ _
        go_wp2_with fail
        refine bodyPost_ret (v := .tuple #[.agg #[.int .i64 ((⟨2, 0, refUnq M⟩ : V)).k, .int .i64 ((⟨2, 0, refUnq M⟩ : V)).i, .string ⟨((⟨2, 0, refUnq M⟩ : V)).s.toArray⟩], .bool (textF 2 0 (refUnq M) == S)]) (by simp [results, Tryd.results39, go_sem, *]) rfl ?_
        rw [hS.out]
        exact retQ_text (by ((repeat' (first | with_reducible exact Below.refl _ _ | with_reducible assumption | with_reducible refine Below.drew ?_ | with_reducible refine below_drewN ?_ _ | with_reducible refine Below.setCell ?_ ?_ _ | with_reducible refine Below.alloc ?_ ?_ _ | with_reducible refine Below.trans ?_ (Below.mono (by assumption) ?_))) <;> (first | (simp; done) | (simp; omega) | omega)))

theorem not_noQuote (M : List UInt8) : ¬ noQuote (39 :: (M ++ [39])) := by
  rintro (h | ⟨c, d, r, e, hc⟩ | ⟨d, r, e, hl⟩)
  · simp only [List.length_cons, List.length_append, List.length_nil] at h
    omega
  · injection e with a b
    subst a
    exact hc rfl
  · injection e with _ b
    apply hl
    have hlen : M.length = r.length := by have := congrArg List.length b; simp at this; omega
    have : (d :: r)[r.length]? = some 39 := by rw [← b, ← hlen]; simp
    obtain ⟨_, h2⟩ := List.getElem?_eq_some_iff.1 this
    rw [h2]; rfl
theorem no_quote_num {s : List UInt8} (a0 : ¬ s = [78, 85, 76, 76]) (a1 : ¬ s = [84, 82, 85, 69]) (a2 : ¬ s = [70, 65, 76, 83, 69]) (hq : noQuote s) : ∀ v, parses s v → v.k = 1 ∧ v.s = [] ∧ Lib.itoa v.i = s := by
  rintro ⟨k, i, t⟩ ⟨h1, h2, h3⟩
  have hm : mayB k i t = true := h1
  simp only at h3 ⊢
  rcases may_kinds hm with ⟨rfl, rfl, rfl⟩ | ⟨rfl, rfl⟩ | ⟨rfl, rfl, _, _⟩ | ⟨rfl, hi, rfl⟩
  · rw [show textF 0 0 [] = [78, 85, 76, 76] by decide +kernel] at h3
    exact absurd h3.symm a0
  · exact ⟨rfl, rfl, by rw [← text_num]; exact h3⟩
  · unfold textF at h3
    rw [hm] at h3
    have h4 : (39 : UInt8) :: (quoteS t ++ [39]) = s := by simpa using h3
    rw [← h4] at hq
    exact absurd hq (not_noQuote _)
  · rcases hi with rfl | rfl
    · rw [show textF 3 0 [] = [70, 65, 76, 83, 69] by decide +kernel] at h3
      exact absurd h3.symm a2
    · rw [show textF 3 1 [] = [84, 82, 85, 69] by decide +kernel] at h3
      exact absurd h3.symm a1

theorem rparse_any (s : List UInt8) (w : World) (hs : s.length ≤ 1000000) : Calls Tryd.prog 39 #[.string ⟨s.toArray⟩] w (RetQ s w) := by
  by_cases a0 : s = [78, 85, 76, 76]
  · subst a0; exact rparse_null w
  · by_cases a1 : s = [84, 82, 85, 69]
    · subst a1; exact rparse_true w
    · by_cases a2 : s = [70, 65, 76, 83, 69]
      · subst a2; exact rparse_false w
      · by_cases hq : noQuote s
        · refine rparse_num s w hs (by rw [beq_eq_false_iff_ne]; exact fun e => a0 e.symm) (by rw [beq_eq_false_iff_ne]; exact fun e => a2 e.symm) (by rw [beq_eq_false_iff_ne]; exact fun e => a1 e.symm) hq ?_
          exact no_quote_num a0 a1 a2 hq
        · obtain ⟨M, hM⟩ : ∃ M, s = 39 :: (M ++ [39]) := by
            match s, hq with
            | [], h => exact absurd (Or.inl (by simp)) h
            | [c], h => exact absurd (Or.inl (by simp)) h
            | c :: d :: r, h =>
              by_cases hc : c.toNat = 39
              · have : c = 39 := UInt8.toNat_inj.1 hc
                subst this
                by_cases hl : ((d :: r)[r.length]'(by simp)).toNat = 39
                · refine ⟨(d :: r).take r.length, ?_⟩
                  congr 1
                  have h1 : (d :: r)[r.length]'(by simp) = 39 := UInt8.toNat_inj.1 hl
                  have h2 := List.take_append_drop r.length (d :: r)
                  have h3 : (d :: r).drop r.length = [39] := by rw [List.drop_eq_getElem_cons (by simp), h1, List.drop_of_length_le (by simp)]
                  rw [h3] at h2
                  exact h2.symm
                · exact absurd (Or.inr (Or.inr ⟨d, r, rfl, hl⟩)) h
              · exact absurd (Or.inr (Or.inl ⟨c, d, r, rfl, hc⟩)) h
          exact rparse_quote s M w hs hM

end Go.Proofs.YtdoonajhplcmlaaDoor
