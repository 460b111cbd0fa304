/- The order of two rows: (rel.sorter).key, compare. Condition: rows that read as such. Plain law: of two texts one is less, or they are the same. No program in sight. The order of values is one, in plain words; the order of rows by a key. Runs that are merged: plain laws of a stable sort. Nothing of the program stands here. -/
import Derived.Test.YtdhjogmkhbpcgaaGreatTake
import Derived.Test.YtdhjogmkhbpcgaaGreatRelCkM
import GoSem.Op.String
import Derived.Test.YtdhjogmkhbpcgaaGreatRef1Order
import Derived.Test.YtdhjogmkhbpcgaaGreatSortAM
namespace Go.Proofs.YtdhjogmkhbpcgaaGreat
open Go.RowKit

attribute [local go_sem] ByteArray.extract_mk ba_get ba_append
attribute [local go_sem ↓] Go.wp_at_zero Go.wp_at_succ run_eql_V run_neq_V

/-- A row's key at a place; NULL, if there is none. -/
def keyAt (a : Int) (r : List V) : V := if a < 0 ∨ (r.length : Int) ≤ a then V.zero else atV a.toNat r
set_option maxHeartbeats 2000000 in
theorem skey_any (a : Int) (r : List V) (A : Option Addr) (c : Nat) (w : World) (hV : WQ r A (Old w.heap.size) w) :
    Calls Tryz.prog 67 #[.agg #[.int .i64 a], .slice A r.length c] w (Ret (.agg #[.int .i64 (keyAt a r).k, .int .i64 (keyAt a r).i, .string ⟨(keyAt a r).s.toArray⟩]) w) := by
  obtain ⟨w0, hw0⟩ : ∃ w0, (w.alloc (.cells #[.int .i64 a] 71)).alloc (.cells #[.int .i64 0, .int .i64 0, .string ⟨#[]⟩] 26) = w0 := ⟨_, rfl⟩
  have ks0 : Blk w0 w.heap.size 71 #[.int .i64 a] := by rw [← hw0]; exact (Blk.new _ _ _).alloc _
  have kr0 : Blk w0 (w.heap.size + 1) 26 #[.int .i64 0, .int .i64 0, .string ⟨#[]⟩] := by rw [← hw0]; exact Blk.new' _ _ _ _ (by simp)
  have hb0 : Below w.heap.size w w0 := by rw [← hw0]; exact bl
  have HV := Lib.hid ((hV.keep (old_keep hb0 hb0.size)).s (B := w0.heap.size) (fun b h => h))
  have HW := Lib.hid hw0
  obtain ⟨R, hR⟩ : ∃ R, keyAt a r = R := ⟨_, rfl⟩
  rw [hR]
  unfold keyAt at hR
  have x0 : w0.cell? ⟨w.heap.size, 0, none⟩ = some (.int .i64 a) := ks0.cell 0
  obtain ⟨⟨r0, r1, r2⟩, f0, f1, f2⟩ := kr0.three
  have lr := kr0.lt
  clear hw0 hV
  by_cases h1 : a < 0
  · have HF : Hid (R = V.zero) := by show _ = _; rw [← hR, if_pos (Or.inl h1)]
    clear hR
    go_enter Tryz.func67, Tryz.ntmps67
    go_upto_region 1 with fail
    rw [HW.out]
    go_wp2_with fail
    refine bodyPost_ret (v := .agg #[.int .i64 (V.zero).k, .int .i64 (V.zero).i, .string ⟨(V.zero).s.toArray⟩]) (by simp [results, Tryz.results67, go_sem, V.zero, *]) rfl ⟨by rw [HF.out], ?_⟩
    exact bl
  · obtain ⟨k, rfl⟩ : ∃ k : Nat, a = (k : Int) := ⟨a.toNat, by omega⟩
    by_cases h2 : (r.length : Int) ≤ (k : Int)
    · have HF : Hid (R = V.zero) := by show _ = _; rw [← hR, if_pos (Or.inr h2)]
      have g1 : decide ((k : Int) ≥ (r.length : Int)) = true := decide_eq_true h2
      have g2 : decide ((r.length : Int) ≤ (k : Int)) = true := decide_eq_true h2
      clear hR
      go_enter Tryz.func67, Tryz.ntmps67
      go_upto_region 1 with fail
      rw [HW.out]
      go_wp2_with fail
      refine bodyPost_ret (v := .agg #[.int .i64 (V.zero).k, .int .i64 (V.zero).i, .string ⟨(V.zero).s.toArray⟩]) (by simp [results, Tryz.results67, go_sem, V.zero, *]) rfl ⟨by rw [HF.out], ?_⟩
      exact bl
    · obtain ⟨b, off, v, rfl, hbB, hv, c0, c1, c2⟩ := HV.out.at_ (j := k) (by omega)
      have HF : Hid (R = v) := by
        show _ = _
        rw [← hR, if_neg (by omega), Int.toNat_natCast]
        unfold atV
        rw [List.getD_eq_getElem?_getD, hv]
        rfl
      have g1 : decide ((k : Int) ≥ (r.length : Int)) = false := decide_eq_false (by omega)
      have i1 : (0 : Int) ≤ (k : Int) := by omega
      have i2 : (k : Int) < (r.length : Int) := by omega
      clear hR hv
      go_enter Tryz.func67, Tryz.ntmps67
      go_upto_region 1 with fail
      rw [HW.out]
      go_wp2_with fail
      refine bodyPost_ret (v := .agg #[.int .i64 (v).k, .int .i64 (v).i, .string ⟨(v).s.toArray⟩]) (by simp [results, Tryz.results67, go_sem, *]) rfl ⟨by rw [HF.out], ?_⟩
      exact bl

def cmpR (a : Int) (r r' : List V) : Int := ordV (keyAt a r) (keyAt a r')
set_option maxHeartbeats 2000000 in
theorem cmpR_any (a : Int) (r r' : List V) (A A' : Option Addr) (c c' : Nat) (w : World) (hV : WQ r A (Old w.heap.size) w) (hV' : WQ r' A' (Old w.heap.size) w) :
    Calls Tryz.prog 37 #[.agg #[.int .i64 a], .slice A r.length c, .slice A' r'.length c'] w (Ret (.int .i64 (cmpR a r r')) w) := by
  obtain ⟨w0, hw0⟩ : ∃ w0, w.alloc (.cells #[.int .i64 a] 71) = w0 := ⟨_, rfl⟩
  have ks0 : Blk w0 w.heap.size 71 #[.int .i64 a] := by rw [← hw0]; exact Blk.new _ _ _
  have hb0 : Below w.heap.size w w0 := by rw [← hw0]; exact bl
  have HK1 : Hid (∀ Y : World, Below w0.heap.size w0 Y → Calls Tryz.prog 67 #[.agg #[.int .i64 a], .slice A r.length c] Y (Ret (.agg #[.int .i64 (keyAt a r).k, .int .i64 (keyAt a r).i, .string ⟨(keyAt a r).s.toArray⟩]) Y)) := fun Y h => skey_any a r A c Y (hV.keep (old_keep (hb0.trans (h.mono hb0.size)) (hb0.trans (h.mono hb0.size)).size))
  have HK2 : Hid (∀ Y : World, Below w0.heap.size w0 Y → Calls Tryz.prog 67 #[.agg #[.int .i64 a], .slice A' r'.length c'] Y (Ret (.agg #[.int .i64 (keyAt a r').k, .int .i64 (keyAt a r').i, .string ⟨(keyAt a r').s.toArray⟩]) Y)) := fun Y h => skey_any a r' A' c' Y (hV'.keep (old_keep (hb0.trans (h.mono hb0.size)) (hb0.trans (h.mono hb0.size)).size))
  have HSK : Hid (∀ w' : World, Below w0.heap.size w0 w' → w'.cell? ⟨w.heap.size, 0, none⟩ = some (.int .i64 a)) := fun w' h => (ks0.below h ks0.lt).cell 0
  obtain ⟨R, hR⟩ : ∃ R, cmpR a r r' = R := ⟨_, rfl⟩
  rw [hR]
  unfold cmpR ordV at hR
  obtain ⟨va, hva⟩ : ∃ v, keyAt a r = v := ⟨_, rfl⟩
  obtain ⟨vb, hvb⟩ : ∃ v, keyAt a r' = v := ⟨_, rfl⟩
  rw [hva] at HK1 hR
  rw [hvb] at HK2 hR
  have HVO : Hid (∀ Z : World, Calls Tryz.prog 59 #[.agg #[.int .i64 (va).k, .int .i64 (va).i, .string ⟨(va).s.toArray⟩], .agg #[.int .i64 (vb).k, .int .i64 (vb).i, .string ⟨(vb).s.toArray⟩]] Z (Ret (.int .i64 R) Z)) := fun Z => by have := vorder_any va.k va.i va.s vb.k vb.i vb.s Z; rw [hR] at this; exact this
  have HW := Lib.hid hw0
  have HB0 := Lib.hid hb0
  have hz0 := hb0.size
  clear hw0 hV hV' hR hva hvb ks0 hb0
  go_enter Tryz.func37, Tryz.ntmps37
  go_upto_region 1 with fail
  rw [HW.out]
  clear HW
  go_cut [6] (fun s6 wx => s6 = .int .i64 R ∧ Below w0.heap.size w0 wx)
  case first =>
    refine wp_region_held_drew (S := (fun w' => w'.cell? ⟨w.heap.size, 0, none⟩ = some (.int .i64 a))) (by kernel_rfl) ?_ (fun hHeld => ?_)
    · try dsimp only
      exact HSK.out _ (by exact bl)
    refine wpAnyT_start [0, 1, 3, 4] ?_
    iterate 4
      refine wpAnyT_cons (v := ?_) rfl (by kernel_rfl) (by kernel_rfl) (by kernel_rfl) (fun _ _ _ h => h) (Or.inl ⟨by rfl, ?_⟩) (by assumption) ?_
      rotate_left
      · intro wq hSw
        try dsimp only at hSw
        go_simp
        try with_reducible rfl
      try simp only [Act.put, List.getElem_toArray, List.getElem_cons_zero, List.getElem_cons_succ, List.setIfInBounds_toArray, List.set_cons_zero, List.set_cons_succ]
    refine wpAnyT_nil ?_
    refine wpAnyH_ready (rs := [2]) (by kernel_rfl) (by simp) ?_
    refine AllReadyH.cons rfl (fun K hK => ?_) AllReadyH.nil
    go_simp
    (refine (HK1.out _ (by exact bl)).mono ?_) <;> rintro en w2 ⟨rfl, hb2⟩ <;> have hz2 := hb2.size <;> (try simp at hz2)
    go_wp2_with fail
    refine hK.out _ _ ?_ (fun hHeld => ?_)
    · try dsimp only
      exact HSK.out _ (by exact bl)
    clear hK K
    try simp only [Act.put, List.getElem_toArray, List.getElem_cons_zero, List.getElem_cons_succ, List.setIfInBounds_toArray, List.set_cons_zero, List.set_cons_succ]
    refine wpAnyH_ready (rs := [5]) (by kernel_rfl) (by simp) ?_
    refine AllReadyH.cons rfl (fun K hK => ?_) AllReadyH.nil
    go_simp
    (refine (HK2.out _ (by exact bl)).mono ?_) <;> rintro en w5 ⟨rfl, hb5⟩ <;> have hz5 := hb5.size <;> (try simp at hz5)
    go_wp2_with fail
    refine hK.out _ _ ?_ (fun hHeld => ?_)
    · try dsimp only
      exact HSK.out _ (by exact bl)
    clear hK K
    try simp only [Act.put, List.getElem_toArray, List.getElem_cons_zero, List.getElem_cons_succ, List.setIfInBounds_toArray, List.set_cons_zero, List.set_cons_succ]
    refine wpAnyH_ready (rs := [6]) (by kernel_rfl) (by simp) ?_
    refine AllReadyH.cons rfl (fun K hK => ?_) AllReadyH.nil
    go_simp
    (refine (HVO.out _).mono ?_) <;> rintro en w6 ⟨rfl, hb6⟩ <;> have hz6 := hb6.size <;> (try simp at hz6)
    go_wp2_with fail
    refine hK.out _ _ ?_ (fun hHeld => ?_)
    · try dsimp only
      exact HSK.out _ (by exact bl)
    clear hK K
    try simp only [Act.put, List.getElem_toArray, List.getElem_cons_zero, List.getElem_cons_succ, List.setIfInBounds_toArray, List.set_cons_zero, List.set_cons_succ]
    refine wpAnyH_take (i := 7) (v := ?_) rfl (by kernel_rfl) (by kernel_rfl) (by kernel_rfl) (fun _ _ _ h => h) (Or.inl ⟨by rfl, ?_⟩) (by assumption) ?_
    rotate_left
    · intro wq hSw
      try dsimp only at hSw
      go_simp
      try with_reducible rfl
    try simp only [Act.put, List.getElem_toArray, List.getElem_cons_zero, List.getElem_cons_succ, List.setIfInBounds_toArray, List.set_cons_zero, List.set_cons_succ]
    refine wpAnyH_done (by kernel_rfl) ?_ _
    go_wp2_with fail
    go_meet
    exact ⟨rfl, by exact bl⟩
  case rest =>
    obtain ⟨rfl, hbc⟩ := hcut
    go_wp2_with fail
    go_ret
    exact ⟨rfl, HB0.out.trans (hbc.mono hz0)⟩

end Go.Proofs.YtdhjogmkhbpcgaaGreat

namespace Go.Proofs.YtdhjogmkhbpcgaaGreat
open Go

theorem less_tri : ∀ (s t : List UInt8), s = t ∨ (Op.bytesLess s t = true ∧ Op.bytesLess t s = false ∧ s ≠ t) ∨ (Op.bytesLess t s = true ∧ Op.bytesLess s t = false ∧ s ≠ t)
  | [], [] => .inl rfl
  | [], y :: t => .inr (.inl ⟨rfl, rfl, by simp⟩)
  | x :: s, [] => .inr (.inr ⟨rfl, rfl, by simp⟩)
  | x :: s, y :: t => by
    rcases Nat.lt_trichotomy x.toNat y.toNat with h | h | h
    · have h1 : x < y := by rw [UInt8.lt_iff_toNat_lt]; exact h
      have h2 : ¬ y < x := by rw [UInt8.lt_iff_toNat_lt]; omega
      have h3 : ¬ y = x := by rintro rfl; omega
      have h4 : ¬ x = y := by rintro rfl; omega
      exact .inr (.inl ⟨by simp [Op.bytesLess, h1], by simp [Op.bytesLess, h2, h3], by simp [h4]⟩)
    · have hxy : x = y := UInt8.toNat_inj.1 h
      subst hxy
      have hn : ¬ x < x := by rw [UInt8.lt_iff_toNat_lt]; omega
      rcases less_tri s t with rfl | ⟨h1, h2, h3⟩ | ⟨h1, h2, h3⟩
      · exact .inl rfl
      · exact .inr (.inl ⟨by simp [Op.bytesLess, h1], by simp [Op.bytesLess, h2, hn], by simp [h3]⟩)
      · exact .inr (.inr ⟨by simp [Op.bytesLess, h1], by simp [Op.bytesLess, h2, hn], by simp [h3]⟩)
    · have h1 : y < x := by rw [UInt8.lt_iff_toNat_lt]; exact h
      have h2 : ¬ x < y := by rw [UInt8.lt_iff_toNat_lt]; omega
      have h3 : ¬ x = y := by rintro rfl; omega
      exact .inr (.inr ⟨by simp [Op.bytesLess, h1], by simp [Op.bytesLess, h2, h3], by simp [h3]⟩)


end Go.Proofs.YtdhjogmkhbpcgaaGreat

namespace Go.Proofs.YtdhjogmkhbpcgaaGreat
open Go.RowKit

theorem tri (a b : V) : (veq a b = true ∧ veq b a = true) ∨ (vlt a b = true ∧ veq a b = false ∧ vlt b a = false ∧ veq b a = false) ∨ (vlt b a = true ∧ veq b a = false ∧ vlt a b = false ∧ veq a b = false) := by
  unfold veq vlt
  rcases Int.lt_trichotomy a.k b.k with h | h | h
  · exact .inr (.inl ⟨by simp [h], by simp; omega, by simp; omega, by simp; omega⟩)
  · rcases Int.lt_trichotomy a.i b.i with g | g | g
    · exact .inr (.inl ⟨by simp [h, g], by simp; omega, by simp [h]; omega, by simp; omega⟩)
    · rcases less_tri a.s b.s with e | ⟨e1, e2, e3⟩ | ⟨e1, e2, e3⟩
      · exact .inl ⟨by simp [h, g, e], by simp [h, g, e]⟩
      · exact .inr (.inl ⟨by simp [h, g, e1], by simp [h, g, e3], by simp [h, g, e2], by simp [h, g]; exact fun e => e3 e.symm⟩)
      · exact .inr (.inr ⟨by simp [h, g, e1], by simp [h, g]; exact fun e => e3 e.symm, by simp [h, g, e2], by simp [h, g, e3]⟩)
    · exact .inr (.inr ⟨by simp [h, g], by simp; omega, by simp [h]; omega, by simp; omega⟩)
  · exact .inr (.inr ⟨by simp [h], by simp; omega, by simp; omega, by simp; omega⟩)
theorem bless_trans : ∀ (a b c : List UInt8), Op.bytesLess a b = true → Op.bytesLess b c = true → Op.bytesLess a c = true
  | _, [], _, h, _ => by cases ‹List UInt8› <;> simp [Op.bytesLess] at h
  | _, _ :: _, [], _, h => by simp [Op.bytesLess] at h
  | [], _ :: _, _ :: _, _, _ => by simp [Op.bytesLess]
  | x :: a, y :: b, z :: c, h1, h2 => by
    simp only [Op.bytesLess, Bool.or_eq_true, decide_eq_true_eq, Bool.and_eq_true, beq_iff_eq] at h1 h2 ⊢
    rcases h1 with h1 | ⟨e1, h1⟩
    · rcases h2 with h2 | ⟨e2, h2⟩
      · exact .inl (UInt8.lt_trans h1 h2)
      · subst e2; exact .inl h1
    · subst e1
      rcases h2 with h2 | ⟨e2, h2⟩
      · exact .inl h2
      · exact .inr ⟨e2, bless_trans a b c h1 h2⟩
theorem vlt_trans (a b c : V) (h1 : vlt a b = true) (h2 : vlt b c = true) : vlt a c = true := by
  unfold vlt at *
  simp only [Bool.or_eq_true, decide_eq_true_eq, Bool.and_eq_true] at *
  rcases h1 with h1 | ⟨e1, h1⟩
  · rcases h2 with h2 | ⟨e2, h2⟩
    · exact .inl (by omega)
    · exact .inl (by omega)
  · rcases h2 with h2 | ⟨e2, h2⟩
    · exact .inl (by omega)
    · refine .inr ⟨by omega, ?_⟩
      rcases h1 with h1 | ⟨e3, h1⟩
      · rcases h2 with h2 | ⟨e4, h2⟩
        · exact .inl (by omega)
        · exact .inl (by omega)
      · rcases h2 with h2 | ⟨e4, h2⟩
        · exact .inl (by omega)
        · exact .inr ⟨by omega, bless_trans _ _ _ h1 h2⟩
theorem veq_iff (a b : V) : veq a b = true ↔ a = b := by
  unfold veq
  simp only [Bool.and_eq_true, decide_eq_true_eq, beq_iff_eq]
  constructor
  · rintro ⟨h1, h2, h3⟩
    obtain ⟨k, i, s⟩ := a
    obtain ⟨k', i', s'⟩ := b
    simp only at h1 h2 h3
    subst h1 h2 h3
    rfl
  · rintro rfl; simp
theorem vord_cases (a b : V) : (vord a b = 0 ∧ vord b a = 0 ∧ a = b) ∨ (vord a b = -1 ∧ vord b a = 1 ∧ vlt a b = true ∧ a ≠ b) ∨ (vord a b = 1 ∧ vord b a = -1 ∧ vlt b a = true ∧ a ≠ b) := by
  unfold vord
  rcases tri a b with ⟨h1, h2⟩ | ⟨h1, h2, h3, h4⟩ | ⟨h1, h2, h3, h4⟩
  · exact .inl ⟨by rw [h1]; rfl, by rw [h2]; rfl, (veq_iff a b).1 h1⟩
  · exact .inr (.inl ⟨by rw [h2, h1]; rfl, by rw [h4, h3]; rfl, h1, fun e => by rw [(veq_iff a b).2 e] at h2; cases h2⟩)
  · exact .inr (.inr ⟨by rw [h4, h3]; rfl, by rw [h2, h1]; rfl, h1, fun e => by rw [(veq_iff a b).2 e] at h4; cases h4⟩)
theorem vord_trans (a b c : V) (h1 : vord a b ≤ 0) (h2 : vord b c ≤ 0) : vord a c ≤ 0 := by
  rcases vord_cases a b with ⟨e, _, rfl⟩ | ⟨e, _, g, _⟩ | ⟨e, _⟩
  · exact h2
  · rcases vord_cases b c with ⟨e', _, rfl⟩ | ⟨e', _, g', _⟩ | ⟨e', _⟩
    · exact h1
    · have g2 := vlt_trans a b c g g'
      rcases vord_cases a c with ⟨e2, _⟩ | ⟨e2, _⟩ | ⟨e2, _, g3, hne⟩
      · omega
      · omega
      · rcases tri a c with ⟨q, _⟩ | ⟨_, _, q, _⟩ | ⟨_, _, q, _⟩
        · exact absurd ((veq_iff a c).1 q) hne
        · rw [g3] at q; cases q
        · rw [g2] at q; cases q
    · omega
  · omega

theorem cord_eq2 (a b : V) : cord a b = vord a b := by
  unfold cord vord or3 cmpI cmpS veq vlt
  rcases Int.lt_trichotomy a.k b.k with h | h | h
  · simp [h]; omega
  · rcases Int.lt_trichotomy a.i b.i with g | g | g
    · simp [h, g]; omega
    · by_cases e : a.s = b.s
      · simp [h, g, e]
      · cases l : Op.bytesLess a.s b.s <;> simp [h, g, e]
    · have : ¬ a.i < b.i := by omega
      have h2 : ¬ a.i = b.i := by omega
      simp [h, g, this, h2]
  · have h1 : ¬ a.k < b.k := by omega
    have h2 : ¬ a.k = b.k := by omega
    simp [h, h1, h2]
theorem ordV_eq (a b : V) : ordV a b = vord (goodV a.k a.i a.s) (goodV b.k b.i b.s) := cord_eq2 _ _
theorem cmpR_pre (a : Int) : Pre (cmpR a) := by
  refine ⟨fun x y => ?_, fun x y z h1 h2 => ?_⟩
  · unfold cmpR
    rw [ordV_eq, ordV_eq]
    rcases vord_cases (goodV (keyAt a x).k (keyAt a x).i (keyAt a x).s) (goodV (keyAt a y).k (keyAt a y).i (keyAt a y).s) with ⟨e1, e2, _⟩ | ⟨e1, e2, _⟩ | ⟨e1, e2, _⟩ <;> rw [e1, e2] <;> omega
  · unfold cmpR at *
    rw [ordV_eq] at *
    exact vord_trans _ _ _ h1 h2
/-- Two rows in memory, held against each other by a place. -/
def ordRc (a : Int) (x y : Rc) : Int := cmpR a x.r y.r
theorem ordRc_pre (a : Int) : Pre (ordRc a) := ⟨fun x y => (cmpR_pre a).flip x.r y.r, fun x y z => (cmpR_pre a).trans x.r y.r z.r⟩
/-- Rows whose memory lies in blocks other than b. -/
def RowsAt (b : Nat) (K : List Rc) (w : World) : Prop := ∀ q ∈ K, WQ q.r q.s.a (fun k => k < w.heap.size ∧ k ≠ b) w
theorem But.rows {b : Nat} {K : List Rc} {w w' : World} (h : But b w w') (hR : RowsAt b K w) : RowsAt b K w' := fun q hq =>
  (hR q hq).keep fun _ hk => ⟨⟨Nat.lt_of_lt_of_le hk.1 h.size, hk.2⟩, fun o => h.cell hk.1 hk.2 o⟩
def CmpOk (a : Int) (b : Nat) (K : List Rc) (w : World) : Prop := ∀ (Z : World) (x y : Rc), But b w Z → x ∈ K → y ∈ K → Calls Tryz.prog 37 #[.agg #[.int .i64 a], x.cell, y.cell] Z (Ret (.int .i64 (ordRc a x y)) Z)
theorem cmpOk_of {a : Int} {b : Nat} {K : List Rc} {w : World} (hR : RowsAt b K w) : CmpOk a b K w := fun Z x y hb hx hy =>
  cmpR_any a x.r y.r x.s.a y.s.a x.s.c y.s.c Z ((hb.rows hR x hx).keep fun _ hk => ⟨hk.1, fun _ => rfl⟩) ((hb.rows hR y hy).keep fun _ hk => ⟨hk.1, fun _ => rfl⟩)
theorem CmpOk.but {a : Int} {b : Nat} {K : List Rc} {w w' : World} (h : CmpOk a b K w) (hb : But b w w') : CmpOk a b K w' := fun Z x y hz => h Z x y (hb.trans hz)
theorem last_split {α : Type} (l : List α) (h : l ≠ []) : ∃ l' x, l = l' ++ [x] := ⟨l.dropLast, l.getLast h, (List.dropLast_concat_getLast h).symm⟩

end Go.Proofs.YtdhjogmkhbpcgaaGreat

namespace Go.Proofs.YtdhjogmkhbpcgaaGreat

section
variable {α : Type} {o : α → α → Int}
/-- Two risings, cut where what is above ends: what is to be exchanged falls, the rest rises. -/
theorem sym_cut (hp : Pre o) {a1 a2 b1 b2 : List α} (ha : Rise o (a1 ++ a2)) (hb : Rise o (b1 ++ b2)) (h1 : ∀ x y, a2.head? = some x → b1.getLast? = some y → 0 < o x y) (h2 : ∀ x y, a1.getLast? = some x → b2.head? = some y → o x y ≤ 0) :
    (∀ x ∈ a2, ∀ y ∈ b1, 0 < o x y) ∧ (∀ x ∈ a1, ∀ y ∈ b2, o x y ≤ 0) := by
  have lastle : ∀ {l r : List α} {z : α}, Rise o (l ++ r) → l.getLast? = some z → ∀ x ∈ l, o x z ≤ 0 := by
    intro l r z h hz x hx
    obtain ⟨l', rfl⟩ : ∃ l', l = l' ++ [z] := by rw [List.getLast?_eq_some_iff] at hz; exact hz
    rcases List.mem_append.1 hx with hx | hx
    · exact h.left.cross x hx z (by simp)
    · simp only [List.mem_singleton] at hx; rw [hx, hp.self]; omega
  have headle : ∀ {l r : List α} {z : α}, Rise o (l ++ r) → r.head? = some z → ∀ x ∈ r, o z x ≤ 0 := by
    intro l r z h hz x hx
    cases r with
    | nil => simp at hz
    | cons u r =>
      simp at hz; subst hz
      rcases List.mem_cons.1 hx with rfl | hx
      · rw [hp.self]; omega
      · exact (List.pairwise_cons.1 h.right).1 x hx
  constructor
  · intro x hx y hy
    obtain ⟨u, hu⟩ : ∃ u, a2.head? = some u := by cases a2 with | nil => simp at hx | cons u r => exact ⟨u, rfl⟩
    obtain ⟨v, hv⟩ : ∃ v, b1.getLast? = some v := by cases b1 with | nil => simp at hy | cons u r => exact ⟨_, List.getLast?_eq_some_getLast (by simp)⟩
    have g1 := hp.lt_le (h1 u v hu hv) (lastle hb hv y hy)
    exact hp.le_lt g1 (headle ha hu x hx)
  · intro x hx y hy
    obtain ⟨u, hu⟩ : ∃ u, a1.getLast? = some u := by cases a1 with | nil => simp at hx | cons u r => exact ⟨_, List.getLast?_eq_some_getLast (by simp)⟩
    obtain ⟨v, hv⟩ : ∃ v, b2.head? = some v := by cases b2 with | nil => simp at hy | cons u r => exact ⟨u, rfl⟩
    exact hp.trans x u y (lastle ha hu x hx) (hp.trans u v y (h2 u v hu hv) (headle hb hv y hy))
/-- Runs of s things that rise, the last one maybe shorter. -/
inductive Runs (o : α → α → Int) (s : Nat) : List α → Prop
  | last (l : List α) : l.length ≤ s → Rise o l → Runs o s l
  | more (c r : List α) : c.length = s → Rise o c → Runs o s r → Runs o s (c ++ r)
/-- Whole runs alone. -/
inductive Full (o : α → α → Int) (s : Nat) : List α → Prop
  | nil : Full o s []
  | more (c r : List α) : c.length = s → Rise o c → Full o s r → Full o s (c ++ r)
theorem Full.app {s : Nat} {l r : List α} (h : Full o s l) (h' : Runs o s r) : Runs o s (l ++ r) := by
  induction h with
  | nil => exact h'
  | more c t hc hr _ ih => rw [List.append_assoc]; exact Runs.more c _ hc hr ih
theorem Full.snoc {s : Nat} {l c : List α} (h : Full o s l) (hc : c.length = s) (hr : Rise o c) : Full o s (l ++ c) := by
  induction h with
  | nil => have := Full.more (o := o) c [] hc hr Full.nil; simpa using this
  | more d t hd hr' _ ih => rw [List.append_assoc]; exact Full.more d _ hd hr' ih
theorem Runs.one {s : Nat} {l : List α} (h : Runs o s l) (hl : l.length ≤ s) : Rise o l := by
  cases h with
  | last _ _ hr => exact hr
  | more c r hc hr _ =>
    have : r = [] := List.eq_nil_of_length_eq_zero (by simp at hl; omega)
    rw [this, List.append_nil]
    exact hr
/-- The first run, and the rest. -/
theorem Runs.split {s : Nat} {l : List α} (h : Runs o s l) (hl : s ≤ l.length) : ∃ c r, l = c ++ r ∧ c.length = s ∧ Rise o c ∧ Runs o s r := by
  cases h with
  | last _ h1 hr => exact ⟨l, [], by simp, by omega, hr, Runs.last [] (by simp) List.Pairwise.nil⟩
  | more c r hc hr h' => exact ⟨c, r, rfl, hc, hr, h'⟩
theorem rise_one (x : α) : Rise o [x] := by simp [Rise]
/-- One thing ahead of a rising, put in its place. -/
theorem merge1_law (hp : Pre o) {x : α} {b1 b2 : List α} (hb : Rise o (b1 ++ b2)) (h1 : ∀ y, b1.getLast? = some y → o y x < 0) (h2 : ∀ y, b2.head? = some y → ¬ o y x < 0) : Rise o (b1 ++ x :: b2) ∧ Stab o (x :: (b1 ++ b2)) (b1 ++ x :: b2) := by
  have hc := sym_cut hp (a1 := []) (a2 := [x]) (rise_one x) hb (fun u v hu hv => by
    simp at hu; subst hu
    exact (hp.flip v x).1 (h1 v hv)) (fun u v hu _ => by simp at hu)
  have hr : Rise o (x :: b2) := by
    refine List.pairwise_cons.2 ⟨fun z hz => ?_, hb.right⟩
    cases b2 with
    | nil => simp at hz
    | cons v r =>
      have hv := hp.rev (h2 v rfl)
      rcases List.mem_cons.1 hz with rfl | hz
      · exact hv
      · exact hp.trans x v z hv ((List.pairwise_cons.1 hb.right).1 z hz)
  exact sym_split hp (a1 := []) (a2 := [x]) (rise_one x) hb hc.1 hc.2 hb.left (Stab.refl b1) hr (Stab.refl (x :: b2))
/-- One thing behind a rising, put in its place. -/
theorem merge2_law (hp : Pre o) {y : α} {a1 a2 : List α} (ha : Rise o (a1 ++ a2)) (h1 : ∀ x, a1.getLast? = some x → ¬ o y x < 0) (h2 : ∀ x, a2.head? = some x → o y x < 0) : Rise o (a1 ++ y :: a2) ∧ Stab o (a1 ++ a2 ++ [y]) (a1 ++ y :: a2) := by
  have hc := sym_cut hp (b1 := [y]) (b2 := []) ha (by simpa using rise_one y) (fun u v hu hv => by
    simp at hv; subst hv
    exact (hp.flip y u).1 (h2 u hu)) (fun u v _ hv => by simp at hv)
  refine put_in hp ha ?_ (fun z hz => hc.1 z hz y (by simp))
  cases h : a1.getLast? with
  | none => left; exact List.getLast?_eq_none_iff.1 h
  | some x => right; exact ⟨x, rfl, hp.rev (h1 x h)⟩
end

end Go.Proofs.YtdhjogmkhbpcgaaGreat
