/- lexer.Join as a plain function. Condition: tokens that read as a list, each text no longer than a million; the library's length lies there. -/
import Derived.Test.YtelkcfkmejcjaaaDoorLex5
import Derived.Test.YtelkcfkmejcjaaaDoorJoinLaw
import Derived.Test.YtelkcfkmejcjaaaDoorShelf4
namespace Go.Proofs.YtelkcfkmejcjaaaDoor
open Go.RowKit

attribute [local go_sem] ByteArray.extract_mk ba_get ba_append
attribute [local go_sem ↓] Go.wp_at_zero Go.wp_at_succ

theorem infoStr : (Tryd.prog.info? 9).map (fun i => (i.zero, i.size, i.bytes)) = some (some (.string ⟨#[]⟩), 1, 16) := by kernel_rfl
def strCs (l : List (List UInt8)) : List Value := l.map fun s => .string ⟨s.toArray⟩
theorem strCs_length (l : List (List UInt8)) : (strCs l).length = l.length := by simp [strCs]
theorem strCs_one (l : List (List UInt8)) : ∀ u ∈ strCs l, u.oneCell' = true := by
  intro u hu
  simp only [strCs, List.mem_map] at hu
  obtain ⟨s, _, rfl⟩ := hu
  rfl
theorem lib_join : ∀ l : List Tok, Lib.join (l.map wrT) [32] = joinT l
  | [] => rfl
  | [t] => Lib.join_one _ _
  | t :: u :: r => by
    have ih := lib_join (u :: r)
    show _ = wrT t ++ (32 :: joinT (u :: r))
    rw [← ih]
    simp [Lib.join, List.intercalate]

def joinF (l : List Tok) : List UInt8 × Int := if decide (l.length ≤ 400) && l.all mayT then (joinT l, 0) else ([], 1)

theorem wrT_len (t : Tok) : (wrT t).length ≤ 2 * t.s.length + 2 := by
  unfold wrT
  split
  · unfold textF
    split
    · have := quoteS_len t.s
      simp
      omega
    · simp
  · omega
theorem joinT_len (m : Nat) : ∀ l : List Tok, (∀ t ∈ l, t.s.length ≤ m) → (joinT l).length ≤ l.length * (2 * m + 3)
  | [], _ => by simp [joinT]
  | [t], h => by
    have h1 := wrT_len t
    have h2 := h t (by simp)
    simp only [joinT, List.length_cons, List.length_nil]
    omega
  | t :: u :: r, h => by
    have ih := joinT_len m (u :: r) (fun x hx => h x (List.mem_cons_of_mem _ hx))
    have h1 := wrT_len t
    have h2 := h t (by simp)
    simp only [joinT, List.length_append, List.length_cons] at ih ⊢
    have : (r.length + 1 + 1) * (2 * m + 3) = (r.length + 1) * (2 * m + 3) + (2 * m + 3) := by rw [Nat.add_mul (r.length + 1) 1]; omega
    omega

theorem mayT_len {t : Tok} (h : mayT t = true) : t.s.length ≤ 40 := by
  unfold mayT at h
  split at h
  · exact (may2 h).2.1
  · split at h
    · unfold oneSign at h
      split at h
      · rename_i e; rw [e]; simp
      · cases h
    · split at h
      · simp only [runB, Bool.and_eq_true, decide_eq_true_eq] at h; omega
      · split at h
        · simp only [runB, Bool.and_eq_true, decide_eq_true_eq] at h; omega
        · cases h
theorem take_map_snoc (l : List Tok) (j : Nat) (t : Tok) (h : l[j]? = some t) : strCs ((l.take (j + 1)).map wrT) = strCs ((l.take j).map wrT) ++ [.string ⟨(wrT t).toArray⟩] := by
  obtain ⟨hj, rfl⟩ := List.getElem?_eq_some_iff.1 h
  rw [List.take_succ_eq_append_getElem hj]
  simp only [strCs, List.map_append, List.map_cons, List.map_nil]
theorem own_str {w : World} {base : Nat} {e : TypeId} {sv : Value} {n : Nat} {l : List (List UInt8)} (h : w.ownsRow base e 1 sv n (strCs l)) :
    (∃ c, sv = .slice none l.length c ∧ l.length = 0) ∨ ∃ g c, sv = .slice (some ⟨g, 0, none⟩) l.length c ∧ l.length ≤ c ∧ base ≤ g ∧ g < w.heap.size ∧ ∀ (j : Nat) x, l[j]? = some x → w.cell? ⟨g, 0 + j, none⟩ = some (.string ⟨x.toArray⟩) := by
  have hn : l.length = n := by have := h.1; rw [strCs_length] at this; omega
  rcases h.2 with ⟨rfl, h0⟩ | ⟨g, cap, cur, rfl, hb, hg, hnc, hcm, hcs, htk⟩
  · exact .inl ⟨0, by rw [hn, h0], by omega⟩
  · refine .inr ⟨g, cap, by rw [hn], by omega, hb, (Array.getElem?_eq_some_iff.1 hg).1, fun j x hx => ?_⟩
    have hc := h.cells (g := g) rfl j (.string ⟨x.toArray⟩) (by simp [strCs, hx])
    rw [add_mid] at hc
    exact hc


set_option maxRecDepth 100000 in
set_option maxHeartbeats 2000000 in
theorem joinT_any (A : Option Addr) (c : Nat) (l : List Tok) (w : World) (hl : l.length ≤ 1000000) (hs : ∀ t ∈ l, t.s.length ≤ 1000000) (hA : TkS w w.heap.size A l) (hM : MaxL w) :
    Calls Tryd.prog 42 #[.slice A l.length c] w (Ret (.tuple #[.string ⟨(joinF l).1.toArray⟩, .int .i64 (joinF l).2]) w) := by
  obtain ⟨i0, hi0, zi0, zi1, zi2⟩ := info_parts infoStr
  obtain ⟨R, hR⟩ : ∃ R, joinF l = R := ⟨_, rfl⟩
  rw [hR]
  have HS := Lib.hid hs
  have HM := Lib.hid hM
  clear hs hM
  by_cases h400 : l.length ≤ 400
  · have HR : Hid ((if (l.drop 0).all mayT then (joinT l, 0) else ([], 1)) = R) := by
      show _ = _; rw [← hR]; simp [joinF, h400]
    clear hR
    obtain ⟨w1, hmk, hown0, hg0⟩ := run_make_own (P := Tryd.prog) (w := w) w.heap.size 75 9 i0 (.string ⟨#[]⟩) 1 Tryd.underlying75 hi0 zi0 zi1 .i64 .i64 l.length (by rw [zi2]; omega) (by unfold maxLen; omega) (Nat.le_refl _)
    have hb1 : Below w.heap.size w w1 := Below.grown (Below.refl _ _) hg0 (Nat.le_refl _) (fun k hk => by cases hk)
    have HG := Lib.hid h400
    have h4 : ¬ (400 : Int) < l.length := by omega
    clear h400 hg0
    go_enter Tryd.func42, Tryd.ntmps42
    go_wp2
    go_loopw [4, 15] (fun v i wr => ∃ j : Nat, j ≤ l.length ∧ i = .int .i64 j ∧ wr.ownsRow w.heap.size 9 1 v j (strCs ((l.take j).map wrT)) ∧ Below w.heap.size w wr ∧ Hid ((if (l.drop j).all mayT then (joinT l, 0) else ([], 1)) = R)) (fun _ i _ => l.length - (intOf i).toNat)
    case atStart => exact ⟨0, by omega, rfl, by simpa [strCs] using hown0, hb1, HR⟩
    case round =>
      obtain ⟨j, hj, rfl, hown, hbr, HJ⟩ := hrel
      have hzr := hbr.size
      by_cases hlt : j < l.length
      · obtain ⟨b1, o1, t, rfl, hbB1, hv, c0, c1⟩ := (hA.below hbr).at_ hlt
        have hJ := HJ.out
        rw [drop_atT l j t hv, List.all_cons] at hJ
        have hts : t.s.length ≤ 1000000 := HS.out t (List.mem_of_getElem? hv)
        have HTK := Lib.hid (take_map_snoc l j t hv)
        have i1 : (0 : Int) ≤ (j : Int) := by omega
        have i2 : (j : Int) < (l.length : Int) := by omega
        have hb0 := hbB1
        obtain ⟨w2, hw2⟩ : ∃ w2, wr.alloc (.cells #[.int .i64 t.k, .string ⟨t.s.toArray⟩] 56) = w2 := ⟨_, rfl⟩
        have k2 : Blk w2 wr.heap.size 56 #[.int .i64 t.k, .string ⟨t.s.toArray⟩] := by rw [← hw2]; exact Blk.new _ _ _
        have hbr2 : Below wr.heap.size wr w2 := by rw [← hw2]; ((repeat' (first | with_reducible exact Below.refl _ _ | with_reducible assumption | with_reducible refine Below.drew ?_ | with_reducible refine below_drewN ?_ _ | with_reducible refine Below.setCell ?_ ?_ _ | with_reducible refine Below.alloc ?_ ?_ _ | with_reducible refine Below.trans ?_ (Below.mono (by assumption) ?_))) <;> (first | (simp; done) | (simp; omega) | omega))
        have HW2 := Lib.hid hw2
        clear hw2 hv HJ
        have l2 := k2.lt
        obtain ⟨⟨y0, y1⟩, _⟩ := k2.two
        go_upto_region 7 with fail
        rw [HW2.out]
        clear HW2
        go_wp2_with fail
        refine (mayTok_any t.k t.s w2 hts).mono ?_
        rintro e w3 ⟨rfl, hb3⟩
        have k3 := k2.below hb3 l2
        have l3 := k3.lt
        have hbr3 : Below wr.heap.size wr w3 := hbr2.trans (hb3.mono hbr2.size)
        have hbw3 : Below w.heap.size w w3 := hbr.trans (hbr3.mono hzr)
        have hz3 := hbw3.size
        have hown3 := own_below hown hbr3
        clear y0 y1 k2 l2 hbr2 hb3
        obtain ⟨⟨y0, y1⟩, _⟩ := k3.two
        obtain ⟨m, hm⟩ : ∃ m, mayT ⟨t.k, t.s⟩ = m := ⟨_, rfl⟩
        rw [hm]
        have hmm : mayT t = m := hm
        rw [hmm] at hJ
        cases m
        · have HF : Hid (R = ([], 1)) := by show _ = _; rw [← hJ]; rfl
          clear hJ hm hmm
          go_wp2_with fail
          go_ret2
          exact ⟨by rw [HF.out]; rfl, hbw3⟩
        · have HF : Hid ((if (l.drop (j + 1)).all mayT then (joinT l, 0) else ([], 1)) = R) := by show _ = _; rw [← hJ]; rfl
          clear hJ hm
          have h40 := mayT_len hmm
          clear hmm
          by_cases h3 : t.k = 3
          · have HWR : Hid (wrT t = textF 2 0 t.s) := by show _ = _; unfold wrT; rw [if_pos h3]
            have e3 : (t.k == 3) = true := by simpa using h3
            clear h3
            go_wp2_with fail
            refine (text2_any 0 t.s w3 (HM.out.below hbw3 rfl)).mono ?_
            rintro e w5 ⟨rfl, hb5⟩
            have k5 := k3.below hb5 l3
            have l5 := k5.lt
            obtain ⟨⟨z0, z1⟩, _⟩ := k5.two
            have hbr5 : Below wr.heap.size wr w5 := hbr3.trans (hb5.mono hbr3.size)
            clear y0 y1 hown3 hbw3 hz3
            obtain ⟨X, hX⟩ : ∃ X, textF 2 0 t.s = X := ⟨_, rfl⟩
            rw [hX] at HWR ⊢
            clear hX
            go_upto_region 11 with fail
            refine wp_forget (fun wx => Blk wx wr.heap.size 56 #[.int .i64 t.k, .string ⟨X.toArray⟩] ∧ Below wr.heap.size wr wx) ⟨k5.set_ 1 _, by ((repeat' (first | with_reducible exact Below.refl _ _ | with_reducible assumption | with_reducible refine Below.drew ?_ | with_reducible refine below_drewN ?_ _ | with_reducible refine Below.setCell ?_ ?_ _ | with_reducible refine Below.alloc ?_ ?_ _ | with_reducible refine Below.trans ?_ (Below.mono (by assumption) ?_))) <;> (first | (simp; done) | (simp; omega) | omega))⟩ ?_
            rintro w6 ⟨k6, hbr6⟩
            clear z0 z1 k5 l5 hb5 hbr5 k3 l3 hbr3
            have hbw6 : Below w.heap.size w w6 := hbr.trans (hbr6.mono hzr)
            have hz6 := hbw6.size
            have hown6 := own_below hown hbr6
            obtain ⟨⟨y0, y1⟩, _⟩ := k6.two
            have l6 := k6.lt
            go_wp2_with (at_builtin; refine wpList_append_own _ rfl _ _ 75 rfl w.heap.size 9 i0 _ 1 16 Tryd.underlying75 hi0 zi0 zi1 zi2 rfl (by decide) _ _ _ rfl (hown6.alloc _) ⟨w6.heap.size, 0, none⟩ 1 1 [.string ⟨(X).toArray⟩] rfl rfl ?c1 ?c2 ?c3 ?c4 ?c5 ?_)
            case c1 => exact World.news_of_block (cs := #[.string ⟨(X).toArray⟩]) (t := 9) (fr := (0, 0)) (heap_alloc_new w6 _)
            case c2 => exact fun u hu => by simp at hu; subst hu; rfl
            case c3 => unfold maxLen; omega
            case c4 => omega
            case c5 => simp; omega
            intro v' w4 hown4 hg4 _
            go_wp2
            go_roundw
            case rel =>
              refine ⟨j + 1, by omega, by go_num, ?_, ?_, HF⟩
              · rw [HTK.out]; simpa [HWR.out] using hown4
              · refine Below.grown (w := w6.alloc (.cells #[.string ⟨(X).toArray⟩] 9)) ?_ hg4 (by simp; omega) (fun k hk => (hown6.lt k hk).1)
                ((repeat' (first | with_reducible exact Below.refl _ _ | with_reducible assumption | with_reducible refine Below.drew ?_ | with_reducible refine below_drewN ?_ _ | with_reducible refine Below.setCell ?_ ?_ _ | with_reducible refine Below.alloc ?_ ?_ _ | with_reducible refine Below.trans ?_ (Below.mono (by assumption) ?_))) <;> (first | (simp; done) | (simp; omega) | omega))
            case measure => simp [intOf]; omega
          · have HWR : Hid (wrT t = t.s) := by show _ = _; unfold wrT; rw [if_neg h3]
            have e3 : (t.k == 3) = false := by simpa using h3
            clear h3
            go_wp2_with (at_builtin; refine wpList_append_own _ rfl _ _ 75 rfl w.heap.size 9 i0 _ 1 16 Tryd.underlying75 hi0 zi0 zi1 zi2 rfl (by decide) _ _ _ rfl (hown3.alloc _) ⟨w3.heap.size, 0, none⟩ 1 1 [.string ⟨(t.s).toArray⟩] rfl rfl ?c1 ?c2 ?c3 ?c4 ?c5 ?_)
            case c1 => exact World.news_of_block (cs := #[.string ⟨(t.s).toArray⟩]) (t := 9) (fr := (0, 0)) (heap_alloc_new w3 _)
            case c2 => exact fun u hu => by simp at hu; subst hu; rfl
            case c3 => unfold maxLen; omega
            case c4 => omega
            case c5 => simp; omega
            intro v' w4 hown4 hg4 _
            go_wp2
            go_roundw
            case rel =>
              refine ⟨j + 1, by omega, by go_num, ?_, ?_, HF⟩
              · rw [HTK.out]; simpa [HWR.out] using hown4
              · refine Below.grown (w := w3.alloc (.cells #[.string ⟨(t.s).toArray⟩] 9)) ?_ hg4 (by simp; omega) (fun k hk => (hown3.lt k hk).1)
                ((repeat' (first | with_reducible exact Below.refl _ _ | with_reducible assumption | with_reducible refine Below.drew ?_ | with_reducible refine below_drewN ?_ _ | with_reducible refine Below.setCell ?_ ?_ _ | with_reducible refine Below.alloc ?_ ?_ _ | with_reducible refine Below.trans ?_ (Below.mono (by assumption) ?_))) <;> (first | (simp; done) | (simp; omega) | omega))
            case measure => simp [intOf]; omega
      · have HF : Hid (R = (joinT l, 0)) := by
          show _ = _; rw [← HJ.out, List.drop_of_length_le (by omega)]; rfl
        obtain rfl : j = l.length := by omega
        have HLJ : Hid (Lib.join (l.map wrT) [32] = joinT l) := lib_join l
        have hln : (joinT l).length ≤ 140737488355328 := by
          have h1 := joinT_len 1000000 l (fun t ht => HS.out t ht)
          have h2 : l.length * (2 * 1000000 + 3) ≤ 400 * (2 * 1000000 + 3) := Nat.mul_le_mul_right _ HG.out
          omega
        have HLN := Lib.hid hln
        clear hln
        rw [List.take_length] at hown
        have b0 : ¬ ((l.length : Int) < (l.length : Int)) := by omega
        clear HJ
        rcases own_str hown with ⟨c', rfl, h0⟩ | ⟨g, c', rfl, hc', hg1, hg2, hcells⟩
        · have hl0 : l = [] := List.eq_nil_of_length_eq_zero (by simpa using h0)
          subst hl0
          simp only [List.map_nil, List.length_nil]
          go_wp2_with (go_at_call 67; refine (Tryd.strings_Join_none none c' ⟨#[32]⟩ wr).mono ?_; rintro e w5 ⟨rfl, rfl⟩)
          go_ret2
          exact ⟨by rw [HF.out]; rfl, hbr⟩
        · have HC : Hid (∀ (j : Nat) x, (l.map fun t => (⟨(wrT t).toArray⟩ : ByteArray))[j]? = some x → wr.cell? ⟨g, 0 + j, none⟩ = some (.string x)) := by
            intro j x hx
            rw [List.getElem?_map, Option.map_eq_some_iff] at hx
            obtain ⟨t, ht, rfl⟩ := hx
            exact hcells j (wrT t) (by simp [ht])
          have hmm : (l.map fun t => (⟨(wrT t).toArray⟩ : ByteArray)).map (·.data.toList) = l.map wrT := by simp [Function.comp_def]
          have hjj : Lib.join ((l.map fun t => (⟨(wrT t).toArray⟩ : ByteArray)).map (·.data.toList)) (⟨#[32]⟩ : ByteArray).data.toList = joinT l := by rw [hmm]; exact HLJ.out
          have HJJ := Lib.hid hjj
          have hll : (l.map fun t => (⟨(wrT t).toArray⟩ : ByteArray)).length = l.length := List.length_map _
          have HLL := Lib.hid hll
          have hc2 : (l.map wrT).length = l.length := List.length_map _
          rw [hc2] at hc' ⊢
          clear hmm hjj hll hcells hc2
          have hS := Tryd.strings_Join g 0 c' (l.map fun t => (⟨(wrT t).toArray⟩ : ByteArray)) ⟨#[32]⟩ wr HC.out hg2 (by rw [HLL.out]; omega) (by rw [HLL.out]; exact hc') (by rw [HJJ.out]; exact HLN.out)
          rw [HLL.out, HJJ.out] at hS
          have HSJ := Lib.hid hS
          clear hS
          go_wp2_with (go_at_call 67; refine HSJ.out.mono ?_; rintro e w5 ⟨rfl, hb5⟩)
          go_ret2
          exact ⟨by rw [HF.out]; rfl, hbr.trans (hb5.mono hzr)⟩
  · have HR : Hid (R = ([], 1)) := by show _ = _; rw [← hR]; simp [joinF, h400]
    have h4 : (400 : Int) < l.length := by omega
    clear hR
    go_enter Tryd.func42, Tryd.ntmps42
    go_wp2
    go_ret2
    exact ⟨by rw [HR.out]; rfl, Below.refl _ _⟩

end Go.Proofs.YtelkcfkmejcjaaaDoor
