/- caddislaw03.tokens as a plain function. Condition: tokens that read as a list. -/
import Derived.Test.YtelkcfkmejcjaaaDoorLex4
namespace Go.Proofs.YtelkcfkmejcjaaaDoor
open Go.RowKit

attribute [local go_sem] ByteArray.extract_mk ba_get ba_append
attribute [local go_sem ↓] Go.wp_at_zero Go.wp_at_succ

def Tok.few (t : Tok) : Tok := ⟨t.k, t.s.take 60⟩
def tokF (l : List Tok) : List Tok := (l.take 401).map Tok.few
theorem tokF_len (l : List Tok) : (tokF l).length ≤ 401 := by simp [tokF]; omega
theorem tokF_s (l : List Tok) : ∀ t ∈ tokF l, t.s.length ≤ 60 := by
  intro t ht
  simp only [tokF, List.mem_map] at ht
  obtain ⟨u, _, rfl⟩ := ht
  simp [Tok.few]; omega
theorem few_snoc (l : List Tok) (j : Nat) (t : Tok) (h : l[j]? = some t) : ((l.take (j + 1)).map Tok.few).flatMap Tok.cells = ((l.take j).map Tok.few).flatMap Tok.cells ++ [.int .i64 t.k, .string ⟨(t.s.take 60).toArray⟩] := by
  obtain ⟨hj, rfl⟩ := List.getElem?_eq_some_iff.1 h
  rw [List.take_succ_eq_append_getElem hj, List.map_append, List.flatMap_append]
  rfl
theorem TkS.take {w : World} {B : Nat} {A : Option Addr} {l : List Tok} (n : Nat) (h : TkS w B A l) : TkS w B A (l.take n) := fun hl => by
  obtain ⟨b, off, rfl, hb, hr⟩ := h (by rw [List.length_take] at hl; omega)
  exact ⟨b, off, rfl, hb, fun i v hv => hr i v (by
    rw [List.getElem?_take] at hv
    split at hv
    · exact hv
    · cases hv)⟩
/-- What a call leaves that answers tokens, in memory of its own. -/
def RetTs (l : List Tok) (w : World) (e : Ending) (w' : World) : Prop :=
  ∃ A c, e = .returned (.slice A l.length c) ∧ l.length ≤ c ∧ c ≤ maxLen ∧ TkF w' w.heap.size w'.heap.size A l ∧ Below w.heap.size w w'


set_option maxRecDepth 100000 in
set_option maxHeartbeats 2000000 in
theorem tokens_any (A : Option Addr) (c : Nat) (l : List Tok) (w : World) (hl : l.length ≤ maxLen) (hc : l.length ≤ c) (hcm : c ≤ maxLen) (hs : ∀ t ∈ l, t.s.length ≤ maxLen) (hA : TkS w w.heap.size A l) :
    Calls Tryd.prog 41 #[.slice A l.length c] w (RetTs (tokF l) w) := by
  obtain ⟨i0, hi0, zi0, zi1, zi2⟩ := info_parts infoTk
  unfold maxLen at hl hcm
  by_cases h401 : 401 < l.length
  · obtain ⟨b, off, rfl, hb, _⟩ := hA (by omega)
    have hLA := hA.take 401
    obtain ⟨L, hL⟩ : ∃ L, l.take 401 = L := ⟨_, rfl⟩
    have HLl : Hid (L.length = 401) := by show _ = _; rw [← hL, List.length_take]; omega
    have HL : Hid (tokF l = L.map Tok.few) := by show _ = _; rw [← hL]; rfl
    have HS : Hid (∀ t ∈ L, t.s.length ≤ maxLen) := fun t ht => hs t (by rw [← hL] at ht; exact List.mem_of_mem_take ht)
    rw [hL] at hLA
    clear hs hL hA
    have p1 : (401 : Int) < (l.length : Int) := by omega
    have p2 : (401 : Int) ≤ (c : Int) := by omega
    go_enter Tryd.func41, Tryd.ntmps41
    go_upto_region 3 with fail
    rw [show (401 : Nat) = L.length from HLl.out.symm]
    have hLl := HLl.out
    have hLl2 : L.length ≤ 401 := by omega
    clear hLl
    go_wp2_with fail
    go_loopw [3, 4] (fun v i wr => ∃ j : Nat, j ≤ L.length ∧ i = .int .i64 j ∧ wr.ownsRow w.heap.size 56 2 v j (((L.take j).map Tok.few).flatMap Tok.cells) ∧ Below w.heap.size w wr) (fun _ i _ => L.length - (intOf i).toNat)
    case atStart => exact ⟨0, by omega, rfl, World.ownsRow_nil _ _ _ _, Below.refl _ _⟩
    case round =>
      obtain ⟨j, hj, rfl, hown, hbr⟩ := hrel
      have hzr := hbr.size
      by_cases hlt : j < L.length
      · obtain ⟨b1, o1, t, hAe, hbB1, hv, c0, c1⟩ := (hLA.below hbr).at_ hlt
        cases hAe
        have hts : t.s.length ≤ maxLen := HS.out t (List.mem_of_getElem? hv)
        unfold maxLen at hts
        have HTK := Lib.hid (few_snoc L j t hv)
        have i1 : (0 : Int) ≤ (j : Int) := by omega
        have i2 : (j : Int) < (L.length : Int) := by omega
        obtain ⟨w2, hw2⟩ : ∃ w2, wr.alloc (.cells #[.int .i64 t.k, .string ⟨t.s.toArray⟩] 56) = w2 := ⟨_, rfl⟩
        have k2 : Blk w2 wr.heap.size 56 #[.int .i64 t.k, .string ⟨t.s.toArray⟩] := by rw [← hw2]; exact Blk.new _ _ _
        have hbr2 : Below wr.heap.size wr w2 := by rw [← hw2]; ((repeat' (first | with_reducible exact Below.refl _ _ | with_reducible assumption | with_reducible refine Below.drew ?_ | with_reducible refine below_drewN ?_ _ | with_reducible refine Below.setCell ?_ ?_ _ | with_reducible refine Below.alloc ?_ ?_ _ | with_reducible refine Below.trans ?_ (Below.mono (by assumption) ?_))) <;> (first | (simp; done) | (simp; omega) | omega))
        have HW2 := Lib.hid hw2
        have hbw2 : Below w.heap.size w w2 := hbr.trans (hbr2.mono hzr)
        have hz2 := hbw2.size
        have hown2 := own_below hown hbr2
        clear hw2 hv
        have l2 := k2.lt
        obtain ⟨⟨y0, y1⟩, _⟩ := k2.two
        go_upto_region 8 with fail
        rw [HW2.out]
        clear HW2
        by_cases h60 : 60 < t.s.length
        · have p60 : (60 : Int) < (t.s.length : Int) := by omega
          have q60 : (60 : Int) ≤ (t.s.length : Int) := by omega
          obtain ⟨X, hX⟩ : ∃ X, t.s.take 60 = X := ⟨_, rfl⟩
          have HX := Lib.hid hX
          go_upto_region 10 with fail
          refine wp_forget (fun wx => Blk wx wr.heap.size 56 #[.int .i64 t.k, .string ⟨X.toArray⟩] ∧ Below wr.heap.size wr wx) ⟨k2.set_ 1 _, by ((repeat' (first | with_reducible exact Below.refl _ _ | with_reducible assumption | with_reducible refine Below.drew ?_ | with_reducible refine below_drewN ?_ _ | with_reducible refine Below.setCell ?_ ?_ _ | with_reducible refine Below.alloc ?_ ?_ _ | with_reducible refine Below.trans ?_ (Below.mono (by assumption) ?_))) <;> (first | (simp; done) | (simp; omega) | omega))⟩ ?_
          rintro w6 ⟨k6, hbr6⟩
          clear y0 y1 hown2 hbw2 hz2 k2 hbr2 l2 hX
          have hbw6 : Below w.heap.size w w6 := hbr.trans (hbr6.mono hzr)
          have hz6 := hbw6.size
          have hown6 := own_below hown hbr6
          obtain ⟨⟨y0, y1⟩, _⟩ := k6.two
          have l6 := k6.lt
          go_wp2_with (at_builtin; refine wpList_append_own _ rfl _ _ 43 rfl w.heap.size 56 i0 _ 2 24 Tryd.underlying43 hi0 zi0 zi1 zi2 rfl (by decide) _ _ _ rfl (hown6.alloc _) ⟨w6.heap.size, 0, none⟩ 1 1 [.int .i64 t.k, .string ⟨(X).toArray⟩] rfl rfl ?c1ua ?c2ua ?c3ua ?c4ua ?c5ua ?_)
          try case c1ua => exact World.news_of_block (cs := #[.int .i64 t.k, .string ⟨(X).toArray⟩]) (t := 56) (fr := (0, 0)) (heap_alloc_new w6 _)
          case c2ua => first | (exact fun u hu => by simp at hu; rcases hu with rfl | rfl <;> rfl) | exact ⟨rfl, rfl⟩
          case c3ua => unfold maxLen; omega
          case c4ua => omega
          case c5ua => first | omega | (simp; omega)
          intro v' w4 hown4 hg4 _
          go_wp2
          go_roundw
          case rel =>
            refine ⟨j + 1, by omega, by go_num, ?_, ?_⟩
            · rw [HTK.out, HX.out]; simpa using hown4
            · refine Below.grown (w := w6.alloc (.cells #[.int .i64 t.k, .string ⟨(X).toArray⟩] 56)) ?_ hg4 (by simp; omega) (fun k hk => (hown6.lt k hk).1)
              ((repeat' (first | with_reducible exact Below.refl _ _ | with_reducible assumption | with_reducible refine Below.drew ?_ | with_reducible refine below_drewN ?_ _ | with_reducible refine Below.setCell ?_ ?_ _ | with_reducible refine Below.alloc ?_ ?_ _ | with_reducible refine Below.trans ?_ (Below.mono (by assumption) ?_))) <;> (first | (simp; done) | (simp; omega) | omega))
          case measure => simp [intOf]; omega
        · have p60 : ¬ (60 : Int) < (t.s.length : Int) := by omega
          have HX : Hid (t.s.take 60 = t.s) := List.take_of_length_le (by omega)
          go_upto_region 10 with fail
          go_wp2_with (at_builtin; refine wpList_append_own _ rfl _ _ 43 rfl w.heap.size 56 i0 _ 2 24 Tryd.underlying43 hi0 zi0 zi1 zi2 rfl (by decide) _ _ _ rfl (hown2.alloc _) ⟨w2.heap.size, 0, none⟩ 1 1 [.int .i64 t.k, .string ⟨(t.s).toArray⟩] rfl rfl ?c1ub ?c2ub ?c3ub ?c4ub ?c5ub ?_)
          try case c1ub => exact World.news_of_block (cs := #[.int .i64 t.k, .string ⟨(t.s).toArray⟩]) (t := 56) (fr := (0, 0)) (heap_alloc_new w2 _)
          case c2ub => first | (exact fun u hu => by simp at hu; rcases hu with rfl | rfl <;> rfl) | exact ⟨rfl, rfl⟩
          case c3ub => unfold maxLen; omega
          case c4ub => omega
          case c5ub => first | omega | (simp; omega)
          intro v' w4 hown4 hg4 _
          go_wp2
          go_roundw
          case rel =>
            refine ⟨j + 1, by omega, by go_num, ?_, ?_⟩
            · rw [HTK.out, HX.out]; simpa using hown4
            · refine Below.grown (w := w2.alloc (.cells #[.int .i64 t.k, .string ⟨(t.s).toArray⟩] 56)) ?_ hg4 (by simp; omega) (fun k hk => (hown2.lt k hk).1)
              ((repeat' (first | with_reducible exact Below.refl _ _ | with_reducible assumption | with_reducible refine Below.drew ?_ | with_reducible refine below_drewN ?_ _ | with_reducible refine Below.setCell ?_ ?_ _ | with_reducible refine Below.alloc ?_ ?_ _ | with_reducible refine Below.trans ?_ (Below.mono (by assumption) ?_))) <;> (first | (simp; done) | (simp; omega) | omega))
          case measure => simp [intOf]; omega
      · obtain rfl : j = L.length := by omega
        have b0 : ¬ ((L.length : Int) < (L.length : Int)) := by omega
        rw [List.take_length] at hown
        go_wp2_with fail
        go_ret
        obtain ⟨A', c', rfl, h1, h2, h3⟩ := TkS.own hown
        rw [HL.out]
        exact ⟨A', c', by simp, by simpa using h1, h2, h3, hbr⟩
  · have HL : Hid (tokF l = l.map Tok.few) := by show _ = _; unfold tokF; rw [List.take_of_length_le (by omega)]
    have HS := Lib.hid hs
    have hLA := hA
    have hLl : l.length ≤ 401 := by omega
    have p1 : ¬ (401 : Int) < (l.length : Int) := by omega
    clear hs hA
    go_enter Tryd.func41, Tryd.ntmps41
    go_wp2_with fail
    go_loopw [3, 4] (fun v i wr => ∃ j : Nat, j ≤ l.length ∧ i = .int .i64 j ∧ wr.ownsRow w.heap.size 56 2 v j (((l.take j).map Tok.few).flatMap Tok.cells) ∧ Below w.heap.size w wr) (fun _ i _ => l.length - (intOf i).toNat)
    case atStart => exact ⟨0, by omega, rfl, World.ownsRow_nil _ _ _ _, Below.refl _ _⟩
    case round =>
      obtain ⟨j, hj, rfl, hown, hbr⟩ := hrel
      have hzr := hbr.size
      by_cases hlt : j < l.length
      · obtain ⟨b1, o1, t, hAe, hbB1, hv, c0, c1⟩ := (hLA.below hbr).at_ hlt
        cases hAe
        have hts : t.s.length ≤ maxLen := HS.out t (List.mem_of_getElem? hv)
        unfold maxLen at hts
        have HTK := Lib.hid (few_snoc l j t hv)
        have i1 : (0 : Int) ≤ (j : Int) := by omega
        have i2 : (j : Int) < (l.length : Int) := by omega
        obtain ⟨w2, hw2⟩ : ∃ w2, wr.alloc (.cells #[.int .i64 t.k, .string ⟨t.s.toArray⟩] 56) = w2 := ⟨_, rfl⟩
        have k2 : Blk w2 wr.heap.size 56 #[.int .i64 t.k, .string ⟨t.s.toArray⟩] := by rw [← hw2]; exact Blk.new _ _ _
        have hbr2 : Below wr.heap.size wr w2 := by rw [← hw2]; ((repeat' (first | with_reducible exact Below.refl _ _ | with_reducible assumption | with_reducible refine Below.drew ?_ | with_reducible refine below_drewN ?_ _ | with_reducible refine Below.setCell ?_ ?_ _ | with_reducible refine Below.alloc ?_ ?_ _ | with_reducible refine Below.trans ?_ (Below.mono (by assumption) ?_))) <;> (first | (simp; done) | (simp; omega) | omega))
        have HW2 := Lib.hid hw2
        have hbw2 : Below w.heap.size w w2 := hbr.trans (hbr2.mono hzr)
        have hz2 := hbw2.size
        have hown2 := own_below hown hbr2
        clear hw2 hv
        have l2 := k2.lt
        obtain ⟨⟨y0, y1⟩, _⟩ := k2.two
        go_upto_region 8 with fail
        rw [HW2.out]
        clear HW2
        by_cases h60 : 60 < t.s.length
        · have p60 : (60 : Int) < (t.s.length : Int) := by omega
          have q60 : (60 : Int) ≤ (t.s.length : Int) := by omega
          obtain ⟨X, hX⟩ : ∃ X, t.s.take 60 = X := ⟨_, rfl⟩
          have HX := Lib.hid hX
          go_upto_region 10 with fail
          refine wp_forget (fun wx => Blk wx wr.heap.size 56 #[.int .i64 t.k, .string ⟨X.toArray⟩] ∧ Below wr.heap.size wr wx) ⟨k2.set_ 1 _, by ((repeat' (first | with_reducible exact Below.refl _ _ | with_reducible assumption | with_reducible refine Below.drew ?_ | with_reducible refine below_drewN ?_ _ | with_reducible refine Below.setCell ?_ ?_ _ | with_reducible refine Below.alloc ?_ ?_ _ | with_reducible refine Below.trans ?_ (Below.mono (by assumption) ?_))) <;> (first | (simp; done) | (simp; omega) | omega))⟩ ?_
          rintro w6 ⟨k6, hbr6⟩
          clear y0 y1 hown2 hbw2 hz2 k2 hbr2 l2 hX
          have hbw6 : Below w.heap.size w w6 := hbr.trans (hbr6.mono hzr)
          have hz6 := hbw6.size
          have hown6 := own_below hown hbr6
          obtain ⟨⟨y0, y1⟩, _⟩ := k6.two
          have l6 := k6.lt
          go_wp2_with (at_builtin; refine wpList_append_own _ rfl _ _ 43 rfl w.heap.size 56 i0 _ 2 24 Tryd.underlying43 hi0 zi0 zi1 zi2 rfl (by decide) _ _ _ rfl (hown6.alloc _) ⟨w6.heap.size, 0, none⟩ 1 1 [.int .i64 t.k, .string ⟨(X).toArray⟩] rfl rfl ?c1va ?c2va ?c3va ?c4va ?c5va ?_)
          try case c1va => exact World.news_of_block (cs := #[.int .i64 t.k, .string ⟨(X).toArray⟩]) (t := 56) (fr := (0, 0)) (heap_alloc_new w6 _)
          case c2va => first | (exact fun u hu => by simp at hu; rcases hu with rfl | rfl <;> rfl) | exact ⟨rfl, rfl⟩
          case c3va => unfold maxLen; omega
          case c4va => omega
          case c5va => first | omega | (simp; omega)
          intro v' w4 hown4 hg4 _
          go_wp2
          go_roundw
          case rel =>
            refine ⟨j + 1, by omega, by go_num, ?_, ?_⟩
            · rw [HTK.out, HX.out]; simpa using hown4
            · refine Below.grown (w := w6.alloc (.cells #[.int .i64 t.k, .string ⟨(X).toArray⟩] 56)) ?_ hg4 (by simp; omega) (fun k hk => (hown6.lt k hk).1)
              ((repeat' (first | with_reducible exact Below.refl _ _ | with_reducible assumption | with_reducible refine Below.drew ?_ | with_reducible refine below_drewN ?_ _ | with_reducible refine Below.setCell ?_ ?_ _ | with_reducible refine Below.alloc ?_ ?_ _ | with_reducible refine Below.trans ?_ (Below.mono (by assumption) ?_))) <;> (first | (simp; done) | (simp; omega) | omega))
          case measure => simp [intOf]; omega
        · have p60 : ¬ (60 : Int) < (t.s.length : Int) := by omega
          have HX : Hid (t.s.take 60 = t.s) := List.take_of_length_le (by omega)
          go_upto_region 10 with fail
          go_wp2_with (at_builtin; refine wpList_append_own _ rfl _ _ 43 rfl w.heap.size 56 i0 _ 2 24 Tryd.underlying43 hi0 zi0 zi1 zi2 rfl (by decide) _ _ _ rfl (hown2.alloc _) ⟨w2.heap.size, 0, none⟩ 1 1 [.int .i64 t.k, .string ⟨(t.s).toArray⟩] rfl rfl ?c1vb ?c2vb ?c3vb ?c4vb ?c5vb ?_)
          try case c1vb => exact World.news_of_block (cs := #[.int .i64 t.k, .string ⟨(t.s).toArray⟩]) (t := 56) (fr := (0, 0)) (heap_alloc_new w2 _)
          case c2vb => first | (exact fun u hu => by simp at hu; rcases hu with rfl | rfl <;> rfl) | exact ⟨rfl, rfl⟩
          case c3vb => unfold maxLen; omega
          case c4vb => omega
          case c5vb => first | omega | (simp; omega)
          intro v' w4 hown4 hg4 _
          go_wp2
          go_roundw
          case rel =>
            refine ⟨j + 1, by omega, by go_num, ?_, ?_⟩
            · rw [HTK.out, HX.out]; simpa using hown4
            · refine Below.grown (w := w2.alloc (.cells #[.int .i64 t.k, .string ⟨(t.s).toArray⟩] 56)) ?_ hg4 (by simp; omega) (fun k hk => (hown2.lt k hk).1)
              ((repeat' (first | with_reducible exact Below.refl _ _ | with_reducible assumption | with_reducible refine Below.drew ?_ | with_reducible refine below_drewN ?_ _ | with_reducible refine Below.setCell ?_ ?_ _ | with_reducible refine Below.alloc ?_ ?_ _ | with_reducible refine Below.trans ?_ (Below.mono (by assumption) ?_))) <;> (first | (simp; done) | (simp; omega) | omega))
          case measure => simp [intOf]; omega
      · obtain rfl : j = l.length := by omega
        have b0 : ¬ ((l.length : Int) < (l.length : Int)) := by omega
        rw [List.take_length] at hown
        go_wp2_with fail
        go_ret
        obtain ⟨A', c', rfl, h1, h2, h3⟩ := TkS.own hown
        rw [HL.out]
        exact ⟨A', c', by simp, by simpa using h1, h2, h3, hbr⟩

end Go.Proofs.YtelkcfkmejcjaaaDoor
