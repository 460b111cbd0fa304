/- caddislaw02.Few: the first 14 values of a row, each with a text of at most 60 octets. Condition: the slice reads as a list of values. -/
import Derived.Test.YtkeeekifejholaaRef1
namespace Go.Proofs.Ytkeeekifejholaa
open Go.RowKit

attribute [local go_sem] ByteArray.extract_mk ba_get

theorem infoV : (Try.prog.info? 31).map (fun i => (i.zero, i.size, i.bytes)) = some (some (.agg #[.int .i64 0, .int .i64 0, .string ⟨#[]⟩]), 3, 32) := by kernel_rfl

def fewV (v : V) : V := ⟨v.k, v.i, v.s.take 60⟩
def fewL (l : List V) : List V := (l.take 14).map fewV

theorem fewL_snoc (l : List V) (j : Nat) (v : V) (h : l[j]? = some v) : (l.take (j + 1)).map fewV = (l.take j).map fewV ++ [fewV v] := by
  rw [List.take_add_one, h]; simp

set_option maxHeartbeats 400000 in
theorem few_any (A : Option Addr) (c : Nat) (l : List V) (w : World) (hl : l.length ≤ maxLen) (h : VS w w.heap.size A l) :
    Calls Try.prog 11 #[.slice A l.length c] w (RetVS (fewL l) w) := by
  unfold maxLen at hl
  obtain ⟨i0, hi0, zi0, zi1, zi2⟩ := info_parts infoV
  go_enter Try.func11, Try.ntmps11
  go_wp2
  go_loopw [3, 4] (fun v i wr => ∃ j : Nat, j ≤ l.length ∧ j ≤ 14 ∧ i = .int .i64 j ∧ wr.ownsRow w.heap.size 31 3 v j (((l.take j).map fewV).flatMap V.cells) ∧ Below w.heap.size w wr) (fun _ i _ => l.length - (intOf i).toNat)
  case atStart => exact ⟨0, by omega, by omega, rfl, World.ownsRow_nil _ _ _ _, Below.refl _ _⟩
  case round =>
    obtain ⟨j, hj1, hj2, rfl, hown, hbw⟩ := hrel
    by_cases hlt : j < l.length
    · by_cases h14 : j < 14
      · obtain ⟨b, off, v, rfl, hbB, hv, c0, c1, c2⟩ := (h.below hbw).at_ hlt
        have HV := Lib.hid hv
        clear hv
        go_wp2_with fail
        refine (few1_any _ _ _ _).mono ?_
        rintro e w1 ⟨rfl, hb1⟩
        have hz1 := hb1.size
        have hown1 : w1.ownsRow w.heap.size 31 3 u3 j (((l.take j).map fewV).flatMap V.cells) := own_below hown hb1
        have hzw := hbw.size
        go_wp2_with (at_builtin; refine wpList_append_own _ rfl _ _ 22 rfl w.heap.size 31 i0 _ 3 32 Try.underlying22 hi0 zi0 zi1 zi2 rfl (by decide) _ _ _ rfl (hown1.alloc _) ⟨w1.heap.size, 0, none⟩ 1 1 (fewV v).cells rfl rfl ?c1 ?c2 ?c3 ?c4 ?c5 ?_)
        case c1 =>
          exact World.news_of_block (cs := #[.int .i64 v.k, .int .i64 v.i, .string ⟨(v.s.take 60).toArray⟩]) (t := 31) (fr := (0, 0)) (heap_alloc_new w1 _)
        case c2 => exact fun u hu => cells_one [fewV v] u (by simpa using hu)
        case c3 => unfold maxLen; omega
        case c4 => omega
        case c5 => simp; omega
        intro v' w2 hown2 hg2 _
        go_wp2
        go_roundw
        case rel =>
          refine ⟨j + 1, by omega, by omega, by go_num, ?_, ?_⟩
          · rw [fewL_snoc l j v HV.out, List.flatMap_append]
            simpa using hown2
          · refine Below.grown (w := w1.alloc (.cells #[.int .i64 v.k, .int .i64 v.i, .string ⟨(v.s.take 60).toArray⟩] 31)) ?_ hg2 (by simp; omega) (fun k hk => (hown.lt k hk).1)
            ((repeat' (first | with_reducible exact Below.refl _ _ | with_reducible assumption | with_reducible refine Below.drew ?_ | with_reducible refine below_drewN ?_ _ | with_reducible refine Below.setCell ?_ ?_ _ | with_reducible refine Below.alloc ?_ ?_ _ | with_reducible refine Below.trans ?_ (Below.mono (by assumption) ?_))) <;> (first | (simp; done) | (simp; omega) | omega))
        case measure => simp [intOf]; omega
      · go_wp2
        go_ret
        obtain ⟨A', c', rfl, hc1, hc2, hv⟩ := VS.own hown
        have e : fewL l = (l.take j).map fewV := by unfold fewL; rw [show j = 14 by omega]
        refine ⟨A', c', ?_, ?_, hc2, ?_, hbw⟩
        · rw [e]; rfl
        · rw [e]; exact hc1
        · rw [e]; exact hv
    · go_wp2
      go_ret
      obtain ⟨A', c', rfl, hc1, hc2, hv⟩ := VS.own hown
      have e : fewL l = (l.take j).map fewV := by unfold fewL; rw [List.take_of_length_le (i := 14) (by omega), List.take_of_length_le (by omega)]
      refine ⟨A', c', ?_, ?_, hc2, ?_, hbw⟩
      · rw [e]; rfl
      · rw [e]; exact hc1
      · rw [e]; exact hv
end Go.Proofs.Ytkeeekifejholaa
