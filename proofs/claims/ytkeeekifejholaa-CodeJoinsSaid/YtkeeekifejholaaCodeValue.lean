/- code.Value: a value's octets. Condition: a text is no longer than memory reaches. -/
import Derived.Test.YtkeeekifejholaaMay
import Derived.Test.YtkeeekifejholaaBytes
import Derived.Deep.AppendLies
namespace Go.Proofs.Ytkeeekifejholaa
open Go.RowKit

attribute [local go_sem] ByteArray.extract_mk ba_get

theorem infoB : (Try.prog.info? 5).map (fun i => (i.zero, i.size, i.bytes)) = some (some (.int .u8 0), 1, 1) := by kernel_rfl

set_option maxRecDepth 100000 in
set_option maxHeartbeats 400000 in
theorem cvalue_text (s : List UInt8) (w : World) (hs : s.length ≤ 1000000) (hm : mayB 2 0 s = true) :
    Calls Try.prog 15 #[.agg #[.int .i64 2, .int .i64 0, .string ⟨s.toArray⟩]] w (Ret (.string ⟨(2 :: s ++ [0]).toArray⟩) w) := by
  obtain ⟨i0, hi0, zi0, zi1, zi2⟩ := info_parts infoB
  have HM := Lib.hid hm
  clear hm
  go_enter Try.func15, Try.ntmps15
  go_wp2_with fail
  refine (may_any _ _ _ _).mono ?_
  rintro e w1 ⟨rfl, hb1⟩
  rw [HM.out]
  obtain ⟨hc1, hf1⟩ := bcell hb1
  have hz1 := hb1.size
  simp at hz1 hc1 hf1
  have hy1 : w.heap.size < w1.heap.size := by omega
  have hown0 := own_new w1 (w.heap.size + 1) 5 2 2 rfl (by omega)
  go_wp2_with (at_builtin; refine Lib.wpList_append_own_string _ rfl (.tmp 37) (.tmp 39) 45 9 rfl (w.heap.size + 1) 5 i0 Try.underlying45 Try.underlying9 hi0 zi0 zi1 zi2 _ _ _ rfl hown0 ⟨s.toArray⟩ rfl ?c1 ?c2 ?c3 ?_)
  case c1 => simp [ba_size, maxLen]; omega
  case c2 => simp [ba_size]; omega
  case c3 => simp; omega
  intro v2 w2 hown2 hg2 _
  rw [strCells_bcs, ← bcs_append] at hown2
  have hz2 := hg2.size
  simp at hz2
  go_wp2_with (at_builtin; refine wpList_append_own _ rfl (.tmp 41) (.tmp 42) 45 rfl (w.heap.size + 1) 5 i0 _ 1 1 Try.underlying45 hi0 zi0 zi1 zi2 rfl (by decide) _ _ _ rfl (hown2.alloc _) ⟨w2.heap.size, 0, none⟩ 1 1 (bcs [0]) rfl rfl ?d1 ?d2 ?d3 ?d4 ?d5 ?_)
  case d1 => exact World.news_of_block (cs := #[.int .u8 0]) (t := 5) (fr := (0, 0)) (heap_alloc_new w2 _)
  case d2 => exact bcs_one _
  case d3 => simp [maxLen]; omega
  case d4 => omega
  case d5 => simp; omega
  intro v3 w3 hown3 hg3 _
  rw [← bcs_append] at hown3
  have hcv := own_text (P := Try.prog) Try.underlying45 Try.underlying5 Try.underlying9 hown3
  have hl2 := hown2.lt
  have hbb : Below w.heap.size w w3 := by
    have h1 : Below w.heap.size w (w1.alloc (Obj.cells #[Value.int IntKind.u8 2] 5)) := by ((repeat' (first | with_reducible exact Below.refl _ _ | with_reducible assumption | with_reducible refine Below.drew ?_ | with_reducible refine below_drewN ?_ _ | with_reducible refine Below.setCell ?_ ?_ _ | with_reducible refine Below.alloc ?_ ?_ _ | with_reducible refine Below.trans ?_ (Below.mono (by assumption) ?_))) <;> (first | (simp; done) | (simp; omega) | omega))
    have h2 := h1.grown hg2 (by simp; omega) (by simp [Value.ownBlock]; omega)
    exact (h2.alloc (by omega) _).grown hg3 (by simp; omega) (fun k hk => by have := hl2 k hk; omega)
  clear hown3 hown2 hg2 hg3 hl2 hown0
  go_wp2
  go_ret
  exact ⟨rfl, hbb⟩

end Go.Proofs.Ytkeeekifejholaa
