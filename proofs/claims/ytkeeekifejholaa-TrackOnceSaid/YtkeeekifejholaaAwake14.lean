/- caddislaw14.awake answers true. Condition: none. -/
import Derived.Test.YtkeeekifejholaaTrack6
import Derived.Test.YtkeeekifejholaaTrack7
import Derived.Test.YtkeeekifejholaaTrack8
namespace Go.Proofs.Ytkeeekifejholaa
open Go.RowKit

attribute [local go_sem] ByteArray.extract_mk ba_get
attribute [local go_sem ↓] Go.wp_at_zero Go.wp_at_succ run_eql_V run_neq_V run_nil_V

theorem num_any (n : Int) (w : World) : Calls Try.prog 40 #[.int .i64 n] w (Ret (.agg #[.int .i64 1, .int .i64 n, .string ⟨#[]⟩]) w) := by
  go_enter Try.func40, Try.ntmps40
  go_wp2
  refine bodyPost_ret (v := .agg #[.int .i64 1, .int .i64 n, .string ⟨#[]⟩]) (by simp [results, Try.results40, go_sem]) rfl ⟨rfl, by ((repeat' (first | with_reducible exact Below.refl _ _ | with_reducible assumption | with_reducible refine Below.drew ?_ | with_reducible refine below_drewN ?_ _ | with_reducible refine Below.setCell ?_ ?_ _ | with_reducible refine Below.alloc ?_ ?_ _ | with_reducible refine Below.trans ?_ (Below.mono (by assumption) ?_))) <;> (first | (simp; done) | (simp; omega) | omega))⟩

theorem vs_block {w : World} {g : Nat} {e : TypeId} {l : List V} (h : Blk w g e (l.flatMap V.cells).toArray) : VS w w.heap.size (some ⟨g, 0, none⟩) l := by
  intro _
  refine ⟨g, 0, rfl, h.lt, fun i v hv => ?_⟩
  have key : ∀ j u, j < 3 → v.cells[j]? = some u → w.cell? ⟨g, 0 + i * 3 + j, none⟩ = some u := by
    intro j u hj hu
    rw [h.cell, List.getElem?_toArray, Nat.zero_add, cells_at l i j v hv hj]
    exact hu
  exact ⟨key 0 _ (by omega) rfl, key 1 _ (by omega) rfl, key 2 _ (by omega) rfl⟩

/-- A track lies in block g. -/
def TB (g : Nat) (u : List V) (t : List UInt8) (w : World) : Prop := ∃ A c B d, Blk w g 47 #[.slice A u.length c, .slice B t.length d] ∧ VS w w.heap.size A u ∧ BS w w.heap.size B t
theorem TB.below {g : Nat} {u : List V} {t : List UInt8} {w w' : World} (h : TB g u t w) (hb : Below w.heap.size w w') : TB g u t w' := by
  obtain ⟨A, c, B, d, h1, h2, h3⟩ := h
  exact ⟨A, c, B, d, h1.below hb h1.lt, (h2.below hb).more hb.size, (h3.below hb).more hb.size⟩

theorem Blk.set2 {w : World} {g : Nat} {t : TypeId} {x0 x1 : Value} (h : Blk w g t #[x0, x1]) (y0 y1 : Value) : Blk ((w.setCell ⟨g, 0, none⟩ y0).setCell ⟨g, 1, none⟩ y1) g t #[y0, y1] := (h.set_ 0 y0).set_ 1 y1
theorem tb_new {w : World} {A B : Option Addr} {c d lo : Nat} {u : List V} {t : List UInt8} (hv : VF w lo w.heap.size A u) (hs : BF w lo w.heap.size B t) : TB w.heap.size u t (w.alloc (.cells #[.slice A u.length c, .slice B t.length d] 47)) := by
  have hb : Below w.heap.size w (w.alloc (.cells #[.slice A u.length c, .slice B t.length d] 47)) := by ((repeat' (first | with_reducible exact Below.refl _ _ | with_reducible assumption | with_reducible refine Below.drew ?_ | with_reducible refine below_drewN ?_ _ | with_reducible refine Below.setCell ?_ ?_ _ | with_reducible refine Below.alloc ?_ ?_ _ | with_reducible refine Below.trans ?_ (Below.mono (by assumption) ?_))) <;> (first | (simp; done) | (simp; omega) | omega))
  exact ⟨A, c, B, d, Blk.new _ _ _, ((hv.vs (Nat.le_refl _)).below hb).more hb.size, ((hs.bs (Nat.le_refl _)).below hb).more hb.size⟩
theorem BF.setCell {w : World} {lo hi : Nat} {A : Option Addr} {l : List UInt8} (h : BF w lo hi A l) {p : Addr} (hp : p.block < lo ∨ hi ≤ p.block) (u : Value) : BF (w.setCell p u) lo hi A l := fun hl => by
  obtain ⟨b, off, rfl, h1, h2, h3⟩ := h hl
  exact ⟨b, off, rfl, h1, h2, fun i c hc => (World.cell?_setCell_other w p ⟨b, off + i, none⟩ u (fun e => by subst e; simp only at hp; omega)).trans (h3 i c hc)⟩
theorem tb_set {w : World} {g : Nat} {x0 x1 : Value} {A B : Option Addr} {c d lo : Nat} {u : List V} {t : List UInt8} (hk : Blk w g 47 #[x0, x1]) (hv : VF w lo w.heap.size A u) (hs : BF w lo w.heap.size B t) (hg : g < lo) :
    TB g u t ((w.setCell ⟨g, 0, none⟩ (.slice A u.length c)).setCell ⟨g, 1, none⟩ (.slice B t.length d)) :=
  ⟨A, c, B, d, hk.set2 _ _, ((hv.setCell (.inl hg) _).setCell (.inl hg) _).vs (by simp), ((hs.setCell (.inl hg) _).setCell (.inl hg) _).bs (by simp)⟩

def u3 : List V := [⟨1, 1, []⟩, ⟨1, 2, []⟩, ⟨1, 3, []⟩]
theorem ex_new : newF u3 = ((u3, [0]), 0) := by kernel_rfl
theorem ex_mark : markF u3 [0] ⟨1, 2, []⟩ = ((u3, [2]), 0) := by kernel_rfl
theorem ex_again : markF u3 [2] ⟨1, 2, []⟩ = (([], []), 7) := by kernel_rfl
theorem ex_text : textT u3 [2] = ([48, 49, 48], 0) := by kernel_rfl
theorem ex_pend : pendF u3 [2] = [⟨1, 1, []⟩, ⟨1, 3, []⟩] := by kernel_rfl

set_option maxRecDepth 100000 in
set_option maxHeartbeats 4000000 in
theorem awake14_any (w : World) : Calls Try.prog 24 #[] w (Ret (.bool true) w) := by
  have hl3 : u3.length ≤ 1000000 := by decide
  go_enter Try.func24, Try.ntmps24
  go_wp2_with fail
  refine (num_any 1 _).mono ?_
  rintro e w1 ⟨rfl, hb1⟩
  go_wp2_with fail
  refine (num_any 2 _).mono ?_
  rintro e w2 ⟨rfl, hb2⟩
  go_wp2_with fail
  refine (num_any 3 _).mono ?_
  rintro e w3 ⟨rfl, hb3⟩
  have hbw3 : Below w.heap.size w w3 := (hb1.trans (hb2.mono hb1.size)).trans (hb3.mono (Nat.le_trans hb1.size hb2.size))
  clear hb1 hb2 hb3
  obtain ⟨w4, hw4⟩ : ∃ w4, w3.alloc (.cells #[.int .i64 1, .int .i64 1, .string ⟨#[]⟩, .int .i64 1, .int .i64 2, .string ⟨#[]⟩, .int .i64 1, .int .i64 3, .string ⟨#[]⟩] 31) = w4 := ⟨_, rfl⟩
  have hk4 : Blk w4 w3.heap.size 31 (u3.flatMap V.cells).toArray := by rw [← hw4]; exact Blk.new w3 _ _
  have hb4 : Below w3.heap.size w3 w4 := by rw [← hw4]; ((repeat' (first | with_reducible exact Below.refl _ _ | with_reducible assumption | with_reducible refine Below.drew ?_ | with_reducible refine below_drewN ?_ _ | with_reducible refine Below.setCell ?_ ?_ _ | with_reducible refine Below.alloc ?_ ?_ _ | with_reducible refine Below.trans ?_ (Below.mono (by assumption) ?_))) <;> (first | (simp; done) | (simp; omega) | omega))
  have HW4 := Lib.hid hw4
  clear hw4
  have hv4 := vs_block hk4
  go_wp2_with fail
  rw [HW4.out]
  refine (new_any (some ⟨w3.heap.size, 0, none⟩) 3 u3 w4 hl3 hv4).mono ?_
  rw [ex_new]
  rintro e w5 ⟨A5, c5, B5, d5, rfl, hv5, hs5, hb5⟩
  obtain ⟨w6, hw6⟩ : ∃ w6, w5.alloc (.cells #[.slice A5 3 c5, .slice B5 1 d5] 47) = w6 := ⟨_, rfl⟩
  have hb6 : Below w5.heap.size w5 w6 := by rw [← hw6]; ((repeat' (first | with_reducible exact Below.refl _ _ | with_reducible assumption | with_reducible refine Below.drew ?_ | with_reducible refine below_drewN ?_ _ | with_reducible refine Below.setCell ?_ ?_ _ | with_reducible refine Below.alloc ?_ ?_ _ | with_reducible refine Below.trans ?_ (Below.mono (by assumption) ?_))) <;> (first | (simp; done) | (simp; omega) | omega))
  have ht6 : TB w5.heap.size u3 [0] w6 := ⟨A5, c5, B5, d5, by rw [← hw6]; exact Blk.new w5 _ _, ((hv5.vs (Nat.le_refl _)).below hb6).more hb6.size, ((hs5.bs (Nat.le_refl _)).below hb6).more hb6.size⟩
  have hbw6 : Below w.heap.size w w6 := ((hbw3.trans (hb4.mono hbw3.size)).trans (hb5.mono (Nat.le_trans hbw3.size hb4.size))).trans (hb6.mono (Nat.le_trans (Nat.le_trans hbw3.size hb4.size) hb5.size))
  have HW6 := Lib.hid hw6
  clear hw6 hb6 hv5 hs5 hb5 hv4 hk4 hb4 hbw3
  dsimp only [u3, List.length_cons, List.length_nil]
  go_upto_region 2 with fail
  rw [HW6.out]
  generalize w5.heap.size = g1 at *
  clear HW6
  have HT6 : Hid (TB g1 u3 [0] w6) := ht6
  obtain ⟨A, c, B, d, k6, v6, s6⟩ := ht6
  have HSH : Hid (∀ w' : World, Below w6.heap.size w6 w' → (w'.cell? ⟨g1, 0, none⟩ = some (.slice A 3 c) ∧ w'.cell? ⟨g1, 1, none⟩ = some (.slice B 1 d)) ∧ VS w' w'.heap.size A u3 ∧ BS w' w'.heap.size B [0]) :=
    fun w' h => ⟨(k6.below h k6.lt).two.1, (v6.below h).more h.size, (s6.below h).more h.size⟩
  have l6 := k6.lt
  have hs6 := hbw6.size
  obtain ⟨q0, q1⟩ := k6.two.1
  go_cut [3, 4] (fun s3 s4 wx => s4 = .int .i64 0 ∧ ∃ g2, s3 = .pointer (some ⟨g2, 0, none⟩) ∧ TB g2 u3 [2] wx ∧ Below w6.heap.size w6 wx)
  case first =>
    go_region_with (first | (go_at_call 40; refine (num_any 2 _).mono ?_; rintro e w7 ⟨rfl, hb7⟩; obtain ⟨hc7, hf7⟩ := bcell hb7; have hz7 := hb7.size; (try simp at hz7 hc7 hf7); (try have l7 : w6.heap.size < w7.heap.size := (by omega)); have l70 : w6.heap.size < w6.heap.size + 1 := (by omega); have l71 : g1 < w7.heap.size := (by omega); have l72 : g1 < w6.heap.size + 1 := (by omega)) | (go_at_call 25; refine (mark_any A B c d u3 [0] ⟨1, 2, []⟩ _ hl3 (by decide) (HSH.out _ (by ((repeat' (first | with_reducible exact Below.refl _ _ | with_reducible assumption | with_reducible refine Below.drew ?_ | with_reducible refine below_drewN ?_ _ | with_reducible refine Below.setCell ?_ ?_ _ | with_reducible refine Below.alloc ?_ ?_ _ | with_reducible refine Below.trans ?_ (Below.mono (by assumption) ?_))) <;> (first | (simp; done) | (simp; omega) | omega)))).2.1 (HSH.out _ (by ((repeat' (first | with_reducible exact Below.refl _ _ | with_reducible assumption | with_reducible refine Below.drew ?_ | with_reducible refine below_drewN ?_ _ | with_reducible refine Below.setCell ?_ ?_ _ | with_reducible refine Below.alloc ?_ ?_ _ | with_reducible refine Below.trans ?_ (Below.mono (by assumption) ?_))) <;> (first | (simp; done) | (simp; omega) | omega)))).2.2).mono ?_; rw [ex_mark]; rintro e w8 ⟨A8, c8, B8, d8, rfl, hv8, hs8, hb8⟩; obtain ⟨hc8, hf8⟩ := bcell hb8; have hz8 := hb8.size; (try simp at hz8 hc8 hf8); (try have l8 : w6.heap.size < w8.heap.size := (by omega)); (try have l9 : w7.heap.size < w8.heap.size := (by omega)); have l80 : w7.heap.size < w7.heap.size + 1 := (by omega)))
    all_goals (go_wp2_with fail; go_meet)
    all_goals refine ⟨rfl, _, rfl, ?_, ?_⟩
    all_goals first
      | exact tb_new hv8 hs8
      | (refine tb_set (x0 := .slice none 0 0) (x1 := .slice none 0 0) ?_ hv8 hs8 ?_ <;> first | (((repeat' (first | with_reducible assumption | with_reducible refine Blk.drew ?_ | with_reducible refine Blk.drewN ?_ _ | with_reducible refine Blk.set3 ?_ _ _ _ | with_reducible refine Blk.far ?_ ?_ _ | ((with_reducible refine Blk.new' _ _ _ _ ?_) <;> (first | (simp; done) | (simp; omega) | omega) <;> done) | with_reducible refine Blk.alloc ?_ _ | with_reducible refine Blk3.drew ?_ | with_reducible refine Blk3.drewN ?_ _ | ((with_reducible refine Blk3.new' _ _ _ _ _ _ ?_) <;> (first | (simp; done) | (simp; omega) | omega) <;> done) | with_reducible refine Blk3.alloc ?_ _ | with_reducible refine Blk3.far ?_ ?_ _ | with_reducible refine Blk3.below ?_ (by assumption) ?_ | with_reducible refine Blk.below ?_ (by assumption) ?_)) <;> (first | (simp; done) | (simp; omega) | omega)); done) | (simp; omega))
      | (((repeat' (first | with_reducible exact Below.refl _ _ | with_reducible assumption | with_reducible refine Below.drew ?_ | with_reducible refine below_drewN ?_ _ | with_reducible refine Below.setCell ?_ ?_ _ | with_reducible refine Below.alloc ?_ ?_ _ | with_reducible refine Below.trans ?_ (Below.mono (by assumption) ?_))) <;> (first | (simp; done) | (simp; omega) | omega)); done)
  case rest =>
    obtain ⟨rfl, g2, rfl, ht7, hb7⟩ := hcut
    have hbwc : Below w.heap.size w wc := hbw6.trans (hb7.mono hs6)
    clear k6 v6 s6 HSH q0 q1 hb7 hbw6 HT6 l6 hs6
    obtain ⟨A2, c2, B2, d2, k7, v7, s7⟩ := ht7
    have HSH : Hid (∀ w' : World, Below wc.heap.size wc w' → (w'.cell? ⟨g2, 0, none⟩ = some (.slice A2 3 c2) ∧ w'.cell? ⟨g2, 1, none⟩ = some (.slice B2 1 d2)) ∧ VS w' w'.heap.size A2 u3 ∧ BS w' w'.heap.size B2 [2]) :=
      fun w' h => ⟨(k7.below h k7.lt).two.1, (v7.below h).more h.size, (s7.below h).more h.size⟩
    have l7 := k7.lt
    have hs7 := hbwc.size
    obtain ⟨q0, q1⟩ := k7.two.1
    obtain ⟨W, rfl⟩ : ∃ W, W = wc := ⟨_, rfl⟩
    go_upto_region 3 with fail
    go_cut [6] (fun s6 wx => s6 = .int .i64 7 ∧ Below W.heap.size W wx)
    case first =>
      go_region_with (first | (go_at_call 40; refine (num_any 2 _).mono ?_; rintro e w7 ⟨rfl, hb7⟩; obtain ⟨hc7, hf7⟩ := bcell hb7; have hz7 := hb7.size; (try simp at hz7 hc7 hf7); (try have l7 : W.heap.size < w7.heap.size := (by omega)); have l70 : W.heap.size < W.heap.size + 1 := (by omega); have l71 : g2 < w7.heap.size := (by omega); have l72 : g2 < W.heap.size + 1 := (by omega)) | (go_at_call 25; refine (mark_any A2 B2 c2 d2 u3 [2] ⟨1, 2, []⟩ _ hl3 (by decide) (HSH.out _ (by ((repeat' (first | with_reducible exact Below.refl _ _ | with_reducible assumption | with_reducible refine Below.drew ?_ | with_reducible refine below_drewN ?_ _ | with_reducible refine Below.setCell ?_ ?_ _ | with_reducible refine Below.alloc ?_ ?_ _ | with_reducible refine Below.trans ?_ (Below.mono (by assumption) ?_))) <;> (first | (simp; done) | (simp; omega) | omega)))).2.1 (HSH.out _ (by ((repeat' (first | with_reducible exact Below.refl _ _ | with_reducible assumption | with_reducible refine Below.drew ?_ | with_reducible refine below_drewN ?_ _ | with_reducible refine Below.setCell ?_ ?_ _ | with_reducible refine Below.alloc ?_ ?_ _ | with_reducible refine Below.trans ?_ (Below.mono (by assumption) ?_))) <;> (first | (simp; done) | (simp; omega) | omega)))).2.2).mono ?_; rw [ex_again]; rintro e w8 ⟨A8, c8, B8, d8, rfl, hv8, hs8, hb8⟩; obtain ⟨hc8, hf8⟩ := bcell hb8; have hz8 := hb8.size; (try simp at hz8 hc8 hf8); (try have l8 : W.heap.size < w8.heap.size := (by omega)); (try have l9 : w7.heap.size < w8.heap.size := (by omega)); have l80 : w7.heap.size < w7.heap.size + 1 := (by omega)))
      all_goals (go_wp2_with fail; go_meet)
      all_goals refine ⟨rfl, ?_⟩
      all_goals ((repeat' (first | with_reducible exact Below.refl _ _ | with_reducible assumption | with_reducible refine Below.drew ?_ | with_reducible refine below_drewN ?_ _ | with_reducible refine Below.setCell ?_ ?_ _ | with_reducible refine Below.alloc ?_ ?_ _ | with_reducible refine Below.trans ?_ (Below.mono (by assumption) ?_))) <;> (first | (simp; done) | (simp; omega) | omega))
    case rest =>
      obtain ⟨rfl, hb8⟩ := hcut
      obtain ⟨⟨x0, x1⟩, v8, s8⟩ := HSH.out _ hb8
      have hz8 := hb8.size
      go_wp2_with fail
      refine (textT_any A2 B2 c2 d2 u3 [2] wc hl3 (by decide) v8 s8).mono ?_
      rw [ex_text]
      rintro e w9 ⟨rfl, hb9⟩
      have hb89 : Below W.heap.size W w9 := hb8.trans (hb9.mono hz8)
      obtain ⟨⟨y0, y1⟩, v9, s9⟩ := HSH.out _ hb89
      go_wp2_with fail
      refine (pending_any A2 B2 c2 d2 u3 [2] w9 hl3 (by decide) v9 s9).mono ?_
      rw [ex_pend]
      rintro e w10 ⟨A10, c10, rfl, hc10, hm10, hv10, hb10⟩
      go_wp2_with fail
      refine (num_any 1 _).mono ?_
      rintro e w11 ⟨rfl, hb11⟩
      go_wp2_with fail
      refine (num_any 3 _).mono ?_
      rintro e w12 ⟨rfl, hb12⟩
      obtain ⟨w13, hw13⟩ : ∃ w13, w12.alloc (.cells #[.int .i64 1, .int .i64 1, .string ⟨#[]⟩, .int .i64 1, .int .i64 3, .string ⟨#[]⟩] 31) = w13 := ⟨_, rfl⟩
      have hk13 : Blk w13 w12.heap.size 31 (([⟨1, 1, []⟩, ⟨1, 3, []⟩] : List V).flatMap V.cells).toArray := by rw [← hw13]; exact Blk.new w12 _ _
      have hb13 : Below w12.heap.size w12 w13 := by rw [← hw13]; ((repeat' (first | with_reducible exact Below.refl _ _ | with_reducible assumption | with_reducible refine Below.drew ?_ | with_reducible refine below_drewN ?_ _ | with_reducible refine Below.setCell ?_ ?_ _ | with_reducible refine Below.alloc ?_ ?_ _ | with_reducible refine Below.trans ?_ (Below.mono (by assumption) ?_))) <;> (first | (simp; done) | (simp; omega) | omega))
      have HW13 := Lib.hid hw13
      clear hw13
      have hv13 := vs_block hk13
      have hb1013 : Below w10.heap.size w10 w13 := (hb11.trans (hb12.mono hb11.size)).trans (hb13.mono (Nat.le_trans hb11.size hb12.size))
      have hv14 := ((hv10.vs (Nat.le_refl _)).below hb1013).more hb1013.size
      go_wp2_with fail
      rw [HW13.out]
      refine (same_any A10 (some ⟨w12.heap.size, 0, none⟩) c10 2 [⟨1, 1, []⟩, ⟨1, 3, []⟩] [⟨1, 1, []⟩, ⟨1, 3, []⟩] w13 (by decide) (by decide) hv14 hv13).mono ?_
      rw [show rowSame [⟨1, 1, []⟩, ⟨1, 3, []⟩] [⟨1, 1, []⟩, ⟨1, 3, []⟩] = true by kernel_rfl]
      rintro e w14 ⟨rfl, hb14⟩
      go_wp2_with fail
      go_ret
      refine ⟨rfl, ?_⟩
      have a1 := hbwc.trans (hb89.mono hs7)
      have a2 := a1.trans (hb10.mono a1.size)
      have a3 := a2.trans (hb1013.mono a2.size)
      exact a3.trans (hb14.mono a3.size)

end Go.Proofs.Ytkeeekifejholaa
