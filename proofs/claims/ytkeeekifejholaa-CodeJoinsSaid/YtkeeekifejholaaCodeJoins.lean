/- caddislaw02.CodeJoins answers true, whatever rows and values it is handed: the octets of two rows, one behind the other, are those of both; a value's begin with no other one's. No condition beyond the row's own. -/
import Derived.Test.YtkeeekifejholaaOrderLaw
import Derived.Test.YtkeeekifejholaaCodeApart
import Derived.Test.YtkeeekifejholaaAppend
import Derived.Test.YtkeeekifejholaaCodeShort
import Derived.Deep.RegionHeld3
import Derived.Deep.DeepCutAuto
namespace Go.Proofs.Ytkeeekifejholaa
open Go.RowKit

attribute [local go_sem] ByteArray.extract_mk ba_get ba_append
attribute [local go_sem ↓] Go.wp_at_zero Go.wp_at_succ

theorem VF.name {w : World} {lo hi : Nat} {A : Option Addr} {l : List V} (h : VF w lo hi A l) : ∃ lo', lo ≤ lo' ∧ VF w lo' hi A l := ⟨lo, Nat.le_refl _, h⟩

theorem code_good (v : V) (h : v.rng) : ∃ g : V, g.may = true ∧ g.rng ∧ v.code = g.code := by
  cases hm : v.may
  · refine ⟨⟨0, 0, []⟩, rfl, by simp [V.rng], ?_⟩
    rw [code_null]
    unfold V.code codeV
    unfold V.may at hm
    rw [if_pos hm]
  · exact ⟨v, hm, h, rfl⟩

/-- A value's octets begin with no other one's. -/
theorem code_prefix (a b : V) (ra : a.rng) (rb : b.rng) (hl : a.code.length < b.code.length) : b.code.take a.code.length ≠ a.code := by
  obtain ⟨g, hg, rg, eg⟩ := code_good a ra
  obtain ⟨h, hh, rh, eh⟩ := code_good b rb
  rw [eg, eh] at hl ⊢
  intro hp
  have hb : h.code = g.code ++ h.code.drop g.code.length := by
    conv => lhs; rw [← List.take_append_drop g.code.length h.code, hp]
  have h1 := first_code g (h.code.drop g.code.length) hg rg
  have h2 := first_code h [] hh rh
  rw [← hb] at h1
  rw [List.append_nil, h1] at h2
  have : ((g.code.length : Int)) = (h.code.length : Int) := congrArg (fun p : V × Int × Int => p.2.1) h2
  omega

theorem rowS_append (x y : List V) (h1 : rowOk x = true) (h2 : rowOk y = true) (h3 : rowOk (x ++ y) = true) : rowS (x ++ y) = rowS x ++ rowS y := by
  unfold rowS
  rw [h1, h2, h3]
  simp

theorem row_n2 (A : Option Addr) (c n : Nat) (l : List V) (hn : l.length = n) (w : World) (hl : l.length ≤ maxLen) (hwf : ∀ v ∈ l, v.wf) (h : VS w w.heap.size A l) :
    Calls Try.prog 12 #[.slice A n c] w (Ret (.tuple #[.string ⟨(rowS l).toArray⟩, .int .i64 (rowE l)]) w) := by
  subst hn; exact row_any A c l w hl hwf h

theorem rowE_zero' (l : List V) : (rowE l == 0) = rowOk l := by
  unfold rowE; cases rowOk l <;> rfl

/-- What stands behind the law's first statement. -/
def JoinsCut (a b : List V) (v u : V) (w : World) (s3 s4 s5 s6 : Value) (wx : World) : Prop :=
  ∃ A1 c1 B1 d1 g1 g2, s3 = .slice A1 (fewL a).length c1 ∧ s4 = .slice B1 (fewL b).length d1 ∧ s5 = .pointer (some ⟨g1, 0, none⟩) ∧ s6 = .pointer (some ⟨g2, 0, none⟩) ∧
    VS wx wx.heap.size A1 (fewL a) ∧ VS wx wx.heap.size B1 (fewL b) ∧ (fewL a).length ≤ c1 ∧ (fewL b).length ≤ d1 ∧
    Blk wx g1 31 #[.int .i64 v.k, .int .i64 v.i, .string ⟨v.s.toArray⟩] ∧ Blk wx g2 31 #[.int .i64 u.k, .int .i64 u.i, .string ⟨u.s.toArray⟩] ∧ Below w.heap.size w wx

set_option maxRecDepth 100000 in
set_option maxHeartbeats 2000000 in
theorem codeJoins_walk (A B : Option Addr) (c d : Nat) (a b : List V) (v u : V) (w : World) (hA : VS w w.heap.size A a) (hB : VS w w.heap.size B b) (ha : a.length ≤ maxLen) (hb : b.length ≤ maxLen) (oa : ∀ v ∈ a, v.ok) (ob : ∀ v ∈ b, v.ok) (ov : v.ok) (ou : u.ok) :
    Calls Try.prog 4 #[.agg #[.slice A a.length c, .slice B b.length d, .int .i64 v.k, .int .i64 v.i, .string ⟨v.s.toArray⟩, .int .i64 u.k, .int .i64 u.i, .string ⟨u.s.toArray⟩]] w (Ret (.bool true) w) := by
  have wa := Lib.hid (few_wf a oa)
  have wb := Lib.hid (few_wf b ob)
  have OV := Lib.hid ov
  have OU := Lib.hid ou
  clear oa ob ov ou
  obtain ⟨W0, hW0⟩ : ∃ W0, w.alloc (.cells #[.slice A a.length c, .slice B b.length d, .int .i64 v.k, .int .i64 v.i, .string ⟨v.s.toArray⟩, .int .i64 u.k, .int .i64 u.i, .string ⟨u.s.toArray⟩] 35) = W0 := ⟨_, rfl⟩
  have hb0 : Below w.heap.size w W0 := by rw [← hW0]; exact (Below.refl _ _).alloc (Nat.le_refl _) _
  have hs0 : W0.heap.size = w.heap.size + 1 := by rw [← hW0]; simp
  have hA0 := (hA.below hb0).more (B' := W0.heap.size) (by omega)
  have hB0 := (hB.below hb0).more (B' := W0.heap.size) (by omega)
  have hbk : Blk W0 w.heap.size 35 #[.slice A a.length c, .slice B b.length d, .int .i64 v.k, .int .i64 v.i, .string ⟨v.s.toArray⟩, .int .i64 u.k, .int .i64 u.i, .string ⟨u.s.toArray⟩] := by rw [← hW0]; exact Blk.new _ _ _
  have HW0 := Lib.hid hW0
  have HS0 := Lib.hid hs0
  clear hW0
  go_enter Try.func4, Try.ntmps4
  go_upto_region 1 with fail
  rw [HW0.out]
  have hlt0 : w.heap.size < W0.heap.size := by omega
  have hlt1 : W0.heap.size < W0.heap.size + 1 + 1 := by omega
  clear hs0 hA hB
  go_cut [3, 4, 5, 6] (fun s3 s4 s5 s6 wx => JoinsCut a b v u w s3 s4 s5 s6 wx)
  case first =>
    have k0 := hbk.cell 0
    have k1 := hbk.cell 1
    have k2 := hbk.cell 2
    have k3 := hbk.cell 3
    have k4 := hbk.cell 4
    have k5 := hbk.cell 5
    have k6 := hbk.cell 6
    have k7 := hbk.cell 7
    simp at k0 k1 k2 k3 k4 k5 k6 k7
    have HSH : Hid (∀ w' : World, Below W0.heap.size W0 w' → w'.cell? ⟨w.heap.size, 0, none⟩ = some (.slice A a.length c) ∧ w'.cell? ⟨w.heap.size, 1, none⟩ = some (.slice B b.length d) ∧ w'.cell? ⟨w.heap.size, 2, none⟩ = some (.int .i64 v.k) ∧ w'.cell? ⟨w.heap.size, 3, none⟩ = some (.int .i64 v.i) ∧ w'.cell? ⟨w.heap.size, 4, none⟩ = some (.string ⟨v.s.toArray⟩) ∧ w'.cell? ⟨w.heap.size, 5, none⟩ = some (.int .i64 u.k) ∧ w'.cell? ⟨w.heap.size, 6, none⟩ = some (.int .i64 u.i) ∧ w'.cell? ⟨w.heap.size, 7, none⟩ = some (.string ⟨u.s.toArray⟩)) := fun w' hw' => ⟨(hw'.cell hlt0).trans k0, (hw'.cell hlt0).trans k1, (hw'.cell hlt0).trans k2, (hw'.cell hlt0).trans k3, (hw'.cell hlt0).trans k4, (hw'.cell hlt0).trans k5, (hw'.cell hlt0).trans k6, (hw'.cell hlt0).trans k7⟩
    go_region_held3 (fun w' => w'.cell? ⟨w.heap.size, 0, none⟩ = some (.slice A a.length c) ∧ w'.cell? ⟨w.heap.size, 1, none⟩ = some (.slice B b.length d) ∧ w'.cell? ⟨w.heap.size, 2, none⟩ = some (.int .i64 v.k) ∧ w'.cell? ⟨w.heap.size, 3, none⟩ = some (.int .i64 v.i) ∧ w'.cell? ⟨w.heap.size, 4, none⟩ = some (.string ⟨v.s.toArray⟩) ∧ w'.cell? ⟨w.heap.size, 5, none⟩ = some (.int .i64 u.k) ∧ w'.cell? ⟨w.heap.size, 6, none⟩ = some (.int .i64 u.i) ∧ w'.cell? ⟨w.heap.size, 7, none⟩ = some (.string ⟨u.s.toArray⟩))
      (exact HSH.out _ (by ((repeat' (first | with_reducible exact Below.refl _ _ | with_reducible assumption | with_reducible refine Below.drew ?_ | with_reducible refine below_drewN ?_ _ | with_reducible refine Below.setCell ?_ ?_ _ | with_reducible refine Below.alloc ?_ ?_ _ | with_reducible refine Below.trans ?_ (Below.mono (by assumption) ?_))) <;> (first | (simp; done) | (simp; omega) | omega))))
      (first | (go_at_call_of 11 (Value.slice A a.length c); refine (few_any A c a _ ha (by exact (hA0.below (by ((repeat' (first | with_reducible exact Below.refl _ _ | with_reducible assumption | with_reducible refine Below.drew ?_ | with_reducible refine below_drewN ?_ _ | with_reducible refine Below.setCell ?_ ?_ _ | with_reducible refine Below.alloc ?_ ?_ _ | with_reducible refine Below.trans ?_ (Below.mono (by assumption) ?_))) <;> (first | (simp; done) | (simp; omega) | omega)))).more (by first | (simp; done) | (simp; omega) | omega))).mono ?_; rintro e w1 ⟨A1, c1, rfl, hc1, hm1, hv1, hb1⟩; obtain ⟨lo1, hlo1, hv1⟩ := VF.name hv1; (try simp at hlo1); obtain ⟨hr1, hf1⟩ := bcell hb1; have hz1 := hb1.size; (try simp at hz1 hr1 hf1); have ly1 : w.heap.size < w1.heap.size := (by omega); (try have q1 : W0.heap.size < w1.heap.size := (by omega)); (try have q2 : W0.heap.size + 1 < w1.heap.size := (by omega)); have q3 : w1.heap.size < w1.heap.size + 1 + 1 := (by omega); (try have q4 : W0.heap.size < w1.heap.size + 1 := (by omega))) | (go_at_call_of 11 (Value.slice B b.length d); refine (few_any B d b _ hb (by exact (hB0.below (by ((repeat' (first | with_reducible exact Below.refl _ _ | with_reducible assumption | with_reducible refine Below.drew ?_ | with_reducible refine below_drewN ?_ _ | with_reducible refine Below.setCell ?_ ?_ _ | with_reducible refine Below.alloc ?_ ?_ _ | with_reducible refine Below.trans ?_ (Below.mono (by assumption) ?_))) <;> (first | (simp; done) | (simp; omega) | omega)))).more (by first | (simp; done) | (simp; omega) | omega))).mono ?_; rintro e w2 ⟨B1, d1, rfl, hd1, hn1, hu1, hb2⟩; obtain ⟨lo2, hlo2, hu1⟩ := VF.name hu1; (try simp at hlo2); obtain ⟨hr2, hf2⟩ := bcell hb2; have hz2 := hb2.size; (try simp at hz2 hr2 hf2); have ly2 : w.heap.size < w2.heap.size := (by omega); (try have q5 : W0.heap.size < w2.heap.size := (by omega)); (try have q6 : W0.heap.size + 1 < w2.heap.size := (by omega)); (try have q7 : w1.heap.size < w2.heap.size := (by omega)); (try have q8 : w1.heap.size + 1 < w2.heap.size := (by omega))))
    all_goals (go_wp2_with fail; go_meet)
    all_goals go_light
    all_goals clear k0 k1 k2 k3 k4 k5 k6 k7 hr1 hf1 hr2 hf2 HSH hbk
    all_goals refine ⟨A1, c1, B1, d1, _, _, rfl, rfl, rfl, rfl, VF.vs (lo := lo1) (hi := w1.heap.size) (by ((repeat' (first | with_reducible assumption | with_reducible refine VF.drew ?_ | with_reducible refine VF.drewN ?_ _ | with_reducible refine VF.setCell ?_ ?_ _ | with_reducible refine VF.alloc ?_ ?_ _ | with_reducible refine VF.below ?_ (by assumption) ?_)) <;> (first | (simp; done) | (simp; omega) | omega))) (by (first | (simp; done) | (simp; omega) | omega)), VF.vs (lo := lo2) (hi := w2.heap.size) (by ((repeat' (first | with_reducible assumption | with_reducible refine VF.drew ?_ | with_reducible refine VF.drewN ?_ _ | with_reducible refine VF.setCell ?_ ?_ _ | with_reducible refine VF.alloc ?_ ?_ _ | with_reducible refine VF.below ?_ (by assumption) ?_)) <;> (first | (simp; done) | (simp; omega) | omega))) (by (first | (simp; done) | (simp; omega) | omega)), hc1, hd1, by ((repeat' (first | with_reducible assumption | with_reducible refine Blk.drew ?_ | with_reducible refine Blk.drewN ?_ _ | with_reducible refine Blk.set3 ?_ _ _ _ | with_reducible refine Blk.far ?_ ?_ _ | ((with_reducible refine Blk.new' _ _ _ _ ?_) <;> (first | (simp; done) | (simp; omega) | omega) <;> done) | with_reducible refine Blk.alloc ?_ _ | with_reducible refine Blk3.drew ?_ | with_reducible refine Blk3.drewN ?_ _ | ((with_reducible refine Blk3.new' _ _ _ _ _ _ ?_) <;> (first | (simp; done) | (simp; omega) | omega) <;> done) | with_reducible refine Blk3.alloc ?_ _ | with_reducible refine Blk3.far ?_ ?_ _ | with_reducible refine Blk3.below ?_ (by assumption) ?_ | with_reducible refine Blk.below ?_ (by assumption) ?_)) <;> (first | (simp; done) | (simp; omega) | omega)), by ((repeat' (first | with_reducible assumption | with_reducible refine Blk.drew ?_ | with_reducible refine Blk.drewN ?_ _ | with_reducible refine Blk.set3 ?_ _ _ _ | with_reducible refine Blk.far ?_ ?_ _ | ((with_reducible refine Blk.new' _ _ _ _ ?_) <;> (first | (simp; done) | (simp; omega) | omega) <;> done) | with_reducible refine Blk.alloc ?_ _ | with_reducible refine Blk3.drew ?_ | with_reducible refine Blk3.drewN ?_ _ | ((with_reducible refine Blk3.new' _ _ _ _ _ _ ?_) <;> (first | (simp; done) | (simp; omega) | omega) <;> done) | with_reducible refine Blk3.alloc ?_ _ | with_reducible refine Blk3.far ?_ ?_ _ | with_reducible refine Blk3.below ?_ (by assumption) ?_ | with_reducible refine Blk.below ?_ (by assumption) ?_)) <;> (first | (simp; done) | (simp; omega) | omega)), by ((repeat' (first | with_reducible exact Below.refl _ _ | with_reducible assumption | with_reducible refine Below.drew ?_ | with_reducible refine below_drewN ?_ _ | with_reducible refine Below.setCell ?_ ?_ _ | with_reducible refine Below.alloc ?_ ?_ _ | with_reducible refine Below.trans ?_ (Below.mono (by assumption) ?_))) <;> (first | (simp; done) | (simp; omega) | omega))⟩
  case rest =>
    obtain ⟨A1, c1, B1, d1, g1, g2, rfl, rfl, rfl, rfl, hv1, hu1, hc1, hd1, hk1, hk2, hbw⟩ := hcut
    obtain ⟨i0, hi0, zi0, zi1, zi2⟩ := info_parts infoV
    have mx := Lib.hid (few_max a)
    have my := Lib.hid (few_max b)
    have lx := few_len a
    have ly := few_len b
    have hzw := hbw.size
    clear hA0 hB0 hbk hb0 HW0 HS0 hlt0 hlt1
    generalize fewL a = x at *
    generalize fewL b = y at *
    go_wp2_with fail
    refine (row_any A1 c1 x _ mx.out wa.out hv1).mono ?_
    rintro e w3 ⟨rfl, hb3⟩
    have hz3 := hb3.size
    have hv3 := (hv1.below hb3).more hz3
    have hu3 := (hu1.below hb3).more hz3
    go_wp2_with fail
    refine (row_any B1 d1 y _ my.out wb.out hu3).mono ?_
    rintro e w4 ⟨rfl, hb4⟩
    have hz4 := hb4.size
    have hv4 := (hv3.below hb4).more hz4
    have hu4 := (hu3.below hb4).more hz4
    have hbw4 : Below w.heap.size w w4 := by ((repeat' (first | with_reducible exact Below.refl _ _ | with_reducible assumption | with_reducible refine Below.drew ?_ | with_reducible refine below_drewN ?_ _ | with_reducible refine Below.setCell ?_ ?_ _ | with_reducible refine Below.alloc ?_ ?_ _ | with_reducible refine Below.trans ?_ (Below.mono (by assumption) ?_))) <;> (first | (simp; done) | (simp; omega) | omega))
    have hk1' := (hk1.below hb3 hk1.lt).below hb4 (by have := hk1.lt; omega)
    have hk2' := (hk2.below hb3 hk2.lt).below hb4 (by have := hk2.lt; omega)
    clear hv1 hu1 hv3 hu3 hk1 hk2 hb3 hb4 hbw
    have hown0 : (w4.alloc (.cells #[] 31)).ownsRow w4.heap.size 31 3 (.slice (some ⟨w4.heap.size, 0, none⟩) 0 0) 0 [] := World.ownsRow_made w4 #[] 0 (Nat.le_refl _) (Nat.zero_le _) rfl
    have hba : Below w4.heap.size w4 (w4.alloc (.cells #[] 31)) := (Below.refl _ _).alloc (Nat.le_refl _) _
    have hva := ((hv4.below hba).reads)
    go_wp2_with (at_builtin; refine wpList_append_any _ rfl (.tmp 36) (.tmp 37) 22 rfl w4.heap.size 31 i0 _ 3 32 Try.underlying22 hi0 zi0 zi1 zi2 rfl (by decide) _ _ _ rfl hown0 w4.heap.size A1 x.length c1 _ rfl hva (cells_one x) ?c1 ?c2 ?c3 ?_)
    case c1 => unfold maxLen; omega
    case c2 => omega
    case c3 => simp
    intro v5 w5 hown5 hg5 hat5
    have hb5 : Below w4.heap.size w4 w5 := hba.grown hg5 (by simp) (by simp [Value.ownBlock])
    have hz5 := hb5.size
    have hub := (hu4.below hb5).reads
    have hl5 := hown5.lt
    go_wp2_with (at_builtin; refine wpList_append_any _ rfl (.tmp 38) (.tmp 39) 22 rfl w4.heap.size 31 i0 _ 3 32 Try.underlying22 hi0 zi0 zi1 zi2 rfl (by decide) _ _ _ rfl hown5 w4.heap.size B1 y.length d1 _ rfl hub (cells_one y) ?d1 ?d2 ?d3 ?_)
    case d1 => unfold maxLen; omega
    case d2 => omega
    case d3 => omega
    intro v6 w6 hown6 hg6 hat6
    have hb6 : Below w4.heap.size w4 w6 := hb5.grown hg6 hz5 (fun k hk => (hl5 k hk).1)
    have hz6 := hb6.size
    rw [← List.flatMap_append] at hown6
    obtain ⟨A6, c6, rfl, hc6, hm6, hv6⟩ := VS.own hown6
    have hvs6 := hv6.vs (Nat.le_refl _)
    have hk16 := hk1'.below hb6 hk1'.lt
    have hk26 := hk2'.below hb6 hk2'.lt
    have hbw6 : Below w.heap.size w w6 := by ((repeat' (first | with_reducible exact Below.refl _ _ | with_reducible assumption | with_reducible refine Below.drew ?_ | with_reducible refine below_drewN ?_ _ | with_reducible refine Below.setCell ?_ ?_ _ | with_reducible refine Below.alloc ?_ ?_ _ | with_reducible refine Below.trans ?_ (Below.mono (by assumption) ?_))) <;> (first | (simp; done) | (simp; omega) | omega))
    have wxy : Hid (∀ v ∈ x ++ y, v.wf) := fun v hv => by
      rcases List.mem_append.1 hv with h | h
      · exact wa.out v h
      · exact wb.out v h
    have mxy : Hid ((x ++ y).length ≤ maxLen) := by show _ ≤ _; rw [List.length_append]; unfold maxLen; omega
    clear hown5 hown6 hg5 hg6 hat5 hat6 hl5 hva hub hown0 hba hb5 hv6 hv4 hu4 hk1' hk2' hbw4
    have hs1 := rowS_len x
    have hs2 := rowS_len y
    have e1 := rowE_zero' x
    have e2 := rowE_zero' y
    have e3 := rowE_zero' (x ++ y)
    have HJ := Lib.hid (rowS_append x y)
    go_wp2_with fail
    refine (row_n2 A6 c6 (x.length + y.length) (x ++ y) List.length_append _ mxy.out wxy.out hvs6).mono ?_
    rintro e w7 ⟨rfl, hb7⟩
    have hz7 := hb7.size
    have hk17 := hk16.below hb7 hk16.lt
    have hk27 := hk26.below hb7 hk26.lt
    have hbw7 : Below w.heap.size w w7 := by ((repeat' (first | with_reducible exact Below.refl _ _ | with_reducible assumption | with_reducible refine Below.drew ?_ | with_reducible refine below_drewN ?_ _ | with_reducible refine Below.setCell ?_ ?_ _ | with_reducible refine Below.alloc ?_ ?_ _ | with_reducible refine Below.trans ?_ (Below.mono (by assumption) ?_))) <;> (first | (simp; done) | (simp; omega) | omega))
    clear hvs6 hk16 hk26 hbw6 hb7
    generalize x ++ y = z at *
    go_upto_region 5 with fail
    go_cut [60] (fun s60 wx => s60 = .bool false ∧ Below w7.heap.size w7 wx)
    case first =>
      cases q1 : rowOk x
      · rw [q1] at e1
        clear q1 HJ
        go_wp2_with fail
        go_meet
        exact ⟨rfl, Below.refl _ _⟩
      · rw [q1] at e1
        cases q2 : rowOk y
        · rw [q2] at e2
          clear q1 q2 HJ
          go_wp2_with fail
          go_meet
          exact ⟨rfl, Below.refl _ _⟩
        · rw [q2] at e2
          cases q3 : rowOk z
          · rw [q3] at e3
            clear q1 q2 q3 HJ
            go_wp2_with fail
            go_meet
            exact ⟨rfl, Below.refl _ _⟩
          · rw [q3] at e3
            have hj : (rowS z == rowS x ++ rowS y) = true := by rw [HJ.out q1 q2 q3]; simp
            clear q1 q2 q3 HJ
            generalize rowS x = S1 at *
            generalize rowS y = S2 at *
            go_wp2_with fail
            go_meet
            exact ⟨rfl, Below.refl _ _⟩
    case rest =>
      obtain ⟨rfl, hbx⟩ := hcut
      have hzx := hbx.size
      have hk1x := hk17.below hbx hk17.lt
      have hk2x := hk27.below hbx hk27.lt
      have l1 := hk1x.lt
      have l2 := hk2x.lt
      have hbwx : Below w.heap.size w wc := by ((repeat' (first | with_reducible exact Below.refl _ _ | with_reducible assumption | with_reducible refine Below.drew ?_ | with_reducible refine below_drewN ?_ _ | with_reducible refine Below.setCell ?_ ?_ _ | with_reducible refine Below.alloc ?_ ?_ _ | with_reducible refine Below.trans ?_ (Below.mono (by assumption) ?_))) <;> (first | (simp; done) | (simp; omega) | omega))
      obtain ⟨⟨a0, a1, a2⟩, _, _, _⟩ := hk1x.three
      obtain ⟨⟨b0, b1, b2⟩, _, _, _⟩ := hk2x.three
      clear hk17 hk27 hk1x hk2x e1 e2 e3 HJ hbw7 hbx
      have HSH : Hid (∀ w' : World, Below wc.heap.size wc w' → w'.cell? ⟨g1, 0, none⟩ = some (.int .i64 v.k) ∧ w'.cell? ⟨g1, 1, none⟩ = some (.int .i64 v.i) ∧ w'.cell? ⟨g1, 2, none⟩ = some (.string ⟨v.s.toArray⟩) ∧ w'.cell? ⟨g2, 0, none⟩ = some (.int .i64 u.k) ∧ w'.cell? ⟨g2, 1, none⟩ = some (.int .i64 u.i) ∧ w'.cell? ⟨g2, 2, none⟩ = some (.string ⟨u.s.toArray⟩)) := fun w' hw' => ⟨(hw'.cell l1).trans a0, (hw'.cell l1).trans a1, (hw'.cell l1).trans a2, (hw'.cell l2).trans b0, (hw'.cell l2).trans b1, (hw'.cell l2).trans b2⟩
      go_upto_region 7 with fail
      go_cut [13, 14] (fun s13 s14 wx => s13 = .string ⟨(fewV v).code.toArray⟩ ∧ s14 = .string ⟨(fewV u).code.toArray⟩ ∧ Below wc.heap.size wc wx)
      case first =>
        go_region_held3 (fun w' => w'.cell? ⟨g1, 0, none⟩ = some (.int .i64 v.k) ∧ w'.cell? ⟨g1, 1, none⟩ = some (.int .i64 v.i) ∧ w'.cell? ⟨g1, 2, none⟩ = some (.string ⟨v.s.toArray⟩) ∧ w'.cell? ⟨g2, 0, none⟩ = some (.int .i64 u.k) ∧ w'.cell? ⟨g2, 1, none⟩ = some (.int .i64 u.i) ∧ w'.cell? ⟨g2, 2, none⟩ = some (.string ⟨u.s.toArray⟩))
          (exact HSH.out _ (by ((repeat' (first | with_reducible exact Below.refl _ _ | with_reducible assumption | with_reducible refine Below.drew ?_ | with_reducible refine below_drewN ?_ _ | with_reducible refine Below.setCell ?_ ?_ _ | with_reducible refine Below.alloc ?_ ?_ _ | with_reducible refine Below.trans ?_ (Below.mono (by assumption) ?_))) <;> (first | (simp; done) | (simp; omega) | omega))))
          (first | (go_at_call_of 17 (Value.agg #[.int .i64 v.k, .int .i64 v.i, .string ⟨v.s.toArray⟩]); refine (few1_any _ _ _ _).mono ?_; rintro e x1 ⟨rfl, hx1⟩; have hy1 := hx1.size; (try simp at hy1)) | (go_at_call_of 17 (Value.agg #[.int .i64 u.k, .int .i64 u.i, .string ⟨u.s.toArray⟩]); refine (few1_any _ _ _ _).mono ?_; rintro e x2 ⟨rfl, hx2⟩; have hy2 := hx2.size; (try simp at hy2)) | (go_at_call_of 15 (Value.agg #[.int .i64 v.k, .int .i64 v.i, .string ⟨(v.s.take 60).toArray⟩]); refine (cvalue_any _ _ _ _ OV.out.2.1.1 OV.out.2.1.2).mono ?_; rintro e x3 ⟨rfl, hx3⟩; have hy3 := hx3.size; (try simp at hy3)) | (go_at_call_of 15 (Value.agg #[.int .i64 u.k, .int .i64 u.i, .string ⟨(u.s.take 60).toArray⟩]); refine (cvalue_any _ _ _ _ OU.out.2.1.1 OU.out.2.1.2).mono ?_; rintro e x4 ⟨rfl, hx4⟩; have hy4 := hx4.size; (try simp at hy4)))
        all_goals (go_wp2_with fail; go_meet)
        all_goals refine ⟨rfl, rfl, ?_⟩
        all_goals ((repeat' (first | with_reducible exact Below.refl _ _ | with_reducible assumption | with_reducible refine Below.drew ?_ | with_reducible refine below_drewN ?_ _ | with_reducible refine Below.setCell ?_ ?_ _ | with_reducible refine Below.alloc ?_ ?_ _ | with_reducible refine Below.trans ?_ (Below.mono (by assumption) ?_))) <;> (first | (simp; done) | (simp; omega) | omega))
      case rest =>
        obtain ⟨rfl, rfl, hby⟩ := hcut
        have hzy := hby.size
        have hpre := code_prefix (fewV v) (fewV u) OV.out.2.1 OU.out.2.1
        have HP := Lib.hid hpre
        clear hpre HSH a0 a1 a2 b0 b1 b2 l1 l2
        generalize (fewV v).code = S at *
        generalize (fewV u).code = T at *
        by_cases p1 : S = T
        · have f1 : (S == T) = true := by simp [p1]
          clear p1 HP
          go_wp2_with fail
          refine (awake2_any _).mono ?_
          rintro e x5 ⟨rfl, hx5⟩
          go_wp2
          go_ret
          exact ⟨rfl, by ((repeat' (first | with_reducible exact Below.refl _ _ | with_reducible assumption | with_reducible refine Below.drew ?_ | with_reducible refine below_drewN ?_ _ | with_reducible refine Below.setCell ?_ ?_ _ | with_reducible refine Below.alloc ?_ ?_ _ | with_reducible refine Below.trans ?_ (Below.mono (by assumption) ?_))) <;> (first | (simp; done) | (simp; omega) | omega))⟩
        · have f1 : (S == T) = false := by simp [p1]
          by_cases p2 : T.length ≤ S.length
          · clear p1 HP
            go_wp2_with fail
            refine (awake2_any _).mono ?_
            rintro e x5 ⟨rfl, hx5⟩
            go_wp2
            go_ret
            exact ⟨rfl, by ((repeat' (first | with_reducible exact Below.refl _ _ | with_reducible assumption | with_reducible refine Below.drew ?_ | with_reducible refine below_drewN ?_ _ | with_reducible refine Below.setCell ?_ ?_ _ | with_reducible refine Below.alloc ?_ ?_ _ | with_reducible refine Below.trans ?_ (Below.mono (by assumption) ?_))) <;> (first | (simp; done) | (simp; omega) | omega))⟩
          · have f3 : (List.take S.length T == S) = false := by simpa using HP.out (by omega)
            clear p1 HP
            go_wp2_with fail
            refine (awake2_any _).mono ?_
            rintro e x5 ⟨rfl, hx5⟩
            go_wp2
            go_ret
            exact ⟨rfl, by ((repeat' (first | with_reducible exact Below.refl _ _ | with_reducible assumption | with_reducible refine Below.drew ?_ | with_reducible refine below_drewN ?_ _ | with_reducible refine Below.setCell ?_ ?_ _ | with_reducible refine Below.alloc ?_ ?_ _ | with_reducible refine Below.trans ?_ (Below.mono (by assumption) ?_))) <;> (first | (simp; done) | (simp; omega) | omega))⟩

theorem cellsJ : Try.prog.cellsOf 35 = 8 := by kernel_rfl

open Go.ChangeShapes Go.WideShapes Go.ChangeAt
theorem open_joins {H : Type} {enc : TypeId × Value → H} {W : World} {base : Nat} {q : Value} {d : DataW H} {p : List MemPlace}
    (hv : Value.okWide Try.prog W .any base 35 q) (h : DataW.Trod enc Try.prog W 0 (fun _ => true) true 35 q d p) :
    ∃ (A B : Option Addr) (a b : List V) (c d : Nat) (v u : V), q = .agg #[.slice A a.length c, .slice B b.length d, .int .i64 v.k, .int .i64 v.i, .string ⟨v.s.toArray⟩, .int .i64 u.k, .int .i64 u.i, .string ⟨u.s.toArray⟩] ∧
      a.length ≤ maxLen ∧ b.length ≤ maxLen ∧ VS W W.heap.size A a ∧ VS W W.heap.size B b ∧ (∀ x ∈ a, x.ok) ∧ (∀ x ∈ b, x.ok) ∧ v.ok ∧ u.ok := by
  obtain ⟨cs, rfl, hsz⟩ := okWide_struct Try.underlying35 hv
  obtain ⟨l⟩ := cs
  match l, hsz.trans cellsJ with
  | [c0, c1, c2, c3, c4, c5, c6, c7], _ =>
    obtain ⟨fuel, hf⟩ := h
    obtain ⟨ys, n, _, _, _, hlen, hg⟩ := DataW.trod_struct Try.underlying35 hf
    match ys, hlen with
    | [y0, y1, y2, y3], _ =>
      have s0 : Try.prog.cellsOf 22 = 1 := by kernel_rfl
      have t0 : DataW.trod enc Try.prog W 0 (fun _ => true) true n 22 (([c0, c1, c2, c3, c4, c5, c6, c7].drop 0).take (Try.prog.cellsOf 22)) = some y0 := hg 0 _ rfl
      have t1 : DataW.trod enc Try.prog W 0 (fun _ => true) true n 22 (([c0, c1, c2, c3, c4, c5, c6, c7].drop 1).take (Try.prog.cellsOf 22)) = some y1 := hg 1 _ rfl
      have t2 : DataW.trod enc Try.prog W 0 (fun _ => true) true n 31 (([c0, c1, c2, c3, c4, c5, c6, c7].drop 2).take (Try.prog.cellsOf 31)) = some y2 := hg 2 _ rfl
      have t3 : DataW.trod enc Try.prog W 0 (fun _ => true) true n 31 (([c0, c1, c2, c3, c4, c5, c6, c7].drop 5).take (Try.prog.cellsOf 31)) = some y3 := hg 3 _ rfl
      rw [s0] at t0 t1
      rw [cellsV] at t2 t3
      obtain ⟨A, a, c, e0, h01, h02, h03, h04⟩ := open_vals_t t0
      obtain ⟨B, b, d', e1, h11, h12, h13, h14⟩ := open_vals_t t1
      obtain ⟨v, e2, e3, e4, ov⟩ := open_val_t t2
      obtain ⟨u, e5, e6, e7, ou⟩ := open_val_t t3
      simp at e0 e1
      subst e0 e1 e2 e3 e4 e5 e6 e7
      exact ⟨A, B, a, b, c, d', v, u, rfl, Nat.le_trans h01 h02, Nat.le_trans h11 h12, h03, h13, h04, h14, ov, ou⟩

set_option maxRecDepth 100000 in
theorem codeJoins_lifted (os : Os) (started : os.Started) (H : Type) (enc : TypeId × Value → H) :
    ReturnsInHanded {} Try.checked os 4 .any (Rows.codeJoinsSpec.pre6 enc Try.prog Try.f4 Rows.codeJoinsRow.domain false) (Rows.codeJoinsSpec.post enc Try.prog Try.f4 false true false false) := by
  refine returnsInHanded_of_change (C := Try.checked) own started (by kernel_rfl) Try.func4
    (ChangeSpec.witness6 (enc := enc) (C := Try.checked) false ⟨#[], #[.agg #[.slice none 0 0, .slice none 0 0, .int .i64 0, .int .i64 0, .string ⟨#[]⟩, .int .i64 0, .int .i64 0, .string ⟨#[]⟩]], []⟩ 8 (by kernel_rfl) (by kernel_rfl) (by kernel_rfl) (by kernel_rfl)) ?_
  intro W base args ds gs before hval0 hW hcnd _
  have hval : ∀ (j : Nat) t v, Try.f4.params[j]? = some t → args[j]? = some v → Value.okWide Try.prog W .any base t v := hval0
  have hW' := hW
  obtain ⟨p, q, hA0, hV, rfl, hfz, hnd⟩ := hW
  have hA : DataW.TrodAll enc Try.prog W 0 (fun _ => true) true Try.f4.params.toList args.toList ds p := hA0
  rw [Try.params4] at hA hval
  obtain ⟨v0, vs0, d0, ds0, p0, q0, hargs, rfl, rfl, h0, r0⟩ := trodAll_cons hA
  have k0 := h0
  have lt0 : ∀ x ∈ p0, x.block < W.heap.size := by obtain ⟨m, hm⟩ := k0; exact DataW.trod_lt m _ _ _ hm
  obtain ⟨rfl, rfl, rfl⟩ := trodAll_nil r0
  obtain rfl : args = #[v0] := by cases args; simp_all
  obtain ⟨rfl, rfl⟩ := trodVars_none hV
  obtain ⟨A, B, a, b, c, d, v, u, rfl, ma, mb, vA, vB, oa, ob, ov, ou⟩ := open_joins (hval 0 35 v0 rfl rfl) h0
  clear hA0 hval0
  refine (codeJoins_walk A B c d a b v u W vA vB ma mb oa ob ov ou).mono fun e W' ⟨he, bel⟩ => ?_
  subst he
  exact ⟨_, rfl, _, _, _, [], _, [], hW', trodAll_mk1 (shut_bool Try.underlying4 _), (trodAll_cons_mk (Below.trod laidOut (by kernel_rfl) (of_decide_eq_true (by kernel_rfl)) k0 bel lt0) trodAll_mk0), rfl, bel.frame _, fun h => by cases h⟩

theorem codeJoins_over : Rows.codeJoinsRow.holds Try.pinned (OpenSpec.ofChange Rows.codeJoinsSpec) :=
  OpenClaim.holds_of_wide 4 Try.f4 rfl rfl rfl rfl rfl rfl rfl ⟨rfl, rfl, rfl, rfl, rfl⟩ rfl rfl rfl rfl rfl (by kernel_rfl) Try.func4 (by kernel_rfl)
    (of_decide_eq_true (by kernel_rfl)) (by unfold Func.isWrapper; first | (rw [if_pos (by decide +kernel)]; kernel_rfl) | (rw [if_neg (by decide +kernel)]; exact ⟨rfl, rfl⟩))
    (fun os started H enc _ => codeJoins_lifted os started H enc)

theorem codeJoins_holds : Rows.CodeJoinsSaid := codeJoins_over
#print axioms codeJoins_holds

end Go.Proofs.Ytkeeekifejholaa
