/- slices.DeleteFunc at grants, by a closure that has one captured variable. Condition: a row of the call's own of no more than 1000 grants; what the closure answers, whatever that row holds.. -/
import Derived.Test.YtchilcchogcibaaGreatDoorSGr6
import Derived.Test.YtchilcchogcibaaGreatDoorSInsG
namespace Go.Proofs.YtchilcchogcibaaGreatDoor
open Go.RowKit
attribute [local go_sem] ByteArray.extract_mk ba_get ba_append
attribute [local go_sem ↓] Go.wp_at_zero Go.wp_at_succ
theorem set_mid {α : Type} : ∀ (P : List α) (x : α) (r : List α) (v : α), (P ++ x :: r).set P.length v = P ++ v :: r
 | [], _, _, _ => rfl
 | p :: P, x, r, v => by rw [List.cons_append, List.length_cons, List.set_cons_succ, set_mid P x r v, List.cons_append]
/-- A grant put at a place of a row. -/
theorem gcs_put {w : World} {g : Nat} {t : TypeId} {H : List Gr} {S : List Value} {i : Nat} (v : Gr) (h : Blk w g t (gcs H ++ S).toArray) (hi : i < H.length) :
  Blk (((w.setCell ⟨g, i * 3, none⟩ (.string ⟨v.r.toArray⟩)).setCell ⟨g, i * 3 + 1, none⟩ (.string ⟨v.t.toArray⟩)).setCell ⟨g, i * 3 + 2, none⟩ (.bool v.w)) g t (gcs (H.set i v) ++ S).toArray := by
 have h3 := ((h.set_ (i * 3) (.string ⟨v.r.toArray⟩)).set_ (i * 3 + 1) (.string ⟨v.t.toArray⟩)).set_ (i * 3 + 2) (.bool v.w)
 obtain ⟨P, x, r, rfl, hP⟩ : ∃ P x r, H = P ++ x :: r ∧ P.length = i := ⟨H.take i, H[i], H.drop (i + 1), by rw [← List.drop_eq_getElem_cons hi, List.take_append_drop], by rw [List.length_take]; omega⟩
 have e : gcs (P ++ x :: r) ++ S = gcs P ++ (.string ⟨x.r.toArray⟩ :: .string ⟨x.t.toArray⟩ :: .bool x.w :: (gcs r ++ S)) := by
  rw [gcs_app, show x :: r = [x] ++ r from rfl, gcs_app]; simp [gcs, Gr.cells]
 have hl : (gcs P).length = i * 3 := by rw [gcs_len, hP]
 have s1 := set_mid (gcs P) (.string ⟨x.r.toArray⟩) (.string ⟨x.t.toArray⟩ :: .bool x.w :: (gcs r ++ S)) (.string ⟨v.r.toArray⟩)
 have s2 := set_mid (gcs P ++ [.string ⟨v.r.toArray⟩]) (.string ⟨x.t.toArray⟩) (.bool x.w :: (gcs r ++ S)) (.string ⟨v.t.toArray⟩)
 have s3 := set_mid (gcs P ++ [.string ⟨v.r.toArray⟩, .string ⟨v.t.toArray⟩]) (.bool x.w) (gcs r ++ S) (.bool v.w)
 simp only [List.length_append, List.length_cons, List.length_nil, hl, List.append_assoc, List.cons_append, List.nil_append] at s1 s2 s3
 rw [e] at h3
 simp only [List.setIfInBounds_toArray] at h3
 rw [s1, s2, s3] at h3
 have hset : (P ++ x :: r).set i v = P ++ v :: r := by rw [← hP]; exact set_mid P x r v
 rw [hset, gcs_app, show v :: r = [v] ++ r from rfl, gcs_app]
 have e2 : gcs P ++ (gcs [v] ++ gcs r) ++ S = gcs P ++ Value.string ⟨v.r.toArray⟩ :: .string ⟨v.t.toArray⟩ :: .bool v.w :: (gcs r ++ S) := by simp [gcs, Gr.cells]
 rw [e2]
 exact h3
/-- What stands in a row while grants are struck out. -/
def Kept (p : Gr → Bool) (l H : List Gr) (i j : Nat) : Prop := H.length = l.length ∧ H.take i = (l.take j).filter (fun x => !p x) ∧ H.drop j = l.drop j ∧ i < j ∧ i ≤ l.length
theorem Kept.skip {p : Gr → Bool} {l H : List Gr} {i j : Nat} (h : Kept p l H i j) {x : Gr} (hx : l[j]? = some x) (hp : p x = true) : Kept p l H i (j + 1) := by
 obtain ⟨h1, h2, h3, h4, h5⟩ := h
 refine ⟨h1, ?_, ?_, by omega, h5⟩
 ·rw [List.take_add_one, hx, List.filter_append, h2]
  simp [hp]
 ·rw [← List.drop_drop, h3, List.drop_drop]
theorem Kept.put {p : Gr → Bool} {l H : List Gr} {i j : Nat} (h : Kept p l H i j) {x : Gr} (hx : l[j]? = some x) (hp : p x = false) : Kept p l (H.set i x) (i + 1) (j + 1) := by
 obtain ⟨h1, h2, h3, h4, h5⟩ := h
 have hj := (List.getElem?_eq_some_iff.1 hx).1
 refine ⟨by rw [List.length_set, h1], ?_, ?_, by omega, by omega⟩
 ·rw [List.take_add_one (l := l), hx, List.filter_append, ← h2, List.take_add_one, List.getElem?_set_self (by omega), List.take_set_of_le (Nat.le_refl _)]
  simp [hp]
 ·rw [List.drop_set_of_lt (by omega), ← List.drop_drop, h3, List.drop_drop]
theorem firstP_at {α : Type} (p : α → Bool) : ∀ (l : List α) (n : Nat), (firstP p l n = -1 ∧ ∀ x ∈ l, p x = false) ∨ ∃ k x, k < l.length ∧ firstP p l n = ((n + k : Nat) : Int) ∧ l[k]? = some x ∧ p x = true ∧ ∀ y ∈ l.take k, p y = false
 | [], n => .inl ⟨rfl, fun x hx => by simp at hx⟩
 | x :: r, n => by
  rw [firstP_cons]
  cases hp : p x
  ·rcases firstP_at p r (n + 1) with ⟨h1, h2⟩ | ⟨k, y, h1, h2, h3, h4, h5⟩
   ·exact .inl ⟨h1, fun y hy => by rcases List.mem_cons.1 hy with rfl | hy; exact hp; exact h2 y hy⟩
   ·refine .inr ⟨k + 1, y, by rw [List.length_cons]; omega, ?_, h3, h4, fun z hz => ?_⟩
    ·rw [show n + (k + 1) = n + 1 + k by omega]; exact h2
    ·rcases List.mem_cons.1 hz with rfl | hz
     ·exact hp
     ·exact h5 z hz
  ·exact .inr ⟨0, x, by simp, by simp, rfl, hp, fun y hy => by simp at hy⟩
theorem own_whole {w : World} {base : Nat} {t : TypeId} {c : Nat} {l : List Gr} (hl : 0 < l.length) {A : Option Addr} (h : w.ownsRow base t 3 (.slice A l.length c) l.length (gcs l)) : ∃ g S, A = some ⟨g, 0, none⟩ ∧ base ≤ g ∧ Blk w g t (gcs l ++ S).toArray ∧ l.length ≤ c ∧ c ≤ maxLen ∧ (gcs l ++ S).length = c * 3 := by
 rcases h.2 with ⟨_, h0⟩ | ⟨g, cap, cur, e, hb, hg, hnc, hcm, hcs, htk⟩
 ·omega
 ·injection e with e1 e2 e3
  subst e1 e3
  have e : gcs l ++ cur.toList.drop (l.length * 3) = cur.toList := by rw [← htk, List.take_append_drop]
  refine ⟨g, cur.toList.drop (l.length * 3), rfl, hb, ?_, hnc, hcm, by rw [e, Array.length_toList, hcs]⟩
  rw [e, Array.toArray_toList]
  exact hg
set_option maxRecDepth 100000 in
set_option maxHeartbeats 4000000 in
theorem delG_any (base f g : Nat) (p : Gr → Bool) (A : Option Addr) (c : Nat) (l : List Gr) (eg : ∀ args (w : World), (callFunc f args).run Tryz.prog w = .ok (.enter f args) w) (w : World) (hl : l.length ≤ 1000) (hbw : base ≤ w.heap.size)
  (hown : w.ownsRow base 54 3 (.slice A l.length c) l.length (gcs l))
  (hp : ∀ x ∈ l, ∀ Z : World, Below base w Z → Calls Tryz.prog f #[.agg #[.string ⟨x.r.toArray⟩, .string ⟨x.t.toArray⟩, .bool x.w], .pointer (some ⟨g, 0, none⟩)] Z (Ret (.bool (p x)) Z)) :
  Calls Tryz.prog 39 #[.slice A l.length c, .func (.func f) #[] #[.pointer (some ⟨g, 0, none⟩)]] w (RetOG base (l.filter fun x => !p x) w) := by
 obtain ⟨i0, hi0, zi0, zi1, zi2⟩ := info_parts infoGr
 have hGQ : GQ l A (Old w.heap.size) w := by
  obtain ⟨A', c', e, _, _, h⟩ := GQ.own hown
  injection e with e1 e2 e3
  subst e1
  exact h.keep fun b hb => ⟨hb.2, fun o => rfl⟩
 have hI := idxG_any A c l p f g eg w (by omega) hGQ (fun x hx Z hz => hp x hx Z (hz.mono hbw))
 rcases firstP_at p l 0 with ⟨h1, h2⟩ | ⟨k, x0, hk, h1, hx0, hpx, h2⟩
 ·rw [h1] at hI
  have HF : Hid (l.filter (fun x => !p x) = l) := List.filter_eq_self.2 fun x hx => by rw [h2 x hx]; rfl
  have HI := Lib.hid hI
  have HO := Lib.hid hown
  rw [HF.out]
  clear hI hown hp hGQ h1 h2
  go_enter Tryz.func39, Tryz.ntmps39
  go_wp2_with fail
  refine HI.out.mono ?_
  rintro en w1 ⟨rfl, hb1⟩
  have h5 := own_below HO.out hb1
  have hb5 := hb1.mono hbw
  go_wp2_with fail
  go_ret
  exact ⟨_, rfl, h5, hb5⟩
 ·rw [h1, Nat.zero_add] at hI
  obtain ⟨g0, S, rfl, hg0, hblk, hlc, hcm, hS⟩ := own_whole (by omega) hown
  have HP := Lib.hid hp
  have HB := Lib.hid hblk
  have HS := Lib.hid hS
  have HK : Hid (Kept p l l k (k + 1)) := by
   refine ⟨rfl, ?_, rfl, by omega, by omega⟩
   rw [List.take_add_one, hx0, List.filter_append, List.filter_eq_self.2 fun y hy => by rw [h2 y hy]; rfl]
   simp [hpx]
  obtain ⟨N, hN⟩ : ∃ N, l.length = N := ⟨_, rfl⟩
  have HL := Lib.hid hN
  obtain ⟨R, hR⟩ : ∃ R, l.filter (fun x => !p x) = R := ⟨_, rfl⟩
  have HR := Lib.hid hR
  rw [hR]
  rw [hN] at hl hk hlc hI ⊢
  have HI := Lib.hid hI
  clear hI hown hp hblk hS h1 h2 hGQ hN hR hx0 hpx
  go_enter Tryz.func39, Tryz.ntmps39
  go_wp2_with fail
  refine HI.out.mono ?_
  rintro en w1 ⟨rfl, hb1⟩
  have HB1 := Lib.hid (HB.out.below hb1 HB.out.lt)
  have hb5 := hb1.mono hbw
  have n1 : ((k : Int) == -1) = false := by rw [beq_eq_false_iff_ne]; omega
  have n2 : ¬ (k : Int) = -1 := by omega
  have i1 : IntKind.i64.wrap ((k : Int) + 1) = ((k + 1 : Nat) : Int) := by rw [IntWalk.i64_in _ (by omega)]; omega
  clear hb1
  go_wp2_with fail
  go_loopw [5, 6] (fun s t wr => ∃ (i j : Nat) (H : List Gr), s = .int .i64 i ∧ t = .int .i64 j ∧ j ≤ N ∧ i < j ∧ Hid (Kept p l H i j) ∧ Blk wr g0 54 (gcs H ++ S).toArray ∧ Below base w wr) (fun _ t _ => N - (intOf t).toNat)
  case atStart => exact ⟨k, k + 1, l, rfl, rfl, by omega, by omega, HK, HB1.out, hb5⟩
  case round =>
   obtain ⟨i, j, H, rfl, rfl, hj, hij, HKE, hbl, hbw1⟩ := hrel
   obtain ⟨W, rfl⟩ : ∃ W, W = wr := ⟨_, rfl⟩
   have lg := hbl.lt
   have HBL := Lib.hid hbl
   by_cases hlt : j < N
   ·obtain ⟨x, hx⟩ : ∃ x, l[j]? = some x := ⟨l[j]'(by have := HL.out; omega), List.getElem?_eq_getElem _⟩
    have hxl := List.mem_of_getElem? hx
    have hHx : H[j]? = some x := by
     have := congrArg (·[0]?) HKE.out.2.2.1
     simpa [hx] using this
    have hHl : H.length = N := by rw [HKE.out.1, HL.out]
    have key : ∀ m y q, H[m]? = some y → q < 3 → W.cell? ⟨g0, m * 3 + q, none⟩ = y.cells[q]? := fun m y q hm hq => by
     rw [hbl.cell]
     have := gcs_at H m q y hm hq
     simp only [List.getElem?_toArray]
     rw [List.getElem?_append_left (by rw [gcs_len]; have := (List.getElem?_eq_some_iff.1 hm).1; omega)]
     exact this
    have c0 : W.cell? ⟨g0, j * 3, none⟩ = some (.string ⟨x.r.toArray⟩) := key j x 0 hHx (by omega)
    have c1 : W.cell? ⟨g0, j * 3 + 1, none⟩ = some (.string ⟨x.t.toArray⟩) := key j x 1 hHx (by omega)
    have c2 : W.cell? ⟨g0, j * 3 + 2, none⟩ = some (.bool x.w) := key j x 2 hHx (by omega)
    obtain ⟨y, hy⟩ : ∃ y, H[i]? = some y := ⟨H[i]'(by omega), List.getElem?_eq_getElem _⟩
    obtain ⟨V, hV⟩ : ∃ V, W.alloc (.cells #[.string ⟨x.r.toArray⟩, .string ⟨x.t.toArray⟩, .bool x.w] 54) = V := ⟨_, rfl⟩
    have hzW : base ≤ W.heap.size := Nat.le_trans hbw hbw1.size
    have hbV : Below base w V := by rw [← hV]; exact hbw1.alloc hzW _
    have hbWV : Below W.heap.size W V := by rw [← hV]; exact bl
    have hzV := hbWV.size
    have kV : Blk V W.heap.size 54 #[.string ⟨x.r.toArray⟩, .string ⟨x.t.toArray⟩, .bool x.w] := by rw [← hV]; exact Blk.new _ _ _
    have HC := Lib.hid (HP.out x hxl V hbV)
    obtain ⟨r, t, u⟩ := x
    obtain ⟨q, hq⟩ : ∃ q, p ⟨r, t, u⟩ = q := ⟨_, rfl⟩
    rw [hq] at HC
    have HQ := Lib.hid hq
    have HX := Lib.hid hx
    have HV := Lib.hid hV
    have HKV := Lib.hid kV
    have HY : Hid (∀ Z : World, Below W.heap.size W Z → (Z.cell? ⟨g0, i * 3, none⟩ = some (.string ⟨y.r.toArray⟩) ∧ Z.cell? ⟨g0, i * 3 + 1, none⟩ = some (.string ⟨y.t.toArray⟩) ∧ Z.cell? ⟨g0, i * 3 + 2, none⟩ = some (.bool y.w)) ∧ Z.frozen? ⟨g0, i * 3, none⟩ = false ∧ Z.frozen? ⟨g0, i * 3 + 1, none⟩ = false ∧ Z.frozen? ⟨g0, i * 3 + 2, none⟩ = false) := fun Z hz => by
     have hZ := HBL.out.below hz lg
     have hc : ∀ o, Z.cell? ⟨g0, o, none⟩ = W.cell? ⟨g0, o, none⟩ := fun o => hz.cell (p := ⟨g0, o, none⟩) lg
     exact ⟨⟨(hc _).trans (key i y 0 hy (by omega)), (hc _).trans (key i y 1 hy (by omega)), (hc _).trans (key i y 2 hy (by omega))⟩, hZ.frozen _, hZ.frozen _, hZ.frozen _⟩
    dsimp only at c0 c1 c2
    have HIL : Hid (i < H.length) := by show _ < _; omega
    have g6 : i < N := by omega
    have i2 : IntKind.i64.wrap ((j : Int) + 1) = ((j + 1 : Nat) : Int) := by rw [IntWalk.i64_in _ (by omega)]; omega
    have i3 : IntKind.i64.wrap ((i : Int) + 1) = ((i + 1 : Nat) : Int) := by rw [IntWalk.i64_in _ (by omega)]; omega
    clear hx hxl hHx hHl key hy hV kV hq hbl
    go_upto_region 8 with fail
    rw [HV.out]
    obtain ⟨v0, v1, v2⟩ : V.cell? ⟨W.heap.size, 0, none⟩ = some (.string ⟨r.toArray⟩) ∧ V.cell? ⟨W.heap.size, 1, none⟩ = some (.string ⟨t.toArray⟩) ∧ V.cell? ⟨W.heap.size, 2, none⟩ = some (.bool u) := ⟨HKV.out.cell 0, HKV.out.cell 1, HKV.out.cell 2⟩
    go_wp2_with fail
    refine HC.out.mono ?_
    rintro en w2 ⟨rfl, hb2⟩
    have hbW2 : Below W.heap.size W w2 := hbWV.trans (hb2.mono hzV)
    have hbw2 : Below base w w2 := hbV.trans (hb2.mono (Nat.le_trans hzW hzV))
    have k2 := HKV.out.below hb2 HKV.out.lt
    clear v0 v1 v2 c0 c1 c2
    obtain ⟨v0, v1, v2⟩ : w2.cell? ⟨W.heap.size, 0, none⟩ = some (.string ⟨r.toArray⟩) ∧ w2.cell? ⟨W.heap.size, 1, none⟩ = some (.string ⟨t.toArray⟩) ∧ w2.cell? ⟨W.heap.size, 2, none⟩ = some (.bool u) := ⟨k2.cell 0, k2.cell 1, k2.cell 2⟩
    cases q with
    | true =>
     go_wp2_with fail
     go_roundw
     case rel => exact ⟨i, j + 1, H, rfl, rfl, by omega, by omega, HKE.out.skip HX.out HQ.out, HBL.out.below hbW2 lg, hbw2⟩
     case measure => simp [intOf]; omega
    | false =>
     obtain ⟨⟨y0, y1, y2⟩, z0, z1, z2⟩ := HY.out w2 hbW2
     have hbl3 := gcs_put ⟨r, t, u⟩ (HBL.out.below hbW2 lg) HIL.out
     have hbw3 : Below base w (((w2.setCell ⟨g0, i * 3, none⟩ (.string ⟨r.toArray⟩)).setCell ⟨g0, i * 3 + 1, none⟩ (.string ⟨t.toArray⟩)).setCell ⟨g0, i * 3 + 2, none⟩ (.bool u)) := bwS (bwS (bwS hbw2 hg0) hg0) hg0
     have HB3 := Lib.hid hbl3
     have HW3 := Lib.hid hbw3
     clear hbl3 hbw3
     go_wp2_with fail
     go_roundw
     case rel => exact ⟨i + 1, j + 1, _, rfl, rfl, by omega, by omega, HKE.out.put HX.out HQ.out, HB3.out, HW3.out⟩
     case measure => simp [intOf]; omega
   ·obtain rfl : j = N := by omega
    have g11 : ¬ (j : Int) < (j : Int) := by omega
    have hzc : (Builtin.zeroCells zGr.cells (j - i)).toList.length = (j - i) * 3 := by rw [zeroCells_len]; rfl
    have hHl : H.length = j := by rw [HKE.out.1, HL.out]
    have hsz : (gcs H ++ S).length = c * 3 := by rw [← HS.out, List.length_append, List.length_append, gcs_len, gcs_len, hHl, HL.out]
    obtain ⟨w3, hw3⟩ : ∃ w3, W.setRow g0 ((gcs H ++ S).toArray.toList.take (i * 3) ++ (Builtin.zeroCells zGr.cells (j - i)).toList ++ (gcs H ++ S).toArray.toList.drop (i * 3 + (Builtin.zeroCells zGr.cells (j - i)).toList.length)).toArray = w3 := ⟨_, rfl⟩
    have hcl : ∀ ty, (Builtin.clear_ #[22] ty #[.slice (some ⟨g0, i * 3, none⟩) (j - i) (c - i)]).run Tryz.prog W = .ok (.tuple #[]) w3 := fun ty => by
     rw [run_clear_rowN W 22 54 ty zGr Tryz.underlying22 (fun w => by simp [zeroValue, typeInfo, hi0, zi0, zGr]) g0 (i * 3) (j - i) (c - i) (by omega) _ 54 hbl (by
      rw [← Array.length_toList (xs := Builtin.zeroCells _ _), hzc]
      show _ ≤ (gcs H ++ S).length
      omega) (zeroCells_one _ _ (by decide) (by intro v hv; simp [zGr, Value.cells] at hv; rcases hv with rfl | rfl | rfl <;> rfl)), hw3]
    have hown3 : w3.ownsRow base 54 3 (.slice (some ⟨g0, 0, none⟩) i c) R.length (gcs R) := by
     have hRi : H.take i = R := by
      have := HKE.out.2.1
      rw [← HL.out, List.take_length, HR.out] at this
      exact this
     have hRl : R.length = i := by rw [← hRi, List.length_take]; omega
     have k3 : Blk w3 g0 54 ((gcs H ++ S).toArray.toList.take (i * 3) ++ (Builtin.zeroCells zGr.cells (j - i)).toList ++ (gcs H ++ S).toArray.toList.drop (i * 3 + (Builtin.zeroCells zGr.cells (j - i)).toList.length)).toArray := by rw [← hw3]; exact hbl.row _
     rw [hRl]
     refine k3.own hg0 (by omega) hcm ?_ ?_
     ·simp only [List.size_toArray, List.length_append, List.length_take, List.length_drop, hzc] at hsz ⊢
      omega
     ·show List.take (i * 3) (List.take (i * 3) (gcs H ++ S) ++ _ ++ _) = _
      rw [List.append_assoc, List.take_left' (by rw [List.length_take, hsz]; omega), List.take_append_of_le_length (by rw [gcs_len]; omega), ← hRi, (gcs_take H i).1]
    have hbw3 : Below base w w3 := by rw [← hw3]; exact bwRow hbw1 hg0 _
    have HO3 := Lib.hid hown3
    have HW3 := Lib.hid hbw3
    have g4 : ¬ c = i := by omega
    have g5 : i ≤ j := by omega
    have g6 : i ≤ c := by omega
    clear hlt hown3 hbw3 hw3 hsz hHl hzc hbl
    go_wp2_with fail
    go_ret
    exact ⟨_, rfl, HO3.out, HW3.out⟩
end Go.Proofs.YtchilcchogcibaaGreatDoor
