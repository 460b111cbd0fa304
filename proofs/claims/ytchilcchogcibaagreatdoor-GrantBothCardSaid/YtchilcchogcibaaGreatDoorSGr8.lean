/- grant.Without and grant.with as plain functions; grant.Both as a plain function. -/
import Derived.Test.YtchilcchogcibaaGreatDoorSDelG
import Derived.Test.YtchilcchogcibaaGreatDoorSMany
namespace Go.Proofs.YtchilcchogcibaaGreatDoor
open Go.RowKit
attribute [local go_sem] ByteArray.extract_mk ba_get ba_append
attribute [local go_sem ↓] Go.wp_at_zero Go.wp_at_succ
theorem own_less {w : World} {base base' : Nat} {e : TypeId} {size : Nat} {v : Value} {n : Nat} {xs : List Value} (h : w.ownsRow base e size v n xs) (hb : base' ≤ base) : w.ownsRow base' e size v n xs := by
 refine ⟨h.1, ?_⟩
 rcases h.2 with h | ⟨g, cap, cur, h1, h2, h3⟩
 ·exact .inl h
 ·exact .inr ⟨g, cap, cur, h1, Nat.le_trans hb h2, h3⟩
/-- A copy of grants, in a slice of the call's own. -/
theorem cloneG_any (A : Option Addr) (c : Nat) (l : List Gr) (w : World) (hl : l.length ≤ 1000) (h : GQ l A (Old w.heap.size) w) :
  Calls Tryz.prog 40 #[.slice A l.length c] w fun e w' => ∃ A' c', e = .returned (.slice A' l.length c') ∧ w'.ownsRow w.heap.size 54 3 (.slice A' l.length c') l.length (gcs l) ∧ Below w.heap.size w w' := by
 refine (clone_grs A c l.length (gcs l) w (by omega) h.reads (gcs_one l)).mono ?_
 rintro en w1 ⟨sv, rfl, hown, hb⟩
 obtain ⟨A', c', rfl, _⟩ := GQ.own hown
 exact ⟨A', c', rfl, hown, hb⟩
set_option maxRecDepth 100000 in
set_option maxHeartbeats 4000000 in
theorem without_any (A : Option Addr) (c : Nat) (l : List Gr) (t : List UInt8) (w : World) (hl : l.length ≤ 900) (h : GQ l A (Old w.heap.size) w) :
  Calls Tryz.prog 23 #[.slice A l.length c, .string ⟨t.toArray⟩] w (RetGs (withoutG l t) w) := by
 obtain ⟨w0, hw0⟩ : ∃ w0, w.alloc (.cells #[.string ⟨t.toArray⟩] 9) = w0 := ⟨_, rfl⟩
 have kg : Blk w0 w.heap.size 9 #[.string ⟨t.toArray⟩] := by rw [← hw0]; exact Blk.new _ _ _
 have hb0 : Below w.heap.size w w0 := by rw [← hw0]; exact bl
 have hC := cloneG_any A c l w0 (by omega) (h.keep (old_keep hb0 hb0.size))
 have HC := Lib.hid hC
 have HW := Lib.hid hw0
 have HB0 := Lib.hid hb0
 have HK := Lib.hid kg
 have HD : Hid (∀ (A' : Option Addr) (c' : Nat) (Z : World), Below w0.heap.size w0 Z → Z.ownsRow w0.heap.size 54 3 (.slice A' l.length c') l.length (gcs l) →
   Calls Tryz.prog 39 #[.slice A' l.length c', .func (.func 50) #[] #[.pointer (some ⟨w.heap.size, 0, none⟩)]] Z (RetOG w0.heap.size (l.filter fun x => !(x.t == t)) Z)) := fun A' c' Z hz hown =>
  delG_any w0.heap.size 50 w.heap.size (fun x => x.t == t) A' c' l (Go.Proofs.enters_of Tryz.func50 (by kernel_rfl) rfl) Z (by omega) hz.size hown (fun x _ Y hY =>
   withoutC_any x t w.heap.size Y ((kg.below (hz.trans hY) kg.lt).cell 0))
 clear hC hw0 kg h hb0
 go_enter Tryz.func23, Tryz.ntmps23
 go_upto_region 1 with fail
 rw [HW.out]
 clear HW
 go_wp2_with fail
 refine HC.out.mono ?_
 rintro en w1 ⟨A', c', rfl, hown, hb1⟩
 have HO := Lib.hid hown
 have hz1 := hb1.size
 clear hown
 go_wp2_with fail
 refine (HD.out A' c' w1 hb1 HO.out).mono ?_
 rintro en w2 ⟨sv, rfl, hown2, hb2⟩
 have HO2 := Lib.hid (own_less hown2 HB0.out.size)
 have HB2 := Lib.hid (HB0.out.trans ((hb1.trans hb2).mono HB0.out.size))
 clear hown2
 go_wp2_with fail
 go_ret
 exact ⟨_, rfl, HO2.out, HB2.out⟩
theorem takeWhile_at {α : Type} (p : α → Bool) : ∀ (l : List α) (k : Nat) (x : α), l[k]? = some x → p x = true → (∀ y ∈ l.take k, p y = false) → l.takeWhile (fun y => !p y) = l.take k ∧ l.dropWhile (fun y => !p y) = l.drop k
 | [], k, x, h, _, _ => by simp at h
 | a :: r, 0, x, h, hp, _ => by
  simp at h; subst h
  simp [hp]
 | a :: r, k + 1, x, h, hp, hq => by
  have ha : p a = false := hq a (by simp)
  obtain ⟨h1, h2⟩ := takeWhile_at p r k x (by simpa using h) hp (fun y hy => hq y (by simp [hy]))
  rw [List.takeWhile_cons, List.dropWhile_cons]
  simp [ha, h1, h2]
theorem takeWhile_no {α : Type} (p : α → Bool) (l : List α) (h : ∀ y ∈ l, p y = false) : l.takeWhile (fun y => !p y) = l ∧ l.dropWhile (fun y => !p y) = [] := by
 induction l with
 | nil => exact ⟨rfl, rfl⟩
 | cons a r ih =>
  obtain ⟨h1, h2⟩ := ih (fun y hy => h y (by simp [hy]))
  rw [List.takeWhile_cons, List.dropWhile_cons]
  simp [h a (by simp), h1, h2]
set_option maxRecDepth 100000 in
set_option maxHeartbeats 4000000 in
theorem with_any (A : Option Addr) (c : Nat) (l : List Gr) (y : Gr) (w : World) (hl : l.length ≤ 900) (h : GQ l A (Old w.heap.size) w) :
  Calls Tryz.prog 38 #[.slice A l.length c, .agg #[.string ⟨y.r.toArray⟩, .string ⟨y.t.toArray⟩, .bool y.w]] w (RetGs (addG l y) w) := by
 obtain ⟨w0, hw0⟩ : ∃ w0, w.alloc (.cells #[.string ⟨y.r.toArray⟩, .string ⟨y.t.toArray⟩, .bool y.w] 54) = w0 := ⟨_, rfl⟩
 have kg : Blk w0 w.heap.size 54 #[.string ⟨y.r.toArray⟩, .string ⟨y.t.toArray⟩, .bool y.w] := by rw [← hw0]; exact Blk.new _ _ _
 have hb0 : Below w.heap.size w w0 := by rw [← hw0]; exact bl
 have hC := cloneG_any A c l w0 (by omega) (h.keep (old_keep hb0 hb0.size))
 have HC := Lib.hid hC
 have HW := Lib.hid hw0
 have HB0 := Lib.hid hb0
 have HK := Lib.hid kg
 have HQ : Hid (∀ Z : World, Below w0.heap.size w0 Z → GQ l A (Old Z.heap.size) Z) := fun Z hz => h.keep (old_keep (hb0.trans (hz.mono hb0.size)) (Nat.le_trans hb0.size hz.size))
 have HP : Hid (∀ Z : World, Below w0.heap.size w0 Z → Calls Tryz.prog 37 #[.slice A l.length c, .agg #[.string ⟨y.r.toArray⟩, .string ⟨y.t.toArray⟩, .bool y.w]] Z (Ret (.int .i64 (firstP (fun x => decide (x = y)) l 0)) Z)) := fun Z hz => place_any A c l y Z (by omega) (HQ.out Z hz)
 have HI : Hid (∀ Z : World, Below w0.heap.size w0 Z → Calls Tryz.prog 60 #[.slice A l.length c, .func (.func 62) #[] #[.pointer (some ⟨w.heap.size, 0, none⟩)]] Z (Ret (.int .i64 (firstP (fun x => decide (0 < gord x y)) l 0)) Z)) := fun Z hz =>
  idxG_any A c l _ 62 w.heap.size (Go.Proofs.enters_of Tryz.func62 (by kernel_rfl) rfl) Z (by omega) (HQ.out Z hz) (fun x _ Y hY => by
   have k := kg.below (hz.trans (hY.mono hz.size)) kg.lt
   exact withC_any x y w.heap.size Y (k.cell 0) (k.cell 1) (k.cell 2))
 obtain ⟨F1, hF1⟩ : ∃ F, firstP (fun x => decide (x = y)) l 0 = F := ⟨_, rfl⟩
 obtain ⟨F2, hF2⟩ : ∃ F, firstP (fun x => decide (0 < gord x y)) l 0 = F := ⟨_, rfl⟩
 obtain ⟨R, hR⟩ : ∃ R, addG l y = R := ⟨_, rfl⟩
 have hM := firstP_mem l y
 have h2 := firstP_at (fun x => decide (0 < gord x y)) l 0
 rw [hF1] at HP hM
 rw [hF2] at HI h2
 rw [hR]
 have HM := Lib.hid hM
 have H2 := Lib.hid h2
 have HR := Lib.hid hR
 have lg0 : w.heap.size < w0.heap.size := kg.lt
 obtain ⟨N, hN⟩ : ∃ N, l.length = N := ⟨_, rfl⟩
 have HL := Lib.hid hN
 have hlN : N ≤ 900 := by omega
 rw [hN] at HC HP HI ⊢
 clear hC hw0 kg h hb0 hF1 hF2 hM h2 hR hl hN
 go_enter Tryz.func38, Tryz.ntmps38
 go_upto_region 1 with fail
 rw [HW.out]
 clear HW
 go_wp2_with fail
 refine HC.out.mono ?_
 rintro en w1 ⟨A', c', rfl, hown, hb1⟩
 have HO := Lib.hid hown
 have HLT := Lib.hid hown.lt
 have hz1 := hb1.size
 obtain ⟨⟨k0, k1, k2⟩, _⟩ := (HK.out.below hb1 lg0).three
 clear hown
 go_wp2_with fail
 refine (HP.out w1 hb1).mono ?_
 rintro en w2 ⟨rfl, hb2⟩
 have hb02 : Below w0.heap.size w0 w2 := hb1.trans (hb2.mono hz1)
 have HO2 := Lib.hid (own_below HO.out hb2)
 have hz2 := hb2.size
 have HB2 := Lib.hid hb2
 clear k0 k1 k2 hb2
 by_cases hm : y ∈ l
 ·have g1 : (0 : Int) ≤ F1 := by simpa [hm] using HM.out
  have HR2 : Hid (R = l) := by show _ = _; rw [← HR.out]; unfold addG; rw [if_pos hm]
  have HO3 := Lib.hid (own_less HO2.out HB0.out.size)
  have HB3 := Lib.hid (HB0.out.trans (hb02.mono HB0.out.size))
  clear hm
  go_wp2_with fail
  go_ret
  rw [HR2.out]
  exact ⟨_, rfl, by rw [HL.out]; exact HO3.out, HB3.out⟩
 ·have g1 : ¬ (0 : Int) ≤ F1 := by
   have := HM.out
   simpa [hm] using this
  have HR2 : Hid (R = l.takeWhile (fun x => !decide (0 < gord x y)) ++ y :: l.dropWhile (fun x => !decide (0 < gord x y))) := by show _ = _; rw [← HR.out]; unfold addG; rw [if_neg hm]
  clear hm
  have HIN : Hid (∀ (k vb : Nat) (Z : World), k ≤ N → Below w2.heap.size w2 Z → Blk Z vb 54 #[.string ⟨y.r.toArray⟩, .string ⟨y.t.toArray⟩, .bool y.w] → w2.heap.size ≤ vb →
    Calls Tryz.prog 63 #[.slice A' N c', .int .i64 k, .slice (some ⟨vb, 0, none⟩) 1 1] Z (RetOG w0.heap.size (l.take k ++ y :: l.drop k) Z)) := fun k vb Z hk hz hv hvb => by
   have hNl := HL.out
   have hO := own_below HO2.out hz
   rw [← hNl] at hO ⊢
   exact insG_any w0.heap.size k vb A' c' l y Z (by omega) (by omega) (Nat.le_trans hz1 (Nat.le_trans hz2 hz.size)) hO hv (fun a ha => by
    have := HLT.out a.block (by rw [ha]; rfl)
    omega)
  obtain ⟨⟨k0, k1, k2⟩, _⟩ := (HK.out.below hb02 lg0).three
  go_wp2_with fail
  refine (HI.out w2 hb02).mono ?_
  rintro en w3 ⟨rfl, hb3⟩
  have hb03 : Below w0.heap.size w0 w3 := hb02.trans (hb3.mono (Nat.le_trans hz1 hz2))
  have hz3 := hb3.size
  clear k0 k1 k2
  have HK3 := Lib.hid (HK.out.below hb03 lg0)
  obtain ⟨⟨k0, k1, k2⟩, _⟩ := HK3.out.three
  obtain ⟨w4, hw4⟩ : ∃ w4, w3.alloc (.cells #[.string ⟨y.r.toArray⟩, .string ⟨y.t.toArray⟩, .bool y.w] 54) = w4 := ⟨_, rfl⟩
  have kv4 : Blk w4 w3.heap.size 54 #[.string ⟨y.r.toArray⟩, .string ⟨y.t.toArray⟩, .bool y.w] := by rw [← hw4]; exact Blk.new _ _ _
  have hb34 : Below w3.heap.size w3 w4 := by rw [← hw4]; exact bl
  have hb4 : Below w2.heap.size w2 w4 := hb3.trans (hb34.mono hz3)
  have hb04 : Below w0.heap.size w0 w4 := hb03.trans (hb34.mono (by omega))
  have HW4 := Lib.hid hw4
  have HB4 : Hid (∀ Z : World, Below w0.heap.size w4 Z → Below w.heap.size w Z) := fun Z hz => HB0.out.trans ((hb04.trans hz).mono HB0.out.size)
  have HINS : Hid (∀ k, k ≤ N → Calls Tryz.prog 63 #[.slice A' N c', .int .i64 (k : Nat), .slice (some ⟨w3.heap.size, 0, none⟩) 1 1] (w3.alloc (.cells #[.string ⟨y.r.toArray⟩, .string ⟨y.t.toArray⟩, .bool y.w] 54)) (RetOG w0.heap.size (l.take k ++ y :: l.drop k) w4)) := fun k hk => by
   rw [hw4]
   exact HIN.out k w3.heap.size w4 hk hb4 kv4 (by omega)
  clear hw4 kv4 hb34 hb4 hb04 HIN HI HP
  have hcase : (F2 = -1 ∧ R = l.take N ++ y :: l.drop N) ∨ ∃ k : Nat, F2 = (k : Int) ∧ k ≤ N ∧ R = l.take k ++ y :: l.drop k := by
   rcases H2.out with ⟨h21, h22⟩ | ⟨k, x, hk, h21, hx, hpx, h22⟩
   ·left
    obtain ⟨e1, e2⟩ := takeWhile_no (fun x => decide (0 < gord x y)) l h22
    refine ⟨h21, ?_⟩
    rw [HR2.out, e1, e2, ← HL.out, List.take_length, List.drop_length]
   ·right
    obtain ⟨e1, e2⟩ := takeWhile_at (fun x => decide (0 < gord x y)) l k x hx hpx h22
    exact ⟨k, by rw [h21, Nat.zero_add], by rw [← HL.out]; omega, by rw [HR2.out, e1, e2]⟩
  rcases hcase with ⟨rfl, hr⟩ | ⟨k, rfl, hk, hr⟩
  ·have HE := Lib.hid hr
   have HX := Lib.hid (HINS.out N (Nat.le_refl _))
   clear hr
   go_wp2_with fail
   refine HX.out.mono ?_
   rintro en w5 ⟨sv, rfl, hown5, hb5⟩
   have HO5 := Lib.hid (own_less hown5 HB0.out.size)
   have HB5 := Lib.hid (HB4.out _ hb5)
   clear hown5 hb5
   go_wp2_with fail
   go_ret
   rw [HE.out]
   exact ⟨_, rfl, HO5.out, HB5.out⟩
  ·have HE := Lib.hid hr
   have HX := Lib.hid (HINS.out k hk)
   have g2 : ¬ (k : Int) < 0 := by omega
   clear hr
   go_wp2_with fail
   refine HX.out.mono ?_
   rintro en w5 ⟨sv, rfl, hown5, hb5⟩
   have HO5 := Lib.hid (own_less hown5 HB0.out.size)
   have HB5 := Lib.hid (HB4.out _ hb5)
   clear hown5 hb5
   go_wp2_with fail
   go_ret
   rw [HE.out]
   exact ⟨_, rfl, HO5.out, HB5.out⟩
/-- Does some table lack the grant? -/
def lackG (l : List Gr) (g : Gr) (t : List UInt8) : Bool := !decide ((⟨g.r, t, g.w⟩ : Gr) ∈ l)
def bothStep (l : List Gr) (u : List UInt8) (ts : List (List UInt8)) (acc : List Gr) (g : Gr) : List Gr := if ts.any (lackG l g) then acc else addG acc ⟨g.r, u, g.w⟩
def bothG (l : List Gr) (u : List UInt8) (ts : List (List UInt8)) : List Gr := if ts = [] then withoutG l u else l.foldl (bothStep l u ts) (withoutG l u)
theorem addG_len (l : List Gr) (g : Gr) : (addG l g).length ≤ l.length + 1 := by
 unfold addG
 split
 ·omega
 ·have := congrArg List.length (List.takeWhile_append_dropWhile (p := fun x => !decide (0 < gord x g)) (l := l))
  rw [List.length_append] at this ⊢
  rw [List.length_cons]
  omega
theorem bothStep_len (l : List Gr) (u : List UInt8) (ts : List (List UInt8)) (acc : List Gr) (g : Gr) : (bothStep l u ts acc g).length ≤ acc.length + 1 := by
 unfold bothStep
 split
 ·omega
 ·exact addG_len _ _
theorem foldl_len (l : List Gr) (u : List UInt8) (ts : List (List UInt8)) : ∀ (r acc : List Gr), (r.foldl (bothStep l u ts) acc).length ≤ acc.length + r.length
 | [], acc => by simp
 | g :: r, acc => by
  have := foldl_len l u ts r (bothStep l u ts acc g)
  have h2 := bothStep_len l u ts acc g
  rw [List.foldl_cons, List.length_cons]
  omega
set_option maxRecDepth 100000 in
theorem bothC_any (A : Option Addr) (c : Nat) (l : List Gr) (g : Gr) (t : List UInt8) (p q : Nat) (w : World) (hl : l.length ≤ 1000000) (h : GQ l A (Old w.heap.size) w) (hp : w.cell? ⟨p, 0, none⟩ = some (.slice A l.length c))
  (q0 : w.cell? ⟨q, 0, none⟩ = some (.string ⟨g.r.toArray⟩)) (q2 : w.cell? ⟨q, 2, none⟩ = some (.bool g.w)) :
  Calls Tryz.prog 51 #[.string ⟨t.toArray⟩, .pointer (some ⟨p, 0, none⟩), .pointer (some ⟨q, 0, none⟩)] w (Ret (.bool (lackG l g t)) w) := by
 have hpw := Blk_lt_of_cell hp
 have hqw := Blk_lt_of_cell q0
 have HP := Lib.hid (place_any A c l ⟨g.r, t, g.w⟩ w hl h)
 have HM := Lib.hid (firstP_mem l ⟨g.r, t, g.w⟩)
 obtain ⟨F, hF⟩ : ∃ F, firstP (fun x => decide (x = (⟨g.r, t, g.w⟩ : Gr))) l 0 = F := ⟨_, rfl⟩
 rw [hF] at HP HM
 obtain ⟨R, hR⟩ : ∃ R, lackG l g t = R := ⟨_, rfl⟩
 have HR : Hid (R = !decide (0 ≤ F)) := by show _ = _; rw [HM.out, ← hR]; rfl
 rw [hR]
 clear h hF hR
 go_enter Tryz.func51, Tryz.ntmps51
 go_wp2_with fail
 refine HP.out.mono ?_
 rintro en w1 ⟨rfl, hb1⟩
 go_wp2_with fail
 go_ret
 refine ⟨?_, hb1⟩
 rw [HR.out]
 by_cases h0 : (0 : Int) ≤ F
 ·simp [h0]
 ·simp [h0]
  omega
set_option maxRecDepth 100000 in
set_option maxHeartbeats 4000000 in
theorem both_any (A : Option Addr) (c : Nat) (l : List Gr) (u : List UInt8) (At : Option Addr) (ct : Nat) (ts : List (List UInt8)) (w : World) (hl : l.length ≤ 400) (ht : ts.length ≤ 1000) (h : GQ l A (Old w.heap.size) w) (hT : SQ ts At (Old w.heap.size) w) :
  Calls Tryz.prog 25 #[.slice A l.length c, .string ⟨u.toArray⟩, .slice At ts.length ct] w (RetGs (bothG l u ts) w) := by
 obtain ⟨w0, hw0⟩ : ∃ w0, w.alloc (.cells #[.slice A l.length c] 22) = w0 := ⟨_, rfl⟩
 have kg : Blk w0 w.heap.size 22 #[.slice A l.length c] := by rw [← hw0]; exact Blk.new _ _ _
 have hb0 : Below w.heap.size w w0 := by rw [← hw0]; exact bl
 have hb0w : Below w.heap.size w w0 := hb0
 have hz0 := hb0.size
 have hs0 : w0.heap.size = w.heap.size + 1 := by rw [← hw0]; simp
 have HQ : Hid (∀ Z : World, Below w0.heap.size w0 Z → GQ l A (Old Z.heap.size) Z) := fun Z hz => h.keep (old_keep (hb0.trans (hz.mono hz0)) (Nat.le_trans hz0 hz.size))
 have HT : Hid (∀ Z : World, Below w0.heap.size w0 Z → SQ ts At (Old Z.heap.size) Z) := fun Z hz => hT.keep (old_keep (hb0.trans (hz.mono hz0)) (Nat.le_trans hz0 hz.size))
 have HWO : Hid (∀ Z : World, Below w0.heap.size w0 Z → Calls Tryz.prog 23 #[.slice A l.length c, .string ⟨u.toArray⟩] Z (RetGs (withoutG l u) Z)) := fun Z hz => without_any A c l u Z (by omega) (HQ.out Z hz)
 have HK : Hid (∀ Z : World, Below w0.heap.size w0 Z → Z.cell? ⟨w.heap.size, 0, none⟩ = some (.slice A l.length c)) := fun Z hz => (kg.below hz kg.lt).cell 0
 have HCF : Hid (∀ (g : Gr) (q : Nat) (Z : World), Below w0.heap.size w0 Z → Blk Z q 54 #[.string ⟨g.r.toArray⟩, .string ⟨g.t.toArray⟩, .bool g.w] →
   Calls Tryz.prog 52 #[.slice At ts.length ct, .func (.func 51) #[] #[.pointer (some ⟨w.heap.size, 0, none⟩), .pointer (some ⟨q, 0, none⟩)]] Z (Ret (.bool (ts.any (lackG l g))) Z)) := fun g q Z hz hq =>
  con_str At ct ts (lackG l g) 51 #[.pointer (some ⟨w.heap.size, 0, none⟩), .pointer (some ⟨q, 0, none⟩)] (Go.Proofs.enters_of Tryz.func51 (by kernel_rfl) rfl) Z (by omega) (HT.out Z hz) (fun t _ Y hY _ => by
   have hzY : Below w0.heap.size w0 Y := hz.trans (hY.mono hz.size)
   have kq := hq.below hY hq.lt
   exact bothC_any A c l g t w.heap.size q Y (by omega) (HQ.out Y hzY) (HK.out Y hzY) (kq.cell 0) (kq.cell 2))
 have HWI : Hid (∀ (M : Nat) (acc : List Gr) (A' : Option Addr) (c' : Nat) (g : Gr) (Z : World), acc.length = M → M ≤ 900 → Z.ownsRow w.heap.size 54 3 (.slice A' M c') M (gcs acc) → Calls Tryz.prog 38 #[.slice A' M c', .agg #[.string ⟨g.r.toArray⟩, .string ⟨g.t.toArray⟩, .bool g.w]] Z (RetGs (addG acc g) Z)) := fun M acc A' c' g Z hM hn ho => by
  subst hM
  obtain ⟨A2, c2, e, _, _, hg⟩ := GQ.own ho
  injection e with e1 e2 e3
  subst e1
  exact with_any A' c' acc g Z hn (hg.keep fun b hb => ⟨hb.2, fun o => rfl⟩)
 have HW := Lib.hid hw0
 have HB0 := Lib.hid hb0
 obtain ⟨R, hR⟩ : ∃ R, bothG l u ts = R := ⟨_, rfl⟩
 have HR := Lib.hid hR
 obtain ⟨N, hN⟩ : ∃ N, l.length = N := ⟨_, rfl⟩
 have HL := Lib.hid hN
 obtain ⟨T, hTn⟩ : ∃ T, ts.length = T := ⟨_, rfl⟩
 have HTN := Lib.hid hTn
 rw [hR]
 rw [hN] at hl HWO HK HW ⊢
 rw [hTn] at ht HCF ⊢
 have HWL : Hid ((withoutG l u).length ≤ N) := by
  show _ ≤ _
  rw [← hN]
  exact List.length_filter_le _ _
 clear hw0 kg hR hN hTn h hT hb0
 go_enter Tryz.func25, Tryz.ntmps25
 go_upto_region 1 with fail
 rw [show w.alloc _ = w0 from HW.out]
 clear HW
 have k0 := HK.out w0 (Below.refl _ _)
 go_wp2_with fail
 refine (HWO.out w0 (Below.refl _ _)).mono ?_
 rintro en w1 ⟨sv, rfl, hown, hb1⟩
 obtain ⟨A1, c1, rfl, _⟩ := GQ.own hown
 have HO := Lib.hid (own_less hown hz0)
 obtain ⟨M, hM⟩ : ∃ M, (withoutG l u).length = M := ⟨_, rfl⟩
 have HM := Lib.hid hM
 rw [hM] at HO ⊢
 have hMN : M ≤ N := by rw [← hM]; exact HWL.out
 have HB1 := Lib.hid (HB0.out.trans (hb1.mono hz0))
 clear hown hM k0
 by_cases hT0 : T = 0
 ·have HF : Hid (R = withoutG l u) := by
   show _ = _
   rw [← HR.out]
   unfold bothG
   rw [if_pos (List.eq_nil_of_length_eq_zero (by rw [HTN.out]; exact hT0))]
  subst hT0
  go_wp2_with fail
  go_ret
  rw [HF.out]
  exact ⟨_, rfl, by rw [HM.out]; exact HO.out, HB1.out⟩
 ·have HF : Hid (l.foldl (bothStep l u ts) (withoutG l u) = R) := by
   show _ = _
   rw [← HR.out]
   unfold bothG
   rw [if_neg (fun e => hT0 (by rw [← HTN.out, e]; rfl))]
  have t1 : ¬ (T : Int) = 0 := by omega
  have t2 : ((T : Int) == 0) = false := by rw [beq_eq_false_iff_ne]; exact t1
  have k1 := HK.out w1 hb1
  clear hT0
  go_wp2_with fail
  go_loopw [7, 20] (fun s7' i wr => ∃ (j M : Nat) (A' : Option Addr) (c' : Nat) (acc : List Gr), s7' = .slice A' M c' ∧ i = .int .i64 j ∧ j ≤ N ∧ M ≤ N + j ∧ Hid (acc.length = M) ∧ Hid (acc = (l.take j).foldl (bothStep l u ts) (withoutG l u)) ∧ Hid (wr.ownsRow w.heap.size 54 3 (.slice A' M c') M (gcs acc)) ∧ Below w0.heap.size w0 wr) (fun _ i _ => N - (intOf i).toNat)
  case atStart => exact ⟨0, M, A1, c1, withoutG l u, rfl, rfl, by omega, by omega, HM, rfl, HO, hb1⟩
  case round =>
   obtain ⟨j, M, A', c', acc, rfl, rfl, hj, hM, HMA, HACC, HOW, hbw⟩ := hrel
   obtain ⟨W, rfl⟩ : ∃ W, W = wr := ⟨_, rfl⟩
   have hzw := hbw.size
   by_cases hlt : j < N
   ·obtain ⟨b, off, x, rfl, hbB, hv, d0, d1, d2⟩ := (HQ.out W hbw).at_ (j := j) (by rw [HL.out]; exact hlt)
    have HST : Hid ((l.take (j + 1)).foldl (bothStep l u ts) (withoutG l u) = bothStep l u ts acc x) := by
     show _ = _
     rw [List.take_add_one, hv, List.foldl_append, ← HACC.out]
     rfl
    obtain ⟨V, hV⟩ : ∃ V, W.alloc (.cells #[.string ⟨x.r.toArray⟩, .string ⟨x.t.toArray⟩, .bool x.w] 54) = V := ⟨_, rfl⟩
    have kV : Blk V W.heap.size 54 #[.string ⟨x.r.toArray⟩, .string ⟨x.t.toArray⟩, .bool x.w] := by rw [← hV]; exact Blk.new _ _ _
    have hbWV : Below W.heap.size W V := by rw [← hV]; exact bl
    have hbV : Below w0.heap.size w0 V := hbw.trans (hbWV.mono hzw)
    have HC := Lib.hid (HCF.out x W.heap.size V hbV kV)
    have HKV := Lib.hid kV
    have HV := Lib.hid hV
    have hzV := hbV.size
    have hzWV := hbWV.size
    obtain ⟨B, hB⟩ : ∃ B, ts.any (lackG l x) = B := ⟨_, rfl⟩
    rw [hB] at HC
    have HBB := Lib.hid hB
    clear hv hV kV hB
    go_upto_region 7 with fail
    rw [show W.alloc _ = V from HV.out]
    go_wp2_with fail
    refine HC.out.mono ?_
    rintro en w2 ⟨rfl, hb2⟩
    have hbW2 : Below W.heap.size W w2 := hbWV.trans (hb2.mono hzWV)
    have hbw2 : Below w0.heap.size w0 w2 := hbV.trans (hb2.mono hzV)
    have HO2 := Lib.hid (own_below HOW.out hbW2)
    have k2 := HKV.out.below hb2 HKV.out.lt
    obtain ⟨e0, e2⟩ : w2.cell? ⟨W.heap.size, 0, none⟩ = some (.string ⟨x.r.toArray⟩) ∧ w2.cell? ⟨W.heap.size, 2, none⟩ = some (.bool x.w) := ⟨k2.cell 0, k2.cell 2⟩
    clear k2
    cases B with
    | true =>
     have HS2 : Hid (acc = (l.take (j + 1)).foldl (bothStep l u ts) (withoutG l u)) := by show _ = _; rw [HST.out]; unfold bothStep; rw [HBB.out]; rfl
     go_wp2_with fail
     go_roundw
     case rel => exact ⟨j + 1, M, A', c', acc, rfl, by go_num, by omega, by omega, HMA, HS2, HO2, hbw2⟩
     case measure => simp [intOf]; omega
    | false =>
     have HS2 : Hid (addG acc ⟨x.r, u, x.w⟩ = (l.take (j + 1)).foldl (bothStep l u ts) (withoutG l u)) := by show _ = _; rw [HST.out]; unfold bothStep; rw [HBB.out]; rfl
     have HWC := Lib.hid (HWI.out M acc A' c' ⟨x.r, u, x.w⟩ w2 HMA.out (by omega) HO2.out)
     go_wp2_with fail
     refine HWC.out.mono ?_
     rintro en w3 ⟨sv, rfl, hown3, hb3⟩
     obtain ⟨A3, c3, rfl, _⟩ := GQ.own hown3
     have hbw3 : Below w0.heap.size w0 w3 := hbw2.trans (hb3.mono hbw2.size)
     have hzz : w.heap.size ≤ w2.heap.size := Nat.le_trans hz0 hbw2.size
     obtain ⟨M3, hM3⟩ : ∃ M, (addG acc ⟨x.r, u, x.w⟩).length = M := ⟨_, rfl⟩
     have hM3' : M3 ≤ M + 1 := by rw [← hM3]; have := addG_len acc ⟨x.r, u, x.w⟩; rw [HMA.out] at this; exact this
     rw [hM3] at hown3 ⊢
     have HO3 := Lib.hid (own_less hown3 hzz)
     have HM3 := Lib.hid hM3
     clear hown3 hM3
     go_wp2_with fail
     go_roundw
     case rel => exact ⟨j + 1, M3, A3, c3, _, rfl, by go_num, by omega, by omega, HM3, HS2, HO3, hbw3⟩
     case measure => simp [intOf]; omega
   ·obtain rfl : j = N := by omega
    have HE : Hid (R = acc) := by
     show _ = _
     rw [HACC.out, ← HL.out, List.take_length, HF.out]
    have g11 : ¬ (j : Int) < (j : Int) := by omega
    have HBW := Lib.hid (HB0.out.trans (hbw.mono hz0))
    clear hlt
    go_wp2_with fail
    go_ret
    rw [HE.out]
    exact ⟨_, rfl, by rw [HMA.out]; exact HOW.out, HBW.out⟩
end Go.Proofs.YtchilcchogcibaaGreatDoor
