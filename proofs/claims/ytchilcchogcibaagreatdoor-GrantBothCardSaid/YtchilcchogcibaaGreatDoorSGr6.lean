/- grant.place, and the closures that are held against a grant; Plain law; The document's number of nodes, May and Type of an expression, as plain functions; Plain laws; The closures of package grant that are held against a grant, or a table. -/
import Derived.Shelf.Abstract
import Derived.Lib.AtoiAllCases
import Derived.Lib.ParseIntBTie
import Derived.Test.YtchilcchogcibaaGreatDoorSGot
import Derived.Test.YtchilcchogcibaaGreatDoorSOpenS
import Derived.Test.YtchilcchogcibaaGreatDoorSRd1
namespace Go.Proofs.YtchilcchogcibaaGreatDoor
open Go.RowKit
attribute [local go_sem] ByteArray.extract_mk ba_get ba_append
attribute [local go_sem ↓] Go.wp_at_zero Go.wp_at_succ
def eqG (a b : Gr) : Bool := decide (a.r = b.r) && (decide (a.t = b.t) && decide (a.w = b.w))
theorem eqG_iff (a b : Gr) : eqG a b = decide (a = b) := by
 obtain ⟨r, t, w⟩ := a
 obtain ⟨r', t', w'⟩ := b
 unfold eqG
 by_cases h1 : r = r' <;> by_cases h2 : t = t' <;> by_cases h3 : w = w' <;> simp [h1, h2, h3]
theorem run_eql_G (r t : List UInt8) (u : Bool) (r' t' : List UInt8) (u' : Bool) (w : World) :
  (binOp .eql 54 (.agg #[.string ⟨r.toArray⟩, .string ⟨t.toArray⟩, .bool u]) (.agg #[.string ⟨r'.toArray⟩, .string ⟨t'.toArray⟩, .bool u'])).run Tryz.prog w = .ok (.bool (eqG ⟨r, t, u⟩ ⟨r', t', u'⟩)) w := by
 by_cases h1 : r = r' <;> by_cases h2 : t = t' <;> cases u <;> cases u' <;> simp [go_sem, eqG, h1, h2, Tryz.underlying54, Tryz.underlying9, Tryz.underlying4]
attribute [local go_sem ↓] run_eql_G
theorem placeC_any (x y : Gr) (g : Nat) (w : World) (h0 : w.cell? ⟨g, 0, none⟩ = some (.string ⟨y.r.toArray⟩)) (h1 : w.cell? ⟨g, 1, none⟩ = some (.string ⟨y.t.toArray⟩)) (h2 : w.cell? ⟨g, 2, none⟩ = some (.bool y.w)) :
  Calls Tryz.prog 61 #[.agg #[.string ⟨x.r.toArray⟩, .string ⟨x.t.toArray⟩, .bool x.w], .pointer (some ⟨g, 0, none⟩)] w (Ret (.bool (decide (x = y))) w) := by
 have hg : g < w.heap.size := Blk_lt_of_cell h0
 have HE := Lib.hid (eqG_iff x y)
 rw [← HE.out]
 go_enter Tryz.func61, Tryz.ntmps61
 go_wp2_with fail
 go_ret
 exact ⟨rfl, by exact bl⟩
theorem place_any (A : Option Addr) (c : Nat) (l : List Gr) (y : Gr) (w : World) (hl : l.length ≤ 1000000) (h : GQ l A (Old w.heap.size) w) :
  Calls Tryz.prog 37 #[.slice A l.length c, .agg #[.string ⟨y.r.toArray⟩, .string ⟨y.t.toArray⟩, .bool y.w]] w (Ret (.int .i64 (firstP (fun x => decide (x = y)) l 0)) w) := by
 obtain ⟨w0, hw0⟩ : ∃ w0, w.alloc (.cells #[.string ⟨y.r.toArray⟩, .string ⟨y.t.toArray⟩, .bool y.w] 54) = w0 := ⟨_, rfl⟩
 have kg : Blk w0 w.heap.size 54 #[.string ⟨y.r.toArray⟩, .string ⟨y.t.toArray⟩, .bool y.w] := by rw [← hw0]; exact Blk.new _ _ _
 have hb0 : Below w.heap.size w w0 := by rw [← hw0]; exact bl
 have hI := idxG_any A c l (fun x => decide (x = y)) 61 w.heap.size (Go.Proofs.enters_of Tryz.func61 (by kernel_rfl) rfl) w0 hl (h.keep (old_keep hb0 hb0.size)) (fun x _ Z hz => by
  have k := kg.below hz kg.lt
  exact placeC_any x y w.heap.size Z (k.cell 0) (k.cell 1) (k.cell 2))
 have HI := Lib.hid hI
 have HW := Lib.hid hw0
 have HB0 := Lib.hid hb0
 clear hI hw0 kg h hb0
 go_enter Tryz.func37, Tryz.ntmps37
 go_upto_region 1 with fail
 rw [HW.out]
 clear HW
 go_wp2_with fail
 refine HI.out.mono ?_
 rintro en w1 ⟨rfl, hb1⟩
 go_wp2_with fail
 go_ret
 exact ⟨rfl, HB0.out.trans (hb1.mono HB0.out.size)⟩
theorem firstP_mem (l : List Gr) (y : Gr) : decide (0 ≤ firstP (fun x => decide (x = y)) l 0) = decide (y ∈ l) := by
 rw [firstP_any]
 induction l with
 | nil => simp
 | cons x r ih =>
  rw [List.any_cons, ih]
  by_cases h : x = y
  ·simp [h]
  ·have h' : ¬ y = x := fun e => h e.symm
   by_cases h2 : y ∈ r <;> simp [h, h', h2]
end Go.Proofs.YtchilcchogcibaaGreatDoor
namespace Go.Proofs.YtchilcchogcibaaGreatDoor
open Go.RowKit
theorem form_up : ∀ (n : Nat) (e : Ex), formE n e = true → formE (n + 1) e = true := by
 intro n
 induction n with
 | zero => intro e h; simp [formE] at h
 | succ n ih =>
  intro e h
  rcases form_cases h with ⟨he, hm⟩ | ⟨he, hn, hr⟩ | ⟨a, rfl, ha⟩ | ⟨a, rfl, ha⟩ | ⟨op, a, b, rfl, ho, ha, hb⟩
  ·have hop : e.op = opLit := by rw [he]; rfl
   rw [form_lit hop] at h ⊢
   exact h
  ·have hop : e.op = opCol := by rw [he]; rfl
   have hne : ¬ e.op = opLit := by rw [hop]; decide
   rw [form_col hne hop] at h ⊢
   exact h
  ·rw [form_one (e := .mk opNot V.zero [] [a]) (show ¬ opNot = opLit by decide) (show ¬ opNot = opCol by decide) (.inl rfl)] at h ⊢
   simp only [Bool.and_eq_true] at h ⊢
   exact ⟨h.1, h.2.1, h.2.2.1, ih _ h.2.2.2⟩
  ·rw [form_one (e := .mk opNull V.zero [] [a]) (show ¬ opNull = opLit by decide) (show ¬ opNull = opCol by decide) (.inr rfl)] at h ⊢
   simp only [Bool.and_eq_true] at h ⊢
   exact ⟨h.1, h.2.1, h.2.2.1, ih _ h.2.2.2⟩
  ·obtain ⟨n1, n2, n3, n4⟩ := twoB_ne ho
   rw [form_two (e := .mk op V.zero [] [a, b]) n1 n2 (by rintro (h | h); exact n3 h; exact n4 h) ho] at h ⊢
   simp only [Bool.and_eq_true] at h ⊢
   exact ⟨h.1, h.2.1, h.2.2.1, ih _ h.2.2.2.1, ih _ h.2.2.2.2⟩
theorem tokX_two {n : Nat} {op : List UInt8} {a b : Ex} (n1 : ¬ op = opLit) (n2 : ¬ op = opCol) (n3 : ¬ op = opNot) (n4 : ¬ op = opNull) : tokX (n + 1) (.mk op V.zero [] [a, b]) = sg 40 :: (tokX n a ++ opK op :: (tokX n b ++ [sg 41])) := by
 conv => lhs; unfold tokX
 rw [if_neg (c := (Ex.mk op V.zero [] [a, b]).op = opLit) n1, if_neg (c := (Ex.mk op V.zero [] [a, b]).op = opCol) n2, if_neg (c := (Ex.mk op V.zero [] [a, b]).op = opNot) n3, if_neg (c := (Ex.mk op V.zero [] [a, b]).op = opNull) n4]
 rfl
theorem textN_two {n : Nat} {op : List UInt8} {a b : Ex} (n1 : ¬ op = opLit) (n2 : ¬ op = opCol) (n3 : ¬ op = opNot) (n4 : ¬ op = opNull) : textN (n + 1) (.mk op V.zero [] [a, b]) = ((([40] ++ textN n a) ++ [32]) ++ upperB op) ++ [32] ++ textN n b ++ [41] := by
 conv => lhs; unfold textN
 rw [if_neg (c := (Ex.mk op V.zero [] [a, b]).op = opLit) n1, if_neg (c := (Ex.mk op V.zero [] [a, b]).op = opCol) n2, if_neg (c := (Ex.mk op V.zero [] [a, b]).op = opNot) n3, if_neg (c := (Ex.mk op V.zero [] [a, b]).op = opNull) n4]
 rfl
theorem tok_up : ∀ (n : Nat) (e : Ex), formE n e = true → tokX (n + 1) e = tokX n e ∧ textN (n + 1) e = textN n e := by
 intro n
 induction n with
 | zero => intro e h; simp [formE] at h
 | succ n ih =>
  intro e h
  rcases form_cases h with ⟨he, hm⟩ | ⟨he, hn, hr⟩ | ⟨a, rfl, ha⟩ | ⟨a, rfl, ha⟩ | ⟨op, a, b, rfl, ho, ha, hb⟩
  ·rw [he]; exact ⟨rfl, rfl⟩
  ·rw [he]; exact ⟨rfl, rfl⟩
  ·obtain ⟨h1, h2⟩ := ih a ha
   refine ⟨?_, ?_⟩
   ·show sg 40 :: wd [78, 79, 84] :: (tokX (n + 1) a ++ [sg 41]) = sg 40 :: wd [78, 79, 84] :: (tokX n a ++ [sg 41])
    rw [h1]
   ·show ([40, 78, 79, 84, 32] ++ textN (n + 1) a) ++ [41] = ([40, 78, 79, 84, 32] ++ textN n a) ++ [41]
    rw [h2]
  ·obtain ⟨h1, h2⟩ := ih a ha
   refine ⟨?_, ?_⟩
   ·show sg 40 :: (tokX (n + 1) a ++ [wd [73, 83], wd [78, 85, 76, 76], sg 41]) = sg 40 :: (tokX n a ++ [wd [73, 83], wd [78, 85, 76, 76], sg 41])
    rw [h1]
   ·show ([40] ++ textN (n + 1) a) ++ [32, 73, 83, 32, 78, 85, 76, 76, 41] = ([40] ++ textN n a) ++ [32, 73, 83, 32, 78, 85, 76, 76, 41]
    rw [h2]
  ·obtain ⟨h1, h2⟩ := ih a ha
   obtain ⟨h3, h4⟩ := ih b hb
   obtain ⟨n1, n2, n3, n4⟩ := twoB_ne ho
   refine ⟨?_, ?_⟩
   ·rw [tokX_two n1 n2 n3 n4, tokX_two n1 n2 n3 n4, h1, h3]
   ·rw [textN_two n1 n2 n3 n4, textN_two n1 n2 n3 n4, h2, h4]
end Go.Proofs.YtchilcchogcibaaGreatDoor
namespace Go.Proofs.YtchilcchogcibaaGreatDoor
open Go.RowKit
attribute [local go_sem] ByteArray.extract_mk ba_get ba_append
attribute [local go_sem ↓] Go.wp_at_zero Go.wp_at_succ run_eql_V run_neq_V
theorem sum_step (f : Ex → Nat) (l : List Ex) (j : Nat) (x : Ex) (h : l[j]? = some x) : ((l.take (j + 1)).map f).sum = ((l.take j).map f).sum + f x ∧ ((l.take j).map f).sum + f x ≤ (l.map f).sum := by
 obtain ⟨hj, rfl⟩ := List.getElem?_eq_some_iff.1 h
 have h1 : ((l.take (j + 1)).map f).sum = ((l.take j).map f).sum + f l[j] := by rw [List.take_succ_eq_append_getElem hj, List.map_append, List.sum_append]; simp
 refine ⟨h1, ?_⟩
 have h2 : (l.map f).sum = ((l.take (j + 1)).map f).sum + ((l.drop (j + 1)).map f).sum := by rw [← List.sum_append, ← List.map_append, List.take_append_drop]
 omega
set_option maxHeartbeats 2000000 in
theorem nodes_any : ∀ (n : Nat) (e : Ex) (A : Option Addr) (c : Nat) (w : World), nodesE n e ≤ 100000 → e.l.length ≤ 100000 → ExS 1000 n w w.heap.size A e.l →
  Calls Tryz.prog 183 #[.agg (e.cells A c).toArray] w (Ret (.int .i64 (nodesE n e)) w) := by
 intro n
 induction n with
 | zero =>
  intro e A c w _ _ hE
  have hl : e.l = [] := hE
  have b0 : ¬ ((0 : Int) < ((e.l.length : Nat) : Int)) := by rw [hl]; simp
  have q5 : (w.alloc (.cells (e.cells A c).toArray 30)).cell? ⟨w.heap.size, 5, none⟩ = some (.slice A e.l.length c) := (Blk.six (Blk.new w _ _)).2.2.2.2.2
  have hb0 : Below w.heap.size w (w.alloc (.cells (e.cells A c).toArray 30)) := by exact bl
  obtain ⟨w0, hw0⟩ : ∃ w0, w.alloc (.cells (e.cells A c).toArray 30) = w0 := ⟨_, rfl⟩
  rw [hw0] at q5 hb0
  have HW := Lib.hid hw0
  clear hw0 hE hl
  go_enter Tryz.func183, Tryz.ntmps183
  go_upto_region 1 with fail
  rw [show w.alloc _ = w0 from HW.out]
  go_wp2_with fail
  go_loopw [3, 4] (fun s3 s4 wr => s3 = .int .i64 1 ∧ s4 = .int .i64 0 ∧ wr = w0) (fun _ _ _ => 0)
  case atStart => exact ⟨rfl, rfl, rfl⟩
  case round =>
   obtain ⟨rfl, rfl, rfl⟩ := hrel
   go_wp2_with fail
   go_ret
   exact ⟨rfl, hb0⟩
 | succ n ih =>
  intro e A c w hN hlen hE
  obtain ⟨w0, hw0⟩ : ∃ w0, w.alloc (.cells (e.cells A c).toArray 30) = w0 := ⟨_, rfl⟩
  have kq0 : Blk w0 w.heap.size 30 (e.cells A c).toArray := by rw [← hw0]; exact Blk.new _ _ _
  have hb0 : Below w.heap.size w w0 := by rw [← hw0]; exact bl
  have HSH : Hid (∀ w' : World, Below w0.heap.size w0 w' → (w'.cell? ⟨w.heap.size, 0, none⟩ = some (.string ⟨e.op.toArray⟩) ∧ w'.cell? ⟨w.heap.size, 1, none⟩ = some (.int .i64 e.v.k) ∧ w'.cell? ⟨w.heap.size, 2, none⟩ = some (.int .i64 e.v.i) ∧ w'.cell? ⟨w.heap.size, 3, none⟩ = some (.string ⟨e.v.s.toArray⟩) ∧ w'.cell? ⟨w.heap.size, 4, none⟩ = some (.string ⟨e.s.toArray⟩) ∧ w'.cell? ⟨w.heap.size, 5, none⟩ = some (.slice A e.l.length c))) := fun w' h => (kq0.below h kq0.lt).six
  have HE : Hid (∀ Y : World, Below w0.heap.size w0 Y → ExS 1000 (n + 1) Y Y.heap.size A e.l) := fun Y h => ((hE.below (n + 1) (hb0.trans (h.mono hb0.size)))).more (Nat.le_trans hb0.size h.size) (n + 1)
  have HW := Lib.hid hw0
  obtain ⟨R, hR⟩ : ∃ R, nodesE (n + 1) e = R := ⟨_, rfl⟩
  rw [hR] at hN ⊢
  have hR' : 1 + (e.l.map (nodesE n)).sum = R := hR
  have HR := Lib.hid hR'
  have HIH := Lib.hid ih
  clear ih hw0 hE kq0 hR hR'
  obtain ⟨q0, q1, q2, q3, q4, q5⟩ := HSH.out w0 (Below.refl _ _)
  go_enter Tryz.func183, Tryz.ntmps183
  go_upto_region 1 with fail
  rw [show w.alloc _ = w0 from HW.out]
  clear HW
  go_wp2_with fail
  go_loopw [3, 4] (fun s3 s4 wr => ∃ j s : Nat, j ≤ e.l.length ∧ s3 = .int .i64 s ∧ s4 = .int .i64 j ∧ Hid (s = 1 + ((e.l.take j).map (nodesE n)).sum) ∧ Below w0.heap.size w0 wr) (fun _ i _ => e.l.length - (intOf i).toNat)
  case atStart => exact ⟨0, 1, by omega, rfl, rfl, rfl, Below.refl _ _⟩
  case round =>
   obtain ⟨j, s, hj, rfl, rfl, HS, hbr⟩ := hrel
   clear q0 q1 q2 q3 q4 q5
   obtain ⟨q0, q1, q2, q3, q4, q5⟩ := HSH.out wr hbr
   have hzr := hbr.size
   by_cases hlt : j < e.l.length
   ·obtain ⟨b1, o1, x, A', c', rfl, hbB, hv, hfx, hxc, hxm, ⟨c0, c1, c2, c3, c4, c5⟩, hx⟩ := (HE.out wr hbr).at_ hlt
    obtain ⟨hs1, hs2⟩ := sum_step (nodesE n) e.l j x hv
    have hs := HS.out
    have hr := HR.out
    obtain ⟨t, ht⟩ : ∃ t, nodesE n x = t := ⟨_, rfl⟩
    rw [ht] at hs1 hs2
    have hsl : x.l.length ≤ 100000 := by
     have h1 := ht
     cases n with
     | zero => rw [show x.l = [] from hx]; simp
     | succ n =>
      have h2 : 1 + (x.l.map (nodesE n)).sum = t := ht
      have h3 : x.l.length ≤ (x.l.map (nodesE n)).sum := by
       generalize x.l = l
       induction l with
       | nil => simp
       | cons a r ihh => have := nodes_pos n a; simp only [List.length_cons, List.map_cons, List.sum_cons]; omega
      omega
    have HX : Hid (Calls Tryz.prog 183 #[.agg #[.string ⟨x.op.toArray⟩, .int .i64 x.v.k, .int .i64 x.v.i, .string ⟨x.v.s.toArray⟩, .string ⟨x.s.toArray⟩, .slice A' x.l.length c']] wr (Ret (.int .i64 (t : Nat)) wr)) := by
     have := HIH.out x A' c' wr (by rw [ht]; omega) hsl hx
     rw [ht] at this
     exact this
    have i1 : (0 : Int) ≤ (j : Int) := by omega
    have i2 : (j : Int) < (e.l.length : Int) := by omega
    have i3 : IntKind.i64.wrap ((s : Int) + (t : Int)) = ((s + t : Nat) : Int) := by rw [IntWalk.i64_in _ (by omega)]; omega
    have HN : Hid (s + t = 1 + ((e.l.take (j + 1)).map (nodesE n)).sum) := by show _ = _; rw [hs1, hs]; omega
    clear hs hr hs1 hs2 hv hx hxm hxc hsl HS ht
    go_wp2_with fail
    refine HX.out.mono ?_
    rintro en w2 ⟨rfl, hb2⟩
    go_wp2_with fail
    go_roundw
    case rel => exact ⟨j + 1, s + t, by omega, by go_num, by go_num, HN, hbr.trans (hb2.mono hzr)⟩
    case measure => simp [intOf]; omega
   ·obtain rfl : j = e.l.length := by omega
    have hs := HS.out
    rw [List.take_length, HR.out] at hs
    subst hs
    have b0 : ¬ ((e.l.length : Int) < (e.l.length : Int)) := by omega
    clear HS
    go_wp2_with fail
    go_ret
    exact ⟨rfl, hb0.trans (hbr.mono hb0.size)⟩
set_option maxHeartbeats 1000000 in
theorem may4_any (n : Nat) (e : Ex) (A : Option Addr) (c : Nat) (w : World) (hf : e.fit 1000) (hE : ExS 1000 n w w.heap.size A e.l) :
  Calls Tryz.prog 112 #[.agg (e.cells A c).toArray] w (Ret (.bool (mayX e)) w) := by
 obtain ⟨w0, hw0⟩ : ∃ w0, w.alloc (.cells (e.cells A c).toArray 30) = w0 := ⟨_, rfl⟩
 have kq0 : Blk w0 w.heap.size 30 (e.cells A c).toArray := by rw [← hw0]; exact Blk.new _ _ _
 have hb0 : Below w.heap.size w w0 := by rw [← hw0]; exact bl
 have HSH : Hid (∀ w' : World, Below w0.heap.size w0 w' → (w'.cell? ⟨w.heap.size, 0, none⟩ = some (.string ⟨e.op.toArray⟩) ∧ w'.cell? ⟨w.heap.size, 1, none⟩ = some (.int .i64 e.v.k) ∧ w'.cell? ⟨w.heap.size, 2, none⟩ = some (.int .i64 e.v.i) ∧ w'.cell? ⟨w.heap.size, 3, none⟩ = some (.string ⟨e.v.s.toArray⟩) ∧ w'.cell? ⟨w.heap.size, 4, none⟩ = some (.string ⟨e.s.toArray⟩) ∧ w'.cell? ⟨w.heap.size, 5, none⟩ = some (.slice A e.l.length c))) := fun w' h => (kq0.below h kq0.lt).six
 have HE : Hid (∀ Y : World, Below w0.heap.size w0 Y → ExS 1000 n Y Y.heap.size A e.l) := fun Y h => ((hE.below n (hb0.trans (h.mono hb0.size)))).more (Nat.le_trans hb0.size h.size) n
 have hlaw := may_R n e (ExS.hgt n hE)
 obtain ⟨R, hR⟩ : ∃ R, mayX e = R := ⟨_, rfl⟩
 rw [hR] at hlaw ⊢
 have hfm := form_any 12 e A c n w0 (by omega) hf (HE.out w0 (Below.refl _ _))
 obtain ⟨F, hF⟩ : ∃ F, formE 12 e = F := ⟨_, rfl⟩
 have hnb : F = true → nodesE n e ≤ 100000 ∧ e.l.length ≤ 100000 := fun h => by
  have h1 := nodes_form 12 n e (by rw [hF, h])
  refine ⟨by omega, ?_⟩
  have h2 := nodes_form 12 1 e (by rw [hF, h])
  have h3 : 1 + (e.l.map (nodesE 0)).sum = nodesE 1 e := rfl
  have h4 : e.l.length ≤ (e.l.map (nodesE 0)).sum := by
   generalize e.l = l
   induction l with
   | nil => simp
   | cons a r ihh => have := nodes_pos 0 a; simp only [List.length_cons, List.map_cons, List.sum_cons]; omega
  omega
 rw [hF] at hfm hlaw
 have HFM := Lib.hid hfm
 have HL := Lib.hid hlaw
 have HNB := Lib.hid hnb
 have HW := Lib.hid hw0
 dsimp only [Ex.cells] at HFM
 clear hfm hlaw hnb hw0 hE kq0 hR hF
 obtain ⟨q0, q1, q2, q3, q4, q5⟩ := HSH.out w0 (Below.refl _ _)
 go_enter Tryz.func112, Tryz.ntmps112
 go_upto_region 1 with fail
 rw [show w.alloc _ = w0 from HW.out]
 clear HW
 go_wp2_with fail
 refine HFM.out.mono ?_
 rintro en w1 ⟨rfl, hb1⟩
 clear q0 q1 q2 q3 q4 q5
 obtain ⟨q0, q1, q2, q3, q4, q5⟩ := HSH.out w1 hb1
 cases F
 ·go_wp2_with fail
  go_ret
  exact ⟨by rw [← HL.out]; rfl, hb0.trans (hb1.mono hb0.size)⟩
 ·have hno := nodes_any n e A c w1 (HNB.out rfl).1 (HNB.out rfl).2 (HE.out w1 hb1)
  obtain ⟨t, ht⟩ : ∃ t, nodesE n e = t := ⟨_, rfl⟩
  have hl := HL.out
  rw [ht] at hno hl
  have HNO := Lib.hid hno
  dsimp only [Ex.cells] at HNO
  have e1 : decide ((t : Int) ≤ 60) = R := by rw [← hl, Bool.eq_iff_iff]; simp; omega
  have HEE := Lib.hid e1
  clear hno hl ht HL e1
  go_wp2_with fail
  refine HNO.out.mono ?_
  rintro en w2 ⟨rfl, hb2⟩
  have he := HEE.out
  go_wp2_with fail
  go_ret
  exact ⟨rfl, hb0.trans ((hb1.trans (hb2.mono hb1.size)).mono hb0.size)⟩
end Go.Proofs.YtchilcchogcibaaGreatDoor
namespace Go.Proofs.YtchilcchogcibaaGreatDoor
open Go.RowKit
theorem nameG_B {s : List UInt8} (h : nameG s = true) : nameB s = true := by unfold nameG at h; simp only [Bool.and_eq_true] at h; exact h.1
/-- All numbers of a statement fit. -/
def fitS (s : St) : Prop := fitE 13 s.chk ∧ fitE 13 s.whr ∧ (∀ v ∈ s.row, fitI v.i) ∧ ∀ x ∈ s.sets, fitE 13 x.e
theorem many_all {α : Type} {l : List α} {lo hi : Nat} {p : α → Bool} (h : manyB l lo hi p = true) : lo ≤ l.length ∧ l.length ≤ hi ∧ ∀ x ∈ l, p x = true := by
 unfold manyB at h
 simp only [Bool.and_eq_true, decide_eq_true_eq, List.all_eq_true] at h
 exact ⟨h.1.1, h.1.2, h.2⟩
theorem getD_all {α : Type} {l : List α} {p : α → Bool} {d : α} (h : ∀ x ∈ l, p x = true) {k : Nat} (hk : k < l.length) : p (l.getD k d) = true := by
 have e : l.getD k d = l[k] := by simp [List.getD, List.getElem?_eq_getElem hk]
 rw [e]
 exact h _ (List.getElem_mem _)
end Go.Proofs.YtchilcchogcibaaGreatDoor
namespace Go.Proofs.YtchilcchogcibaaGreatDoor
open Go.RowKit
attribute [local go_sem] ByteArray.extract_mk ba_get ba_append
attribute [local go_sem ↓] Go.wp_at_zero Go.wp_at_succ run_eql_G
theorem doC_any (x y : Gr) (g : Nat) (w : World) (h0 : w.cell? ⟨g, 0, none⟩ = some (.string ⟨y.r.toArray⟩)) (h1 : w.cell? ⟨g, 1, none⟩ = some (.string ⟨y.t.toArray⟩)) (h2 : w.cell? ⟨g, 2, none⟩ = some (.bool y.w)) :
  Calls Tryz.prog 41 #[.agg #[.string ⟨x.r.toArray⟩, .string ⟨x.t.toArray⟩, .bool x.w], .pointer (some ⟨g, 0, none⟩)] w (Ret (.bool (decide (x = y))) w) := by
 have hg : g < w.heap.size := Blk_lt_of_cell h0
 have HE := Lib.hid (eqG_iff x y)
 rw [← HE.out]
 go_enter Tryz.func41, Tryz.ntmps41
 go_wp2_with fail
 go_ret
 exact ⟨rfl, by exact bl⟩
theorem withoutC_any (x : Gr) (t : List UInt8) (g : Nat) (w : World) (h0 : w.cell? ⟨g, 0, none⟩ = some (.string ⟨t.toArray⟩)) :
  Calls Tryz.prog 50 #[.agg #[.string ⟨x.r.toArray⟩, .string ⟨x.t.toArray⟩, .bool x.w], .pointer (some ⟨g, 0, none⟩)] w (Ret (.bool (x.t == t)) w) := by
 have hg : g < w.heap.size := Blk_lt_of_cell h0
 go_enter Tryz.func50, Tryz.ntmps50
 go_wp2_with fail
 go_ret
 exact ⟨rfl, by exact bl⟩
theorem withC_any (x y : Gr) (g : Nat) (w : World) (h0 : w.cell? ⟨g, 0, none⟩ = some (.string ⟨y.r.toArray⟩)) (h1 : w.cell? ⟨g, 1, none⟩ = some (.string ⟨y.t.toArray⟩)) (h2 : w.cell? ⟨g, 2, none⟩ = some (.bool y.w)) :
  Calls Tryz.prog 62 #[.agg #[.string ⟨x.r.toArray⟩, .string ⟨x.t.toArray⟩, .bool x.w], .pointer (some ⟨g, 0, none⟩)] w (Ret (.bool (decide (0 < gord x y))) w) := by
 have hg : g < w.heap.size := Blk_lt_of_cell h0
 have HO := Lib.hid (order_any x y)
 obtain ⟨O, hO⟩ : ∃ O, gord x y = O := ⟨_, rfl⟩
 rw [hO] at HO ⊢
 clear hO
 go_enter Tryz.func62, Tryz.ntmps62
 go_wp2_with fail
 refine (HO.out _).mono ?_
 rintro en w1 ⟨rfl, hb1⟩
 have hz1 := hb1.size
 go_wp2_with fail
 go_ret
 exact ⟨rfl, Below.trans (b := _) (by exact bl) (hb1.mono (by simp))⟩
end Go.Proofs.YtchilcchogcibaaGreatDoor
