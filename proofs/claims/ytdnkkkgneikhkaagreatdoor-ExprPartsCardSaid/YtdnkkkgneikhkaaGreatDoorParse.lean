/- value.Parse as a plain function. Condition: a text that memory reaches; the library's tables and errors lie as they were laid. -/
import Derived.Test.YtdnkkkgneikhkaaGreatDoorParseLaw
import Derived.Test.YtdnkkkgneikhkaaGreatDoorShelf2
import Derived.Shelf.Strconv.ErrVarParseInt
namespace Go.Proofs.YtdnkkkgneikhkaaGreatDoor
open Go.RowKit

attribute [local go_sem] ByteArray.extract_mk ba_get ba_append
attribute [local go_sem ↓] Go.wp_at_zero Go.wp_at_succ

/-- strconv's two errors lie there. -/
def Errs (w : World) : Prop := (∃ tp p, w.var? Tryz.prog "strconv.ErrSyntax" = some #[.iface tp p]) ∧ (∃ tp p, w.var? Tryz.prog "strconv.ErrRange" = some #[.iface tp p])
theorem Errs.below {B : Nat} {w w' : World} (h : Errs w) (hb : Below B w w') (hB : B = w.heap.size) : Errs w' := by
  obtain ⟨⟨t1, p1, h1⟩, t2, p2, h2⟩ := h
  exact ⟨⟨t1, p1, var_below h1 hb hB⟩, t2, p2, var_below h2 hb hB⟩

/-- strconv.ParseInt of a text that is no number of 64 bits: an error. -/
def Bad (w : World) (e : Ending) (w' : World) : Prop := ∃ n t p, e = .returned (.tuple #[.int .i64 n, .iface t p]) ∧ Below w.heap.size w w'
theorem parseInt_bad (s : List UInt8) (w : World) (hs : s.length ≤ 1000000) (hE : Errs w) (h : ∀ v, Lib.parseIntB 64 s ≠ .ok v) :
    Calls Tryz.prog 230 #[.string ⟨s.toArray⟩, .int .i64 10, .int .i64 64] w (Bad w) := by
  obtain ⟨⟨t1, p1, h1⟩, t2, p2, h2⟩ := hE
  have hl : (⟨s.toArray⟩ : ByteArray).size ≤ 281474976710656 := by show s.length ≤ _; omega
  cases hp : Lib.parseIntB 64 s with
  | ok v => exact absurd hp (h v)
  | _ =>
    first
      | exact (Any.strconv_ParseInt_10_at64_syntax_var Tryz.laysC174 ⟨s.toArray⟩ hl hp t1 p1 w h1).mono fun e w' ⟨N, he, _, _, hb⟩ => ⟨_, _, _, he, hb⟩
      | exact (Any.strconv_ParseInt_10_at64_range_var Tryz.laysC174 ⟨s.toArray⟩ hl hp t2 p2 w h2).mono fun e w' ⟨N, he, _, _, hb⟩ => ⟨_, _, _, he, hb⟩
theorem parseInt_ok (s : List UInt8) (n : Int) (w : World) (hs : s.length ≤ 1000000) (h : Lib.parseIntB 64 s = .ok n) :
    Calls Tryz.prog 230 #[.string ⟨s.toArray⟩, .int .i64 10, .int .i64 64] w (Ret (.tuple #[.int .i64 n, .nilIface]) w) :=
  (Tryz.strconv_ParseInt_10_at64_ok ⟨s.toArray⟩ (by show s.length ≤ _; omega) n h w).mono fun e w' ⟨he, hw⟩ => ⟨he, by
    rcases hw with rfl | ⟨t, rfl⟩
    · exact Below.refl _ _
    · exact Lib.bytesWorld_below _ _ _⟩

def RetP (s : List UInt8) (w : World) : Ending → World → Prop := Ret (.tuple #[.agg #[.int .i64 (parseV s).k, .int .i64 (parseV s).i, .string ⟨(parseV s).s.toArray⟩], .int .i64 (if parseB s then 0 else 3)]) w

theorem no_words {s : List UInt8} (h0 : s ≠ [78, 85, 76, 76]) (h1 : s ≠ [84, 82, 85, 69]) (h2 : s ≠ [70, 65, 76, 83, 69]) (hq : ∀ r, s = 39 :: r → r = []) (v : V) (h : parses s v) : v.k = 1 ∧ v.s = [] ∧ Lib.itoa v.i = s ∧ Lib.parseIntB 64 s = .ok v.i := by
  obtain ⟨hm, hi, ht⟩ := h
  obtain ⟨k, i, t⟩ := v
  have hm' : mayB k i t = true := hm
  simp only at ht hi ⊢
  unfold textF at ht
  rw [hm'] at ht
  simp only [if_true] at ht
  rcases may_kinds hm' with ⟨rfl, rfl, rfl⟩ | ⟨rfl, rfl⟩ | ⟨rfl, rfl, _⟩ | ⟨rfl, hi', rfl⟩
  · exact absurd ht.symm h0
  · have : Lib.itoa i = s := ht
    exact ⟨rfl, rfl, this, by rw [← this]; exact parse_itoa i hi.1 hi.2⟩
  · have e : 39 :: (quoteS t ++ [39]) = s := ht
    have := hq _ e.symm
    simp at this
  · rcases hi' with rfl | rfl
    · exact absurd ht.symm h2
    · exact absurd ht.symm h1

theorem pn : parses [78, 85, 76, 76] V.zero := by decide +kernel
theorem pt : parses [84, 82, 85, 69] ⟨3, 1, []⟩ := by decide +kernel
theorem pf : parses [70, 65, 76, 83, 69] ⟨3, 0, []⟩ := by decide +kernel

set_option maxHeartbeats 1000000 in
theorem parse_null (w : World) : Calls Tryz.prog 231 #[.string ⟨#[78, 85, 76, 76]⟩] w (Ret (.tuple #[.agg #[.int .i64 0, .int .i64 0, .string ⟨#[]⟩], .int .i64 0]) w) := by
  have l0 : w.heap.size < w.heap.size + 1 + 1 := by omega
  go_enter Tryz.func231, Tryz.ntmps231
  go_wp2_with fail
  refine (text0_any _).mono ?_
  rintro e w1 ⟨rfl, hb1⟩
  have hz1 := hb1.size
  obtain ⟨hc1, hf1⟩ := bcell hb1
  simp at hz1 hc1 hf1
  have l1 : w.heap.size < w1.heap.size := by omega
  have l2 : w.heap.size + 1 < w1.heap.size := by omega
  go_wp2_with fail
  refine bodyPost_ret (v := .tuple #[.agg #[.int .i64 0, .int .i64 0, .string ⟨#[]⟩], .int .i64 0]) (by simp [results, Tryz.results231, go_sem, *]) rfl ⟨rfl, ?_⟩
  ((repeat' (first | with_reducible exact Below.refl _ _ | with_reducible assumption | with_reducible refine Below.drew ?_ | with_reducible refine below_drewN ?_ _ | with_reducible refine Below.setCell ?_ ?_ _ | with_reducible refine Below.alloc ?_ ?_ _ | with_reducible refine Below.trans ?_ (Below.mono (by assumption) ?_))) <;> (first | (simp; done) | (simp; omega) | omega))

set_option maxHeartbeats 1000000 in
theorem parse_true (w : World) : Calls Tryz.prog 231 #[.string ⟨#[84, 82, 85, 69]⟩] w (Ret (.tuple #[.agg #[.int .i64 3, .int .i64 1, .string ⟨#[]⟩], .int .i64 0]) w) := by
  have l0 : w.heap.size < w.heap.size + 1 + 1 := by omega
  go_enter Tryz.func231, Tryz.ntmps231
  go_wp2_with fail
  refine (truth2_any _).mono ?_
  rintro e w0 ⟨rfl, hb0⟩
  have hz0 := hb0.size
  obtain ⟨hc0, hf0⟩ := bcell hb0
  simp at hz0 hc0 hf0
  have k1 : w.heap.size < w0.heap.size := by omega
  have k2 : w.heap.size + 1 < w0.heap.size := by omega
  go_wp2_with fail
  refine (text3_any true _).mono ?_
  rintro e w1 ⟨rfl, hb1⟩
  have hz1 := hb1.size
  obtain ⟨hc1, hf1⟩ := bcell hb1
  simp at hz1 hc1 hf1
  have l1 : w.heap.size < w1.heap.size := by omega
  have l2 : w.heap.size + 1 < w1.heap.size := by omega
  go_wp2_with fail
  refine bodyPost_ret (v := .tuple #[.agg #[.int .i64 3, .int .i64 1, .string ⟨#[]⟩], .int .i64 0]) (by simp [results, Tryz.results231, go_sem, *]) rfl ⟨rfl, ?_⟩
  ((repeat' (first | with_reducible exact Below.refl _ _ | with_reducible assumption | with_reducible refine Below.drew ?_ | with_reducible refine below_drewN ?_ _ | with_reducible refine Below.setCell ?_ ?_ _ | with_reducible refine Below.alloc ?_ ?_ _ | with_reducible refine Below.trans ?_ (Below.mono (by assumption) ?_))) <;> (first | (simp; done) | (simp; omega) | omega))
set_option maxHeartbeats 1000000 in
theorem parse_false (w : World) : Calls Tryz.prog 231 #[.string ⟨#[70, 65, 76, 83, 69]⟩] w (Ret (.tuple #[.agg #[.int .i64 3, .int .i64 0, .string ⟨#[]⟩], .int .i64 0]) w) := by
  have l0 : w.heap.size < w.heap.size + 1 + 1 := by omega
  go_enter Tryz.func231, Tryz.ntmps231
  go_wp2_with fail
  refine (truth1_any _).mono ?_
  rintro e w0 ⟨rfl, hb0⟩
  have hz0 := hb0.size
  obtain ⟨hc0, hf0⟩ := bcell hb0
  simp at hz0 hc0 hf0
  have k1 : w.heap.size < w0.heap.size := by omega
  have k2 : w.heap.size + 1 < w0.heap.size := by omega
  go_wp2_with fail
  refine (text3_any false _).mono ?_
  rintro e w1 ⟨rfl, hb1⟩
  have hz1 := hb1.size
  obtain ⟨hc1, hf1⟩ := bcell hb1
  simp at hz1 hc1 hf1
  have l1 : w.heap.size < w1.heap.size := by omega
  have l2 : w.heap.size + 1 < w1.heap.size := by omega
  go_wp2_with fail
  refine bodyPost_ret (v := .tuple #[.agg #[.int .i64 3, .int .i64 0, .string ⟨#[]⟩], .int .i64 0]) (by simp [results, Tryz.results231, go_sem, *]) rfl ⟨rfl, ?_⟩
  ((repeat' (first | with_reducible exact Below.refl _ _ | with_reducible assumption | with_reducible refine Below.drew ?_ | with_reducible refine below_drewN ?_ _ | with_reducible refine Below.setCell ?_ ?_ _ | with_reducible refine Below.alloc ?_ ?_ _ | with_reducible refine Below.trans ?_ (Below.mono (by assumption) ?_))) <;> (first | (simp; done) | (simp; omega) | omega))

set_option maxHeartbeats 1000000 in
theorem parse_short (s : List UInt8) (w : World) (hs : s.length ≤ 1000000) (hT : Tab10 w) (hE : Errs w) (w0 : (s == [78, 85, 76, 76]) = false) (w1 : (s == [84, 82, 85, 69]) = false) (w2 : (s == [70, 65, 76, 83, 69]) = false)
    (hl : ¬ 2 ≤ s.length) (hno : ∀ v, parses s v → v.k = 1 ∧ v.s = [] ∧ Lib.itoa v.i = s ∧ Lib.parseIntB 64 s = .ok v.i) : Calls Tryz.prog 231 #[.string ⟨s.toArray⟩] w (RetP s w) := by
  have HSL := Lib.hid hs
  have HT := Lib.hid hT
  have HE := Lib.hid hE
  have HNO := Lib.hid hno
  clear hs hT hE hno
  have l0 : w.heap.size < w.heap.size + 1 + 1 := by omega
  by_cases hex : ∃ n, Lib.parseIntB 64 (s) = .ok n
  · obtain ⟨n, hp⟩ := hex
    have HP := Lib.hid hp
    have hnb := Lib.parseIntB_bounds hp
    have n1 : -9223372036854775808 ≤ n := by have := hnb.1; simpa using this
    have n2 : n ≤ 9223372036854775807 := by have := hnb.2; simp at this; omega
    clear hp hnb
    by_cases hi : Lib.itoa n = s
    · have hps : parses (s) ⟨1, n, []⟩ := ⟨by show mayB 1 n [] = true; simp [mayB], ⟨n1, n2⟩, by show textF 1 n [] = _; rw [← hi]; unfold textF; rw [show mayB 1 n [] = true by simp [mayB]]; rfl⟩
      have e1 := (parse_yes hps).1
      have e2 := (parse_yes hps).2
      unfold RetP
      rw [e1, e2]
      have hi' : (Lib.itoa n != s) = false := by simp [hi]
      have hi2 : (!Lib.itoa n == s) = false := by simp [hi]
      clear hi e1 e2 hps HNO
      go_enter Tryz.func231, Tryz.ntmps231
      go_wp2_with fail
      refine (parseInt_ok _ n _ HSL.out HP.out).mono ?_
      rintro e w0 ⟨rfl, hb0⟩
      have hz0 := hb0.size
      obtain ⟨hc0, hf0⟩ := bcell hb0
      simp at hz0 hc0 hf0
      have k1 : w.heap.size < w0.heap.size := by omega
      have k2 : w.heap.size + 1 < w0.heap.size := by omega
      go_wp2_with fail
      refine (text1_any n _ n1 n2 (HT.out.below (by ((repeat' (first | with_reducible exact Below.refl _ _ | with_reducible assumption | with_reducible refine Below.drew ?_ | with_reducible refine below_drewN ?_ _ | with_reducible refine Below.setCell ?_ ?_ _ | with_reducible refine Below.alloc ?_ ?_ _ | with_reducible refine Below.trans ?_ (Below.mono (by assumption) ?_))) <;> (first | (simp; done) | (simp; omega) | omega))) rfl)).mono ?_
      rintro e w1 ⟨rfl, hb1⟩
      have hz1 := hb1.size
      obtain ⟨hc1, hf1⟩ := bcell hb1
      simp at hz1 hc1 hf1
      have l1 : w.heap.size < w1.heap.size := by omega
      have l2 : w.heap.size + 1 < w1.heap.size := by omega
      go_wp2_with fail
      refine bodyPost_ret (v := .tuple #[.agg #[.int .i64 1, .int .i64 n, .string ⟨#[]⟩], .int .i64 0]) (by simp [results, Tryz.results231, go_sem, *]) rfl ⟨rfl, ?_⟩
      ((repeat' (first | with_reducible exact Below.refl _ _ | with_reducible assumption | with_reducible refine Below.drew ?_ | with_reducible refine below_drewN ?_ _ | with_reducible refine Below.setCell ?_ ?_ _ | with_reducible refine Below.alloc ?_ ?_ _ | with_reducible refine Below.trans ?_ (Below.mono (by assumption) ?_))) <;> (first | (simp; done) | (simp; omega) | omega))
    · have hnp : ∀ v, ¬ parses (s) v := fun v hv => by
        obtain ⟨_, _, h3, h4⟩ := HNO.out v hv
        rw [HP.out] at h4
        injection h4 with h4
        subst h4
        exact hi h3
      have e1 := (parse_no hnp).1
      have e2 := (parse_no hnp).2
      unfold RetP
      rw [e1, e2]
      have hi' : (Lib.itoa n != s) = true := by simp [hi]
      have hi2 : (!Lib.itoa n == s) = true := by simp [hi]
      clear hi e1 e2 hnp HNO
      go_enter Tryz.func231, Tryz.ntmps231
      go_wp2_with fail
      refine (parseInt_ok _ n _ HSL.out HP.out).mono ?_
      rintro e w0 ⟨rfl, hb0⟩
      have hz0 := hb0.size
      obtain ⟨hc0, hf0⟩ := bcell hb0
      simp at hz0 hc0 hf0
      have k1 : w.heap.size < w0.heap.size := by omega
      have k2 : w.heap.size + 1 < w0.heap.size := by omega
      go_wp2_with fail
      refine (text1_any n _ n1 n2 (HT.out.below (by ((repeat' (first | with_reducible exact Below.refl _ _ | with_reducible assumption | with_reducible refine Below.drew ?_ | with_reducible refine below_drewN ?_ _ | with_reducible refine Below.setCell ?_ ?_ _ | with_reducible refine Below.alloc ?_ ?_ _ | with_reducible refine Below.trans ?_ (Below.mono (by assumption) ?_))) <;> (first | (simp; done) | (simp; omega) | omega))) rfl)).mono ?_
      rintro e w1 ⟨rfl, hb1⟩
      have hz1 := hb1.size
      obtain ⟨hc1, hf1⟩ := bcell hb1
      simp at hz1 hc1 hf1
      have l1 : w.heap.size < w1.heap.size := by omega
      have l2 : w.heap.size + 1 < w1.heap.size := by omega
      go_wp2_with fail
      refine bodyPost_ret (v := .tuple #[.agg #[.int .i64 0, .int .i64 0, .string ⟨#[]⟩], .int .i64 3]) (by simp [results, Tryz.results231, go_sem, *]) rfl ⟨rfl, ?_⟩
      ((repeat' (first | with_reducible exact Below.refl _ _ | with_reducible assumption | with_reducible refine Below.drew ?_ | with_reducible refine below_drewN ?_ _ | with_reducible refine Below.setCell ?_ ?_ _ | with_reducible refine Below.alloc ?_ ?_ _ | with_reducible refine Below.trans ?_ (Below.mono (by assumption) ?_))) <;> (first | (simp; done) | (simp; omega) | omega))
  · have hnp : ∀ v, ¬ parses (s) v := fun v hv => by
      obtain ⟨_, _, _, h4⟩ := HNO.out v hv
      exact hex ⟨_, h4⟩
    have e1 := (parse_no hnp).1
    have e2 := (parse_no hnp).2
    have HB : Hid (∀ v, Lib.parseIntB 64 (s) ≠ .ok v) := fun v h => hex ⟨v, h⟩
    unfold RetP
    rw [e1, e2]
    clear hex hnp e1 e2 HNO
    go_enter Tryz.func231, Tryz.ntmps231
    go_wp2_with fail
    refine (parseInt_bad _ _ HSL.out (HE.out.below (by ((repeat' (first | with_reducible exact Below.refl _ _ | with_reducible assumption | with_reducible refine Below.drew ?_ | with_reducible refine below_drewN ?_ _ | with_reducible refine Below.setCell ?_ ?_ _ | with_reducible refine Below.alloc ?_ ?_ _ | with_reducible refine Below.trans ?_ (Below.mono (by assumption) ?_))) <;> (first | (simp; done) | (simp; omega) | omega))) rfl) HB.out).mono ?_
    rintro e w0 ⟨n, t, p, rfl, hb0⟩
    have hz0 := hb0.size
    obtain ⟨hc0, hf0⟩ := bcell hb0
    simp at hz0 hc0 hf0
    have k1 : w.heap.size < w0.heap.size := by omega
    have k2 : w.heap.size + 1 < w0.heap.size := by omega
    go_wp2_with fail
    refine bodyPost_ret (v := .tuple #[.agg #[.int .i64 0, .int .i64 0, .string ⟨#[]⟩], .int .i64 3]) (by simp [results, Tryz.results231, go_sem, *]) rfl ⟨rfl, ?_⟩
    ((repeat' (first | with_reducible exact Below.refl _ _ | with_reducible assumption | with_reducible refine Below.drew ?_ | with_reducible refine below_drewN ?_ _ | with_reducible refine Below.setCell ?_ ?_ _ | with_reducible refine Below.alloc ?_ ?_ _ | with_reducible refine Below.trans ?_ (Below.mono (by assumption) ?_))) <;> (first | (simp; done) | (simp; omega) | omega))

set_option maxHeartbeats 1000000 in
theorem parse_long (c d : UInt8) (r : List UInt8) (w : World) (hs : (c :: d :: r).length ≤ 1000000) (hT : Tab10 w) (hE : Errs w) (w0 : ((c :: d :: r) == [78, 85, 76, 76]) = false) (w1 : ((c :: d :: r) == [84, 82, 85, 69]) = false) (w2 : ((c :: d :: r) == [70, 65, 76, 83, 69]) = false)
    (hq : ((c.toNat : Int) == 39) = false) (hno : ∀ v, parses (c :: d :: r) v → v.k = 1 ∧ v.s = [] ∧ Lib.itoa v.i = c :: d :: r ∧ Lib.parseIntB 64 (c :: d :: r) = .ok v.i) : Calls Tryz.prog 231 #[.string ⟨(c :: d :: r).toArray⟩] w (RetP (c :: d :: r) w) := by
  have HSL := Lib.hid hs
  have HT := Lib.hid hT
  have HE := Lib.hid hE
  have HNO := Lib.hid hno
  clear hs hT hE hno
  have l0 : w.heap.size < w.heap.size + 1 + 1 := by omega
  by_cases hex : ∃ n, Lib.parseIntB 64 (c :: d :: r) = .ok n
  · obtain ⟨n, hp⟩ := hex
    have HP := Lib.hid hp
    have hnb := Lib.parseIntB_bounds hp
    have n1 : -9223372036854775808 ≤ n := by have := hnb.1; simpa using this
    have n2 : n ≤ 9223372036854775807 := by have := hnb.2; simp at this; omega
    clear hp hnb
    by_cases hi : Lib.itoa n = c :: d :: r
    · have hps : parses (c :: d :: r) ⟨1, n, []⟩ := ⟨by show mayB 1 n [] = true; simp [mayB], ⟨n1, n2⟩, by show textF 1 n [] = _; rw [← hi]; unfold textF; rw [show mayB 1 n [] = true by simp [mayB]]; rfl⟩
      have e1 := (parse_yes hps).1
      have e2 := (parse_yes hps).2
      unfold RetP
      rw [e1, e2]
      have hi' : (Lib.itoa n != c :: d :: r) = false := by simp [hi]
      have hi2 : (!Lib.itoa n == c :: d :: r) = false := by simp [hi]
      clear hi e1 e2 hps HNO
      go_enter Tryz.func231, Tryz.ntmps231
      go_wp2_with fail
      refine (parseInt_ok _ n _ HSL.out HP.out).mono ?_
      rintro e w0 ⟨rfl, hb0⟩
      have hz0 := hb0.size
      obtain ⟨hc0, hf0⟩ := bcell hb0
      simp at hz0 hc0 hf0
      have k1 : w.heap.size < w0.heap.size := by omega
      have k2 : w.heap.size + 1 < w0.heap.size := by omega
      go_wp2_with fail
      refine (text1_any n _ n1 n2 (HT.out.below (by ((repeat' (first | with_reducible exact Below.refl _ _ | with_reducible assumption | with_reducible refine Below.drew ?_ | with_reducible refine below_drewN ?_ _ | with_reducible refine Below.setCell ?_ ?_ _ | with_reducible refine Below.alloc ?_ ?_ _ | with_reducible refine Below.trans ?_ (Below.mono (by assumption) ?_))) <;> (first | (simp; done) | (simp; omega) | omega))) rfl)).mono ?_
      rintro e w1 ⟨rfl, hb1⟩
      have hz1 := hb1.size
      obtain ⟨hc1, hf1⟩ := bcell hb1
      simp at hz1 hc1 hf1
      have l1 : w.heap.size < w1.heap.size := by omega
      have l2 : w.heap.size + 1 < w1.heap.size := by omega
      go_wp2_with fail
      refine bodyPost_ret (v := .tuple #[.agg #[.int .i64 1, .int .i64 n, .string ⟨#[]⟩], .int .i64 0]) (by simp [results, Tryz.results231, go_sem, *]) rfl ⟨rfl, ?_⟩
      ((repeat' (first | with_reducible exact Below.refl _ _ | with_reducible assumption | with_reducible refine Below.drew ?_ | with_reducible refine below_drewN ?_ _ | with_reducible refine Below.setCell ?_ ?_ _ | with_reducible refine Below.alloc ?_ ?_ _ | with_reducible refine Below.trans ?_ (Below.mono (by assumption) ?_))) <;> (first | (simp; done) | (simp; omega) | omega))
    · have hnp : ∀ v, ¬ parses (c :: d :: r) v := fun v hv => by
        obtain ⟨_, _, h3, h4⟩ := HNO.out v hv
        rw [HP.out] at h4
        injection h4 with h4
        subst h4
        exact hi h3
      have e1 := (parse_no hnp).1
      have e2 := (parse_no hnp).2
      unfold RetP
      rw [e1, e2]
      have hi' : (Lib.itoa n != c :: d :: r) = true := by simp [hi]
      have hi2 : (!Lib.itoa n == c :: d :: r) = true := by simp [hi]
      clear hi e1 e2 hnp HNO
      go_enter Tryz.func231, Tryz.ntmps231
      go_wp2_with fail
      refine (parseInt_ok _ n _ HSL.out HP.out).mono ?_
      rintro e w0 ⟨rfl, hb0⟩
      have hz0 := hb0.size
      obtain ⟨hc0, hf0⟩ := bcell hb0
      simp at hz0 hc0 hf0
      have k1 : w.heap.size < w0.heap.size := by omega
      have k2 : w.heap.size + 1 < w0.heap.size := by omega
      go_wp2_with fail
      refine (text1_any n _ n1 n2 (HT.out.below (by ((repeat' (first | with_reducible exact Below.refl _ _ | with_reducible assumption | with_reducible refine Below.drew ?_ | with_reducible refine below_drewN ?_ _ | with_reducible refine Below.setCell ?_ ?_ _ | with_reducible refine Below.alloc ?_ ?_ _ | with_reducible refine Below.trans ?_ (Below.mono (by assumption) ?_))) <;> (first | (simp; done) | (simp; omega) | omega))) rfl)).mono ?_
      rintro e w1 ⟨rfl, hb1⟩
      have hz1 := hb1.size
      obtain ⟨hc1, hf1⟩ := bcell hb1
      simp at hz1 hc1 hf1
      have l1 : w.heap.size < w1.heap.size := by omega
      have l2 : w.heap.size + 1 < w1.heap.size := by omega
      go_wp2_with fail
      refine bodyPost_ret (v := .tuple #[.agg #[.int .i64 0, .int .i64 0, .string ⟨#[]⟩], .int .i64 3]) (by simp [results, Tryz.results231, go_sem, *]) rfl ⟨rfl, ?_⟩
      ((repeat' (first | with_reducible exact Below.refl _ _ | with_reducible assumption | with_reducible refine Below.drew ?_ | with_reducible refine below_drewN ?_ _ | with_reducible refine Below.setCell ?_ ?_ _ | with_reducible refine Below.alloc ?_ ?_ _ | with_reducible refine Below.trans ?_ (Below.mono (by assumption) ?_))) <;> (first | (simp; done) | (simp; omega) | omega))
  · have hnp : ∀ v, ¬ parses (c :: d :: r) v := fun v hv => by
      obtain ⟨_, _, _, h4⟩ := HNO.out v hv
      exact hex ⟨_, h4⟩
    have e1 := (parse_no hnp).1
    have e2 := (parse_no hnp).2
    have HB : Hid (∀ v, Lib.parseIntB 64 (c :: d :: r) ≠ .ok v) := fun v h => hex ⟨v, h⟩
    unfold RetP
    rw [e1, e2]
    clear hex hnp e1 e2 HNO
    go_enter Tryz.func231, Tryz.ntmps231
    go_wp2_with fail
    refine (parseInt_bad _ _ HSL.out (HE.out.below (by ((repeat' (first | with_reducible exact Below.refl _ _ | with_reducible assumption | with_reducible refine Below.drew ?_ | with_reducible refine below_drewN ?_ _ | with_reducible refine Below.setCell ?_ ?_ _ | with_reducible refine Below.alloc ?_ ?_ _ | with_reducible refine Below.trans ?_ (Below.mono (by assumption) ?_))) <;> (first | (simp; done) | (simp; omega) | omega))) rfl) HB.out).mono ?_
    rintro e w0 ⟨n, t, p, rfl, hb0⟩
    have hz0 := hb0.size
    obtain ⟨hc0, hf0⟩ := bcell hb0
    simp at hz0 hc0 hf0
    have k1 : w.heap.size < w0.heap.size := by omega
    have k2 : w.heap.size + 1 < w0.heap.size := by omega
    go_wp2_with fail
    refine bodyPost_ret (v := .tuple #[.agg #[.int .i64 0, .int .i64 0, .string ⟨#[]⟩], .int .i64 3]) (by simp [results, Tryz.results231, go_sem, *]) rfl ⟨rfl, ?_⟩
    ((repeat' (first | with_reducible exact Below.refl _ _ | with_reducible assumption | with_reducible refine Below.drew ?_ | with_reducible refine below_drewN ?_ _ | with_reducible refine Below.setCell ?_ ?_ _ | with_reducible refine Below.alloc ?_ ?_ _ | with_reducible refine Below.trans ?_ (Below.mono (by assumption) ?_))) <;> (first | (simp; done) | (simp; omega) | omega))

end Go.Proofs.YtdnkkkgneikhkaaGreatDoor
