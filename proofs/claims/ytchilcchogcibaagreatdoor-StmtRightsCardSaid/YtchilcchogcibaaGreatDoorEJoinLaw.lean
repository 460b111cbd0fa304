/- Contracts of the library at this dump, as the kit's tool writes them in plain words (lay-plain); value.Parse as a plain function; Plain laws on writing tokens. -/
import Derived.Shelf.Strconv.ParseIntPublic10
import Derived.Shelf.Strconv.ErrVarParseInt
import Derived.Lib.AtoiAllCases
import Derived.Lib.ParseIntBTie
import Derived.Lib.ItoaNum
import Derived.Test.YtchilcchogcibaaGreatDoorECutLaw
set_option maxHeartbeats 1000000
namespace Go.Proofs
open Go.Shelf
def Tryz.laysC174_ren : Go.Shelf.Ren := ⟨fun | 174 => 264 | 247 => 266 | 245 => 267 | 287 => 269 | 279 => 270 | 280 => 271 | 281 => 272 | 282 => 273 | 321 => 274 | 322 => 275 | 316 => 276 | 171 => 278 | 205 => 277 | 243 => 279 | 246 => 201 | 283 => 224 | 284 => 225 | 285 => 226 | 286 => 227 | 129 => 237 | 317 => 236 | 318 => 238 | 319 => 239 | 320 => 240 | 337 => 251 | 338 => 252 | n => n, fun | 9 => 9 | 3 => 3 | 2 => 2 | 75 => 168 | 85 => 271 | 4 => 4 | 167 => 277 | 5 => 5 | 53 => 228 | 175 => 278 | 46 => 241 | 168 => 280 | 37 => 163 | 0 => 0 | 210 => 285 | 21 => 21 | 127 => 204 | 145 => 289 | 143 => 287 | 171 => 227 | 173 => 231 | 212 => 251 | 51 => 245 | 20 => 20 | 213 => 252 | 232 => 268 | 233 => 269 | 80 => 145 | n => n, fun | 15 => 8 | 16 => 9 | 17 => 5 | 18 => 6 | 19 => 7 | n => n⟩
theorem Tryz.laysC174 : Go.Proofs.LaysC.n174 Tryz.prog Tryz.laysC174_ren := {
 mixed := by kernel_rfl
 f129 := Tryz.func237.trans (congrArg some (by kernel_rfl))
 f171 := Tryz.func278.trans (congrArg some (by kernel_rfl))
 f174 := Tryz.func264.trans (congrArg some (by kernel_rfl))
 f205 := Tryz.func277.trans (congrArg some (by kernel_rfl))
 f243 := Tryz.func279.trans (congrArg some (by kernel_rfl))
 f245 := Tryz.func267.trans (congrArg some (by kernel_rfl))
 f246 := Tryz.func201.trans (congrArg some (by kernel_rfl))
 f247 := Tryz.func266.trans (congrArg some (by kernel_rfl))
 f279 := Tryz.func270.trans (congrArg some (by kernel_rfl))
 f280 := Tryz.func271.trans (congrArg some (by kernel_rfl))
 f281 := Tryz.func272.trans (congrArg some (by kernel_rfl))
 f282 := Tryz.func273.trans (congrArg some (by kernel_rfl))
 f283 := Tryz.func224.trans (congrArg some (by kernel_rfl))
 f284 := Tryz.func225.trans (congrArg some (by kernel_rfl))
 f285 := Tryz.func226.trans (congrArg some (by kernel_rfl))
 f286 := Tryz.func227.trans (congrArg some (by kernel_rfl))
 f287 := Tryz.func269.trans (congrArg some (by kernel_rfl))
 f316 := Tryz.func276.trans (congrArg some (by kernel_rfl))
 f317 := Tryz.func236.trans (congrArg some (by kernel_rfl))
 f318 := Tryz.func238.trans (congrArg some (by kernel_rfl))
 f319 := Tryz.func239.trans (congrArg some (by kernel_rfl))
 f320 := Tryz.func240.trans (congrArg some (by kernel_rfl))
 f321 := Tryz.func274.trans (congrArg some (by kernel_rfl))
 f322 := Tryz.func275.trans (congrArg some (by kernel_rfl))
 f337 := Tryz.func251.trans (congrArg some (by kernel_rfl))
 f338 := Tryz.func252.trans (congrArg some (by kernel_rfl))
 t0 := Tryz.underlying0
 a0 := Tryz.isAgg0
 z0 := Tryz.sizeOf0
 v0 := Tryz.zeroValue0
 t2 := Tryz.underlying2
 a2 := Tryz.isAgg2
 z2 := Tryz.sizeOf2
 v2 := Tryz.zeroValue2
 t3 := Tryz.underlying3
 a3 := Tryz.isAgg3
 z3 := Tryz.sizeOf3
 v3 := Tryz.zeroValue3
 t4 := Tryz.underlying4
 a4 := Tryz.isAgg4
 z4 := Tryz.sizeOf4
 v4 := Tryz.zeroValue4
 t5 := Tryz.underlying5
 a5 := Tryz.isAgg5
 z5 := Tryz.sizeOf5
 v5 := Tryz.zeroValue5
 t9 := Tryz.underlying9
 a9 := Tryz.isAgg9
 z9 := Tryz.sizeOf9
 v9 := Tryz.zeroValue9
 t20 := Tryz.underlying20
 a20 := Tryz.isAgg20
 z20 := Tryz.sizeOf20
 v20 := Tryz.zeroValue20
 t21 := Tryz.underlying21
 a21 := Tryz.isAgg21
 z21 := Tryz.sizeOf21
 v21 := Tryz.zeroValue21
 t37 := Tryz.underlying163
 a37 := Tryz.isAgg163
 z37 := Tryz.sizeOf163
 v37 := Tryz.zeroValue163
 t46 := Tryz.underlying241
 a46 := Tryz.isAgg241
 z46 := Tryz.sizeOf241
 v46 := Tryz.zeroValue241
 t51 := Tryz.underlying245
 a51 := Tryz.isAgg245
 z51 := Tryz.sizeOf245
 v51 := Tryz.zeroValue245
 t53 := Tryz.underlying228
 a53 := Tryz.isAgg228
 z53 := Tryz.sizeOf228
 v53 := Tryz.zeroValue228
 t75 := Tryz.underlying168
 a75 := Tryz.isAgg168
 z75 := Tryz.sizeOf168
 v75 := Tryz.zeroValue168
 t85 := Tryz.underlying271
 a85 := Tryz.isAgg271
 z85 := Tryz.sizeOf271
 v85 := Tryz.zeroValue271
 t127 := Tryz.underlying204
 a127 := Tryz.isAgg204
 z127 := Tryz.sizeOf204
 v127 := Tryz.zeroValue204
 t143 := Tryz.underlying287
 a143 := Tryz.isAgg287
 z143 := Tryz.sizeOf287
 v143 := Tryz.zeroValue287
 t145 := Tryz.underlying289
 a145 := Tryz.isAgg289
 z145 := Tryz.sizeOf289
 v145 := Tryz.zeroValue289
 t167 := Tryz.underlying277
 a167 := Tryz.isAgg277
 z167 := Tryz.sizeOf277
 v167 := Tryz.zeroValue277
 t168 := Tryz.underlying280
 a168 := Tryz.isAgg280
 z168 := Tryz.sizeOf280
 v168 := Tryz.zeroValue280
 t171 := Tryz.underlying227
 a171 := Tryz.isAgg227
 z171 := Tryz.sizeOf227
 v171 := Tryz.zeroValue227
 t173 := Tryz.underlying231
 a173 := Tryz.isAgg231
 z173 := Tryz.sizeOf231
 v173 := Tryz.zeroValue231
 t175 := Tryz.underlying278
 a175 := Tryz.isAgg278
 z175 := Tryz.sizeOf278
 v175 := Tryz.zeroValue278
 t210 := Tryz.underlying285
 a210 := Tryz.isAgg285
 z210 := Tryz.sizeOf285
 v210 := Tryz.zeroValue285
 t212 := Tryz.underlying251
 a212 := Tryz.isAgg251
 z212 := Tryz.sizeOf251
 v212 := Tryz.zeroValue251
 t213 := Tryz.underlying252
 a213 := Tryz.isAgg252
 z213 := Tryz.sizeOf252
 t232 := Tryz.underlying268
 a232 := Tryz.isAgg268
 z232 := Tryz.sizeOf268
 v232 := Tryz.zeroValue268
 t233 := Tryz.underlying269
 a233 := Tryz.isAgg269
 z233 := Tryz.sizeOf269
 v233 := Tryz.zeroValue269
 g15 := by kernel_rfl
 g16 := by kernel_rfl
 g17 := by kernel_rfl
 g18 := by kernel_rfl
 g19 := by kernel_rfl
 t80 := Tryz.underlying145
 a80 := Tryz.isAgg145
 z80 := Tryz.sizeOf145
 v80 := Tryz.zeroValue145
 i0 := by kernel_rfl
 i2 := by kernel_rfl
 i3 := by kernel_rfl
 i4 := by kernel_rfl
 i5 := by kernel_rfl
 i9 := by kernel_rfl
 i20 := by kernel_rfl
 i21 := by kernel_rfl
 i37 := by kernel_rfl
 i46 := by kernel_rfl
 i51 := by kernel_rfl
 i53 := by kernel_rfl
 i75 := by kernel_rfl
 i80 := by kernel_rfl
 i85 := by kernel_rfl
 i127 := by kernel_rfl
 i143 := by kernel_rfl
 i145 := by kernel_rfl
 i167 := by kernel_rfl
 i168 := by kernel_rfl
 i171 := by kernel_rfl
 i173 := by kernel_rfl
 i175 := by kernel_rfl
 i210 := by kernel_rfl
 i212 := by kernel_rfl
 i232 := by kernel_rfl
 i233 := by kernel_rfl
 m15 := by kernel_rfl
 m16 := by kernel_rfl
 m17 := by kernel_rfl
 m18 := by kernel_rfl
 m19 := by kernel_rfl
 c0 := by kernel_rfl
 c2 := by kernel_rfl
 c3 := by kernel_rfl
 c4 := by kernel_rfl
 c5 := by kernel_rfl
 c9 := by kernel_rfl
 c20 := by kernel_rfl
 c21 := by kernel_rfl
 c37 := by kernel_rfl
 c46 := by kernel_rfl
 c51 := by kernel_rfl
 c53 := by kernel_rfl
 c75 := by kernel_rfl
 c80 := by kernel_rfl
 c85 := by kernel_rfl
 c127 := by kernel_rfl
 c143 := by kernel_rfl
 c145 := by kernel_rfl
 c167 := by kernel_rfl
 c168 := by kernel_rfl
 c171 := by kernel_rfl
 c173 := by kernel_rfl
 c175 := by kernel_rfl
 c210 := by kernel_rfl
 c212 := by kernel_rfl
 c213 := by kernel_rfl
 c232 := by kernel_rfl
 c233 := by kernel_rfl }
open Go.RowKit in
theorem Tryz.strconv_ParseInt_10_at64_ok (s : ByteArray) (hmax : s.size ≤ 9223372036854775806) (v : Int) (h : Lib.parseIntB 64 s.data.toList = .ok v) (w : World) :
  Calls Tryz.prog 264 #[.string s, .int .i64 10, .int .i64 64] w fun e w' => e = .returned (.tuple #[.int .i64 v, .nilIface]) ∧ (w' = w ∨ ∃ t, w' = Lib.bytesWorld w 5 t) := Any.strconv_ParseInt_10_at64_ok Tryz.laysC174 s hmax v h w
end Go.Proofs
namespace Go.Proofs.YtchilcchogcibaaGreatDoor
open Go.RowKit
attribute [local go_sem] ByteArray.extract_mk ba_get ba_append
attribute [local go_sem ↓] Go.wp_at_zero Go.wp_at_succ
def Errs (w : World) : Prop := (∃ tp p, w.var? Tryz.prog "strconv.ErrSyntax" = some #[.iface tp p]) ∧ (∃ tp p, w.var? Tryz.prog "strconv.ErrRange" = some #[.iface tp p])
theorem Errs.below {B : Nat} {w w' : World} (h : Errs w) (hb : Below B w w') (hB : B = w.heap.size) : Errs w' := by
 obtain ⟨⟨t1, p1, h1⟩, t2, p2, h2⟩ := h
 exact ⟨⟨t1, p1, var_below h1 hb hB⟩, t2, p2, var_below h2 hb hB⟩
theorem parseInt_ok (s : List UInt8) (n : Int) (w : World) (hs : s.length ≤ 1000000) (h : Lib.parseIntB 64 s = .ok n) :
  Calls Tryz.prog 264 #[.string ⟨s.toArray⟩, .int .i64 10, .int .i64 64] w (Ret (.tuple #[.int .i64 n, .nilIface]) w) :=
 (Tryz.strconv_ParseInt_10_at64_ok ⟨s.toArray⟩ (by show s.length ≤ _; omega) n h w).mono fun e w' ⟨he, hw⟩ => ⟨he, by
  rcases hw with rfl | ⟨t, rfl⟩
  ·exact Below.refl _ _
  ·exact Lib.bytesWorld_below _ _ _⟩
theorem parse_null (w : World) : Calls Tryz.prog 265 #[.string ⟨#[78, 85, 76, 76]⟩] w (Ret (.tuple #[.agg #[.int .i64 0, .int .i64 0, .string ⟨#[]⟩], .int .i64 0]) w) := by
 have l0 : w.heap.size < w.heap.size + 1 + 1 := by omega
 go_in
 go_wp2_with fail
 refine (text0_any _).mono ?_
 rintro e w1 ⟨rfl, hb1⟩
 have hz1 := hb1.size
 obtain ⟨hc1, hf1⟩ := bcell hb1
 simp at hz1 hc1 hf1
 have l1 : w.heap.size < w1.heap.size := by omega
 have l2 : w.heap.size + 1 < w1.heap.size := by omega
 go_wp2_with fail
 refine bodyPost_ret (v := .tuple #[.agg #[.int .i64 0, .int .i64 0, .string ⟨#[]⟩], .int .i64 0]) (by simp [results, Tryz.results265, go_sem, *]) rfl ⟨rfl, ?_⟩
 exact bl
theorem parse_true (w : World) : Calls Tryz.prog 265 #[.string ⟨#[84, 82, 85, 69]⟩] w (Ret (.tuple #[.agg #[.int .i64 3, .int .i64 1, .string ⟨#[]⟩], .int .i64 0]) w) := by
 have l0 : w.heap.size < w.heap.size + 1 + 1 := by omega
 go_in
 go_wp2_with fail
 refine (truth2_any _).mono ?_
 rintro e w0 ⟨rfl, hb0⟩
 have hz0 := hb0.size
 obtain ⟨hc0, hf0⟩ := bcell hb0
 simp at hz0 hc0 hf0
 have k1 : w.heap.size < w0.heap.size := by omega
 have k2 : w.heap.size + 1 < w0.heap.size := by omega
 go_wp2_with fail
 refine (text3_any true _).mono ?_
 rintro e w1 ⟨rfl, hb1⟩
 have hz1 := hb1.size
 obtain ⟨hc1, hf1⟩ := bcell hb1
 simp at hz1 hc1 hf1
 have l1 : w.heap.size < w1.heap.size := by omega
 have l2 : w.heap.size + 1 < w1.heap.size := by omega
 go_wp2_with fail
 refine bodyPost_ret (v := .tuple #[.agg #[.int .i64 3, .int .i64 1, .string ⟨#[]⟩], .int .i64 0]) (by simp [results, Tryz.results265, go_sem, *]) rfl ⟨rfl, ?_⟩
 exact bl
theorem parse_false (w : World) : Calls Tryz.prog 265 #[.string ⟨#[70, 65, 76, 83, 69]⟩] w (Ret (.tuple #[.agg #[.int .i64 3, .int .i64 0, .string ⟨#[]⟩], .int .i64 0]) w) := by
 have l0 : w.heap.size < w.heap.size + 1 + 1 := by omega
 go_in
 go_wp2_with fail
 refine (truth1_any _).mono ?_
 rintro e w0 ⟨rfl, hb0⟩
 have hz0 := hb0.size
 obtain ⟨hc0, hf0⟩ := bcell hb0
 simp at hz0 hc0 hf0
 have k1 : w.heap.size < w0.heap.size := by omega
 have k2 : w.heap.size + 1 < w0.heap.size := by omega
 go_wp2_with fail
 refine (text3_any false _).mono ?_
 rintro e w1 ⟨rfl, hb1⟩
 have hz1 := hb1.size
 obtain ⟨hc1, hf1⟩ := bcell hb1
 simp at hz1 hc1 hf1
 have l1 : w.heap.size < w1.heap.size := by omega
 have l2 : w.heap.size + 1 < w1.heap.size := by omega
 go_wp2_with fail
 refine bodyPost_ret (v := .tuple #[.agg #[.int .i64 3, .int .i64 0, .string ⟨#[]⟩], .int .i64 0]) (by simp [results, Tryz.results265, go_sem, *]) rfl ⟨rfl, ?_⟩
 exact bl
end Go.Proofs.YtchilcchogcibaaGreatDoor
namespace Go.Proofs.YtchilcchogcibaaGreatDoor
open Go.RowKit
def wrT (t : Tok) : List UInt8 := if t.k = 3 then textF 2 0 t.s else t.s
theorem indexByte_mem : ∀ (l : List UInt8) (c : UInt8), 0 ≤ Lib.indexByte l c → c ∈ l
 | [], c, h => by simp [Lib.indexByte] at h
 | b :: r, c, h => by
  by_cases e : b = c
  ·simp [e]
  ·have ih := indexByte_mem r c
   unfold Lib.indexByte at h
   rw [if_neg (by simpa using e)] at h
   split at h
   ·omega
   ·rename_i hn
    by_cases h0 : 0 ≤ Lib.indexByte r c
    ·exact List.mem_cons_of_mem _ (ih h0)
    ·have : Lib.indexByte r c = -1 := by omega
     exact absurd (by simp [this]) hn
theorem sign_facts (c : UInt8) (h : signB c = true) : letB c = false ∧ digB c = false ∧ ¬ c.toNat = 39 ∧ blankB c = false := by
 have hm : c ∈ signL := by
  unfold signB at h
  simp only [decide_eq_true_eq] at h
  exact indexByte_mem _ _ h
 simp only [signL, List.mem_cons, List.not_mem_nil, or_false] at hm
 rcases hm with rfl | rfl | rfl | rfl | rfl | rfl | rfl | rfl <;> decide
theorem toks_of_first (s rest : List UInt8) (t : Tok) (c : UInt8) (r : List UInt8) (hs : s = c :: r) (hb : blankB c = false) (hm : mayT t = true) (hf : firstT (s ++ rest) = (t, s.length)) : toks (s ++ rest) = (toks rest).map (t :: ·) := by
 subst hs
 have hd : (c :: r ++ rest).drop (c :: r).length = rest := by simp
 rw [List.cons_append] at hf hd ⊢
 rw [toks_tok c _ hb (by rw [hf]; exact hm), hf]
 simp only
 rw [hd]
theorem let_not_blank {c : UInt8} (h : letB c = true) : blankB c = false := by
 cases hb : blankB c
 ·rfl
 ·rw [(blank_not_part hb).2.1] at h; cases h
theorem dig_not_blank {c : UInt8} (h : digB c = true) : blankB c = false := by
 cases hb : blankB c
 ·rfl
 ·rw [(blank_not_part hb).2.2] at h; cases h
theorem dig_not_let {c : UInt8} (h : digB c = true) : letB c = false := by
 unfold digB at h
 unfold letB
 simp only [Bool.and_eq_true, decide_eq_true_eq] at h
 simp; omega
theorem runB_parts {m : Nat} {f g : UInt8 → Bool} {s : List UInt8} (h : runB m f g s = true) : (∃ c r, s = c :: r ∧ f c = true) ∧ lenRun f g s = s.length := by
 unfold runB at h
 simp only [Bool.and_eq_true, decide_eq_true_eq, beq_iff_eq] at h
 obtain ⟨⟨h1, _⟩, h3⟩ := h
 cases s with
 | nil => simp at h1
 | cons c r =>
  refine ⟨⟨c, r, rfl, ?_⟩, h3⟩
  cases hf : f c
  ·have h4 : lenRun f g (c :: r) = 0 := by show (if f c then 1 + (r.takeWhile g).length else 0) = 0; rw [hf]; rfl
   rw [h4] at h3
   simp at h3
  ·rfl
theorem toks_wr (t : Tok) (hm : mayT t = true) (rest : List UInt8) (hg : Gap rest) : toks (wrT t ++ rest) = (toks rest).map (t :: ·) := by
 obtain ⟨k, s⟩ := t
 have hm0 := hm
 unfold mayT at hm
 simp only at hm
 obtain ⟨g1, g2, g3⟩ := hg.run
 by_cases h3 : k = 3
 ·subst h3
  rw [if_pos rfl] at hm
  have hw : wrT ⟨3, s⟩ = writ s := by unfold wrT; rw [if_pos rfl]; unfold textF; rw [hm]; rfl
  rw [hw]
  exact toks_writ s rest hg hm
 ·rw [if_neg h3] at hm
  have hw : wrT ⟨k, s⟩ = s := by unfold wrT; rw [if_neg h3]
  rw [hw]
  by_cases h4 : k = 4
  ·subst h4
   rw [if_pos rfl] at hm
   match s, hm with
   | [c], hm =>
    obtain ⟨f1, f2, f3, f4⟩ := sign_facts c hm
    refine toks_of_first [c] rest ⟨4, [c]⟩ c [] rfl f4 hm0 ?_
    show firstT (c :: rest) = _
    unfold firstT
    have l1 : lenRun letB partB (c :: rest) = 0 := by unfold lenRun; simp [f1]
    have l2 : lenRun digB digB (c :: rest) = 0 := by unfold lenRun; simp [f2]
    rw [l1, l2]
    simp only [Nat.lt_irrefl, if_false]
    rw [if_neg f3]
    rfl
  ·rw [if_neg h4] at hm
   by_cases h1 : k = 1
   ·subst h1
    rw [if_pos rfl] at hm
    obtain ⟨⟨c, r, hs, hc⟩, hl⟩ := runB_parts hm
    have hp : 0 < s.length := by rw [hs]; simp
    refine toks_of_first s rest ⟨1, s⟩ c r hs (let_not_blank hc) hm0 ?_
    unfold firstT
    rw [lenRun_gap letB partB s rest hp g1, hl, if_pos hp]
    simp
   ·rw [if_neg h1] at hm
    by_cases h2 : k = 2
    ·subst h2
     rw [if_pos rfl] at hm
     obtain ⟨⟨c, r, hs, hc⟩, hl⟩ := runB_parts hm
     have hp : 0 < s.length := by rw [hs]; simp
     refine toks_of_first s rest ⟨2, s⟩ c r hs (dig_not_blank hc) hm0 ?_
     have l1 : lenRun letB partB (s ++ rest) = 0 := by rw [hs, List.cons_append]; unfold lenRun; simp [dig_not_let hc]
     unfold firstT
     rw [l1, lenRun_gap digB digB s rest hp g2, hl, if_neg (Nat.lt_irrefl 0), if_pos hp]
     simp
    ·rw [if_neg h2] at hm
     cases hm
theorem toks_may : ∀ (n : Nat) (s : List UInt8) (l : List Tok), s.length ≤ n → toks s = some l → ∀ t ∈ l, mayT t = true := by
 intro n
 induction n with
 | zero =>
  intro s l hs h
  have : s = [] := List.eq_nil_of_length_eq_zero (by omega)
  subst this
  cases h
  intro t ht; simp at ht
 | succ n ih =>
  intro s l hs h
  cases s with
  | nil => cases h; intro t ht; simp at ht
  | cons c r =>
   simp only [List.length_cons] at hs
   cases hb : blankB c
   ·cases hm : mayT (firstT (c :: r)).1
    ·rw [toks_bad c r hb hm] at h; cases h
    ·have hge := (firstT_le (c :: r) (by simp)).2 hm
     rw [toks_tok c r hb hm] at h
     cases hq : toks ((c :: r).drop (firstT (c :: r)).2) with
     | none => rw [hq] at h; cases h
     | some a' =>
      rw [hq] at h
      cases h
      intro t ht
      rcases List.mem_cons.1 ht with rfl | ht
      ·exact hm
      ·exact ih _ a' (by rw [List.length_drop, List.length_cons]; omega) hq t ht
   ·rw [toks_blank c r hb] at h
    exact ih r l (by omega) h
end Go.Proofs.YtchilcchogcibaaGreatDoor
