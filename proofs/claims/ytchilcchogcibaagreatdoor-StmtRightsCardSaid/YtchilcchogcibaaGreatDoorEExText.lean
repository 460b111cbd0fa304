/- Contracts of the library at this dump, as the kit's tool writes them in plain words (lay-plain); expr.text, expr.Text as plain functions. -/
import Derived.Test.YtchilcchogcibaaGreatDoorER5Law
set_option maxRecDepth 100000
set_option maxHeartbeats 8000000
namespace Go.Proofs
open Go.Shelf
def Tryz.lays158_ren : Go.Shelf.Ren := ⟨fun | 158 => 85 | 165 => 143 | 166 => 144 | 167 => 145 | 169 => 146 | 230 => 147 | 203 => 148 | 240 => 194 | 241 => 195 | 197 => 196 | 118 => 197 | 168 => 198 | 270 => 199 | 262 => 200 | 276 => 219 | 277 => 220 | 260 => 221 | 242 => 222 | 313 => 223 | 278 => 233 | 274 => 234 | 275 => 235 | n => n, fun | 9 => 9 | 4 => 4 | 3 => 3 | 5 => 5 | 72 => 165 | 0 => 0 | 76 => 169 | 75 => 168 | 107 => 173 | 70 => 162 | 20 => 20 | 37 => 163 | 127 => 204 | 21 => 21 | 105 => 205 | 164 => 219 | 162 => 225 | 203 => 223 | 119 => 240 | 46 => 241 | 139 => 244 | 138 => 243 | 51 => 245 | 160 => 246 | 208 => 263 | 206 => 261 | 80 => 145 | n => n, fun | 13 => 2 | 3 => 3 | 4 => 4 | n => n⟩
theorem Tryz.lays158 : Go.Proofs.Lays.n158 Tryz.prog Tryz.lays158_ren := {
 mixed := by kernel_rfl
 f118 := Tryz.func197.trans (congrArg some (by kernel_rfl))
 f158 := Tryz.func85.trans (congrArg some (by kernel_rfl))
 f165 := Tryz.func143.trans (congrArg some (by kernel_rfl))
 f166 := Tryz.func144.trans (congrArg some (by kernel_rfl))
 f167 := Tryz.func145.trans (congrArg some (by kernel_rfl))
 f168 := Tryz.func198.trans (congrArg some (by kernel_rfl))
 f169 := Tryz.func146.trans (congrArg some (by kernel_rfl))
 f197 := Tryz.func196.trans (congrArg some (by kernel_rfl))
 f203 := Tryz.func148.trans (congrArg some (by kernel_rfl))
 f230 := Tryz.func147.trans (congrArg some (by kernel_rfl))
 f240 := Tryz.func194.trans (congrArg some (by kernel_rfl))
 f241 := Tryz.func195.trans (congrArg some (by kernel_rfl))
 f242 := Tryz.func222.trans (congrArg some (by kernel_rfl))
 f260 := Tryz.func221.trans (congrArg some (by kernel_rfl))
 f262 := Tryz.func200.trans (congrArg some (by kernel_rfl))
 f270 := Tryz.func199.trans (congrArg some (by kernel_rfl))
 f274 := Tryz.func234.trans (congrArg some (by kernel_rfl))
 f275 := Tryz.func235.trans (congrArg some (by kernel_rfl))
 f276 := Tryz.func219.trans (congrArg some (by kernel_rfl))
 f277 := Tryz.func220.trans (congrArg some (by kernel_rfl))
 f278 := Tryz.func233.trans (congrArg some (by kernel_rfl))
 f313 := Tryz.func223.trans (congrArg some (by kernel_rfl))
 t0 := Tryz.underlying0
 a0 := Tryz.isAgg0
 z0 := Tryz.sizeOf0
 v0 := Tryz.zeroValue0
 t3 := Tryz.underlying3
 a3 := Tryz.isAgg3
 z3 := Tryz.sizeOf3
 v3 := Tryz.zeroValue3
 t4 := Tryz.underlying4
 a4 := Tryz.isAgg4
 z4 := Tryz.sizeOf4
 v4 := Tryz.zeroValue4
 t5 := Tryz.underlying5
 a5 := Tryz.isAgg5
 z5 := Tryz.sizeOf5
 v5 := Tryz.zeroValue5
 t9 := Tryz.underlying9
 a9 := Tryz.isAgg9
 z9 := Tryz.sizeOf9
 v9 := Tryz.zeroValue9
 t20 := Tryz.underlying20
 a20 := Tryz.isAgg20
 z20 := Tryz.sizeOf20
 v20 := Tryz.zeroValue20
 t21 := Tryz.underlying21
 a21 := Tryz.isAgg21
 z21 := Tryz.sizeOf21
 v21 := Tryz.zeroValue21
 t37 := Tryz.underlying163
 a37 := Tryz.isAgg163
 z37 := Tryz.sizeOf163
 v37 := Tryz.zeroValue163
 t46 := Tryz.underlying241
 a46 := Tryz.isAgg241
 z46 := Tryz.sizeOf241
 v46 := Tryz.zeroValue241
 t51 := Tryz.underlying245
 a51 := Tryz.isAgg245
 z51 := Tryz.sizeOf245
 v51 := Tryz.zeroValue245
 t70 := Tryz.underlying162
 a70 := Tryz.isAgg162
 z70 := Tryz.sizeOf162
 v70 := Tryz.zeroValue162
 t72 := Tryz.underlying165
 a72 := Tryz.isAgg165
 z72 := Tryz.sizeOf165
 v72 := Tryz.zeroValue165
 t75 := Tryz.underlying168
 a75 := Tryz.isAgg168
 z75 := Tryz.sizeOf168
 v75 := Tryz.zeroValue168
 t76 := Tryz.underlying169
 a76 := Tryz.isAgg169
 z76 := Tryz.sizeOf169
 v76 := Tryz.zeroValue169
 t105 := Tryz.underlying205
 a105 := Tryz.isAgg205
 z105 := Tryz.sizeOf205
 v105 := Tryz.zeroValue205
 t107 := Tryz.underlying173
 a107 := Tryz.isAgg173
 z107 := Tryz.sizeOf173
 v107 := Tryz.zeroValue173
 t119 := Tryz.underlying240
 a119 := Tryz.isAgg240
 z119 := Tryz.sizeOf240
 t127 := Tryz.underlying204
 a127 := Tryz.isAgg204
 z127 := Tryz.sizeOf204
 v127 := Tryz.zeroValue204
 t138 := Tryz.underlying243
 a138 := Tryz.isAgg243
 z138 := Tryz.sizeOf243
 v138 := Tryz.zeroValue243
 t139 := Tryz.underlying244
 a139 := Tryz.isAgg244
 z139 := Tryz.sizeOf244
 v139 := Tryz.zeroValue244
 t160 := Tryz.underlying246
 a160 := Tryz.isAgg246
 z160 := Tryz.sizeOf246
 v160 := Tryz.zeroValue246
 t162 := Tryz.underlying225
 a162 := Tryz.isAgg225
 z162 := Tryz.sizeOf225
 v162 := Tryz.zeroValue225
 t164 := Tryz.underlying219
 a164 := Tryz.isAgg219
 z164 := Tryz.sizeOf219
 v164 := Tryz.zeroValue219
 t203 := Tryz.underlying223
 a203 := Tryz.isAgg223
 z203 := Tryz.sizeOf223
 v203 := Tryz.zeroValue223
 t206 := Tryz.underlying261
 a206 := Tryz.isAgg261
 z206 := Tryz.sizeOf261
 v206 := Tryz.zeroValue261
 t208 := Tryz.underlying263
 a208 := Tryz.isAgg263
 z208 := Tryz.sizeOf263
 v208 := Tryz.zeroValue263
 g3 := by kernel_rfl
 g4 := by kernel_rfl
 g13 := by kernel_rfl }
theorem Tryz.Builder_Extra_158 : Builder.Extra Tryz.prog Tryz.lays158_ren := {
 sizeBuilder := by kernel_rfl
 liesBuilder := by kernel_rfl
 t5 := Tryz.underlying5
 a5 := Tryz.isAgg5
 z5 := Tryz.sizeOf5
 v5 := Tryz.zeroValue5
 infoByte := by kernel_rfl
 cellsByte := by kernel_rfl
 sizeByte := by kernel_rfl
 neB5 := by decide }
open Go.RowKit in
theorem Tryz.strings_ToUpper_ascii (s : ByteArray) (w : World) (hs : s.size ≤ 140737488355328) (hascii : ∀ (j : Nat) (b : UInt8), s.data.toList[j]? = some b → b.toNat < 128) :
  Calls Tryz.prog 85 #[.string s] w fun e w' => e = .returned (.string ⟨(Lib.toUpperA s.data.toList).toArray⟩) ∧ Below w.heap.size w w' := Any.strings_ToUpper_ascii Tryz.lays158 Tryz.Builder_Extra_158 s w hs hascii
end Go.Proofs
namespace Go.Proofs.YtchilcchogcibaaGreatDoor
open Go.RowKit
attribute [local go_sem] ByteArray.extract_mk ba_get ba_append
attribute [local go_sem ↓] Go.wp_at_zero Go.wp_at_succ
theorem upper_eq (l : List UInt8) : Lib.toUpperA l = upperB l := by
 unfold Lib.toUpperA upperB
 apply List.map_congr_left
 intro b _
 unfold Lib.upperB Lib.isLowerB
 have : (97 ≤ b ∧ b ≤ 122) ↔ (97 ≤ b.toNat ∧ b.toNat ≤ 122) := by rw [UInt8.le_iff_toNat_le, UInt8.le_iff_toNat_le]; exact Iff.rfl
 by_cases h : 97 ≤ b.toNat ∧ b.toNat ≤ 122
 ·simp [h, this]
 ·simp [h, this]
theorem toUpper_any (s : List UInt8) (w : World) (hs : s.length ≤ 1000000) (ha : ∀ b ∈ s, b.toNat < 128) : Calls Tryz.prog 85 #[.string ⟨s.toArray⟩] w (Ret (.string ⟨(upperB s).toArray⟩) w) := by
 have h := Tryz.strings_ToUpper_ascii ⟨s.toArray⟩ w (by show s.length ≤ _; omega) (fun j b hj => ha b (List.mem_of_getElem? hj))
 rw [show Lib.toUpperA s.toArray.toList = upperB s from upper_eq s] at h
 exact h
theorem textF_len (k i : Int) (s : List UInt8) (h : fitI i) : (textF k i s).length ≤ 100 := by
 unfold fitI at h
 unfold textF
 cases hm : mayB k i s
 ·simp
 ·simp only [if_true]
  rcases may_kinds hm with ⟨rfl, rfl, rfl⟩ | ⟨rfl, rfl⟩ | ⟨rfl, rfl, hs, _⟩ | ⟨rfl, hi, rfl⟩
  ·decide
  ·rw [if_pos rfl]
   unfold Lib.itoa
   split
   ·rename_i hn
    have := dec_len 18 i.natAbs (by omega)
    simp only [List.length_cons]; omega
   ·have := dec_len 18 i.toNat (by omega)
    omega
  ·have := quoteS_len s
   simp; omega
  ·rcases hi with rfl | rfl <;> decide
theorem upper_len (s : List UInt8) : (upperB s).length = s.length := by simp [upperB]
theorem twoB_len {op : List UInt8} (h : twoB op = true) : op.length ≤ 3 ∧ ∀ b ∈ op, b.toNat < 128 := by
 rw [twoB_iff] at h
 rcases h with rfl | rfl | rfl | rfl | rfl | rfl <;> decide
theorem textN_len : ∀ (n : Nat) (e : Ex), formE n e = true → fitE n e → (textN n e).length + 20 ≤ 120 * 2 ^ n := by
 intro n
 induction n with
 | zero => intro e h; simp [formE] at h
 | succ n ih =>
  intro e h hf
  have h2 : 2 ^ (n + 1) = 2 * 2 ^ n := by rw [Nat.pow_succ]; omega
  have h1 : 1 ≤ 2 ^ n := Nat.one_le_two_pow
  rcases form_cases h with ⟨he, hm⟩ | ⟨he, hn, _⟩ | ⟨a, rfl, ha⟩ | ⟨a, rfl, ha⟩ | ⟨op, a, b, rfl, ho, ha, hb⟩
  ·have := textF_len e.v.k e.v.i e.v.s (fitE_v hf)
   rw [show textN (n + 1) e = textF e.v.k e.v.i e.v.s by rw [he]; rfl]
   omega
  ·rw [show textN (n + 1) e = e.s by rw [he]; rfl]
   unfold nameB runB at hn
   simp only [Bool.and_eq_true, decide_eq_true_eq] at hn
   omega
  ·have := ih a ha (hf.2 a (by simp [Ex.l]))
   show (([40, 78, 79, 84, 32] ++ textN n a) ++ [41]).length + 20 ≤ _
   simp; omega
  ·have := ih a ha (hf.2 a (by simp [Ex.l]))
   show (([40] ++ textN n a) ++ [32, 73, 83, 32, 78, 85, 76, 76, 41]).length + 20 ≤ _
   simp; omega
  ·have k1 := ih a ha (hf.2 a (by simp [Ex.l]))
   have k2 := ih b hb (hf.2 b (by simp [Ex.l]))
   obtain ⟨n1, n2, n3, n4⟩ := twoB_ne ho
   have := (twoB_len ho).1
   rw [textN_two n1 n2 n3 n4]
   simp [upper_len]; omega
theorem textN_lt {n : Nat} {e : Ex} (hn : n ≤ 13) (h : formE n e = true) (hf : fitE n e) : (textN n e).length ≤ 1000000 := by
 have h1 := textN_len n e h hf
 have h2 : 2 ^ n ≤ 2 ^ 13 := Nat.pow_le_pow_right (by omega) hn
 omega
theorem extext_any (B : Nat) : ∀ (n : Nat) (e : Ex) (A : Option Addr) (c m : Nat) (w : World), n ≤ 13 → B ≤ w.heap.size → formE n e = true → fitE n e → ExS 1000 m w w.heap.size A e.l → EnvS B w →
  Calls Tryz.prog 203 #[.agg (e.cells A c).toArray] w (Ret (.string ⟨(textN n e).toArray⟩) w) := by
 intro n
 induction n with
 | zero => intro e A c m w _ _ h; simp [formE] at h
 | succ n ih =>
  intro e A c m w hn hB h hf hE hV
  obtain ⟨w0, hw0⟩ : ∃ w0, w.alloc (.cells (e.cells A c).toArray 30) = w0 := ⟨_, rfl⟩
  have kq0 : Blk w0 w.heap.size 30 (e.cells A c).toArray := by rw [← hw0]; exact Blk.new _ _ _
  have hb0 : Below w.heap.size w w0 := by rw [← hw0]; exact bl
  have hz0 := hb0.size
  have HSH : Hid (∀ w' : World, Below w0.heap.size w0 w' → (w'.cell? ⟨w.heap.size, 0, none⟩ = some (.string ⟨e.op.toArray⟩) ∧ w'.cell? ⟨w.heap.size, 1, none⟩ = some (.int .i64 e.v.k) ∧ w'.cell? ⟨w.heap.size, 2, none⟩ = some (.int .i64 e.v.i) ∧ w'.cell? ⟨w.heap.size, 3, none⟩ = some (.string ⟨e.v.s.toArray⟩) ∧ w'.cell? ⟨w.heap.size, 4, none⟩ = some (.string ⟨e.s.toArray⟩) ∧ w'.cell? ⟨w.heap.size, 5, none⟩ = some (.slice A e.l.length c))) := fun w' h => (kq0.below h kq0.lt).six
  have HE : Hid (∀ Y : World, Below w0.heap.size w0 Y → ExS 1000 m Y Y.heap.size A e.l) := fun Y h => ((hE.below m (hb0.trans (h.mono hz0)))).more (Nat.le_trans hz0 h.size) m
  have HENV : Hid (∀ Y : World, Below w0.heap.size w0 Y → EnvS B Y) := fun Y h => hV.below (hb0.trans (h.mono hz0)) hB
  have HW := Lib.hid hw0
  have HBW : Hid (∀ Y : World, Below w0.heap.size w0 Y → Below w.heap.size w Y ∧ B ≤ Y.heap.size) := fun Y h => ⟨hb0.trans (h.mono hz0), Nat.le_trans hB (Nat.le_trans hz0 h.size)⟩
  have HIH : Hid (∀ (x : Ex) (A' : Option Addr) (c' m : Nat) (Y : World), B ≤ Y.heap.size → formE n x = true → fitE n x → ExS 1000 m Y Y.heap.size A' x.l → EnvS B Y → Calls Tryz.prog 203 #[.agg #[.string ⟨x.op.toArray⟩, .int .i64 x.v.k, .int .i64 x.v.i, .string ⟨x.v.s.toArray⟩, .string ⟨x.s.toArray⟩, .slice A' x.l.length c']] Y (Ret (.string ⟨(textN n x).toArray⟩) Y)) := fun x A' c' m Y h1 h2 h3 h4 h5 => ih x A' c' m Y (by omega) h1 h2 h3 h4 h5
  clear ih hw0 hE kq0 hb0 hV hz0
  obtain ⟨q0, q1, q2, q3, q4, q5⟩ := HSH.out w0 (Below.refl _ _)
  rcases form_cases h with ⟨he, hm⟩ | ⟨he, hnm, _⟩ | ⟨a, rfl, ha⟩ | ⟨a, rfl, ha⟩ | ⟨op, a, b, rfl, ho, ha, hb⟩
  ·have ho : e.op = opLit := by rw [he]; rfl
   have ht : textN (n + 1) e = textF e.v.k e.v.i e.v.s := by rw [he]; rfl
   have hfv := fitE_v hf
   have hen := (HENV.out w0 (Below.refl _ _)).out
   have HT := Lib.hid (text_any e.v.k e.v.i e.v.s w0 hfv.1 hfv.2 hen.1 hen.2.1)
   rw [ht]
   have o1 : (e.op == [108, 105, 116]) = true := by rw [ho]; rfl
   obtain ⟨T, hT⟩ : ∃ T, textF e.v.k e.v.i e.v.s = T := ⟨_, rfl⟩
   rw [hT] at HT ⊢
   clear ht hT he hm hen h hf ho
   go_in
   go_upto_region 1 with fail
   rw [show w.alloc _ = w0 from HW.out]
   clear HW
   go_wp2_with fail
   refine HT.out.mono ?_
   rintro en w1 ⟨rfl, hb1⟩
   go_wp2_with fail
   go_ret
   exact ⟨rfl, (HBW.out w1 hb1).1⟩
  ·have ho : e.op = opCol := by rw [he]; rfl
   have ht : textN (n + 1) e = e.s := by rw [he]; rfl
   rw [ht]
   have o1 : (e.op == [108, 105, 116]) = false := by rw [ho]; rfl
   have o2 : (e.op == [99, 111, 108]) = true := by rw [ho]; rfl
   clear ht he hnm h hf ho
   go_in
   go_upto_region 1 with fail
   rw [show w.alloc _ = w0 from HW.out]
   clear HW
   go_wp2_with fail
   go_ret
   exact ⟨rfl, (HBW.out w0 (Below.refl _ _)).1⟩
  ·have hfa := hf.2 a (by simp [Ex.l])
   obtain ⟨m1, b1, o1', x, A', c', rfl, rfl, hbB, _, hgd, hfx, hxc, hxm, ⟨c0, c1, c2, c3, c4, c5⟩, hx⟩ := six0 (HE.out w0 (Below.refl _ _)) (j := 0) (by simp [Ex.l])
   obtain rfl : a = x := hgd
   have hln := textN_lt (by omega) ha hfa
   have HC := Lib.hid (HIH.out a A' c' m1 w0 (HBW.out w0 (Below.refl _ _)).2 ha hfa hx (HENV.out w0 (Below.refl _ _)))
   have ht : textN (n + 1) (.mk opNot V.zero [] [a]) = ([40, 78, 79, 84, 32] ++ textN n a) ++ [41] := rfl
   rw [ht]
   obtain ⟨T, hT⟩ : ∃ T, textN n a = T := ⟨_, rfl⟩
   rw [hT] at HC hln ⊢
   simp only [Nat.zero_mul, Nat.add_zero] at c0 c1 c2 c3 c4 c5
   clear ht hT h hf ha hfa hfx hx
   dsimp only [Ex.cells, Ex.op, Ex.v, Ex.s, Ex.l, V.zero, List.length_cons, List.length_nil] at q0 q1 q2 q3 q4 q5 HW ⊢
   go_in
   go_upto_region 1 with fail
   rw [show w.alloc _ = w0 from HW.out]
   clear HW
   go_wp2_with fail
   refine HC.out.mono ?_
   rintro en w1 ⟨rfl, hb1⟩
   go_wp2_with fail
   go_ret
   exact ⟨by simp, (HBW.out w1 hb1).1⟩
  ·have hfa := hf.2 a (by simp [Ex.l])
   obtain ⟨m1, b1, o1', x, A', c', rfl, rfl, hbB, _, hgd, hfx, hxc, hxm, ⟨c0, c1, c2, c3, c4, c5⟩, hx⟩ := six0 (HE.out w0 (Below.refl _ _)) (j := 0) (by simp [Ex.l])
   obtain rfl : a = x := hgd
   have hln := textN_lt (by omega) ha hfa
   have HC := Lib.hid (HIH.out a A' c' m1 w0 (HBW.out w0 (Below.refl _ _)).2 ha hfa hx (HENV.out w0 (Below.refl _ _)))
   have ht : textN (n + 1) (.mk opNull V.zero [] [a]) = ([40] ++ textN n a) ++ [32, 73, 83, 32, 78, 85, 76, 76, 41] := rfl
   rw [ht]
   obtain ⟨T, hT⟩ : ∃ T, textN n a = T := ⟨_, rfl⟩
   rw [hT] at HC hln ⊢
   simp only [Nat.zero_mul, Nat.add_zero] at c0 c1 c2 c3 c4 c5
   clear ht hT h hf ha hfa hfx hx
   dsimp only [Ex.cells, Ex.op, Ex.v, Ex.s, Ex.l, V.zero, List.length_cons, List.length_nil, opNull] at q0 q1 q2 q3 q4 q5 HW ⊢
   go_in
   go_upto_region 1 with fail
   rw [show w.alloc _ = w0 from HW.out]
   clear HW
   go_wp2_with fail
   refine HC.out.mono ?_
   rintro en w1 ⟨rfl, hb1⟩
   go_wp2_with fail
   go_ret
   exact ⟨by simp, (HBW.out w1 hb1).1⟩
  ·have hfa := hf.2 a (by simp [Ex.l])
   have hfb := hf.2 b (by simp [Ex.l])
   obtain ⟨m1, b1, o1', x, A', c', rfl, rfl, hbB, _, hgd, hfx, hxc, hxm, ⟨c0, c1, c2, c3, c4, c5⟩, hx⟩ := six0 (HE.out w0 (Below.refl _ _)) (j := 0) (by simp [Ex.l])
   obtain rfl : a = x := hgd
   obtain ⟨m2, b2, o2', y, A2, c2', e1, e2, hbB2, _, hgd2, hfy, hyc, hym, ⟨d0, d1, d2, d3, d4, d5⟩, hy⟩ := six0 (HE.out w0 (Below.refl _ _)) (j := 1) (by simp [Ex.l])
   obtain rfl : b = y := hgd2
   obtain rfl : m1 = m2 := by omega
   obtain ⟨rfl, rfl⟩ : b1 = b2 ∧ o1' = o2' := by injection e2 with e; injection e with e1 e3; exact ⟨e1, e3⟩
   have hln := textN_lt (by omega) ha hfa
   have hln2 := textN_lt (by omega) hb hfb
   obtain ⟨n1, n2, n3, n4⟩ := twoB_ne ho
   obtain ⟨u1, u2⟩ := twoB_len ho
   have HC : Hid (∀ Y : World, Below w0.heap.size w0 Y → Calls Tryz.prog 203 #[.agg #[.string ⟨a.op.toArray⟩, .int .i64 a.v.k, .int .i64 a.v.i, .string ⟨a.v.s.toArray⟩, .string ⟨a.s.toArray⟩, .slice A' a.l.length c']] Y (Ret (.string ⟨(textN n a).toArray⟩) Y)) := fun Y hY => HIH.out a A' c' m1 Y (HBW.out Y hY).2 ha hfa ((hx.below m1 hY).more hY.size m1) (HENV.out Y hY)
   have HC2 : Hid (∀ Y : World, Below w0.heap.size w0 Y → Calls Tryz.prog 203 #[.agg #[.string ⟨b.op.toArray⟩, .int .i64 b.v.k, .int .i64 b.v.i, .string ⟨b.v.s.toArray⟩, .string ⟨b.s.toArray⟩, .slice A2 b.l.length c2']] Y (Ret (.string ⟨(textN n b).toArray⟩) Y)) := fun Y hY => HIH.out b A2 c2' m1 Y (HBW.out Y hY).2 hb hfb ((hy.below m1 hY).more hY.size m1) (HENV.out Y hY)
   have HU : Hid (∀ Y : World, Calls Tryz.prog 85 #[.string ⟨op.toArray⟩] Y (Ret (.string ⟨(upperB op).toArray⟩) Y)) := fun Y => toUpper_any op Y (by omega) u2
   rw [textN_two n1 n2 n3 n4]
   have hul : (upperB op).length ≤ 3 := by rw [upper_len]; exact u1
   obtain ⟨T, hT⟩ : ∃ T, textN n a = T := ⟨_, rfl⟩
   obtain ⟨T2, hT2⟩ : ∃ T, textN n b = T := ⟨_, rfl⟩
   obtain ⟨U, hU⟩ : ∃ U, upperB op = U := ⟨_, rfl⟩
   rw [hT] at HC hln ⊢
   rw [hT2] at HC2 hln2 ⊢
   rw [hU] at HU hul ⊢
   simp only [Nat.zero_mul, Nat.one_mul, Nat.add_zero] at c0 c1 c2 c3 c4 c5 d0 d1 d2 d3 d4 d5
   have o1 : (op == [108, 105, 116]) = false := by rw [beq_eq_false_iff_ne]; exact n1
   have o2 : (op == [99, 111, 108]) = false := by rw [beq_eq_false_iff_ne]; exact n2
   have o3 : (op == [110, 111, 116]) = false := by rw [beq_eq_false_iff_ne]; exact n3
   have o4 : (op == [110, 117, 108, 108]) = false := by rw [beq_eq_false_iff_ne]; exact n4
   have HSX : Hid (∀ Y : World, Below w0.heap.size w0 Y → (Y.cell? ⟨w.heap.size, 0, none⟩ = some (.string ⟨op.toArray⟩) ∧ Y.cell? ⟨w.heap.size, 5, none⟩ = some (.slice (some ⟨b1, o1', none⟩) 2 c)) ∧
     (Y.cell? ⟨b1, o1', none⟩ = some (.string ⟨a.op.toArray⟩) ∧ Y.cell? ⟨b1, o1' + 1, none⟩ = some (.int .i64 a.v.k) ∧ Y.cell? ⟨b1, o1' + 2, none⟩ = some (.int .i64 a.v.i) ∧ Y.cell? ⟨b1, o1' + 3, none⟩ = some (.string ⟨a.v.s.toArray⟩) ∧ Y.cell? ⟨b1, o1' + 4, none⟩ = some (.string ⟨a.s.toArray⟩) ∧ Y.cell? ⟨b1, o1' + 5, none⟩ = some (.slice A' a.l.length c')) ∧
     (Y.cell? ⟨b1, o1' + 6, none⟩ = some (.string ⟨b.op.toArray⟩) ∧ Y.cell? ⟨b1, o1' + 6 + 1, none⟩ = some (.int .i64 b.v.k) ∧ Y.cell? ⟨b1, o1' + 6 + 2, none⟩ = some (.int .i64 b.v.i) ∧ Y.cell? ⟨b1, o1' + 6 + 3, none⟩ = some (.string ⟨b.v.s.toArray⟩) ∧ Y.cell? ⟨b1, o1' + 6 + 4, none⟩ = some (.string ⟨b.s.toArray⟩) ∧ Y.cell? ⟨b1, o1' + 6 + 5, none⟩ = some (.slice A2 b.l.length c2'))) := fun Y hY => by
    have hk : ∀ o, Y.cell? ⟨b1, o, none⟩ = w0.cell? ⟨b1, o, none⟩ := fun o => hY.cell (p := ⟨b1, o, none⟩) hbB
    obtain ⟨r0, _, _, _, _, r5⟩ := HSH.out Y hY
    exact ⟨⟨r0, r5⟩, ⟨(hk _).trans c0, (hk _).trans c1, (hk _).trans c2, (hk _).trans c3, (hk _).trans c4, (hk _).trans c5⟩, (hk _).trans d0, (hk _).trans d1, (hk _).trans d2, (hk _).trans d3, (hk _).trans d4, (hk _).trans d5⟩
   clear hT hT2 hU h hf ha hfa hb hfb hfx hx hfy hy n1 n2 n3 n4 ho u1 u2 c0 c1 c2 c3 c4 c5 d0 d1 d2 d3 d4 d5
   dsimp only [Ex.cells, Ex.op, Ex.v, Ex.s, Ex.l, V.zero, List.length_cons, List.length_nil] at q0 q1 q2 q3 q4 q5 HW ⊢
   go_in
   go_upto_region 1 with fail
   rw [show w.alloc _ = w0 from HW.out]
   clear HW
   have z1 : ¬ 9223372036854775807 < 1 + T.length := by omega
   have z2 : ¬ 9223372036854775807 < T.length + 1 + 1 := by omega
   have z3 : ¬ 9223372036854775807 < T.length + 1 + 1 + U.length := by omega
   have z5 : ¬ 9223372036854775807 < T.length + (U.length + 1 + 1) + 1 + T2.length := by omega
   have z6 : ¬ 9223372036854775807 < T.length + (U.length + (T2.length + 1) + 1) + 1 + 1 := by omega
   have z4 : ¬ 9223372036854775807 < T.length + (U.length + 1) + 1 + 1 := by omega
   go_wp2_with fail
   refine rgn HSX fun hHeld => ?_
   refine tS [0, 1, 2, 3, 7, 8, 12, 13, 14, 15] ?_
   iterate 10 (refine tC ?_; refine ap ?_)
   refine tN ?_
   refine rdy 4 fun K hK => ?_
   go_simp
   (refine (HC.out _ (by exact bl)).mono ?_) <;> rintro en w4 ⟨rfl, hb4⟩ <;> have hz4 := hb4.size <;> (try simp at hz4)
   go_wp2_with fail
   refine hK.out _ _ (HSX.out _ (by exact bl)) fun hHeld => ?_
   clear hK K
   refine ap ?_
   refine tS [5, 6] ?_
   iterate 2 (refine tC ?_; refine ap ?_)
   refine tN ?_
   refine rdy 9 fun K hK => ?_
   go_simp
   (refine (HU.out _).mono ?_) <;> rintro en w9 ⟨rfl, hb9⟩ <;> have hz9 := hb9.size <;> (try simp at hz9)
   go_wp2_with fail
   refine hK.out _ _ (HSX.out _ (by exact bl)) fun hHeld => ?_
   clear hK K
   refine ap ?_
   refine tS [10, 11] ?_
   iterate 2 (refine tC ?_; refine ap ?_)
   refine tN ?_
   refine rdy 16 fun K hK => ?_
   go_simp
   (refine (HC2.out _ (by exact bl)).mono ?_) <;> rintro en w16 ⟨rfl, hb16⟩ <;> have hz16 := hb16.size <;> (try simp at hz16)
   go_wp2_with fail
   refine hK.out _ _ (HSX.out _ (by exact bl)) fun hHeld => ?_
   clear hK K
   refine ap ?_
   refine tS [17, 18, 19] ?_
   iterate 3 (refine tC ?_; refine ap ?_)
   refine tN ?_
   refine wpAnyH_done (by kernel_rfl) ?_ _
   have hb16' : Below w0.heap.size w0 w16 := by exact bl
   go_wp2_with fail
   go_ret
   exact ⟨by simp, (HBW.out w16 hb16').1⟩
theorem exText_any (e : Ex) (A : Option Addr) (c m : Nat) (w : World) (hf : e.fit 1000) (hfe : fitE 13 e) (hE : ExS 1000 m w w.heap.size A e.l) (hV : Env0 w) :
  Calls Tryz.prog 155 #[.agg (e.cells A c).toArray] w (Ret (.tuple #[.string ⟨(if mayX e then textX e else []).toArray⟩, .int .i64 (if mayX e then 0 else 1)]) w) := by
 obtain ⟨w0, hw0⟩ : ∃ w0, w.alloc (.cells (e.cells A c).toArray 30) = w0 := ⟨_, rfl⟩
 have kq0 : Blk w0 w.heap.size 30 (e.cells A c).toArray := by rw [← hw0]; exact Blk.new _ _ _
 have hb0 : Below w.heap.size w w0 := by rw [← hw0]; exact bl
 have hz0 := hb0.size
 have HSH : Hid (∀ w' : World, Below w0.heap.size w0 w' → (w'.cell? ⟨w.heap.size, 0, none⟩ = some (.string ⟨e.op.toArray⟩) ∧ w'.cell? ⟨w.heap.size, 1, none⟩ = some (.int .i64 e.v.k) ∧ w'.cell? ⟨w.heap.size, 2, none⟩ = some (.int .i64 e.v.i) ∧ w'.cell? ⟨w.heap.size, 3, none⟩ = some (.string ⟨e.v.s.toArray⟩) ∧ w'.cell? ⟨w.heap.size, 4, none⟩ = some (.string ⟨e.s.toArray⟩) ∧ w'.cell? ⟨w.heap.size, 5, none⟩ = some (.slice A e.l.length c))) := fun w' h => (kq0.below h kq0.lt).six
 have HE : ∀ Y : World, Below w0.heap.size w0 Y → ExS 1000 m Y Y.heap.size A e.l := fun Y h => ((hE.below m (hb0.trans (h.mono hz0)))).more (Nat.le_trans hz0 h.size) m
 have hbn : w.heap.size < w0.heap.size := kq0.lt
 have HMAY : Hid (Calls Tryz.prog 79 #[.agg (e.cells A c).toArray] w0 (Ret (.bool (mayX e)) w0)) := by
  have := mayX_any m e A c w0 hf (HE w0 (Below.refl _ _))
  rw [may_X m e (ExS.hgt m hE)] at this
  exact this
 have HTX : Hid (mayX e = true → ∀ Y : World, Below w0.heap.size w0 Y → Calls Tryz.prog 203 #[.agg (e.cells A c).toArray] Y (Ret (.string ⟨(textX e).toArray⟩) Y)) := fun hm Y hY =>
  extext_any w.heap.size 13 e A c m Y (by omega) (Nat.le_trans hz0 hY.size) (form_up 12 e (mayX_form hm)) hfe (HE Y hY) ((EnvS.of hV).below (hb0.trans (hY.mono hz0)) (Nat.le_refl _))
 have HW := Lib.hid hw0
 have HB := Lib.hid hb0
 obtain ⟨M, hM⟩ : ∃ M, mayX e = M := ⟨_, rfl⟩
 rw [hM] at HMAY HTX ⊢
 obtain ⟨T, hT⟩ : ∃ T, textX e = T := ⟨_, rfl⟩
 rw [hT] at HTX ⊢
 clear hw0 hE hf hV kq0 hb0 HE hM hT hfe
 obtain ⟨q0, q1, q2, q3, q4, q5⟩ := HSH.out w0 (Below.refl _ _)
 dsimp only [Ex.cells] at HW HMAY HTX ⊢
 cases M with
 | false =>
  go_in
  go_upto_region 1 with fail
  rw [show w.alloc _ = w0 from HW.out]
  clear HW
  go_wp2_with fail
  refine HMAY.out.mono ?_
  rintro en w1 ⟨rfl, hb1⟩
  go_wp2_with fail
  refine bodyPost_ret (v := .tuple #[.string ⟨#[]⟩, .int .i64 1]) (by simp [results, Tryz.results155, go_sem, *]) rfl ?_
  exact ⟨rfl, HB.out.trans (hb1.mono hz0)⟩
 | true =>
  go_in
  go_upto_region 1 with fail
  rw [show w.alloc _ = w0 from HW.out]
  clear HW
  go_wp2_with fail
  refine HMAY.out.mono ?_
  rintro en w1 ⟨rfl, hb1⟩
  clear q0 q1 q2 q3 q4 q5
  obtain ⟨q0, q1, q2, q3, q4, q5⟩ := HSH.out w1 hb1
  have HC := Lib.hid (HTX.out trivial w1 hb1)
  have hz1 := hb1.size
  go_wp2_with fail
  refine HC.out.mono ?_
  rintro en w2 ⟨rfl, hb2⟩
  go_wp2_with fail
  refine bodyPost_ret (v := .tuple #[.string ⟨T.toArray⟩, .int .i64 0]) (by simp [results, Tryz.results155, go_sem, *]) rfl ?_
  exact ⟨rfl, HB.out.trans ((hb1.trans (hb2.mono hz1)).mono hz0)⟩
end Go.Proofs.YtchilcchogcibaaGreatDoor
