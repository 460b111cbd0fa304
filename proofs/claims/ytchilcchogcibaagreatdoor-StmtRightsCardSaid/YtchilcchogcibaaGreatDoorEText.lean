/- Plain laws on replacing; Contracts of the library at this dump, as the kit's tool writes them in plain words (lay-plain); value.Text as a plain function. -/
import Derived.Lib.Replace
import Derived.Shelf.LaysM
import Derived.Shelf.Strconv.Itoa4
import Derived.Shelf.LaysC
import Derived.Shelf.Strings.Replace
import Derived.Test.YtchilcchogcibaaGreatDoorProg
import Derived.Test.YtchilcchogcibaaGreatDoorEStage2
set_option maxHeartbeats 1000000
namespace Go.Proofs.YtchilcchogcibaaGreatDoor
open Go
section
variable (old new : List UInt8)
theorem index_yes (b : UInt8) (l : List UInt8) (h : old.isPrefixOf (b :: l) = true) : Lib.index (b :: l) old = ((0 : Nat) : Int) := by rw [Lib.index, if_pos h]; rfl
theorem index_no (b : UInt8) (l : List UInt8) (h : old.isPrefixOf (b :: l) = false) : Lib.index (b :: l) old = if Lib.index l old == -1 then -1 else Lib.index l old + 1 := by rw [Lib.index, h]; simp
theorem count_no (b : UInt8) (l : List UInt8) (h0 : old ≠ []) (h : old.isPrefixOf (b :: l) = false) : Lib.count (b :: l) old = Lib.count l old := by
 have hi := index_no old b l h
 by_cases hm : Lib.index l old = -1
 ·rw [Lib.count_miss hm, Lib.count_miss (by rw [hi, hm]; rfl)]
 ·have hge := Lib.index_ge l old
  obtain ⟨i, e⟩ : ∃ i : Nat, Lib.index l old = i := ⟨(Lib.index l old).toNat, by omega⟩
  have e2 : Lib.index (b :: l) old = ((i + 1 : Nat) : Int) := by rw [hi, e, if_neg (by simp)]; rfl
  rw [Lib.count_hit h0 e, Lib.count_hit h0 e2]
  congr 2
  rw [show i + 1 + old.length = (i + old.length) + 1 by omega, List.drop_succ_cons]
theorem rep_no (b : UInt8) (l : List UInt8) (h : old.isPrefixOf (b :: l) = false) : ∀ k, Lib.replaceK old new k (b :: l) = b :: Lib.replaceK old new k l
 | 0 => rfl
 | k + 1 => by
  have hi := index_no old b l h
  by_cases hm : Lib.index l old = -1
  ·rw [Lib.replaceK, Lib.replaceK, hi, hm]; simp
  ·have hge := Lib.index_ge l old
   obtain ⟨i, e⟩ : ∃ i : Nat, Lib.index l old = i := ⟨(Lib.index l old).toNat, by omega⟩
   have e2 : Lib.index (b :: l) old = ((i + 1 : Nat) : Int) := by rw [hi, e, if_neg (by simp)]; rfl
   rw [Lib.replaceK_hit _ _ _ _ _ e, Lib.replaceK_hit _ _ _ _ _ e2, show i + 1 + old.length = (i + old.length) + 1 by omega, List.drop_succ_cons]
   simp
theorem rep_yes (b : UInt8) (l : List UInt8) (h0 : old ≠ []) (h : old.isPrefixOf (b :: l) = true) :
  Lib.replaceK old new (Lib.count (b :: l) old) (b :: l) = new ++ Lib.replaceK old new (Lib.count ((b :: l).drop old.length) old) ((b :: l).drop old.length) := by
 have e := index_yes old b l h
 rw [Lib.count_hit h0 e, Nat.add_comm, Lib.replaceK_hit _ _ _ _ _ e]
 simp
theorem rep_nil (h0 : old ≠ []) : Lib.replaceK old new (Lib.count [] old) [] = [] := by
 rw [Lib.count_miss (by cases old <;> simp_all [Lib.index])]; rfl
theorem replaceAll_eq (s : List UInt8) (h : (old == new) = false) : Lib.replaceAll s old new = Lib.replaceK old new (Lib.count s old) s := by
 unfold Lib.replaceAll Lib.replace Lib.replaceNum
 rw [h, if_pos (Or.inl (by decide))]; rfl
end
def quoteS : List UInt8 → List UInt8
 | [] => []
 | c :: r => if c = 39 then 39 :: 39 :: quoteS r else c :: quoteS r
theorem replace_quote (s : List UInt8) : Lib.replaceAll s [39] [39, 39] = quoteS s := by
 rw [replaceAll_eq _ _ _ (by decide)]
 induction s with
 | nil => exact rep_nil _ _ (by simp)
 | cons c r ih =>
  by_cases h : c = 39
  ·subst h
   rw [rep_yes _ _ _ _ (by simp) (by simp [List.isPrefixOf])]
   simp only [List.length_cons, List.length_nil, List.drop_succ_cons, List.drop_zero, Nat.zero_add]
   rw [ih]; simp [quoteS]
  ·have hp : ([39] : List UInt8).isPrefixOf (c :: r) = false := by simp [List.isPrefixOf]; exact fun e => h e.symm
   rw [count_no _ _ _ (by simp) hp, rep_no _ _ _ _ hp, ih]; simp [quoteS, h]
def unquoteS : List UInt8 → List UInt8
 | [] => []
 | [c] => [c]
 | c :: d :: r => if c = 39 ∧ d = 39 then 39 :: unquoteS r else c :: unquoteS (d :: r)
theorem replace_unquote : ∀ (n : Nat) (s : List UInt8), s.length ≤ n → Lib.replaceAll s [39, 39] [39] = unquoteS s := by
 intro n
 induction n with
 | zero =>
  intro s hs
  rw [replaceAll_eq _ _ _ (by decide)]
  obtain rfl : s = [] := List.eq_nil_of_length_eq_zero (by omega)
  exact rep_nil _ _ (by simp)
 | succ n ih =>
  intro s hs
  match s, hs with
  | [], _ => rw [replaceAll_eq _ _ _ (by decide)]; exact rep_nil _ _ (by simp)
  | [c], _ =>
   have hp : ([39, 39] : List UInt8).isPrefixOf [c] = false := by simp [List.isPrefixOf]
   rw [replaceAll_eq _ _ _ (by decide), count_no _ _ _ (by simp) hp, rep_no _ _ _ _ hp, rep_nil _ _ (by simp)]; rfl
  | c :: d :: r, hs =>
   by_cases h : c = 39 ∧ d = 39
   ·obtain ⟨rfl, rfl⟩ := h
    have e := ih r (by simp at hs; omega)
    rw [replaceAll_eq _ _ _ (by decide)] at e ⊢
    rw [rep_yes _ _ _ _ (by simp) (by simp [List.isPrefixOf])]
    simp only [List.length_cons, List.length_nil, List.drop_succ_cons, List.drop_zero, Nat.zero_add]
    rw [e]; simp [unquoteS]
   ·have hp : ([39, 39] : List UInt8).isPrefixOf (c :: d :: r) = false := by
     simp [List.isPrefixOf]; intro e1 e2; exact h ⟨e1.symm, e2.symm⟩
    have e := ih (d :: r) (by simp at hs ⊢; omega)
    rw [replaceAll_eq _ _ _ (by decide)] at e ⊢
    rw [count_no _ _ _ (by simp) hp, rep_no _ _ _ _ hp, e]; simp [unquoteS, h]
theorem quoteS_len (s : List UInt8) : (quoteS s).length ≤ 2 * s.length := by
 induction s with
 | nil => simp [quoteS]
 | cons c r ih => unfold quoteS; split <;> simp <;> omega
theorem unquote_quote (s : List UInt8) : unquoteS (quoteS s) = s := by
 induction s with
 | nil => rfl
 | cons c r ih =>
  by_cases h : c = 39
  ·subst h; simp [quoteS, unquoteS, ih]
  ·have : quoteS (c :: r) = c :: quoteS r := by simp [quoteS, h]
   rw [this]
   cases hq : quoteS r with
   | nil => rw [hq] at ih; simp [unquoteS] at ih ⊢; exact ih
   | cons d t => rw [hq] at ih; rw [unquoteS, if_neg (by simp [h]), ih]
end Go.Proofs.YtchilcchogcibaaGreatDoor
namespace Go.Proofs
open Go.Shelf
def Tryz.laysM173_ren : Go.Shelf.Ren := ⟨fun | 173 => 152 | 246 => 201 | 283 => 224 | 284 => 225 | 285 => 226 | 286 => 227 | 129 => 237 | 317 => 236 | 318 => 238 | 319 => 239 | 320 => 240 | 337 => 251 | 338 => 252 | n => n, fun | 2 => 2 | 3 => 3 | 9 => 9 | 4 => 4 | 171 => 227 | 0 => 0 | 53 => 228 | 37 => 163 | 5 => 5 | 173 => 231 | 212 => 251 | 51 => 245 | 20 => 20 | 213 => 252 | 46 => 241 | 232 => 268 | 233 => 269 | n => n, fun | 17 => 5 | 18 => 6 | 19 => 7 | n => n⟩
theorem Tryz.laysM173 : Go.Proofs.LaysM.n173 Tryz.prog Tryz.laysM173_ren := {
 mixed := by kernel_rfl
 f129 := Tryz.func237.trans (congrArg some (by kernel_rfl))
 f173 := Tryz.func152.trans (congrArg some (by kernel_rfl))
 f246 := Tryz.func201.trans (congrArg some (by kernel_rfl))
 f283 := Tryz.func224.trans (congrArg some (by kernel_rfl))
 f284 := Tryz.func225.trans (congrArg some (by kernel_rfl))
 f285 := Tryz.func226.trans (congrArg some (by kernel_rfl))
 f286 := Tryz.func227.trans (congrArg some (by kernel_rfl))
 f317 := Tryz.func236.trans (congrArg some (by kernel_rfl))
 f318 := Tryz.func238.trans (congrArg some (by kernel_rfl))
 f319 := Tryz.func239.trans (congrArg some (by kernel_rfl))
 f320 := Tryz.func240.trans (congrArg some (by kernel_rfl))
 f337 := Tryz.func251.trans (congrArg some (by kernel_rfl))
 f338 := Tryz.func252.trans (congrArg some (by kernel_rfl))
 t0 := Tryz.underlying0
 a0 := Tryz.isAgg0
 z0 := Tryz.sizeOf0
 v0 := Tryz.zeroValue0
 t2 := Tryz.underlying2
 a2 := Tryz.isAgg2
 z2 := Tryz.sizeOf2
 v2 := Tryz.zeroValue2
 t3 := Tryz.underlying3
 a3 := Tryz.isAgg3
 z3 := Tryz.sizeOf3
 v3 := Tryz.zeroValue3
 t4 := Tryz.underlying4
 a4 := Tryz.isAgg4
 z4 := Tryz.sizeOf4
 v4 := Tryz.zeroValue4
 t5 := Tryz.underlying5
 a5 := Tryz.isAgg5
 z5 := Tryz.sizeOf5
 v5 := Tryz.zeroValue5
 t9 := Tryz.underlying9
 a9 := Tryz.isAgg9
 z9 := Tryz.sizeOf9
 v9 := Tryz.zeroValue9
 t20 := Tryz.underlying20
 a20 := Tryz.isAgg20
 z20 := Tryz.sizeOf20
 v20 := Tryz.zeroValue20
 t37 := Tryz.underlying163
 a37 := Tryz.isAgg163
 z37 := Tryz.sizeOf163
 v37 := Tryz.zeroValue163
 t46 := Tryz.underlying241
 a46 := Tryz.isAgg241
 z46 := Tryz.sizeOf241
 v46 := Tryz.zeroValue241
 t51 := Tryz.underlying245
 a51 := Tryz.isAgg245
 z51 := Tryz.sizeOf245
 v51 := Tryz.zeroValue245
 t53 := Tryz.underlying228
 a53 := Tryz.isAgg228
 z53 := Tryz.sizeOf228
 v53 := Tryz.zeroValue228
 t171 := Tryz.underlying227
 a171 := Tryz.isAgg227
 z171 := Tryz.sizeOf227
 v171 := Tryz.zeroValue227
 t173 := Tryz.underlying231
 a173 := Tryz.isAgg231
 z173 := Tryz.sizeOf231
 v173 := Tryz.zeroValue231
 t212 := Tryz.underlying251
 a212 := Tryz.isAgg251
 z212 := Tryz.sizeOf251
 v212 := Tryz.zeroValue251
 t213 := Tryz.underlying252
 a213 := Tryz.isAgg252
 z213 := Tryz.sizeOf252
 t232 := Tryz.underlying268
 a232 := Tryz.isAgg268
 z232 := Tryz.sizeOf268
 v232 := Tryz.zeroValue268
 t233 := Tryz.underlying269
 a233 := Tryz.isAgg269
 z233 := Tryz.sizeOf269
 v233 := Tryz.zeroValue269
 g17 := by kernel_rfl
 g18 := by kernel_rfl
 g19 := by kernel_rfl
 i0 := by kernel_rfl
 i2 := by kernel_rfl
 i3 := by kernel_rfl
 i4 := by kernel_rfl
 i5 := by kernel_rfl
 i9 := by kernel_rfl
 i20 := by kernel_rfl
 i37 := by kernel_rfl
 i46 := by kernel_rfl
 i51 := by kernel_rfl
 i53 := by kernel_rfl
 i171 := by kernel_rfl
 i173 := by kernel_rfl
 i212 := by kernel_rfl
 i232 := by kernel_rfl
 i233 := by kernel_rfl
 m17 := by kernel_rfl
 m18 := by kernel_rfl
 m19 := by kernel_rfl }
open Go.RowKit Go.Sort Go.Lib in
theorem Tryz.strconv_FormatInt_10 (n : Int) (h0 : -9223372036854775808 ≤ n) (h1 : n ≤ 9223372036854775807) (w : World) (htab : Lib.TabIs Tryz.prog w "internal/strconv.uint64pow10" .u64 Lib.pow10Tab) :
  Calls Tryz.prog 152 #[.int .i64 n, .int .i64 10] w fun e w' => e = .returned (.string ⟨(Lib.itoa n).toArray⟩) ∧ ∃ k os, w' = grow (w.drewN k) os := Any.strconv_FormatInt_10 Tryz.laysM173 n h0 h1 w htab
def Tryz.lays155_ren : Go.Shelf.Ren := ⟨fun | 155 => 153 | 154 => 202 | 138 => 228 | 165 => 143 | 143 => 207 | 166 => 144 | 197 => 196 | 169 => 146 | 195 => 241 | 218 => 242 | 240 => 194 | 241 => 195 | 219 => 229 | 260 => 221 | 276 => 219 | 277 => 220 | 217 => 243 | 225 => 244 | 224 => 245 | 267 => 246 | 266 => 253 | 314 => 254 | n => n, fun | 9 => 9 | 3 => 3 | 4 => 4 | 72 => 165 | 0 => 0 | 76 => 169 | 105 => 205 | 21 => 21 | 5 => 5 | 70 => 162 | 20 => 20 | 37 => 163 | 75 => 168 | 127 => 204 | 164 => 219 | 46 => 241 | 119 => 240 | 139 => 244 | 138 => 243 | 146 => 265 | 51 => 245 | 80 => 145 | n => n, fun | 1 => 1 | 3 => 3 | 4 => 4 | n => n⟩
theorem Tryz.lays155 : Go.Proofs.Lays.n155 Tryz.prog Tryz.lays155_ren := {
 mixed := by kernel_rfl
 f138 := Tryz.func228.trans (congrArg some (by kernel_rfl))
 f143 := Tryz.func207.trans (congrArg some (by kernel_rfl))
 f154 := Tryz.func202.trans (congrArg some (by kernel_rfl))
 f155 := Tryz.func153.trans (congrArg some (by kernel_rfl))
 f165 := Tryz.func143.trans (congrArg some (by kernel_rfl))
 f166 := Tryz.func144.trans (congrArg some (by kernel_rfl))
 f169 := Tryz.func146.trans (congrArg some (by kernel_rfl))
 f195 := Tryz.func241.trans (congrArg some (by kernel_rfl))
 f197 := Tryz.func196.trans (congrArg some (by kernel_rfl))
 f217 := Tryz.func243.trans (congrArg some (by kernel_rfl))
 f218 := Tryz.func242.trans (congrArg some (by kernel_rfl))
 f219 := Tryz.func229.trans (congrArg some (by kernel_rfl))
 f224 := Tryz.func245.trans (congrArg some (by kernel_rfl))
 f225 := Tryz.func244.trans (congrArg some (by kernel_rfl))
 f240 := Tryz.func194.trans (congrArg some (by kernel_rfl))
 f241 := Tryz.func195.trans (congrArg some (by kernel_rfl))
 f260 := Tryz.func221.trans (congrArg some (by kernel_rfl))
 f266 := Tryz.func253.trans (congrArg some (by kernel_rfl))
 f267 := Tryz.func246.trans (congrArg some (by kernel_rfl))
 f276 := Tryz.func219.trans (congrArg some (by kernel_rfl))
 f277 := Tryz.func220.trans (congrArg some (by kernel_rfl))
 f314 := Tryz.func254.trans (congrArg some (by kernel_rfl))
 t0 := Tryz.underlying0
 a0 := Tryz.isAgg0
 z0 := Tryz.sizeOf0
 v0 := Tryz.zeroValue0
 t3 := Tryz.underlying3
 a3 := Tryz.isAgg3
 z3 := Tryz.sizeOf3
 v3 := Tryz.zeroValue3
 t4 := Tryz.underlying4
 a4 := Tryz.isAgg4
 z4 := Tryz.sizeOf4
 v4 := Tryz.zeroValue4
 t5 := Tryz.underlying5
 a5 := Tryz.isAgg5
 z5 := Tryz.sizeOf5
 v5 := Tryz.zeroValue5
 t9 := Tryz.underlying9
 a9 := Tryz.isAgg9
 z9 := Tryz.sizeOf9
 v9 := Tryz.zeroValue9
 t20 := Tryz.underlying20
 a20 := Tryz.isAgg20
 z20 := Tryz.sizeOf20
 v20 := Tryz.zeroValue20
 t21 := Tryz.underlying21
 a21 := Tryz.isAgg21
 z21 := Tryz.sizeOf21
 v21 := Tryz.zeroValue21
 t37 := Tryz.underlying163
 a37 := Tryz.isAgg163
 z37 := Tryz.sizeOf163
 v37 := Tryz.zeroValue163
 t46 := Tryz.underlying241
 a46 := Tryz.isAgg241
 z46 := Tryz.sizeOf241
 v46 := Tryz.zeroValue241
 t51 := Tryz.underlying245
 a51 := Tryz.isAgg245
 z51 := Tryz.sizeOf245
 v51 := Tryz.zeroValue245
 t70 := Tryz.underlying162
 a70 := Tryz.isAgg162
 z70 := Tryz.sizeOf162
 v70 := Tryz.zeroValue162
 t72 := Tryz.underlying165
 a72 := Tryz.isAgg165
 z72 := Tryz.sizeOf165
 v72 := Tryz.zeroValue165
 t75 := Tryz.underlying168
 a75 := Tryz.isAgg168
 z75 := Tryz.sizeOf168
 v75 := Tryz.zeroValue168
 t76 := Tryz.underlying169
 a76 := Tryz.isAgg169
 z76 := Tryz.sizeOf169
 v76 := Tryz.zeroValue169
 t105 := Tryz.underlying205
 a105 := Tryz.isAgg205
 z105 := Tryz.sizeOf205
 v105 := Tryz.zeroValue205
 t119 := Tryz.underlying240
 a119 := Tryz.isAgg240
 z119 := Tryz.sizeOf240
 t127 := Tryz.underlying204
 a127 := Tryz.isAgg204
 z127 := Tryz.sizeOf204
 v127 := Tryz.zeroValue204
 t138 := Tryz.underlying243
 a138 := Tryz.isAgg243
 z138 := Tryz.sizeOf243
 v138 := Tryz.zeroValue243
 t139 := Tryz.underlying244
 a139 := Tryz.isAgg244
 z139 := Tryz.sizeOf244
 v139 := Tryz.zeroValue244
 t146 := Tryz.underlying265
 a146 := Tryz.isAgg265
 z146 := Tryz.sizeOf265
 v146 := Tryz.zeroValue265
 t164 := Tryz.underlying219
 a164 := Tryz.isAgg219
 z164 := Tryz.sizeOf219
 v164 := Tryz.zeroValue219
 g1 := by kernel_rfl
 g3 := by kernel_rfl
 g4 := by kernel_rfl }
theorem Tryz.Builder_Extra_155 : Builder.Extra Tryz.prog Tryz.lays155_ren := {
 sizeBuilder := by kernel_rfl
 liesBuilder := by kernel_rfl
 t5 := Tryz.underlying5
 a5 := Tryz.isAgg5
 z5 := Tryz.sizeOf5
 v5 := Tryz.zeroValue5
 infoByte := by kernel_rfl
 cellsByte := by kernel_rfl
 sizeByte := by kernel_rfl
 neB5 := by decide }
open Go.RowKit Go.Lib in
theorem Tryz.strings_ReplaceAll (s old new : ByteArray) (m : Int) (w : World) (hs : s.size < 4294967281) (hm : w.cell? ⟨1, 0, none⟩ = some (.int .i64 m)) (h1 : 1 ≤ old.size) (hlen : s.size + Lib.countB s old * new.size ≤ 140737488355328) :
  Calls Tryz.prog 153 #[.string s, .string old, .string new] w fun e w' =>
   e = .returned (.string ⟨(Lib.replaceAll s.data.toList old.data.toList new.data.toList).toArray⟩) ∧ Below w.heap.size w w' := Any.strings_ReplaceAll Tryz.lays155 Tryz.Builder_Extra_155 s old new m w hs hm h1 hlen
end Go.Proofs
namespace Go.Proofs.YtchilcchogcibaaGreatDoor
open Go.RowKit
attribute [local go_sem] ByteArray.extract_mk ba_get ba_append
attribute [local go_sem ↓] Go.wp_at_zero Go.wp_at_succ
def MaxL (w : World) : Prop := ∃ m : Int, w.cell? ⟨1, 0, none⟩ = some (.int .i64 m)
theorem MaxL.below {B : Nat} {w w' : World} (h : MaxL w) (hb : Below B w w') (hB : B = w.heap.size) : MaxL w' := by
 obtain ⟨m, hm⟩ := h
 exact ⟨m, (hb.cell (by rw [hB]; exact Blk_lt_of_cell hm)).trans hm⟩
def Tab10 (w : World) : Prop := Lib.TabIs Tryz.prog w "internal/strconv.uint64pow10" .u64 Lib.pow10Tab
theorem var_below {P : Program} {B : Nat} {w w' : World} {n : String} {cs : Array Value} (h : w.var? P n = some cs) (hb : Below B w w') (hB : B = w.heap.size) : w'.var? P n = some cs := by
 unfold World.var? at h ⊢
 cases hg : P.globalNamed n with
 | none => rw [hg] at h; cases h
 | some g =>
  rw [hg] at h
  simp only [Option.bind_some] at h ⊢
  have hlt : g < w.heap.size := by
   rcases Nat.lt_or_ge g w.heap.size with hlt | hge
   ·exact hlt
   ·rw [Array.getElem?_eq_none hge] at h; cases h
  rw [hb.block g (by rw [hB]; exact hlt)]
  exact h
theorem Tab10.below {B : Nat} {w w' : World} (h : Tab10 w) (hb : Below B w w') (hB : B = w.heap.size) : Tab10 w' := var_below h hb hB
theorem below_growDrew (w : World) (k : Nat) (os : Array Obj) : Below w.heap.size w (Sort.grow (w.drewN k) os) := by
 refine ⟨rfl, rfl, rfl, ?_, fun b hb => ?_⟩
 ·show w.heap.size ≤ (w.heap ++ os).size
  rw [Array.size_append]; omega
 ·show (w.heap ++ os)[b]? = w.heap[b]?
  rw [Array.getElem?_append_left hb]
def textF (k i : Int) (s : List UInt8) : List UInt8 :=
 if mayB k i s then
  (if k = 1 then Lib.itoa i else if k = 2 then [39] ++ quoteS s ++ [39] else if k = 3 then (if i = 1 then [84, 82, 85, 69] else [70, 65, 76, 83, 69]) else [78, 85, 76, 76])
 else []
theorem may2 {i : Int} {s : List UInt8} (h : mayB 2 i s = true) : i = 0 ∧ s.length ≤ 40 ∧ s.any oddByte = false := by
 simp [mayB] at h
 refine ⟨h.1.1, h.1.2, ?_⟩
 simpa using h.2
theorem text2_any (i : Int) (s : List UInt8) (w : World) (hM : MaxL w) :
  Calls Tryz.prog 88 #[.agg #[.int .i64 2, .int .i64 i, .string ⟨s.toArray⟩]] w (Ret (.string ⟨(textF 2 i s).toArray⟩) w) := by
 cases hm : mayB 2 i s
 ·have e : textF 2 i s = [] := by unfold textF; rw [hm]; rfl
  rw [e]
  have HM := Lib.hid hm
  clear hm e
  go_in
  go_wp2_with fail
  refine (may_any _ _ _ _).mono ?_
  rintro e w0 ⟨rfl, hb0⟩
  rw [HM.out]
  go_wp2
  go_ret
  exact ⟨rfl, by exact bl⟩
 ·have e : textF 2 i s = [39] ++ Lib.replaceAll s [39] [39, 39] ++ [39] := by unfold textF; rw [hm, replace_quote]; rfl
  have HS : Hid (s.length ≤ 40) := (may2 hm).2.1
  have HQ := Lib.hid (quoteS_len s)
  have HR := Lib.hid (replace_quote s)
  rw [e]
  have HM := Lib.hid hm
  clear hm e
  have M1 : MaxL (w.alloc (.cells #[.int .i64 2, .int .i64 i, .string ⟨s.toArray⟩] 27)) := hM.below ((Below.refl _ _).alloc (Nat.le_refl _) _) rfl
  go_in
  go_wp2_with fail
  refine (may_any _ _ _ _).mono ?_
  rintro e w0 ⟨rfl, hb0⟩
  rw [HM.out]
  have M2 := M1.below hb0 rfl
  have hz0 := hb0.size
  obtain ⟨hc0, hf0⟩ := bcell hb0
  simp at hz0 hc0 hf0
  obtain ⟨m, hm⟩ := M2
  have Hm := Lib.hid hm
  clear hm M1
  go_wp2_with fail
  refine (Tryz.strings_ReplaceAll ⟨s.toArray⟩ ⟨#[39]⟩ ⟨#[39, 39]⟩ m _ (by show s.length < _; have := HS.out; omega) Hm.out (by decide) ?_).mono ?_
  ·have h1 := Lib.countB_le ⟨#[39]⟩ (by decide) s.length ⟨s.toArray⟩ (Nat.le_refl _)
   have h2 : (⟨s.toArray⟩ : ByteArray).size = s.length := rfl
   have h3 : (⟨#[39, 39]⟩ : ByteArray).size = 2 := rfl
   have := HS.out
   rw [h2] at h1 ⊢
   rw [h3]
   omega
  rintro e w1 ⟨rfl, hb1⟩
  simp only
  obtain ⟨R, hR⟩ : ∃ R, Lib.replaceAll s [39] [39, 39] = R := ⟨_, rfl⟩
  have hRl : R.length ≤ 80 := by rw [← hR, HR.out]; have := HQ.out; have := HS.out; omega
  rw [hR]
  have HRR := Lib.hid hR
  clear hR
  go_wp2
  go_ret
  exact ⟨by rw [HRR.out]; rfl, by exact bl⟩
theorem text_odd (k i : Int) (s : List UInt8) (w : World) (hm : mayB k i s = false) :
  Calls Tryz.prog 88 #[.agg #[.int .i64 k, .int .i64 i, .string ⟨s.toArray⟩]] w (Ret (.string ⟨#[]⟩) w) := by
 have HM := Lib.hid hm
 clear hm
 go_in
 go_wp2_with fail
 refine (may_any _ _ _ _).mono ?_
 rintro e w0 ⟨rfl, hb0⟩
 rw [HM.out]
 go_wp2
 go_ret
 exact ⟨rfl, by exact bl⟩
theorem text0_any (w : World) :
  Calls Tryz.prog 88 #[.agg #[.int .i64 0, .int .i64 0, .string ⟨#[]⟩]] w (Ret (.string ⟨#[78, 85, 76, 76]⟩) w) := by
 have HM : Hid (mayB 0 0 [] = true) := by show _ = _; rfl
 go_in
 go_wp2_with fail
 refine (may_any 0 0 [] _).mono ?_
 rintro e w0 ⟨rfl, hb0⟩
 rw [HM.out]
 have hz0 := hb0.size
 obtain ⟨hc0, hf0⟩ := bcell hb0
 simp at hz0 hc0 hf0
 go_wp2
 go_ret
 exact ⟨rfl, by exact bl⟩
theorem text1_any (i : Int) (w : World) (h1 : -9223372036854775808 ≤ i) (h2 : i ≤ 9223372036854775807) (hT : Tab10 w) :
  Calls Tryz.prog 88 #[.agg #[.int .i64 1, .int .i64 i, .string ⟨#[]⟩]] w (Ret (.string ⟨(Lib.itoa i).toArray⟩) w) := by
 have HM : Hid (mayB 1 i [] = true) := by show _ = _; simp [mayB]
 have T1 : Tab10 (w.alloc (.cells #[.int .i64 1, .int .i64 i, .string ⟨#[]⟩] 27)) := hT.below ((Below.refl _ _).alloc (Nat.le_refl _) _) rfl
 go_in
 go_wp2_with fail
 refine (may_any 1 i [] _).mono ?_
 rintro e w0 ⟨rfl, hb0⟩
 rw [HM.out]
 have T2 := T1.below hb0 rfl
 have hz0 := hb0.size
 obtain ⟨hc0, hf0⟩ := bcell hb0
 simp at hz0 hc0 hf0
 clear T1 hT
 go_wp2_with fail
 refine (Tryz.strconv_FormatInt_10 i h1 h2 _ T2).mono ?_
 rintro e w1 ⟨rfl, kk, os, rfl⟩
 have hb1 := below_growDrew w0 kk os
 generalize Sort.grow (w0.drewN kk) os = w1 at *
 go_wp2
 go_ret
 exact ⟨rfl, by exact bl⟩
theorem text3_any (b : Bool) (w : World) :
  Calls Tryz.prog 88 #[.agg #[.int .i64 3, .int .i64 (if b then 1 else 0), .string ⟨#[]⟩]] w (Ret (.string ⟨(if b then [84, 82, 85, 69] else [70, 65, 76, 83, 69] : List UInt8).toArray⟩) w) := by
 cases b
 ·have HM : Hid (mayB 3 0 [] = true) := by show _ = _; rfl
  have HN : Hid (saysF 3 0 [] = 1) := by show _ = _; rfl
  go_in
  go_wp2_with fail
  refine (may_any 3 0 [] _).mono ?_
  rintro e w0 ⟨rfl, hb0⟩
  rw [HM.out]
  have hz0 := hb0.size
  obtain ⟨hc0, hf0⟩ := bcell hb0
  simp at hz0 hc0 hf0
  go_wp2_with fail
  refine (says_any 3 0 [] _).mono ?_
  rintro e w1 ⟨rfl, hb1⟩
  rw [HN.out]
  go_wp2
  go_ret
  exact ⟨rfl, by exact bl⟩
 ·have HM : Hid (mayB 3 1 [] = true) := by show _ = _; rfl
  have HN : Hid (saysF 3 1 [] = 2) := by show _ = _; rfl
  go_in
  go_wp2_with fail
  refine (may_any 3 1 [] _).mono ?_
  rintro e w0 ⟨rfl, hb0⟩
  rw [HM.out]
  have hz0 := hb0.size
  obtain ⟨hc0, hf0⟩ := bcell hb0
  simp at hz0 hc0 hf0
  go_wp2_with fail
  refine (says_any 3 1 [] _).mono ?_
  rintro e w1 ⟨rfl, hb1⟩
  rw [HN.out]
  go_wp2
  go_ret
  exact ⟨rfl, by exact bl⟩
theorem may_kinds {k i : Int} {s : List UInt8} (h : mayB k i s = true) : (k = 0 ∧ i = 0 ∧ s = []) ∨ (k = 1 ∧ s = []) ∨ (k = 2 ∧ i = 0 ∧ s.length ≤ 40 ∧ s.any oddByte = false) ∨ (k = 3 ∧ (i = 0 ∨ i = 1) ∧ s = []) := by
 unfold mayB at h
 split at h
 ·simp at h; exact .inl ⟨‹_›, h.1, h.2⟩
 ·split at h
  ·simp at h; exact .inr (.inl ⟨‹_›, h⟩)
  ·split at h
   ·subst k
    exact .inr (.inr (.inl ⟨rfl, by simp at h; exact h.1.1, by simp at h; exact h.1.2, by simp at h; simpa using h.2⟩))
   ·split at h
    ·simp at h; exact .inr (.inr (.inr ⟨‹_›, h⟩))
    ·cases h
theorem text_any (k i : Int) (s : List UInt8) (w : World) (h1 : -9223372036854775808 ≤ i) (h2 : i ≤ 9223372036854775807) (hM : MaxL w) (hT : Tab10 w) :
  Calls Tryz.prog 88 #[.agg #[.int .i64 k, .int .i64 i, .string ⟨s.toArray⟩]] w (Ret (.string ⟨(textF k i s).toArray⟩) w) := by
 cases hm : mayB k i s
 ·have e : textF k i s = [] := by unfold textF; rw [hm]; rfl
  rw [e]
  exact text_odd k i s w hm
 ·rcases may_kinds hm with ⟨rfl, rfl, rfl⟩ | ⟨rfl, rfl⟩ | ⟨rfl, _⟩ | ⟨rfl, hi, rfl⟩
  ·exact text0_any w
  ·have e : textF 1 i [] = Lib.itoa i := by unfold textF; rw [hm]; rfl
   rw [e]
   exact text1_any i w h1 h2 hT
  ·exact text2_any i s w hM
  ·rcases hi with rfl | rfl
   ·exact text3_any false w
   ·exact text3_any true w
end Go.Proofs.YtchilcchogcibaaGreatDoor
