/- Contracts of the library at this dump, as the kit's tool writes them in plain words (lay-plain): those alone that my texts use. Condition: each states its own. -/
import Derived.Shelf.LaysM
import Derived.Shelf.LaysC
import Derived.Shelf.Strings.Search3
import Derived.Test.YtdnkkkgneikhkaaGreatDoorProg
namespace Go.Proofs
open Go.Shelf
def Tryz.lays144_ren : Go.Shelf.Ren := ⟨fun | 144 => 140 | 143 => 192 | 219 => 214 | 217 => 226 | 225 => 227 | 224 => 228 | 267 => 229 | 266 => 234 | 314 => 235 | n => n, fun | 9 => 9 | 4 => 4 | 3 => 3 | 5 => 5 | 46 => 209 | 146 => 232 | 51 => 213 | n => n, fun | 1 => 2 | n => n⟩
theorem Tryz.lays144 : Go.Proofs.Lays.n144 Tryz.prog Tryz.lays144_ren := {
  mixed := by kernel_rfl
  f143 := Tryz.func192.trans (congrArg some (by kernel_rfl))
  f144 := Tryz.func140.trans (congrArg some (by kernel_rfl))
  f217 := Tryz.func226.trans (congrArg some (by kernel_rfl))
  f219 := Tryz.func214.trans (congrArg some (by kernel_rfl))
  f224 := Tryz.func228.trans (congrArg some (by kernel_rfl))
  f225 := Tryz.func227.trans (congrArg some (by kernel_rfl))
  f266 := Tryz.func234.trans (congrArg some (by kernel_rfl))
  f267 := Tryz.func229.trans (congrArg some (by kernel_rfl))
  f314 := Tryz.func235.trans (congrArg some (by kernel_rfl))
  t3 := Tryz.underlying3
  a3 := Tryz.isAgg3
  z3 := Tryz.sizeOf3
  v3 := Tryz.zeroValue3
  t4 := Tryz.underlying4
  a4 := Tryz.isAgg4
  z4 := Tryz.sizeOf4
  v4 := Tryz.zeroValue4
  t5 := Tryz.underlying5
  a5 := Tryz.isAgg5
  z5 := Tryz.sizeOf5
  v5 := Tryz.zeroValue5
  t9 := Tryz.underlying9
  a9 := Tryz.isAgg9
  z9 := Tryz.sizeOf9
  v9 := Tryz.zeroValue9
  t46 := Tryz.underlying209
  a46 := Tryz.isAgg209
  z46 := Tryz.sizeOf209
  v46 := Tryz.zeroValue209
  t51 := Tryz.underlying213
  a51 := Tryz.isAgg213
  z51 := Tryz.sizeOf213
  v51 := Tryz.zeroValue213
  t146 := Tryz.underlying232
  a146 := Tryz.isAgg232
  z146 := Tryz.sizeOf232
  v146 := Tryz.zeroValue232
  g1 := by kernel_rfl }
open Go.RowKit Go.Lib in
theorem Tryz.strings_Contains_one (s : ByteArray) (c : UInt8) (w : World) :
    Calls Tryz.prog 140 #[.string s, .string ⟨#[c]⟩] w fun e w' => e = .returned (.bool (decide (0 ≤ Lib.indexByte s.data.toList c))) ∧ w' = w := Any.strings_Contains_one Tryz.lays144 s c w
end Go.Proofs
