/- Contracts of the library at this dump, as the kit's tool writes them in plain words (lay-plain): those alone that my texts use. Condition: each states its own. -/
import Derived.Shelf.Strings.Search3
import Derived.Shelf.LaysM
import Derived.Test.YtdhjogmkhbpcgaaProg
namespace Go.Proofs
open Go.Shelf
def Try.lays144_ren : Go.Shelf.Ren := ⟨fun | 144 => 80 | 143 => 83 | 219 => 87 | 217 => 88 | 225 => 89 | 224 => 90 | 267 => 91 | 266 => 92 | 314 => 93 | n => n, fun | 9 => 9 | 4 => 4 | 3 => 3 | 5 => 5 | 46 => 124 | 146 => 126 | 51 => 125 | n => n, fun | 1 => 0 | n => n⟩
theorem Try.lays144 : Go.Proofs.Lays.n144 Try.prog Try.lays144_ren := {
  mixed := by kernel_rfl
  f143 := Try.func83.trans (congrArg some (by kernel_rfl))
  f144 := Try.func80.trans (congrArg some (by kernel_rfl))
  f217 := Try.func88.trans (congrArg some (by kernel_rfl))
  f219 := Try.func87.trans (congrArg some (by kernel_rfl))
  f224 := Try.func90.trans (congrArg some (by kernel_rfl))
  f225 := Try.func89.trans (congrArg some (by kernel_rfl))
  f266 := Try.func92.trans (congrArg some (by kernel_rfl))
  f267 := Try.func91.trans (congrArg some (by kernel_rfl))
  f314 := Try.func93.trans (congrArg some (by kernel_rfl))
  t3 := Try.underlying3
  a3 := Try.isAgg3
  z3 := Try.sizeOf3
  v3 := Try.zeroValue3
  t4 := Try.underlying4
  a4 := Try.isAgg4
  z4 := Try.sizeOf4
  v4 := Try.zeroValue4
  t5 := Try.underlying5
  a5 := Try.isAgg5
  z5 := Try.sizeOf5
  v5 := Try.zeroValue5
  t9 := Try.underlying9
  a9 := Try.isAgg9
  z9 := Try.sizeOf9
  v9 := Try.zeroValue9
  t46 := Try.underlying124
  a46 := Try.isAgg124
  z46 := Try.sizeOf124
  v46 := Try.zeroValue124
  t51 := Try.underlying125
  a51 := Try.isAgg125
  z51 := Try.sizeOf125
  v51 := Try.zeroValue125
  t146 := Try.underlying126
  a146 := Try.isAgg126
  z146 := Try.sizeOf126
  v146 := Try.zeroValue126
  g1 := by kernel_rfl }
open Go.RowKit Go.Lib in
theorem Try.strings_Contains_one (s : ByteArray) (c : UInt8) (w : World) :
    Calls Try.prog 80 #[.string s, .string ⟨#[c]⟩] w fun e w' => e = .returned (.bool (decide (0 ≤ Lib.indexByte s.data.toList c))) ∧ w' = w := Any.strings_Contains_one Try.lays144 s c w
end Go.Proofs
