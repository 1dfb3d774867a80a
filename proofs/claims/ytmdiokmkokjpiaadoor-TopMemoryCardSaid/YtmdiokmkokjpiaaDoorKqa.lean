/-
  Walks through the functions of the program, by contract.
-/
import Derived.Test.YtmdiokmkokjpiaaDoorChecked
import Derived.Shelf.Strings.Fields
import Derived.Shelf.Strings.Search3
import Derived.Shelf.Small.Strs
set_option linter.all false
set_option linter.unusedVariables false
set_option linter.unusedSimpArgs false
set_option linter.unnecessarySimpa false
namespace Go.Proofs
open Go.Shelf
set_option maxRecDepth 100000
def Tryd.lays157_ren : Ren :=
{
  f := fun x =>
    match x with
    | 157 => 50
    | 229 => 68
    | 199 => 69
    | 261 => 73
    | 311 => 77
    | 312 => 78
    | n => n,
  t := fun x =>
    match x with
    | 9 => 9
    | 31 => 84
    | 3 => 3
    | 5 => 5
    | 4 => 4
    | 119 => 95
    | 0 => 0
    | 40 => 97
    | 152 => 101
    | 21 => 21
    | 154 => 103
    | 51 => 104
    | 141 => 106
    | 196 => 111
    | 193 => 108
    | 198 => 113
    | 49 => 22
    | 194 => 109
    | 201 => 116
    | 226 => 120
    | 46 => 34
    | 227 => 121
    | n => n,
  g := fun x =>
    match x with
    | 0 => 0
    | 6 => 2
    | n => n }
def Tryd.lays144_ren : Ren :=
{
  f := fun x =>
    match x with
    | 144 => 49
    | 143 => 67
    | 219 => 72
    | 217 => 48
    | 225 => 74
    | 224 => 75
    | 267 => 76
    | 266 => 66
    | 314 => 79
    | n => n,
  t := fun x =>
    match x with
    | 9 => 9
    | 4 => 4
    | 3 => 3
    | 5 => 5
    | 46 => 34
    | 146 => 118
    | 51 => 104
    | n => n,
  g := fun x =>
    match x with
    | 1 => 1
    | n => n }
def Tryd.lays137_ren : Ren :=
{
  f := fun x =>
    match x with
    | 137 => 18
    | 217 => 48
    | 266 => 66
    | n => n,
  t := fun x =>
    match x with
    | 9 => 9
    | 5 => 5
    | 3 => 3
    | n => n,
  g := fun x =>
    have n := x;
    n }
theorem Tryd.lays157 : Lays.n157 Tryd.prog Tryd.lays157_ren :=
  {  mixed := by kernel_rfl, f157 := Tryd.func50.trans (congrArg some (by kernel_rfl : Tryd.f50 = Body.n157 Tryd.lays157_ren)), f199 := Tryd.func69.trans (congrArg some (by kernel_rfl : Tryd.f69 = Body.n199 Tryd.lays157_ren)), f229 := Tryd.func68.trans (congrArg some (by kernel_rfl : Tryd.f68 = Body.n229 Tryd.lays157_ren)), f261 := Tryd.func73.trans (congrArg some (by kernel_rfl : Tryd.f73 = Body.n261 Tryd.lays157_ren)), f311 := Tryd.func77.trans (congrArg some (by kernel_rfl : Tryd.f77 = Body.n311 Tryd.lays157_ren)), f312 := Tryd.func78.trans (congrArg some (by kernel_rfl : Tryd.f78 = Body.n312 Tryd.lays157_ren)), t0 := Tryd.underlying0, a0 := Tryd.isAgg0, z0 := Tryd.sizeOf0, v0 := Tryd.zeroValue0, t3 := Tryd.underlying3, a3 := Tryd.isAgg3, z3 := Tryd.sizeOf3, v3 := Tryd.zeroValue3, t4 := Tryd.underlying4, a4 := Tryd.isAgg4, z4 := Tryd.sizeOf4, v4 := Tryd.zeroValue4, t5 := Tryd.underlying5, a5 := Tryd.isAgg5, z5 := Tryd.sizeOf5, v5 := Tryd.zeroValue5, t9 := Tryd.underlying9, a9 := Tryd.isAgg9, z9 := Tryd.sizeOf9, v9 := Tryd.zeroValue9, t21 := Tryd.underlying21, a21 := Tryd.isAgg21, z21 := Tryd.sizeOf21, v21 := Tryd.zeroValue21, t31 := Tryd.underlying84, a31 := Tryd.isAgg84, z31 := Tryd.sizeOf84, v31 := Tryd.zeroValue84, t40 := Tryd.underlying97, a40 := Tryd.isAgg97, z40 := Tryd.sizeOf97, v40 := Tryd.zeroValue97, t46 := Tryd.underlying34, a46 := Tryd.isAgg34, z46 := Tryd.sizeOf34, v46 := Tryd.zeroValue34, t49 := Tryd.underlying22, a49 := Tryd.isAgg22, z49 := Tryd.sizeOf22, v49 := Tryd.zeroValue22, t51 := Tryd.underlying104, a51 := Tryd.isAgg104, z51 := Tryd.sizeOf104, v51 := Tryd.zeroValue104, t119 := Tryd.underlying95, a119 := Tryd.isAgg95, z119 := Tryd.sizeOf95, t141 := Tryd.underlying106, a141 := Tryd.isAgg106, z141 := Tryd.sizeOf106, v141 := Tryd.zeroValue106, t152 := Tryd.underlying101, a152 := Tryd.isAgg101, z152 := Tryd.sizeOf101, v152 := Tryd.zeroValue101, t154 := Tryd.underlying103, a154 := Tryd.isAgg103, z154 := Tryd.sizeOf103, v154 := Tryd.zeroValue103, t193 := Tryd.underlying108, a193 := Tryd.isAgg108, z193 := Tryd.sizeOf108, v193 := Tryd.zeroValue108, t194 := Tryd.underlying109, a194 := Tryd.isAgg109, z194 := Tryd.sizeOf109, v194 := Tryd.zeroValue109, t196 := Tryd.underlying111, a196 := Tryd.isAgg111, z196 := Tryd.sizeOf111, v196 := Tryd.zeroValue111, t198 := Tryd.underlying113, a198 := Tryd.isAgg113, z198 := Tryd.sizeOf113, v198 := Tryd.zeroValue113, t201 := Tryd.underlying116, a201 := Tryd.isAgg116, z201 := Tryd.sizeOf116, v201 := Tryd.zeroValue116, t226 := Tryd.underlying120, a226 := Tryd.isAgg120, z226 := Tryd.sizeOf120, v226 := Tryd.zeroValue120, t227 := Tryd.underlying121, a227 := Tryd.isAgg121, z227 := Tryd.sizeOf121, v227 := Tryd.zeroValue121, g0 := by kernel_rfl, g6 := by kernel_rfl  }
theorem Tryd.lays144 : Lays.n144 Tryd.prog Tryd.lays144_ren :=
  {  mixed := by kernel_rfl, f143 := Tryd.func67.trans (congrArg some (by kernel_rfl : Tryd.f67 = Body.n143 Tryd.lays144_ren)), f144 := Tryd.func49.trans (congrArg some (by kernel_rfl : Tryd.f49 = Body.n144 Tryd.lays144_ren)), f217 := Tryd.func48.trans (congrArg some (by kernel_rfl : Tryd.f48 = Body.n217 Tryd.lays144_ren)), f219 := Tryd.func72.trans (congrArg some (by kernel_rfl : Tryd.f72 = Body.n219 Tryd.lays144_ren)), f224 := Tryd.func75.trans (congrArg some (by kernel_rfl : Tryd.f75 = Body.n224 Tryd.lays144_ren)), f225 := Tryd.func74.trans (congrArg some (by kernel_rfl : Tryd.f74 = Body.n225 Tryd.lays144_ren)), f266 := Tryd.func66.trans (congrArg some (by kernel_rfl : Tryd.f66 = Body.n266 Tryd.lays144_ren)), f267 := Tryd.func76.trans (congrArg some (by kernel_rfl : Tryd.f76 = Body.n267 Tryd.lays144_ren)), f314 := Tryd.func79.trans (congrArg some (by kernel_rfl : Tryd.f79 = Body.n314 Tryd.lays144_ren)), t3 := Tryd.underlying3, a3 := Tryd.isAgg3, z3 := Tryd.sizeOf3, v3 := Tryd.zeroValue3, t4 := Tryd.underlying4, a4 := Tryd.isAgg4, z4 := Tryd.sizeOf4, v4 := Tryd.zeroValue4, t5 := Tryd.underlying5, a5 := Tryd.isAgg5, z5 := Tryd.sizeOf5, v5 := Tryd.zeroValue5, t9 := Tryd.underlying9, a9 := Tryd.isAgg9, z9 := Tryd.sizeOf9, v9 := Tryd.zeroValue9, t46 := Tryd.underlying34, a46 := Tryd.isAgg34, z46 := Tryd.sizeOf34, v46 := Tryd.zeroValue34, t51 := Tryd.underlying104, a51 := Tryd.isAgg104, z51 := Tryd.sizeOf104, v51 := Tryd.zeroValue104, t146 := Tryd.underlying118, a146 := Tryd.isAgg118, z146 := Tryd.sizeOf118, v146 := Tryd.zeroValue118, g1 := by kernel_rfl  }
theorem Tryd.lays137 : Lays.n137 Tryd.prog Tryd.lays137_ren :=
  {  mixed := by kernel_rfl, f137 := Tryd.func18.trans (congrArg some (by kernel_rfl : Tryd.f18 = Body.n137 Tryd.lays137_ren)), f217 := Tryd.func48.trans (congrArg some (by kernel_rfl : Tryd.f48 = Body.n217 Tryd.lays137_ren)), f266 := Tryd.func66.trans (congrArg some (by kernel_rfl : Tryd.f66 = Body.n266 Tryd.lays137_ren)), t3 := Tryd.underlying3, a3 := Tryd.isAgg3, z3 := Tryd.sizeOf3, v3 := Tryd.zeroValue3, t5 := Tryd.underlying5, a5 := Tryd.isAgg5, z5 := Tryd.sizeOf5, v5 := Tryd.zeroValue5, t9 := Tryd.underlying9, a9 := Tryd.isAgg9, z9 := Tryd.sizeOf9, v9 := Tryd.zeroValue9  }
theorem Tryd.hi157 : (Tryd.prog.info? (Tryd.lays157_ren.t 9)).map (fun i => (i.zero, i.size, i.bytes)) = some (some (.string ByteArray.empty), 1, 16) := by kernel_rfl
theorem Tryd.hg157 : Tryd.prog.globalNamed "strings.asciiSpace" = some (Tryd.lays157_ren.g 0) := by kernel_rfl
theorem sp_fields (s : ByteArray) (w : World) (hs : s.size < 4294967281) (hascii : ∀ (j : Nat) (b : UInt8), s.data.toList[j]? = some b → b.toNat < 128) (htab : Lib.TabIs Tryd.prog w "strings.asciiSpace" IntKind.u8 Lib.asciiSpaceTab) :
    Calls Tryd.prog 50 #[.string s] w fun e w' => e = .returned (.slice (some ⟨w.heap.size, 0, none⟩) (Lib.fields s.data.toList).length (Lib.fields s.data.toList).length) ∧ w' = w.alloc (.cells ((Lib.fields s.data.toList).map fun l => Value.string ⟨l.toArray⟩).toArray 9) :=
  Any.strings_Fields Tryd.lays157 Tryd.hi157 Tryd.hg157 s w hs hascii htab
theorem sp_contains (s sub : ByteArray) (m : Int) (w : World) (hs : s.size < 4294967281) (hm : w.cell? ⟨1, 0, none⟩ = some (.int .i64 m)) :
    Calls Tryd.prog 49 #[.string s, .string sub] w fun e w' => e = .returned (.bool (Lib.contains s.data.toList sub.data.toList)) ∧ w' = w :=
  Any.strings_Contains Tryd.lays144 s sub m w hs hm
theorem sp_index (s : ByteArray) (c : Int) (w : World) : Calls Tryd.prog 18 #[.string s, .int .u8 c] w fun e w' => e = .returned (.int .i64 (Lib.indexByte s.data.toList c.toNat.toUInt8)) ∧ w' = w :=
  Any.strings_IndexByte Tryd.lays137 s c w
end Go.Proofs
