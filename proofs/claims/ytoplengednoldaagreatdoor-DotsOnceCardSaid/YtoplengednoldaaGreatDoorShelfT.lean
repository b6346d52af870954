/- The shelf's contracts that this seat's walks take, laid at this dump by the kit's tool. -/
import Derived.Shelf.Strings.Builder1
import Derived.Shelf.Strings.Builder2
import Derived.Shelf.Strings.OnBuilder
import Derived.Shelf.Strings.Trim
import Derived.Shelf.Small.Utf8
import Derived.Shelf.Small.Bits
import Derived.Shelf.Small.Strs
import Derived.Shelf.Small.Wraps
import Derived.Shelf.Utf8.RuneCount
import Derived.Shelf.Strconv.Itoa0
import Derived.Shelf.Strings.Search1
import Derived.Shelf.Strings.Search2
import Derived.Shelf.Strings.Search3
import Derived.Shelf.Strings.Count
import Derived.Shelf.LaysM
import Derived.Shelf.Strings.Shaped
import Derived.Shelf.Strings.LastIndex
import Derived.Shelf.Strings.Prefix
import Derived.Shelf.Strings.Split
import Derived.Shelf.Strings.SplitShaped
import Derived.Shelf.Strings.Runes
import Derived.Shelf.Strings.AsciiSet
import Derived.Shelf.Bits.Mul64
import Derived.Shelf.Unicode.DecodeSlow
import Derived.Shelf.Unicode.DecodeAny
import Derived.Shelf.Unicode.DecodeLast
import Derived.Ground.Names2Prog
import Derived.Shelf.Slices.SearchI
import Derived.Shelf.SlSortCmp.NoneTotal
import Derived.Ground.SlsfProg
import Derived.Test.YtoplengednoldaaGreatDoorProg
namespace Go.Proofs
open Go.Shelf
def Tryz.lays161_ren : Go.Shelf.Ren := ⟨fun | 161 => 94 | 231 => 158 | 227 => 155 | 233 => 159 | 235 => 160 | 228 => 203 | 197 => 206 | 151 => 205 | 260 => 248 | 152 => 247 | 137 => 188 | 119 => 261 | 224 => 225 | 225 => 224 | 217 => 223 | 266 => 253 | n => n, fun | 9 => 9 | 4 => 4 | 3 => 3 | 5 => 5 | 117 => 219 | 116 => 218 | 0 => 0 | 124 => 222 | 105 => 264 | 21 => 21 | 119 => 304 | 46 => 137 | 139 => 307 | 138 => 306 | n => n, fun | 3 => 1 | 4 => 2 | n => n⟩
theorem Tryz.lays161 : Go.Proofs.Lays.n161 Tryz.prog Tryz.lays161_ren := {
  mixed := by kernel_rfl
  f119 := Tryz.func261.trans (congrArg some (by kernel_rfl))
  f137 := Tryz.func188.trans (congrArg some (by kernel_rfl))
  f151 := Tryz.func205.trans (congrArg some (by kernel_rfl))
  f152 := Tryz.func247.trans (congrArg some (by kernel_rfl))
  f161 := Tryz.func94.trans (congrArg some (by kernel_rfl))
  f197 := Tryz.func206.trans (congrArg some (by kernel_rfl))
  f217 := Tryz.func223.trans (congrArg some (by kernel_rfl))
  f224 := Tryz.func225.trans (congrArg some (by kernel_rfl))
  f225 := Tryz.func224.trans (congrArg some (by kernel_rfl))
  f227 := Tryz.func155.trans (congrArg some (by kernel_rfl))
  f228 := Tryz.func203.trans (congrArg some (by kernel_rfl))
  f231 := Tryz.func158.trans (congrArg some (by kernel_rfl))
  f233 := Tryz.func159.trans (congrArg some (by kernel_rfl))
  f235 := Tryz.func160.trans (congrArg some (by kernel_rfl))
  f260 := Tryz.func248.trans (congrArg some (by kernel_rfl))
  f266 := Tryz.func253.trans (congrArg some (by kernel_rfl))
  t0 := Tryz.underlying0
  a0 := Tryz.isAgg0
  z0 := Tryz.sizeOf0
  v0 := Tryz.zeroValue0
  t3 := Tryz.underlying3
  a3 := Tryz.isAgg3
  z3 := Tryz.sizeOf3
  v3 := Tryz.zeroValue3
  t4 := Tryz.underlying4
  a4 := Tryz.isAgg4
  z4 := Tryz.sizeOf4
  v4 := Tryz.zeroValue4
  t5 := Tryz.underlying5
  a5 := Tryz.isAgg5
  z5 := Tryz.sizeOf5
  v5 := Tryz.zeroValue5
  t9 := Tryz.underlying9
  a9 := Tryz.isAgg9
  z9 := Tryz.sizeOf9
  v9 := Tryz.zeroValue9
  t21 := Tryz.underlying21
  a21 := Tryz.isAgg21
  z21 := Tryz.sizeOf21
  v21 := Tryz.zeroValue21
  t46 := Tryz.underlying137
  a46 := Tryz.isAgg137
  z46 := Tryz.sizeOf137
  v46 := Tryz.zeroValue137
  t105 := Tryz.underlying264
  a105 := Tryz.isAgg264
  z105 := Tryz.sizeOf264
  v105 := Tryz.zeroValue264
  t116 := Tryz.underlying218
  a116 := Tryz.isAgg218
  z116 := Tryz.sizeOf218
  t117 := Tryz.underlying219
  a117 := Tryz.isAgg219
  z117 := Tryz.sizeOf219
  v117 := Tryz.zeroValue219
  t119 := Tryz.underlying304
  a119 := Tryz.isAgg304
  z119 := Tryz.sizeOf304
  t124 := Tryz.underlying222
  a124 := Tryz.isAgg222
  z124 := Tryz.sizeOf222
  v124 := Tryz.zeroValue222
  t138 := Tryz.underlying306
  a138 := Tryz.isAgg306
  z138 := Tryz.sizeOf306
  v138 := Tryz.zeroValue306
  t139 := Tryz.underlying307
  a139 := Tryz.isAgg307
  z139 := Tryz.sizeOf307
  v139 := Tryz.zeroValue307
  g3 := by kernel_rfl
  g4 := by kernel_rfl }
theorem Tryz.strings_TrimLeft_one (s : ByteArray) (c : UInt8) (hc : c.toNat < 128) (w : World) :
    Calls Tryz.prog 94 #[.string s, .string ⟨#[c]⟩] w fun e w' => e = .returned (.string ⟨(Lib.trimLeftB s.data.toList c).toArray⟩) ∧ w' = w := Any.strings_TrimLeft_one Tryz.lays161 s c hc w
def Tryz.lays162_ren : Go.Shelf.Ren := ⟨fun | 162 => 92 | 232 => 154 | 227 => 155 | 234 => 156 | 236 => 157 | 228 => 203 | 271 => 204 | 151 => 205 | 120 => 246 | 197 => 206 | 152 => 247 | 260 => 248 | 137 => 188 | 119 => 261 | 224 => 225 | 225 => 224 | 217 => 223 | 266 => 253 | n => n, fun | 9 => 9 | 4 => 4 | 3 => 3 | 5 => 5 | 117 => 219 | 116 => 218 | 0 => 0 | 124 => 222 | 21 => 21 | 105 => 264 | 46 => 137 | 119 => 304 | 139 => 307 | 138 => 306 | n => n, fun | 3 => 1 | 4 => 2 | n => n⟩
theorem Tryz.lays162 : Go.Proofs.Lays.n162 Tryz.prog Tryz.lays162_ren := {
  mixed := by kernel_rfl
  f119 := Tryz.func261.trans (congrArg some (by kernel_rfl))
  f120 := Tryz.func246.trans (congrArg some (by kernel_rfl))
  f137 := Tryz.func188.trans (congrArg some (by kernel_rfl))
  f151 := Tryz.func205.trans (congrArg some (by kernel_rfl))
  f152 := Tryz.func247.trans (congrArg some (by kernel_rfl))
  f162 := Tryz.func92.trans (congrArg some (by kernel_rfl))
  f197 := Tryz.func206.trans (congrArg some (by kernel_rfl))
  f217 := Tryz.func223.trans (congrArg some (by kernel_rfl))
  f224 := Tryz.func225.trans (congrArg some (by kernel_rfl))
  f225 := Tryz.func224.trans (congrArg some (by kernel_rfl))
  f227 := Tryz.func155.trans (congrArg some (by kernel_rfl))
  f228 := Tryz.func203.trans (congrArg some (by kernel_rfl))
  f232 := Tryz.func154.trans (congrArg some (by kernel_rfl))
  f234 := Tryz.func156.trans (congrArg some (by kernel_rfl))
  f236 := Tryz.func157.trans (congrArg some (by kernel_rfl))
  f260 := Tryz.func248.trans (congrArg some (by kernel_rfl))
  f266 := Tryz.func253.trans (congrArg some (by kernel_rfl))
  f271 := Tryz.func204.trans (congrArg some (by kernel_rfl))
  t0 := Tryz.underlying0
  a0 := Tryz.isAgg0
  z0 := Tryz.sizeOf0
  v0 := Tryz.zeroValue0
  t3 := Tryz.underlying3
  a3 := Tryz.isAgg3
  z3 := Tryz.sizeOf3
  v3 := Tryz.zeroValue3
  t4 := Tryz.underlying4
  a4 := Tryz.isAgg4
  z4 := Tryz.sizeOf4
  v4 := Tryz.zeroValue4
  t5 := Tryz.underlying5
  a5 := Tryz.isAgg5
  z5 := Tryz.sizeOf5
  v5 := Tryz.zeroValue5
  t9 := Tryz.underlying9
  a9 := Tryz.isAgg9
  z9 := Tryz.sizeOf9
  v9 := Tryz.zeroValue9
  t21 := Tryz.underlying21
  a21 := Tryz.isAgg21
  z21 := Tryz.sizeOf21
  v21 := Tryz.zeroValue21
  t46 := Tryz.underlying137
  a46 := Tryz.isAgg137
  z46 := Tryz.sizeOf137
  v46 := Tryz.zeroValue137
  t105 := Tryz.underlying264
  a105 := Tryz.isAgg264
  z105 := Tryz.sizeOf264
  v105 := Tryz.zeroValue264
  t116 := Tryz.underlying218
  a116 := Tryz.isAgg218
  z116 := Tryz.sizeOf218
  t117 := Tryz.underlying219
  a117 := Tryz.isAgg219
  z117 := Tryz.sizeOf219
  v117 := Tryz.zeroValue219
  t119 := Tryz.underlying304
  a119 := Tryz.isAgg304
  z119 := Tryz.sizeOf304
  t124 := Tryz.underlying222
  a124 := Tryz.isAgg222
  z124 := Tryz.sizeOf222
  v124 := Tryz.zeroValue222
  t138 := Tryz.underlying306
  a138 := Tryz.isAgg306
  z138 := Tryz.sizeOf306
  v138 := Tryz.zeroValue306
  t139 := Tryz.underlying307
  a139 := Tryz.isAgg307
  z139 := Tryz.sizeOf307
  v139 := Tryz.zeroValue307
  g3 := by kernel_rfl
  g4 := by kernel_rfl }
theorem Tryz.strings_TrimRight_one (s : ByteArray) (c : UInt8) (hc : c.toNat < 128) (w : World) (hs : s.size ≤ 9223372036854775807) :
    Calls Tryz.prog 92 #[.string s, .string ⟨#[c]⟩] w fun e w' => e = .returned (.string ⟨(Lib.trimRightB s.data.toList c).toArray⟩) ∧ w' = w := Any.strings_TrimRight_one Tryz.lays162 s c hc w hs
end Go.Proofs
