/- The shelf's contracts that this seat's walks take, laid at this dump by the kit's tool. -/
import Derived.Shelf.Strings.Trim
import Derived.Shelf.Small.Utf8
import Derived.Shelf.Small.Bits
import Derived.Shelf.Small.Strs
import Derived.Shelf.Small.Wraps
import Derived.Shelf.Strconv.Itoa0
import Derived.Shelf.Strings.Search1
import Derived.Shelf.Strings.Search2
import Derived.Shelf.Strings.Search3
import Derived.Shelf.Strings.Count
import Derived.Shelf.LaysM
import Derived.Shelf.Strings.Shaped
import Derived.Shelf.Strings.Prefix
import Derived.Shelf.Strings.Runes
import Derived.Shelf.Strings.AsciiSet
import Derived.Shelf.Bits.Mul64
import Derived.Shelf.Unicode.DecodeSlow
import Derived.Test.YtpknjngjkdnpiaaGreatDoorProg
namespace Go.Proofs
open Go.Shelf
def Tryz.lays161_ren : Go.Shelf.Ren := ⟨fun | 161 => 111 | 231 => 142 | 227 => 139 | 233 => 143 | 235 => 144 | 228 => 158 | 197 => 161 | 151 => 160 | 260 => 179 | 152 => 178 | 137 => 98 | 119 => 186 | 224 => 154 | 225 => 153 | 217 => 134 | 266 => 156 | n => n, fun | 9 => 9 | 4 => 4 | 3 => 3 | 5 => 5 | 117 => 183 | 116 => 182 | 0 => 0 | 124 => 186 | 105 => 198 | 21 => 21 | 119 => 226 | 46 => 192 | 139 => 229 | 138 => 228 | n => n, fun | 3 => 3 | 4 => 4 | n => n⟩
theorem Tryz.lays161 : Go.Proofs.Lays.n161 Tryz.prog Tryz.lays161_ren := {
  mixed := by kernel_rfl
  f119 := Tryz.func186.trans (congrArg some (by kernel_rfl))
  f137 := Tryz.func98.trans (congrArg some (by kernel_rfl))
  f151 := Tryz.func160.trans (congrArg some (by kernel_rfl))
  f152 := Tryz.func178.trans (congrArg some (by kernel_rfl))
  f161 := Tryz.func111.trans (congrArg some (by kernel_rfl))
  f197 := Tryz.func161.trans (congrArg some (by kernel_rfl))
  f217 := Tryz.func134.trans (congrArg some (by kernel_rfl))
  f224 := Tryz.func154.trans (congrArg some (by kernel_rfl))
  f225 := Tryz.func153.trans (congrArg some (by kernel_rfl))
  f227 := Tryz.func139.trans (congrArg some (by kernel_rfl))
  f228 := Tryz.func158.trans (congrArg some (by kernel_rfl))
  f231 := Tryz.func142.trans (congrArg some (by kernel_rfl))
  f233 := Tryz.func143.trans (congrArg some (by kernel_rfl))
  f235 := Tryz.func144.trans (congrArg some (by kernel_rfl))
  f260 := Tryz.func179.trans (congrArg some (by kernel_rfl))
  f266 := Tryz.func156.trans (congrArg some (by kernel_rfl))
  t0 := Tryz.underlying0
  a0 := Tryz.isAgg0
  z0 := Tryz.sizeOf0
  v0 := Tryz.zeroValue0
  t3 := Tryz.underlying3
  a3 := Tryz.isAgg3
  z3 := Tryz.sizeOf3
  v3 := Tryz.zeroValue3
  t4 := Tryz.underlying4
  a4 := Tryz.isAgg4
  z4 := Tryz.sizeOf4
  v4 := Tryz.zeroValue4
  t5 := Tryz.underlying5
  a5 := Tryz.isAgg5
  z5 := Tryz.sizeOf5
  v5 := Tryz.zeroValue5
  t9 := Tryz.underlying9
  a9 := Tryz.isAgg9
  z9 := Tryz.sizeOf9
  v9 := Tryz.zeroValue9
  t21 := Tryz.underlying21
  a21 := Tryz.isAgg21
  z21 := Tryz.sizeOf21
  v21 := Tryz.zeroValue21
  t46 := Tryz.underlying192
  a46 := Tryz.isAgg192
  z46 := Tryz.sizeOf192
  v46 := Tryz.zeroValue192
  t105 := Tryz.underlying198
  a105 := Tryz.isAgg198
  z105 := Tryz.sizeOf198
  v105 := Tryz.zeroValue198
  t116 := Tryz.underlying182
  a116 := Tryz.isAgg182
  z116 := Tryz.sizeOf182
  t117 := Tryz.underlying183
  a117 := Tryz.isAgg183
  z117 := Tryz.sizeOf183
  v117 := Tryz.zeroValue183
  t119 := Tryz.underlying226
  a119 := Tryz.isAgg226
  z119 := Tryz.sizeOf226
  t124 := Tryz.underlying186
  a124 := Tryz.isAgg186
  z124 := Tryz.sizeOf186
  v124 := Tryz.zeroValue186
  t138 := Tryz.underlying228
  a138 := Tryz.isAgg228
  z138 := Tryz.sizeOf228
  v138 := Tryz.zeroValue228
  t139 := Tryz.underlying229
  a139 := Tryz.isAgg229
  z139 := Tryz.sizeOf229
  v139 := Tryz.zeroValue229
  g3 := by kernel_rfl
  g4 := by kernel_rfl }
theorem Tryz.strings_TrimLeft_one (s : ByteArray) (c : UInt8) (hc : c.toNat < 128) (w : World) :
    Calls Tryz.prog 111 #[.string s, .string ⟨#[c]⟩] w fun e w' => e = .returned (.string ⟨(Lib.trimLeftB s.data.toList c).toArray⟩) ∧ w' = w := Any.strings_TrimLeft_one Tryz.lays161 s c hc w
def Tryz.lays162_ren : Go.Shelf.Ren := ⟨fun | 162 => 109 | 232 => 138 | 227 => 139 | 234 => 140 | 236 => 141 | 228 => 158 | 271 => 159 | 151 => 160 | 120 => 177 | 197 => 161 | 152 => 178 | 260 => 179 | 137 => 98 | 119 => 186 | 224 => 154 | 225 => 153 | 217 => 134 | 266 => 156 | n => n, fun | 9 => 9 | 4 => 4 | 3 => 3 | 5 => 5 | 117 => 183 | 116 => 182 | 0 => 0 | 124 => 186 | 21 => 21 | 105 => 198 | 46 => 192 | 119 => 226 | 139 => 229 | 138 => 228 | n => n, fun | 3 => 3 | 4 => 4 | n => n⟩
theorem Tryz.lays162 : Go.Proofs.Lays.n162 Tryz.prog Tryz.lays162_ren := {
  mixed := by kernel_rfl
  f119 := Tryz.func186.trans (congrArg some (by kernel_rfl))
  f120 := Tryz.func177.trans (congrArg some (by kernel_rfl))
  f137 := Tryz.func98.trans (congrArg some (by kernel_rfl))
  f151 := Tryz.func160.trans (congrArg some (by kernel_rfl))
  f152 := Tryz.func178.trans (congrArg some (by kernel_rfl))
  f162 := Tryz.func109.trans (congrArg some (by kernel_rfl))
  f197 := Tryz.func161.trans (congrArg some (by kernel_rfl))
  f217 := Tryz.func134.trans (congrArg some (by kernel_rfl))
  f224 := Tryz.func154.trans (congrArg some (by kernel_rfl))
  f225 := Tryz.func153.trans (congrArg some (by kernel_rfl))
  f227 := Tryz.func139.trans (congrArg some (by kernel_rfl))
  f228 := Tryz.func158.trans (congrArg some (by kernel_rfl))
  f232 := Tryz.func138.trans (congrArg some (by kernel_rfl))
  f234 := Tryz.func140.trans (congrArg some (by kernel_rfl))
  f236 := Tryz.func141.trans (congrArg some (by kernel_rfl))
  f260 := Tryz.func179.trans (congrArg some (by kernel_rfl))
  f266 := Tryz.func156.trans (congrArg some (by kernel_rfl))
  f271 := Tryz.func159.trans (congrArg some (by kernel_rfl))
  t0 := Tryz.underlying0
  a0 := Tryz.isAgg0
  z0 := Tryz.sizeOf0
  v0 := Tryz.zeroValue0
  t3 := Tryz.underlying3
  a3 := Tryz.isAgg3
  z3 := Tryz.sizeOf3
  v3 := Tryz.zeroValue3
  t4 := Tryz.underlying4
  a4 := Tryz.isAgg4
  z4 := Tryz.sizeOf4
  v4 := Tryz.zeroValue4
  t5 := Tryz.underlying5
  a5 := Tryz.isAgg5
  z5 := Tryz.sizeOf5
  v5 := Tryz.zeroValue5
  t9 := Tryz.underlying9
  a9 := Tryz.isAgg9
  z9 := Tryz.sizeOf9
  v9 := Tryz.zeroValue9
  t21 := Tryz.underlying21
  a21 := Tryz.isAgg21
  z21 := Tryz.sizeOf21
  v21 := Tryz.zeroValue21
  t46 := Tryz.underlying192
  a46 := Tryz.isAgg192
  z46 := Tryz.sizeOf192
  v46 := Tryz.zeroValue192
  t105 := Tryz.underlying198
  a105 := Tryz.isAgg198
  z105 := Tryz.sizeOf198
  v105 := Tryz.zeroValue198
  t116 := Tryz.underlying182
  a116 := Tryz.isAgg182
  z116 := Tryz.sizeOf182
  t117 := Tryz.underlying183
  a117 := Tryz.isAgg183
  z117 := Tryz.sizeOf183
  v117 := Tryz.zeroValue183
  t119 := Tryz.underlying226
  a119 := Tryz.isAgg226
  z119 := Tryz.sizeOf226
  t124 := Tryz.underlying186
  a124 := Tryz.isAgg186
  z124 := Tryz.sizeOf186
  v124 := Tryz.zeroValue186
  t138 := Tryz.underlying228
  a138 := Tryz.isAgg228
  z138 := Tryz.sizeOf228
  v138 := Tryz.zeroValue228
  t139 := Tryz.underlying229
  a139 := Tryz.isAgg229
  z139 := Tryz.sizeOf229
  v139 := Tryz.zeroValue229
  g3 := by kernel_rfl
  g4 := by kernel_rfl }
theorem Tryz.strings_TrimRight_one (s : ByteArray) (c : UInt8) (hc : c.toNat < 128) (w : World) (hs : s.size ≤ 9223372036854775807) :
    Calls Tryz.prog 109 #[.string s, .string ⟨#[c]⟩] w fun e w' => e = .returned (.string ⟨(Lib.trimRightB s.data.toList c).toArray⟩) ∧ w' = w := Any.strings_TrimRight_one Tryz.lays162 s c hc w hs
end Go.Proofs
