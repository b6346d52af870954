/- The shelf's contracts that this seat's walks take, laid at this dump by the kit's tool. -/
import Derived.Shelf.Strings.Builder1
import Derived.Shelf.Strings.Builder2
import Derived.Shelf.Strings.OnBuilder
import Derived.Shelf.Strings.Trim
import Derived.Shelf.Small.Utf8
import Derived.Shelf.Small.Bits
import Derived.Shelf.Small.Strs
import Derived.Shelf.Small.Wraps
import Derived.Shelf.Utf8.RuneCount
import Derived.Shelf.Strconv.Itoa0
import Derived.Shelf.Strings.Search1
import Derived.Shelf.Strings.Search2
import Derived.Shelf.Strings.Search3
import Derived.Shelf.Strings.Count
import Derived.Shelf.LaysM
import Derived.Shelf.Strings.Shaped
import Derived.Shelf.Strings.LastIndex
import Derived.Shelf.Strings.Prefix
import Derived.Shelf.Strings.Split
import Derived.Shelf.Strings.SplitShaped
import Derived.Shelf.Strings.Runes
import Derived.Shelf.Strings.AsciiSet
import Derived.Shelf.Bits.Mul64
import Derived.Shelf.Unicode.DecodeSlow
import Derived.Shelf.Unicode.DecodeAny
import Derived.Shelf.Unicode.DecodeLast
import Derived.Ground.Names2Prog
import Derived.Shelf.Slices.SearchI
import Derived.Shelf.SlSortCmp.NoneTotal
import Derived.Ground.SlsfProg
import Derived.Test.YtoplengednoldaaGreatDoorProg
namespace Go.Proofs
open Go.Shelf Go.RowKit
def Tryz.lays156_ren : Go.Shelf.Ren := ⟨fun | 156 => 148 | 165 => 198 | 166 => 199 | 169 => 200 | 240 => 236 | 241 => 237 | 276 => 256 | 277 => 257 | n => n, fun | 31 => 31 | 9 => 9 | 3 => 3 | 4 => 4 | 0 => 0 | 20 => 20 | 72 => 257 | 76 => 261 | 70 => 255 | 37 => 56 | 75 => 260 | 127 => 288 | 164 => 298 | 5 => 5 | 80 => 148 | n => n, fun | n => n⟩
theorem Tryz.lays156 : Go.Proofs.Lays.n156 Tryz.prog Tryz.lays156_ren := {
  mixed := by kernel_rfl
  f156 := Tryz.func148.trans (congrArg some (by kernel_rfl))
  f165 := Tryz.func198.trans (congrArg some (by kernel_rfl))
  f166 := Tryz.func199.trans (congrArg some (by kernel_rfl))
  f169 := Tryz.func200.trans (congrArg some (by kernel_rfl))
  f240 := Tryz.func236.trans (congrArg some (by kernel_rfl))
  f241 := Tryz.func237.trans (congrArg some (by kernel_rfl))
  f276 := Tryz.func256.trans (congrArg some (by kernel_rfl))
  f277 := Tryz.func257.trans (congrArg some (by kernel_rfl))
  t0 := Tryz.underlying0
  a0 := Tryz.isAgg0
  z0 := Tryz.sizeOf0
  v0 := Tryz.zeroValue0
  t3 := Tryz.underlying3
  a3 := Tryz.isAgg3
  z3 := Tryz.sizeOf3
  v3 := Tryz.zeroValue3
  t4 := Tryz.underlying4
  a4 := Tryz.isAgg4
  z4 := Tryz.sizeOf4
  v4 := Tryz.zeroValue4
  t9 := Tryz.underlying9
  a9 := Tryz.isAgg9
  z9 := Tryz.sizeOf9
  v9 := Tryz.zeroValue9
  t20 := Tryz.underlying20
  a20 := Tryz.isAgg20
  z20 := Tryz.sizeOf20
  v20 := Tryz.zeroValue20
  t31 := Tryz.underlying31
  a31 := Tryz.isAgg31
  z31 := Tryz.sizeOf31
  v31 := Tryz.zeroValue31
  t37 := Tryz.underlying56
  a37 := Tryz.isAgg56
  z37 := Tryz.sizeOf56
  v37 := Tryz.zeroValue56
  t70 := Tryz.underlying255
  a70 := Tryz.isAgg255
  z70 := Tryz.sizeOf255
  v70 := Tryz.zeroValue255
  t72 := Tryz.underlying257
  a72 := Tryz.isAgg257
  z72 := Tryz.sizeOf257
  v72 := Tryz.zeroValue257
  t75 := Tryz.underlying260
  a75 := Tryz.isAgg260
  z75 := Tryz.sizeOf260
  v75 := Tryz.zeroValue260
  t76 := Tryz.underlying261
  a76 := Tryz.isAgg261
  z76 := Tryz.sizeOf261
  v76 := Tryz.zeroValue261
  t127 := Tryz.underlying288
  a127 := Tryz.isAgg288
  z127 := Tryz.sizeOf288
  v127 := Tryz.zeroValue288
  t164 := Tryz.underlying298
  a164 := Tryz.isAgg298
  z164 := Tryz.sizeOf298
  v164 := Tryz.zeroValue298 }
theorem Tryz.Builder_Extra_156 : Builder.Extra Tryz.prog Tryz.lays156_ren := {
  sizeBuilder := by kernel_rfl
  liesBuilder := by kernel_rfl
  t5 := Tryz.underlying5
  a5 := Tryz.isAgg5
  z5 := Tryz.sizeOf5
  v5 := Tryz.zeroValue5
  infoByte := by kernel_rfl
  cellsByte := by kernel_rfl
  sizeByte := by kernel_rfl
  neB5 := by decide }
theorem Tryz.strings_Join_none (a : Option Addr) (c : Nat) (sep : ByteArray) (w : World) :
    Calls Tryz.prog 148 #[.slice a 0 c, .string sep] w fun e w' => e = .returned (.string ⟨#[]⟩) ∧ w' = w := Any.strings_Join_none Tryz.lays156 Tryz.Builder_Extra_156 a c sep w
theorem Tryz.strings_Join (bk o c : Nat) (xs : List ByteArray) (sep : ByteArray) (w : World) (hcells : ∀ (j : Nat) x, xs[j]? = some x → w.cell? ⟨bk, o + j, none⟩ = some (.string x)) (hbk : bk < w.heap.size) (hN : xs.length ≤ 140737488355328) (hcap : xs.length ≤ c) (hlen : (Lib.join (xs.map (·.data.toList)) sep.data.toList).length ≤ 140737488355328) :
    Calls Tryz.prog 148 #[.slice (some ⟨bk, o, none⟩) xs.length c, .string sep] w fun e w' => e = .returned (.string ⟨(Lib.join (xs.map (·.data.toList)) sep.data.toList).toArray⟩) ∧ Below w.heap.size w w' := Any.strings_Join Tryz.lays156 Tryz.Builder_Extra_156 bk o c xs sep w hcells hbk hN hcap hlen
def Tryz.lays146_ren : Go.Shelf.Ren := ⟨fun | 146 => 197 | 221 => 235 | 268 => 255 | 138 => 72 | 143 => 133 | 195 => 131 | 197 => 206 | 218 => 132 | 219 => 185 | 260 => 248 | 217 => 223 | 225 => 224 | 224 => 225 | 267 => 226 | 266 => 253 | 314 => 254 | n => n, fun | 9 => 9 | 31 => 31 | 3 => 3 | 4 => 4 | 0 => 0 | 105 => 264 | 21 => 21 | 5 => 5 | 46 => 137 | 119 => 304 | 139 => 307 | 138 => 306 | 146 => 295 | 51 => 192 | n => n, fun | 1 => 0 | 3 => 1 | 4 => 2 | n => n⟩
theorem Tryz.lays146 : Go.Proofs.Lays.n146 Tryz.prog Tryz.lays146_ren := {
  mixed := by kernel_rfl
  f138 := Tryz.func72.trans (congrArg some (by kernel_rfl))
  f143 := Tryz.func133.trans (congrArg some (by kernel_rfl))
  f146 := Tryz.func197.trans (congrArg some (by kernel_rfl))
  f195 := Tryz.func131.trans (congrArg some (by kernel_rfl))
  f197 := Tryz.func206.trans (congrArg some (by kernel_rfl))
  f217 := Tryz.func223.trans (congrArg some (by kernel_rfl))
  f218 := Tryz.func132.trans (congrArg some (by kernel_rfl))
  f219 := Tryz.func185.trans (congrArg some (by kernel_rfl))
  f221 := Tryz.func235.trans (congrArg some (by kernel_rfl))
  f224 := Tryz.func225.trans (congrArg some (by kernel_rfl))
  f225 := Tryz.func224.trans (congrArg some (by kernel_rfl))
  f260 := Tryz.func248.trans (congrArg some (by kernel_rfl))
  f266 := Tryz.func253.trans (congrArg some (by kernel_rfl))
  f267 := Tryz.func226.trans (congrArg some (by kernel_rfl))
  f268 := Tryz.func255.trans (congrArg some (by kernel_rfl))
  f314 := Tryz.func254.trans (congrArg some (by kernel_rfl))
  t0 := Tryz.underlying0
  a0 := Tryz.isAgg0
  z0 := Tryz.sizeOf0
  v0 := Tryz.zeroValue0
  t3 := Tryz.underlying3
  a3 := Tryz.isAgg3
  z3 := Tryz.sizeOf3
  v3 := Tryz.zeroValue3
  t4 := Tryz.underlying4
  a4 := Tryz.isAgg4
  z4 := Tryz.sizeOf4
  v4 := Tryz.zeroValue4
  t5 := Tryz.underlying5
  a5 := Tryz.isAgg5
  z5 := Tryz.sizeOf5
  v5 := Tryz.zeroValue5
  t9 := Tryz.underlying9
  a9 := Tryz.isAgg9
  z9 := Tryz.sizeOf9
  v9 := Tryz.zeroValue9
  t21 := Tryz.underlying21
  a21 := Tryz.isAgg21
  z21 := Tryz.sizeOf21
  v21 := Tryz.zeroValue21
  t31 := Tryz.underlying31
  a31 := Tryz.isAgg31
  z31 := Tryz.sizeOf31
  v31 := Tryz.zeroValue31
  t46 := Tryz.underlying137
  a46 := Tryz.isAgg137
  z46 := Tryz.sizeOf137
  v46 := Tryz.zeroValue137
  t51 := Tryz.underlying192
  a51 := Tryz.isAgg192
  z51 := Tryz.sizeOf192
  v51 := Tryz.zeroValue192
  t105 := Tryz.underlying264
  a105 := Tryz.isAgg264
  z105 := Tryz.sizeOf264
  v105 := Tryz.zeroValue264
  t119 := Tryz.underlying304
  a119 := Tryz.isAgg304
  z119 := Tryz.sizeOf304
  t138 := Tryz.underlying306
  a138 := Tryz.isAgg306
  z138 := Tryz.sizeOf306
  v138 := Tryz.zeroValue306
  t139 := Tryz.underlying307
  a139 := Tryz.isAgg307
  z139 := Tryz.sizeOf307
  v139 := Tryz.zeroValue307
  t146 := Tryz.underlying295
  a146 := Tryz.isAgg295
  z146 := Tryz.sizeOf295
  v146 := Tryz.zeroValue295
  g1 := by kernel_rfl
  g3 := by kernel_rfl
  g4 := by kernel_rfl }
theorem Tryz.strings_Split (s sep : ByteArray) (m : Int) (w : World) (hs : s.size < 4294967281) (hm : w.cell? ⟨0, 0, none⟩ = some (.int .i64 m)) (h1 : 1 ≤ sep.size) :
    Calls Tryz.prog 197 #[.string s, .string sep] w fun e w' =>
      e = .returned (.slice (some ⟨w.heap.size, 0, none⟩) (Lib.countB s sep + 1) (Lib.countB s sep + 1)) ∧ w' = w.alloc (.cells ((Lib.splitB sep 0 (Lib.countB s sep) s).map Value.string).toArray 9) := Any.strings_Split Tryz.lays146 (by kernel_rfl) s sep m w hs hm h1
end Go.Proofs
