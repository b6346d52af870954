/- CharsetBytes: joined over all bytes. -/
import Derived.Test.YtdhkfbobfjkclaaL12b1
import Derived.Test.YtdhkfbobfjkclaaL12b2
import Derived.Test.YtdhkfbobfjkclaaL12b3
import Derived.Test.YtdhkfbobfjkclaaL12b4
import Derived.Test.YtdhkfbobfjkclaaL12b5
import Derived.Test.YtdhkfbobfjkclaaL12b6
import Derived.Test.YtdhkfbobfjkclaaL12b7
import Derived.Test.YtdhkfbobfjkclaaL12b8
import Derived.Test.YtdhkfbobfjkclaaL12b9
import Derived.Test.YtdhkfbobfjkclaaL12b10
namespace Go.Proofs.Ytdhkfbobfjkclaa
open Go.RowKit
theorem bytes12_any (c : Int) (d : Bool) (w : World) (h0 : 0 ≤ c) (h1 : c ≤ 255) :
    Calls Try.prog 4 #[.int .u8 c, .bool d] w fun e w' => e = .returned (.bool true) ∧ Below w.heap.size w w' := by
  by_cases g0 : c ≤ 31
  · cases d
    · exact bytes12_0_0 c w (by omega) g0
    · exact bytes12_0_1 c w (by omega) g0
  by_cases g32 : c ≤ 34
  · cases d
    · exact bytes12_32_0 c w (by omega) g32
    · exact bytes12_32_1 c w (by omega) g32
  by_cases g35 : c ≤ 35
  · cases d
    · exact bytes12_35_0 c w (by omega) g35
    · exact bytes12_35_1 c w (by omega) g35
  by_cases g36 : c ≤ 44
  · cases d
    · exact bytes12_36_0 c w (by omega) g36
    · exact bytes12_36_1 c w (by omega) g36
  by_cases g45 : c ≤ 45
  · cases d
    · exact bytes12_45_0 c w (by omega) g45
    · exact bytes12_45_1 c w (by omega) g45
  by_cases g46 : c ≤ 46
  · cases d
    · exact bytes12_46_0 c w (by omega) g46
    · exact bytes12_46_1 c w (by omega) g46
  by_cases g47 : c ≤ 47
  · cases d
    · exact bytes12_47_0 c w (by omega) g47
    · exact bytes12_47_1 c w (by omega) g47
  by_cases g48 : c ≤ 57
  · cases d
    · exact bytes12_48_0 c w (by omega) g48
    · exact bytes12_48_1 c w (by omega) g48
  by_cases g58 : c ≤ 58
  · cases d
    · exact bytes12_58_0 c w (by omega) g58
    · exact bytes12_58_1 c w (by omega) g58
  by_cases g59 : c ≤ 64
  · cases d
    · exact bytes12_59_0 c w (by omega) g59
    · exact bytes12_59_1 c w (by omega) g59
  by_cases g65 : c ≤ 90
  · cases d
    · exact bytes12_65_0 c w (by omega) g65
    · exact bytes12_65_1 c w (by omega) g65
  by_cases g91 : c ≤ 91
  · cases d
    · exact bytes12_91_0 c w (by omega) g91
    · exact bytes12_91_1 c w (by omega) g91
  by_cases g92 : c ≤ 92
  · cases d
    · exact bytes12_92_0 c w (by omega) g92
    · exact bytes12_92_1 c w (by omega) g92
  by_cases g93 : c ≤ 94
  · cases d
    · exact bytes12_93_0 c w (by omega) g93
    · exact bytes12_93_1 c w (by omega) g93
  by_cases g95 : c ≤ 95
  · cases d
    · exact bytes12_95_0 c w (by omega) g95
    · exact bytes12_95_1 c w (by omega) g95
  by_cases g96 : c ≤ 96
  · cases d
    · exact bytes12_96_0 c w (by omega) g96
    · exact bytes12_96_1 c w (by omega) g96
  by_cases g97 : c ≤ 122
  · cases d
    · exact bytes12_97_0 c w (by omega) g97
    · exact bytes12_97_1 c w (by omega) g97
  by_cases g123 : c ≤ 126
  · cases d
    · exact bytes12_123_0 c w (by omega) g123
    · exact bytes12_123_1 c w (by omega) g123
  cases d
  · exact bytes12_127_0 c w (by omega) h1
  · exact bytes12_127_1 c w (by omega) h1
end Go.Proofs.Ytdhkfbobfjkclaa
