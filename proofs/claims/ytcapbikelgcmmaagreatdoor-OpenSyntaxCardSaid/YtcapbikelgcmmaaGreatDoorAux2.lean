/- Small lemmas on worlds: what is new above, what was there stays. -/
import Derived.Test.YtcapbikelgcmmaaGreatDoorAux
import Derived.WalkSmall
namespace Go.Proofs.YtcapbikelgcmmaaGreatDoor
set_option linter.unusedVariables false
set_option linter.unusedSimpArgs false
open Go.RowKit
theorem bl_trans {a b c : World} (h : Below a.heap.size a b) (k : Below b.heap.size b c) : Below a.heap.size a c := h.trans (k.mono h.size)
theorem bl_alloc {a b : World} (h : Below a.heap.size a b) (o : Obj) : Below a.heap.size a (b.alloc o) := h.alloc h.size o
theorem bl_set {a b : World} (h : Below a.heap.size a b) {p : Addr} (hp : a.heap.size ≤ p.block) (u : Value) : Below a.heap.size a (b.setCell p u) := h.setCell hp u
theorem bl_drewN {a b : World} (h : Below a.heap.size a b) (n : Nat) : Below a.heap.size a (b.drewN n) := below_drewN h n
theorem sz_le (a : Array UInt8) (h : a.size ≤ 1000) : (ByteArray.mk a).size ≤ 9223372036854775807 := by show a.size ≤ _; omega
end Go.Proofs.YtcapbikelgcmmaaGreatDoor
