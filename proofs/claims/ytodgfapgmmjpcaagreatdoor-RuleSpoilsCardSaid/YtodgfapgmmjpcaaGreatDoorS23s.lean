/- The walk of RuleSpoils. -/
import Derived.Test.YtodgfapgmmjpcaaGreatDoorK23
namespace Go.Proofs.YtodgfapgmmjpcaaGreatDoor
set_option linter.unusedVariables false
set_option linter.unusedSimpArgs false
open Go.RowKit
section
variable (W : World) (x : VRule) (h : RuleAt W W.heap.size x)
include h in
theorem spoil_f (l : List ByteArray) (cs : Array Value) (T : TypeId) (hcs : cs.toList = l.flatMap strCell) :
    RuleAt ((W.alloc (.cells #[.slice (some ⟨W.heap.size + 1, 0, none⟩) l.length l.length, .slice x.pA x.rule.parts.length x.pC, .slice x.eA x.rule.extra.length x.eC] 25)).alloc (.cells cs T)) ((W.alloc (.cells #[.slice (some ⟨W.heap.size + 1, 0, none⟩) l.length l.length, .slice x.pA x.rule.parts.length x.pC, .slice x.eA x.rule.extra.length x.eC] 25)).alloc (.cells cs T)).heap.size ⟨⟨l, x.rule.parts, x.rule.extra⟩, some ⟨W.heap.size + 1, 0, none⟩, l.length, x.pA, x.pC, x.eA, x.eC⟩ ∧ Blk ((W.alloc (.cells #[.slice (some ⟨W.heap.size + 1, 0, none⟩) l.length l.length, .slice x.pA x.rule.parts.length x.pC, .slice x.eA x.rule.extra.length x.eC] 25)).alloc (.cells cs T)) W.heap.size 25 #[.slice (some ⟨W.heap.size + 1, 0, none⟩) l.length l.length, .slice x.pA x.rule.parts.length x.pC, .slice x.eA x.rule.extra.length x.eC] ∧ Below W.heap.size W ((W.alloc (.cells #[.slice (some ⟨W.heap.size + 1, 0, none⟩) l.length l.length, .slice x.pA x.rule.parts.length x.pC, .slice x.eA x.rule.extra.length x.eC] 25)).alloc (.cells cs T)) := by
  have hb : Below W.heap.size W ((W.alloc (.cells #[.slice (some ⟨W.heap.size + 1, 0, none⟩) l.length l.length, .slice x.pA x.rule.parts.length x.pC, .slice x.eA x.rule.extra.length x.eC] 25)).alloc (.cells cs T)) := bl_alloc (bl_alloc (Below.refl _ _) _) _
  have h2 := h.bel hb
  have hn := IsRows.made (f := strCell) (size := 1) (fun _ => rfl) (W.alloc (.cells #[.slice (some ⟨W.heap.size + 1, 0, none⟩) l.length l.length, .slice x.pA x.rule.parts.length x.pC, .slice x.eA x.rule.extra.length x.eC] 25)) T cs l hcs
  have hz : (W.alloc (.cells #[.slice (some ⟨W.heap.size + 1, 0, none⟩) l.length l.length, .slice x.pA x.rule.parts.length x.pC, .slice x.eA x.rule.extra.length x.eC] 25)).heap.size = W.heap.size + 1 := by simp
  rw [hz] at hn
  exact ⟨⟨hn, h2.p, h2.e⟩, Blk.alloc (Blk.new W _ _) _, hb⟩
include h in
theorem spoil_p (l : List ByteArray) (cs : Array Value) (T : TypeId) (hcs : cs.toList = l.flatMap strCell) :
    RuleAt ((W.alloc (.cells #[.slice x.fA x.rule.filter.length x.fC, .slice (some ⟨W.heap.size + 1, 0, none⟩) l.length l.length, .slice x.eA x.rule.extra.length x.eC] 25)).alloc (.cells cs T)) ((W.alloc (.cells #[.slice x.fA x.rule.filter.length x.fC, .slice (some ⟨W.heap.size + 1, 0, none⟩) l.length l.length, .slice x.eA x.rule.extra.length x.eC] 25)).alloc (.cells cs T)).heap.size ⟨⟨x.rule.filter, l, x.rule.extra⟩, x.fA, x.fC, some ⟨W.heap.size + 1, 0, none⟩, l.length, x.eA, x.eC⟩ ∧ Blk ((W.alloc (.cells #[.slice x.fA x.rule.filter.length x.fC, .slice (some ⟨W.heap.size + 1, 0, none⟩) l.length l.length, .slice x.eA x.rule.extra.length x.eC] 25)).alloc (.cells cs T)) W.heap.size 25 #[.slice x.fA x.rule.filter.length x.fC, .slice (some ⟨W.heap.size + 1, 0, none⟩) l.length l.length, .slice x.eA x.rule.extra.length x.eC] ∧ Below W.heap.size W ((W.alloc (.cells #[.slice x.fA x.rule.filter.length x.fC, .slice (some ⟨W.heap.size + 1, 0, none⟩) l.length l.length, .slice x.eA x.rule.extra.length x.eC] 25)).alloc (.cells cs T)) := by
  have hb : Below W.heap.size W ((W.alloc (.cells #[.slice x.fA x.rule.filter.length x.fC, .slice (some ⟨W.heap.size + 1, 0, none⟩) l.length l.length, .slice x.eA x.rule.extra.length x.eC] 25)).alloc (.cells cs T)) := bl_alloc (bl_alloc (Below.refl _ _) _) _
  have h2 := h.bel hb
  have hn := IsRows.made (f := strCell) (size := 1) (fun _ => rfl) (W.alloc (.cells #[.slice x.fA x.rule.filter.length x.fC, .slice (some ⟨W.heap.size + 1, 0, none⟩) l.length l.length, .slice x.eA x.rule.extra.length x.eC] 25)) T cs l hcs
  have hz : (W.alloc (.cells #[.slice x.fA x.rule.filter.length x.fC, .slice (some ⟨W.heap.size + 1, 0, none⟩) l.length l.length, .slice x.eA x.rule.extra.length x.eC] 25)).heap.size = W.heap.size + 1 := by simp
  rw [hz] at hn
  exact ⟨⟨h2.f, hn, h2.e⟩, Blk.alloc (Blk.new W _ _) _, hb⟩
include h in
theorem spoil_e (l : List (ByteArray × ByteArray)) (cs : Array Value) (T : TypeId) (hcs : cs.toList = l.flatMap labCell) :
    RuleAt ((W.alloc (.cells #[.slice x.fA x.rule.filter.length x.fC, .slice x.pA x.rule.parts.length x.pC, .slice (some ⟨W.heap.size + 1, 0, none⟩) l.length l.length] 25)).alloc (.cells cs T)) ((W.alloc (.cells #[.slice x.fA x.rule.filter.length x.fC, .slice x.pA x.rule.parts.length x.pC, .slice (some ⟨W.heap.size + 1, 0, none⟩) l.length l.length] 25)).alloc (.cells cs T)).heap.size ⟨⟨x.rule.filter, x.rule.parts, l⟩, x.fA, x.fC, x.pA, x.pC, some ⟨W.heap.size + 1, 0, none⟩, l.length⟩ ∧ Blk ((W.alloc (.cells #[.slice x.fA x.rule.filter.length x.fC, .slice x.pA x.rule.parts.length x.pC, .slice (some ⟨W.heap.size + 1, 0, none⟩) l.length l.length] 25)).alloc (.cells cs T)) W.heap.size 25 #[.slice x.fA x.rule.filter.length x.fC, .slice x.pA x.rule.parts.length x.pC, .slice (some ⟨W.heap.size + 1, 0, none⟩) l.length l.length] ∧ Below W.heap.size W ((W.alloc (.cells #[.slice x.fA x.rule.filter.length x.fC, .slice x.pA x.rule.parts.length x.pC, .slice (some ⟨W.heap.size + 1, 0, none⟩) l.length l.length] 25)).alloc (.cells cs T)) := by
  have hb : Below W.heap.size W ((W.alloc (.cells #[.slice x.fA x.rule.filter.length x.fC, .slice x.pA x.rule.parts.length x.pC, .slice (some ⟨W.heap.size + 1, 0, none⟩) l.length l.length] 25)).alloc (.cells cs T)) := bl_alloc (bl_alloc (Below.refl _ _) _) _
  have h2 := h.bel hb
  have hn := IsRows.made (f := labCell) (size := 2) (fun _ => rfl) (W.alloc (.cells #[.slice x.fA x.rule.filter.length x.fC, .slice x.pA x.rule.parts.length x.pC, .slice (some ⟨W.heap.size + 1, 0, none⟩) l.length l.length] 25)) T cs l hcs
  have hz : (W.alloc (.cells #[.slice x.fA x.rule.filter.length x.fC, .slice x.pA x.rule.parts.length x.pC, .slice (some ⟨W.heap.size + 1, 0, none⟩) l.length l.length] 25)).heap.size = W.heap.size + 1 := by simp
  rw [hz] at hn
  exact ⟨⟨h2.f, h2.p, hn⟩, Blk.alloc (Blk.new W _ _) _, hb⟩
include h in
theorem spoil_n :
    RuleAt (W.alloc (.cells #[.slice x.fA x.rule.filter.length x.fC, .slice none 0 0, .slice x.eA x.rule.extra.length x.eC] 25)) (W.alloc (.cells #[.slice x.fA x.rule.filter.length x.fC, .slice none 0 0, .slice x.eA x.rule.extra.length x.eC] 25)).heap.size ⟨⟨x.rule.filter, [], x.rule.extra⟩, x.fA, x.fC, none, 0, x.eA, x.eC⟩ ∧ Blk (W.alloc (.cells #[.slice x.fA x.rule.filter.length x.fC, .slice none 0 0, .slice x.eA x.rule.extra.length x.eC] 25)) W.heap.size 25 #[.slice x.fA x.rule.filter.length x.fC, .slice none 0 0, .slice x.eA x.rule.extra.length x.eC] ∧ Below W.heap.size W (W.alloc (.cells #[.slice x.fA x.rule.filter.length x.fC, .slice none 0 0, .slice x.eA x.rule.extra.length x.eC] 25)) := by
  have hb : Below W.heap.size W (W.alloc (.cells #[.slice x.fA x.rule.filter.length x.fC, .slice none 0 0, .slice x.eA x.rule.extra.length x.eC] 25)) := bl_alloc (Below.refl _ _) _
  have h2 := h.bel hb
  exact ⟨⟨h2.f, IsRows.nil_, h2.e⟩, Blk.new W _ _, hb⟩
end
def sR : MRule := ⟨[⟨#[42]⟩, ⟨#[98, 45, 49]⟩], [⟨#[104, 111, 115, 116]⟩, ⟨#[109, 101, 116, 114, 105, 99]⟩, ⟨#[95]⟩, ⟨#[109, 101, 116, 114, 105, 99, 42]⟩], [(⟨#[100, 99]⟩, ⟨#[120, 61, 121]⟩)]⟩
theorem sRok : RuleOk sR := rok_of (by decide +kernel)
theorem sRg : goodR sR = true := by decide +kernel
theorem sRm0 : matchT sR ⟨#[97, 46, 98, 45, 49, 46, 99, 46, 100]⟩ = true := by decide +kernel
theorem sRm1 : matchT sR ⟨#[97, 46, 98, 45, 50, 46, 99, 46, 100]⟩ = false := by decide +kernel
theorem sRm2 : matchT sR ⟨#[97, 46, 98, 45, 49, 46, 99]⟩ = false := by decide +kernel
def sQ0 : MRule := ⟨[⟨#[42]⟩, ⟨#[98, 45, 49]⟩], [⟨#[104, 111, 115, 116]⟩, ⟨#[95]⟩, ⟨#[98]⟩, ⟨#[99]⟩], [(⟨#[100, 99]⟩, ⟨#[120, 61, 121]⟩)]⟩
theorem sQ0ok : RuleOk sQ0 := rok_of (by decide +kernel)
theorem sQ0g : goodR sQ0 = false := by decide +kernel
theorem sQ0m : matchT sQ0 ⟨#[97, 46, 98, 45, 49, 46, 99, 46, 100]⟩ = false := by unfold matchT; rw [sQ0g]; rfl
def sQ1 : MRule := ⟨[⟨#[42]⟩, ⟨#[98, 45, 49]⟩], [⟨#[104, 111, 115, 116]⟩, ⟨#[109, 101, 116, 114, 105, 99, 42]⟩, ⟨#[109, 101, 116, 114, 105, 99]⟩, ⟨#[99]⟩], [(⟨#[100, 99]⟩, ⟨#[120, 61, 121]⟩)]⟩
theorem sQ1ok : RuleOk sQ1 := rok_of (by decide +kernel)
theorem sQ1g : goodR sQ1 = false := by decide +kernel
theorem sQ1m : matchT sQ1 ⟨#[97, 46, 98, 45, 49, 46, 99, 46, 100]⟩ = false := by unfold matchT; rw [sQ1g]; rfl
def sQ2 : MRule := ⟨[⟨#[42]⟩, ⟨#[98, 45, 49]⟩], [⟨#[104, 111, 115, 116]⟩, ⟨#[109, 101, 116, 114, 105, 99]⟩, ⟨#[104, 111, 115, 116]⟩, ⟨#[99]⟩], [(⟨#[100, 99]⟩, ⟨#[120, 61, 121]⟩)]⟩
theorem sQ2ok : RuleOk sQ2 := rok_of (by decide +kernel)
theorem sQ2g : goodR sQ2 = false := by decide +kernel
theorem sQ2m : matchT sQ2 ⟨#[97, 46, 98, 45, 49, 46, 99, 46, 100]⟩ = false := by unfold matchT; rw [sQ2g]; rfl
def sQ3 : MRule := ⟨[⟨#[42]⟩, ⟨#[98, 45, 49]⟩], [⟨#[100, 99]⟩, ⟨#[109, 101, 116, 114, 105, 99]⟩, ⟨#[104, 111, 115, 116]⟩, ⟨#[99]⟩], [(⟨#[100, 99]⟩, ⟨#[120, 61, 121]⟩)]⟩
theorem sQ3ok : RuleOk sQ3 := rok_of (by decide +kernel)
theorem sQ3g : goodR sQ3 = false := by decide +kernel
theorem sQ3m : matchT sQ3 ⟨#[97, 46, 98, 45, 49, 46, 99, 46, 100]⟩ = false := by unfold matchT; rw [sQ3g]; rfl
def sQ4 : MRule := ⟨[⟨#[97]⟩, ⟨#[97]⟩, ⟨#[97]⟩, ⟨#[97]⟩, ⟨#[97]⟩], [⟨#[104, 111, 115, 116]⟩, ⟨#[109, 101, 116, 114, 105, 99]⟩, ⟨#[95]⟩, ⟨#[109, 101, 116, 114, 105, 99, 42]⟩], [(⟨#[100, 99]⟩, ⟨#[120, 61, 121]⟩)]⟩
theorem sQ4ok : RuleOk sQ4 := rok_of (by decide +kernel)
theorem sQ4g : goodR sQ4 = false := by decide +kernel
theorem sQ4m : matchT sQ4 ⟨#[97, 46, 98, 45, 49, 46, 99, 46, 100]⟩ = false := by unfold matchT; rw [sQ4g]; rfl
def sQ5 : MRule := ⟨[⟨#[97, 46, 98]⟩], [⟨#[104, 111, 115, 116]⟩, ⟨#[109, 101, 116, 114, 105, 99]⟩, ⟨#[95]⟩, ⟨#[109, 101, 116, 114, 105, 99, 42]⟩], [(⟨#[100, 99]⟩, ⟨#[120, 61, 121]⟩)]⟩
theorem sQ5ok : RuleOk sQ5 := rok_of (by decide +kernel)
theorem sQ5g : goodR sQ5 = false := by decide +kernel
theorem sQ5m : matchT sQ5 ⟨#[97, 46, 98, 45, 49, 46, 99, 46, 100]⟩ = false := by unfold matchT; rw [sQ5g]; rfl
def sQ6 : MRule := ⟨[⟨#[42]⟩, ⟨#[98, 45, 49]⟩], [], [(⟨#[100, 99]⟩, ⟨#[120, 61, 121]⟩)]⟩
theorem sQ6ok : RuleOk sQ6 := rok_of (by decide +kernel)
theorem sQ6g : goodR sQ6 = false := by decide +kernel
theorem sQ6m : matchT sQ6 ⟨#[97, 46, 98, 45, 49, 46, 99, 46, 100]⟩ = false := by unfold matchT; rw [sQ6g]; rfl
def sQ7 : MRule := ⟨[⟨#[42]⟩, ⟨#[98, 45, 49]⟩], [⟨#[104, 111, 115, 116]⟩, ⟨#[109, 101, 116, 114, 105, 99]⟩, ⟨#[95]⟩, ⟨#[109, 101, 116, 114, 105, 99, 42]⟩], [(⟨#[100, 99]⟩, ⟨#[97, 44, 98]⟩)]⟩
theorem sQ7ok : RuleOk sQ7 := rok_of (by decide +kernel)
theorem sQ7g : goodR sQ7 = false := by decide +kernel
theorem sQ7m : matchT sQ7 ⟨#[97, 46, 98, 45, 49, 46, 99, 46, 100]⟩ = false := by unfold matchT; rw [sQ7g]; rfl
def sQ8 : MRule := ⟨[⟨#[42]⟩, ⟨#[98, 45, 49]⟩], [⟨#[104, 111, 115, 116]⟩, ⟨#[109, 101, 116, 114, 105, 99]⟩, ⟨#[95]⟩, ⟨#[109, 101, 116, 114, 105, 99, 42]⟩], [(⟨#[122]⟩, ⟨#[49]⟩), (⟨#[100, 99]⟩, ⟨#[49]⟩)]⟩
theorem sQ8ok : RuleOk sQ8 := rok_of (by decide +kernel)
theorem sQ8g : goodR sQ8 = false := by decide +kernel
theorem sQ8m : matchT sQ8 ⟨#[97, 46, 98, 45, 49, 46, 99, 46, 100]⟩ = false := by unfold matchT; rw [sQ8g]; rfl
def sQ9 : MRule := ⟨[⟨#[42]⟩, ⟨#[98, 45, 49]⟩], [⟨#[104, 111, 115, 116]⟩, ⟨#[109, 101, 116, 114, 105, 99]⟩, ⟨#[95]⟩, ⟨#[109, 101, 116, 114, 105, 99, 42]⟩], [(⟨#[100, 99]⟩, ⟨#[]⟩)]⟩
theorem sQ9ok : RuleOk sQ9 := rok_of (by decide +kernel)
theorem sQ9g : goodR sQ9 = false := by decide +kernel
theorem sQ9m : matchT sQ9 ⟨#[97, 46, 98, 45, 49, 46, 99, 46, 100]⟩ = false := by unfold matchT; rw [sQ9g]; rfl
def sQ10 : MRule := ⟨[⟨#[42]⟩, ⟨#[98, 45, 49]⟩], [⟨#[104, 111, 115, 116]⟩, ⟨#[109, 101, 116, 114, 105, 99]⟩, ⟨#[]⟩, ⟨#[99]⟩], [(⟨#[100, 99]⟩, ⟨#[120, 61, 121]⟩)]⟩
theorem sQ10ok : RuleOk sQ10 := rok_of (by decide +kernel)
theorem sQ10g : goodR sQ10 = false := by decide +kernel
theorem sQ10m : matchT sQ10 ⟨#[97, 46, 98, 45, 49, 46, 99, 46, 100]⟩ = false := by unfold matchT; rw [sQ10g]; rfl
set_option maxHeartbeats 1600000 in
theorem spoilR (w1 : World) : RuleAt ((((w1.alloc (.cells #[.string ⟨#[42]⟩, .string ⟨#[98, 45, 49]⟩] 9)).alloc (.cells #[.string ⟨#[104, 111, 115, 116]⟩, .string ⟨#[109, 101, 116, 114, 105, 99]⟩, .string ⟨#[95]⟩, .string ⟨#[109, 101, 116, 114, 105, 99, 42]⟩] 9)).alloc (.cells #[.string ⟨#[100, 99]⟩, .string ⟨#[120, 61, 121]⟩] 33)).alloc (.cells #[.slice (some ⟨w1.heap.size, 0, none⟩) 2 2, .slice (some ⟨w1.heap.size + 1, 0, none⟩) 4 4, .slice (some ⟨w1.heap.size + 1 + 1, 0, none⟩) 1 1] 25)) ((((w1.alloc (.cells #[.string ⟨#[42]⟩, .string ⟨#[98, 45, 49]⟩] 9)).alloc (.cells #[.string ⟨#[104, 111, 115, 116]⟩, .string ⟨#[109, 101, 116, 114, 105, 99]⟩, .string ⟨#[95]⟩, .string ⟨#[109, 101, 116, 114, 105, 99, 42]⟩] 9)).alloc (.cells #[.string ⟨#[100, 99]⟩, .string ⟨#[120, 61, 121]⟩] 33)).alloc (.cells #[.slice (some ⟨w1.heap.size, 0, none⟩) 2 2, .slice (some ⟨w1.heap.size + 1, 0, none⟩) 4 4, .slice (some ⟨w1.heap.size + 1 + 1, 0, none⟩) 1 1] 25)).heap.size (⟨sR, some ⟨w1.heap.size, 0, none⟩, 2, some ⟨w1.heap.size + 1, 0, none⟩, 4, some ⟨w1.heap.size + 1 + 1, 0, none⟩, 1⟩ : VRule) ∧ Blk ((((w1.alloc (.cells #[.string ⟨#[42]⟩, .string ⟨#[98, 45, 49]⟩] 9)).alloc (.cells #[.string ⟨#[104, 111, 115, 116]⟩, .string ⟨#[109, 101, 116, 114, 105, 99]⟩, .string ⟨#[95]⟩, .string ⟨#[109, 101, 116, 114, 105, 99, 42]⟩] 9)).alloc (.cells #[.string ⟨#[100, 99]⟩, .string ⟨#[120, 61, 121]⟩] 33)).alloc (.cells #[.slice (some ⟨w1.heap.size, 0, none⟩) 2 2, .slice (some ⟨w1.heap.size + 1, 0, none⟩) 4 4, .slice (some ⟨w1.heap.size + 1 + 1, 0, none⟩) 1 1] 25)) (w1.heap.size + 1 + 1 + 1) 25 #[.slice (some ⟨w1.heap.size, 0, none⟩) 2 2, .slice (some ⟨w1.heap.size + 1, 0, none⟩) 4 4, .slice (some ⟨w1.heap.size + 1 + 1, 0, none⟩) 1 1] ∧ Below w1.heap.size w1 ((((w1.alloc (.cells #[.string ⟨#[42]⟩, .string ⟨#[98, 45, 49]⟩] 9)).alloc (.cells #[.string ⟨#[104, 111, 115, 116]⟩, .string ⟨#[109, 101, 116, 114, 105, 99]⟩, .string ⟨#[95]⟩, .string ⟨#[109, 101, 116, 114, 105, 99, 42]⟩] 9)).alloc (.cells #[.string ⟨#[100, 99]⟩, .string ⟨#[120, 61, 121]⟩] 33)).alloc (.cells #[.slice (some ⟨w1.heap.size, 0, none⟩) 2 2, .slice (some ⟨w1.heap.size + 1, 0, none⟩) 4 4, .slice (some ⟨w1.heap.size + 1 + 1, 0, none⟩) 1 1] 25)) := by
  have k1 := IsRows.made (f := strCell) (fun _ => rfl) w1 9 #[.string ⟨#[42]⟩, .string ⟨#[98, 45, 49]⟩] [⟨#[42]⟩, ⟨#[98, 45, 49]⟩] rfl
  have k2 := IsRows.made (f := strCell) (fun _ => rfl) (w1.alloc (.cells #[.string ⟨#[42]⟩, .string ⟨#[98, 45, 49]⟩] 9)) 9 #[.string ⟨#[104, 111, 115, 116]⟩, .string ⟨#[109, 101, 116, 114, 105, 99]⟩, .string ⟨#[95]⟩, .string ⟨#[109, 101, 116, 114, 105, 99, 42]⟩] [⟨#[104, 111, 115, 116]⟩, ⟨#[109, 101, 116, 114, 105, 99]⟩, ⟨#[95]⟩, ⟨#[109, 101, 116, 114, 105, 99, 42]⟩] rfl
  have k3 := IsRows.made (f := labCell) (size := 2) (fun _ => rfl) ((w1.alloc (.cells #[.string ⟨#[42]⟩, .string ⟨#[98, 45, 49]⟩] 9)).alloc (.cells #[.string ⟨#[104, 111, 115, 116]⟩, .string ⟨#[109, 101, 116, 114, 105, 99]⟩, .string ⟨#[95]⟩, .string ⟨#[109, 101, 116, 114, 105, 99, 42]⟩] 9)) 33 #[.string ⟨#[100, 99]⟩, .string ⟨#[120, 61, 121]⟩] [(⟨#[100, 99]⟩, ⟨#[120, 61, 121]⟩)] rfl
  have z := Blk.new (((w1.alloc (.cells #[.string ⟨#[42]⟩, .string ⟨#[98, 45, 49]⟩] 9)).alloc (.cells #[.string ⟨#[104, 111, 115, 116]⟩, .string ⟨#[109, 101, 116, 114, 105, 99]⟩, .string ⟨#[95]⟩, .string ⟨#[109, 101, 116, 114, 105, 99, 42]⟩] 9)).alloc (.cells #[.string ⟨#[100, 99]⟩, .string ⟨#[120, 61, 121]⟩] 33)) 25 #[.slice (some ⟨w1.heap.size, 0, none⟩) 2 2, .slice (some ⟨w1.heap.size + 1, 0, none⟩) 4 4, .slice (some ⟨w1.heap.size + 1 + 1, 0, none⟩) 1 1]
  have e1 : (w1.alloc (.cells #[.string ⟨#[42]⟩, .string ⟨#[98, 45, 49]⟩] 9)).heap.size = w1.heap.size + 1 := by simp
  have e2 : ((w1.alloc (.cells #[.string ⟨#[42]⟩, .string ⟨#[98, 45, 49]⟩] 9)).alloc (.cells #[.string ⟨#[104, 111, 115, 116]⟩, .string ⟨#[109, 101, 116, 114, 105, 99]⟩, .string ⟨#[95]⟩, .string ⟨#[109, 101, 116, 114, 105, 99, 42]⟩] 9)).heap.size = w1.heap.size + 1 + 1 := by simp
  have e3 : (((w1.alloc (.cells #[.string ⟨#[42]⟩, .string ⟨#[98, 45, 49]⟩] 9)).alloc (.cells #[.string ⟨#[104, 111, 115, 116]⟩, .string ⟨#[109, 101, 116, 114, 105, 99]⟩, .string ⟨#[95]⟩, .string ⟨#[109, 101, 116, 114, 105, 99, 42]⟩] 9)).alloc (.cells #[.string ⟨#[100, 99]⟩, .string ⟨#[120, 61, 121]⟩] 33)).heap.size = w1.heap.size + 1 + 1 + 1 := by simp
  have b1 := bl_alloc (Below.refl (w1.alloc (.cells #[.string ⟨#[42]⟩, .string ⟨#[98, 45, 49]⟩] 9)).heap.size _) (.cells #[.string ⟨#[104, 111, 115, 116]⟩, .string ⟨#[109, 101, 116, 114, 105, 99]⟩, .string ⟨#[95]⟩, .string ⟨#[109, 101, 116, 114, 105, 99, 42]⟩] 9)
  have b2 := bl_alloc (Below.refl ((w1.alloc (.cells #[.string ⟨#[42]⟩, .string ⟨#[98, 45, 49]⟩] 9)).alloc (.cells #[.string ⟨#[104, 111, 115, 116]⟩, .string ⟨#[109, 101, 116, 114, 105, 99]⟩, .string ⟨#[95]⟩, .string ⟨#[109, 101, 116, 114, 105, 99, 42]⟩] 9)).heap.size _) (.cells #[.string ⟨#[100, 99]⟩, .string ⟨#[120, 61, 121]⟩] 33)
  have b3 := bl_alloc (Below.refl (((w1.alloc (.cells #[.string ⟨#[42]⟩, .string ⟨#[98, 45, 49]⟩] 9)).alloc (.cells #[.string ⟨#[104, 111, 115, 116]⟩, .string ⟨#[109, 101, 116, 114, 105, 99]⟩, .string ⟨#[95]⟩, .string ⟨#[109, 101, 116, 114, 105, 99, 42]⟩] 9)).alloc (.cells #[.string ⟨#[100, 99]⟩, .string ⟨#[120, 61, 121]⟩] 33)).heap.size _) (.cells #[.slice (some ⟨w1.heap.size, 0, none⟩) 2 2, .slice (some ⟨w1.heap.size + 1, 0, none⟩) 4 4, .slice (some ⟨w1.heap.size + 1 + 1, 0, none⟩) 1 1] 25)
  have b23 := bl_any b2 b3
  have b13 := bl_any b1 b23
  have j1 := (k1.below b13).more b13.size
  have j2 := (k2.below b23).more b23.size
  have j3 := (k3.below b3).more b3.size
  rw [e3] at z
  have q2 := j2
  rw [e1] at q2
  have q3 := j3
  rw [e2] at q3
  exact ⟨⟨j1, q2, q3⟩, z, bl_alloc (bl_alloc (bl_alloc (bl_alloc (Below.refl _ _) _) _) _) _⟩
set_option maxRecDepth 100000 in
set_option maxHeartbeats 12800000 in
theorem spoils23_0 (a0 m : Int) (w : World) (hm : MxAt w m) (hw : 0 ≤ a0 ∧ a0 < 256) (ha : a0 % 11 = 0) :
    Calls Tryz.prog 7 #[.int .u8 a0] w fun e w' => e = .returned (.bool true) ∧ Below w.heap.size w w' := by
  have hd : Int.tmod a0 11 = 0 := by rw [Int.tmod_eq_emod_of_nonneg hw.1]; exact ha
  have kR : ∀ w1 : World, Calls Tryz.prog 17 #[.agg #[.slice (some ⟨w1.heap.size, 0, none⟩) 2 2, .slice (some ⟨w1.heap.size + 1, 0, none⟩) 4 4, .slice (some ⟨w1.heap.size + 1 + 1, 0, none⟩) 1 1]] ((((w1.alloc (.cells #[.string ⟨#[42]⟩, .string ⟨#[98, 45, 49]⟩] 9)).alloc (.cells #[.string ⟨#[104, 111, 115, 116]⟩, .string ⟨#[109, 101, 116, 114, 105, 99]⟩, .string ⟨#[95]⟩, .string ⟨#[109, 101, 116, 114, 105, 99, 42]⟩] 9)).alloc (.cells #[.string ⟨#[100, 99]⟩, .string ⟨#[120, 61, 121]⟩] 33)).alloc (.cells #[.slice (some ⟨w1.heap.size, 0, none⟩) 2 2, .slice (some ⟨w1.heap.size + 1, 0, none⟩) 4 4, .slice (some ⟨w1.heap.size + 1 + 1, 0, none⟩) 1 1] 25)) fun e w' => e = .returned (.bool true) ∧ Below w1.heap.size w1 w' ∧ RuleAt w' w'.heap.size (⟨sR, some ⟨w1.heap.size, 0, none⟩, 2, some ⟨w1.heap.size + 1, 0, none⟩, 4, some ⟨w1.heap.size + 1 + 1, 0, none⟩, 1⟩ : VRule) ∧ Blk w' (w1.heap.size + 1 + 1 + 1) 25 #[.slice (some ⟨w1.heap.size, 0, none⟩) 2 2, .slice (some ⟨w1.heap.size + 1, 0, none⟩) 4 4, .slice (some ⟨w1.heap.size + 1 + 1, 0, none⟩) 1 1] := fun w1 => by
    obtain ⟨h1, h2, h3⟩ := spoilR w1
    have k := tgood_any (⟨sR, some ⟨w1.heap.size, 0, none⟩, 2, some ⟨w1.heap.size + 1, 0, none⟩, 4, some ⟨w1.heap.size + 1 + 1, 0, none⟩, 1⟩ : VRule) _ h1 sRok
    rw [show goodR (⟨sR, some ⟨w1.heap.size, 0, none⟩, 2, some ⟨w1.heap.size + 1, 0, none⟩, 4, some ⟨w1.heap.size + 1 + 1, 0, none⟩, 1⟩ : VRule).rule = true from sRg] at k
    exact k.mono fun e w' ⟨i1, i2⟩ => ⟨i1, bl_any h3 i2, h1.bel i2, h2.below i2 (Blk.lt h2)⟩
  have kG : ∀ w1 w2 W : World, RuleAt W W.heap.size (⟨sQ0, some ⟨w1.heap.size, 0, none⟩, 2, some ⟨w2.heap.size + 1, 0, none⟩, 4, some ⟨w1.heap.size + 1 + 1, 0, none⟩, 1⟩ : VRule) → Calls Tryz.prog 17 #[.agg #[.slice (some ⟨w1.heap.size, 0, none⟩) 2 2, .slice (some ⟨w2.heap.size + 1, 0, none⟩) 4 4, .slice (some ⟨w1.heap.size + 1 + 1, 0, none⟩) 1 1]] W fun e w' => e = .returned (.bool false) ∧ Below W.heap.size W w' := fun w1 w2 W h => by
    have k := tgood_any (⟨sQ0, some ⟨w1.heap.size, 0, none⟩, 2, some ⟨w2.heap.size + 1, 0, none⟩, 4, some ⟨w1.heap.size + 1 + 1, 0, none⟩, 1⟩ : VRule) W h sQ0ok
    rw [show goodR (⟨sQ0, some ⟨w1.heap.size, 0, none⟩, 2, some ⟨w2.heap.size + 1, 0, none⟩, 4, some ⟨w1.heap.size + 1 + 1, 0, none⟩, 1⟩ : VRule).rule = false from sQ0g] at k
    exact k
  have kM : ∀ w1 w2 W : World, RuleAt W W.heap.size (⟨sQ0, some ⟨w1.heap.size, 0, none⟩, 2, some ⟨w2.heap.size + 1, 0, none⟩, 4, some ⟨w1.heap.size + 1 + 1, 0, none⟩, 1⟩ : VRule) → MxAt W m → Calls Tryz.prog 10 #[.agg #[.slice (some ⟨w1.heap.size, 0, none⟩) 2 2, .slice (some ⟨w2.heap.size + 1, 0, none⟩) 4 4, .slice (some ⟨w1.heap.size + 1 + 1, 0, none⟩) 1 1], .string ⟨#[97, 46, 98, 45, 49, 46, 99, 46, 100]⟩] W fun e w' => e = .returned (.bool false) ∧ Below W.heap.size W w' := fun w1 w2 W h hm => by
    have k := match_any (⟨sQ0, some ⟨w1.heap.size, 0, none⟩, 2, some ⟨w2.heap.size + 1, 0, none⟩, 4, some ⟨w1.heap.size + 1 + 1, 0, none⟩, 1⟩ : VRule) ⟨#[97, 46, 98, 45, 49, 46, 99, 46, 100]⟩ m W h sQ0ok hm (by decide)
    rw [show matchT (⟨sQ0, some ⟨w1.heap.size, 0, none⟩, 2, some ⟨w2.heap.size + 1, 0, none⟩, 4, some ⟨w1.heap.size + 1 + 1, 0, none⟩, 1⟩ : VRule).rule _ = false from sQ0m] at k
    exact k
  have kM0 : ∀ w1 W : World, RuleAt W W.heap.size (⟨sR, some ⟨w1.heap.size, 0, none⟩, 2, some ⟨w1.heap.size + 1, 0, none⟩, 4, some ⟨w1.heap.size + 1 + 1, 0, none⟩, 1⟩ : VRule) → MxAt W m → Calls Tryz.prog 10 #[.agg #[.slice (some ⟨w1.heap.size, 0, none⟩) 2 2, .slice (some ⟨w1.heap.size + 1, 0, none⟩) 4 4, .slice (some ⟨w1.heap.size + 1 + 1, 0, none⟩) 1 1], .string ⟨#[97, 46, 98, 45, 49, 46, 99, 46, 100]⟩] W fun e w' => e = .returned (.bool true) ∧ Below W.heap.size W w' := fun w1 W h hm => by
    have k := match_any (⟨sR, some ⟨w1.heap.size, 0, none⟩, 2, some ⟨w1.heap.size + 1, 0, none⟩, 4, some ⟨w1.heap.size + 1 + 1, 0, none⟩, 1⟩ : VRule) ⟨#[97, 46, 98, 45, 49, 46, 99, 46, 100]⟩ m W h sRok hm (by decide)
    rw [show matchT (⟨sR, some ⟨w1.heap.size, 0, none⟩, 2, some ⟨w1.heap.size + 1, 0, none⟩, 4, some ⟨w1.heap.size + 1 + 1, 0, none⟩, 1⟩ : VRule).rule _ = true from sRm0] at k
    exact k
  have kM1 : ∀ w1 W : World, RuleAt W W.heap.size (⟨sR, some ⟨w1.heap.size, 0, none⟩, 2, some ⟨w1.heap.size + 1, 0, none⟩, 4, some ⟨w1.heap.size + 1 + 1, 0, none⟩, 1⟩ : VRule) → MxAt W m → Calls Tryz.prog 10 #[.agg #[.slice (some ⟨w1.heap.size, 0, none⟩) 2 2, .slice (some ⟨w1.heap.size + 1, 0, none⟩) 4 4, .slice (some ⟨w1.heap.size + 1 + 1, 0, none⟩) 1 1], .string ⟨#[97, 46, 98, 45, 50, 46, 99, 46, 100]⟩] W fun e w' => e = .returned (.bool false) ∧ Below W.heap.size W w' := fun w1 W h hm => by
    have k := match_any (⟨sR, some ⟨w1.heap.size, 0, none⟩, 2, some ⟨w1.heap.size + 1, 0, none⟩, 4, some ⟨w1.heap.size + 1 + 1, 0, none⟩, 1⟩ : VRule) ⟨#[97, 46, 98, 45, 50, 46, 99, 46, 100]⟩ m W h sRok hm (by decide)
    rw [show matchT (⟨sR, some ⟨w1.heap.size, 0, none⟩, 2, some ⟨w1.heap.size + 1, 0, none⟩, 4, some ⟨w1.heap.size + 1 + 1, 0, none⟩, 1⟩ : VRule).rule _ = false from sRm1] at k
    exact k
  have kM2 : ∀ w1 W : World, RuleAt W W.heap.size (⟨sR, some ⟨w1.heap.size, 0, none⟩, 2, some ⟨w1.heap.size + 1, 0, none⟩, 4, some ⟨w1.heap.size + 1 + 1, 0, none⟩, 1⟩ : VRule) → MxAt W m → Calls Tryz.prog 10 #[.agg #[.slice (some ⟨w1.heap.size, 0, none⟩) 2 2, .slice (some ⟨w1.heap.size + 1, 0, none⟩) 4 4, .slice (some ⟨w1.heap.size + 1 + 1, 0, none⟩) 1 1], .string ⟨#[97, 46, 98, 45, 49, 46, 99]⟩] W fun e w' => e = .returned (.bool false) ∧ Below W.heap.size W w' := fun w1 W h hm => by
    have k := match_any (⟨sR, some ⟨w1.heap.size, 0, none⟩, 2, some ⟨w1.heap.size + 1, 0, none⟩, 4, some ⟨w1.heap.size + 1 + 1, 0, none⟩, 1⟩ : VRule) ⟨#[97, 46, 98, 45, 49, 46, 99]⟩ m W h sRok hm (by decide)
    rw [show matchT (⟨sR, some ⟨w1.heap.size, 0, none⟩, 2, some ⟨w1.heap.size + 1, 0, none⟩, 4, some ⟨w1.heap.size + 1 + 1, 0, none⟩, 1⟩ : VRule).rule _ = false from sRm2] at k
    exact k
  go_enter Tryz.func7, Tryz.ntmps7
  go_upto_region 6 with (first
    | (go_at_call 8; (with_reducible refine (known23_any m _ hm).mono ?_); rintro e w1 ⟨rfl, hb1⟩)
    | (go_at_call 17; (with_reducible refine (kR w1).mono ?_); rintro e w2 ⟨rfl, hb2, hr2, z2⟩))
  have p0 := (Blk.cell z2 0).trans rfl
  have p1 := (Blk.cell z2 1).trans rfl
  have p2 := (Blk.cell z2 2).trans rfl
  have hm2 : MxAt w2 m := hm.below (bl_any hb1 hb2)
  have hbw := bl_any hb1 hb2
  clear hm kR
  go_upto_region 29 with fail
  obtain ⟨hq3, y3, hbq⟩ : RuleAt ((w2.alloc (.cells #[.slice (some ⟨w1.heap.size, 0, none⟩) 2 2, .slice (some ⟨w2.heap.size + 1, 0, none⟩) 4 4, .slice (some ⟨w1.heap.size + 1 + 1, 0, none⟩) 1 1] 25)).alloc (.cells #[.string ⟨#[104, 111, 115, 116]⟩, .string ⟨#[95]⟩, .string ⟨#[98]⟩, .string ⟨#[99]⟩] 9)) ((w2.alloc (.cells #[.slice (some ⟨w1.heap.size, 0, none⟩) 2 2, .slice (some ⟨w2.heap.size + 1, 0, none⟩) 4 4, .slice (some ⟨w1.heap.size + 1 + 1, 0, none⟩) 1 1] 25)).alloc (.cells #[.string ⟨#[104, 111, 115, 116]⟩, .string ⟨#[95]⟩, .string ⟨#[98]⟩, .string ⟨#[99]⟩] 9)).heap.size (⟨sQ0, some ⟨w1.heap.size, 0, none⟩, 2, some ⟨w2.heap.size + 1, 0, none⟩, 4, some ⟨w1.heap.size + 1 + 1, 0, none⟩, 1⟩ : VRule) ∧ Blk ((w2.alloc (.cells #[.slice (some ⟨w1.heap.size, 0, none⟩) 2 2, .slice (some ⟨w2.heap.size + 1, 0, none⟩) 4 4, .slice (some ⟨w1.heap.size + 1 + 1, 0, none⟩) 1 1] 25)).alloc (.cells #[.string ⟨#[104, 111, 115, 116]⟩, .string ⟨#[95]⟩, .string ⟨#[98]⟩, .string ⟨#[99]⟩] 9)) w2.heap.size 25 #[.slice (some ⟨w1.heap.size, 0, none⟩) 2 2, .slice (some ⟨w2.heap.size + 1, 0, none⟩) 4 4, .slice (some ⟨w1.heap.size + 1 + 1, 0, none⟩) 1 1] ∧ Below w2.heap.size w2 ((w2.alloc (.cells #[.slice (some ⟨w1.heap.size, 0, none⟩) 2 2, .slice (some ⟨w2.heap.size + 1, 0, none⟩) 4 4, .slice (some ⟨w1.heap.size + 1 + 1, 0, none⟩) 1 1] 25)).alloc (.cells #[.string ⟨#[104, 111, 115, 116]⟩, .string ⟨#[95]⟩, .string ⟨#[98]⟩, .string ⟨#[99]⟩] 9)) := spoil_p w2 (⟨sR, some ⟨w1.heap.size, 0, none⟩, 2, some ⟨w1.heap.size + 1, 0, none⟩, 4, some ⟨w1.heap.size + 1 + 1, 0, none⟩, 1⟩ : VRule) hr2 [⟨#[104, 111, 115, 116]⟩, ⟨#[95]⟩, ⟨#[98]⟩, ⟨#[99]⟩] #[.string ⟨#[104, 111, 115, 116]⟩, .string ⟨#[95]⟩, .string ⟨#[98]⟩, .string ⟨#[99]⟩] 9 rfl
  have hr3 := hr2.bel hbq
  have z3 := z2.below hbq (Blk.lt z2)
  have hm3 := hm2.below hbq
  have hbw3 := bl_any hbw hbq
  generalize ((w2.alloc (.cells #[.slice (some ⟨w1.heap.size, 0, none⟩) 2 2, .slice (some ⟨w2.heap.size + 1, 0, none⟩) 4 4, .slice (some ⟨w1.heap.size + 1 + 1, 0, none⟩) 1 1] 25)).alloc (.cells #[.string ⟨#[104, 111, 115, 116]⟩, .string ⟨#[95]⟩, .string ⟨#[98]⟩, .string ⟨#[99]⟩] 9)) = w3 at *
  clear p0 p1 p2 hr2 z2 hm2 hbq
  have q30 := (Blk.cell y3 0).trans rfl; have q31 := (Blk.cell y3 1).trans rfl; have q32 := (Blk.cell y3 2).trans rfl; have p30 := (Blk.cell z3 0).trans rfl; have p31 := (Blk.cell z3 1).trans rfl; have p32 := (Blk.cell z3 2).trans rfl
  go_wp2_with (first
    | (go_at_call 17; (with_reducible refine (kG w1 w2 _ hq3).mono ?_); rintro e w4 ⟨rfl, hb4⟩; have hq4 := hq3.bel hb4; have hr4 := hr3.bel hb4; have y4 := y3.below hb4 (Blk.lt y3); have z4 := z3.below hb4 (Blk.lt z3); have hm4 := hm3.below hb4; have hbw4 := bl_any hbw3 hb4; have q40 := (Blk.cell y4 0).trans rfl; have q41 := (Blk.cell y4 1).trans rfl; have q42 := (Blk.cell y4 2).trans rfl; have p40 := (Blk.cell z4 0).trans rfl; have p41 := (Blk.cell z4 1).trans rfl; have p42 := (Blk.cell z4 2).trans rfl)
    | (go_at_call 10; (with_reducible refine (kM w1 w2 _ hq4 hm4).mono ?_); rintro e w5 ⟨rfl, hb5⟩; have hq5 := hq4.bel hb5; have hr5 := hr4.bel hb5; have y5 := y4.below hb5 (Blk.lt y4); have z5 := z4.below hb5 (Blk.lt z4); have hm5 := hm4.below hb5; have hbw5 := bl_any hbw4 hb5; have q50 := (Blk.cell y5 0).trans rfl; have q51 := (Blk.cell y5 1).trans rfl; have q52 := (Blk.cell y5 2).trans rfl; have p50 := (Blk.cell z5 0).trans rfl; have p51 := (Blk.cell z5 1).trans rfl; have p52 := (Blk.cell z5 2).trans rfl)
    | (go_at_call 10; (with_reducible refine (kM0 _ _ hr5 hm5).mono ?_); rintro e w6 ⟨rfl, hb6⟩; have hq6 := hq5.bel hb6; have hr6 := hr5.bel hb6; have y6 := y5.below hb6 (Blk.lt y5); have z6 := z5.below hb6 (Blk.lt z5); have hm6 := hm5.below hb6; have hbw6 := bl_any hbw5 hb6; have q60 := (Blk.cell y6 0).trans rfl; have q61 := (Blk.cell y6 1).trans rfl; have q62 := (Blk.cell y6 2).trans rfl; have p60 := (Blk.cell z6 0).trans rfl; have p61 := (Blk.cell z6 1).trans rfl; have p62 := (Blk.cell z6 2).trans rfl)
    | (go_at_call 10; (with_reducible refine (kM1 _ _ hr6 hm6).mono ?_); rintro e w7 ⟨rfl, hb7⟩; have hq7 := hq6.bel hb7; have hr7 := hr6.bel hb7; have y7 := y6.below hb7 (Blk.lt y6); have z7 := z6.below hb7 (Blk.lt z6); have hm7 := hm6.below hb7; have hbw7 := bl_any hbw6 hb7; have q70 := (Blk.cell y7 0).trans rfl; have q71 := (Blk.cell y7 1).trans rfl; have q72 := (Blk.cell y7 2).trans rfl; have p70 := (Blk.cell z7 0).trans rfl; have p71 := (Blk.cell z7 1).trans rfl; have p72 := (Blk.cell z7 2).trans rfl)
    | (go_at_call 10; (with_reducible refine (kM2 _ _ hr7 hm7).mono ?_); rintro e w8 ⟨rfl, hb8⟩; have hq8 := hq7.bel hb8; have hr8 := hr7.bel hb8; have y8 := y7.below hb8 (Blk.lt y7); have z8 := z7.below hb8 (Blk.lt z7); have hm8 := hm7.below hb8; have hbw8 := bl_any hbw7 hb8; have q80 := (Blk.cell y8 0).trans rfl; have q81 := (Blk.cell y8 1).trans rfl; have q82 := (Blk.cell y8 2).trans rfl; have p80 := (Blk.cell z8 0).trans rfl; have p81 := (Blk.cell z8 1).trans rfl; have p82 := (Blk.cell z8 2).trans rfl))
  go_ret
  exact ⟨rfl, hbw8⟩
set_option maxRecDepth 100000 in
set_option maxHeartbeats 12800000 in
theorem spoils23_1 (a0 m : Int) (w : World) (hm : MxAt w m) (hw : 0 ≤ a0 ∧ a0 < 256) (ha : a0 % 11 = 1) :
    Calls Tryz.prog 7 #[.int .u8 a0] w fun e w' => e = .returned (.bool true) ∧ Below w.heap.size w w' := by
  have hd : Int.tmod a0 11 = 1 := by rw [Int.tmod_eq_emod_of_nonneg hw.1]; exact ha
  have kR : ∀ w1 : World, Calls Tryz.prog 17 #[.agg #[.slice (some ⟨w1.heap.size, 0, none⟩) 2 2, .slice (some ⟨w1.heap.size + 1, 0, none⟩) 4 4, .slice (some ⟨w1.heap.size + 1 + 1, 0, none⟩) 1 1]] ((((w1.alloc (.cells #[.string ⟨#[42]⟩, .string ⟨#[98, 45, 49]⟩] 9)).alloc (.cells #[.string ⟨#[104, 111, 115, 116]⟩, .string ⟨#[109, 101, 116, 114, 105, 99]⟩, .string ⟨#[95]⟩, .string ⟨#[109, 101, 116, 114, 105, 99, 42]⟩] 9)).alloc (.cells #[.string ⟨#[100, 99]⟩, .string ⟨#[120, 61, 121]⟩] 33)).alloc (.cells #[.slice (some ⟨w1.heap.size, 0, none⟩) 2 2, .slice (some ⟨w1.heap.size + 1, 0, none⟩) 4 4, .slice (some ⟨w1.heap.size + 1 + 1, 0, none⟩) 1 1] 25)) fun e w' => e = .returned (.bool true) ∧ Below w1.heap.size w1 w' ∧ RuleAt w' w'.heap.size (⟨sR, some ⟨w1.heap.size, 0, none⟩, 2, some ⟨w1.heap.size + 1, 0, none⟩, 4, some ⟨w1.heap.size + 1 + 1, 0, none⟩, 1⟩ : VRule) ∧ Blk w' (w1.heap.size + 1 + 1 + 1) 25 #[.slice (some ⟨w1.heap.size, 0, none⟩) 2 2, .slice (some ⟨w1.heap.size + 1, 0, none⟩) 4 4, .slice (some ⟨w1.heap.size + 1 + 1, 0, none⟩) 1 1] := fun w1 => by
    obtain ⟨h1, h2, h3⟩ := spoilR w1
    have k := tgood_any (⟨sR, some ⟨w1.heap.size, 0, none⟩, 2, some ⟨w1.heap.size + 1, 0, none⟩, 4, some ⟨w1.heap.size + 1 + 1, 0, none⟩, 1⟩ : VRule) _ h1 sRok
    rw [show goodR (⟨sR, some ⟨w1.heap.size, 0, none⟩, 2, some ⟨w1.heap.size + 1, 0, none⟩, 4, some ⟨w1.heap.size + 1 + 1, 0, none⟩, 1⟩ : VRule).rule = true from sRg] at k
    exact k.mono fun e w' ⟨i1, i2⟩ => ⟨i1, bl_any h3 i2, h1.bel i2, h2.below i2 (Blk.lt h2)⟩
  have kG : ∀ w1 w2 W : World, RuleAt W W.heap.size (⟨sQ1, some ⟨w1.heap.size, 0, none⟩, 2, some ⟨w2.heap.size + 1, 0, none⟩, 4, some ⟨w1.heap.size + 1 + 1, 0, none⟩, 1⟩ : VRule) → Calls Tryz.prog 17 #[.agg #[.slice (some ⟨w1.heap.size, 0, none⟩) 2 2, .slice (some ⟨w2.heap.size + 1, 0, none⟩) 4 4, .slice (some ⟨w1.heap.size + 1 + 1, 0, none⟩) 1 1]] W fun e w' => e = .returned (.bool false) ∧ Below W.heap.size W w' := fun w1 w2 W h => by
    have k := tgood_any (⟨sQ1, some ⟨w1.heap.size, 0, none⟩, 2, some ⟨w2.heap.size + 1, 0, none⟩, 4, some ⟨w1.heap.size + 1 + 1, 0, none⟩, 1⟩ : VRule) W h sQ1ok
    rw [show goodR (⟨sQ1, some ⟨w1.heap.size, 0, none⟩, 2, some ⟨w2.heap.size + 1, 0, none⟩, 4, some ⟨w1.heap.size + 1 + 1, 0, none⟩, 1⟩ : VRule).rule = false from sQ1g] at k
    exact k
  have kM : ∀ w1 w2 W : World, RuleAt W W.heap.size (⟨sQ1, some ⟨w1.heap.size, 0, none⟩, 2, some ⟨w2.heap.size + 1, 0, none⟩, 4, some ⟨w1.heap.size + 1 + 1, 0, none⟩, 1⟩ : VRule) → MxAt W m → Calls Tryz.prog 10 #[.agg #[.slice (some ⟨w1.heap.size, 0, none⟩) 2 2, .slice (some ⟨w2.heap.size + 1, 0, none⟩) 4 4, .slice (some ⟨w1.heap.size + 1 + 1, 0, none⟩) 1 1], .string ⟨#[97, 46, 98, 45, 49, 46, 99, 46, 100]⟩] W fun e w' => e = .returned (.bool false) ∧ Below W.heap.size W w' := fun w1 w2 W h hm => by
    have k := match_any (⟨sQ1, some ⟨w1.heap.size, 0, none⟩, 2, some ⟨w2.heap.size + 1, 0, none⟩, 4, some ⟨w1.heap.size + 1 + 1, 0, none⟩, 1⟩ : VRule) ⟨#[97, 46, 98, 45, 49, 46, 99, 46, 100]⟩ m W h sQ1ok hm (by decide)
    rw [show matchT (⟨sQ1, some ⟨w1.heap.size, 0, none⟩, 2, some ⟨w2.heap.size + 1, 0, none⟩, 4, some ⟨w1.heap.size + 1 + 1, 0, none⟩, 1⟩ : VRule).rule _ = false from sQ1m] at k
    exact k
  have kM0 : ∀ w1 W : World, RuleAt W W.heap.size (⟨sR, some ⟨w1.heap.size, 0, none⟩, 2, some ⟨w1.heap.size + 1, 0, none⟩, 4, some ⟨w1.heap.size + 1 + 1, 0, none⟩, 1⟩ : VRule) → MxAt W m → Calls Tryz.prog 10 #[.agg #[.slice (some ⟨w1.heap.size, 0, none⟩) 2 2, .slice (some ⟨w1.heap.size + 1, 0, none⟩) 4 4, .slice (some ⟨w1.heap.size + 1 + 1, 0, none⟩) 1 1], .string ⟨#[97, 46, 98, 45, 49, 46, 99, 46, 100]⟩] W fun e w' => e = .returned (.bool true) ∧ Below W.heap.size W w' := fun w1 W h hm => by
    have k := match_any (⟨sR, some ⟨w1.heap.size, 0, none⟩, 2, some ⟨w1.heap.size + 1, 0, none⟩, 4, some ⟨w1.heap.size + 1 + 1, 0, none⟩, 1⟩ : VRule) ⟨#[97, 46, 98, 45, 49, 46, 99, 46, 100]⟩ m W h sRok hm (by decide)
    rw [show matchT (⟨sR, some ⟨w1.heap.size, 0, none⟩, 2, some ⟨w1.heap.size + 1, 0, none⟩, 4, some ⟨w1.heap.size + 1 + 1, 0, none⟩, 1⟩ : VRule).rule _ = true from sRm0] at k
    exact k
  have kM1 : ∀ w1 W : World, RuleAt W W.heap.size (⟨sR, some ⟨w1.heap.size, 0, none⟩, 2, some ⟨w1.heap.size + 1, 0, none⟩, 4, some ⟨w1.heap.size + 1 + 1, 0, none⟩, 1⟩ : VRule) → MxAt W m → Calls Tryz.prog 10 #[.agg #[.slice (some ⟨w1.heap.size, 0, none⟩) 2 2, .slice (some ⟨w1.heap.size + 1, 0, none⟩) 4 4, .slice (some ⟨w1.heap.size + 1 + 1, 0, none⟩) 1 1], .string ⟨#[97, 46, 98, 45, 50, 46, 99, 46, 100]⟩] W fun e w' => e = .returned (.bool false) ∧ Below W.heap.size W w' := fun w1 W h hm => by
    have k := match_any (⟨sR, some ⟨w1.heap.size, 0, none⟩, 2, some ⟨w1.heap.size + 1, 0, none⟩, 4, some ⟨w1.heap.size + 1 + 1, 0, none⟩, 1⟩ : VRule) ⟨#[97, 46, 98, 45, 50, 46, 99, 46, 100]⟩ m W h sRok hm (by decide)
    rw [show matchT (⟨sR, some ⟨w1.heap.size, 0, none⟩, 2, some ⟨w1.heap.size + 1, 0, none⟩, 4, some ⟨w1.heap.size + 1 + 1, 0, none⟩, 1⟩ : VRule).rule _ = false from sRm1] at k
    exact k
  have kM2 : ∀ w1 W : World, RuleAt W W.heap.size (⟨sR, some ⟨w1.heap.size, 0, none⟩, 2, some ⟨w1.heap.size + 1, 0, none⟩, 4, some ⟨w1.heap.size + 1 + 1, 0, none⟩, 1⟩ : VRule) → MxAt W m → Calls Tryz.prog 10 #[.agg #[.slice (some ⟨w1.heap.size, 0, none⟩) 2 2, .slice (some ⟨w1.heap.size + 1, 0, none⟩) 4 4, .slice (some ⟨w1.heap.size + 1 + 1, 0, none⟩) 1 1], .string ⟨#[97, 46, 98, 45, 49, 46, 99]⟩] W fun e w' => e = .returned (.bool false) ∧ Below W.heap.size W w' := fun w1 W h hm => by
    have k := match_any (⟨sR, some ⟨w1.heap.size, 0, none⟩, 2, some ⟨w1.heap.size + 1, 0, none⟩, 4, some ⟨w1.heap.size + 1 + 1, 0, none⟩, 1⟩ : VRule) ⟨#[97, 46, 98, 45, 49, 46, 99]⟩ m W h sRok hm (by decide)
    rw [show matchT (⟨sR, some ⟨w1.heap.size, 0, none⟩, 2, some ⟨w1.heap.size + 1, 0, none⟩, 4, some ⟨w1.heap.size + 1 + 1, 0, none⟩, 1⟩ : VRule).rule _ = false from sRm2] at k
    exact k
  go_enter Tryz.func7, Tryz.ntmps7
  go_upto_region 6 with (first
    | (go_at_call 8; (with_reducible refine (known23_any m _ hm).mono ?_); rintro e w1 ⟨rfl, hb1⟩)
    | (go_at_call 17; (with_reducible refine (kR w1).mono ?_); rintro e w2 ⟨rfl, hb2, hr2, z2⟩))
  have p0 := (Blk.cell z2 0).trans rfl
  have p1 := (Blk.cell z2 1).trans rfl
  have p2 := (Blk.cell z2 2).trans rfl
  have hm2 : MxAt w2 m := hm.below (bl_any hb1 hb2)
  have hbw := bl_any hb1 hb2
  clear hm kR
  go_upto_region 29 with fail
  obtain ⟨hq3, y3, hbq⟩ : RuleAt ((w2.alloc (.cells #[.slice (some ⟨w1.heap.size, 0, none⟩) 2 2, .slice (some ⟨w2.heap.size + 1, 0, none⟩) 4 4, .slice (some ⟨w1.heap.size + 1 + 1, 0, none⟩) 1 1] 25)).alloc (.cells #[.string ⟨#[104, 111, 115, 116]⟩, .string ⟨#[109, 101, 116, 114, 105, 99, 42]⟩, .string ⟨#[109, 101, 116, 114, 105, 99]⟩, .string ⟨#[99]⟩] 9)) ((w2.alloc (.cells #[.slice (some ⟨w1.heap.size, 0, none⟩) 2 2, .slice (some ⟨w2.heap.size + 1, 0, none⟩) 4 4, .slice (some ⟨w1.heap.size + 1 + 1, 0, none⟩) 1 1] 25)).alloc (.cells #[.string ⟨#[104, 111, 115, 116]⟩, .string ⟨#[109, 101, 116, 114, 105, 99, 42]⟩, .string ⟨#[109, 101, 116, 114, 105, 99]⟩, .string ⟨#[99]⟩] 9)).heap.size (⟨sQ1, some ⟨w1.heap.size, 0, none⟩, 2, some ⟨w2.heap.size + 1, 0, none⟩, 4, some ⟨w1.heap.size + 1 + 1, 0, none⟩, 1⟩ : VRule) ∧ Blk ((w2.alloc (.cells #[.slice (some ⟨w1.heap.size, 0, none⟩) 2 2, .slice (some ⟨w2.heap.size + 1, 0, none⟩) 4 4, .slice (some ⟨w1.heap.size + 1 + 1, 0, none⟩) 1 1] 25)).alloc (.cells #[.string ⟨#[104, 111, 115, 116]⟩, .string ⟨#[109, 101, 116, 114, 105, 99, 42]⟩, .string ⟨#[109, 101, 116, 114, 105, 99]⟩, .string ⟨#[99]⟩] 9)) w2.heap.size 25 #[.slice (some ⟨w1.heap.size, 0, none⟩) 2 2, .slice (some ⟨w2.heap.size + 1, 0, none⟩) 4 4, .slice (some ⟨w1.heap.size + 1 + 1, 0, none⟩) 1 1] ∧ Below w2.heap.size w2 ((w2.alloc (.cells #[.slice (some ⟨w1.heap.size, 0, none⟩) 2 2, .slice (some ⟨w2.heap.size + 1, 0, none⟩) 4 4, .slice (some ⟨w1.heap.size + 1 + 1, 0, none⟩) 1 1] 25)).alloc (.cells #[.string ⟨#[104, 111, 115, 116]⟩, .string ⟨#[109, 101, 116, 114, 105, 99, 42]⟩, .string ⟨#[109, 101, 116, 114, 105, 99]⟩, .string ⟨#[99]⟩] 9)) := spoil_p w2 (⟨sR, some ⟨w1.heap.size, 0, none⟩, 2, some ⟨w1.heap.size + 1, 0, none⟩, 4, some ⟨w1.heap.size + 1 + 1, 0, none⟩, 1⟩ : VRule) hr2 [⟨#[104, 111, 115, 116]⟩, ⟨#[109, 101, 116, 114, 105, 99, 42]⟩, ⟨#[109, 101, 116, 114, 105, 99]⟩, ⟨#[99]⟩] #[.string ⟨#[104, 111, 115, 116]⟩, .string ⟨#[109, 101, 116, 114, 105, 99, 42]⟩, .string ⟨#[109, 101, 116, 114, 105, 99]⟩, .string ⟨#[99]⟩] 9 rfl
  have hr3 := hr2.bel hbq
  have z3 := z2.below hbq (Blk.lt z2)
  have hm3 := hm2.below hbq
  have hbw3 := bl_any hbw hbq
  generalize ((w2.alloc (.cells #[.slice (some ⟨w1.heap.size, 0, none⟩) 2 2, .slice (some ⟨w2.heap.size + 1, 0, none⟩) 4 4, .slice (some ⟨w1.heap.size + 1 + 1, 0, none⟩) 1 1] 25)).alloc (.cells #[.string ⟨#[104, 111, 115, 116]⟩, .string ⟨#[109, 101, 116, 114, 105, 99, 42]⟩, .string ⟨#[109, 101, 116, 114, 105, 99]⟩, .string ⟨#[99]⟩] 9)) = w3 at *
  clear p0 p1 p2 hr2 z2 hm2 hbq
  have q30 := (Blk.cell y3 0).trans rfl; have q31 := (Blk.cell y3 1).trans rfl; have q32 := (Blk.cell y3 2).trans rfl; have p30 := (Blk.cell z3 0).trans rfl; have p31 := (Blk.cell z3 1).trans rfl; have p32 := (Blk.cell z3 2).trans rfl
  go_wp2_with (first
    | (go_at_call 17; (with_reducible refine (kG w1 w2 _ hq3).mono ?_); rintro e w4 ⟨rfl, hb4⟩; have hq4 := hq3.bel hb4; have hr4 := hr3.bel hb4; have y4 := y3.below hb4 (Blk.lt y3); have z4 := z3.below hb4 (Blk.lt z3); have hm4 := hm3.below hb4; have hbw4 := bl_any hbw3 hb4; have q40 := (Blk.cell y4 0).trans rfl; have q41 := (Blk.cell y4 1).trans rfl; have q42 := (Blk.cell y4 2).trans rfl; have p40 := (Blk.cell z4 0).trans rfl; have p41 := (Blk.cell z4 1).trans rfl; have p42 := (Blk.cell z4 2).trans rfl)
    | (go_at_call 10; (with_reducible refine (kM w1 w2 _ hq4 hm4).mono ?_); rintro e w5 ⟨rfl, hb5⟩; have hq5 := hq4.bel hb5; have hr5 := hr4.bel hb5; have y5 := y4.below hb5 (Blk.lt y4); have z5 := z4.below hb5 (Blk.lt z4); have hm5 := hm4.below hb5; have hbw5 := bl_any hbw4 hb5; have q50 := (Blk.cell y5 0).trans rfl; have q51 := (Blk.cell y5 1).trans rfl; have q52 := (Blk.cell y5 2).trans rfl; have p50 := (Blk.cell z5 0).trans rfl; have p51 := (Blk.cell z5 1).trans rfl; have p52 := (Blk.cell z5 2).trans rfl)
    | (go_at_call 10; (with_reducible refine (kM0 _ _ hr5 hm5).mono ?_); rintro e w6 ⟨rfl, hb6⟩; have hq6 := hq5.bel hb6; have hr6 := hr5.bel hb6; have y6 := y5.below hb6 (Blk.lt y5); have z6 := z5.below hb6 (Blk.lt z5); have hm6 := hm5.below hb6; have hbw6 := bl_any hbw5 hb6; have q60 := (Blk.cell y6 0).trans rfl; have q61 := (Blk.cell y6 1).trans rfl; have q62 := (Blk.cell y6 2).trans rfl; have p60 := (Blk.cell z6 0).trans rfl; have p61 := (Blk.cell z6 1).trans rfl; have p62 := (Blk.cell z6 2).trans rfl)
    | (go_at_call 10; (with_reducible refine (kM1 _ _ hr6 hm6).mono ?_); rintro e w7 ⟨rfl, hb7⟩; have hq7 := hq6.bel hb7; have hr7 := hr6.bel hb7; have y7 := y6.below hb7 (Blk.lt y6); have z7 := z6.below hb7 (Blk.lt z6); have hm7 := hm6.below hb7; have hbw7 := bl_any hbw6 hb7; have q70 := (Blk.cell y7 0).trans rfl; have q71 := (Blk.cell y7 1).trans rfl; have q72 := (Blk.cell y7 2).trans rfl; have p70 := (Blk.cell z7 0).trans rfl; have p71 := (Blk.cell z7 1).trans rfl; have p72 := (Blk.cell z7 2).trans rfl)
    | (go_at_call 10; (with_reducible refine (kM2 _ _ hr7 hm7).mono ?_); rintro e w8 ⟨rfl, hb8⟩; have hq8 := hq7.bel hb8; have hr8 := hr7.bel hb8; have y8 := y7.below hb8 (Blk.lt y7); have z8 := z7.below hb8 (Blk.lt z7); have hm8 := hm7.below hb8; have hbw8 := bl_any hbw7 hb8; have q80 := (Blk.cell y8 0).trans rfl; have q81 := (Blk.cell y8 1).trans rfl; have q82 := (Blk.cell y8 2).trans rfl; have p80 := (Blk.cell z8 0).trans rfl; have p81 := (Blk.cell z8 1).trans rfl; have p82 := (Blk.cell z8 2).trans rfl))
  go_ret
  exact ⟨rfl, hbw8⟩
set_option maxRecDepth 100000 in
set_option maxHeartbeats 12800000 in
theorem spoils23_2 (a0 m : Int) (w : World) (hm : MxAt w m) (hw : 0 ≤ a0 ∧ a0 < 256) (ha : a0 % 11 = 2) :
    Calls Tryz.prog 7 #[.int .u8 a0] w fun e w' => e = .returned (.bool true) ∧ Below w.heap.size w w' := by
  have hd : Int.tmod a0 11 = 2 := by rw [Int.tmod_eq_emod_of_nonneg hw.1]; exact ha
  have kR : ∀ w1 : World, Calls Tryz.prog 17 #[.agg #[.slice (some ⟨w1.heap.size, 0, none⟩) 2 2, .slice (some ⟨w1.heap.size + 1, 0, none⟩) 4 4, .slice (some ⟨w1.heap.size + 1 + 1, 0, none⟩) 1 1]] ((((w1.alloc (.cells #[.string ⟨#[42]⟩, .string ⟨#[98, 45, 49]⟩] 9)).alloc (.cells #[.string ⟨#[104, 111, 115, 116]⟩, .string ⟨#[109, 101, 116, 114, 105, 99]⟩, .string ⟨#[95]⟩, .string ⟨#[109, 101, 116, 114, 105, 99, 42]⟩] 9)).alloc (.cells #[.string ⟨#[100, 99]⟩, .string ⟨#[120, 61, 121]⟩] 33)).alloc (.cells #[.slice (some ⟨w1.heap.size, 0, none⟩) 2 2, .slice (some ⟨w1.heap.size + 1, 0, none⟩) 4 4, .slice (some ⟨w1.heap.size + 1 + 1, 0, none⟩) 1 1] 25)) fun e w' => e = .returned (.bool true) ∧ Below w1.heap.size w1 w' ∧ RuleAt w' w'.heap.size (⟨sR, some ⟨w1.heap.size, 0, none⟩, 2, some ⟨w1.heap.size + 1, 0, none⟩, 4, some ⟨w1.heap.size + 1 + 1, 0, none⟩, 1⟩ : VRule) ∧ Blk w' (w1.heap.size + 1 + 1 + 1) 25 #[.slice (some ⟨w1.heap.size, 0, none⟩) 2 2, .slice (some ⟨w1.heap.size + 1, 0, none⟩) 4 4, .slice (some ⟨w1.heap.size + 1 + 1, 0, none⟩) 1 1] := fun w1 => by
    obtain ⟨h1, h2, h3⟩ := spoilR w1
    have k := tgood_any (⟨sR, some ⟨w1.heap.size, 0, none⟩, 2, some ⟨w1.heap.size + 1, 0, none⟩, 4, some ⟨w1.heap.size + 1 + 1, 0, none⟩, 1⟩ : VRule) _ h1 sRok
    rw [show goodR (⟨sR, some ⟨w1.heap.size, 0, none⟩, 2, some ⟨w1.heap.size + 1, 0, none⟩, 4, some ⟨w1.heap.size + 1 + 1, 0, none⟩, 1⟩ : VRule).rule = true from sRg] at k
    exact k.mono fun e w' ⟨i1, i2⟩ => ⟨i1, bl_any h3 i2, h1.bel i2, h2.below i2 (Blk.lt h2)⟩
  have kG : ∀ w1 w2 W : World, RuleAt W W.heap.size (⟨sQ2, some ⟨w1.heap.size, 0, none⟩, 2, some ⟨w2.heap.size + 1, 0, none⟩, 4, some ⟨w1.heap.size + 1 + 1, 0, none⟩, 1⟩ : VRule) → Calls Tryz.prog 17 #[.agg #[.slice (some ⟨w1.heap.size, 0, none⟩) 2 2, .slice (some ⟨w2.heap.size + 1, 0, none⟩) 4 4, .slice (some ⟨w1.heap.size + 1 + 1, 0, none⟩) 1 1]] W fun e w' => e = .returned (.bool false) ∧ Below W.heap.size W w' := fun w1 w2 W h => by
    have k := tgood_any (⟨sQ2, some ⟨w1.heap.size, 0, none⟩, 2, some ⟨w2.heap.size + 1, 0, none⟩, 4, some ⟨w1.heap.size + 1 + 1, 0, none⟩, 1⟩ : VRule) W h sQ2ok
    rw [show goodR (⟨sQ2, some ⟨w1.heap.size, 0, none⟩, 2, some ⟨w2.heap.size + 1, 0, none⟩, 4, some ⟨w1.heap.size + 1 + 1, 0, none⟩, 1⟩ : VRule).rule = false from sQ2g] at k
    exact k
  have kM : ∀ w1 w2 W : World, RuleAt W W.heap.size (⟨sQ2, some ⟨w1.heap.size, 0, none⟩, 2, some ⟨w2.heap.size + 1, 0, none⟩, 4, some ⟨w1.heap.size + 1 + 1, 0, none⟩, 1⟩ : VRule) → MxAt W m → Calls Tryz.prog 10 #[.agg #[.slice (some ⟨w1.heap.size, 0, none⟩) 2 2, .slice (some ⟨w2.heap.size + 1, 0, none⟩) 4 4, .slice (some ⟨w1.heap.size + 1 + 1, 0, none⟩) 1 1], .string ⟨#[97, 46, 98, 45, 49, 46, 99, 46, 100]⟩] W fun e w' => e = .returned (.bool false) ∧ Below W.heap.size W w' := fun w1 w2 W h hm => by
    have k := match_any (⟨sQ2, some ⟨w1.heap.size, 0, none⟩, 2, some ⟨w2.heap.size + 1, 0, none⟩, 4, some ⟨w1.heap.size + 1 + 1, 0, none⟩, 1⟩ : VRule) ⟨#[97, 46, 98, 45, 49, 46, 99, 46, 100]⟩ m W h sQ2ok hm (by decide)
    rw [show matchT (⟨sQ2, some ⟨w1.heap.size, 0, none⟩, 2, some ⟨w2.heap.size + 1, 0, none⟩, 4, some ⟨w1.heap.size + 1 + 1, 0, none⟩, 1⟩ : VRule).rule _ = false from sQ2m] at k
    exact k
  have kM0 : ∀ w1 W : World, RuleAt W W.heap.size (⟨sR, some ⟨w1.heap.size, 0, none⟩, 2, some ⟨w1.heap.size + 1, 0, none⟩, 4, some ⟨w1.heap.size + 1 + 1, 0, none⟩, 1⟩ : VRule) → MxAt W m → Calls Tryz.prog 10 #[.agg #[.slice (some ⟨w1.heap.size, 0, none⟩) 2 2, .slice (some ⟨w1.heap.size + 1, 0, none⟩) 4 4, .slice (some ⟨w1.heap.size + 1 + 1, 0, none⟩) 1 1], .string ⟨#[97, 46, 98, 45, 49, 46, 99, 46, 100]⟩] W fun e w' => e = .returned (.bool true) ∧ Below W.heap.size W w' := fun w1 W h hm => by
    have k := match_any (⟨sR, some ⟨w1.heap.size, 0, none⟩, 2, some ⟨w1.heap.size + 1, 0, none⟩, 4, some ⟨w1.heap.size + 1 + 1, 0, none⟩, 1⟩ : VRule) ⟨#[97, 46, 98, 45, 49, 46, 99, 46, 100]⟩ m W h sRok hm (by decide)
    rw [show matchT (⟨sR, some ⟨w1.heap.size, 0, none⟩, 2, some ⟨w1.heap.size + 1, 0, none⟩, 4, some ⟨w1.heap.size + 1 + 1, 0, none⟩, 1⟩ : VRule).rule _ = true from sRm0] at k
    exact k
  have kM1 : ∀ w1 W : World, RuleAt W W.heap.size (⟨sR, some ⟨w1.heap.size, 0, none⟩, 2, some ⟨w1.heap.size + 1, 0, none⟩, 4, some ⟨w1.heap.size + 1 + 1, 0, none⟩, 1⟩ : VRule) → MxAt W m → Calls Tryz.prog 10 #[.agg #[.slice (some ⟨w1.heap.size, 0, none⟩) 2 2, .slice (some ⟨w1.heap.size + 1, 0, none⟩) 4 4, .slice (some ⟨w1.heap.size + 1 + 1, 0, none⟩) 1 1], .string ⟨#[97, 46, 98, 45, 50, 46, 99, 46, 100]⟩] W fun e w' => e = .returned (.bool false) ∧ Below W.heap.size W w' := fun w1 W h hm => by
    have k := match_any (⟨sR, some ⟨w1.heap.size, 0, none⟩, 2, some ⟨w1.heap.size + 1, 0, none⟩, 4, some ⟨w1.heap.size + 1 + 1, 0, none⟩, 1⟩ : VRule) ⟨#[97, 46, 98, 45, 50, 46, 99, 46, 100]⟩ m W h sRok hm (by decide)
    rw [show matchT (⟨sR, some ⟨w1.heap.size, 0, none⟩, 2, some ⟨w1.heap.size + 1, 0, none⟩, 4, some ⟨w1.heap.size + 1 + 1, 0, none⟩, 1⟩ : VRule).rule _ = false from sRm1] at k
    exact k
  have kM2 : ∀ w1 W : World, RuleAt W W.heap.size (⟨sR, some ⟨w1.heap.size, 0, none⟩, 2, some ⟨w1.heap.size + 1, 0, none⟩, 4, some ⟨w1.heap.size + 1 + 1, 0, none⟩, 1⟩ : VRule) → MxAt W m → Calls Tryz.prog 10 #[.agg #[.slice (some ⟨w1.heap.size, 0, none⟩) 2 2, .slice (some ⟨w1.heap.size + 1, 0, none⟩) 4 4, .slice (some ⟨w1.heap.size + 1 + 1, 0, none⟩) 1 1], .string ⟨#[97, 46, 98, 45, 49, 46, 99]⟩] W fun e w' => e = .returned (.bool false) ∧ Below W.heap.size W w' := fun w1 W h hm => by
    have k := match_any (⟨sR, some ⟨w1.heap.size, 0, none⟩, 2, some ⟨w1.heap.size + 1, 0, none⟩, 4, some ⟨w1.heap.size + 1 + 1, 0, none⟩, 1⟩ : VRule) ⟨#[97, 46, 98, 45, 49, 46, 99]⟩ m W h sRok hm (by decide)
    rw [show matchT (⟨sR, some ⟨w1.heap.size, 0, none⟩, 2, some ⟨w1.heap.size + 1, 0, none⟩, 4, some ⟨w1.heap.size + 1 + 1, 0, none⟩, 1⟩ : VRule).rule _ = false from sRm2] at k
    exact k
  go_enter Tryz.func7, Tryz.ntmps7
  go_upto_region 6 with (first
    | (go_at_call 8; (with_reducible refine (known23_any m _ hm).mono ?_); rintro e w1 ⟨rfl, hb1⟩)
    | (go_at_call 17; (with_reducible refine (kR w1).mono ?_); rintro e w2 ⟨rfl, hb2, hr2, z2⟩))
  have p0 := (Blk.cell z2 0).trans rfl
  have p1 := (Blk.cell z2 1).trans rfl
  have p2 := (Blk.cell z2 2).trans rfl
  have hm2 : MxAt w2 m := hm.below (bl_any hb1 hb2)
  have hbw := bl_any hb1 hb2
  clear hm kR
  go_upto_region 29 with fail
  obtain ⟨hq3, y3, hbq⟩ : RuleAt ((w2.alloc (.cells #[.slice (some ⟨w1.heap.size, 0, none⟩) 2 2, .slice (some ⟨w2.heap.size + 1, 0, none⟩) 4 4, .slice (some ⟨w1.heap.size + 1 + 1, 0, none⟩) 1 1] 25)).alloc (.cells #[.string ⟨#[104, 111, 115, 116]⟩, .string ⟨#[109, 101, 116, 114, 105, 99]⟩, .string ⟨#[104, 111, 115, 116]⟩, .string ⟨#[99]⟩] 9)) ((w2.alloc (.cells #[.slice (some ⟨w1.heap.size, 0, none⟩) 2 2, .slice (some ⟨w2.heap.size + 1, 0, none⟩) 4 4, .slice (some ⟨w1.heap.size + 1 + 1, 0, none⟩) 1 1] 25)).alloc (.cells #[.string ⟨#[104, 111, 115, 116]⟩, .string ⟨#[109, 101, 116, 114, 105, 99]⟩, .string ⟨#[104, 111, 115, 116]⟩, .string ⟨#[99]⟩] 9)).heap.size (⟨sQ2, some ⟨w1.heap.size, 0, none⟩, 2, some ⟨w2.heap.size + 1, 0, none⟩, 4, some ⟨w1.heap.size + 1 + 1, 0, none⟩, 1⟩ : VRule) ∧ Blk ((w2.alloc (.cells #[.slice (some ⟨w1.heap.size, 0, none⟩) 2 2, .slice (some ⟨w2.heap.size + 1, 0, none⟩) 4 4, .slice (some ⟨w1.heap.size + 1 + 1, 0, none⟩) 1 1] 25)).alloc (.cells #[.string ⟨#[104, 111, 115, 116]⟩, .string ⟨#[109, 101, 116, 114, 105, 99]⟩, .string ⟨#[104, 111, 115, 116]⟩, .string ⟨#[99]⟩] 9)) w2.heap.size 25 #[.slice (some ⟨w1.heap.size, 0, none⟩) 2 2, .slice (some ⟨w2.heap.size + 1, 0, none⟩) 4 4, .slice (some ⟨w1.heap.size + 1 + 1, 0, none⟩) 1 1] ∧ Below w2.heap.size w2 ((w2.alloc (.cells #[.slice (some ⟨w1.heap.size, 0, none⟩) 2 2, .slice (some ⟨w2.heap.size + 1, 0, none⟩) 4 4, .slice (some ⟨w1.heap.size + 1 + 1, 0, none⟩) 1 1] 25)).alloc (.cells #[.string ⟨#[104, 111, 115, 116]⟩, .string ⟨#[109, 101, 116, 114, 105, 99]⟩, .string ⟨#[104, 111, 115, 116]⟩, .string ⟨#[99]⟩] 9)) := spoil_p w2 (⟨sR, some ⟨w1.heap.size, 0, none⟩, 2, some ⟨w1.heap.size + 1, 0, none⟩, 4, some ⟨w1.heap.size + 1 + 1, 0, none⟩, 1⟩ : VRule) hr2 [⟨#[104, 111, 115, 116]⟩, ⟨#[109, 101, 116, 114, 105, 99]⟩, ⟨#[104, 111, 115, 116]⟩, ⟨#[99]⟩] #[.string ⟨#[104, 111, 115, 116]⟩, .string ⟨#[109, 101, 116, 114, 105, 99]⟩, .string ⟨#[104, 111, 115, 116]⟩, .string ⟨#[99]⟩] 9 rfl
  have hr3 := hr2.bel hbq
  have z3 := z2.below hbq (Blk.lt z2)
  have hm3 := hm2.below hbq
  have hbw3 := bl_any hbw hbq
  generalize ((w2.alloc (.cells #[.slice (some ⟨w1.heap.size, 0, none⟩) 2 2, .slice (some ⟨w2.heap.size + 1, 0, none⟩) 4 4, .slice (some ⟨w1.heap.size + 1 + 1, 0, none⟩) 1 1] 25)).alloc (.cells #[.string ⟨#[104, 111, 115, 116]⟩, .string ⟨#[109, 101, 116, 114, 105, 99]⟩, .string ⟨#[104, 111, 115, 116]⟩, .string ⟨#[99]⟩] 9)) = w3 at *
  clear p0 p1 p2 hr2 z2 hm2 hbq
  have q30 := (Blk.cell y3 0).trans rfl; have q31 := (Blk.cell y3 1).trans rfl; have q32 := (Blk.cell y3 2).trans rfl; have p30 := (Blk.cell z3 0).trans rfl; have p31 := (Blk.cell z3 1).trans rfl; have p32 := (Blk.cell z3 2).trans rfl
  go_wp2_with (first
    | (go_at_call 17; (with_reducible refine (kG w1 w2 _ hq3).mono ?_); rintro e w4 ⟨rfl, hb4⟩; have hq4 := hq3.bel hb4; have hr4 := hr3.bel hb4; have y4 := y3.below hb4 (Blk.lt y3); have z4 := z3.below hb4 (Blk.lt z3); have hm4 := hm3.below hb4; have hbw4 := bl_any hbw3 hb4; have q40 := (Blk.cell y4 0).trans rfl; have q41 := (Blk.cell y4 1).trans rfl; have q42 := (Blk.cell y4 2).trans rfl; have p40 := (Blk.cell z4 0).trans rfl; have p41 := (Blk.cell z4 1).trans rfl; have p42 := (Blk.cell z4 2).trans rfl)
    | (go_at_call 10; (with_reducible refine (kM w1 w2 _ hq4 hm4).mono ?_); rintro e w5 ⟨rfl, hb5⟩; have hq5 := hq4.bel hb5; have hr5 := hr4.bel hb5; have y5 := y4.below hb5 (Blk.lt y4); have z5 := z4.below hb5 (Blk.lt z4); have hm5 := hm4.below hb5; have hbw5 := bl_any hbw4 hb5; have q50 := (Blk.cell y5 0).trans rfl; have q51 := (Blk.cell y5 1).trans rfl; have q52 := (Blk.cell y5 2).trans rfl; have p50 := (Blk.cell z5 0).trans rfl; have p51 := (Blk.cell z5 1).trans rfl; have p52 := (Blk.cell z5 2).trans rfl)
    | (go_at_call 10; (with_reducible refine (kM0 _ _ hr5 hm5).mono ?_); rintro e w6 ⟨rfl, hb6⟩; have hq6 := hq5.bel hb6; have hr6 := hr5.bel hb6; have y6 := y5.below hb6 (Blk.lt y5); have z6 := z5.below hb6 (Blk.lt z5); have hm6 := hm5.below hb6; have hbw6 := bl_any hbw5 hb6; have q60 := (Blk.cell y6 0).trans rfl; have q61 := (Blk.cell y6 1).trans rfl; have q62 := (Blk.cell y6 2).trans rfl; have p60 := (Blk.cell z6 0).trans rfl; have p61 := (Blk.cell z6 1).trans rfl; have p62 := (Blk.cell z6 2).trans rfl)
    | (go_at_call 10; (with_reducible refine (kM1 _ _ hr6 hm6).mono ?_); rintro e w7 ⟨rfl, hb7⟩; have hq7 := hq6.bel hb7; have hr7 := hr6.bel hb7; have y7 := y6.below hb7 (Blk.lt y6); have z7 := z6.below hb7 (Blk.lt z6); have hm7 := hm6.below hb7; have hbw7 := bl_any hbw6 hb7; have q70 := (Blk.cell y7 0).trans rfl; have q71 := (Blk.cell y7 1).trans rfl; have q72 := (Blk.cell y7 2).trans rfl; have p70 := (Blk.cell z7 0).trans rfl; have p71 := (Blk.cell z7 1).trans rfl; have p72 := (Blk.cell z7 2).trans rfl)
    | (go_at_call 10; (with_reducible refine (kM2 _ _ hr7 hm7).mono ?_); rintro e w8 ⟨rfl, hb8⟩; have hq8 := hq7.bel hb8; have hr8 := hr7.bel hb8; have y8 := y7.below hb8 (Blk.lt y7); have z8 := z7.below hb8 (Blk.lt z7); have hm8 := hm7.below hb8; have hbw8 := bl_any hbw7 hb8; have q80 := (Blk.cell y8 0).trans rfl; have q81 := (Blk.cell y8 1).trans rfl; have q82 := (Blk.cell y8 2).trans rfl; have p80 := (Blk.cell z8 0).trans rfl; have p81 := (Blk.cell z8 1).trans rfl; have p82 := (Blk.cell z8 2).trans rfl))
  go_ret
  exact ⟨rfl, hbw8⟩
set_option maxRecDepth 100000 in
set_option maxHeartbeats 12800000 in
theorem spoils23_3 (a0 m : Int) (w : World) (hm : MxAt w m) (hw : 0 ≤ a0 ∧ a0 < 256) (ha : a0 % 11 = 3) :
    Calls Tryz.prog 7 #[.int .u8 a0] w fun e w' => e = .returned (.bool true) ∧ Below w.heap.size w w' := by
  have hd : Int.tmod a0 11 = 3 := by rw [Int.tmod_eq_emod_of_nonneg hw.1]; exact ha
  have kR : ∀ w1 : World, Calls Tryz.prog 17 #[.agg #[.slice (some ⟨w1.heap.size, 0, none⟩) 2 2, .slice (some ⟨w1.heap.size + 1, 0, none⟩) 4 4, .slice (some ⟨w1.heap.size + 1 + 1, 0, none⟩) 1 1]] ((((w1.alloc (.cells #[.string ⟨#[42]⟩, .string ⟨#[98, 45, 49]⟩] 9)).alloc (.cells #[.string ⟨#[104, 111, 115, 116]⟩, .string ⟨#[109, 101, 116, 114, 105, 99]⟩, .string ⟨#[95]⟩, .string ⟨#[109, 101, 116, 114, 105, 99, 42]⟩] 9)).alloc (.cells #[.string ⟨#[100, 99]⟩, .string ⟨#[120, 61, 121]⟩] 33)).alloc (.cells #[.slice (some ⟨w1.heap.size, 0, none⟩) 2 2, .slice (some ⟨w1.heap.size + 1, 0, none⟩) 4 4, .slice (some ⟨w1.heap.size + 1 + 1, 0, none⟩) 1 1] 25)) fun e w' => e = .returned (.bool true) ∧ Below w1.heap.size w1 w' ∧ RuleAt w' w'.heap.size (⟨sR, some ⟨w1.heap.size, 0, none⟩, 2, some ⟨w1.heap.size + 1, 0, none⟩, 4, some ⟨w1.heap.size + 1 + 1, 0, none⟩, 1⟩ : VRule) ∧ Blk w' (w1.heap.size + 1 + 1 + 1) 25 #[.slice (some ⟨w1.heap.size, 0, none⟩) 2 2, .slice (some ⟨w1.heap.size + 1, 0, none⟩) 4 4, .slice (some ⟨w1.heap.size + 1 + 1, 0, none⟩) 1 1] := fun w1 => by
    obtain ⟨h1, h2, h3⟩ := spoilR w1
    have k := tgood_any (⟨sR, some ⟨w1.heap.size, 0, none⟩, 2, some ⟨w1.heap.size + 1, 0, none⟩, 4, some ⟨w1.heap.size + 1 + 1, 0, none⟩, 1⟩ : VRule) _ h1 sRok
    rw [show goodR (⟨sR, some ⟨w1.heap.size, 0, none⟩, 2, some ⟨w1.heap.size + 1, 0, none⟩, 4, some ⟨w1.heap.size + 1 + 1, 0, none⟩, 1⟩ : VRule).rule = true from sRg] at k
    exact k.mono fun e w' ⟨i1, i2⟩ => ⟨i1, bl_any h3 i2, h1.bel i2, h2.below i2 (Blk.lt h2)⟩
  have kG : ∀ w1 w2 W : World, RuleAt W W.heap.size (⟨sQ3, some ⟨w1.heap.size, 0, none⟩, 2, some ⟨w2.heap.size + 1, 0, none⟩, 4, some ⟨w1.heap.size + 1 + 1, 0, none⟩, 1⟩ : VRule) → Calls Tryz.prog 17 #[.agg #[.slice (some ⟨w1.heap.size, 0, none⟩) 2 2, .slice (some ⟨w2.heap.size + 1, 0, none⟩) 4 4, .slice (some ⟨w1.heap.size + 1 + 1, 0, none⟩) 1 1]] W fun e w' => e = .returned (.bool false) ∧ Below W.heap.size W w' := fun w1 w2 W h => by
    have k := tgood_any (⟨sQ3, some ⟨w1.heap.size, 0, none⟩, 2, some ⟨w2.heap.size + 1, 0, none⟩, 4, some ⟨w1.heap.size + 1 + 1, 0, none⟩, 1⟩ : VRule) W h sQ3ok
    rw [show goodR (⟨sQ3, some ⟨w1.heap.size, 0, none⟩, 2, some ⟨w2.heap.size + 1, 0, none⟩, 4, some ⟨w1.heap.size + 1 + 1, 0, none⟩, 1⟩ : VRule).rule = false from sQ3g] at k
    exact k
  have kM : ∀ w1 w2 W : World, RuleAt W W.heap.size (⟨sQ3, some ⟨w1.heap.size, 0, none⟩, 2, some ⟨w2.heap.size + 1, 0, none⟩, 4, some ⟨w1.heap.size + 1 + 1, 0, none⟩, 1⟩ : VRule) → MxAt W m → Calls Tryz.prog 10 #[.agg #[.slice (some ⟨w1.heap.size, 0, none⟩) 2 2, .slice (some ⟨w2.heap.size + 1, 0, none⟩) 4 4, .slice (some ⟨w1.heap.size + 1 + 1, 0, none⟩) 1 1], .string ⟨#[97, 46, 98, 45, 49, 46, 99, 46, 100]⟩] W fun e w' => e = .returned (.bool false) ∧ Below W.heap.size W w' := fun w1 w2 W h hm => by
    have k := match_any (⟨sQ3, some ⟨w1.heap.size, 0, none⟩, 2, some ⟨w2.heap.size + 1, 0, none⟩, 4, some ⟨w1.heap.size + 1 + 1, 0, none⟩, 1⟩ : VRule) ⟨#[97, 46, 98, 45, 49, 46, 99, 46, 100]⟩ m W h sQ3ok hm (by decide)
    rw [show matchT (⟨sQ3, some ⟨w1.heap.size, 0, none⟩, 2, some ⟨w2.heap.size + 1, 0, none⟩, 4, some ⟨w1.heap.size + 1 + 1, 0, none⟩, 1⟩ : VRule).rule _ = false from sQ3m] at k
    exact k
  have kM0 : ∀ w1 W : World, RuleAt W W.heap.size (⟨sR, some ⟨w1.heap.size, 0, none⟩, 2, some ⟨w1.heap.size + 1, 0, none⟩, 4, some ⟨w1.heap.size + 1 + 1, 0, none⟩, 1⟩ : VRule) → MxAt W m → Calls Tryz.prog 10 #[.agg #[.slice (some ⟨w1.heap.size, 0, none⟩) 2 2, .slice (some ⟨w1.heap.size + 1, 0, none⟩) 4 4, .slice (some ⟨w1.heap.size + 1 + 1, 0, none⟩) 1 1], .string ⟨#[97, 46, 98, 45, 49, 46, 99, 46, 100]⟩] W fun e w' => e = .returned (.bool true) ∧ Below W.heap.size W w' := fun w1 W h hm => by
    have k := match_any (⟨sR, some ⟨w1.heap.size, 0, none⟩, 2, some ⟨w1.heap.size + 1, 0, none⟩, 4, some ⟨w1.heap.size + 1 + 1, 0, none⟩, 1⟩ : VRule) ⟨#[97, 46, 98, 45, 49, 46, 99, 46, 100]⟩ m W h sRok hm (by decide)
    rw [show matchT (⟨sR, some ⟨w1.heap.size, 0, none⟩, 2, some ⟨w1.heap.size + 1, 0, none⟩, 4, some ⟨w1.heap.size + 1 + 1, 0, none⟩, 1⟩ : VRule).rule _ = true from sRm0] at k
    exact k
  have kM1 : ∀ w1 W : World, RuleAt W W.heap.size (⟨sR, some ⟨w1.heap.size, 0, none⟩, 2, some ⟨w1.heap.size + 1, 0, none⟩, 4, some ⟨w1.heap.size + 1 + 1, 0, none⟩, 1⟩ : VRule) → MxAt W m → Calls Tryz.prog 10 #[.agg #[.slice (some ⟨w1.heap.size, 0, none⟩) 2 2, .slice (some ⟨w1.heap.size + 1, 0, none⟩) 4 4, .slice (some ⟨w1.heap.size + 1 + 1, 0, none⟩) 1 1], .string ⟨#[97, 46, 98, 45, 50, 46, 99, 46, 100]⟩] W fun e w' => e = .returned (.bool false) ∧ Below W.heap.size W w' := fun w1 W h hm => by
    have k := match_any (⟨sR, some ⟨w1.heap.size, 0, none⟩, 2, some ⟨w1.heap.size + 1, 0, none⟩, 4, some ⟨w1.heap.size + 1 + 1, 0, none⟩, 1⟩ : VRule) ⟨#[97, 46, 98, 45, 50, 46, 99, 46, 100]⟩ m W h sRok hm (by decide)
    rw [show matchT (⟨sR, some ⟨w1.heap.size, 0, none⟩, 2, some ⟨w1.heap.size + 1, 0, none⟩, 4, some ⟨w1.heap.size + 1 + 1, 0, none⟩, 1⟩ : VRule).rule _ = false from sRm1] at k
    exact k
  have kM2 : ∀ w1 W : World, RuleAt W W.heap.size (⟨sR, some ⟨w1.heap.size, 0, none⟩, 2, some ⟨w1.heap.size + 1, 0, none⟩, 4, some ⟨w1.heap.size + 1 + 1, 0, none⟩, 1⟩ : VRule) → MxAt W m → Calls Tryz.prog 10 #[.agg #[.slice (some ⟨w1.heap.size, 0, none⟩) 2 2, .slice (some ⟨w1.heap.size + 1, 0, none⟩) 4 4, .slice (some ⟨w1.heap.size + 1 + 1, 0, none⟩) 1 1], .string ⟨#[97, 46, 98, 45, 49, 46, 99]⟩] W fun e w' => e = .returned (.bool false) ∧ Below W.heap.size W w' := fun w1 W h hm => by
    have k := match_any (⟨sR, some ⟨w1.heap.size, 0, none⟩, 2, some ⟨w1.heap.size + 1, 0, none⟩, 4, some ⟨w1.heap.size + 1 + 1, 0, none⟩, 1⟩ : VRule) ⟨#[97, 46, 98, 45, 49, 46, 99]⟩ m W h sRok hm (by decide)
    rw [show matchT (⟨sR, some ⟨w1.heap.size, 0, none⟩, 2, some ⟨w1.heap.size + 1, 0, none⟩, 4, some ⟨w1.heap.size + 1 + 1, 0, none⟩, 1⟩ : VRule).rule _ = false from sRm2] at k
    exact k
  go_enter Tryz.func7, Tryz.ntmps7
  go_upto_region 6 with (first
    | (go_at_call 8; (with_reducible refine (known23_any m _ hm).mono ?_); rintro e w1 ⟨rfl, hb1⟩)
    | (go_at_call 17; (with_reducible refine (kR w1).mono ?_); rintro e w2 ⟨rfl, hb2, hr2, z2⟩))
  have p0 := (Blk.cell z2 0).trans rfl
  have p1 := (Blk.cell z2 1).trans rfl
  have p2 := (Blk.cell z2 2).trans rfl
  have hm2 : MxAt w2 m := hm.below (bl_any hb1 hb2)
  have hbw := bl_any hb1 hb2
  clear hm kR
  go_upto_region 29 with fail
  obtain ⟨hq3, y3, hbq⟩ : RuleAt ((w2.alloc (.cells #[.slice (some ⟨w1.heap.size, 0, none⟩) 2 2, .slice (some ⟨w2.heap.size + 1, 0, none⟩) 4 4, .slice (some ⟨w1.heap.size + 1 + 1, 0, none⟩) 1 1] 25)).alloc (.cells #[.string ⟨#[100, 99]⟩, .string ⟨#[109, 101, 116, 114, 105, 99]⟩, .string ⟨#[104, 111, 115, 116]⟩, .string ⟨#[99]⟩] 9)) ((w2.alloc (.cells #[.slice (some ⟨w1.heap.size, 0, none⟩) 2 2, .slice (some ⟨w2.heap.size + 1, 0, none⟩) 4 4, .slice (some ⟨w1.heap.size + 1 + 1, 0, none⟩) 1 1] 25)).alloc (.cells #[.string ⟨#[100, 99]⟩, .string ⟨#[109, 101, 116, 114, 105, 99]⟩, .string ⟨#[104, 111, 115, 116]⟩, .string ⟨#[99]⟩] 9)).heap.size (⟨sQ3, some ⟨w1.heap.size, 0, none⟩, 2, some ⟨w2.heap.size + 1, 0, none⟩, 4, some ⟨w1.heap.size + 1 + 1, 0, none⟩, 1⟩ : VRule) ∧ Blk ((w2.alloc (.cells #[.slice (some ⟨w1.heap.size, 0, none⟩) 2 2, .slice (some ⟨w2.heap.size + 1, 0, none⟩) 4 4, .slice (some ⟨w1.heap.size + 1 + 1, 0, none⟩) 1 1] 25)).alloc (.cells #[.string ⟨#[100, 99]⟩, .string ⟨#[109, 101, 116, 114, 105, 99]⟩, .string ⟨#[104, 111, 115, 116]⟩, .string ⟨#[99]⟩] 9)) w2.heap.size 25 #[.slice (some ⟨w1.heap.size, 0, none⟩) 2 2, .slice (some ⟨w2.heap.size + 1, 0, none⟩) 4 4, .slice (some ⟨w1.heap.size + 1 + 1, 0, none⟩) 1 1] ∧ Below w2.heap.size w2 ((w2.alloc (.cells #[.slice (some ⟨w1.heap.size, 0, none⟩) 2 2, .slice (some ⟨w2.heap.size + 1, 0, none⟩) 4 4, .slice (some ⟨w1.heap.size + 1 + 1, 0, none⟩) 1 1] 25)).alloc (.cells #[.string ⟨#[100, 99]⟩, .string ⟨#[109, 101, 116, 114, 105, 99]⟩, .string ⟨#[104, 111, 115, 116]⟩, .string ⟨#[99]⟩] 9)) := spoil_p w2 (⟨sR, some ⟨w1.heap.size, 0, none⟩, 2, some ⟨w1.heap.size + 1, 0, none⟩, 4, some ⟨w1.heap.size + 1 + 1, 0, none⟩, 1⟩ : VRule) hr2 [⟨#[100, 99]⟩, ⟨#[109, 101, 116, 114, 105, 99]⟩, ⟨#[104, 111, 115, 116]⟩, ⟨#[99]⟩] #[.string ⟨#[100, 99]⟩, .string ⟨#[109, 101, 116, 114, 105, 99]⟩, .string ⟨#[104, 111, 115, 116]⟩, .string ⟨#[99]⟩] 9 rfl
  have hr3 := hr2.bel hbq
  have z3 := z2.below hbq (Blk.lt z2)
  have hm3 := hm2.below hbq
  have hbw3 := bl_any hbw hbq
  generalize ((w2.alloc (.cells #[.slice (some ⟨w1.heap.size, 0, none⟩) 2 2, .slice (some ⟨w2.heap.size + 1, 0, none⟩) 4 4, .slice (some ⟨w1.heap.size + 1 + 1, 0, none⟩) 1 1] 25)).alloc (.cells #[.string ⟨#[100, 99]⟩, .string ⟨#[109, 101, 116, 114, 105, 99]⟩, .string ⟨#[104, 111, 115, 116]⟩, .string ⟨#[99]⟩] 9)) = w3 at *
  clear p0 p1 p2 hr2 z2 hm2 hbq
  have q30 := (Blk.cell y3 0).trans rfl; have q31 := (Blk.cell y3 1).trans rfl; have q32 := (Blk.cell y3 2).trans rfl; have p30 := (Blk.cell z3 0).trans rfl; have p31 := (Blk.cell z3 1).trans rfl; have p32 := (Blk.cell z3 2).trans rfl
  go_wp2_with (first
    | (go_at_call 17; (with_reducible refine (kG w1 w2 _ hq3).mono ?_); rintro e w4 ⟨rfl, hb4⟩; have hq4 := hq3.bel hb4; have hr4 := hr3.bel hb4; have y4 := y3.below hb4 (Blk.lt y3); have z4 := z3.below hb4 (Blk.lt z3); have hm4 := hm3.below hb4; have hbw4 := bl_any hbw3 hb4; have q40 := (Blk.cell y4 0).trans rfl; have q41 := (Blk.cell y4 1).trans rfl; have q42 := (Blk.cell y4 2).trans rfl; have p40 := (Blk.cell z4 0).trans rfl; have p41 := (Blk.cell z4 1).trans rfl; have p42 := (Blk.cell z4 2).trans rfl)
    | (go_at_call 10; (with_reducible refine (kM w1 w2 _ hq4 hm4).mono ?_); rintro e w5 ⟨rfl, hb5⟩; have hq5 := hq4.bel hb5; have hr5 := hr4.bel hb5; have y5 := y4.below hb5 (Blk.lt y4); have z5 := z4.below hb5 (Blk.lt z4); have hm5 := hm4.below hb5; have hbw5 := bl_any hbw4 hb5; have q50 := (Blk.cell y5 0).trans rfl; have q51 := (Blk.cell y5 1).trans rfl; have q52 := (Blk.cell y5 2).trans rfl; have p50 := (Blk.cell z5 0).trans rfl; have p51 := (Blk.cell z5 1).trans rfl; have p52 := (Blk.cell z5 2).trans rfl)
    | (go_at_call 10; (with_reducible refine (kM0 _ _ hr5 hm5).mono ?_); rintro e w6 ⟨rfl, hb6⟩; have hq6 := hq5.bel hb6; have hr6 := hr5.bel hb6; have y6 := y5.below hb6 (Blk.lt y5); have z6 := z5.below hb6 (Blk.lt z5); have hm6 := hm5.below hb6; have hbw6 := bl_any hbw5 hb6; have q60 := (Blk.cell y6 0).trans rfl; have q61 := (Blk.cell y6 1).trans rfl; have q62 := (Blk.cell y6 2).trans rfl; have p60 := (Blk.cell z6 0).trans rfl; have p61 := (Blk.cell z6 1).trans rfl; have p62 := (Blk.cell z6 2).trans rfl)
    | (go_at_call 10; (with_reducible refine (kM1 _ _ hr6 hm6).mono ?_); rintro e w7 ⟨rfl, hb7⟩; have hq7 := hq6.bel hb7; have hr7 := hr6.bel hb7; have y7 := y6.below hb7 (Blk.lt y6); have z7 := z6.below hb7 (Blk.lt z6); have hm7 := hm6.below hb7; have hbw7 := bl_any hbw6 hb7; have q70 := (Blk.cell y7 0).trans rfl; have q71 := (Blk.cell y7 1).trans rfl; have q72 := (Blk.cell y7 2).trans rfl; have p70 := (Blk.cell z7 0).trans rfl; have p71 := (Blk.cell z7 1).trans rfl; have p72 := (Blk.cell z7 2).trans rfl)
    | (go_at_call 10; (with_reducible refine (kM2 _ _ hr7 hm7).mono ?_); rintro e w8 ⟨rfl, hb8⟩; have hq8 := hq7.bel hb8; have hr8 := hr7.bel hb8; have y8 := y7.below hb8 (Blk.lt y7); have z8 := z7.below hb8 (Blk.lt z7); have hm8 := hm7.below hb8; have hbw8 := bl_any hbw7 hb8; have q80 := (Blk.cell y8 0).trans rfl; have q81 := (Blk.cell y8 1).trans rfl; have q82 := (Blk.cell y8 2).trans rfl; have p80 := (Blk.cell z8 0).trans rfl; have p81 := (Blk.cell z8 1).trans rfl; have p82 := (Blk.cell z8 2).trans rfl))
  go_ret
  exact ⟨rfl, hbw8⟩
set_option maxRecDepth 100000 in
set_option maxHeartbeats 12800000 in
theorem spoils23_4 (a0 m : Int) (w : World) (hm : MxAt w m) (hw : 0 ≤ a0 ∧ a0 < 256) (ha : a0 % 11 = 4) :
    Calls Tryz.prog 7 #[.int .u8 a0] w fun e w' => e = .returned (.bool true) ∧ Below w.heap.size w w' := by
  have hd : Int.tmod a0 11 = 4 := by rw [Int.tmod_eq_emod_of_nonneg hw.1]; exact ha
  have kR : ∀ w1 : World, Calls Tryz.prog 17 #[.agg #[.slice (some ⟨w1.heap.size, 0, none⟩) 2 2, .slice (some ⟨w1.heap.size + 1, 0, none⟩) 4 4, .slice (some ⟨w1.heap.size + 1 + 1, 0, none⟩) 1 1]] ((((w1.alloc (.cells #[.string ⟨#[42]⟩, .string ⟨#[98, 45, 49]⟩] 9)).alloc (.cells #[.string ⟨#[104, 111, 115, 116]⟩, .string ⟨#[109, 101, 116, 114, 105, 99]⟩, .string ⟨#[95]⟩, .string ⟨#[109, 101, 116, 114, 105, 99, 42]⟩] 9)).alloc (.cells #[.string ⟨#[100, 99]⟩, .string ⟨#[120, 61, 121]⟩] 33)).alloc (.cells #[.slice (some ⟨w1.heap.size, 0, none⟩) 2 2, .slice (some ⟨w1.heap.size + 1, 0, none⟩) 4 4, .slice (some ⟨w1.heap.size + 1 + 1, 0, none⟩) 1 1] 25)) fun e w' => e = .returned (.bool true) ∧ Below w1.heap.size w1 w' ∧ RuleAt w' w'.heap.size (⟨sR, some ⟨w1.heap.size, 0, none⟩, 2, some ⟨w1.heap.size + 1, 0, none⟩, 4, some ⟨w1.heap.size + 1 + 1, 0, none⟩, 1⟩ : VRule) ∧ Blk w' (w1.heap.size + 1 + 1 + 1) 25 #[.slice (some ⟨w1.heap.size, 0, none⟩) 2 2, .slice (some ⟨w1.heap.size + 1, 0, none⟩) 4 4, .slice (some ⟨w1.heap.size + 1 + 1, 0, none⟩) 1 1] := fun w1 => by
    obtain ⟨h1, h2, h3⟩ := spoilR w1
    have k := tgood_any (⟨sR, some ⟨w1.heap.size, 0, none⟩, 2, some ⟨w1.heap.size + 1, 0, none⟩, 4, some ⟨w1.heap.size + 1 + 1, 0, none⟩, 1⟩ : VRule) _ h1 sRok
    rw [show goodR (⟨sR, some ⟨w1.heap.size, 0, none⟩, 2, some ⟨w1.heap.size + 1, 0, none⟩, 4, some ⟨w1.heap.size + 1 + 1, 0, none⟩, 1⟩ : VRule).rule = true from sRg] at k
    exact k.mono fun e w' ⟨i1, i2⟩ => ⟨i1, bl_any h3 i2, h1.bel i2, h2.below i2 (Blk.lt h2)⟩
  have kG : ∀ w1 w2 W : World, RuleAt W W.heap.size (⟨sQ4, some ⟨w2.heap.size + 1, 0, none⟩, 5, some ⟨w1.heap.size + 1, 0, none⟩, 4, some ⟨w1.heap.size + 1 + 1, 0, none⟩, 1⟩ : VRule) → Calls Tryz.prog 17 #[.agg #[.slice (some ⟨w2.heap.size + 1, 0, none⟩) 5 5, .slice (some ⟨w1.heap.size + 1, 0, none⟩) 4 4, .slice (some ⟨w1.heap.size + 1 + 1, 0, none⟩) 1 1]] W fun e w' => e = .returned (.bool false) ∧ Below W.heap.size W w' := fun w1 w2 W h => by
    have k := tgood_any (⟨sQ4, some ⟨w2.heap.size + 1, 0, none⟩, 5, some ⟨w1.heap.size + 1, 0, none⟩, 4, some ⟨w1.heap.size + 1 + 1, 0, none⟩, 1⟩ : VRule) W h sQ4ok
    rw [show goodR (⟨sQ4, some ⟨w2.heap.size + 1, 0, none⟩, 5, some ⟨w1.heap.size + 1, 0, none⟩, 4, some ⟨w1.heap.size + 1 + 1, 0, none⟩, 1⟩ : VRule).rule = false from sQ4g] at k
    exact k
  have kM : ∀ w1 w2 W : World, RuleAt W W.heap.size (⟨sQ4, some ⟨w2.heap.size + 1, 0, none⟩, 5, some ⟨w1.heap.size + 1, 0, none⟩, 4, some ⟨w1.heap.size + 1 + 1, 0, none⟩, 1⟩ : VRule) → MxAt W m → Calls Tryz.prog 10 #[.agg #[.slice (some ⟨w2.heap.size + 1, 0, none⟩) 5 5, .slice (some ⟨w1.heap.size + 1, 0, none⟩) 4 4, .slice (some ⟨w1.heap.size + 1 + 1, 0, none⟩) 1 1], .string ⟨#[97, 46, 98, 45, 49, 46, 99, 46, 100]⟩] W fun e w' => e = .returned (.bool false) ∧ Below W.heap.size W w' := fun w1 w2 W h hm => by
    have k := match_any (⟨sQ4, some ⟨w2.heap.size + 1, 0, none⟩, 5, some ⟨w1.heap.size + 1, 0, none⟩, 4, some ⟨w1.heap.size + 1 + 1, 0, none⟩, 1⟩ : VRule) ⟨#[97, 46, 98, 45, 49, 46, 99, 46, 100]⟩ m W h sQ4ok hm (by decide)
    rw [show matchT (⟨sQ4, some ⟨w2.heap.size + 1, 0, none⟩, 5, some ⟨w1.heap.size + 1, 0, none⟩, 4, some ⟨w1.heap.size + 1 + 1, 0, none⟩, 1⟩ : VRule).rule _ = false from sQ4m] at k
    exact k
  have kM0 : ∀ w1 W : World, RuleAt W W.heap.size (⟨sR, some ⟨w1.heap.size, 0, none⟩, 2, some ⟨w1.heap.size + 1, 0, none⟩, 4, some ⟨w1.heap.size + 1 + 1, 0, none⟩, 1⟩ : VRule) → MxAt W m → Calls Tryz.prog 10 #[.agg #[.slice (some ⟨w1.heap.size, 0, none⟩) 2 2, .slice (some ⟨w1.heap.size + 1, 0, none⟩) 4 4, .slice (some ⟨w1.heap.size + 1 + 1, 0, none⟩) 1 1], .string ⟨#[97, 46, 98, 45, 49, 46, 99, 46, 100]⟩] W fun e w' => e = .returned (.bool true) ∧ Below W.heap.size W w' := fun w1 W h hm => by
    have k := match_any (⟨sR, some ⟨w1.heap.size, 0, none⟩, 2, some ⟨w1.heap.size + 1, 0, none⟩, 4, some ⟨w1.heap.size + 1 + 1, 0, none⟩, 1⟩ : VRule) ⟨#[97, 46, 98, 45, 49, 46, 99, 46, 100]⟩ m W h sRok hm (by decide)
    rw [show matchT (⟨sR, some ⟨w1.heap.size, 0, none⟩, 2, some ⟨w1.heap.size + 1, 0, none⟩, 4, some ⟨w1.heap.size + 1 + 1, 0, none⟩, 1⟩ : VRule).rule _ = true from sRm0] at k
    exact k
  have kM1 : ∀ w1 W : World, RuleAt W W.heap.size (⟨sR, some ⟨w1.heap.size, 0, none⟩, 2, some ⟨w1.heap.size + 1, 0, none⟩, 4, some ⟨w1.heap.size + 1 + 1, 0, none⟩, 1⟩ : VRule) → MxAt W m → Calls Tryz.prog 10 #[.agg #[.slice (some ⟨w1.heap.size, 0, none⟩) 2 2, .slice (some ⟨w1.heap.size + 1, 0, none⟩) 4 4, .slice (some ⟨w1.heap.size + 1 + 1, 0, none⟩) 1 1], .string ⟨#[97, 46, 98, 45, 50, 46, 99, 46, 100]⟩] W fun e w' => e = .returned (.bool false) ∧ Below W.heap.size W w' := fun w1 W h hm => by
    have k := match_any (⟨sR, some ⟨w1.heap.size, 0, none⟩, 2, some ⟨w1.heap.size + 1, 0, none⟩, 4, some ⟨w1.heap.size + 1 + 1, 0, none⟩, 1⟩ : VRule) ⟨#[97, 46, 98, 45, 50, 46, 99, 46, 100]⟩ m W h sRok hm (by decide)
    rw [show matchT (⟨sR, some ⟨w1.heap.size, 0, none⟩, 2, some ⟨w1.heap.size + 1, 0, none⟩, 4, some ⟨w1.heap.size + 1 + 1, 0, none⟩, 1⟩ : VRule).rule _ = false from sRm1] at k
    exact k
  have kM2 : ∀ w1 W : World, RuleAt W W.heap.size (⟨sR, some ⟨w1.heap.size, 0, none⟩, 2, some ⟨w1.heap.size + 1, 0, none⟩, 4, some ⟨w1.heap.size + 1 + 1, 0, none⟩, 1⟩ : VRule) → MxAt W m → Calls Tryz.prog 10 #[.agg #[.slice (some ⟨w1.heap.size, 0, none⟩) 2 2, .slice (some ⟨w1.heap.size + 1, 0, none⟩) 4 4, .slice (some ⟨w1.heap.size + 1 + 1, 0, none⟩) 1 1], .string ⟨#[97, 46, 98, 45, 49, 46, 99]⟩] W fun e w' => e = .returned (.bool false) ∧ Below W.heap.size W w' := fun w1 W h hm => by
    have k := match_any (⟨sR, some ⟨w1.heap.size, 0, none⟩, 2, some ⟨w1.heap.size + 1, 0, none⟩, 4, some ⟨w1.heap.size + 1 + 1, 0, none⟩, 1⟩ : VRule) ⟨#[97, 46, 98, 45, 49, 46, 99]⟩ m W h sRok hm (by decide)
    rw [show matchT (⟨sR, some ⟨w1.heap.size, 0, none⟩, 2, some ⟨w1.heap.size + 1, 0, none⟩, 4, some ⟨w1.heap.size + 1 + 1, 0, none⟩, 1⟩ : VRule).rule _ = false from sRm2] at k
    exact k
  go_enter Tryz.func7, Tryz.ntmps7
  go_upto_region 6 with (first
    | (go_at_call 8; (with_reducible refine (known23_any m _ hm).mono ?_); rintro e w1 ⟨rfl, hb1⟩)
    | (go_at_call 17; (with_reducible refine (kR w1).mono ?_); rintro e w2 ⟨rfl, hb2, hr2, z2⟩))
  have p0 := (Blk.cell z2 0).trans rfl
  have p1 := (Blk.cell z2 1).trans rfl
  have p2 := (Blk.cell z2 2).trans rfl
  have hm2 : MxAt w2 m := hm.below (bl_any hb1 hb2)
  have hbw := bl_any hb1 hb2
  clear hm kR
  go_upto_region 29 with fail
  obtain ⟨hq3, y3, hbq⟩ : RuleAt ((w2.alloc (.cells #[.slice (some ⟨w2.heap.size + 1, 0, none⟩) 5 5, .slice (some ⟨w1.heap.size + 1, 0, none⟩) 4 4, .slice (some ⟨w1.heap.size + 1 + 1, 0, none⟩) 1 1] 25)).alloc (.cells #[.string ⟨#[97]⟩, .string ⟨#[97]⟩, .string ⟨#[97]⟩, .string ⟨#[97]⟩, .string ⟨#[97]⟩] 9)) ((w2.alloc (.cells #[.slice (some ⟨w2.heap.size + 1, 0, none⟩) 5 5, .slice (some ⟨w1.heap.size + 1, 0, none⟩) 4 4, .slice (some ⟨w1.heap.size + 1 + 1, 0, none⟩) 1 1] 25)).alloc (.cells #[.string ⟨#[97]⟩, .string ⟨#[97]⟩, .string ⟨#[97]⟩, .string ⟨#[97]⟩, .string ⟨#[97]⟩] 9)).heap.size (⟨sQ4, some ⟨w2.heap.size + 1, 0, none⟩, 5, some ⟨w1.heap.size + 1, 0, none⟩, 4, some ⟨w1.heap.size + 1 + 1, 0, none⟩, 1⟩ : VRule) ∧ Blk ((w2.alloc (.cells #[.slice (some ⟨w2.heap.size + 1, 0, none⟩) 5 5, .slice (some ⟨w1.heap.size + 1, 0, none⟩) 4 4, .slice (some ⟨w1.heap.size + 1 + 1, 0, none⟩) 1 1] 25)).alloc (.cells #[.string ⟨#[97]⟩, .string ⟨#[97]⟩, .string ⟨#[97]⟩, .string ⟨#[97]⟩, .string ⟨#[97]⟩] 9)) w2.heap.size 25 #[.slice (some ⟨w2.heap.size + 1, 0, none⟩) 5 5, .slice (some ⟨w1.heap.size + 1, 0, none⟩) 4 4, .slice (some ⟨w1.heap.size + 1 + 1, 0, none⟩) 1 1] ∧ Below w2.heap.size w2 ((w2.alloc (.cells #[.slice (some ⟨w2.heap.size + 1, 0, none⟩) 5 5, .slice (some ⟨w1.heap.size + 1, 0, none⟩) 4 4, .slice (some ⟨w1.heap.size + 1 + 1, 0, none⟩) 1 1] 25)).alloc (.cells #[.string ⟨#[97]⟩, .string ⟨#[97]⟩, .string ⟨#[97]⟩, .string ⟨#[97]⟩, .string ⟨#[97]⟩] 9)) := spoil_f w2 (⟨sR, some ⟨w1.heap.size, 0, none⟩, 2, some ⟨w1.heap.size + 1, 0, none⟩, 4, some ⟨w1.heap.size + 1 + 1, 0, none⟩, 1⟩ : VRule) hr2 [⟨#[97]⟩, ⟨#[97]⟩, ⟨#[97]⟩, ⟨#[97]⟩, ⟨#[97]⟩] #[.string ⟨#[97]⟩, .string ⟨#[97]⟩, .string ⟨#[97]⟩, .string ⟨#[97]⟩, .string ⟨#[97]⟩] 9 rfl
  have hr3 := hr2.bel hbq
  have z3 := z2.below hbq (Blk.lt z2)
  have hm3 := hm2.below hbq
  have hbw3 := bl_any hbw hbq
  generalize ((w2.alloc (.cells #[.slice (some ⟨w2.heap.size + 1, 0, none⟩) 5 5, .slice (some ⟨w1.heap.size + 1, 0, none⟩) 4 4, .slice (some ⟨w1.heap.size + 1 + 1, 0, none⟩) 1 1] 25)).alloc (.cells #[.string ⟨#[97]⟩, .string ⟨#[97]⟩, .string ⟨#[97]⟩, .string ⟨#[97]⟩, .string ⟨#[97]⟩] 9)) = w3 at *
  clear p0 p1 p2 hr2 z2 hm2 hbq
  have q30 := (Blk.cell y3 0).trans rfl; have q31 := (Blk.cell y3 1).trans rfl; have q32 := (Blk.cell y3 2).trans rfl; have p30 := (Blk.cell z3 0).trans rfl; have p31 := (Blk.cell z3 1).trans rfl; have p32 := (Blk.cell z3 2).trans rfl
  go_wp2_with (first
    | (go_at_call 17; (with_reducible refine (kG w1 w2 _ hq3).mono ?_); rintro e w4 ⟨rfl, hb4⟩; have hq4 := hq3.bel hb4; have hr4 := hr3.bel hb4; have y4 := y3.below hb4 (Blk.lt y3); have z4 := z3.below hb4 (Blk.lt z3); have hm4 := hm3.below hb4; have hbw4 := bl_any hbw3 hb4; have q40 := (Blk.cell y4 0).trans rfl; have q41 := (Blk.cell y4 1).trans rfl; have q42 := (Blk.cell y4 2).trans rfl; have p40 := (Blk.cell z4 0).trans rfl; have p41 := (Blk.cell z4 1).trans rfl; have p42 := (Blk.cell z4 2).trans rfl)
    | (go_at_call 10; (with_reducible refine (kM w1 w2 _ hq4 hm4).mono ?_); rintro e w5 ⟨rfl, hb5⟩; have hq5 := hq4.bel hb5; have hr5 := hr4.bel hb5; have y5 := y4.below hb5 (Blk.lt y4); have z5 := z4.below hb5 (Blk.lt z4); have hm5 := hm4.below hb5; have hbw5 := bl_any hbw4 hb5; have q50 := (Blk.cell y5 0).trans rfl; have q51 := (Blk.cell y5 1).trans rfl; have q52 := (Blk.cell y5 2).trans rfl; have p50 := (Blk.cell z5 0).trans rfl; have p51 := (Blk.cell z5 1).trans rfl; have p52 := (Blk.cell z5 2).trans rfl)
    | (go_at_call 10; (with_reducible refine (kM0 _ _ hr5 hm5).mono ?_); rintro e w6 ⟨rfl, hb6⟩; have hq6 := hq5.bel hb6; have hr6 := hr5.bel hb6; have y6 := y5.below hb6 (Blk.lt y5); have z6 := z5.below hb6 (Blk.lt z5); have hm6 := hm5.below hb6; have hbw6 := bl_any hbw5 hb6; have q60 := (Blk.cell y6 0).trans rfl; have q61 := (Blk.cell y6 1).trans rfl; have q62 := (Blk.cell y6 2).trans rfl; have p60 := (Blk.cell z6 0).trans rfl; have p61 := (Blk.cell z6 1).trans rfl; have p62 := (Blk.cell z6 2).trans rfl)
    | (go_at_call 10; (with_reducible refine (kM1 _ _ hr6 hm6).mono ?_); rintro e w7 ⟨rfl, hb7⟩; have hq7 := hq6.bel hb7; have hr7 := hr6.bel hb7; have y7 := y6.below hb7 (Blk.lt y6); have z7 := z6.below hb7 (Blk.lt z6); have hm7 := hm6.below hb7; have hbw7 := bl_any hbw6 hb7; have q70 := (Blk.cell y7 0).trans rfl; have q71 := (Blk.cell y7 1).trans rfl; have q72 := (Blk.cell y7 2).trans rfl; have p70 := (Blk.cell z7 0).trans rfl; have p71 := (Blk.cell z7 1).trans rfl; have p72 := (Blk.cell z7 2).trans rfl)
    | (go_at_call 10; (with_reducible refine (kM2 _ _ hr7 hm7).mono ?_); rintro e w8 ⟨rfl, hb8⟩; have hq8 := hq7.bel hb8; have hr8 := hr7.bel hb8; have y8 := y7.below hb8 (Blk.lt y7); have z8 := z7.below hb8 (Blk.lt z7); have hm8 := hm7.below hb8; have hbw8 := bl_any hbw7 hb8; have q80 := (Blk.cell y8 0).trans rfl; have q81 := (Blk.cell y8 1).trans rfl; have q82 := (Blk.cell y8 2).trans rfl; have p80 := (Blk.cell z8 0).trans rfl; have p81 := (Blk.cell z8 1).trans rfl; have p82 := (Blk.cell z8 2).trans rfl))
  go_ret
  exact ⟨rfl, hbw8⟩
set_option maxRecDepth 100000 in
set_option maxHeartbeats 12800000 in
theorem spoils23_5 (a0 m : Int) (w : World) (hm : MxAt w m) (hw : 0 ≤ a0 ∧ a0 < 256) (ha : a0 % 11 = 5) :
    Calls Tryz.prog 7 #[.int .u8 a0] w fun e w' => e = .returned (.bool true) ∧ Below w.heap.size w w' := by
  have hd : Int.tmod a0 11 = 5 := by rw [Int.tmod_eq_emod_of_nonneg hw.1]; exact ha
  have kR : ∀ w1 : World, Calls Tryz.prog 17 #[.agg #[.slice (some ⟨w1.heap.size, 0, none⟩) 2 2, .slice (some ⟨w1.heap.size + 1, 0, none⟩) 4 4, .slice (some ⟨w1.heap.size + 1 + 1, 0, none⟩) 1 1]] ((((w1.alloc (.cells #[.string ⟨#[42]⟩, .string ⟨#[98, 45, 49]⟩] 9)).alloc (.cells #[.string ⟨#[104, 111, 115, 116]⟩, .string ⟨#[109, 101, 116, 114, 105, 99]⟩, .string ⟨#[95]⟩, .string ⟨#[109, 101, 116, 114, 105, 99, 42]⟩] 9)).alloc (.cells #[.string ⟨#[100, 99]⟩, .string ⟨#[120, 61, 121]⟩] 33)).alloc (.cells #[.slice (some ⟨w1.heap.size, 0, none⟩) 2 2, .slice (some ⟨w1.heap.size + 1, 0, none⟩) 4 4, .slice (some ⟨w1.heap.size + 1 + 1, 0, none⟩) 1 1] 25)) fun e w' => e = .returned (.bool true) ∧ Below w1.heap.size w1 w' ∧ RuleAt w' w'.heap.size (⟨sR, some ⟨w1.heap.size, 0, none⟩, 2, some ⟨w1.heap.size + 1, 0, none⟩, 4, some ⟨w1.heap.size + 1 + 1, 0, none⟩, 1⟩ : VRule) ∧ Blk w' (w1.heap.size + 1 + 1 + 1) 25 #[.slice (some ⟨w1.heap.size, 0, none⟩) 2 2, .slice (some ⟨w1.heap.size + 1, 0, none⟩) 4 4, .slice (some ⟨w1.heap.size + 1 + 1, 0, none⟩) 1 1] := fun w1 => by
    obtain ⟨h1, h2, h3⟩ := spoilR w1
    have k := tgood_any (⟨sR, some ⟨w1.heap.size, 0, none⟩, 2, some ⟨w1.heap.size + 1, 0, none⟩, 4, some ⟨w1.heap.size + 1 + 1, 0, none⟩, 1⟩ : VRule) _ h1 sRok
    rw [show goodR (⟨sR, some ⟨w1.heap.size, 0, none⟩, 2, some ⟨w1.heap.size + 1, 0, none⟩, 4, some ⟨w1.heap.size + 1 + 1, 0, none⟩, 1⟩ : VRule).rule = true from sRg] at k
    exact k.mono fun e w' ⟨i1, i2⟩ => ⟨i1, bl_any h3 i2, h1.bel i2, h2.below i2 (Blk.lt h2)⟩
  have kG : ∀ w1 w2 W : World, RuleAt W W.heap.size (⟨sQ5, some ⟨w2.heap.size + 1, 0, none⟩, 1, some ⟨w1.heap.size + 1, 0, none⟩, 4, some ⟨w1.heap.size + 1 + 1, 0, none⟩, 1⟩ : VRule) → Calls Tryz.prog 17 #[.agg #[.slice (some ⟨w2.heap.size + 1, 0, none⟩) 1 1, .slice (some ⟨w1.heap.size + 1, 0, none⟩) 4 4, .slice (some ⟨w1.heap.size + 1 + 1, 0, none⟩) 1 1]] W fun e w' => e = .returned (.bool false) ∧ Below W.heap.size W w' := fun w1 w2 W h => by
    have k := tgood_any (⟨sQ5, some ⟨w2.heap.size + 1, 0, none⟩, 1, some ⟨w1.heap.size + 1, 0, none⟩, 4, some ⟨w1.heap.size + 1 + 1, 0, none⟩, 1⟩ : VRule) W h sQ5ok
    rw [show goodR (⟨sQ5, some ⟨w2.heap.size + 1, 0, none⟩, 1, some ⟨w1.heap.size + 1, 0, none⟩, 4, some ⟨w1.heap.size + 1 + 1, 0, none⟩, 1⟩ : VRule).rule = false from sQ5g] at k
    exact k
  have kM : ∀ w1 w2 W : World, RuleAt W W.heap.size (⟨sQ5, some ⟨w2.heap.size + 1, 0, none⟩, 1, some ⟨w1.heap.size + 1, 0, none⟩, 4, some ⟨w1.heap.size + 1 + 1, 0, none⟩, 1⟩ : VRule) → MxAt W m → Calls Tryz.prog 10 #[.agg #[.slice (some ⟨w2.heap.size + 1, 0, none⟩) 1 1, .slice (some ⟨w1.heap.size + 1, 0, none⟩) 4 4, .slice (some ⟨w1.heap.size + 1 + 1, 0, none⟩) 1 1], .string ⟨#[97, 46, 98, 45, 49, 46, 99, 46, 100]⟩] W fun e w' => e = .returned (.bool false) ∧ Below W.heap.size W w' := fun w1 w2 W h hm => by
    have k := match_any (⟨sQ5, some ⟨w2.heap.size + 1, 0, none⟩, 1, some ⟨w1.heap.size + 1, 0, none⟩, 4, some ⟨w1.heap.size + 1 + 1, 0, none⟩, 1⟩ : VRule) ⟨#[97, 46, 98, 45, 49, 46, 99, 46, 100]⟩ m W h sQ5ok hm (by decide)
    rw [show matchT (⟨sQ5, some ⟨w2.heap.size + 1, 0, none⟩, 1, some ⟨w1.heap.size + 1, 0, none⟩, 4, some ⟨w1.heap.size + 1 + 1, 0, none⟩, 1⟩ : VRule).rule _ = false from sQ5m] at k
    exact k
  have kM0 : ∀ w1 W : World, RuleAt W W.heap.size (⟨sR, some ⟨w1.heap.size, 0, none⟩, 2, some ⟨w1.heap.size + 1, 0, none⟩, 4, some ⟨w1.heap.size + 1 + 1, 0, none⟩, 1⟩ : VRule) → MxAt W m → Calls Tryz.prog 10 #[.agg #[.slice (some ⟨w1.heap.size, 0, none⟩) 2 2, .slice (some ⟨w1.heap.size + 1, 0, none⟩) 4 4, .slice (some ⟨w1.heap.size + 1 + 1, 0, none⟩) 1 1], .string ⟨#[97, 46, 98, 45, 49, 46, 99, 46, 100]⟩] W fun e w' => e = .returned (.bool true) ∧ Below W.heap.size W w' := fun w1 W h hm => by
    have k := match_any (⟨sR, some ⟨w1.heap.size, 0, none⟩, 2, some ⟨w1.heap.size + 1, 0, none⟩, 4, some ⟨w1.heap.size + 1 + 1, 0, none⟩, 1⟩ : VRule) ⟨#[97, 46, 98, 45, 49, 46, 99, 46, 100]⟩ m W h sRok hm (by decide)
    rw [show matchT (⟨sR, some ⟨w1.heap.size, 0, none⟩, 2, some ⟨w1.heap.size + 1, 0, none⟩, 4, some ⟨w1.heap.size + 1 + 1, 0, none⟩, 1⟩ : VRule).rule _ = true from sRm0] at k
    exact k
  have kM1 : ∀ w1 W : World, RuleAt W W.heap.size (⟨sR, some ⟨w1.heap.size, 0, none⟩, 2, some ⟨w1.heap.size + 1, 0, none⟩, 4, some ⟨w1.heap.size + 1 + 1, 0, none⟩, 1⟩ : VRule) → MxAt W m → Calls Tryz.prog 10 #[.agg #[.slice (some ⟨w1.heap.size, 0, none⟩) 2 2, .slice (some ⟨w1.heap.size + 1, 0, none⟩) 4 4, .slice (some ⟨w1.heap.size + 1 + 1, 0, none⟩) 1 1], .string ⟨#[97, 46, 98, 45, 50, 46, 99, 46, 100]⟩] W fun e w' => e = .returned (.bool false) ∧ Below W.heap.size W w' := fun w1 W h hm => by
    have k := match_any (⟨sR, some ⟨w1.heap.size, 0, none⟩, 2, some ⟨w1.heap.size + 1, 0, none⟩, 4, some ⟨w1.heap.size + 1 + 1, 0, none⟩, 1⟩ : VRule) ⟨#[97, 46, 98, 45, 50, 46, 99, 46, 100]⟩ m W h sRok hm (by decide)
    rw [show matchT (⟨sR, some ⟨w1.heap.size, 0, none⟩, 2, some ⟨w1.heap.size + 1, 0, none⟩, 4, some ⟨w1.heap.size + 1 + 1, 0, none⟩, 1⟩ : VRule).rule _ = false from sRm1] at k
    exact k
  have kM2 : ∀ w1 W : World, RuleAt W W.heap.size (⟨sR, some ⟨w1.heap.size, 0, none⟩, 2, some ⟨w1.heap.size + 1, 0, none⟩, 4, some ⟨w1.heap.size + 1 + 1, 0, none⟩, 1⟩ : VRule) → MxAt W m → Calls Tryz.prog 10 #[.agg #[.slice (some ⟨w1.heap.size, 0, none⟩) 2 2, .slice (some ⟨w1.heap.size + 1, 0, none⟩) 4 4, .slice (some ⟨w1.heap.size + 1 + 1, 0, none⟩) 1 1], .string ⟨#[97, 46, 98, 45, 49, 46, 99]⟩] W fun e w' => e = .returned (.bool false) ∧ Below W.heap.size W w' := fun w1 W h hm => by
    have k := match_any (⟨sR, some ⟨w1.heap.size, 0, none⟩, 2, some ⟨w1.heap.size + 1, 0, none⟩, 4, some ⟨w1.heap.size + 1 + 1, 0, none⟩, 1⟩ : VRule) ⟨#[97, 46, 98, 45, 49, 46, 99]⟩ m W h sRok hm (by decide)
    rw [show matchT (⟨sR, some ⟨w1.heap.size, 0, none⟩, 2, some ⟨w1.heap.size + 1, 0, none⟩, 4, some ⟨w1.heap.size + 1 + 1, 0, none⟩, 1⟩ : VRule).rule _ = false from sRm2] at k
    exact k
  go_enter Tryz.func7, Tryz.ntmps7
  go_upto_region 6 with (first
    | (go_at_call 8; (with_reducible refine (known23_any m _ hm).mono ?_); rintro e w1 ⟨rfl, hb1⟩)
    | (go_at_call 17; (with_reducible refine (kR w1).mono ?_); rintro e w2 ⟨rfl, hb2, hr2, z2⟩))
  have p0 := (Blk.cell z2 0).trans rfl
  have p1 := (Blk.cell z2 1).trans rfl
  have p2 := (Blk.cell z2 2).trans rfl
  have hm2 : MxAt w2 m := hm.below (bl_any hb1 hb2)
  have hbw := bl_any hb1 hb2
  clear hm kR
  go_upto_region 29 with fail
  obtain ⟨hq3, y3, hbq⟩ : RuleAt ((w2.alloc (.cells #[.slice (some ⟨w2.heap.size + 1, 0, none⟩) 1 1, .slice (some ⟨w1.heap.size + 1, 0, none⟩) 4 4, .slice (some ⟨w1.heap.size + 1 + 1, 0, none⟩) 1 1] 25)).alloc (.cells #[.string ⟨#[97, 46, 98]⟩] 9)) ((w2.alloc (.cells #[.slice (some ⟨w2.heap.size + 1, 0, none⟩) 1 1, .slice (some ⟨w1.heap.size + 1, 0, none⟩) 4 4, .slice (some ⟨w1.heap.size + 1 + 1, 0, none⟩) 1 1] 25)).alloc (.cells #[.string ⟨#[97, 46, 98]⟩] 9)).heap.size (⟨sQ5, some ⟨w2.heap.size + 1, 0, none⟩, 1, some ⟨w1.heap.size + 1, 0, none⟩, 4, some ⟨w1.heap.size + 1 + 1, 0, none⟩, 1⟩ : VRule) ∧ Blk ((w2.alloc (.cells #[.slice (some ⟨w2.heap.size + 1, 0, none⟩) 1 1, .slice (some ⟨w1.heap.size + 1, 0, none⟩) 4 4, .slice (some ⟨w1.heap.size + 1 + 1, 0, none⟩) 1 1] 25)).alloc (.cells #[.string ⟨#[97, 46, 98]⟩] 9)) w2.heap.size 25 #[.slice (some ⟨w2.heap.size + 1, 0, none⟩) 1 1, .slice (some ⟨w1.heap.size + 1, 0, none⟩) 4 4, .slice (some ⟨w1.heap.size + 1 + 1, 0, none⟩) 1 1] ∧ Below w2.heap.size w2 ((w2.alloc (.cells #[.slice (some ⟨w2.heap.size + 1, 0, none⟩) 1 1, .slice (some ⟨w1.heap.size + 1, 0, none⟩) 4 4, .slice (some ⟨w1.heap.size + 1 + 1, 0, none⟩) 1 1] 25)).alloc (.cells #[.string ⟨#[97, 46, 98]⟩] 9)) := spoil_f w2 (⟨sR, some ⟨w1.heap.size, 0, none⟩, 2, some ⟨w1.heap.size + 1, 0, none⟩, 4, some ⟨w1.heap.size + 1 + 1, 0, none⟩, 1⟩ : VRule) hr2 [⟨#[97, 46, 98]⟩] #[.string ⟨#[97, 46, 98]⟩] 9 rfl
  have hr3 := hr2.bel hbq
  have z3 := z2.below hbq (Blk.lt z2)
  have hm3 := hm2.below hbq
  have hbw3 := bl_any hbw hbq
  generalize ((w2.alloc (.cells #[.slice (some ⟨w2.heap.size + 1, 0, none⟩) 1 1, .slice (some ⟨w1.heap.size + 1, 0, none⟩) 4 4, .slice (some ⟨w1.heap.size + 1 + 1, 0, none⟩) 1 1] 25)).alloc (.cells #[.string ⟨#[97, 46, 98]⟩] 9)) = w3 at *
  clear p0 p1 p2 hr2 z2 hm2 hbq
  have q30 := (Blk.cell y3 0).trans rfl; have q31 := (Blk.cell y3 1).trans rfl; have q32 := (Blk.cell y3 2).trans rfl; have p30 := (Blk.cell z3 0).trans rfl; have p31 := (Blk.cell z3 1).trans rfl; have p32 := (Blk.cell z3 2).trans rfl
  go_wp2_with (first
    | (go_at_call 17; (with_reducible refine (kG w1 w2 _ hq3).mono ?_); rintro e w4 ⟨rfl, hb4⟩; have hq4 := hq3.bel hb4; have hr4 := hr3.bel hb4; have y4 := y3.below hb4 (Blk.lt y3); have z4 := z3.below hb4 (Blk.lt z3); have hm4 := hm3.below hb4; have hbw4 := bl_any hbw3 hb4; have q40 := (Blk.cell y4 0).trans rfl; have q41 := (Blk.cell y4 1).trans rfl; have q42 := (Blk.cell y4 2).trans rfl; have p40 := (Blk.cell z4 0).trans rfl; have p41 := (Blk.cell z4 1).trans rfl; have p42 := (Blk.cell z4 2).trans rfl)
    | (go_at_call 10; (with_reducible refine (kM w1 w2 _ hq4 hm4).mono ?_); rintro e w5 ⟨rfl, hb5⟩; have hq5 := hq4.bel hb5; have hr5 := hr4.bel hb5; have y5 := y4.below hb5 (Blk.lt y4); have z5 := z4.below hb5 (Blk.lt z4); have hm5 := hm4.below hb5; have hbw5 := bl_any hbw4 hb5; have q50 := (Blk.cell y5 0).trans rfl; have q51 := (Blk.cell y5 1).trans rfl; have q52 := (Blk.cell y5 2).trans rfl; have p50 := (Blk.cell z5 0).trans rfl; have p51 := (Blk.cell z5 1).trans rfl; have p52 := (Blk.cell z5 2).trans rfl)
    | (go_at_call 10; (with_reducible refine (kM0 _ _ hr5 hm5).mono ?_); rintro e w6 ⟨rfl, hb6⟩; have hq6 := hq5.bel hb6; have hr6 := hr5.bel hb6; have y6 := y5.below hb6 (Blk.lt y5); have z6 := z5.below hb6 (Blk.lt z5); have hm6 := hm5.below hb6; have hbw6 := bl_any hbw5 hb6; have q60 := (Blk.cell y6 0).trans rfl; have q61 := (Blk.cell y6 1).trans rfl; have q62 := (Blk.cell y6 2).trans rfl; have p60 := (Blk.cell z6 0).trans rfl; have p61 := (Blk.cell z6 1).trans rfl; have p62 := (Blk.cell z6 2).trans rfl)
    | (go_at_call 10; (with_reducible refine (kM1 _ _ hr6 hm6).mono ?_); rintro e w7 ⟨rfl, hb7⟩; have hq7 := hq6.bel hb7; have hr7 := hr6.bel hb7; have y7 := y6.below hb7 (Blk.lt y6); have z7 := z6.below hb7 (Blk.lt z6); have hm7 := hm6.below hb7; have hbw7 := bl_any hbw6 hb7; have q70 := (Blk.cell y7 0).trans rfl; have q71 := (Blk.cell y7 1).trans rfl; have q72 := (Blk.cell y7 2).trans rfl; have p70 := (Blk.cell z7 0).trans rfl; have p71 := (Blk.cell z7 1).trans rfl; have p72 := (Blk.cell z7 2).trans rfl)
    | (go_at_call 10; (with_reducible refine (kM2 _ _ hr7 hm7).mono ?_); rintro e w8 ⟨rfl, hb8⟩; have hq8 := hq7.bel hb8; have hr8 := hr7.bel hb8; have y8 := y7.below hb8 (Blk.lt y7); have z8 := z7.below hb8 (Blk.lt z7); have hm8 := hm7.below hb8; have hbw8 := bl_any hbw7 hb8; have q80 := (Blk.cell y8 0).trans rfl; have q81 := (Blk.cell y8 1).trans rfl; have q82 := (Blk.cell y8 2).trans rfl; have p80 := (Blk.cell z8 0).trans rfl; have p81 := (Blk.cell z8 1).trans rfl; have p82 := (Blk.cell z8 2).trans rfl))
  go_ret
  exact ⟨rfl, hbw8⟩
set_option maxRecDepth 100000 in
set_option maxHeartbeats 12800000 in
theorem spoils23_6 (a0 m : Int) (w : World) (hm : MxAt w m) (hw : 0 ≤ a0 ∧ a0 < 256) (ha : a0 % 11 = 6) :
    Calls Tryz.prog 7 #[.int .u8 a0] w fun e w' => e = .returned (.bool true) ∧ Below w.heap.size w w' := by
  have hd : Int.tmod a0 11 = 6 := by rw [Int.tmod_eq_emod_of_nonneg hw.1]; exact ha
  have kR : ∀ w1 : World, Calls Tryz.prog 17 #[.agg #[.slice (some ⟨w1.heap.size, 0, none⟩) 2 2, .slice (some ⟨w1.heap.size + 1, 0, none⟩) 4 4, .slice (some ⟨w1.heap.size + 1 + 1, 0, none⟩) 1 1]] ((((w1.alloc (.cells #[.string ⟨#[42]⟩, .string ⟨#[98, 45, 49]⟩] 9)).alloc (.cells #[.string ⟨#[104, 111, 115, 116]⟩, .string ⟨#[109, 101, 116, 114, 105, 99]⟩, .string ⟨#[95]⟩, .string ⟨#[109, 101, 116, 114, 105, 99, 42]⟩] 9)).alloc (.cells #[.string ⟨#[100, 99]⟩, .string ⟨#[120, 61, 121]⟩] 33)).alloc (.cells #[.slice (some ⟨w1.heap.size, 0, none⟩) 2 2, .slice (some ⟨w1.heap.size + 1, 0, none⟩) 4 4, .slice (some ⟨w1.heap.size + 1 + 1, 0, none⟩) 1 1] 25)) fun e w' => e = .returned (.bool true) ∧ Below w1.heap.size w1 w' ∧ RuleAt w' w'.heap.size (⟨sR, some ⟨w1.heap.size, 0, none⟩, 2, some ⟨w1.heap.size + 1, 0, none⟩, 4, some ⟨w1.heap.size + 1 + 1, 0, none⟩, 1⟩ : VRule) ∧ Blk w' (w1.heap.size + 1 + 1 + 1) 25 #[.slice (some ⟨w1.heap.size, 0, none⟩) 2 2, .slice (some ⟨w1.heap.size + 1, 0, none⟩) 4 4, .slice (some ⟨w1.heap.size + 1 + 1, 0, none⟩) 1 1] := fun w1 => by
    obtain ⟨h1, h2, h3⟩ := spoilR w1
    have k := tgood_any (⟨sR, some ⟨w1.heap.size, 0, none⟩, 2, some ⟨w1.heap.size + 1, 0, none⟩, 4, some ⟨w1.heap.size + 1 + 1, 0, none⟩, 1⟩ : VRule) _ h1 sRok
    rw [show goodR (⟨sR, some ⟨w1.heap.size, 0, none⟩, 2, some ⟨w1.heap.size + 1, 0, none⟩, 4, some ⟨w1.heap.size + 1 + 1, 0, none⟩, 1⟩ : VRule).rule = true from sRg] at k
    exact k.mono fun e w' ⟨i1, i2⟩ => ⟨i1, bl_any h3 i2, h1.bel i2, h2.below i2 (Blk.lt h2)⟩
  have kG : ∀ w1 w2 W : World, RuleAt W W.heap.size (⟨sQ6, some ⟨w1.heap.size, 0, none⟩, 2, none, 0, some ⟨w1.heap.size + 1 + 1, 0, none⟩, 1⟩ : VRule) → Calls Tryz.prog 17 #[.agg #[.slice (some ⟨w1.heap.size, 0, none⟩) 2 2, .slice none 0 0, .slice (some ⟨w1.heap.size + 1 + 1, 0, none⟩) 1 1]] W fun e w' => e = .returned (.bool false) ∧ Below W.heap.size W w' := fun w1 w2 W h => by
    have k := tgood_any (⟨sQ6, some ⟨w1.heap.size, 0, none⟩, 2, none, 0, some ⟨w1.heap.size + 1 + 1, 0, none⟩, 1⟩ : VRule) W h sQ6ok
    rw [show goodR (⟨sQ6, some ⟨w1.heap.size, 0, none⟩, 2, none, 0, some ⟨w1.heap.size + 1 + 1, 0, none⟩, 1⟩ : VRule).rule = false from sQ6g] at k
    exact k
  have kM : ∀ w1 w2 W : World, RuleAt W W.heap.size (⟨sQ6, some ⟨w1.heap.size, 0, none⟩, 2, none, 0, some ⟨w1.heap.size + 1 + 1, 0, none⟩, 1⟩ : VRule) → MxAt W m → Calls Tryz.prog 10 #[.agg #[.slice (some ⟨w1.heap.size, 0, none⟩) 2 2, .slice none 0 0, .slice (some ⟨w1.heap.size + 1 + 1, 0, none⟩) 1 1], .string ⟨#[97, 46, 98, 45, 49, 46, 99, 46, 100]⟩] W fun e w' => e = .returned (.bool false) ∧ Below W.heap.size W w' := fun w1 w2 W h hm => by
    have k := match_any (⟨sQ6, some ⟨w1.heap.size, 0, none⟩, 2, none, 0, some ⟨w1.heap.size + 1 + 1, 0, none⟩, 1⟩ : VRule) ⟨#[97, 46, 98, 45, 49, 46, 99, 46, 100]⟩ m W h sQ6ok hm (by decide)
    rw [show matchT (⟨sQ6, some ⟨w1.heap.size, 0, none⟩, 2, none, 0, some ⟨w1.heap.size + 1 + 1, 0, none⟩, 1⟩ : VRule).rule _ = false from sQ6m] at k
    exact k
  have kM0 : ∀ w1 W : World, RuleAt W W.heap.size (⟨sR, some ⟨w1.heap.size, 0, none⟩, 2, some ⟨w1.heap.size + 1, 0, none⟩, 4, some ⟨w1.heap.size + 1 + 1, 0, none⟩, 1⟩ : VRule) → MxAt W m → Calls Tryz.prog 10 #[.agg #[.slice (some ⟨w1.heap.size, 0, none⟩) 2 2, .slice (some ⟨w1.heap.size + 1, 0, none⟩) 4 4, .slice (some ⟨w1.heap.size + 1 + 1, 0, none⟩) 1 1], .string ⟨#[97, 46, 98, 45, 49, 46, 99, 46, 100]⟩] W fun e w' => e = .returned (.bool true) ∧ Below W.heap.size W w' := fun w1 W h hm => by
    have k := match_any (⟨sR, some ⟨w1.heap.size, 0, none⟩, 2, some ⟨w1.heap.size + 1, 0, none⟩, 4, some ⟨w1.heap.size + 1 + 1, 0, none⟩, 1⟩ : VRule) ⟨#[97, 46, 98, 45, 49, 46, 99, 46, 100]⟩ m W h sRok hm (by decide)
    rw [show matchT (⟨sR, some ⟨w1.heap.size, 0, none⟩, 2, some ⟨w1.heap.size + 1, 0, none⟩, 4, some ⟨w1.heap.size + 1 + 1, 0, none⟩, 1⟩ : VRule).rule _ = true from sRm0] at k
    exact k
  have kM1 : ∀ w1 W : World, RuleAt W W.heap.size (⟨sR, some ⟨w1.heap.size, 0, none⟩, 2, some ⟨w1.heap.size + 1, 0, none⟩, 4, some ⟨w1.heap.size + 1 + 1, 0, none⟩, 1⟩ : VRule) → MxAt W m → Calls Tryz.prog 10 #[.agg #[.slice (some ⟨w1.heap.size, 0, none⟩) 2 2, .slice (some ⟨w1.heap.size + 1, 0, none⟩) 4 4, .slice (some ⟨w1.heap.size + 1 + 1, 0, none⟩) 1 1], .string ⟨#[97, 46, 98, 45, 50, 46, 99, 46, 100]⟩] W fun e w' => e = .returned (.bool false) ∧ Below W.heap.size W w' := fun w1 W h hm => by
    have k := match_any (⟨sR, some ⟨w1.heap.size, 0, none⟩, 2, some ⟨w1.heap.size + 1, 0, none⟩, 4, some ⟨w1.heap.size + 1 + 1, 0, none⟩, 1⟩ : VRule) ⟨#[97, 46, 98, 45, 50, 46, 99, 46, 100]⟩ m W h sRok hm (by decide)
    rw [show matchT (⟨sR, some ⟨w1.heap.size, 0, none⟩, 2, some ⟨w1.heap.size + 1, 0, none⟩, 4, some ⟨w1.heap.size + 1 + 1, 0, none⟩, 1⟩ : VRule).rule _ = false from sRm1] at k
    exact k
  have kM2 : ∀ w1 W : World, RuleAt W W.heap.size (⟨sR, some ⟨w1.heap.size, 0, none⟩, 2, some ⟨w1.heap.size + 1, 0, none⟩, 4, some ⟨w1.heap.size + 1 + 1, 0, none⟩, 1⟩ : VRule) → MxAt W m → Calls Tryz.prog 10 #[.agg #[.slice (some ⟨w1.heap.size, 0, none⟩) 2 2, .slice (some ⟨w1.heap.size + 1, 0, none⟩) 4 4, .slice (some ⟨w1.heap.size + 1 + 1, 0, none⟩) 1 1], .string ⟨#[97, 46, 98, 45, 49, 46, 99]⟩] W fun e w' => e = .returned (.bool false) ∧ Below W.heap.size W w' := fun w1 W h hm => by
    have k := match_any (⟨sR, some ⟨w1.heap.size, 0, none⟩, 2, some ⟨w1.heap.size + 1, 0, none⟩, 4, some ⟨w1.heap.size + 1 + 1, 0, none⟩, 1⟩ : VRule) ⟨#[97, 46, 98, 45, 49, 46, 99]⟩ m W h sRok hm (by decide)
    rw [show matchT (⟨sR, some ⟨w1.heap.size, 0, none⟩, 2, some ⟨w1.heap.size + 1, 0, none⟩, 4, some ⟨w1.heap.size + 1 + 1, 0, none⟩, 1⟩ : VRule).rule _ = false from sRm2] at k
    exact k
  go_enter Tryz.func7, Tryz.ntmps7
  go_upto_region 6 with (first
    | (go_at_call 8; (with_reducible refine (known23_any m _ hm).mono ?_); rintro e w1 ⟨rfl, hb1⟩)
    | (go_at_call 17; (with_reducible refine (kR w1).mono ?_); rintro e w2 ⟨rfl, hb2, hr2, z2⟩))
  have p0 := (Blk.cell z2 0).trans rfl
  have p1 := (Blk.cell z2 1).trans rfl
  have p2 := (Blk.cell z2 2).trans rfl
  have hm2 : MxAt w2 m := hm.below (bl_any hb1 hb2)
  have hbw := bl_any hb1 hb2
  clear hm kR
  go_upto_region 29 with fail
  obtain ⟨hq3, y3, hbq⟩ : RuleAt (w2.alloc (.cells #[.slice (some ⟨w1.heap.size, 0, none⟩) 2 2, .slice none 0 0, .slice (some ⟨w1.heap.size + 1 + 1, 0, none⟩) 1 1] 25)) (w2.alloc (.cells #[.slice (some ⟨w1.heap.size, 0, none⟩) 2 2, .slice none 0 0, .slice (some ⟨w1.heap.size + 1 + 1, 0, none⟩) 1 1] 25)).heap.size (⟨sQ6, some ⟨w1.heap.size, 0, none⟩, 2, none, 0, some ⟨w1.heap.size + 1 + 1, 0, none⟩, 1⟩ : VRule) ∧ Blk (w2.alloc (.cells #[.slice (some ⟨w1.heap.size, 0, none⟩) 2 2, .slice none 0 0, .slice (some ⟨w1.heap.size + 1 + 1, 0, none⟩) 1 1] 25)) w2.heap.size 25 #[.slice (some ⟨w1.heap.size, 0, none⟩) 2 2, .slice none 0 0, .slice (some ⟨w1.heap.size + 1 + 1, 0, none⟩) 1 1] ∧ Below w2.heap.size w2 (w2.alloc (.cells #[.slice (some ⟨w1.heap.size, 0, none⟩) 2 2, .slice none 0 0, .slice (some ⟨w1.heap.size + 1 + 1, 0, none⟩) 1 1] 25)) := spoil_n w2 (⟨sR, some ⟨w1.heap.size, 0, none⟩, 2, some ⟨w1.heap.size + 1, 0, none⟩, 4, some ⟨w1.heap.size + 1 + 1, 0, none⟩, 1⟩ : VRule) hr2
  have hr3 := hr2.bel hbq
  have z3 := z2.below hbq (Blk.lt z2)
  have hm3 := hm2.below hbq
  have hbw3 := bl_any hbw hbq
  generalize (w2.alloc (.cells #[.slice (some ⟨w1.heap.size, 0, none⟩) 2 2, .slice none 0 0, .slice (some ⟨w1.heap.size + 1 + 1, 0, none⟩) 1 1] 25)) = w3 at *
  clear p0 p1 p2 hr2 z2 hm2 hbq
  have q30 := (Blk.cell y3 0).trans rfl; have q31 := (Blk.cell y3 1).trans rfl; have q32 := (Blk.cell y3 2).trans rfl; have p30 := (Blk.cell z3 0).trans rfl; have p31 := (Blk.cell z3 1).trans rfl; have p32 := (Blk.cell z3 2).trans rfl
  go_wp2_with (first
    | (go_at_call 17; (with_reducible refine (kG w1 w2 _ hq3).mono ?_); rintro e w4 ⟨rfl, hb4⟩; have hq4 := hq3.bel hb4; have hr4 := hr3.bel hb4; have y4 := y3.below hb4 (Blk.lt y3); have z4 := z3.below hb4 (Blk.lt z3); have hm4 := hm3.below hb4; have hbw4 := bl_any hbw3 hb4; have q40 := (Blk.cell y4 0).trans rfl; have q41 := (Blk.cell y4 1).trans rfl; have q42 := (Blk.cell y4 2).trans rfl; have p40 := (Blk.cell z4 0).trans rfl; have p41 := (Blk.cell z4 1).trans rfl; have p42 := (Blk.cell z4 2).trans rfl)
    | (go_at_call 10; (with_reducible refine (kM w1 w2 _ hq4 hm4).mono ?_); rintro e w5 ⟨rfl, hb5⟩; have hq5 := hq4.bel hb5; have hr5 := hr4.bel hb5; have y5 := y4.below hb5 (Blk.lt y4); have z5 := z4.below hb5 (Blk.lt z4); have hm5 := hm4.below hb5; have hbw5 := bl_any hbw4 hb5; have q50 := (Blk.cell y5 0).trans rfl; have q51 := (Blk.cell y5 1).trans rfl; have q52 := (Blk.cell y5 2).trans rfl; have p50 := (Blk.cell z5 0).trans rfl; have p51 := (Blk.cell z5 1).trans rfl; have p52 := (Blk.cell z5 2).trans rfl)
    | (go_at_call 10; (with_reducible refine (kM0 _ _ hr5 hm5).mono ?_); rintro e w6 ⟨rfl, hb6⟩; have hq6 := hq5.bel hb6; have hr6 := hr5.bel hb6; have y6 := y5.below hb6 (Blk.lt y5); have z6 := z5.below hb6 (Blk.lt z5); have hm6 := hm5.below hb6; have hbw6 := bl_any hbw5 hb6; have q60 := (Blk.cell y6 0).trans rfl; have q61 := (Blk.cell y6 1).trans rfl; have q62 := (Blk.cell y6 2).trans rfl; have p60 := (Blk.cell z6 0).trans rfl; have p61 := (Blk.cell z6 1).trans rfl; have p62 := (Blk.cell z6 2).trans rfl)
    | (go_at_call 10; (with_reducible refine (kM1 _ _ hr6 hm6).mono ?_); rintro e w7 ⟨rfl, hb7⟩; have hq7 := hq6.bel hb7; have hr7 := hr6.bel hb7; have y7 := y6.below hb7 (Blk.lt y6); have z7 := z6.below hb7 (Blk.lt z6); have hm7 := hm6.below hb7; have hbw7 := bl_any hbw6 hb7; have q70 := (Blk.cell y7 0).trans rfl; have q71 := (Blk.cell y7 1).trans rfl; have q72 := (Blk.cell y7 2).trans rfl; have p70 := (Blk.cell z7 0).trans rfl; have p71 := (Blk.cell z7 1).trans rfl; have p72 := (Blk.cell z7 2).trans rfl)
    | (go_at_call 10; (with_reducible refine (kM2 _ _ hr7 hm7).mono ?_); rintro e w8 ⟨rfl, hb8⟩; have hq8 := hq7.bel hb8; have hr8 := hr7.bel hb8; have y8 := y7.below hb8 (Blk.lt y7); have z8 := z7.below hb8 (Blk.lt z7); have hm8 := hm7.below hb8; have hbw8 := bl_any hbw7 hb8; have q80 := (Blk.cell y8 0).trans rfl; have q81 := (Blk.cell y8 1).trans rfl; have q82 := (Blk.cell y8 2).trans rfl; have p80 := (Blk.cell z8 0).trans rfl; have p81 := (Blk.cell z8 1).trans rfl; have p82 := (Blk.cell z8 2).trans rfl))
  go_ret
  exact ⟨rfl, hbw8⟩
set_option maxRecDepth 100000 in
set_option maxHeartbeats 12800000 in
theorem spoils23_7 (a0 m : Int) (w : World) (hm : MxAt w m) (hw : 0 ≤ a0 ∧ a0 < 256) (ha : a0 % 11 = 7) :
    Calls Tryz.prog 7 #[.int .u8 a0] w fun e w' => e = .returned (.bool true) ∧ Below w.heap.size w w' := by
  have hd : Int.tmod a0 11 = 7 := by rw [Int.tmod_eq_emod_of_nonneg hw.1]; exact ha
  have kR : ∀ w1 : World, Calls Tryz.prog 17 #[.agg #[.slice (some ⟨w1.heap.size, 0, none⟩) 2 2, .slice (some ⟨w1.heap.size + 1, 0, none⟩) 4 4, .slice (some ⟨w1.heap.size + 1 + 1, 0, none⟩) 1 1]] ((((w1.alloc (.cells #[.string ⟨#[42]⟩, .string ⟨#[98, 45, 49]⟩] 9)).alloc (.cells #[.string ⟨#[104, 111, 115, 116]⟩, .string ⟨#[109, 101, 116, 114, 105, 99]⟩, .string ⟨#[95]⟩, .string ⟨#[109, 101, 116, 114, 105, 99, 42]⟩] 9)).alloc (.cells #[.string ⟨#[100, 99]⟩, .string ⟨#[120, 61, 121]⟩] 33)).alloc (.cells #[.slice (some ⟨w1.heap.size, 0, none⟩) 2 2, .slice (some ⟨w1.heap.size + 1, 0, none⟩) 4 4, .slice (some ⟨w1.heap.size + 1 + 1, 0, none⟩) 1 1] 25)) fun e w' => e = .returned (.bool true) ∧ Below w1.heap.size w1 w' ∧ RuleAt w' w'.heap.size (⟨sR, some ⟨w1.heap.size, 0, none⟩, 2, some ⟨w1.heap.size + 1, 0, none⟩, 4, some ⟨w1.heap.size + 1 + 1, 0, none⟩, 1⟩ : VRule) ∧ Blk w' (w1.heap.size + 1 + 1 + 1) 25 #[.slice (some ⟨w1.heap.size, 0, none⟩) 2 2, .slice (some ⟨w1.heap.size + 1, 0, none⟩) 4 4, .slice (some ⟨w1.heap.size + 1 + 1, 0, none⟩) 1 1] := fun w1 => by
    obtain ⟨h1, h2, h3⟩ := spoilR w1
    have k := tgood_any (⟨sR, some ⟨w1.heap.size, 0, none⟩, 2, some ⟨w1.heap.size + 1, 0, none⟩, 4, some ⟨w1.heap.size + 1 + 1, 0, none⟩, 1⟩ : VRule) _ h1 sRok
    rw [show goodR (⟨sR, some ⟨w1.heap.size, 0, none⟩, 2, some ⟨w1.heap.size + 1, 0, none⟩, 4, some ⟨w1.heap.size + 1 + 1, 0, none⟩, 1⟩ : VRule).rule = true from sRg] at k
    exact k.mono fun e w' ⟨i1, i2⟩ => ⟨i1, bl_any h3 i2, h1.bel i2, h2.below i2 (Blk.lt h2)⟩
  have kG : ∀ w1 w2 W : World, RuleAt W W.heap.size (⟨sQ7, some ⟨w1.heap.size, 0, none⟩, 2, some ⟨w1.heap.size + 1, 0, none⟩, 4, some ⟨w2.heap.size + 1, 0, none⟩, 1⟩ : VRule) → Calls Tryz.prog 17 #[.agg #[.slice (some ⟨w1.heap.size, 0, none⟩) 2 2, .slice (some ⟨w1.heap.size + 1, 0, none⟩) 4 4, .slice (some ⟨w2.heap.size + 1, 0, none⟩) 1 1]] W fun e w' => e = .returned (.bool false) ∧ Below W.heap.size W w' := fun w1 w2 W h => by
    have k := tgood_any (⟨sQ7, some ⟨w1.heap.size, 0, none⟩, 2, some ⟨w1.heap.size + 1, 0, none⟩, 4, some ⟨w2.heap.size + 1, 0, none⟩, 1⟩ : VRule) W h sQ7ok
    rw [show goodR (⟨sQ7, some ⟨w1.heap.size, 0, none⟩, 2, some ⟨w1.heap.size + 1, 0, none⟩, 4, some ⟨w2.heap.size + 1, 0, none⟩, 1⟩ : VRule).rule = false from sQ7g] at k
    exact k
  have kM : ∀ w1 w2 W : World, RuleAt W W.heap.size (⟨sQ7, some ⟨w1.heap.size, 0, none⟩, 2, some ⟨w1.heap.size + 1, 0, none⟩, 4, some ⟨w2.heap.size + 1, 0, none⟩, 1⟩ : VRule) → MxAt W m → Calls Tryz.prog 10 #[.agg #[.slice (some ⟨w1.heap.size, 0, none⟩) 2 2, .slice (some ⟨w1.heap.size + 1, 0, none⟩) 4 4, .slice (some ⟨w2.heap.size + 1, 0, none⟩) 1 1], .string ⟨#[97, 46, 98, 45, 49, 46, 99, 46, 100]⟩] W fun e w' => e = .returned (.bool false) ∧ Below W.heap.size W w' := fun w1 w2 W h hm => by
    have k := match_any (⟨sQ7, some ⟨w1.heap.size, 0, none⟩, 2, some ⟨w1.heap.size + 1, 0, none⟩, 4, some ⟨w2.heap.size + 1, 0, none⟩, 1⟩ : VRule) ⟨#[97, 46, 98, 45, 49, 46, 99, 46, 100]⟩ m W h sQ7ok hm (by decide)
    rw [show matchT (⟨sQ7, some ⟨w1.heap.size, 0, none⟩, 2, some ⟨w1.heap.size + 1, 0, none⟩, 4, some ⟨w2.heap.size + 1, 0, none⟩, 1⟩ : VRule).rule _ = false from sQ7m] at k
    exact k
  have kM0 : ∀ w1 W : World, RuleAt W W.heap.size (⟨sR, some ⟨w1.heap.size, 0, none⟩, 2, some ⟨w1.heap.size + 1, 0, none⟩, 4, some ⟨w1.heap.size + 1 + 1, 0, none⟩, 1⟩ : VRule) → MxAt W m → Calls Tryz.prog 10 #[.agg #[.slice (some ⟨w1.heap.size, 0, none⟩) 2 2, .slice (some ⟨w1.heap.size + 1, 0, none⟩) 4 4, .slice (some ⟨w1.heap.size + 1 + 1, 0, none⟩) 1 1], .string ⟨#[97, 46, 98, 45, 49, 46, 99, 46, 100]⟩] W fun e w' => e = .returned (.bool true) ∧ Below W.heap.size W w' := fun w1 W h hm => by
    have k := match_any (⟨sR, some ⟨w1.heap.size, 0, none⟩, 2, some ⟨w1.heap.size + 1, 0, none⟩, 4, some ⟨w1.heap.size + 1 + 1, 0, none⟩, 1⟩ : VRule) ⟨#[97, 46, 98, 45, 49, 46, 99, 46, 100]⟩ m W h sRok hm (by decide)
    rw [show matchT (⟨sR, some ⟨w1.heap.size, 0, none⟩, 2, some ⟨w1.heap.size + 1, 0, none⟩, 4, some ⟨w1.heap.size + 1 + 1, 0, none⟩, 1⟩ : VRule).rule _ = true from sRm0] at k
    exact k
  have kM1 : ∀ w1 W : World, RuleAt W W.heap.size (⟨sR, some ⟨w1.heap.size, 0, none⟩, 2, some ⟨w1.heap.size + 1, 0, none⟩, 4, some ⟨w1.heap.size + 1 + 1, 0, none⟩, 1⟩ : VRule) → MxAt W m → Calls Tryz.prog 10 #[.agg #[.slice (some ⟨w1.heap.size, 0, none⟩) 2 2, .slice (some ⟨w1.heap.size + 1, 0, none⟩) 4 4, .slice (some ⟨w1.heap.size + 1 + 1, 0, none⟩) 1 1], .string ⟨#[97, 46, 98, 45, 50, 46, 99, 46, 100]⟩] W fun e w' => e = .returned (.bool false) ∧ Below W.heap.size W w' := fun w1 W h hm => by
    have k := match_any (⟨sR, some ⟨w1.heap.size, 0, none⟩, 2, some ⟨w1.heap.size + 1, 0, none⟩, 4, some ⟨w1.heap.size + 1 + 1, 0, none⟩, 1⟩ : VRule) ⟨#[97, 46, 98, 45, 50, 46, 99, 46, 100]⟩ m W h sRok hm (by decide)
    rw [show matchT (⟨sR, some ⟨w1.heap.size, 0, none⟩, 2, some ⟨w1.heap.size + 1, 0, none⟩, 4, some ⟨w1.heap.size + 1 + 1, 0, none⟩, 1⟩ : VRule).rule _ = false from sRm1] at k
    exact k
  have kM2 : ∀ w1 W : World, RuleAt W W.heap.size (⟨sR, some ⟨w1.heap.size, 0, none⟩, 2, some ⟨w1.heap.size + 1, 0, none⟩, 4, some ⟨w1.heap.size + 1 + 1, 0, none⟩, 1⟩ : VRule) → MxAt W m → Calls Tryz.prog 10 #[.agg #[.slice (some ⟨w1.heap.size, 0, none⟩) 2 2, .slice (some ⟨w1.heap.size + 1, 0, none⟩) 4 4, .slice (some ⟨w1.heap.size + 1 + 1, 0, none⟩) 1 1], .string ⟨#[97, 46, 98, 45, 49, 46, 99]⟩] W fun e w' => e = .returned (.bool false) ∧ Below W.heap.size W w' := fun w1 W h hm => by
    have k := match_any (⟨sR, some ⟨w1.heap.size, 0, none⟩, 2, some ⟨w1.heap.size + 1, 0, none⟩, 4, some ⟨w1.heap.size + 1 + 1, 0, none⟩, 1⟩ : VRule) ⟨#[97, 46, 98, 45, 49, 46, 99]⟩ m W h sRok hm (by decide)
    rw [show matchT (⟨sR, some ⟨w1.heap.size, 0, none⟩, 2, some ⟨w1.heap.size + 1, 0, none⟩, 4, some ⟨w1.heap.size + 1 + 1, 0, none⟩, 1⟩ : VRule).rule _ = false from sRm2] at k
    exact k
  go_enter Tryz.func7, Tryz.ntmps7
  go_upto_region 6 with (first
    | (go_at_call 8; (with_reducible refine (known23_any m _ hm).mono ?_); rintro e w1 ⟨rfl, hb1⟩)
    | (go_at_call 17; (with_reducible refine (kR w1).mono ?_); rintro e w2 ⟨rfl, hb2, hr2, z2⟩))
  have p0 := (Blk.cell z2 0).trans rfl
  have p1 := (Blk.cell z2 1).trans rfl
  have p2 := (Blk.cell z2 2).trans rfl
  have hm2 : MxAt w2 m := hm.below (bl_any hb1 hb2)
  have hbw := bl_any hb1 hb2
  clear hm kR
  go_upto_region 29 with fail
  obtain ⟨hq3, y3, hbq⟩ : RuleAt ((w2.alloc (.cells #[.slice (some ⟨w1.heap.size, 0, none⟩) 2 2, .slice (some ⟨w1.heap.size + 1, 0, none⟩) 4 4, .slice (some ⟨w2.heap.size + 1, 0, none⟩) 1 1] 25)).alloc (.cells #[.string ⟨#[100, 99]⟩, .string ⟨#[97, 44, 98]⟩] 33)) ((w2.alloc (.cells #[.slice (some ⟨w1.heap.size, 0, none⟩) 2 2, .slice (some ⟨w1.heap.size + 1, 0, none⟩) 4 4, .slice (some ⟨w2.heap.size + 1, 0, none⟩) 1 1] 25)).alloc (.cells #[.string ⟨#[100, 99]⟩, .string ⟨#[97, 44, 98]⟩] 33)).heap.size (⟨sQ7, some ⟨w1.heap.size, 0, none⟩, 2, some ⟨w1.heap.size + 1, 0, none⟩, 4, some ⟨w2.heap.size + 1, 0, none⟩, 1⟩ : VRule) ∧ Blk ((w2.alloc (.cells #[.slice (some ⟨w1.heap.size, 0, none⟩) 2 2, .slice (some ⟨w1.heap.size + 1, 0, none⟩) 4 4, .slice (some ⟨w2.heap.size + 1, 0, none⟩) 1 1] 25)).alloc (.cells #[.string ⟨#[100, 99]⟩, .string ⟨#[97, 44, 98]⟩] 33)) w2.heap.size 25 #[.slice (some ⟨w1.heap.size, 0, none⟩) 2 2, .slice (some ⟨w1.heap.size + 1, 0, none⟩) 4 4, .slice (some ⟨w2.heap.size + 1, 0, none⟩) 1 1] ∧ Below w2.heap.size w2 ((w2.alloc (.cells #[.slice (some ⟨w1.heap.size, 0, none⟩) 2 2, .slice (some ⟨w1.heap.size + 1, 0, none⟩) 4 4, .slice (some ⟨w2.heap.size + 1, 0, none⟩) 1 1] 25)).alloc (.cells #[.string ⟨#[100, 99]⟩, .string ⟨#[97, 44, 98]⟩] 33)) := spoil_e w2 (⟨sR, some ⟨w1.heap.size, 0, none⟩, 2, some ⟨w1.heap.size + 1, 0, none⟩, 4, some ⟨w1.heap.size + 1 + 1, 0, none⟩, 1⟩ : VRule) hr2 [(⟨#[100, 99]⟩, ⟨#[97, 44, 98]⟩)] #[.string ⟨#[100, 99]⟩, .string ⟨#[97, 44, 98]⟩] 33 rfl
  have hr3 := hr2.bel hbq
  have z3 := z2.below hbq (Blk.lt z2)
  have hm3 := hm2.below hbq
  have hbw3 := bl_any hbw hbq
  generalize ((w2.alloc (.cells #[.slice (some ⟨w1.heap.size, 0, none⟩) 2 2, .slice (some ⟨w1.heap.size + 1, 0, none⟩) 4 4, .slice (some ⟨w2.heap.size + 1, 0, none⟩) 1 1] 25)).alloc (.cells #[.string ⟨#[100, 99]⟩, .string ⟨#[97, 44, 98]⟩] 33)) = w3 at *
  clear p0 p1 p2 hr2 z2 hm2 hbq
  have q30 := (Blk.cell y3 0).trans rfl; have q31 := (Blk.cell y3 1).trans rfl; have q32 := (Blk.cell y3 2).trans rfl; have p30 := (Blk.cell z3 0).trans rfl; have p31 := (Blk.cell z3 1).trans rfl; have p32 := (Blk.cell z3 2).trans rfl
  go_wp2_with (first
    | (go_at_call 17; (with_reducible refine (kG w1 w2 _ hq3).mono ?_); rintro e w4 ⟨rfl, hb4⟩; have hq4 := hq3.bel hb4; have hr4 := hr3.bel hb4; have y4 := y3.below hb4 (Blk.lt y3); have z4 := z3.below hb4 (Blk.lt z3); have hm4 := hm3.below hb4; have hbw4 := bl_any hbw3 hb4; have q40 := (Blk.cell y4 0).trans rfl; have q41 := (Blk.cell y4 1).trans rfl; have q42 := (Blk.cell y4 2).trans rfl; have p40 := (Blk.cell z4 0).trans rfl; have p41 := (Blk.cell z4 1).trans rfl; have p42 := (Blk.cell z4 2).trans rfl)
    | (go_at_call 10; (with_reducible refine (kM w1 w2 _ hq4 hm4).mono ?_); rintro e w5 ⟨rfl, hb5⟩; have hq5 := hq4.bel hb5; have hr5 := hr4.bel hb5; have y5 := y4.below hb5 (Blk.lt y4); have z5 := z4.below hb5 (Blk.lt z4); have hm5 := hm4.below hb5; have hbw5 := bl_any hbw4 hb5; have q50 := (Blk.cell y5 0).trans rfl; have q51 := (Blk.cell y5 1).trans rfl; have q52 := (Blk.cell y5 2).trans rfl; have p50 := (Blk.cell z5 0).trans rfl; have p51 := (Blk.cell z5 1).trans rfl; have p52 := (Blk.cell z5 2).trans rfl)
    | (go_at_call 10; (with_reducible refine (kM0 _ _ hr5 hm5).mono ?_); rintro e w6 ⟨rfl, hb6⟩; have hq6 := hq5.bel hb6; have hr6 := hr5.bel hb6; have y6 := y5.below hb6 (Blk.lt y5); have z6 := z5.below hb6 (Blk.lt z5); have hm6 := hm5.below hb6; have hbw6 := bl_any hbw5 hb6; have q60 := (Blk.cell y6 0).trans rfl; have q61 := (Blk.cell y6 1).trans rfl; have q62 := (Blk.cell y6 2).trans rfl; have p60 := (Blk.cell z6 0).trans rfl; have p61 := (Blk.cell z6 1).trans rfl; have p62 := (Blk.cell z6 2).trans rfl)
    | (go_at_call 10; (with_reducible refine (kM1 _ _ hr6 hm6).mono ?_); rintro e w7 ⟨rfl, hb7⟩; have hq7 := hq6.bel hb7; have hr7 := hr6.bel hb7; have y7 := y6.below hb7 (Blk.lt y6); have z7 := z6.below hb7 (Blk.lt z6); have hm7 := hm6.below hb7; have hbw7 := bl_any hbw6 hb7; have q70 := (Blk.cell y7 0).trans rfl; have q71 := (Blk.cell y7 1).trans rfl; have q72 := (Blk.cell y7 2).trans rfl; have p70 := (Blk.cell z7 0).trans rfl; have p71 := (Blk.cell z7 1).trans rfl; have p72 := (Blk.cell z7 2).trans rfl)
    | (go_at_call 10; (with_reducible refine (kM2 _ _ hr7 hm7).mono ?_); rintro e w8 ⟨rfl, hb8⟩; have hq8 := hq7.bel hb8; have hr8 := hr7.bel hb8; have y8 := y7.below hb8 (Blk.lt y7); have z8 := z7.below hb8 (Blk.lt z7); have hm8 := hm7.below hb8; have hbw8 := bl_any hbw7 hb8; have q80 := (Blk.cell y8 0).trans rfl; have q81 := (Blk.cell y8 1).trans rfl; have q82 := (Blk.cell y8 2).trans rfl; have p80 := (Blk.cell z8 0).trans rfl; have p81 := (Blk.cell z8 1).trans rfl; have p82 := (Blk.cell z8 2).trans rfl))
  go_ret
  exact ⟨rfl, hbw8⟩
set_option maxRecDepth 100000 in
set_option maxHeartbeats 12800000 in
theorem spoils23_8 (a0 m : Int) (w : World) (hm : MxAt w m) (hw : 0 ≤ a0 ∧ a0 < 256) (ha : a0 % 11 = 8) :
    Calls Tryz.prog 7 #[.int .u8 a0] w fun e w' => e = .returned (.bool true) ∧ Below w.heap.size w w' := by
  have hd : Int.tmod a0 11 = 8 := by rw [Int.tmod_eq_emod_of_nonneg hw.1]; exact ha
  have kR : ∀ w1 : World, Calls Tryz.prog 17 #[.agg #[.slice (some ⟨w1.heap.size, 0, none⟩) 2 2, .slice (some ⟨w1.heap.size + 1, 0, none⟩) 4 4, .slice (some ⟨w1.heap.size + 1 + 1, 0, none⟩) 1 1]] ((((w1.alloc (.cells #[.string ⟨#[42]⟩, .string ⟨#[98, 45, 49]⟩] 9)).alloc (.cells #[.string ⟨#[104, 111, 115, 116]⟩, .string ⟨#[109, 101, 116, 114, 105, 99]⟩, .string ⟨#[95]⟩, .string ⟨#[109, 101, 116, 114, 105, 99, 42]⟩] 9)).alloc (.cells #[.string ⟨#[100, 99]⟩, .string ⟨#[120, 61, 121]⟩] 33)).alloc (.cells #[.slice (some ⟨w1.heap.size, 0, none⟩) 2 2, .slice (some ⟨w1.heap.size + 1, 0, none⟩) 4 4, .slice (some ⟨w1.heap.size + 1 + 1, 0, none⟩) 1 1] 25)) fun e w' => e = .returned (.bool true) ∧ Below w1.heap.size w1 w' ∧ RuleAt w' w'.heap.size (⟨sR, some ⟨w1.heap.size, 0, none⟩, 2, some ⟨w1.heap.size + 1, 0, none⟩, 4, some ⟨w1.heap.size + 1 + 1, 0, none⟩, 1⟩ : VRule) ∧ Blk w' (w1.heap.size + 1 + 1 + 1) 25 #[.slice (some ⟨w1.heap.size, 0, none⟩) 2 2, .slice (some ⟨w1.heap.size + 1, 0, none⟩) 4 4, .slice (some ⟨w1.heap.size + 1 + 1, 0, none⟩) 1 1] := fun w1 => by
    obtain ⟨h1, h2, h3⟩ := spoilR w1
    have k := tgood_any (⟨sR, some ⟨w1.heap.size, 0, none⟩, 2, some ⟨w1.heap.size + 1, 0, none⟩, 4, some ⟨w1.heap.size + 1 + 1, 0, none⟩, 1⟩ : VRule) _ h1 sRok
    rw [show goodR (⟨sR, some ⟨w1.heap.size, 0, none⟩, 2, some ⟨w1.heap.size + 1, 0, none⟩, 4, some ⟨w1.heap.size + 1 + 1, 0, none⟩, 1⟩ : VRule).rule = true from sRg] at k
    exact k.mono fun e w' ⟨i1, i2⟩ => ⟨i1, bl_any h3 i2, h1.bel i2, h2.below i2 (Blk.lt h2)⟩
  have kG : ∀ w1 w2 W : World, RuleAt W W.heap.size (⟨sQ8, some ⟨w1.heap.size, 0, none⟩, 2, some ⟨w1.heap.size + 1, 0, none⟩, 4, some ⟨w2.heap.size + 1, 0, none⟩, 2⟩ : VRule) → Calls Tryz.prog 17 #[.agg #[.slice (some ⟨w1.heap.size, 0, none⟩) 2 2, .slice (some ⟨w1.heap.size + 1, 0, none⟩) 4 4, .slice (some ⟨w2.heap.size + 1, 0, none⟩) 2 2]] W fun e w' => e = .returned (.bool false) ∧ Below W.heap.size W w' := fun w1 w2 W h => by
    have k := tgood_any (⟨sQ8, some ⟨w1.heap.size, 0, none⟩, 2, some ⟨w1.heap.size + 1, 0, none⟩, 4, some ⟨w2.heap.size + 1, 0, none⟩, 2⟩ : VRule) W h sQ8ok
    rw [show goodR (⟨sQ8, some ⟨w1.heap.size, 0, none⟩, 2, some ⟨w1.heap.size + 1, 0, none⟩, 4, some ⟨w2.heap.size + 1, 0, none⟩, 2⟩ : VRule).rule = false from sQ8g] at k
    exact k
  have kM : ∀ w1 w2 W : World, RuleAt W W.heap.size (⟨sQ8, some ⟨w1.heap.size, 0, none⟩, 2, some ⟨w1.heap.size + 1, 0, none⟩, 4, some ⟨w2.heap.size + 1, 0, none⟩, 2⟩ : VRule) → MxAt W m → Calls Tryz.prog 10 #[.agg #[.slice (some ⟨w1.heap.size, 0, none⟩) 2 2, .slice (some ⟨w1.heap.size + 1, 0, none⟩) 4 4, .slice (some ⟨w2.heap.size + 1, 0, none⟩) 2 2], .string ⟨#[97, 46, 98, 45, 49, 46, 99, 46, 100]⟩] W fun e w' => e = .returned (.bool false) ∧ Below W.heap.size W w' := fun w1 w2 W h hm => by
    have k := match_any (⟨sQ8, some ⟨w1.heap.size, 0, none⟩, 2, some ⟨w1.heap.size + 1, 0, none⟩, 4, some ⟨w2.heap.size + 1, 0, none⟩, 2⟩ : VRule) ⟨#[97, 46, 98, 45, 49, 46, 99, 46, 100]⟩ m W h sQ8ok hm (by decide)
    rw [show matchT (⟨sQ8, some ⟨w1.heap.size, 0, none⟩, 2, some ⟨w1.heap.size + 1, 0, none⟩, 4, some ⟨w2.heap.size + 1, 0, none⟩, 2⟩ : VRule).rule _ = false from sQ8m] at k
    exact k
  have kM0 : ∀ w1 W : World, RuleAt W W.heap.size (⟨sR, some ⟨w1.heap.size, 0, none⟩, 2, some ⟨w1.heap.size + 1, 0, none⟩, 4, some ⟨w1.heap.size + 1 + 1, 0, none⟩, 1⟩ : VRule) → MxAt W m → Calls Tryz.prog 10 #[.agg #[.slice (some ⟨w1.heap.size, 0, none⟩) 2 2, .slice (some ⟨w1.heap.size + 1, 0, none⟩) 4 4, .slice (some ⟨w1.heap.size + 1 + 1, 0, none⟩) 1 1], .string ⟨#[97, 46, 98, 45, 49, 46, 99, 46, 100]⟩] W fun e w' => e = .returned (.bool true) ∧ Below W.heap.size W w' := fun w1 W h hm => by
    have k := match_any (⟨sR, some ⟨w1.heap.size, 0, none⟩, 2, some ⟨w1.heap.size + 1, 0, none⟩, 4, some ⟨w1.heap.size + 1 + 1, 0, none⟩, 1⟩ : VRule) ⟨#[97, 46, 98, 45, 49, 46, 99, 46, 100]⟩ m W h sRok hm (by decide)
    rw [show matchT (⟨sR, some ⟨w1.heap.size, 0, none⟩, 2, some ⟨w1.heap.size + 1, 0, none⟩, 4, some ⟨w1.heap.size + 1 + 1, 0, none⟩, 1⟩ : VRule).rule _ = true from sRm0] at k
    exact k
  have kM1 : ∀ w1 W : World, RuleAt W W.heap.size (⟨sR, some ⟨w1.heap.size, 0, none⟩, 2, some ⟨w1.heap.size + 1, 0, none⟩, 4, some ⟨w1.heap.size + 1 + 1, 0, none⟩, 1⟩ : VRule) → MxAt W m → Calls Tryz.prog 10 #[.agg #[.slice (some ⟨w1.heap.size, 0, none⟩) 2 2, .slice (some ⟨w1.heap.size + 1, 0, none⟩) 4 4, .slice (some ⟨w1.heap.size + 1 + 1, 0, none⟩) 1 1], .string ⟨#[97, 46, 98, 45, 50, 46, 99, 46, 100]⟩] W fun e w' => e = .returned (.bool false) ∧ Below W.heap.size W w' := fun w1 W h hm => by
    have k := match_any (⟨sR, some ⟨w1.heap.size, 0, none⟩, 2, some ⟨w1.heap.size + 1, 0, none⟩, 4, some ⟨w1.heap.size + 1 + 1, 0, none⟩, 1⟩ : VRule) ⟨#[97, 46, 98, 45, 50, 46, 99, 46, 100]⟩ m W h sRok hm (by decide)
    rw [show matchT (⟨sR, some ⟨w1.heap.size, 0, none⟩, 2, some ⟨w1.heap.size + 1, 0, none⟩, 4, some ⟨w1.heap.size + 1 + 1, 0, none⟩, 1⟩ : VRule).rule _ = false from sRm1] at k
    exact k
  have kM2 : ∀ w1 W : World, RuleAt W W.heap.size (⟨sR, some ⟨w1.heap.size, 0, none⟩, 2, some ⟨w1.heap.size + 1, 0, none⟩, 4, some ⟨w1.heap.size + 1 + 1, 0, none⟩, 1⟩ : VRule) → MxAt W m → Calls Tryz.prog 10 #[.agg #[.slice (some ⟨w1.heap.size, 0, none⟩) 2 2, .slice (some ⟨w1.heap.size + 1, 0, none⟩) 4 4, .slice (some ⟨w1.heap.size + 1 + 1, 0, none⟩) 1 1], .string ⟨#[97, 46, 98, 45, 49, 46, 99]⟩] W fun e w' => e = .returned (.bool false) ∧ Below W.heap.size W w' := fun w1 W h hm => by
    have k := match_any (⟨sR, some ⟨w1.heap.size, 0, none⟩, 2, some ⟨w1.heap.size + 1, 0, none⟩, 4, some ⟨w1.heap.size + 1 + 1, 0, none⟩, 1⟩ : VRule) ⟨#[97, 46, 98, 45, 49, 46, 99]⟩ m W h sRok hm (by decide)
    rw [show matchT (⟨sR, some ⟨w1.heap.size, 0, none⟩, 2, some ⟨w1.heap.size + 1, 0, none⟩, 4, some ⟨w1.heap.size + 1 + 1, 0, none⟩, 1⟩ : VRule).rule _ = false from sRm2] at k
    exact k
  go_enter Tryz.func7, Tryz.ntmps7
  go_upto_region 6 with (first
    | (go_at_call 8; (with_reducible refine (known23_any m _ hm).mono ?_); rintro e w1 ⟨rfl, hb1⟩)
    | (go_at_call 17; (with_reducible refine (kR w1).mono ?_); rintro e w2 ⟨rfl, hb2, hr2, z2⟩))
  have p0 := (Blk.cell z2 0).trans rfl
  have p1 := (Blk.cell z2 1).trans rfl
  have p2 := (Blk.cell z2 2).trans rfl
  have hm2 : MxAt w2 m := hm.below (bl_any hb1 hb2)
  have hbw := bl_any hb1 hb2
  clear hm kR
  go_upto_region 29 with fail
  obtain ⟨hq3, y3, hbq⟩ : RuleAt ((w2.alloc (.cells #[.slice (some ⟨w1.heap.size, 0, none⟩) 2 2, .slice (some ⟨w1.heap.size + 1, 0, none⟩) 4 4, .slice (some ⟨w2.heap.size + 1, 0, none⟩) 2 2] 25)).alloc (.cells #[.string ⟨#[122]⟩, .string ⟨#[49]⟩, .string ⟨#[100, 99]⟩, .string ⟨#[49]⟩] 33)) ((w2.alloc (.cells #[.slice (some ⟨w1.heap.size, 0, none⟩) 2 2, .slice (some ⟨w1.heap.size + 1, 0, none⟩) 4 4, .slice (some ⟨w2.heap.size + 1, 0, none⟩) 2 2] 25)).alloc (.cells #[.string ⟨#[122]⟩, .string ⟨#[49]⟩, .string ⟨#[100, 99]⟩, .string ⟨#[49]⟩] 33)).heap.size (⟨sQ8, some ⟨w1.heap.size, 0, none⟩, 2, some ⟨w1.heap.size + 1, 0, none⟩, 4, some ⟨w2.heap.size + 1, 0, none⟩, 2⟩ : VRule) ∧ Blk ((w2.alloc (.cells #[.slice (some ⟨w1.heap.size, 0, none⟩) 2 2, .slice (some ⟨w1.heap.size + 1, 0, none⟩) 4 4, .slice (some ⟨w2.heap.size + 1, 0, none⟩) 2 2] 25)).alloc (.cells #[.string ⟨#[122]⟩, .string ⟨#[49]⟩, .string ⟨#[100, 99]⟩, .string ⟨#[49]⟩] 33)) w2.heap.size 25 #[.slice (some ⟨w1.heap.size, 0, none⟩) 2 2, .slice (some ⟨w1.heap.size + 1, 0, none⟩) 4 4, .slice (some ⟨w2.heap.size + 1, 0, none⟩) 2 2] ∧ Below w2.heap.size w2 ((w2.alloc (.cells #[.slice (some ⟨w1.heap.size, 0, none⟩) 2 2, .slice (some ⟨w1.heap.size + 1, 0, none⟩) 4 4, .slice (some ⟨w2.heap.size + 1, 0, none⟩) 2 2] 25)).alloc (.cells #[.string ⟨#[122]⟩, .string ⟨#[49]⟩, .string ⟨#[100, 99]⟩, .string ⟨#[49]⟩] 33)) := spoil_e w2 (⟨sR, some ⟨w1.heap.size, 0, none⟩, 2, some ⟨w1.heap.size + 1, 0, none⟩, 4, some ⟨w1.heap.size + 1 + 1, 0, none⟩, 1⟩ : VRule) hr2 [(⟨#[122]⟩, ⟨#[49]⟩), (⟨#[100, 99]⟩, ⟨#[49]⟩)] #[.string ⟨#[122]⟩, .string ⟨#[49]⟩, .string ⟨#[100, 99]⟩, .string ⟨#[49]⟩] 33 rfl
  have hr3 := hr2.bel hbq
  have z3 := z2.below hbq (Blk.lt z2)
  have hm3 := hm2.below hbq
  have hbw3 := bl_any hbw hbq
  generalize ((w2.alloc (.cells #[.slice (some ⟨w1.heap.size, 0, none⟩) 2 2, .slice (some ⟨w1.heap.size + 1, 0, none⟩) 4 4, .slice (some ⟨w2.heap.size + 1, 0, none⟩) 2 2] 25)).alloc (.cells #[.string ⟨#[122]⟩, .string ⟨#[49]⟩, .string ⟨#[100, 99]⟩, .string ⟨#[49]⟩] 33)) = w3 at *
  clear p0 p1 p2 hr2 z2 hm2 hbq
  have q30 := (Blk.cell y3 0).trans rfl; have q31 := (Blk.cell y3 1).trans rfl; have q32 := (Blk.cell y3 2).trans rfl; have p30 := (Blk.cell z3 0).trans rfl; have p31 := (Blk.cell z3 1).trans rfl; have p32 := (Blk.cell z3 2).trans rfl
  go_wp2_with (first
    | (go_at_call 17; (with_reducible refine (kG w1 w2 _ hq3).mono ?_); rintro e w4 ⟨rfl, hb4⟩; have hq4 := hq3.bel hb4; have hr4 := hr3.bel hb4; have y4 := y3.below hb4 (Blk.lt y3); have z4 := z3.below hb4 (Blk.lt z3); have hm4 := hm3.below hb4; have hbw4 := bl_any hbw3 hb4; have q40 := (Blk.cell y4 0).trans rfl; have q41 := (Blk.cell y4 1).trans rfl; have q42 := (Blk.cell y4 2).trans rfl; have p40 := (Blk.cell z4 0).trans rfl; have p41 := (Blk.cell z4 1).trans rfl; have p42 := (Blk.cell z4 2).trans rfl)
    | (go_at_call 10; (with_reducible refine (kM w1 w2 _ hq4 hm4).mono ?_); rintro e w5 ⟨rfl, hb5⟩; have hq5 := hq4.bel hb5; have hr5 := hr4.bel hb5; have y5 := y4.below hb5 (Blk.lt y4); have z5 := z4.below hb5 (Blk.lt z4); have hm5 := hm4.below hb5; have hbw5 := bl_any hbw4 hb5; have q50 := (Blk.cell y5 0).trans rfl; have q51 := (Blk.cell y5 1).trans rfl; have q52 := (Blk.cell y5 2).trans rfl; have p50 := (Blk.cell z5 0).trans rfl; have p51 := (Blk.cell z5 1).trans rfl; have p52 := (Blk.cell z5 2).trans rfl)
    | (go_at_call 10; (with_reducible refine (kM0 _ _ hr5 hm5).mono ?_); rintro e w6 ⟨rfl, hb6⟩; have hq6 := hq5.bel hb6; have hr6 := hr5.bel hb6; have y6 := y5.below hb6 (Blk.lt y5); have z6 := z5.below hb6 (Blk.lt z5); have hm6 := hm5.below hb6; have hbw6 := bl_any hbw5 hb6; have q60 := (Blk.cell y6 0).trans rfl; have q61 := (Blk.cell y6 1).trans rfl; have q62 := (Blk.cell y6 2).trans rfl; have p60 := (Blk.cell z6 0).trans rfl; have p61 := (Blk.cell z6 1).trans rfl; have p62 := (Blk.cell z6 2).trans rfl)
    | (go_at_call 10; (with_reducible refine (kM1 _ _ hr6 hm6).mono ?_); rintro e w7 ⟨rfl, hb7⟩; have hq7 := hq6.bel hb7; have hr7 := hr6.bel hb7; have y7 := y6.below hb7 (Blk.lt y6); have z7 := z6.below hb7 (Blk.lt z6); have hm7 := hm6.below hb7; have hbw7 := bl_any hbw6 hb7; have q70 := (Blk.cell y7 0).trans rfl; have q71 := (Blk.cell y7 1).trans rfl; have q72 := (Blk.cell y7 2).trans rfl; have p70 := (Blk.cell z7 0).trans rfl; have p71 := (Blk.cell z7 1).trans rfl; have p72 := (Blk.cell z7 2).trans rfl)
    | (go_at_call 10; (with_reducible refine (kM2 _ _ hr7 hm7).mono ?_); rintro e w8 ⟨rfl, hb8⟩; have hq8 := hq7.bel hb8; have hr8 := hr7.bel hb8; have y8 := y7.below hb8 (Blk.lt y7); have z8 := z7.below hb8 (Blk.lt z7); have hm8 := hm7.below hb8; have hbw8 := bl_any hbw7 hb8; have q80 := (Blk.cell y8 0).trans rfl; have q81 := (Blk.cell y8 1).trans rfl; have q82 := (Blk.cell y8 2).trans rfl; have p80 := (Blk.cell z8 0).trans rfl; have p81 := (Blk.cell z8 1).trans rfl; have p82 := (Blk.cell z8 2).trans rfl))
  go_ret
  exact ⟨rfl, hbw8⟩
set_option maxRecDepth 100000 in
set_option maxHeartbeats 12800000 in
theorem spoils23_9 (a0 m : Int) (w : World) (hm : MxAt w m) (hw : 0 ≤ a0 ∧ a0 < 256) (ha : a0 % 11 = 9) :
    Calls Tryz.prog 7 #[.int .u8 a0] w fun e w' => e = .returned (.bool true) ∧ Below w.heap.size w w' := by
  have hd : Int.tmod a0 11 = 9 := by rw [Int.tmod_eq_emod_of_nonneg hw.1]; exact ha
  have kR : ∀ w1 : World, Calls Tryz.prog 17 #[.agg #[.slice (some ⟨w1.heap.size, 0, none⟩) 2 2, .slice (some ⟨w1.heap.size + 1, 0, none⟩) 4 4, .slice (some ⟨w1.heap.size + 1 + 1, 0, none⟩) 1 1]] ((((w1.alloc (.cells #[.string ⟨#[42]⟩, .string ⟨#[98, 45, 49]⟩] 9)).alloc (.cells #[.string ⟨#[104, 111, 115, 116]⟩, .string ⟨#[109, 101, 116, 114, 105, 99]⟩, .string ⟨#[95]⟩, .string ⟨#[109, 101, 116, 114, 105, 99, 42]⟩] 9)).alloc (.cells #[.string ⟨#[100, 99]⟩, .string ⟨#[120, 61, 121]⟩] 33)).alloc (.cells #[.slice (some ⟨w1.heap.size, 0, none⟩) 2 2, .slice (some ⟨w1.heap.size + 1, 0, none⟩) 4 4, .slice (some ⟨w1.heap.size + 1 + 1, 0, none⟩) 1 1] 25)) fun e w' => e = .returned (.bool true) ∧ Below w1.heap.size w1 w' ∧ RuleAt w' w'.heap.size (⟨sR, some ⟨w1.heap.size, 0, none⟩, 2, some ⟨w1.heap.size + 1, 0, none⟩, 4, some ⟨w1.heap.size + 1 + 1, 0, none⟩, 1⟩ : VRule) ∧ Blk w' (w1.heap.size + 1 + 1 + 1) 25 #[.slice (some ⟨w1.heap.size, 0, none⟩) 2 2, .slice (some ⟨w1.heap.size + 1, 0, none⟩) 4 4, .slice (some ⟨w1.heap.size + 1 + 1, 0, none⟩) 1 1] := fun w1 => by
    obtain ⟨h1, h2, h3⟩ := spoilR w1
    have k := tgood_any (⟨sR, some ⟨w1.heap.size, 0, none⟩, 2, some ⟨w1.heap.size + 1, 0, none⟩, 4, some ⟨w1.heap.size + 1 + 1, 0, none⟩, 1⟩ : VRule) _ h1 sRok
    rw [show goodR (⟨sR, some ⟨w1.heap.size, 0, none⟩, 2, some ⟨w1.heap.size + 1, 0, none⟩, 4, some ⟨w1.heap.size + 1 + 1, 0, none⟩, 1⟩ : VRule).rule = true from sRg] at k
    exact k.mono fun e w' ⟨i1, i2⟩ => ⟨i1, bl_any h3 i2, h1.bel i2, h2.below i2 (Blk.lt h2)⟩
  have kG : ∀ w1 w2 W : World, RuleAt W W.heap.size (⟨sQ9, some ⟨w1.heap.size, 0, none⟩, 2, some ⟨w1.heap.size + 1, 0, none⟩, 4, some ⟨w2.heap.size + 1, 0, none⟩, 1⟩ : VRule) → Calls Tryz.prog 17 #[.agg #[.slice (some ⟨w1.heap.size, 0, none⟩) 2 2, .slice (some ⟨w1.heap.size + 1, 0, none⟩) 4 4, .slice (some ⟨w2.heap.size + 1, 0, none⟩) 1 1]] W fun e w' => e = .returned (.bool false) ∧ Below W.heap.size W w' := fun w1 w2 W h => by
    have k := tgood_any (⟨sQ9, some ⟨w1.heap.size, 0, none⟩, 2, some ⟨w1.heap.size + 1, 0, none⟩, 4, some ⟨w2.heap.size + 1, 0, none⟩, 1⟩ : VRule) W h sQ9ok
    rw [show goodR (⟨sQ9, some ⟨w1.heap.size, 0, none⟩, 2, some ⟨w1.heap.size + 1, 0, none⟩, 4, some ⟨w2.heap.size + 1, 0, none⟩, 1⟩ : VRule).rule = false from sQ9g] at k
    exact k
  have kM : ∀ w1 w2 W : World, RuleAt W W.heap.size (⟨sQ9, some ⟨w1.heap.size, 0, none⟩, 2, some ⟨w1.heap.size + 1, 0, none⟩, 4, some ⟨w2.heap.size + 1, 0, none⟩, 1⟩ : VRule) → MxAt W m → Calls Tryz.prog 10 #[.agg #[.slice (some ⟨w1.heap.size, 0, none⟩) 2 2, .slice (some ⟨w1.heap.size + 1, 0, none⟩) 4 4, .slice (some ⟨w2.heap.size + 1, 0, none⟩) 1 1], .string ⟨#[97, 46, 98, 45, 49, 46, 99, 46, 100]⟩] W fun e w' => e = .returned (.bool false) ∧ Below W.heap.size W w' := fun w1 w2 W h hm => by
    have k := match_any (⟨sQ9, some ⟨w1.heap.size, 0, none⟩, 2, some ⟨w1.heap.size + 1, 0, none⟩, 4, some ⟨w2.heap.size + 1, 0, none⟩, 1⟩ : VRule) ⟨#[97, 46, 98, 45, 49, 46, 99, 46, 100]⟩ m W h sQ9ok hm (by decide)
    rw [show matchT (⟨sQ9, some ⟨w1.heap.size, 0, none⟩, 2, some ⟨w1.heap.size + 1, 0, none⟩, 4, some ⟨w2.heap.size + 1, 0, none⟩, 1⟩ : VRule).rule _ = false from sQ9m] at k
    exact k
  have kM0 : ∀ w1 W : World, RuleAt W W.heap.size (⟨sR, some ⟨w1.heap.size, 0, none⟩, 2, some ⟨w1.heap.size + 1, 0, none⟩, 4, some ⟨w1.heap.size + 1 + 1, 0, none⟩, 1⟩ : VRule) → MxAt W m → Calls Tryz.prog 10 #[.agg #[.slice (some ⟨w1.heap.size, 0, none⟩) 2 2, .slice (some ⟨w1.heap.size + 1, 0, none⟩) 4 4, .slice (some ⟨w1.heap.size + 1 + 1, 0, none⟩) 1 1], .string ⟨#[97, 46, 98, 45, 49, 46, 99, 46, 100]⟩] W fun e w' => e = .returned (.bool true) ∧ Below W.heap.size W w' := fun w1 W h hm => by
    have k := match_any (⟨sR, some ⟨w1.heap.size, 0, none⟩, 2, some ⟨w1.heap.size + 1, 0, none⟩, 4, some ⟨w1.heap.size + 1 + 1, 0, none⟩, 1⟩ : VRule) ⟨#[97, 46, 98, 45, 49, 46, 99, 46, 100]⟩ m W h sRok hm (by decide)
    rw [show matchT (⟨sR, some ⟨w1.heap.size, 0, none⟩, 2, some ⟨w1.heap.size + 1, 0, none⟩, 4, some ⟨w1.heap.size + 1 + 1, 0, none⟩, 1⟩ : VRule).rule _ = true from sRm0] at k
    exact k
  have kM1 : ∀ w1 W : World, RuleAt W W.heap.size (⟨sR, some ⟨w1.heap.size, 0, none⟩, 2, some ⟨w1.heap.size + 1, 0, none⟩, 4, some ⟨w1.heap.size + 1 + 1, 0, none⟩, 1⟩ : VRule) → MxAt W m → Calls Tryz.prog 10 #[.agg #[.slice (some ⟨w1.heap.size, 0, none⟩) 2 2, .slice (some ⟨w1.heap.size + 1, 0, none⟩) 4 4, .slice (some ⟨w1.heap.size + 1 + 1, 0, none⟩) 1 1], .string ⟨#[97, 46, 98, 45, 50, 46, 99, 46, 100]⟩] W fun e w' => e = .returned (.bool false) ∧ Below W.heap.size W w' := fun w1 W h hm => by
    have k := match_any (⟨sR, some ⟨w1.heap.size, 0, none⟩, 2, some ⟨w1.heap.size + 1, 0, none⟩, 4, some ⟨w1.heap.size + 1 + 1, 0, none⟩, 1⟩ : VRule) ⟨#[97, 46, 98, 45, 50, 46, 99, 46, 100]⟩ m W h sRok hm (by decide)
    rw [show matchT (⟨sR, some ⟨w1.heap.size, 0, none⟩, 2, some ⟨w1.heap.size + 1, 0, none⟩, 4, some ⟨w1.heap.size + 1 + 1, 0, none⟩, 1⟩ : VRule).rule _ = false from sRm1] at k
    exact k
  have kM2 : ∀ w1 W : World, RuleAt W W.heap.size (⟨sR, some ⟨w1.heap.size, 0, none⟩, 2, some ⟨w1.heap.size + 1, 0, none⟩, 4, some ⟨w1.heap.size + 1 + 1, 0, none⟩, 1⟩ : VRule) → MxAt W m → Calls Tryz.prog 10 #[.agg #[.slice (some ⟨w1.heap.size, 0, none⟩) 2 2, .slice (some ⟨w1.heap.size + 1, 0, none⟩) 4 4, .slice (some ⟨w1.heap.size + 1 + 1, 0, none⟩) 1 1], .string ⟨#[97, 46, 98, 45, 49, 46, 99]⟩] W fun e w' => e = .returned (.bool false) ∧ Below W.heap.size W w' := fun w1 W h hm => by
    have k := match_any (⟨sR, some ⟨w1.heap.size, 0, none⟩, 2, some ⟨w1.heap.size + 1, 0, none⟩, 4, some ⟨w1.heap.size + 1 + 1, 0, none⟩, 1⟩ : VRule) ⟨#[97, 46, 98, 45, 49, 46, 99]⟩ m W h sRok hm (by decide)
    rw [show matchT (⟨sR, some ⟨w1.heap.size, 0, none⟩, 2, some ⟨w1.heap.size + 1, 0, none⟩, 4, some ⟨w1.heap.size + 1 + 1, 0, none⟩, 1⟩ : VRule).rule _ = false from sRm2] at k
    exact k
  go_enter Tryz.func7, Tryz.ntmps7
  go_upto_region 6 with (first
    | (go_at_call 8; (with_reducible refine (known23_any m _ hm).mono ?_); rintro e w1 ⟨rfl, hb1⟩)
    | (go_at_call 17; (with_reducible refine (kR w1).mono ?_); rintro e w2 ⟨rfl, hb2, hr2, z2⟩))
  have p0 := (Blk.cell z2 0).trans rfl
  have p1 := (Blk.cell z2 1).trans rfl
  have p2 := (Blk.cell z2 2).trans rfl
  have hm2 : MxAt w2 m := hm.below (bl_any hb1 hb2)
  have hbw := bl_any hb1 hb2
  clear hm kR
  go_upto_region 29 with fail
  obtain ⟨hq3, y3, hbq⟩ : RuleAt ((w2.alloc (.cells #[.slice (some ⟨w1.heap.size, 0, none⟩) 2 2, .slice (some ⟨w1.heap.size + 1, 0, none⟩) 4 4, .slice (some ⟨w2.heap.size + 1, 0, none⟩) 1 1] 25)).alloc (.cells #[.string ⟨#[100, 99]⟩, .string ⟨#[]⟩] 33)) ((w2.alloc (.cells #[.slice (some ⟨w1.heap.size, 0, none⟩) 2 2, .slice (some ⟨w1.heap.size + 1, 0, none⟩) 4 4, .slice (some ⟨w2.heap.size + 1, 0, none⟩) 1 1] 25)).alloc (.cells #[.string ⟨#[100, 99]⟩, .string ⟨#[]⟩] 33)).heap.size (⟨sQ9, some ⟨w1.heap.size, 0, none⟩, 2, some ⟨w1.heap.size + 1, 0, none⟩, 4, some ⟨w2.heap.size + 1, 0, none⟩, 1⟩ : VRule) ∧ Blk ((w2.alloc (.cells #[.slice (some ⟨w1.heap.size, 0, none⟩) 2 2, .slice (some ⟨w1.heap.size + 1, 0, none⟩) 4 4, .slice (some ⟨w2.heap.size + 1, 0, none⟩) 1 1] 25)).alloc (.cells #[.string ⟨#[100, 99]⟩, .string ⟨#[]⟩] 33)) w2.heap.size 25 #[.slice (some ⟨w1.heap.size, 0, none⟩) 2 2, .slice (some ⟨w1.heap.size + 1, 0, none⟩) 4 4, .slice (some ⟨w2.heap.size + 1, 0, none⟩) 1 1] ∧ Below w2.heap.size w2 ((w2.alloc (.cells #[.slice (some ⟨w1.heap.size, 0, none⟩) 2 2, .slice (some ⟨w1.heap.size + 1, 0, none⟩) 4 4, .slice (some ⟨w2.heap.size + 1, 0, none⟩) 1 1] 25)).alloc (.cells #[.string ⟨#[100, 99]⟩, .string ⟨#[]⟩] 33)) := spoil_e w2 (⟨sR, some ⟨w1.heap.size, 0, none⟩, 2, some ⟨w1.heap.size + 1, 0, none⟩, 4, some ⟨w1.heap.size + 1 + 1, 0, none⟩, 1⟩ : VRule) hr2 [(⟨#[100, 99]⟩, ⟨#[]⟩)] #[.string ⟨#[100, 99]⟩, .string ⟨#[]⟩] 33 rfl
  have hr3 := hr2.bel hbq
  have z3 := z2.below hbq (Blk.lt z2)
  have hm3 := hm2.below hbq
  have hbw3 := bl_any hbw hbq
  generalize ((w2.alloc (.cells #[.slice (some ⟨w1.heap.size, 0, none⟩) 2 2, .slice (some ⟨w1.heap.size + 1, 0, none⟩) 4 4, .slice (some ⟨w2.heap.size + 1, 0, none⟩) 1 1] 25)).alloc (.cells #[.string ⟨#[100, 99]⟩, .string ⟨#[]⟩] 33)) = w3 at *
  clear p0 p1 p2 hr2 z2 hm2 hbq
  have q30 := (Blk.cell y3 0).trans rfl; have q31 := (Blk.cell y3 1).trans rfl; have q32 := (Blk.cell y3 2).trans rfl; have p30 := (Blk.cell z3 0).trans rfl; have p31 := (Blk.cell z3 1).trans rfl; have p32 := (Blk.cell z3 2).trans rfl
  go_wp2_with (first
    | (go_at_call 17; (with_reducible refine (kG w1 w2 _ hq3).mono ?_); rintro e w4 ⟨rfl, hb4⟩; have hq4 := hq3.bel hb4; have hr4 := hr3.bel hb4; have y4 := y3.below hb4 (Blk.lt y3); have z4 := z3.below hb4 (Blk.lt z3); have hm4 := hm3.below hb4; have hbw4 := bl_any hbw3 hb4; have q40 := (Blk.cell y4 0).trans rfl; have q41 := (Blk.cell y4 1).trans rfl; have q42 := (Blk.cell y4 2).trans rfl; have p40 := (Blk.cell z4 0).trans rfl; have p41 := (Blk.cell z4 1).trans rfl; have p42 := (Blk.cell z4 2).trans rfl)
    | (go_at_call 10; (with_reducible refine (kM w1 w2 _ hq4 hm4).mono ?_); rintro e w5 ⟨rfl, hb5⟩; have hq5 := hq4.bel hb5; have hr5 := hr4.bel hb5; have y5 := y4.below hb5 (Blk.lt y4); have z5 := z4.below hb5 (Blk.lt z4); have hm5 := hm4.below hb5; have hbw5 := bl_any hbw4 hb5; have q50 := (Blk.cell y5 0).trans rfl; have q51 := (Blk.cell y5 1).trans rfl; have q52 := (Blk.cell y5 2).trans rfl; have p50 := (Blk.cell z5 0).trans rfl; have p51 := (Blk.cell z5 1).trans rfl; have p52 := (Blk.cell z5 2).trans rfl)
    | (go_at_call 10; (with_reducible refine (kM0 _ _ hr5 hm5).mono ?_); rintro e w6 ⟨rfl, hb6⟩; have hq6 := hq5.bel hb6; have hr6 := hr5.bel hb6; have y6 := y5.below hb6 (Blk.lt y5); have z6 := z5.below hb6 (Blk.lt z5); have hm6 := hm5.below hb6; have hbw6 := bl_any hbw5 hb6; have q60 := (Blk.cell y6 0).trans rfl; have q61 := (Blk.cell y6 1).trans rfl; have q62 := (Blk.cell y6 2).trans rfl; have p60 := (Blk.cell z6 0).trans rfl; have p61 := (Blk.cell z6 1).trans rfl; have p62 := (Blk.cell z6 2).trans rfl)
    | (go_at_call 10; (with_reducible refine (kM1 _ _ hr6 hm6).mono ?_); rintro e w7 ⟨rfl, hb7⟩; have hq7 := hq6.bel hb7; have hr7 := hr6.bel hb7; have y7 := y6.below hb7 (Blk.lt y6); have z7 := z6.below hb7 (Blk.lt z6); have hm7 := hm6.below hb7; have hbw7 := bl_any hbw6 hb7; have q70 := (Blk.cell y7 0).trans rfl; have q71 := (Blk.cell y7 1).trans rfl; have q72 := (Blk.cell y7 2).trans rfl; have p70 := (Blk.cell z7 0).trans rfl; have p71 := (Blk.cell z7 1).trans rfl; have p72 := (Blk.cell z7 2).trans rfl)
    | (go_at_call 10; (with_reducible refine (kM2 _ _ hr7 hm7).mono ?_); rintro e w8 ⟨rfl, hb8⟩; have hq8 := hq7.bel hb8; have hr8 := hr7.bel hb8; have y8 := y7.below hb8 (Blk.lt y7); have z8 := z7.below hb8 (Blk.lt z7); have hm8 := hm7.below hb8; have hbw8 := bl_any hbw7 hb8; have q80 := (Blk.cell y8 0).trans rfl; have q81 := (Blk.cell y8 1).trans rfl; have q82 := (Blk.cell y8 2).trans rfl; have p80 := (Blk.cell z8 0).trans rfl; have p81 := (Blk.cell z8 1).trans rfl; have p82 := (Blk.cell z8 2).trans rfl))
  go_ret
  exact ⟨rfl, hbw8⟩
set_option maxRecDepth 100000 in
set_option maxHeartbeats 12800000 in
theorem spoils23_10 (a0 m : Int) (w : World) (hm : MxAt w m) (hw : 0 ≤ a0 ∧ a0 < 256) (ha : a0 % 11 = 10) :
    Calls Tryz.prog 7 #[.int .u8 a0] w fun e w' => e = .returned (.bool true) ∧ Below w.heap.size w w' := by
  have hd : Int.tmod a0 11 = 10 := by rw [Int.tmod_eq_emod_of_nonneg hw.1]; exact ha
  have kR : ∀ w1 : World, Calls Tryz.prog 17 #[.agg #[.slice (some ⟨w1.heap.size, 0, none⟩) 2 2, .slice (some ⟨w1.heap.size + 1, 0, none⟩) 4 4, .slice (some ⟨w1.heap.size + 1 + 1, 0, none⟩) 1 1]] ((((w1.alloc (.cells #[.string ⟨#[42]⟩, .string ⟨#[98, 45, 49]⟩] 9)).alloc (.cells #[.string ⟨#[104, 111, 115, 116]⟩, .string ⟨#[109, 101, 116, 114, 105, 99]⟩, .string ⟨#[95]⟩, .string ⟨#[109, 101, 116, 114, 105, 99, 42]⟩] 9)).alloc (.cells #[.string ⟨#[100, 99]⟩, .string ⟨#[120, 61, 121]⟩] 33)).alloc (.cells #[.slice (some ⟨w1.heap.size, 0, none⟩) 2 2, .slice (some ⟨w1.heap.size + 1, 0, none⟩) 4 4, .slice (some ⟨w1.heap.size + 1 + 1, 0, none⟩) 1 1] 25)) fun e w' => e = .returned (.bool true) ∧ Below w1.heap.size w1 w' ∧ RuleAt w' w'.heap.size (⟨sR, some ⟨w1.heap.size, 0, none⟩, 2, some ⟨w1.heap.size + 1, 0, none⟩, 4, some ⟨w1.heap.size + 1 + 1, 0, none⟩, 1⟩ : VRule) ∧ Blk w' (w1.heap.size + 1 + 1 + 1) 25 #[.slice (some ⟨w1.heap.size, 0, none⟩) 2 2, .slice (some ⟨w1.heap.size + 1, 0, none⟩) 4 4, .slice (some ⟨w1.heap.size + 1 + 1, 0, none⟩) 1 1] := fun w1 => by
    obtain ⟨h1, h2, h3⟩ := spoilR w1
    have k := tgood_any (⟨sR, some ⟨w1.heap.size, 0, none⟩, 2, some ⟨w1.heap.size + 1, 0, none⟩, 4, some ⟨w1.heap.size + 1 + 1, 0, none⟩, 1⟩ : VRule) _ h1 sRok
    rw [show goodR (⟨sR, some ⟨w1.heap.size, 0, none⟩, 2, some ⟨w1.heap.size + 1, 0, none⟩, 4, some ⟨w1.heap.size + 1 + 1, 0, none⟩, 1⟩ : VRule).rule = true from sRg] at k
    exact k.mono fun e w' ⟨i1, i2⟩ => ⟨i1, bl_any h3 i2, h1.bel i2, h2.below i2 (Blk.lt h2)⟩
  have kG : ∀ w1 w2 W : World, RuleAt W W.heap.size (⟨sQ10, some ⟨w1.heap.size, 0, none⟩, 2, some ⟨w2.heap.size + 1, 0, none⟩, 4, some ⟨w1.heap.size + 1 + 1, 0, none⟩, 1⟩ : VRule) → Calls Tryz.prog 17 #[.agg #[.slice (some ⟨w1.heap.size, 0, none⟩) 2 2, .slice (some ⟨w2.heap.size + 1, 0, none⟩) 4 4, .slice (some ⟨w1.heap.size + 1 + 1, 0, none⟩) 1 1]] W fun e w' => e = .returned (.bool false) ∧ Below W.heap.size W w' := fun w1 w2 W h => by
    have k := tgood_any (⟨sQ10, some ⟨w1.heap.size, 0, none⟩, 2, some ⟨w2.heap.size + 1, 0, none⟩, 4, some ⟨w1.heap.size + 1 + 1, 0, none⟩, 1⟩ : VRule) W h sQ10ok
    rw [show goodR (⟨sQ10, some ⟨w1.heap.size, 0, none⟩, 2, some ⟨w2.heap.size + 1, 0, none⟩, 4, some ⟨w1.heap.size + 1 + 1, 0, none⟩, 1⟩ : VRule).rule = false from sQ10g] at k
    exact k
  have kM : ∀ w1 w2 W : World, RuleAt W W.heap.size (⟨sQ10, some ⟨w1.heap.size, 0, none⟩, 2, some ⟨w2.heap.size + 1, 0, none⟩, 4, some ⟨w1.heap.size + 1 + 1, 0, none⟩, 1⟩ : VRule) → MxAt W m → Calls Tryz.prog 10 #[.agg #[.slice (some ⟨w1.heap.size, 0, none⟩) 2 2, .slice (some ⟨w2.heap.size + 1, 0, none⟩) 4 4, .slice (some ⟨w1.heap.size + 1 + 1, 0, none⟩) 1 1], .string ⟨#[97, 46, 98, 45, 49, 46, 99, 46, 100]⟩] W fun e w' => e = .returned (.bool false) ∧ Below W.heap.size W w' := fun w1 w2 W h hm => by
    have k := match_any (⟨sQ10, some ⟨w1.heap.size, 0, none⟩, 2, some ⟨w2.heap.size + 1, 0, none⟩, 4, some ⟨w1.heap.size + 1 + 1, 0, none⟩, 1⟩ : VRule) ⟨#[97, 46, 98, 45, 49, 46, 99, 46, 100]⟩ m W h sQ10ok hm (by decide)
    rw [show matchT (⟨sQ10, some ⟨w1.heap.size, 0, none⟩, 2, some ⟨w2.heap.size + 1, 0, none⟩, 4, some ⟨w1.heap.size + 1 + 1, 0, none⟩, 1⟩ : VRule).rule _ = false from sQ10m] at k
    exact k
  have kM0 : ∀ w1 W : World, RuleAt W W.heap.size (⟨sR, some ⟨w1.heap.size, 0, none⟩, 2, some ⟨w1.heap.size + 1, 0, none⟩, 4, some ⟨w1.heap.size + 1 + 1, 0, none⟩, 1⟩ : VRule) → MxAt W m → Calls Tryz.prog 10 #[.agg #[.slice (some ⟨w1.heap.size, 0, none⟩) 2 2, .slice (some ⟨w1.heap.size + 1, 0, none⟩) 4 4, .slice (some ⟨w1.heap.size + 1 + 1, 0, none⟩) 1 1], .string ⟨#[97, 46, 98, 45, 49, 46, 99, 46, 100]⟩] W fun e w' => e = .returned (.bool true) ∧ Below W.heap.size W w' := fun w1 W h hm => by
    have k := match_any (⟨sR, some ⟨w1.heap.size, 0, none⟩, 2, some ⟨w1.heap.size + 1, 0, none⟩, 4, some ⟨w1.heap.size + 1 + 1, 0, none⟩, 1⟩ : VRule) ⟨#[97, 46, 98, 45, 49, 46, 99, 46, 100]⟩ m W h sRok hm (by decide)
    rw [show matchT (⟨sR, some ⟨w1.heap.size, 0, none⟩, 2, some ⟨w1.heap.size + 1, 0, none⟩, 4, some ⟨w1.heap.size + 1 + 1, 0, none⟩, 1⟩ : VRule).rule _ = true from sRm0] at k
    exact k
  have kM1 : ∀ w1 W : World, RuleAt W W.heap.size (⟨sR, some ⟨w1.heap.size, 0, none⟩, 2, some ⟨w1.heap.size + 1, 0, none⟩, 4, some ⟨w1.heap.size + 1 + 1, 0, none⟩, 1⟩ : VRule) → MxAt W m → Calls Tryz.prog 10 #[.agg #[.slice (some ⟨w1.heap.size, 0, none⟩) 2 2, .slice (some ⟨w1.heap.size + 1, 0, none⟩) 4 4, .slice (some ⟨w1.heap.size + 1 + 1, 0, none⟩) 1 1], .string ⟨#[97, 46, 98, 45, 50, 46, 99, 46, 100]⟩] W fun e w' => e = .returned (.bool false) ∧ Below W.heap.size W w' := fun w1 W h hm => by
    have k := match_any (⟨sR, some ⟨w1.heap.size, 0, none⟩, 2, some ⟨w1.heap.size + 1, 0, none⟩, 4, some ⟨w1.heap.size + 1 + 1, 0, none⟩, 1⟩ : VRule) ⟨#[97, 46, 98, 45, 50, 46, 99, 46, 100]⟩ m W h sRok hm (by decide)
    rw [show matchT (⟨sR, some ⟨w1.heap.size, 0, none⟩, 2, some ⟨w1.heap.size + 1, 0, none⟩, 4, some ⟨w1.heap.size + 1 + 1, 0, none⟩, 1⟩ : VRule).rule _ = false from sRm1] at k
    exact k
  have kM2 : ∀ w1 W : World, RuleAt W W.heap.size (⟨sR, some ⟨w1.heap.size, 0, none⟩, 2, some ⟨w1.heap.size + 1, 0, none⟩, 4, some ⟨w1.heap.size + 1 + 1, 0, none⟩, 1⟩ : VRule) → MxAt W m → Calls Tryz.prog 10 #[.agg #[.slice (some ⟨w1.heap.size, 0, none⟩) 2 2, .slice (some ⟨w1.heap.size + 1, 0, none⟩) 4 4, .slice (some ⟨w1.heap.size + 1 + 1, 0, none⟩) 1 1], .string ⟨#[97, 46, 98, 45, 49, 46, 99]⟩] W fun e w' => e = .returned (.bool false) ∧ Below W.heap.size W w' := fun w1 W h hm => by
    have k := match_any (⟨sR, some ⟨w1.heap.size, 0, none⟩, 2, some ⟨w1.heap.size + 1, 0, none⟩, 4, some ⟨w1.heap.size + 1 + 1, 0, none⟩, 1⟩ : VRule) ⟨#[97, 46, 98, 45, 49, 46, 99]⟩ m W h sRok hm (by decide)
    rw [show matchT (⟨sR, some ⟨w1.heap.size, 0, none⟩, 2, some ⟨w1.heap.size + 1, 0, none⟩, 4, some ⟨w1.heap.size + 1 + 1, 0, none⟩, 1⟩ : VRule).rule _ = false from sRm2] at k
    exact k
  go_enter Tryz.func7, Tryz.ntmps7
  go_upto_region 6 with (first
    | (go_at_call 8; (with_reducible refine (known23_any m _ hm).mono ?_); rintro e w1 ⟨rfl, hb1⟩)
    | (go_at_call 17; (with_reducible refine (kR w1).mono ?_); rintro e w2 ⟨rfl, hb2, hr2, z2⟩))
  have p0 := (Blk.cell z2 0).trans rfl
  have p1 := (Blk.cell z2 1).trans rfl
  have p2 := (Blk.cell z2 2).trans rfl
  have hm2 : MxAt w2 m := hm.below (bl_any hb1 hb2)
  have hbw := bl_any hb1 hb2
  clear hm kR
  go_upto_region 29 with fail
  obtain ⟨hq3, y3, hbq⟩ : RuleAt ((w2.alloc (.cells #[.slice (some ⟨w1.heap.size, 0, none⟩) 2 2, .slice (some ⟨w2.heap.size + 1, 0, none⟩) 4 4, .slice (some ⟨w1.heap.size + 1 + 1, 0, none⟩) 1 1] 25)).alloc (.cells #[.string ⟨#[104, 111, 115, 116]⟩, .string ⟨#[109, 101, 116, 114, 105, 99]⟩, .string ⟨#[]⟩, .string ⟨#[99]⟩] 9)) ((w2.alloc (.cells #[.slice (some ⟨w1.heap.size, 0, none⟩) 2 2, .slice (some ⟨w2.heap.size + 1, 0, none⟩) 4 4, .slice (some ⟨w1.heap.size + 1 + 1, 0, none⟩) 1 1] 25)).alloc (.cells #[.string ⟨#[104, 111, 115, 116]⟩, .string ⟨#[109, 101, 116, 114, 105, 99]⟩, .string ⟨#[]⟩, .string ⟨#[99]⟩] 9)).heap.size (⟨sQ10, some ⟨w1.heap.size, 0, none⟩, 2, some ⟨w2.heap.size + 1, 0, none⟩, 4, some ⟨w1.heap.size + 1 + 1, 0, none⟩, 1⟩ : VRule) ∧ Blk ((w2.alloc (.cells #[.slice (some ⟨w1.heap.size, 0, none⟩) 2 2, .slice (some ⟨w2.heap.size + 1, 0, none⟩) 4 4, .slice (some ⟨w1.heap.size + 1 + 1, 0, none⟩) 1 1] 25)).alloc (.cells #[.string ⟨#[104, 111, 115, 116]⟩, .string ⟨#[109, 101, 116, 114, 105, 99]⟩, .string ⟨#[]⟩, .string ⟨#[99]⟩] 9)) w2.heap.size 25 #[.slice (some ⟨w1.heap.size, 0, none⟩) 2 2, .slice (some ⟨w2.heap.size + 1, 0, none⟩) 4 4, .slice (some ⟨w1.heap.size + 1 + 1, 0, none⟩) 1 1] ∧ Below w2.heap.size w2 ((w2.alloc (.cells #[.slice (some ⟨w1.heap.size, 0, none⟩) 2 2, .slice (some ⟨w2.heap.size + 1, 0, none⟩) 4 4, .slice (some ⟨w1.heap.size + 1 + 1, 0, none⟩) 1 1] 25)).alloc (.cells #[.string ⟨#[104, 111, 115, 116]⟩, .string ⟨#[109, 101, 116, 114, 105, 99]⟩, .string ⟨#[]⟩, .string ⟨#[99]⟩] 9)) := spoil_p w2 (⟨sR, some ⟨w1.heap.size, 0, none⟩, 2, some ⟨w1.heap.size + 1, 0, none⟩, 4, some ⟨w1.heap.size + 1 + 1, 0, none⟩, 1⟩ : VRule) hr2 [⟨#[104, 111, 115, 116]⟩, ⟨#[109, 101, 116, 114, 105, 99]⟩, ⟨#[]⟩, ⟨#[99]⟩] #[.string ⟨#[104, 111, 115, 116]⟩, .string ⟨#[109, 101, 116, 114, 105, 99]⟩, .string ⟨#[]⟩, .string ⟨#[99]⟩] 9 rfl
  have hr3 := hr2.bel hbq
  have z3 := z2.below hbq (Blk.lt z2)
  have hm3 := hm2.below hbq
  have hbw3 := bl_any hbw hbq
  generalize ((w2.alloc (.cells #[.slice (some ⟨w1.heap.size, 0, none⟩) 2 2, .slice (some ⟨w2.heap.size + 1, 0, none⟩) 4 4, .slice (some ⟨w1.heap.size + 1 + 1, 0, none⟩) 1 1] 25)).alloc (.cells #[.string ⟨#[104, 111, 115, 116]⟩, .string ⟨#[109, 101, 116, 114, 105, 99]⟩, .string ⟨#[]⟩, .string ⟨#[99]⟩] 9)) = w3 at *
  clear p0 p1 p2 hr2 z2 hm2 hbq
  have q30 := (Blk.cell y3 0).trans rfl; have q31 := (Blk.cell y3 1).trans rfl; have q32 := (Blk.cell y3 2).trans rfl; have p30 := (Blk.cell z3 0).trans rfl; have p31 := (Blk.cell z3 1).trans rfl; have p32 := (Blk.cell z3 2).trans rfl
  go_wp2_with (first
    | (go_at_call 17; (with_reducible refine (kG w1 w2 _ hq3).mono ?_); rintro e w4 ⟨rfl, hb4⟩; have hq4 := hq3.bel hb4; have hr4 := hr3.bel hb4; have y4 := y3.below hb4 (Blk.lt y3); have z4 := z3.below hb4 (Blk.lt z3); have hm4 := hm3.below hb4; have hbw4 := bl_any hbw3 hb4; have q40 := (Blk.cell y4 0).trans rfl; have q41 := (Blk.cell y4 1).trans rfl; have q42 := (Blk.cell y4 2).trans rfl; have p40 := (Blk.cell z4 0).trans rfl; have p41 := (Blk.cell z4 1).trans rfl; have p42 := (Blk.cell z4 2).trans rfl)
    | (go_at_call 10; (with_reducible refine (kM w1 w2 _ hq4 hm4).mono ?_); rintro e w5 ⟨rfl, hb5⟩; have hq5 := hq4.bel hb5; have hr5 := hr4.bel hb5; have y5 := y4.below hb5 (Blk.lt y4); have z5 := z4.below hb5 (Blk.lt z4); have hm5 := hm4.below hb5; have hbw5 := bl_any hbw4 hb5; have q50 := (Blk.cell y5 0).trans rfl; have q51 := (Blk.cell y5 1).trans rfl; have q52 := (Blk.cell y5 2).trans rfl; have p50 := (Blk.cell z5 0).trans rfl; have p51 := (Blk.cell z5 1).trans rfl; have p52 := (Blk.cell z5 2).trans rfl)
    | (go_at_call 10; (with_reducible refine (kM0 _ _ hr5 hm5).mono ?_); rintro e w6 ⟨rfl, hb6⟩; have hq6 := hq5.bel hb6; have hr6 := hr5.bel hb6; have y6 := y5.below hb6 (Blk.lt y5); have z6 := z5.below hb6 (Blk.lt z5); have hm6 := hm5.below hb6; have hbw6 := bl_any hbw5 hb6; have q60 := (Blk.cell y6 0).trans rfl; have q61 := (Blk.cell y6 1).trans rfl; have q62 := (Blk.cell y6 2).trans rfl; have p60 := (Blk.cell z6 0).trans rfl; have p61 := (Blk.cell z6 1).trans rfl; have p62 := (Blk.cell z6 2).trans rfl)
    | (go_at_call 10; (with_reducible refine (kM1 _ _ hr6 hm6).mono ?_); rintro e w7 ⟨rfl, hb7⟩; have hq7 := hq6.bel hb7; have hr7 := hr6.bel hb7; have y7 := y6.below hb7 (Blk.lt y6); have z7 := z6.below hb7 (Blk.lt z6); have hm7 := hm6.below hb7; have hbw7 := bl_any hbw6 hb7; have q70 := (Blk.cell y7 0).trans rfl; have q71 := (Blk.cell y7 1).trans rfl; have q72 := (Blk.cell y7 2).trans rfl; have p70 := (Blk.cell z7 0).trans rfl; have p71 := (Blk.cell z7 1).trans rfl; have p72 := (Blk.cell z7 2).trans rfl)
    | (go_at_call 10; (with_reducible refine (kM2 _ _ hr7 hm7).mono ?_); rintro e w8 ⟨rfl, hb8⟩; have hq8 := hq7.bel hb8; have hr8 := hr7.bel hb8; have y8 := y7.below hb8 (Blk.lt y7); have z8 := z7.below hb8 (Blk.lt z7); have hm8 := hm7.below hb8; have hbw8 := bl_any hbw7 hb8; have q80 := (Blk.cell y8 0).trans rfl; have q81 := (Blk.cell y8 1).trans rfl; have q82 := (Blk.cell y8 2).trans rfl; have p80 := (Blk.cell z8 0).trans rfl; have p81 := (Blk.cell z8 1).trans rfl; have p82 := (Blk.cell z8 2).trans rfl))
  go_ret
  exact ⟨rfl, hbw8⟩
theorem spoils23_any (a0 m : Int) (w : World) (hm : MxAt w m) (hw : 0 ≤ a0 ∧ a0 < 256) :
    Calls Tryz.prog 7 #[.int .u8 a0] w fun e w' => e = .returned (.bool true) ∧ Below w.heap.size w w' := by
  have h1 : a0 % 11 = 0 ∨ a0 % 11 = 1 ∨ a0 % 11 = 2 ∨ a0 % 11 = 3 ∨ a0 % 11 = 4 ∨ a0 % 11 = 5 ∨ a0 % 11 = 6 ∨ a0 % 11 = 7 ∨ a0 % 11 = 8 ∨ a0 % 11 = 9 ∨ a0 % 11 = 10 := by omega
  rcases h1 with h | h | h | h | h | h | h | h | h | h | h
  · exact spoils23_0 a0 m w hm hw h
  · exact spoils23_1 a0 m w hm hw h
  · exact spoils23_2 a0 m w hm hw h
  · exact spoils23_3 a0 m w hm hw h
  · exact spoils23_4 a0 m w hm hw h
  · exact spoils23_5 a0 m w hm hw h
  · exact spoils23_6 a0 m w hm hw h
  · exact spoils23_7 a0 m w hm hw h
  · exact spoils23_8 a0 m w hm hw h
  · exact spoils23_9 a0 m w hm hw h
  · exact spoils23_10 a0 m w hm hw h
end Go.Proofs.YtodgfapgmmjpcaaGreatDoor
