/- A slice of integers that came in. -/
import Derived.Test.YtjffagffjcbolaaOpen
namespace Go.Proofs.Ytjffagffjcbolaa
set_option linter.unusedVariables false
set_option linter.unusedSimpArgs false
open Go.RowKit
def IsRow (k : IntKind) (w : World) (a : Option Addr) (len cap : Nat) (zs : List Int) : Prop :=
  (a = none ∧ len = 0 ∧ cap = 0 ∧ zs = []) ∨
  ∃ x, a = some x ∧ len ≤ cap ∧ cap ≤ maxLen ∧ zs.length = cap ∧ (∀ i, i < zs.length → w.cell? (x.add i) = some (.int k (zs.getD i 0))) ∧ ∀ n ∈ zs, (Lit.int k n).wf = true
theorem getD_mem (zs : List Int) (i : Nat) (h : i < zs.length) : zs.getD i 0 ∈ zs := by
  rw [List.getD_eq_getElem?_getD, List.getElem?_eq_getElem h]; exact List.getElem_mem h
/-- Where there is an element, its cell, in whatever world keeps what was there. -/
theorem IsRow.at_ {k : IntKind} {w : World} {a : Option Addr} {len cap : Nat} {zs : List Int} (h : IsRow k w a len cap zs) (hpos : 0 < len) :
    ∃ b off, a = some ⟨b, off, none⟩ ∧ b < w.heap.size ∧ ∀ i, i < len → w.cell? ⟨b, off + i, none⟩ = some (.int k (zs.getD i 0)) ∧ (Lit.int k (zs.getD i 0)).wf = true := by
  rcases h with ⟨_, h0, _, _⟩ | ⟨x, rfl, hl, _, hz, hc, hw⟩
  · omega
  · have h0 := hc 0 (by omega)
    have e0 : x.add 0 = x := by simp [Addr.add]
    rw [e0] at h0
    have hs := World.cell?_spot h0
    have hb := lt_of_cell h0
    obtain ⟨b, off, sp⟩ := x
    simp only at hs hb
    subst hs
    refine ⟨b, off, rfl, hb, fun i hi => ?_⟩
    have := hc i (by omega)
    have e : (⟨b, off, none⟩ : Addr).add i = ⟨b, off + i, none⟩ := by unfold Addr.add; split <;> simp_all
    rw [e] at this
    exact ⟨this, hw _ (getD_mem zs i (by omega))⟩
theorem wf_u8 {n : Int} (h : (Lit.int .u8 n).wf = true) : 0 ≤ n ∧ n ≤ 255 := by
  simp [Lit.wf, IntKind.min, IntKind.max, IntKind.signed, IntKind.bits] at h
  omega
theorem wf_u16 {n : Int} (h : (Lit.int .u16 n).wf = true) : 0 ≤ n ∧ n ≤ 65535 := by
  simp [Lit.wf, IntKind.min, IntKind.max, IntKind.signed, IntKind.bits] at h
  omega
theorem wf_i64 {n : Int} (h : (Lit.int .i64 n).wf = true) : -9223372036854775808 ≤ n ∧ n ≤ 9223372036854775807 := by
  simp [Lit.wf, IntKind.min, IntKind.max, IntKind.signed, IntKind.bits] at h
  omega
end Go.Proofs.Ytjffagffjcbolaa
