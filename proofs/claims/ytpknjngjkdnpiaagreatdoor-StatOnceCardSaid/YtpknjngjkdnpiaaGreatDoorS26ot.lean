/- StatOnce: what may not be is told at its place: the table. -/
import Derived.Test.YtpknjngjkdnpiaaGreatDoorMgEvB
namespace Go.Proofs.YtpknjngjkdnpiaaGreatDoor
set_option linter.unusedVariables false
set_option linter.unusedSimpArgs false
open Go.RowKit
def longO : ByteArray := ⟨(List.replicate 61 97).toArray⟩
def rowsO : List ByteArray := [⟨#[109, 58, 120, 124, 99, 10]⟩, ⟨#[109, 58, 49, 124, 99, 124, 64, 48, 10]⟩, ⟨#[109, 58, 49, 124, 99, 124, 64, 49, 46, 49, 10]⟩, ⟨#[109, 58, 49, 124, 99, 124, 64, 48, 46, 51, 10]⟩, ⟨#[109, 58, 49, 124, 115, 124, 64, 48, 46, 53, 10]⟩, ⟨#[109, 58, 45, 49, 124, 109, 115, 10]⟩, ⟨#[109, 58, 43, 45, 49, 124, 103, 10]⟩, ⟨#[109, 58, 49, 124, 99, 124, 35, 97, 58, 49, 44, 97, 58, 50, 10]⟩, longO ++ ⟨#[58, 49, 124, 99, 10]⟩, ⟨#[109, 58]⟩ ++ longO ++ ⟨#[124, 115, 10]⟩, ⟨#[109, 58, 49, 124, 99, 124, 35]⟩ ++ longO ++ ⟨#[58, 49, 10]⟩, ⟨#[109, 58, 49, 124, 99, 124, 35, 97, 58]⟩ ++ longO ++ ⟨#[10]⟩, ⟨#[109, 58, 57, 50, 50, 51, 51, 55, 50, 48, 51, 54, 56, 53, 52, 55, 55, 53, 56, 48, 56, 124, 103, 10]⟩, ⟨#[109, 58, 51, 124, 109, 115, 124, 64, 48, 46, 54, 10]⟩, ⟨#[109, 58, 49, 124, 120, 10]⟩, ⟨#[109, 58, 43, 49, 124, 99, 10]⟩]
def codesO : List Nat := [13, 12, 12, 12, 13, 12, 13, 13, 14, 14, 14, 14, 12, 12, 11, 13]
def offsO : List Nat := [2, 7, 7, 7, 7, 2, 2, 11, 0, 2, 7, 9, 2, 8, 4, 2]
def onceB (k : Nat) : Bool := (match readS (rowsO.getD k ⟨#[]⟩) with | .error x => x.1 == codesO.getD k 0 && x.2 == (offsO.getD k 0 : Int) | .ok _ => false) && (match readS (⟨#[122, 58, 49, 124, 99, 10]⟩ ++ rowsO.getD k ⟨#[]⟩) with | .error x => x.1 == codesO.getD k 0 && x.2 == (offsO.getD k 0 : Int) + 6 | .ok _ => false)
theorem once_all : ((List.range 16).all onceB) = true := by decide +kernel
theorem once_at {k : Nat} (h : k < 16) : readS (rowsO.getD k ⟨#[]⟩) = .error (codesO.getD k 0, (offsO.getD k 0 : Int)) ∧ readS (⟨#[122, 58, 49, 124, 99, 10]⟩ ++ rowsO.getD k ⟨#[]⟩) = .error (codesO.getD k 0, (offsO.getD k 0 : Int) + 6) := by
  have h1 := List.all_eq_true.1 once_all k (List.mem_range.2 h)
  unfold onceB at h1
  rw [Bool.and_eq_true] at h1
  obtain ⟨h1, h2⟩ := h1
  constructor
  · cases hq : readS (rowsO.getD k ⟨#[]⟩) with
    | ok l => rw [hq] at h1; cases h1
    | error x =>
      rw [hq] at h1
      simp only [Bool.and_eq_true, beq_iff_eq] at h1
      rw [← h1.1, ← h1.2]
  · cases hq : readS (⟨#[122, 58, 49, 124, 99, 10]⟩ ++ rowsO.getD k ⟨#[]⟩) with
    | ok l => rw [hq] at h2; cases h2
    | error x =>
      rw [hq] at h2
      simp only [Bool.and_eq_true, beq_iff_eq] at h2
      rw [← h2.1, ← h2.2]
theorem once_size {k : Nat} (h : k < 16) : (rowsO.getD k ⟨#[]⟩).size ≤ 100 := by
  have : ((List.range 16).all fun k => decide ((rowsO.getD k ⟨#[]⟩).size ≤ 100)) = true := by decide +kernel
  exact of_decide_eq_true (List.all_eq_true.1 this k (List.mem_range.2 h))
end Go.Proofs.YtpknjngjkdnpiaaGreatDoor
