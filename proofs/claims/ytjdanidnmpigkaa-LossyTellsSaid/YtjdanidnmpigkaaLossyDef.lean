/- What a name becomes at a loss: the plain function. -/
import Derived.Test.YtjdanidnmpigkaaCharset
namespace Go.Proofs.Ytjdanidnmpigkaa
open Go.RowKit
def lossAt (p wh : Int) (l : List UInt8) (i : Nat) : UInt8 := if legalB p wh l i = true then l.getD i 0 else 95
/-- What the first n bytes become. -/
def lossTo (p wh : Int) (l : List UInt8) : Nat → List UInt8
  | 0 => []
  | n + 1 => lossTo p wh l n ++ [lossAt p wh l n]
def lossB (p wh : Int) (l : List UInt8) : List UInt8 := lossTo p wh l l.length
theorem lossTo_len (p wh : Int) (l : List UInt8) : ∀ n, (lossTo p wh l n).length = n
  | 0 => rfl
  | n + 1 => by simp [lossTo, lossTo_len p wh l n]
theorem lossB_len (p wh : Int) (l : List UInt8) : (lossB p wh l).length = l.length := lossTo_len p wh l _
theorem lossTo_at (p wh : Int) (l : List UInt8) : ∀ (n i : Nat), i < n → (lossTo p wh l n).getD i 0 = lossAt p wh l i
  | 0, i, h => by omega
  | n + 1, i, h => by
    rw [lossTo, List.getD_eq_getElem?_getD]
    by_cases e : i < n
    · rw [List.getElem?_append_left (by rw [lossTo_len]; exact e), ← List.getD_eq_getElem?_getD]
      exact lossTo_at p wh l n i e
    · obtain rfl : i = n := by omega
      rw [List.getElem?_append_right (by rw [lossTo_len]; exact Nat.le_refl _), lossTo_len]; simp
theorem lossB_bt (p wh : Int) (l : List UInt8) (i : Nat) (h : i < l.length) : bt (lossB p wh l) i = if legalB p wh l i = true then bt l i else 95 := by
  unfold bt lossB
  rw [lossTo_at p wh l _ i h, lossAt]
  split <;> rfl
end Go.Proofs.Ytjdanidnmpigkaa
