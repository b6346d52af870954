/- The line format: a line with a field of each kind, as it is read (no program in sight). -/
import Derived.Test.YtdngieihlcknmaaLineK
namespace Go.Proofs.Ytdngieihlcknmaa
set_option linter.unusedVariables false
set_option linter.unusedSimpArgs false
open Go.RowKit
set_option maxRecDepth 4000
def kindText (k : Nat) (d cs : List UInt8) : List UInt8 := 109 :: 32 :: (aheadL cs ++ (120 :: 61 :: (valT k d ++ 32 :: 55 :: [10])))
def kindNo (k : Nat) (d : List UInt8) : List UInt8 := 109 :: 32 :: 120 :: 61 :: (valT k d ++ 63 :: [10])
def KindRow (k : Nat) (d cs : List UInt8) (R : MRow) : Prop :=
  ∃ fs : List MField, fs.length = cs.length ∧ R.fields = fs ++ [⟨mkS [120], mkS (valW k d), 2 + (aheadL cs).length, 2 + (aheadL cs).length + 2 + valS k, valK k⟩] ∧ R.time = mkS [55]
theorem name_m : NameB [109] := by intro x hx; simp at hx; subst hx; decide
theorem ahead_len (cs : List UInt8) : (aheadL cs).length = 5 * cs.length := by
  induction cs with
  | nil => rfl
  | cons c cs ih => unfold aheadL at ih ⊢; rw [List.flatMap_cons, List.length_append, ih]; simp; omega
theorem kind_rows {k : Nat} {d cs : List UInt8} (hd : Digs d) (hcs : Low cs) : ∃ R, lineRows (kindText k d cs) = ([R], (kindText k d cs).length, false) ∧ KindRow k d cs R := by
  obtain ⟨l, hl⟩ : ∃ l, kindText k d cs = l := ⟨_, rfl⟩
  rw [hl]
  have g0 : l.drop 0 = markL inM [109] ++ 32 :: (aheadL cs ++ (120 :: 61 :: (valT k d ++ 32 :: 55 :: [10]))) := by rw [List.drop_zero, ← hl]; rfl
  have h1 := sgn_name (l := l) (m := inM) (by decide) (by decide) (y := 32) (by decide) (by decide) (by decide) name_m (by simp) g0
  have g0' : l.drop 0 = 109 :: 32 :: (aheadL cs ++ (120 :: 61 :: (valT k d ++ 32 :: 55 :: [10]))) := g0
  have h35 := isB_no2 g0' (show (((109 : UInt8).toNat : Nat) : Int) ≠ 35 by decide)
  have g1 : l.drop 1 = 32 :: (aheadL cs ++ (120 :: 61 :: (valT k d ++ 32 :: 55 :: [10]))) := drop_one g0'
  have h1 : sgn l inM false 0 false = ([109], 1, false) := h1
  have htags : tagsS l (l.length + 1) 1 false [] = ([], 1, false) := by
    unfold tagsS
    rw [isB_no2 g1 (by decide), if_neg (by simp)]
  have w1 := word_one g1
  have g2 := drop_one g1
  have hlen : (aheadL cs).length + 2 ≤ l.length := by
    have := congrArg List.length g2
    rw [List.length_drop, List.length_append] at this; simp only [List.length_cons] at this; omega
  have hcl : cs.length < l.length + 1 := by rw [ahead_len] at hlen; omega
  obtain ⟨fs, hfs, hF⟩ := fields_ahead (k := k) hd (y := 32) ⟨by decide, by decide, by decide, by decide⟩ (by decide) cs (l.length + 1) (1 + 1) [] hcs g2 hcl
  have g3 := drop_app (drop_one (drop_one (drop_app g2)))
  have e3 : 1 + 1 + (aheadL cs).length + 1 + 1 + (valT k d).length = 1 + 1 + (aheadL cs).length + 2 + (valT k d).length := by omega
  rw [e3] at g3
  generalize hp3 : 1 + 1 + (aheadL cs).length + 2 + (valT k d).length = p3 at g3 hF
  have g4 := drop_one g3
  have hn := num_dig2 (l := l) (p := p3 + 1) (d := [55]) (r := []) (y := 10) ⟨by simp, by decide⟩ (by decide) g4
  have hn : numS l (p3 + 1) false = (p3 + 1 + 1, false) := hn
  have hcut : cutL l (p3 + 1) (p3 + 1 + 1) = [55] := drop_cut (x := [55]) g4
  have g5 := drop_one g4
  have w5 := word_one g5
  have g6 := drop_one g5
  have hend : p3 + 1 + 1 + 1 = l.length := drop_nil g6 (by have := (drop_bt g5).1; omega)
  have hline : lineS l 0 = (⟨0, mkS [109], 0, [], fs ++ [⟨mkS [120], mkS (valW k d), 1 + 1 + (aheadL cs).length, 1 + 1 + (aheadL cs).length + 2 + valS k, valK k⟩], mkS [], 0, true, mkS [55], p3 + 1⟩, p3 + 1 + 1 + 1, false) := by
    unfold lineS
    simp only [h35, h1, htags, w1, hF, isB_yes2 g3 (show (((32 : UInt8).toNat : Nat) : Int) = 32 by decide), if_true, hn, hcut, w5, List.nil_append]
  refine ⟨⟨0, mkS [109], 0, [], fs ++ [⟨mkS [120], mkS (valW k d), 1 + 1 + (aheadL cs).length, 1 + 1 + (aheadL cs).length + 2 + valS k, valK k⟩], mkS [], 0, true, mkS [55], p3 + 1⟩, ?_, fs, hfs, rfl, rfl⟩
  unfold lineRows
  obtain ⟨n, hn⟩ : ∃ n, l.length + 1 = n + 1 + 1 := ⟨l.length - 1, by omega⟩
  rw [hn]
  unfold rowsGo
  rw [if_neg (by omega), hline]
  simp only [Bool.false_eq_true, if_false, List.nil_append]
  unfold rowsGo
  rw [if_pos (by omega), hend]
theorem kind_no {k : Nat} {d : List UInt8} (hd : Digs d) : (lineRows (kindNo k d)).2.2 = true := by
  obtain ⟨l, hl⟩ : ∃ l, kindNo k d = l := ⟨_, rfl⟩
  rw [hl]
  have g0 : l.drop 0 = markL inM [109] ++ 32 :: (120 :: 61 :: (valT k d ++ 63 :: [10])) := by rw [List.drop_zero, ← hl]; rfl
  have h1 := sgn_name (l := l) (m := inM) (by decide) (by decide) (y := 32) (by decide) (by decide) (by decide) name_m (by simp) g0
  have g0' : l.drop 0 = 109 :: 32 :: (120 :: 61 :: (valT k d ++ 63 :: [10])) := g0
  have h35 := isB_no2 g0' (show (((109 : UInt8).toNat : Nat) : Int) ≠ 35 by decide)
  have g1 : l.drop 1 = 32 :: (120 :: 61 :: (valT k d ++ 63 :: [10])) := drop_one g0'
  have h1 : sgn l inM false 0 false = ([109], 1, false) := h1
  have htags : tagsS l (l.length + 1) 1 false [] = ([], 1, false) := by
    unfold tagsS
    rw [isB_no2 g1 (by decide), if_neg (by simp)]
  have w1 := word_one g1
  have g2 := drop_one g1
  obtain ⟨fs, hfs, hF⟩ := fields_ahead (k := k) hd (y := 63) ⟨by decide, by decide, by decide, by decide⟩ (by decide) [] (l.length + 1) (1 + 1) [] (by intro x hx; cases hx) g2 (by simp)
  have g3 := drop_app (drop_one (drop_one g2))
  simp only [aheadL, List.flatMap_nil, List.length_nil, Nat.add_zero, List.nil_append] at hF
  have e3 : 1 + 1 + 1 + 1 + (valT k d).length = 1 + 1 + 2 + (valT k d).length := by omega
  rw [e3] at g3
  generalize hp3 : 1 + 1 + 2 + (valT k d).length = p3 at g3 hF
  have hlt := (drop_bt g0').1
  have hline : (lineS l 0).2.2 = true := by
    unfold lineS
    simp only [h35, h1, htags, w1, hF, isB_no2 g3 (show (((63 : UInt8).toNat : Nat) : Int) ≠ 32 by decide), Bool.false_eq_true, if_false]
    rw [word1, isB_no2 g3 (by decide), if_neg (by simp)]
  unfold lineRows
  rw [rowsGo]
  rw [if_neg (by omega), if_pos hline]
end Go.Proofs.Ytdngieihlcknmaa
