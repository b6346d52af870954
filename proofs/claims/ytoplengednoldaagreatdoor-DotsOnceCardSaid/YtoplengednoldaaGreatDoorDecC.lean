/- The walk of dec.Parse. -/
import Derived.Test.YtoplengednoldaaGreatDoorDecB
import Derived.Test.YtoplengednoldaaGreatDoorShelfT
namespace Go.Proofs.YtoplengednoldaaGreatDoor
set_option linter.unusedVariables false
set_option linter.unusedSimpArgs false
open Go.RowKit
theorem take_while (q : UInt8 → Bool) : ∀ x : List UInt8, x.take (x.takeWhile q).length = x.takeWhile q
  | [] => rfl
  | c :: cs => by
    cases h : q c
    · simp [h]
    · simp [h, take_while q cs]
theorem while_all (q : UInt8 → Bool) : ∀ x : List UInt8, ∀ c ∈ x.takeWhile q, q c = true
  | [], c, h => by simp at h
  | d :: cs, c, h => by
    cases hd : q d
    · simp [hd] at h
    · simp only [List.takeWhile_cons, hd, if_true, List.mem_cons] at h
      rcases h with rfl | h
      · exact hd
      · exact while_all q cs c h
theorem cut_whA {l : List UInt8} {p : Int → Bool} {a : Nat} : ∀ c ∈ cutL l a (whA l p a), p c.toNat = true := by
  intro c hc
  unfold cutL whA at hc
  rw [Nat.add_sub_cancel_left, take_while] at hc
  exact while_all (fun c => p c.toNat) _ c hc
theorem dig_range {c : UInt8} (h : digB c.toNat = true) : 48 ≤ c.toNat ∧ c.toNat ≤ 57 := by
  unfold digB at h
  simp only [Bool.and_eq_true, decide_eq_true_eq] at h
  omega
theorem cutD_dig {l wl pl : List UInt8} {a : Nat} (h : cutD l = (some (wl, pl), a)) : (∀ c ∈ wl, 48 ≤ c.toNat ∧ c.toNat ≤ 57) ∧ (∀ c ∈ pl, 48 ≤ c.toNat ∧ c.toNat ≤ 57) ∧ wl.length + pl.length ≤ l.length ∧ 0 < l.length := by
  have h0 := startD_le l
  have h1 := whA_le l digB (startD l) h0
  unfold cutD at h
  split at h
  · injection h with h _; cases h
  rename_i q1
  have hne : whA l digB (startD l) ≠ startD l := by
    intro e; apply q1; rw [e]; simp
  split at h
  · rename_i q2
    injection h with h _
    injection h with h
    injection h with h2 h3
    subst h2 h3
    refine ⟨fun c hc => dig_range (cut_whA c hc), by simp, ?_, by omega⟩
    rw [cutL_len l _ _ h1.2]; simp; omega
  · rename_i q2
    split at h
    · injection h with h _; cases h
    · injection h with h _
      injection h with h
      injection h with h2 h3
      subst h2 h3
      have hlt : whA l digB (startD l) < l.length := by
        have : whA l digB (startD l) ≠ l.length := by simpa using q2
        omega
      have h4 := whA_le l digB (whA l digB (startD l) + 1) (by omega)
      refine ⟨fun c hc => dig_range (cut_whA c hc), fun c hc => dig_range (cut_whA c hc), ?_, by omega⟩
      rw [cutL_len l _ _ h1.2, cutL_len l _ _ h4.2]; omega
/-- What Parse tells. -/
def ParseE (R : (Int × Nat) × Nat × Nat) (e : Ending) : Prop := e = .returned (.tuple #[.agg #[.int .i64 R.1.1, .int .i64 (R.1.2 : Int)], .int .i64 (R.2.1 : Int), .int .i64 (R.2.2 : Int)])
set_option maxRecDepth 100000 in
set_option maxHeartbeats 3200000 in
theorem parse_any (s : ByteArray) (w : World) (hs : s.size ≤ 1048576) :
    Calls Tryz.prog 51 #[.string s] w fun e w' => ParseE (parseD s.data.toList) e ∧ Aw [] w w' := by
  have hs2 : s.size ≤ 4611686018427387904 := Nat.le_trans hs (by decide)
  have hL : s.data.toList.length = s.size := by simp
  have kC := fun W => cut_any s W hs2
  have hB := Blk.new w 68 #[.int .i64 0, .int .i64 0]
  obtain ⟨R, hR⟩ : ∃ R, parseD s.data.toList = R := ⟨_, rfl⟩
  rw [hR]
  unfold parseD at hR
  obtain ⟨o, a, hc⟩ : ∃ o a, cutD s.data.toList = (o, a) := ⟨_, _, rfl⟩
  rw [hc] at kC hR
  cases o with
  | none =>
    simp only at hR
    subst hR
    simp only [CutE, Option.map_none, Option.getD_none, Option.isSome_none] at kC
    clear hc
    go_enter Tryz.func51, Tryz.ntmps51
    go_wp2_with (go_at_call 91; refine (kC _).mono ?_; rintro e w1 ⟨rfl, hA1⟩; have hB1 := Blk.aw hB hA1 (by simp); have c0 := (Blk.cell hB1 0).trans rfl; have c1 := (Blk.cell hB1 1).trans rfl; have f0 := Blk.frozen hB1 0; have f1 := Blk.frozen hB1 1)
    refine bodyPost_ret (v := .tuple #[.agg #[.int .i64 0, .int .i64 0], .int .i64 11, .int .i64 (a : Int)]) (by simp [results, Tryz.results51, go_sem, c0, c1]) rfl ⟨rfl, (((((Aw.refl _ _).alloc _).trans hA1).setCell (.inr (Nat.le_refl _)) _).setCell (.inr (Nat.le_refl _)) _)⟩
  | some v =>
    obtain ⟨wl, pl⟩ := v
    obtain ⟨g1, g2, g3, g4⟩ := cutD_dig hc
    rw [hL] at g3 g4
    simp only [CutE, Option.map_some, Option.getD_some, Option.isSome_some] at kC
    simp only at hR
    have t1 := trimL0_len wl
    have t2 := trimR0_len pl
    have kR := fun W => Tryz.strings_TrimRight_one (mkS pl) 48 (by decide) W (by show pl.length ≤ _; omega)
    have kL := fun W => Tryz.strings_TrimLeft_one (mkS wl) 48 (by decide) W
    have eR : (⟨(Lib.trimRightB (mkS pl).data.toList 48).toArray⟩ : ByteArray) = mkS (trimR0 pl) := rfl
    have eL : (⟨(Lib.trimLeftB (mkS wl).data.toList 48).toArray⟩ : ByteArray) = mkS (trimL0 wl) := rfl
    rw [eR] at kR
    rw [eL] at kL
    obtain ⟨N, hN⟩ : ∃ N, numD 0 (trimL0 wl ++ trimR0 pl) = N := ⟨_, rfl⟩
    rw [hN] at hR
    have hdig : ∀ c ∈ trimL0 wl ++ trimR0 pl, 48 ≤ c.toNat ∧ c.toNat ≤ 57 := by
      intro c hc
      rcases List.mem_append.1 hc with hc | hc
      · exact g1 c ((List.dropWhile_sublist _).subset hc)
      · have h1 := List.mem_reverse.1 hc
        have h2 := (List.dropWhile_sublist _).subset h1
        exact g2 c (List.mem_reverse.1 h2)
    have kM : ∀ W, Calls Tryz.prog 93 #[.string (mkS (trimL0 wl) ++ mkS (trimR0 pl))] W fun e w' => e = .returned (.tuple #[.int .i64 ((N.getD 0 : Nat) : Int), .bool N.isSome]) ∧ w' = W := fun W => by
      rw [mk_app]
      exact number_any (mkS (trimL0 wl ++ trimR0 pl)) W (by show (trimL0 wl ++ trimR0 pl).length ≤ _; rw [List.length_append]; omega) hdig N hN
    have hNm : ∀ m, N = some m → m ≤ 9223372036854775807 := fun m h => numD_le _ 0 m (by omega) (fun c hc => (hdig c hc).2) (hN.trans h)
    have hsz : (mkS (trimR0 pl)).size = (trimR0 pl).length := rfl
    have hsz2 : (mkS (trimL0 wl)).size = (trimL0 wl).length := rfl
    have l1 : ¬ 9223372036854775807 < (mkS (trimL0 wl)).size + (mkS (trimR0 pl)).size := by omega
    generalize (trimR0 pl).length = n at hsz hR t2
    generalize mkS (trimL0 wl) = SL at kL kM hsz2 l1
    generalize mkS (trimR0 pl) = SR at kR kM hsz l1
    generalize mkS wl = S1 at kC kL
    generalize mkS pl = S2 at kC kR
    have hn : SR.size = n := hsz
    clear hdig hN g1 g2 hc eR eL hsz2 hsz
    cases N with
    | none =>
      simp only at hR
      subst hR
      simp only [Option.getD_none, Option.isSome_none] at kM
      go_enter Tryz.func51, Tryz.ntmps51
      go_wp2_with first
        | (go_at_call 91; refine (kC _).mono ?_; rintro e w1 ⟨rfl, hA1⟩; have hB1 := Blk.aw hB hA1 (by simp); have c0 := (Blk.cell hB1 0).trans rfl; have c1 := (Blk.cell hB1 1).trans rfl; have f0 := Blk.frozen hB1 0; have f1 := Blk.frozen hB1 1)
        | (go_at_call 92; refine (kR _).mono ?_; rintro e w2 ⟨rfl, rfl⟩)
        | (go_at_call 94; refine (kL _).mono ?_; rintro e w3 ⟨rfl, rfl⟩)
        | (go_at_call 93; refine (kM _).mono ?_; rintro e w4 ⟨rfl, rfl⟩)
      refine bodyPost_ret (v := .tuple #[.agg #[.int .i64 0, .int .i64 0], .int .i64 12, .int .i64 0]) (by simp [results, Tryz.results51, go_sem, c0, c1]) rfl ⟨rfl, (((((Aw.refl _ _).alloc _).trans hA1).setCell (.inr (Nat.le_refl _)) _).setCell (.inr (Nat.le_refl _)) _)⟩
    | some m =>
      have hm := hNm m rfl
      clear hNm
      simp only [Option.getD_some, Option.isSome_some] at kM
      simp only at hR
      by_cases h18 : 18 < n
      · rw [if_pos h18] at hR
        subst hR
        have d18 : decide ((18 : Int) < (SR.size : Int)) = true := decide_eq_true (by omega)
        have d18n : decide (18 < SR.size) = true := decide_eq_true (by omega)
        go_enter Tryz.func51, Tryz.ntmps51
        go_wp2_with first
          | (go_at_call 91; refine (kC _).mono ?_; rintro e w1 ⟨rfl, hA1⟩; have hB1 := Blk.aw hB hA1 (by simp); have c0 := (Blk.cell hB1 0).trans rfl; have c1 := (Blk.cell hB1 1).trans rfl; have f0 := Blk.frozen hB1 0; have f1 := Blk.frozen hB1 1)
          | (go_at_call 92; refine (kR _).mono ?_; rintro e w2 ⟨rfl, rfl⟩)
          | (go_at_call 94; refine (kL _).mono ?_; rintro e w3 ⟨rfl, rfl⟩)
          | (go_at_call 93; refine (kM _).mono ?_; rintro e w4 ⟨rfl, rfl⟩)
        refine bodyPost_ret (v := .tuple #[.agg #[.int .i64 0, .int .i64 0], .int .i64 12, .int .i64 0]) (by simp [results, Tryz.results51, go_sem, c0, c1]) rfl ⟨rfl, (((((Aw.refl _ _).alloc _).trans hA1).setCell (.inr (Nat.le_refl _)) _).setCell (.inr (Nat.le_refl _)) _)⟩
      · rw [if_neg h18] at hR
        have d18 : decide ((18 : Int) < (SR.size : Int)) = false := decide_eq_false (by omega)
        have d18n : decide (18 < SR.size) = false := decide_eq_false (by omega)
        have i1 : (0 : Int) ≤ 0 := by omega
        have i2 : (0 : Int) < s.size := by omega
        have i3 : IntKind.i64.wrap (-(m : Int)) = -(m : Int) := IntWalk.i64_in _ (by omega)
        have hbt := getElem_bt g4
        cases hmin : minusD s.data.toList
        · rw [hmin] at hR
          simp only [Bool.false_eq_true, if_false] at hR
          subst hR
          have z2 : (((s[0]'g4).toNat : Int) == 45) = false := by rw [hbt]; exact hmin
          clear hbt hmin
          go_enter Tryz.func51, Tryz.ntmps51
          go_wp2_with first
            | (go_at_call 91; refine (kC _).mono ?_; rintro e w1 ⟨rfl, hA1⟩; have hB1 := Blk.aw hB hA1 (by simp); have c0 := (Blk.cell hB1 0).trans rfl; have c1 := (Blk.cell hB1 1).trans rfl; have f0 := Blk.frozen hB1 0; have f1 := Blk.frozen hB1 1)
            | (go_at_call 92; refine (kR _).mono ?_; rintro e w2 ⟨rfl, rfl⟩)
            | (go_at_call 94; refine (kL _).mono ?_; rintro e w3 ⟨rfl, rfl⟩)
            | (go_at_call 93; refine (kM _).mono ?_; rintro e w4 ⟨rfl, rfl⟩)
          refine bodyPost_ret (v := .tuple #[.agg #[.int .i64 ((m : Int)), .int .i64 (n : Int)], .int .i64 0, .int .i64 0]) (by simp [results, Tryz.results51, go_sem, c0, c1]) rfl ⟨rfl, (((((Aw.refl _ _).alloc _).trans hA1).setCell (.inr (Nat.le_refl _)) _).setCell (.inr (Nat.le_refl _)) _)⟩
        · rw [hmin] at hR
          simp only [if_true] at hR
          subst hR
          have z2 : (((s[0]'g4).toNat : Int) == 45) = true := by rw [hbt]; exact hmin
          clear hbt hmin
          go_enter Tryz.func51, Tryz.ntmps51
          go_wp2_with first
            | (go_at_call 91; refine (kC _).mono ?_; rintro e w1 ⟨rfl, hA1⟩; have hB1 := Blk.aw hB hA1 (by simp); have c0 := (Blk.cell hB1 0).trans rfl; have c1 := (Blk.cell hB1 1).trans rfl; have f0 := Blk.frozen hB1 0; have f1 := Blk.frozen hB1 1)
            | (go_at_call 92; refine (kR _).mono ?_; rintro e w2 ⟨rfl, rfl⟩)
            | (go_at_call 94; refine (kL _).mono ?_; rintro e w3 ⟨rfl, rfl⟩)
            | (go_at_call 93; refine (kM _).mono ?_; rintro e w4 ⟨rfl, rfl⟩)
          refine bodyPost_ret (v := .tuple #[.agg #[.int .i64 (-(m : Int)), .int .i64 (n : Int)], .int .i64 0, .int .i64 0]) (by simp [results, Tryz.results51, go_sem, c0, c1]) rfl ⟨rfl, (((((Aw.refl _ _).alloc _).trans hA1).setCell (.inr (Nat.le_refl _)) _).setCell (.inr (Nat.le_refl _)) _)⟩
end Go.Proofs.YtoplengednoldaaGreatDoor
