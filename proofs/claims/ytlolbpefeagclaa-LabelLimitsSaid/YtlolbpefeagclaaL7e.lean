/- The walk of LabelLimits. -/
import Derived.Test.YtlolbpefeagclaaL7d
namespace Go.Proofs.Ytlolbpefeagclaa
open Go.RowKit
def lenOf : Value → Nat
  | .string b => b.size
  | _ => 0
def strU (d : Bool) (m : Nat) : ByteArray := ⟨(repU d m).toArray⟩
theorem strU_app (d : Bool) (m : Nat) : strU d m ++ ⟨(unitU d).toArray⟩ = strU d (m + 1) := by
  apply bytes_ext
  rw [ByteArray.data_append, Array.toList_append]
  show repU d m ++ unitU d = repU d (m + 1)
  rw [repU_succ]
set_option maxRecDepth 100000 in
set_option maxHeartbeats 12800000 in
theorem limits7_false (q1 q2 q3 : Int) (w : World) (h1 : 0 ≤ q1 ∧ q1 ≤ 255) (h2 : 0 ≤ q2 ∧ q2 ≤ 255) (h3 : 0 ≤ q3 ∧ q3 ≤ 255) :
    Calls Try.prog 6 #[.int .u8 q1, .int .u8 q2, .int .u8 q3, .bool false] w fun e w' => e = .returned (.bool true) ∧ Below w.heap.size w w' := by
  obtain ⟨k, hk, hk11⟩ : ∃ k : Nat, q1 % 11 = (k : Int) ∧ k < 11 := ⟨(q1 % 11).toNat, by omega, by omega⟩
  obtain ⟨a, ha, ha64⟩ : ∃ a : Nat, q2 % 64 = (a : Int) ∧ a < 64 := ⟨(q2 % 64).toNat, by omega, by omega⟩
  obtain ⟨b, hb, hb64⟩ : ∃ b : Nat, q3 % 64 = (b : Int) ∧ b < 64 := ⟨(q3 % 64).toNat, by omega, by omega⟩
  obtain ⟨i0, hi0, hz0, hz1, hz2⟩ := info_parts Try.infoLabel
  have hu : Try.prog.underlying 22 = some (.slice 38) := by kernel_rfl
  go_enter Try.func6, Try.ntmps6
  go_wp2_with (go_at_call 7; refine (known7_any _).mono ?_; rintro e w1 ⟨rfl, hb1⟩)
  clear hk ha hb
  go_loop [13] (fun v => ∃ m M : Nat, v = .string (strU false m) ∧ m * 1 = M ∧ M ≤ a) (fun v => a - lenOf v)
  case atStart => exact ⟨0, 0, rfl, by omega, by omega⟩
  case round =>
    obtain ⟨m, M, rfl, hmM, hMa⟩ := hrel
    have hsz : (strU false m).size = M := by show (repU false m).length = M; rw [repU_len]; exact hmM
    by_cases hle : M + 1 ≤ a
    · have hd : decide ((M : Int) + 1 ≤ a) = true := decide_eq_true (by omega)
      have hcc : ¬ 9223372036854775807 < M + 1 := by omega
      go_wp2_with fail
      have HS := Lib.hid hsz
      clear hsz
      have hsz2 : (strU false (m + 1)).size = M + 1 := by show (repU false (m + 1)).length = M + 1; rw [repU_len]; show (m + 1) * 1 = M + 1; omega
      exact ⟨⟨m + 1, M + 1, by (rw [← strU_app]; rfl), by omega, by omega⟩, by (show a - (strU false m ++ ⟨#[97]⟩).size < a - (strU false m).size; rw [show strU false m ++ ⟨#[97]⟩ = strU false (m + 1) from strU_app false m, hsz2, HS.out]; omega)⟩
    · have hd : decide ((M : Int) + 1 ≤ a) = false := decide_eq_false (by omega)
      go_wp2_with fail
      obtain ⟨m1, rfl⟩ : ∃ q, q = m := ⟨_, rfl⟩
      obtain ⟨M1, rfl⟩ : ∃ q, q = M := ⟨_, rfl⟩
      clear hd hle hmM
      have HSZM1 := Lib.hid hsz
      clear hsz
      go_loop [14] (fun v => ∃ m M : Nat, v = .string (strU false m) ∧ m * 1 = M ∧ M ≤ b) (fun v => b - lenOf v)
      case atStart => exact ⟨0, 0, rfl, by omega, by omega⟩
      case round =>
        obtain ⟨m, M, rfl, hmM, hMa⟩ := hrel
        have hsz : (strU false m).size = M := by show (repU false m).length = M; rw [repU_len]; exact hmM
        by_cases hle : M + 1 ≤ b
        · have hd : decide ((M : Int) + 1 ≤ b) = true := decide_eq_true (by omega)
          have hcc : ¬ 9223372036854775807 < M + 1 := by omega
          go_wp2_with fail
          have HS := Lib.hid hsz
          clear hsz
          have hsz2 : (strU false (m + 1)).size = M + 1 := by show (repU false (m + 1)).length = M + 1; rw [repU_len]; show (m + 1) * 1 = M + 1; omega
          exact ⟨⟨m + 1, M + 1, by (rw [← strU_app]; rfl), by omega, by omega⟩, by (show b - (strU false m ++ ⟨#[97]⟩).size < b - (strU false m).size; rw [show strU false m ++ ⟨#[97]⟩ = strU false (m + 1) from strU_app false m, hsz2, HS.out]; omega)⟩
        · have hd : decide ((M : Int) + 1 ≤ b) = false := decide_eq_false (by omega)
          go_wp2_with fail
          obtain ⟨m2, rfl⟩ : ∃ q, q = m := ⟨_, rfl⟩
          obtain ⟨M2, rfl⟩ : ∃ q, q = M := ⟨_, rfl⟩
          clear hd hle hmM
          have HSZM2 := Lib.hid hsz
          clear hsz
          go_loopw [15, 16] (fun o i wr => Below w.heap.size w wr ∧ ∃ j : Nat, j ≤ k ∧ i = .int .i64 j ∧ wr.ownsRow w.heap.size 38 2 o j ((manyL (strU false m2) j).flatMap labCell)) (fun _ i _ => k - (intOf i).toNat)
          case atStart => exact ⟨hb1, 0, by omega, rfl, World.ownsRow_nil _ _ _ _⟩
          case round =>
            obtain ⟨hbw, j, hj, rfl, hown⟩ := hrel
            have hwr := hbw.size
            by_cases hlt : j < k
            · have hdk : decide ((j : Int) < k) = true := decide_eq_true (by omega)
              have hj0 : (0 : Int) ≤ j := by omega
              have hj1 : (j : Int) < 11 := by omega
              have hcv : ∀ W : World, (convert 41 9 (.slice (some ⟨W.heap.size, 0, none⟩) 1 1)).run Try.prog (W.alloc (.cells #[.int .u8 (97 + (j : Int))] 5)) = .ok (.string (nthB j)) (W.alloc (.cells #[.int .u8 (97 + (j : Int))] 5)) := fun W => by
                have h9 := conv_one W (UInt8.ofNat (97 + j))
                rw [show ((UInt8.ofNat (97 + j)).toNat : Int) = 97 + j by (have e8 : (UInt8.ofNat (97 + j)).toNat = (97 + j) % 256 := by simp); omega] at h9
                exact h9
              have hsuc := Lib.hid (manyL_succ (strU false m2) j)
              generalize manyL (strU false m2) j = O at hown hsuc
              go_wp2_with (at_builtin; refine wpList_append_lies _ (by rfl) _ _ _ (by rfl) w.heap.size 38 i0 _ 2 32 hu hi0 hz0 hz1 hz2 rfl (by omega) _ j (O.flatMap labCell) (by rfl) ((hown.alloc _).alloc _) ⟨wr.heap.size + 1, 0, none⟩ 1 1 [.string (nthB j), .string (strU false m2)] (by rfl) (by rfl) (World.news_of_block (blk_at (by simp))) (by simp [Value.oneCell']) (by omega) (by simp [maxLen]; omega) (by omega) (by simp; omega) (wr.heap.size + 2) (by simp) ?_; intro gg capg w4 hown4 hgrow hat hlt4)
              exact ⟨⟨(bl_alloc (bl_alloc hbw _) _).grown hgrow (by simp; omega) (fun j e => (hown.lt _ e).1), j + 1, by omega, rfl, by (rw [hsuc.out, List.flatMap_append]; exact hown4)⟩, by (simp only [intOf]; omega)⟩
            · have hdk : decide ((j : Int) < k) = false := decide_eq_false (by omega)
              obtain rfl : j = k := by omega
              obtain ⟨Al, cl, rfl, hr⟩ := own_rws (f := labCell) (fun _ => rfl) hown (by rw [manyL_len])
              have s1 : (repU false m1).length = M1 := HSZM1.out
              have s2 : (repU false m2).length = M2 := HSZM2.out
              have n1 := name_rep false m1
              have n2 := val_rep false m2
              have n3 := good_many (strU false m2) j (by omega)
              rw [show (strU false m2).data.toList = repU false m2 from rfl, n2] at n3
              rw [s1] at n1
              rw [s2] at n2 n3
              have kN := fun W => labName_any (strU false m1) W (by rw [HSZM1.out]; omega)
              have kV := fun W => labValue_any (strU false m2) W (by rw [HSZM2.out]; omega)
              rw [show (strU false m1).data.toList = repU false m1 from rfl, n1] at kN
              rw [show (strU false m2).data.toList = repU false m2 from rfl, n2] at kV
              have kG := fun W h => good_any Al j cl (manyL (strU false m2) j) W h (by omega) (fun x hx => by
                obtain ⟨i, hi, rfl⟩ := List.mem_map.1 hx
                exact ⟨(by decide : (1 : Nat) ≤ 1048576), by show (strU false m2).size ≤ 1048576; rw [HSZM2.out]; omega⟩)
              rw [n3] at kG
              have z1 : (strU false m1).size = M1 := HSZM1.out
              have z2 : (strU false m2).size = M2 := HSZM2.out
              clear n1 n2 n3 s1 s2 hown
              rcases (by omega : M1 ≤ 0 ∨ (1 ≤ M1 ∧ M1 ≤ 60) ∨ 60 < M1) with g1 | g1 | g1
              all_goals
                rcases (by omega : M2 ≤ 60 ∨ 60 < M2) with g2 | g2
              all_goals
                rcases (by omega : (j ≤ 0) ∨ (1 ≤ j ∧ j ≤ 8) ∨ 8 < j) with g3 | g3 | g3
              all_goals
                first
                  | (have f1 : decide (1 ≤ M1 ∧ M1 ≤ 60) = true := decide_eq_true (by omega))
                  | (have f1 : decide (1 ≤ M1 ∧ M1 ≤ 60) = false := decide_eq_false (by omega))
                first
                  | (have f2 : decide ((1 : Int) ≤ M1) = true := decide_eq_true (by omega))
                  | (have f2 : decide ((1 : Int) ≤ M1) = false := decide_eq_false (by omega))
                first
                  | (have f3 : decide ((M1 : Int) ≤ 60) = true := decide_eq_true (by omega))
                  | (have f3 : decide ((M1 : Int) ≤ 60) = false := decide_eq_false (by omega))
                first
                  | (have f4 : decide (M2 ≤ 60) = true := decide_eq_true (by omega))
                  | (have f4 : decide (M2 ≤ 60) = false := decide_eq_false (by omega))
                first
                  | (have f5 : decide ((M2 : Int) ≤ 60) = true := decide_eq_true (by omega))
                  | (have f5 : decide ((M2 : Int) ≤ 60) = false := decide_eq_false (by omega))
                first
                  | (have f6 : decide ((j : Int) ≤ 8) = true := decide_eq_true (by omega))
                  | (have f6 : decide ((j : Int) ≤ 8) = false := decide_eq_false (by omega))
                first
                  | (have f7 : ((j : Int) == 0) = true := by (rw [beq_iff_eq]; omega))
                  | (have f7 : ((j : Int) == 0) = false := by (rw [beq_eq_false_iff_ne]; omega))
                first
                  | (have f8 : decide (j ≤ 8 ∧ (j = 0 ∨ decide (M2 ≤ 60) = true)) = true := decide_eq_true (by simp; omega))
                  | (have f8 : decide (j ≤ 8 ∧ (j = 0 ∨ decide (M2 ≤ 60) = true)) = false := decide_eq_false (by simp; omega))
                rw [f8] at kG
                rw [f1] at kN
                rw [f4] at kV
                clear f8 f1 f4 g1 g2 g3
                go_wp2_with (first
                  | (go_at_call 20; with_reducible refine (kN _).mono ?_; rintro e w2 ⟨rfl, hb2⟩; have hr2 := hr.step hb2)
                  | (go_at_call 22; with_reducible refine (kV _).mono ?_; rintro e w3 ⟨rfl, hb3⟩; have hr3 := hr2.step hb3)
                  | (go_at_call 18; with_reducible refine (kG _ hr3).mono ?_; rintro e w4 ⟨rfl, hb4⟩)
                  | (go_at_call 18; refine (k7_DD _ _ (by first | rfl | simp) ⟨#[98]⟩ ⟨#[97]⟩ k7_ba (by decide) (by decide)).mono ?_; rintro e w5 ⟨rfl, hb5⟩)
                  | (go_at_call 18; refine (k7_DD _ _ (by first | rfl | simp) ⟨#[97]⟩ ⟨#[97]⟩ k7_aa (by decide) (by decide)).mono ?_; rintro e w6 ⟨rfl, hb6⟩))
                go_ret
                exact ⟨by first | rfl | exact ret_bool (by simp), bl_any (bl_any (bl_any (bl_any (bl_any hbw hb2) hb3) hb4) hb5) hb6⟩
set_option maxRecDepth 100000 in
set_option maxHeartbeats 12800000 in
theorem limits7_true (q1 q2 q3 : Int) (w : World) (h1 : 0 ≤ q1 ∧ q1 ≤ 255) (h2 : 0 ≤ q2 ∧ q2 ≤ 255) (h3 : 0 ≤ q3 ∧ q3 ≤ 255) :
    Calls Try.prog 6 #[.int .u8 q1, .int .u8 q2, .int .u8 q3, .bool true] w fun e w' => e = .returned (.bool true) ∧ Below w.heap.size w w' := by
  obtain ⟨k, hk, hk11⟩ : ∃ k : Nat, q1 % 11 = (k : Int) ∧ k < 11 := ⟨(q1 % 11).toNat, by omega, by omega⟩
  obtain ⟨a, ha, ha64⟩ : ∃ a : Nat, q2 % 64 = (a : Int) ∧ a < 64 := ⟨(q2 % 64).toNat, by omega, by omega⟩
  obtain ⟨b, hb, hb64⟩ : ∃ b : Nat, q3 % 64 = (b : Int) ∧ b < 64 := ⟨(q3 % 64).toNat, by omega, by omega⟩
  obtain ⟨i0, hi0, hz0, hz1, hz2⟩ := info_parts Try.infoLabel
  have hu : Try.prog.underlying 22 = some (.slice 38) := by kernel_rfl
  go_enter Try.func6, Try.ntmps6
  go_wp2_with (go_at_call 7; refine (known7_any _).mono ?_; rintro e w1 ⟨rfl, hb1⟩)
  clear hk ha hb
  go_loop [13] (fun v => ∃ m M : Nat, v = .string (strU true m) ∧ m * 2 = M ∧ M ≤ a) (fun v => a - lenOf v)
  case atStart => exact ⟨0, 0, rfl, by omega, by omega⟩
  case round =>
    obtain ⟨m, M, rfl, hmM, hMa⟩ := hrel
    have hsz : (strU true m).size = M := by show (repU true m).length = M; rw [repU_len]; exact hmM
    by_cases hle : M + 2 ≤ a
    · have hd : decide ((M : Int) + 2 ≤ a) = true := decide_eq_true (by omega)
      have hcc : ¬ 9223372036854775807 < M + 2 := by omega
      go_wp2_with fail
      have HS := Lib.hid hsz
      clear hsz
      have hsz2 : (strU true (m + 1)).size = M + 2 := by show (repU true (m + 1)).length = M + 2; rw [repU_len]; show (m + 1) * 2 = M + 2; omega
      exact ⟨⟨m + 1, M + 2, by (rw [← strU_app]; rfl), by omega, by omega⟩, by (show a - (strU true m ++ ⟨#[195, 169]⟩).size < a - (strU true m).size; rw [show strU true m ++ ⟨#[195, 169]⟩ = strU true (m + 1) from strU_app true m, hsz2, HS.out]; omega)⟩
    · have hd : decide ((M : Int) + 2 ≤ a) = false := decide_eq_false (by omega)
      go_wp2_with fail
      obtain ⟨m1, rfl⟩ : ∃ q, q = m := ⟨_, rfl⟩
      obtain ⟨M1, rfl⟩ : ∃ q, q = M := ⟨_, rfl⟩
      clear hd hle hmM
      have HSZM1 := Lib.hid hsz
      clear hsz
      go_loop [14] (fun v => ∃ m M : Nat, v = .string (strU true m) ∧ m * 2 = M ∧ M ≤ b) (fun v => b - lenOf v)
      case atStart => exact ⟨0, 0, rfl, by omega, by omega⟩
      case round =>
        obtain ⟨m, M, rfl, hmM, hMa⟩ := hrel
        have hsz : (strU true m).size = M := by show (repU true m).length = M; rw [repU_len]; exact hmM
        by_cases hle : M + 2 ≤ b
        · have hd : decide ((M : Int) + 2 ≤ b) = true := decide_eq_true (by omega)
          have hcc : ¬ 9223372036854775807 < M + 2 := by omega
          go_wp2_with fail
          have HS := Lib.hid hsz
          clear hsz
          have hsz2 : (strU true (m + 1)).size = M + 2 := by show (repU true (m + 1)).length = M + 2; rw [repU_len]; show (m + 1) * 2 = M + 2; omega
          exact ⟨⟨m + 1, M + 2, by (rw [← strU_app]; rfl), by omega, by omega⟩, by (show b - (strU true m ++ ⟨#[195, 169]⟩).size < b - (strU true m).size; rw [show strU true m ++ ⟨#[195, 169]⟩ = strU true (m + 1) from strU_app true m, hsz2, HS.out]; omega)⟩
        · have hd : decide ((M : Int) + 2 ≤ b) = false := decide_eq_false (by omega)
          go_wp2_with fail
          obtain ⟨m2, rfl⟩ : ∃ q, q = m := ⟨_, rfl⟩
          obtain ⟨M2, rfl⟩ : ∃ q, q = M := ⟨_, rfl⟩
          clear hd hle hmM
          have HSZM2 := Lib.hid hsz
          clear hsz
          go_loopw [15, 16] (fun o i wr => Below w.heap.size w wr ∧ ∃ j : Nat, j ≤ k ∧ i = .int .i64 j ∧ wr.ownsRow w.heap.size 38 2 o j ((manyL (strU true m2) j).flatMap labCell)) (fun _ i _ => k - (intOf i).toNat)
          case atStart => exact ⟨hb1, 0, by omega, rfl, World.ownsRow_nil _ _ _ _⟩
          case round =>
            obtain ⟨hbw, j, hj, rfl, hown⟩ := hrel
            have hwr := hbw.size
            by_cases hlt : j < k
            · have hdk : decide ((j : Int) < k) = true := decide_eq_true (by omega)
              have hj0 : (0 : Int) ≤ j := by omega
              have hj1 : (j : Int) < 11 := by omega
              have hcv : ∀ W : World, (convert 41 9 (.slice (some ⟨W.heap.size, 0, none⟩) 1 1)).run Try.prog (W.alloc (.cells #[.int .u8 (97 + (j : Int))] 5)) = .ok (.string (nthB j)) (W.alloc (.cells #[.int .u8 (97 + (j : Int))] 5)) := fun W => by
                have h9 := conv_one W (UInt8.ofNat (97 + j))
                rw [show ((UInt8.ofNat (97 + j)).toNat : Int) = 97 + j by (have e8 : (UInt8.ofNat (97 + j)).toNat = (97 + j) % 256 := by simp); omega] at h9
                exact h9
              have hsuc := Lib.hid (manyL_succ (strU true m2) j)
              generalize manyL (strU true m2) j = O at hown hsuc
              go_wp2_with (at_builtin; refine wpList_append_lies _ (by rfl) _ _ _ (by rfl) w.heap.size 38 i0 _ 2 32 hu hi0 hz0 hz1 hz2 rfl (by omega) _ j (O.flatMap labCell) (by rfl) ((hown.alloc _).alloc _) ⟨wr.heap.size + 1, 0, none⟩ 1 1 [.string (nthB j), .string (strU true m2)] (by rfl) (by rfl) (World.news_of_block (blk_at (by simp))) (by simp [Value.oneCell']) (by omega) (by simp [maxLen]; omega) (by omega) (by simp; omega) (wr.heap.size + 2) (by simp) ?_; intro gg capg w4 hown4 hgrow hat hlt4)
              exact ⟨⟨(bl_alloc (bl_alloc hbw _) _).grown hgrow (by simp; omega) (fun j e => (hown.lt _ e).1), j + 1, by omega, rfl, by (rw [hsuc.out, List.flatMap_append]; exact hown4)⟩, by (simp only [intOf]; omega)⟩
            · have hdk : decide ((j : Int) < k) = false := decide_eq_false (by omega)
              obtain rfl : j = k := by omega
              obtain ⟨Al, cl, rfl, hr⟩ := own_rws (f := labCell) (fun _ => rfl) hown (by rw [manyL_len])
              have s1 : (repU true m1).length = M1 := HSZM1.out
              have s2 : (repU true m2).length = M2 := HSZM2.out
              have n1 := name_rep true m1
              have n2 := val_rep true m2
              have n3 := good_many (strU true m2) j (by omega)
              rw [show (strU true m2).data.toList = repU true m2 from rfl, n2] at n3
              rw [s1] at n1
              rw [s2] at n2 n3
              have kN := fun W => labName_any (strU true m1) W (by rw [HSZM1.out]; omega)
              have kV := fun W => labValue_any (strU true m2) W (by rw [HSZM2.out]; omega)
              rw [show (strU true m1).data.toList = repU true m1 from rfl, n1] at kN
              rw [show (strU true m2).data.toList = repU true m2 from rfl, n2] at kV
              have kG := fun W h => good_any Al j cl (manyL (strU true m2) j) W h (by omega) (fun x hx => by
                obtain ⟨i, hi, rfl⟩ := List.mem_map.1 hx
                exact ⟨(by decide : (1 : Nat) ≤ 1048576), by show (strU true m2).size ≤ 1048576; rw [HSZM2.out]; omega⟩)
              rw [n3] at kG
              have z1 : (strU true m1).size = M1 := HSZM1.out
              have z2 : (strU true m2).size = M2 := HSZM2.out
              clear n1 n2 n3 s1 s2 hown
              rcases (by omega : M1 ≤ 0 ∨ (1 ≤ M1 ∧ M1 ≤ 60) ∨ 60 < M1) with g1 | g1 | g1
              all_goals
                rcases (by omega : M2 ≤ 60 ∨ 60 < M2) with g2 | g2
              all_goals
                rcases (by omega : (j ≤ 0) ∨ (1 ≤ j ∧ j ≤ 8) ∨ 8 < j) with g3 | g3 | g3
              all_goals
                first
                  | (have f1 : decide (1 ≤ M1 ∧ M1 ≤ 60) = true := decide_eq_true (by omega))
                  | (have f1 : decide (1 ≤ M1 ∧ M1 ≤ 60) = false := decide_eq_false (by omega))
                first
                  | (have f2 : decide ((1 : Int) ≤ M1) = true := decide_eq_true (by omega))
                  | (have f2 : decide ((1 : Int) ≤ M1) = false := decide_eq_false (by omega))
                first
                  | (have f3 : decide ((M1 : Int) ≤ 60) = true := decide_eq_true (by omega))
                  | (have f3 : decide ((M1 : Int) ≤ 60) = false := decide_eq_false (by omega))
                first
                  | (have f4 : decide (M2 ≤ 60) = true := decide_eq_true (by omega))
                  | (have f4 : decide (M2 ≤ 60) = false := decide_eq_false (by omega))
                first
                  | (have f5 : decide ((M2 : Int) ≤ 60) = true := decide_eq_true (by omega))
                  | (have f5 : decide ((M2 : Int) ≤ 60) = false := decide_eq_false (by omega))
                first
                  | (have f6 : decide ((j : Int) ≤ 8) = true := decide_eq_true (by omega))
                  | (have f6 : decide ((j : Int) ≤ 8) = false := decide_eq_false (by omega))
                first
                  | (have f7 : ((j : Int) == 0) = true := by (rw [beq_iff_eq]; omega))
                  | (have f7 : ((j : Int) == 0) = false := by (rw [beq_eq_false_iff_ne]; omega))
                first
                  | (have f8 : decide (j ≤ 8 ∧ (j = 0 ∨ decide (M2 ≤ 60) = true)) = true := decide_eq_true (by simp; omega))
                  | (have f8 : decide (j ≤ 8 ∧ (j = 0 ∨ decide (M2 ≤ 60) = true)) = false := decide_eq_false (by simp; omega))
                rw [f8] at kG
                rw [f1] at kN
                rw [f4] at kV
                clear f8 f1 f4 g1 g2 g3
                go_wp2_with (first
                  | (go_at_call 20; with_reducible refine (kN _).mono ?_; rintro e w2 ⟨rfl, hb2⟩; have hr2 := hr.step hb2)
                  | (go_at_call 22; with_reducible refine (kV _).mono ?_; rintro e w3 ⟨rfl, hb3⟩; have hr3 := hr2.step hb3)
                  | (go_at_call 18; with_reducible refine (kG _ hr3).mono ?_; rintro e w4 ⟨rfl, hb4⟩)
                  | (go_at_call 18; refine (k7_DD _ _ (by first | rfl | simp) ⟨#[98]⟩ ⟨#[97]⟩ k7_ba (by decide) (by decide)).mono ?_; rintro e w5 ⟨rfl, hb5⟩)
                  | (go_at_call 18; refine (k7_DD _ _ (by first | rfl | simp) ⟨#[97]⟩ ⟨#[97]⟩ k7_aa (by decide) (by decide)).mono ?_; rintro e w6 ⟨rfl, hb6⟩))
                go_ret
                exact ⟨by first | rfl | exact ret_bool (by simp), bl_any (bl_any (bl_any (bl_any (bl_any hbw hb2) hb3) hb4) hb5) hb6⟩
theorem limits7_any (q1 q2 q3 : Int) (d : Bool) (w : World) (h1 : 0 ≤ q1 ∧ q1 ≤ 255) (h2 : 0 ≤ q2 ∧ q2 ≤ 255) (h3 : 0 ≤ q3 ∧ q3 ≤ 255) :
    Calls Try.prog 6 #[.int .u8 q1, .int .u8 q2, .int .u8 q3, .bool d] w fun e w' => e = .returned (.bool true) ∧ Below w.heap.size w w' := by
  cases d
  · exact limits7_false q1 q2 q3 w h1 h2 h3
  · exact limits7_true q1 q2 q3 w h1 h2 h3
end Go.Proofs.Ytlolbpefeagclaa
