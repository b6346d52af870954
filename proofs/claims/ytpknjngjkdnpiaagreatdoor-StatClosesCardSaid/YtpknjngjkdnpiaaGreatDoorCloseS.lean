/- The walk of polyglothelp.Close for the counting format. -/
import Derived.Test.YtpknjngjkdnpiaaGreatDoorRf26c
import Derived.Test.YtpknjngjkdnpiaaGreatDoorStatDfa
import Derived.Test.YtpknjngjkdnpiaaGreatDoorS26b
namespace Go.Proofs.YtpknjngjkdnpiaaGreatDoor
set_option linter.unusedVariables false
set_option linter.unusedSimpArgs false
open Go.RowKit
attribute [local go_sem ↓] Go.wp_at_zero Go.wp_at_succ
theorem statBad_rows (R : List MRow × Nat × Bool) : (if R.2.2 then (R.2.1 : Int) else -1) = (if R.2.2 = true then (R.2.1 : Int) else -1) := rfl
set_option maxHeartbeats 1600000 in
theorem badHelp_any (s : ByteArray) (w : World) (hs : s.size ≤ 1048576) :
    Calls Tryz.prog 26 #[.int .i64 4, .string s] w fun e w' => e = .returned (.int .i64 (statBad s.data.toList)) ∧ Below w.heap.size w w' := by
  have kQ := rows26r_any s w hs
  have hb : statBad s.data.toList = (if (statRows s.data.toList).2.2 then ((statRows s.data.toList).2.1 : Int) else -1) := rfl
  rw [hb]
  generalize statRows s.data.toList = R at kQ
  have kQ2 : Calls Tryz.prog 11 #[.string s] w fun e w' => (∃ A n c, e = .returned (.tuple #[.slice A n c, .int .i64 (if R.2.2 then (R.2.1 : Int) else -1)])) ∧ Below w.heap.size w w' := kQ.mono fun e w' ⟨⟨A, n, c, h, _⟩, h2⟩ => ⟨⟨A, n, c, h⟩, h2⟩
  generalize (if R.2.2 then (R.2.1 : Int) else -1) = B at kQ2 ⊢
  clear kQ hb
  go_enter Tryz.func26, Tryz.ntmps26
  go_wp2_with (go_at_call 11; refine kQ2.mono ?_; rintro e w1 ⟨⟨A, n, c, rfl⟩, hb1⟩)
  go_ret
  exact ⟨rfl, hb1⟩
def endB (i : Nat) : ByteArray := mkS (endsS.getD i [])
def restB (i : Nat) : ByteArray := mkS (restU.getD i [])
/-- The two tables, as they lie in memory. -/
def Tabs (w : World) (g : Nat) : Prop := (∀ i, i < 2 → w.cell? ⟨g, i, none⟩ = some (.string (endB i))) ∧ (∀ r, r < 9 → w.cell? ⟨g + 1, r, none⟩ = some (.string (restB r))) ∧ g + 2 ≤ w.heap.size
theorem Tabs.below {w w' : World} {g : Nat} (h : Tabs w g) (k : Below w.heap.size w w') : Tabs w' g :=
  ⟨fun i hi => (k.cell (p := ⟨g, i, none⟩) (by have := h.2.2; show g < _; omega)).trans (h.1 i hi), fun i hi => (k.cell (p := ⟨g + 1, i, none⟩) (by have := h.2.2; show g + 1 < _; omega)).trans (h.2.1 i hi), by have := h.2.2; have := k.size; omega⟩
theorem tabs_new (w : World) : Tabs ((w.alloc (.cells #[.string ⟨#[97, 58, 97, 124, 99, 124, 64, 49, 46, 49, 124, 35, 97, 58, 97, 44, 97, 58, 97, 10]⟩, .string ⟨#[109, 115, 10]⟩] 9)).alloc (.cells #[.string ⟨#[]⟩, .string ⟨#[128]⟩, .string ⟨#[160]⟩, .string ⟨#[144]⟩, .string ⟨#[128, 128]⟩, .string ⟨#[160, 128]⟩, .string ⟨#[144, 128]⟩, .string ⟨#[128, 128, 128]⟩, .string ⟨#[144, 128, 128]⟩] 9)) w.heap.size := by
  refine ⟨fun i hi => ?_, fun i hi => ?_, by simp⟩
  · rw [World.cell?_alloc_lt _ _ ⟨_, _, none⟩ (by simp), World.cell?_alloc_at _ _ _ _ rfl]
    match i, hi with
    | 0, _ => rfl
    | 1, _ => rfl
    | n + 2, h => omega
  · rw [World.cell?_alloc_at _ _ _ _ (by simp)]
    match i, hi with
    | 0, _ => rfl
    | 1, _ => rfl
    | 2, _ => rfl
    | 3, _ => rfl
    | 4, _ => rfl
    | 5, _ => rfl
    | 6, _ => rfl
    | 7, _ => rfl
    | 8, _ => rfl
    | n + 9, h => omega
theorem endB_size (i : Nat) : (endB i).size = (endsS.getD i []).length := rfl
theorem endB_le (i : Nat) (h : i < 2) : (endB i).size ≤ 20 := by
  match i, h with
  | 0, _ => decide
  | 1, _ => decide
  | n + 2, h => omega
theorem restB_le (i : Nat) (h : i < 9) : (restB i).size ≤ 3 := by
  match i, h with
  | 0, _ => decide
  | 1, _ => decide
  | 2, _ => decide
  | 3, _ => decide
  | 4, _ => decide
  | 5, _ => decide
  | 6, _ => decide
  | 7, _ => decide
  | 8, _ => decide
  | n + 9, h => omega
def endT (r i j : Nat) : ByteArray := restB r ++ (endB i).extract j (endB i).size
theorem endT_list (s : ByteArray) (r i j : Nat) : (s ++ endT r i j).data.toList = s.data.toList ++ (restU.getD r [] ++ (endsS.getD i []).drop j) := by
  unfold endT
  rw [str_app, str_app, ext_bytes, List.take_of_length_le (by rw [List.length_drop]; exact Nat.le_refl _)]
  rfl
/-- Is the text with that end one? -/
def clB (s : ByteArray) (r i j : Nat) : Bool := decide (statBad (s ++ endT r i j).data.toList < 0)
def CloseE (s : ByteArray) (e : Ending) : Prop := ∃ t : ByteArray, e = .returned (.tuple #[.string t, .bool true]) ∧ t.size ≤ 30 ∧ statBad (s ++ t).data.toList = -1
theorem closeE_mk {s : ByteArray} {r i j : Nat} (hi : i < 2) (hr : r < 9) (h : clB s r i j = true) : CloseE s (.returned (.tuple #[.string (endT r i j), .bool true])) := by
  refine ⟨_, rfl, ?_, ?_⟩
  · unfold endT
    rw [ByteArray.size_append, ByteArray.size_extract]
    have := endB_le i hi
    have := restB_le r hr
    omega
  · have h1 := statBad_bd (s ++ endT r i j).data.toList
    unfold clB at h
    have := of_decide_eq_true h
    omega
set_option maxRecDepth 100000 in
set_option maxHeartbeats 6400000 in
theorem close_any (s : ByteArray) (w : World) (hs : s.size ≤ 1000) (H : ∃ r i j, r < 9 ∧ i < 2 ∧ j ≤ (endB i).size ∧ clB s r i j = true) :
    Calls Tryz.prog 14 #[.int .i64 4, .string s] w fun e w' => CloseE s e ∧ Below w.heap.size w w' := by
  have hT0 := tabs_new w
  have HH := Lib.hid H
  clear H
  go_enter Tryz.func14, Tryz.ntmps14
  go_wp2_with fail
  go_loopw [8] (fun v wr => (Tabs wr w.heap.size ∧ Below w.heap.size w wr) ∧ ∃ r : Nat, r ≤ 9 ∧ v = .int .i64 r ∧ Hid (∀ r', r' < r → ∀ i j, i < 2 → j ≤ (endB i).size → clB s r' i j = false)) (fun v _ => 9 - (intOf v).toNat)
  case atStart => exact ⟨⟨hT0, ((Below.refl _ _).alloc (Nat.le_refl _) _).alloc (by simp) _⟩, 0, by omega, rfl, Lib.hid (fun r' h => absurd h (by omega))⟩
  case round =>
    clear hT0
    obtain ⟨⟨hT, hb⟩, r, hr, rfl, HA⟩ := hrel
    by_cases hr9 : r < 9
    case neg =>
      exfalso
      obtain ⟨r', i, j, h1, h2, h3, h4⟩ := HH.out
      rw [HA.out r' (by omega) i j h2 h3] at h4
      cases h4
    case pos =>
      have hd : decide ((r : Int) < 9) = true := decide_eq_true (by omega)
      go_wp2_with fail
      go_loopw [9] (fun v wr => (Tabs wr w.heap.size ∧ Below w.heap.size w wr) ∧ ∃ i : Nat, i ≤ 2 ∧ v = .int .i64 i ∧ Hid (∀ i', i' < i → ∀ j, j ≤ (endB i').size → clB s r i' j = false)) (fun v _ => 2 - (intOf v).toNat)
      case atStart => exact ⟨⟨hT, hb⟩, 0, by omega, rfl, Lib.hid (fun r' h => absurd h (by omega))⟩
      case round =>
        clear hT hb hd
        obtain ⟨⟨hT, hb⟩, i, hi, rfl, HB⟩ := hrel
        by_cases hi8 : i < 2
        case neg =>
          have hd : decide ((i : Int) < 2) = false := decide_eq_false (by omega)
          obtain rfl : i = 2 := by omega
          have HA2 : Hid (∀ r', r' < r + 1 → ∀ i j, i < 2 → j ≤ (endB i).size → clB s r' i j = false) := Lib.hid (fun r' h i j h1 h2 => by
            rcases Nat.lt_or_ge r' r with h' | h'
            · exact HA.out r' h' i j h1 h2
            · obtain rfl : r' = r := by omega
              exact HB.out i h1 j h2)
          clear HA HB
          go_wp2_with fail
          exact ⟨⟨⟨hT, hb⟩, r + 1, by omega, rfl, HA2⟩, by (simp only [intOf]; omega)⟩
        case pos =>
          have hd : decide ((i : Int) < 2) = true := decide_eq_true (by omega)
          go_wp2_with fail
          go_loopw [10] (fun v wr => (Tabs wr w.heap.size ∧ Below w.heap.size w wr) ∧ ∃ j : Nat, j ≤ (endB i).size + 1 ∧ v = .int .i64 j ∧ Hid (∀ j', j' < j → clB s r i j' = false)) (fun v _ => (endB i).size + 1 - (intOf v).toNat)
          case atStart => exact ⟨⟨hT, hb⟩, 0, by omega, rfl, Lib.hid (fun r' h => absurd h (by omega))⟩
          case round =>
            clear hT hb hd
            obtain ⟨⟨hT, hb⟩, j, hj, rfl, HC⟩ := hrel
            have c1 := hT.1 i hi8
            have c2 := hT.2.1 r hr9
            have hi0 : (0 : Int) ≤ i := by omega
            have hi1 : (i : Int) < 2 := by omega
            have hr0 : (0 : Int) ≤ r := by omega
            have hr1 : (r : Int) < 9 := by omega
            have hz1 := endB_le i hi8
            have hz2 := restB_le r hr9
            by_cases hjl : j ≤ (endB i).size
            case neg =>
              have hd : decide ((j : Int) ≤ (endB i).size) = false := decide_eq_false (by omega)
              have HB2 : Hid (∀ i', i' < i + 1 → ∀ j, j ≤ (endB i').size → clB s r i' j = false) := Lib.hid (fun i' h j' h2 => by
                rcases Nat.lt_or_ge i' i with h' | h'
                · exact HB.out i' h' j' h2
                · obtain rfl : i' = i := by omega
                  exact HC.out j' (by omega))
              clear HB HC
              obtain ⟨n, hn⟩ : ∃ n, n = (endB i).size := ⟨_, rfl⟩
              rw [← hn] at hz1 hj hjl hd
              have HN := Lib.hid hn
              clear hn
              generalize endB i = E at c1 HN
              have hn2 : E.size = n := HN.out.symm
              go_wp2_with fail
              exact ⟨⟨⟨hT, hb⟩, i + 1, by omega, rfl, HB2⟩, by (simp only [intOf]; omega)⟩
            case pos =>
              have hd : decide ((j : Int) ≤ (endB i).size) = true := decide_eq_true (by omega)
              have hj0 : (0 : Int) ≤ j := by omega
              have hj1 : (j : Int) ≤ (endB i).size := by omega
              have hs3 : (endT r i j).size ≤ 30 := by
                unfold endT; rw [ByteArray.size_append, ByteArray.size_extract]; omega
              have kB := fun W => badHelp_any (s ++ endT r i j) W (by rw [ByteArray.size_append]; omega)
              have hCE : clB s r i j = true → CloseE s (.returned (.tuple #[.string (endT r i j), .bool true])) := closeE_mk hi8 hr9
              have HC2 : clB s r i j = false → Hid (∀ j', j' < j + 1 → clB s r i j' = false) := fun h0 => Lib.hid (fun j' h' => by
                rcases Nat.lt_or_ge j' j with h2 | h2
                · exact HC.out j' h2
                · obtain rfl : j' = j := by omega
                  exact h0)
              obtain ⟨cl, hcl⟩ : ∃ cl, clB s r i j = cl := ⟨_, rfl⟩
              have hcl2 : decide (statBad (s ++ endT r i j).data.toList < 0) = cl := hcl
              rw [hcl] at hCE HC2
              have HT1 : Hid (endT r i j = restB r ++ (endB i).extract j (endB i).size) := Lib.hid rfl
              generalize statBad (s ++ endT r i j).data.toList = B at kB hcl2
              generalize endT r i j = T at HT1 hs3 kB hCE
              obtain ⟨n, hn⟩ : ∃ n, n = (endB i).size := ⟨_, rfl⟩
              rw [← hn] at hz1 hj hjl hj1 hd
              have HN := Lib.hid hn
              clear hn hcl HC
              generalize endB i = E at c1 HT1 HN
              generalize restB r = X at c2 HT1 hz2
              have hn2 : E.size = n := HN.out.symm
              have hl1 : ¬ 9223372036854775807 < X.size + (n - j) := by omega
              have hl2 : ¬ 9223372036854775807 < s.size + T.size := by omega
              have hmin : min n n = n := Nat.min_self n
              go_wp2_with fail
              have HT2 : Hid (X ++ E.extract j n = T) := Lib.hid (by rw [HT1.out, hn2])
              go_quiet (fail)
              rw [HT2.out]
              clear HT2 HT1 hl1
              cases cl
              case true =>
                have HCE := Lib.hid (hCE rfl)
                clear hCE HC2
                go_wp2_with (go_at_call 26; refine (kB _).mono ?_; rintro e w4 ⟨rfl, hb4⟩)
                go_ret2
                exact ⟨HCE.out, bl_any (bl_drewN hb _) hb4⟩
              case false =>
                have HC3 := HC2 rfl
                clear hCE HC2
                go_wp2_with (go_at_call 26; refine (kB _).mono ?_; rintro e w4 ⟨rfl, hb4⟩)
                have hT4 : Tabs w4 w.heap.size := Tabs.below (w := wr) (w' := w4) hT (bl_any (bl_drewN (Below.refl _ _) nq) hb4)
                exact ⟨⟨⟨hT4, bl_any (bl_drewN hb _) hb4⟩, j + 1, by omega, rfl, HC3⟩, by (simp only [intOf]; omega)⟩
end Go.Proofs.YtpknjngjkdnpiaaGreatDoor
