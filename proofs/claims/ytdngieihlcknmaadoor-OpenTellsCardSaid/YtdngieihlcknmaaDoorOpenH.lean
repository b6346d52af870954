/- The walks of package openword: Help, Quote. -/
import Derived.Test.YtdngieihlcknmaaDoorOpenF
import Derived.Test.YtdngieihlcknmaaDoorShelfR
import Derived.Laws.Rows
namespace Go.Proofs.YtdngieihlcknmaaDoor
set_option linter.unusedVariables false
set_option linter.unusedSimpArgs false
open Go.RowKit
/-- A byte is told otherwise. -/
def escL (c : UInt8) (new : List UInt8) (s : List UInt8) : List UInt8 := s.flatMap fun b => if b = c then new else [b]
theorem repl_one (c : UInt8) (new : List UInt8) : ∀ s : List UInt8, Lib.replaceK [c] new (s.count c) s = escL c new s
  | [] => rfl
  | b :: l => by
    have ih := repl_one c new l
    by_cases hb : b = c
    · subst hb
      have h0 : Lib.index (b :: l) [b] = (0 : Nat) := by simp [Lib.index]
      rw [List.count_cons_self, Lib.replaceK_hit _ _ _ _ 0 h0]
      simp only [List.take_zero, List.nil_append, List.length_singleton, Nat.zero_add, List.drop_succ_cons, List.drop_zero, ih]
      simp [escL]
    · have hc : (b :: l).count c = l.count c := List.count_cons_of_ne hb
      rw [hc]
      have e : escL c new (b :: l) = b :: escL c new l := by simp [escL, hb]
      rw [e, ← ih]
      cases hk : l.count c with
      | zero => rfl
      | succ k =>
        obtain ⟨i, hi⟩ := Lib.index_of_count (s := l) (old := [c]) (by rw [Lib.count_one, hk]; omega)
        have h1 : Lib.index (b :: l) [c] = ((i + 1 : Nat) : Int) := by
          unfold Lib.index
          rw [if_neg (by simp; exact fun h => hb h.symm), if_neg (by rw [hi]; simp), hi]
          rfl
        rw [Lib.replaceK_hit _ _ _ _ (i + 1) h1, Lib.replaceK_hit _ _ _ _ i hi]
        simp
theorem replaceAll_one (c : UInt8) (new s : List UInt8) (h : ([c] == new) = false) : Lib.replaceAll s [c] new = escL c new s := by
  unfold Lib.replaceAll Lib.replace Lib.replaceNum
  rw [if_neg (by rw [h]; decide), if_pos (.inl (by decide)), Lib.count_one]
  exact repl_one c new s
theorem escL_len (c : UInt8) {new : List UInt8} (h : new.length = 2) : ∀ s : List UInt8, (escL c new s).length ≤ 2 * s.length
  | [] => by simp [escL]
  | b :: l => by
    have ih := escL_len c h l
    unfold escL at ih ⊢
    rw [List.flatMap_cons, List.length_append, List.length_cons]
    split <;> simp_all <;> omega
def helpL (v : List UInt8) : List UInt8 := escL 10 [92, 110] (escL 92 [92, 92] v)
def oquoteL (v : List UInt8) : List UInt8 := escL 34 [92, 34] (helpL v)
theorem helpL_len (v : List UInt8) : (helpL v).length ≤ 4 * v.length := by
  have h1 := escL_len 92 (new := [92, 92]) rfl v
  have h2 := escL_len 10 (new := [92, 110]) rfl (escL 92 [92, 92] v)
  unfold helpL; omega
theorem oquoteL_len (v : List UInt8) : (oquoteL v).length ≤ 8 * v.length := by
  have h1 := helpL_len v
  have h2 := escL_len 34 (new := [92, 34]) rfl (helpL v)
  unfold oquoteL; omega
/-- bytealg.MaxLen's cell. -/
def MxAt (w : World) (m : Int) : Prop := w.cell? ⟨0, 0, none⟩ = some (.int .i64 m)
theorem MxAt.below {w w' : World} {m : Int} (h : MxAt w m) (k : Below w.heap.size w w') : MxAt w' m := (k.cell (p := ⟨0, 0, none⟩) (block_lt_of_cell h)).trans h
theorem MxAt.aw {S : List Nat} {w w' : World} {m : Int} (h : MxAt w m) (k : Aw S w w') (h0 : 0 ∉ S) : MxAt w' m := (World.cell?_of_block (w := w) (k.block 0 (block_lt_of_cell h) h0)).trans h
theorem repl_any (c : UInt8) (new : List UInt8) (hnew : new.length = 2) (s : ByteArray) (m : Int) (w : World) (hs : s.size ≤ 4194304) (hm : MxAt w m) :
    Calls Tryd.prog 26 #[.string s, .string ⟨#[c]⟩, .string (mkS new)] w fun e w' => e = .returned (.string (mkS (escL c new s.data.toList))) ∧ Below w.heap.size w w' := by
  have hne : ([c] == new) = false := by
    rw [beq_eq_false_iff_ne]; intro e; rw [← e] at hnew; simp at hnew
  have hc := Lib.countB_le (⟨#[c]⟩ : ByteArray) (Nat.le_refl 1) s.size s (Nat.le_refl _)
  have hns : (mkS new).size = 2 := hnew
  have hsz : s.size + Lib.countB s ⟨#[c]⟩ * (mkS new).size ≤ 140737488355328 := by
    rw [hns]; omega
  refine (Tryd.strings_ReplaceAll s ⟨#[c]⟩ (mkS new) m w (by omega) hm (Nat.le_refl 1) hsz).mono ?_
  rintro e w' ⟨rfl, hb⟩
  refine ⟨?_, hb⟩
  rw [← replaceAll_one c new _ hne]
  rfl
set_option maxRecDepth 100000 in
set_option maxHeartbeats 1600000 in
theorem help_any (s : ByteArray) (m : Int) (w : World) (hs : s.size ≤ 1048576) (hm : MxAt w m) :
    Calls Tryd.prog 15 #[.string s] w fun e w' => e = .returned (.string (mkS (helpL s.data.toList))) ∧ Below w.heap.size w w' := by
  have k1 := repl_any 92 [92, 92] rfl s m w (by omega) hm
  have hl : (mkS (escL 92 [92, 92] s.data.toList)).size ≤ 4194304 := by
    have := escL_len 92 (new := [92, 92]) rfl s.data.toList
    have hL : s.data.toList.length = s.size := by simp
    show (escL 92 [92, 92] s.data.toList).length ≤ _
    omega
  have k2 := fun W hm => repl_any 10 [92, 110] rfl (mkS (escL 92 [92, 92] s.data.toList)) m W hl hm
  unfold helpL
  have e1 : (mkS (escL 92 [92, 92] s.data.toList)).data.toList = escL 92 [92, 92] s.data.toList := by simp [mkS]
  rw [e1] at k2
  generalize mkS (escL 92 [92, 92] s.data.toList) = V1 at k1 k2
  generalize mkS (escL 10 [92, 110] (escL 92 [92, 92] s.data.toList)) = V2 at k2 ⊢
  go_enter Tryd.func15, Tryd.ntmps15
  go_wp2_with (first
    | (go_at_call 26; refine k1.mono ?_; rintro e w1 ⟨rfl, hb1⟩)
    | (go_at_call 26; refine (k2 _ (hm.below hb1)).mono ?_; rintro e w2 ⟨rfl, hb2⟩))
  go_ret
  exact ⟨rfl, bl_any hb1 hb2⟩
set_option maxRecDepth 100000 in
set_option maxHeartbeats 1600000 in
theorem oquote_any (s : ByteArray) (m : Int) (w : World) (hs : s.size ≤ 1048576) (hm : MxAt w m) :
    Calls Tryd.prog 13 #[.string s] w fun e w' => e = .returned (.string (mkS (oquoteL s.data.toList))) ∧ Below w.heap.size w w' := by
  have k1 := help_any s m w hs hm
  have hl : (mkS (helpL s.data.toList)).size ≤ 4194304 := by
    have := helpL_len s.data.toList
    have hL : s.data.toList.length = s.size := by simp
    show (helpL s.data.toList).length ≤ _
    omega
  have k2 := fun W hm => repl_any 34 [92, 34] rfl (mkS (helpL s.data.toList)) m W hl hm
  unfold oquoteL
  have e1 : (mkS (helpL s.data.toList)).data.toList = helpL s.data.toList := by simp [mkS]
  rw [e1] at k2
  generalize mkS (helpL s.data.toList) = V1 at k1 k2
  generalize mkS (escL 34 [92, 34] (helpL s.data.toList)) = V2 at k2 ⊢
  go_enter Tryd.func13, Tryd.ntmps13
  go_wp2_with (first
    | (go_at_call 15; refine k1.mono ?_; rintro e w1 ⟨rfl, hb1⟩)
    | (go_at_call 26; refine (k2 _ (hm.below hb1)).mono ?_; rintro e w2 ⟨rfl, hb2⟩))
  go_ret
  exact ⟨rfl, bl_any hb1 hb2⟩
end Go.Proofs.YtdngieihlcknmaaDoor
