/- The walk of the counting format's reference: the rows. -/
import Derived.Test.YtpknjngjkdnpiaaGreatDoorRf26b
import Derived.Deep.DrawnRows
namespace Go.Proofs.YtpknjngjkdnpiaaGreatDoor
set_option linter.unusedVariables false
set_option linter.unusedSimpArgs false
open Go.RowKit
attribute [local go_sem ↓] Go.wp_at_zero Go.wp_at_succ
structure RQ (w0 w : World) (g : Nat) (ov : Value) (s : ByteArray) (a : Nat) (no : Bool) (acc : List VRow) : Prop where
  sr : Sr w g s a no
  own : w.ownsRow w0.heap.size 74 10 ov acc.length (acc.flatMap rowCell)
  all : ∀ x, x ∈ acc → OwnV w w0.heap.size x
  bl : Below w0.heap.size w0 w
  gl : w0.heap.size ≤ g
theorem RQ.call {w0 w w' : World} {g : Nat} {ov : Value} {s : ByteArray} {a a' : Nat} {no no' : Bool} {acc : List VRow} (h : RQ w0 w g ov s a no acc) (hs : Sr w' g s a' no') (k : Aw [g] w w') : RQ w0 w' g ov s a' no' acc := by
  refine ⟨hs, own_aw h.own k (fun i hi e => ?_), fun x hx => (h.all x hx).aw k (fun i hi => ?_), h.bl.trans (k.bel_of (fun i hi => by rw [List.mem_singleton.1 hi]; exact h.gl) h.bl.size), h.gl⟩
  · rw [List.mem_singleton.1 e] at hi; exact own_blk_ne h.own h.sr (by decide) hi
  · rw [List.mem_singleton.1 hi]; exact ⟨fun n v xs q => own_blk_ne q h.sr (by decide), fun n v xs q => own_blk_ne q h.sr (by decide)⟩
theorem RQ.away {w0 w w' : World} {g : Nat} {ov : Value} {s : ByteArray} {a : Nat} {no : Bool} {acc : List VRow} (h : RQ w0 w g ov s a no acc) (k : Aw [] w w') : RQ w0 w' g ov s a no acc :=
  ⟨h.sr.aw k (by simp), own_aw h.own k (fun i hi e => by simp at e), fun x hx => (h.all x hx).aw k (fun i hi => by simp at hi), h.bl.trans (k.bel_of (fun i hi => by simp at hi) h.bl.size), h.gl⟩
theorem RQ.app {w0 w w' : World} {g : Nat} {ov ov' : Value} {s : ByteArray} {a : Nat} {no : Bool} {acc : List VRow} {x : VRow} (h : RQ w0 w g ov s a no acc) (k : Aw ov.ownBlock.toList w w') (hx : OwnV w w0.heap.size x) (ho : w'.ownsRow w0.heap.size 74 10 ov' (acc.length + 1) (acc.flatMap rowCell ++ rowCell x)) : RQ w0 w' g ov' s a no (acc ++ [x]) := by
  have hS : ∀ i, i ∈ ov.ownBlock.toList → (∀ n v xs, w.ownsRow w0.heap.size 78 4 v n xs → v.ownBlock ≠ some i) ∧ (∀ n v xs, w.ownsRow w0.heap.size 80 5 v n xs → v.ownBlock ≠ some i) := fun i hi => by
    have hi : ov.ownBlock = some i := by simpa using hi
    exact ⟨fun n v xs q e => own_own_ne q h.own (by decide) i e hi, fun n v xs q e => own_own_ne q h.own (by decide) i e hi⟩
  refine ⟨h.sr.aw k (fun e => own_blk_ne h.own h.sr (by decide) (by simpa using e)), by simpa using ho, fun y hy => ?_, h.bl.trans (k.bel_of (fun i hi => (h.own.lt i (by simpa using hi)).1) h.bl.size), h.gl⟩
  rcases List.mem_append.1 hy with hy | hy
  · exact (h.all y hy).aw k hS
  · rw [List.mem_singleton.1 hy]; exact hx.aw k hS
theorem RQ.has {w0 w : World} {g : Nat} {ov : Value} {s : ByteArray} {a : Nat} {no : Bool} {acc : List VRow} (h : RQ w0 w g ov s a no acc) : ∃ A c, ov = .slice A acc.length c ∧ HasRows w w.heap.size A acc.length (acc.map VRow.row) := by
  obtain ⟨A, c, rfl⟩ := own_form h.own
  exact ⟨A, c, rfl, acc, rfl, own_rows2 (f := rowCell) (fun _ => rfl) h.own rfl, fun x hx => ⟨own_rows2 (f := tagCell) (fun _ => rfl) (h.all x hx).1 rfl, own_rows2 (f := fieldCell) (fun _ => rfl) (h.all x hx).2 rfl⟩⟩
/-- What the reference's Rows tells. -/
def RowsE2 (R : List MRow × Nat × Bool) (e : Ending) (w' : World) : Prop := ∃ A n c, e = .returned (.tuple #[.slice A n c, .int .i64 (if R.2.2 then (R.2.1 : Int) else -1)]) ∧ HasRows w' w'.heap.size A n (if R.2.2 then [] else R.1)
theorem rowsE2_no {R : List MRow × Nat × Bool} {a : Nat} {w' : World} (h : R.2 = (a, true)) : RowsE2 R (.returned (.tuple #[.slice none 0 0, .int .i64 (a : Int)])) w' := by
  obtain ⟨R1, R2⟩ := R
  simp only at h; subst h
  exact ⟨_, _, _, rfl, HasRows.nil_⟩
theorem rowsE2_yes {R : List MRow × Nat × Bool} {a : Nat} {L : List MRow} {w' : World} {A : Option Addr} {n c : Nat} (h : R = (L, a, false)) (hr : HasRows w' w'.heap.size A n L) : RowsE2 R (.returned (.tuple #[.slice A n c, .int .i64 (-1)])) w' := by
  subst h
  exact ⟨_, _, _, rfl, hr⟩
set_option maxRecDepth 100000 in
set_option maxHeartbeats 3200000 in
theorem rows26r_any (s : ByteArray) (w : World) (hs : s.size ≤ 1048576) :
    Calls Tryz.prog 11 #[.string s] w fun e w' => RowsE2 (statRows s.data.toList) e w' ∧ Below w.heap.size w w' := by
  have HL : Hid (s.data.toList.length = s.size) := Lib.hid (by simp)
  have H0 : Hid (rowsGo statLineS s.data.toList (s.data.toList.length + 1) 0 [] = statRows s.data.toList) := Lib.hid rfl
  generalize statRows s.data.toList = R at H0 ⊢
  obtain ⟨i2, hi2, jz0, jz1, jz2⟩ := info_parts Tryz.infoRow
  have RQ0 : RQ w (w.alloc (.cells #[.string s, .int .i64 0, .bool false] 70)) w.heap.size (.slice none 0 0) s 0 false [] :=
    ⟨Blk.new w _ _, World.ownsRow_nil _ _ _ _, by simp, (Below.refl _ _).alloc (Nat.le_refl _) _, Nat.le_refl _⟩
  go_enter Tryz.func11, Tryz.ntmps11
  go_wp2_with fail
  go_loopw [5] (fun ov wr => ∃ (a f : Nat) (acc : List VRow), a ≤ s.size ∧ s.size < f + a ∧ acc.length ≤ a ∧ RQ w wr w.heap.size ov s a false acc ∧ Hid (rowsGo statLineS s.data.toList f a (acc.map VRow.row) = R)) (fun _ wr => s.size - atOf wr w.heap.size)
  case atStart => exact ⟨0, _, [], by omega, by (have := HL.out; omega), by simp, RQ0, H0⟩
  case round =>
    clear RQ0 H0
    obtain ⟨a, f, acc, ha, hf, hacc, hX, HI⟩ := hrel
    obtain ⟨f, rfl⟩ : ∃ f', f = f' + 1 := ⟨f - 1, by omega⟩
    have hat := hX.sr.atOf
    obtain ⟨⟨c0, c1, c2⟩, f1, f2⟩ := hX.sr.facts
    have hI := HI.out
    unfold rowsGo at hI
    by_cases hlt : a < s.size
    case neg =>
      have hd : decide ((a : Int) < s.size) = false := decide_eq_false (by omega)
      rw [if_pos (by rw [HL.out]; omega)] at hI
      have HI2 := Lib.hid hI.symm
      clear hI HI
      obtain ⟨A, c, rfl, hrows⟩ := hX.has
      go_wp2_with fail
      go_ret2
      exact ⟨rowsE2_yes HI2.out hrows, hX.bl⟩
    case pos =>
      have hd : decide ((a : Int) < s.size) = true := decide_eq_true (by omega)
      rw [if_neg (by rw [HL.out]; omega)] at hI
      obtain ⟨M, p, np, hM⟩ : ∃ M p np, statLineS s.data.toList a = (M, p, np) := ⟨_, _, _, rfl⟩
      have hle := statLineS_le (l := s.data.toList) (a := a) (by rw [HL.out]; omega)
      have hlt2 := statLine_lt (l := s.data.toList) (a := a) (by rw [HL.out]; omega)
      rw [hM] at hI hle hlt2
      rw [HL.out] at hle
      simp only at hI hle hlt2
      have kL := fun W h => line26_any w.heap.size s a M p np W h (by omega) hs hM
      have HI2 := Lib.hid hI
      clear hI hM HI
      have hut : Tryz.prog.underlying 23 = some (.slice 74) := by kernel_rfl
      go_upto_region 5 with (go_at_call 24; refine (kL _ hX.sr).mono ?_; rintro e w4 ⟨v, rfl, ⟨x, rfl, hox, hxr⟩, h4, hA4⟩; have L4 := hX.call h4 hA4)
      have HXR := Lib.hid hxr
      have hox2 : OwnV w4 w.heap.size x := ⟨own_more hox.1 hX.bl.size, own_more hox.2 hX.bl.size⟩
      have L5 := L4.away ((Aw.refl _ _).alloc (.cells #[.int .i64 (x.row.kind : Int), .string x.row.name, .int .i64 (x.row.off : Int), .slice x.tA x.row.tags.length x.tc, .slice x.fA x.row.fields.length x.fc, .string x.row.text, .int .i64 (x.row.pos : Int), .bool x.row.timed, .string x.row.time, .int .i64 (x.row.when_ : Int)] 74))
      have hox3 : OwnV (w4.alloc (.cells #[.int .i64 (x.row.kind : Int), .string x.row.name, .int .i64 (x.row.off : Int), .slice x.tA x.row.tags.length x.tc, .slice x.fA x.row.fields.length x.fc, .string x.row.text, .int .i64 (x.row.pos : Int), .bool x.row.timed, .string x.row.time, .int .i64 (x.row.when_ : Int)] 74)) w.heap.size x := hox2.aw (S := []) ((Aw.refl _ _).alloc _) (fun i hi => by simp at hi)
      clear hxr hox hox2 kL L4 h4 hA4
      have hB := Blk.new w4 74 #[.int .i64 (x.row.kind : Int), .string x.row.name, .int .i64 (x.row.off : Int), .slice x.tA x.row.tags.length x.tc, .slice x.fA x.row.fields.length x.fc, .string x.row.text, .int .i64 (x.row.pos : Int), .bool x.row.timed, .string x.row.time, .int .i64 (x.row.when_ : Int)]
      generalize hW5 : w4.alloc _ = W5 at L5 hox3 hB ⊢
      clear hW5
      obtain ⟨⟨d0, d1, d2⟩, g1, g2⟩ := L5.sr.facts
      have q0 := (Blk.cell hB 0).trans rfl
      have q1 := (Blk.cell hB 1).trans rfl
      have q2 := (Blk.cell hB 2).trans rfl
      have q3 := (Blk.cell hB 3).trans rfl
      have q4 := (Blk.cell hB 4).trans rfl
      have q5 := (Blk.cell hB 5).trans rfl
      have q6 := (Blk.cell hB 6).trans rfl
      have q7 := (Blk.cell hB 7).trans rfl
      have q8 := (Blk.cell hB 8).trans rfl
      have q9 := (Blk.cell hB 9).trans rfl
      cases np
      case true =>
        simp only [if_true] at HI2
        have hR : R.2 = (p, true) := by rw [← HI2.out]
        have HR := Lib.hid hR
        clear HI2 hR q0 q1 q2 q3 q4 q5 q6 q7 q8 q9
        go_wp2_with fail
        go_quiet (fail)
        go_wp2_with fail
        go_ret2
        exact ⟨rowsE2_no HR.out, bl_drewN L5.bl _⟩
      case false =>
        have HI3 : Hid (rowsGo statLineS s.data.toList f p ((acc ++ [x]).map VRow.row) = R) := Lib.hid (by
          rw [List.map_append, List.map_cons, List.map_nil, HXR.out rfl, ← HI2.out]; simp)
        have hlt2 := hlt2 rfl
        clear HI2 HXR
        go_wp2_with (at_builtin; go_loud (refine wpList_append_lies _ (by rfl) _ _ _ (by rfl) w.heap.size 74 i2 _ 10 136 hut hi2 jz0 jz1 jz2 rfl (by omega) u5 acc.length (acc.flatMap rowCell) (by rfl) (own_aw L5.own (S := []) ((Aw.refl _ _).alloc _) (fun i hi e => by simp at e)) ⟨W5.heap.size, 0, none⟩ 1 1 (rowCell x) (by rfl) (by rfl) (World.news_of_block (heap_alloc_new W5 _)) (by simp [rowCell, Value.oneCell']) (by omega) (by simp [maxLen]; omega) (by omega) (by have := L5.bl.size; simp; omega) (W5.heap.size + 1) (by simp) ?_); intro gg capg w9 hown9 hgrow hat9 hlt9; have L10 := L5.app (((Aw.refl _ _).alloc _).grown hgrow (fun k hk => .inl (by simp [hk]))) hox3 hown9)
        exact ⟨⟨p, f, acc ++ [x], hle.2, by omega, by simp; omega, L10, HI3⟩, by rw [L10.sr.atOf, hat]; omega⟩
end Go.Proofs.YtpknjngjkdnpiaaGreatDoor
