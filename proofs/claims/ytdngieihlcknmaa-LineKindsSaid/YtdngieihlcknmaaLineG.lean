/- The walks of package lineword: a text: Bad, Rows. -/
import Derived.Test.YtdngieihlcknmaaLineF
namespace Go.Proofs.Ytdngieihlcknmaa
set_option linter.unusedVariables false
set_option linter.unusedSimpArgs false
open Go.RowKit
attribute [local go_sem ↓] Go.wp_at_zero Go.wp_at_succ
theorem lineS_lt {l : List UInt8} {a : Nat} (ha : a < l.length) (h : (lineS l a).2.2 = false) : a < (lineS l a).2.1 := by
  have := v_line (l := l) ha
  rw [h, if_neg (by simp)] at this
  exact this.1
theorem OwnV.aw {S : List Nat} {w w' : World} {base : Nat} {x : VRow} (h : OwnV w base x) (k : Aw S w w') (hS : ∀ i, i ∈ S → (∀ n v xs, w.ownsRow base 46 4 v n xs → v.ownBlock ≠ some i) ∧ (∀ n v xs, w.ownsRow base 48 5 v n xs → v.ownBlock ≠ some i)) : OwnV w' base x :=
  ⟨own_aw h.1 k (fun i hi e => (hS i e).1 _ _ _ h.1 hi), own_aw h.2 k (fun i hi e => (hS i e).2 _ _ _ h.2 hi)⟩
/-- The loop over lines: how far, what was read. -/
def ReadR (l : List UInt8) (f a : Nat) (no : Bool) (acc : List MRow) (R : List MRow × Nat × Bool) : Prop :=
  (no = false ∧ l.length < f + a ∧ rowsGo lineS l f a acc = R) ∨ (no = true ∧ R.2 = (a, true))
structure RX (w0 w : World) (r g : Nat) (rv : Value) (s : ByteArray) (a : Nat) (no : Bool) (acc : List VRow) : Prop where
  rd : Rd w r g rv
  sc : Sc w g s a no
  own : w.ownsRow w0.heap.size 44 10 rv acc.length (acc.flatMap rowCell)
  all : ∀ x, x ∈ acc → OwnV w w0.heap.size x
  bl : Below w0.heap.size w0 w
  rg : r ≠ g
  rl : w0.heap.size ≤ r
  gl : w0.heap.size ≤ g
theorem RX.line {w0 w w' : World} {r g : Nat} {rv rv' : Value} {s : ByteArray} {a a' : Nat} {no no' : Bool} {acc : List VRow} {x : VRow} (h : RX w0 w r g rv s a no acc) (h1 : Rd w' r g rv') (h2 : Sc w' g s a' no') (h3 : w'.ownsRow w0.heap.size 44 10 rv' (acc.length + 1) (acc.flatMap rowCell ++ rowCell x)) (h4 : OwnV w' w0.heap.size x) (h5 : Aw (g :: r :: rv.ownBlock.toList) w w') : RX w0 w' r g rv' s a' no' (acc ++ [x]) := by
  refine ⟨h1, h2, by simpa using h3, fun y hy => ?_, h.bl.trans (h5.bel_of (fun i hi => ?_) h.bl.size), h.rg, h.rl, h.gl⟩
  · rcases List.mem_append.1 hy with hy | hy
    · refine (h.all y hy).aw h5 (fun i hi => ?_)
      simp only [List.mem_cons] at hi
      rcases hi with rfl | rfl | hi
      · exact ⟨fun n v xs k => own_blk_ne k h.sc (by decide), fun n v xs k => own_blk_ne k h.sc (by decide)⟩
      · exact ⟨fun n v xs k => own_blk_ne k h.rd (by decide), fun n v xs k => own_blk_ne k h.rd (by decide)⟩
      · have hi : rv.ownBlock = some i := by simpa using hi
        exact ⟨fun n v xs k e => own_own_ne k h.own (by decide) i e hi, fun n v xs k e => own_own_ne k h.own (by decide) i e hi⟩
    · rw [List.mem_singleton.1 hy]; exact h4
  · simp only [List.mem_cons] at hi
    rcases hi with rfl | rfl | hi
    · exact h.gl
    · exact h.rl
    · exact (h.own.lt i (by simpa using hi)).1
theorem RX.scan {w0 w w' : World} {S : List Nat} {r g : Nat} {rv : Value} {s : ByteArray} {a a' : Nat} {no no' : Bool} {acc : List VRow} (h : RX w0 w r g rv s a no acc) (k : Aw S w w') (hs : Sc w' g s a' no') (hS : ∀ i, i ∈ S → i = g) : RX w0 w' r g rv s a' no' acc := by
  refine ⟨Blk.aw h.rd k (fun e => h.rg (hS _ e)), hs, own_aw h.own k (fun i hi e => ?_), fun x hx => (h.all x hx).aw k (fun i hi => ?_), h.bl.trans (k.bel_of (fun i hi => by rw [hS i hi]; exact h.gl) h.bl.size), h.rg, h.rl, h.gl⟩
  · rw [hS i e] at hi; exact own_blk_ne h.own h.sc (by decide) hi
  · rw [hS i hi]; exact ⟨fun n v xs q => own_blk_ne q h.sc (by decide), fun n v xs q => own_blk_ne q h.sc (by decide)⟩
theorem RX.lr {w0 w : World} {r g : Nat} {rv : Value} {s : ByteArray} {a : Nat} {no : Bool} {acc : List VRow} (h : RX w0 w r g rv s a no acc) : LR w w r g rv s a no := ⟨h.rd, h.sc, h.rg, Aw.refl _ _⟩
set_option maxRecDepth 100000 in
set_option maxHeartbeats 3200000 in
theorem read_any (s : ByteArray) (w : World) (hs : s.size ≤ 1048576) :
    Calls Try.prog 22 #[.string s] w fun e w' => ∃ r g rv a no acc, e = .returned (.pointer (some ⟨r, 0, none⟩)) ∧ RX w w' r g rv s a no acc ∧ (lineRows s.data.toList).2 = (a, no) ∧ (no = false → (lineRows s.data.toList).1 = acc.map VRow.row) := by
  have HL : Hid (s.data.toList.length = s.size) := Lib.hid (by simp)
  have H0 : Hid (ReadR s.data.toList (s.data.toList.length + 1) 0 false [] (lineRows s.data.toList)) := Lib.hid (.inl ⟨rfl, by omega, rfl⟩)
  generalize lineRows s.data.toList = R at H0 ⊢
  have kN := new_any s w
  go_enter Try.func22, Try.ntmps22
  go_wp2_with (go_at_call 35; refine kN.mono ?_; rintro e w1 ⟨rfl, h1, hb1, hlt1⟩)
  have hbz := hb1.size
  have RX0 : RX w (w1.alloc (.cells #[.pointer (some ⟨w.heap.size, 0, none⟩), .slice none 0 0] 59)) w1.heap.size w.heap.size (.slice none 0 0) s 0 false [] :=
    ⟨Blk.new w1 _ _, h1.alloc _, World.ownsRow_nil _ _ _ _, by simp, hb1.alloc (by omega) _, by omega, by omega, Nat.le_refl _⟩
  go_loopw [8] (fun _ wr => ∃ (a f : Nat) (no : Bool) (acc : List VRow) (rv : Value), a ≤ s.size ∧ acc.length ≤ a + 1 ∧ (no = false → acc.length ≤ a) ∧ RX w wr w1.heap.size w.heap.size rv s a no acc ∧ Hid (ReadR s.data.toList f a no (acc.map VRow.row) R)) (fun _ wr => mOf wr w.heap.size s)
  case atStart => exact ⟨0, _, false, [], _, by omega, by simp, by simp, RX0, H0⟩
  case round =>
    clear RX0 h1 H0 kN
    obtain ⟨a, f, no, acc, rv, ha, hacc, hacc2, hX, HI⟩ := hrel
    have hm0 := hX.sc.mOf
    have kS := fun W h => stopped_any w.heap.size s a no W h
    obtain ⟨x0, x1, x2⟩ := hX.rd.facts
    cases no
    case true =>
      have hR : R.2 = (a, true) := by
        rcases HI.out with ⟨h1, _⟩ | ⟨_, h2⟩
        · cases h1
        · exact h2
      clear HI
      go_wp2_with (go_at_call 23; refine (kS _ hX.sc).mono ?_; rintro e w2 ⟨rfl, rfl⟩)
      go_ret
      exact ⟨_, _, rv, a, true, acc, rfl, hX, hR, by simp⟩
    case false =>
    have hacc3 : acc.length ≤ a := hacc2 rfl
    clear hacc2
    obtain ⟨hf, hI⟩ : s.data.toList.length < f + a ∧ rowsGo lineS s.data.toList f a (acc.map VRow.row) = R := by
      rcases HI.out with ⟨_, h2, h3⟩ | ⟨h1, _⟩
      · exact ⟨h2, h3⟩
      · cases h1
    rw [HL.out] at hf
    obtain ⟨f, rfl⟩ : ∃ f', f = f' + 1 := ⟨f - 1, by omega⟩
    clear HI
    unfold rowsGo at hI
    have kE := fun W h => end_any w.heap.size s a false W h
    by_cases hlt : a < s.size
    case neg =>
      have he : (a == s.size) = true := by rw [beq_iff_eq]; omega
      rw [if_pos (by rw [HL.out]; omega)] at hI
      have hR : R.2 = (a, false) := by rw [← hI]
      have hR1 : R.1 = acc.map VRow.row := by rw [← hI]
      clear hI
      rw [he] at kE
      go_wp2_with (first
        | (go_at_call 23; refine (kS _ hX.sc).mono ?_; rintro e w2 ⟨rfl, rfl⟩)
        | (go_at_call 36; refine (kE _ hX.sc).mono ?_; rintro e w3 ⟨rfl, h3, hA3⟩))
      go_ret
      exact ⟨_, _, rv, a, false, acc, rfl, hX.scan hA3 h3 (by simp), hR, fun _ => hR1⟩
    case pos =>
      have he : (a == s.size) = false := by rw [beq_eq_false_iff_ne]; omega
      rw [he] at kE
      rw [if_neg (by rw [HL.out]; omega)] at hI
      obtain ⟨M, p, np, hM⟩ : ∃ M p np, lineS s.data.toList a = (M, p, np) := ⟨_, _, _, rfl⟩
      have hle := lineS_le (l := s.data.toList) (a := a) (by rw [HL.out]; omega)
      have hlt2 := lineS_lt (l := s.data.toList) (a := a) (by rw [HL.out]; omega)
      rw [hM] at hI hle hlt2
      rw [HL.out] at hle
      simp only at hI hle hlt2
      have kL := fun W rv hl ho hb => line_any w1.heap.size w.heap.size rv s a M p np w.heap.size acc.length (acc.flatMap rowCell) W hl ho hb (by omega) hlt hs hM
      have HI2 : ∀ x : VRow, x.row = M → Hid (ReadR s.data.toList f p np ((acc ++ [x]).map VRow.row) R) := fun x hx => Lib.hid (by
        cases np
        · left
          refine ⟨rfl, by have := hlt2 rfl; rw [HL.out]; omega, ?_⟩
          rw [List.map_append, ← hI]; simp [hx]
        · right
          refine ⟨rfl, ?_⟩
          rw [← hI]; simp)
      clear hI hM
      go_wp2_with (first
        | (go_at_call 23; refine (kS _ hX.sc).mono ?_; rintro e w2 ⟨rfl, rfl⟩)
        | (go_at_call 36; refine (kE _ hX.sc).mono ?_; rintro e w3 ⟨rfl, h3, hA3⟩; have h4 := hX.scan hA3 h3 (by simp))
        | (go_at_call 37; refine (kL _ _ h4.lr h4.own h4.bl.size).mono ?_; rintro e w5 ⟨rfl, rv', x, hx, k1, k2, k3, k4, k5⟩; have h6 := h4.line k1 k2 k3 k4 k5))
      refine ⟨⟨p, f, np, acc ++ [x], rv', hle.2, by simp; omega, fun h => by have := hlt2 h; simp; omega, h6, HI2 x hx⟩, ?_⟩
      rw [h6.sc.mOf, hm0]
      cases np
      · have := hlt2 rfl; simp; omega
      · simp; omega
/-- Rows that a call tells, with their tags, their fields. -/
def HasRows (w : World) (B : Nat) (A : Option Addr) (n : Nat) (rows : List MRow) : Prop :=
  ∃ l : List VRow, l.map VRow.row = rows ∧ IsRows rowCell 10 w B A n l ∧ ∀ x ∈ l, IsRows tagCell 4 w B x.tA x.row.tags.length x.row.tags ∧ IsRows fieldCell 5 w B x.fA x.row.fields.length x.row.fields
theorem HasRows.nil_ {w : World} {B : Nat} {A : Option Addr} : HasRows w B A 0 [] := ⟨[], rfl, IsRows.nil_, by simp⟩
theorem HasRows.below {w w' : World} {B : Nat} {A : Option Addr} {n : Nat} {rows : List MRow} (h : HasRows w B A n rows) (k : Below B w w') : HasRows w' B A n rows := by
  obtain ⟨l, h1, h2, h3⟩ := h
  exact ⟨l, h1, h2.below k, fun x hx => ⟨(h3 x hx).1.below k, (h3 x hx).2.below k⟩⟩
theorem HasRows.more {w : World} {B B' : Nat} {A : Option Addr} {n : Nat} {rows : List MRow} (h : HasRows w B A n rows) (k : B ≤ B') : HasRows w B' A n rows := by
  obtain ⟨l, h1, h2, h3⟩ := h
  exact ⟨l, h1, h2.more k, fun x hx => ⟨(h3 x hx).1.more k, (h3 x hx).2.more k⟩⟩
theorem own_rows2 {α : Type} {f : α → List Value} {size : Nat} (hf : ∀ x, (f x).length = size) {w : World} {base : Nat} {e : TypeId} {A : Option Addr} {c n : Nat} {l : List α} (h : w.ownsRow base e size (.slice A n c) n (l.flatMap f)) (hn : l.length = n) : IsRows f size w w.heap.size A n l := by
  obtain ⟨hl, ⟨hv, rfl⟩ | ⟨g, cap, cur, hv, hg, hh, hnc, hcm, hcs, htk⟩⟩ := h
  · exact ⟨hn, fun h => absurd h (by omega)⟩
  · injection hv with hA _ _
    subst hA
    refine ⟨hn, fun _ => ⟨g, 0, rfl, ?_, fun i x j u hx hu => ?_⟩⟩
    · rcases Nat.lt_or_ge g w.heap.size with h' | h'
      · exact h'
      · rw [Array.getElem?_eq_none (by omega)] at hh; cases hh
    · have h1 := flatMap_at f size hf l i x j u hx hu
      rw [← htk] at h1
      rw [cell_of_row w g (0 + (i * size + j)) cur e (0, 0) hh, Nat.zero_add, ← Array.getElem?_toList]
      rw [List.getElem?_take] at h1
      split at h1
      · exact h1
      · cases h1
theorem RX.has {w0 w : World} {r g : Nat} {rv : Value} {s : ByteArray} {a : Nat} {no : Bool} {acc : List VRow} (h : RX w0 w r g rv s a no acc) : ∃ A c, rv = .slice A acc.length c ∧ HasRows w w.heap.size A acc.length (acc.map VRow.row) := by
  obtain ⟨A, c, rfl⟩ := own_form h.own
  exact ⟨A, c, rfl, acc, rfl, own_rows2 (f := rowCell) (fun _ => rfl) h.own rfl, fun x hx => ⟨own_rows2 (f := tagCell) (fun _ => rfl) (h.all x hx).1 rfl, own_rows2 (f := fieldCell) (fun _ => rfl) (h.all x hx).2 rfl⟩⟩
set_option maxHeartbeats 1600000 in
theorem bad_any' (s : ByteArray) (w : World) (hs : s.size ≤ 1048576) :
    Calls Try.prog 11 #[.string s] w fun e w' => e = .returned (.int .i64 (lineBad s.data.toList)) ∧ Below w.heap.size w w' := by
  have kR := read_any s w hs
  unfold lineBad
  generalize lineRows s.data.toList = R at kR ⊢
  obtain ⟨R1, Ra, Rn⟩ := R
  go_enter Try.func11, Try.ntmps11
  go_upto_region 2 with (go_at_call 22; refine kR.mono ?_; rintro e w1 ⟨r, g, rv, a, no, acc, rfl, h1, hR, hR2⟩; obtain ⟨rfl, rfl⟩ : Ra = a ∧ Rn = no := (by injection hR with e1 e2; exact ⟨e1, e2⟩); obtain ⟨x0, x1, x2⟩ := h1.rd.facts; have kS := stopped_any g s Ra Rn w1 h1.sc; have kA := at_any g s Ra Rn w1 h1.sc)
  clear kR
  cases Rn
  all_goals
    go_wp2_with (first
      | (go_at_call 23; refine kS.mono ?_; rintro e w2 ⟨rfl, rfl⟩)
      | (go_at_call 25; refine kA.mono ?_; rintro e w3 ⟨rfl, rfl⟩))
    go_ret
    exact ⟨rfl, h1.bl⟩
/-- What Rows tells. -/
def RowsE (R : List MRow × Nat × Bool) (e : Ending) (w' : World) : Prop := ∃ A n c, e = .returned (.tuple #[.slice A n c, .bool (!R.2.2)]) ∧ HasRows w' w'.heap.size A n (if R.2.2 then [] else R.1)
theorem rowsE_no {R : List MRow} {a : Nat} {w' : World} : RowsE (R, a, true) (.returned (.tuple #[.slice none 0 0, .bool false])) w' := ⟨_, _, _, rfl, HasRows.nil_⟩
theorem rowsE_yes {R : List MRow} {a : Nat} {w' : World} {A : Option Addr} {n c : Nat} (h : HasRows w' w'.heap.size A n R) : RowsE (R, a, false) (.returned (.tuple #[.slice A n c, .bool true])) w' := ⟨_, _, _, rfl, h⟩
set_option maxHeartbeats 1600000 in
theorem rows_any (s : ByteArray) (w : World) (hs : s.size ≤ 1048576) :
    Calls Try.prog 9 #[.string s] w fun e w' => RowsE (lineRows s.data.toList) e w' ∧ Below w.heap.size w w' := by
  have kR := read_any s w hs
  generalize lineRows s.data.toList = R at kR ⊢
  obtain ⟨R1, Ra, Rn⟩ := R
  go_enter Try.func9, Try.ntmps9
  go_upto_region 2 with (go_at_call 22; refine kR.mono ?_; rintro e w1 ⟨r, g, rv, a, no, acc, rfl, h1, hR, hR2⟩; obtain ⟨rfl, rfl⟩ : Ra = a ∧ Rn = no := (by injection hR with e1 e2; exact ⟨e1, e2⟩); obtain ⟨x0, x1, x2⟩ := h1.rd.facts; have kS := stopped_any g s Ra Rn w1 h1.sc; obtain ⟨A, c, rfl, hrows⟩ := h1.has)
  clear kR
  cases Rn
  · have hR1 : R1 = acc.map VRow.row := hR2 rfl
    rw [← hR1] at hrows
    clear hR2 hR1
    go_wp2_with (go_at_call 23; refine kS.mono ?_; rintro e w2 ⟨rfl, rfl⟩)
    go_ret2
    exact ⟨rowsE_yes hrows, h1.bl⟩
  · go_wp2_with (go_at_call 23; refine kS.mono ?_; rintro e w2 ⟨rfl, rfl⟩)
    go_ret2
    exact ⟨rowsE_no, h1.bl⟩
end Go.Proofs.Ytdngieihlcknmaa
