/- The counting format: a line cut out of a text is read as it stands there (no program in sight). -/
import Derived.Test.YtpknjngjkdnpiaaGreatDoorMgB
import Derived.Test.YtpknjngjkdnpiaaGreatDoorStatDfa
namespace Go.Proofs.YtpknjngjkdnpiaaGreatDoor
set_option linter.unusedVariables false
set_option linter.unusedSimpArgs false
open Go.RowKit
/-- A piece of a text, with a line feed at its end. -/
structure Cu (l c : List UInt8) (p : Nat) : Prop where
  eq : c = (l.drop p).take c.length
  le : p + c.length ≤ l.length
  pos : 0 < c.length
  last : bt c (c.length - 1) = 10
section
variable {l c : List UInt8} {p : Nat}
theorem Cu.bt_ (h : Cu l c p) {k : Nat} (hk : k < c.length) : bt l (p + k) = bt c k := by
  have e : c[k]? = l[p + k]? := by
    conv => lhs; rw [h.eq]
    rw [List.getElem?_take_of_lt hk, List.getElem?_drop]
  unfold bt
  rw [List.getD_eq_getElem?_getD, List.getD_eq_getElem?_getD, e]
theorem Cu.cut (h : Cu l c p) {a b : Nat} (hb : b ≤ c.length) : cutL l (p + a) (p + b) = cutL c a b := by
  unfold cutL
  conv => rhs; rw [h.eq]
  rw [List.drop_take, List.take_take, List.drop_drop]
  congr 1
  omega
theorem Cu.more (h : Cu l c p) {k : Nat} (hk : k < c.length) (hb : bt c k ≠ 10) : k + 1 < c.length := by
  rcases Nat.lt_or_ge (k + 1) c.length with h1 | h1
  · exact h1
  · have : k = c.length - 1 := by omega
    rw [this] at hb
    exact absurd h.last hb
theorem Cu.is (h : Cu l c p) {k : Nat} (hk : k < c.length) (no : Bool) (x : Int) : isB l (p + k) no x = isB c k no x := by
  have h1 : p + k < l.length := by have := h.le; omega
  unfold isB pkB
  rw [h.bt_ hk]
  simp [hk, h1]
theorem Cu.wh (h : Cu l c p) {q : Int → Bool} (hq : q 10 = false) : ∀ n a, c.length - a = n → a < c.length → whA l q (p + a) = p + whA c q a ∧ whA c q a < c.length := by
  intro n
  induction n with
  | zero => intro a h1 h2; omega
  | succ n ih =>
    intro a h1 h2
    have hl : p + a < l.length := by have := h.le; omega
    cases hb : q (bt c a)
    · rw [whA_no hl (by rw [h.bt_ h2]; exact hb), whA_no h2 hb]
      exact ⟨rfl, h2⟩
    · rw [whA_yes hl (by rw [h.bt_ h2]; exact hb), whA_yes h2 hb]
      have h3 := h.more h2 (fun e => by rw [e, hq] at hb; cases hb)
      exact ih (a + 1) (by omega) h3
theorem Cu.some_ (h : Cu l c p) {q : Int → Bool} (hq : q 10 = false) {a : Nat} {no : Bool} {b : Nat} {n : Bool} (ha : a < c.length) (e : someS c q a no = (b, n)) : someS l q (p + a) no = (p + b, n) ∧ b < c.length := by
  unfold someS at e ⊢
  cases no
  · simp only [Bool.false_eq_true, if_false] at e ⊢
    obtain ⟨k1, k2⟩ := h.wh hq _ a rfl ha
    obtain ⟨rfl, rfl⟩ : whA c q a = b ∧ (whA c q a == a) = n := by injection e with e1 e2; exact ⟨e1, e2⟩
    rw [k1]
    refine ⟨?_, k2⟩
    congr 1
    by_cases hx : whA c q a = a
    · simp [hx]
    · have h1 : (whA c q a == a) = false := by simpa using hx
      rw [h1]
      simp
      omega
  · simp only [if_true] at e ⊢
    obtain ⟨rfl, rfl⟩ : a = b ∧ true = n := by injection e with e1 e2; exact ⟨e1, e2⟩
    exact ⟨rfl, ha⟩
theorem Cu.word (h : Cu l c p) : ∀ (w : List UInt8) (_ : ∀ x ∈ w, x ≠ 10) {a : Nat} {no : Bool} {b : Nat} {n : Bool} (_ : a < c.length) (_ : wordS c w a no = (b, n)), wordS l w (p + a) no = (p + b, n) ∧ b < c.length
  | [], _, a, no, b, n, ha, e => by
    unfold wordS at e ⊢
    obtain ⟨rfl, rfl⟩ : a = b ∧ no = n := by injection e with e1 e2; exact ⟨e1, e2⟩
    exact ⟨rfl, ha⟩
  | x :: xs, hx, a, no, b, n, ha, e => by
    unfold wordS at e ⊢
    cases no
    · simp only [Bool.false_eq_true, if_false] at e ⊢
      rw [h.is ha]
      cases hi : isB c a false x.toNat
      · simp only [hi, Bool.false_eq_true, if_false] at e ⊢
        obtain ⟨rfl, rfl⟩ : a = b ∧ true = n := by injection e with e1 e2; exact ⟨e1, e2⟩
        exact ⟨rfl, ha⟩
      · simp only [hi, if_true] at e ⊢
        have h3 := h.more ha (fun e2 => by
          have h4 := (isB_lt hi).2.2
          rw [h4] at e2
          have h5 := hx x (by simp)
          exact h5 (UInt8.toNat_inj.1 (by have : x.toNat = 10 := by omega
                                          exact this)))
        exact Cu.word h xs (fun y hy => hx y (by simp [hy])) h3 e
    · simp only [if_true] at e ⊢
      obtain ⟨rfl, rfl⟩ : a = b ∧ true = n := by injection e with e1 e2; exact ⟨e1, e2⟩
      exact ⟨rfl, ha⟩
theorem Cu.feed (h : Cu l c p) {a : Nat} {no : Bool} {b : Nat} {n : Bool} (ha : a < c.length) (e : wordS c [10] a no = (b, n)) : wordS l [10] (p + a) no = (p + b, n) := by
  unfold wordS at e ⊢
  cases no
  · simp only [Bool.false_eq_true, if_false] at e ⊢
    rw [h.is ha]
    split at e
    · rename_i hi
      rw [if_pos hi]
      unfold wordS at e ⊢
      obtain ⟨rfl, rfl⟩ : a + 1 = b ∧ false = n := by injection e with e1 e2; exact ⟨e1, e2⟩
      rfl
    · rename_i hi
      rw [if_neg hi]
      obtain ⟨rfl, rfl⟩ : a = b ∧ true = n := by injection e with e1 e2; exact ⟨e1, e2⟩
      rfl
  · simp only [if_true] at e ⊢
    obtain ⟨rfl, rfl⟩ : a = b ∧ true = n := by injection e with e1 e2; exact ⟨e1, e2⟩
    rfl
theorem Cu.step (h : Cu l c p) {a : Nat} {no : Bool} {x : Int} (hx : x ≠ 10) (ha : a < c.length) (e : isB c a no x = true) : a + 1 < c.length :=
  h.more ha (fun e2 => by have := (isB_lt e).2.2; omega)
theorem Cu.num (h : Cu l c p) {a : Nat} {no : Bool} {b : Nat} {n : Bool} (ha : a < c.length) (e : numS c a no = (b, n)) : numS l (p + a) no = (p + b, n) ∧ b < c.length := by
  unfold numS at e ⊢
  cases no
  · simp only [Bool.false_eq_true, if_false] at e ⊢
    unfold takeA at e ⊢
    rw [h.is ha]
    cases hi : isB c a false 45
    · simp only [hi, Bool.false_eq_true, if_false] at e ⊢
      exact h.some_ (by decide) ha e
    · simp only [hi, if_true] at e ⊢
      exact h.some_ (by decide) (h.step (by decide) ha hi) e
  · simp only [if_true] at e ⊢
    obtain ⟨rfl, rfl⟩ : a = b ∧ true = n := by injection e with e1 e2; exact ⟨e1, e2⟩
    exact ⟨rfl, ha⟩
theorem Cu.dec (h : Cu l c p) {a : Nat} {no : Bool} {b : Nat} {n : Bool} (ha : a < c.length) (e : decS c a no = (b, n)) : decS l (p + a) no = (p + b, n) ∧ b < c.length := by
  obtain ⟨b1, n1, e1⟩ : ∃ b1 n1, numS c a no = (b1, n1) := ⟨_, _, rfl⟩
  obtain ⟨h1, h2⟩ := h.num ha e1
  unfold decS at e ⊢
  rw [e1] at e
  rw [h1]
  simp only at e ⊢
  cases n1
  · simp only [Bool.false_eq_true, if_false] at e ⊢
    rw [h.is h2]
    cases hi : isB c b1 false 46
    · simp only [hi, Bool.false_eq_true, if_false] at e ⊢
      obtain ⟨rfl, rfl⟩ : b1 = b ∧ false = n := by injection e with e1 e2; exact ⟨e1, e2⟩
      exact ⟨rfl, h2⟩
    · simp only [hi, if_true] at e ⊢
      exact h.some_ (by decide) (h.step (by decide) h2 hi) e
  · simp only [if_true] at e ⊢
    obtain ⟨rfl, rfl⟩ : b1 = b ∧ true = n := by injection e with e1 e2; exact ⟨e1, e2⟩
    exact ⟨rfl, h2⟩
theorem Cu.kind (h : Cu l c p) {a : Nat} {no : Bool} {K b : Nat} {n : Bool} (ha : a < c.length) (e : kindS c a no = (K, b, n)) : kindS l (p + a) no = (K, p + b, n) ∧ b < c.length := by
  unfold kindS at e ⊢
  rw [h.is ha, h.is ha, h.is ha]
  split at e
  · rename_i hi
    rw [if_pos hi]
    obtain ⟨rfl, rfl, rfl⟩ : 1 = K ∧ a + 1 = b ∧ false = n := by injection e with e1 e2; injection e2 with e3 e4; exact ⟨e1, e3, e4⟩
    exact ⟨rfl, h.step (by decide) ha hi⟩
  · rename_i hi
    rw [if_neg hi]
    split at e
    · rename_i hi
      rw [if_pos hi]
      obtain ⟨rfl, rfl, rfl⟩ : 2 = K ∧ a + 1 = b ∧ false = n := by injection e with e1 e2; injection e2 with e3 e4; exact ⟨e1, e3, e4⟩
      exact ⟨rfl, h.step (by decide) ha hi⟩
    · rename_i hi
      rw [if_neg hi]
      split at e
      · rename_i hi
        rw [if_pos hi]
        obtain ⟨rfl, rfl, rfl⟩ : 5 = K ∧ a + 1 = b ∧ false = n := by injection e with e1 e2; injection e2 with e3 e4; exact ⟨e1, e3, e4⟩
        exact ⟨rfl, h.step (by decide) ha hi⟩
      · rename_i hi
        rw [if_neg hi]
        obtain ⟨rfl, e2⟩ : 4 = K ∧ wordS c wMs a no = (b, n) := by injection e with e1 e2; exact ⟨e1, e2⟩
        obtain ⟨h1, h2⟩ := h.word wMs (by decide) ha e2
        exact ⟨by rw [h1], h2⟩
/-- What of a tag is no place. -/
def tagC (t : MTag) : ByteArray × ByteArray := (t.name, t.value)
theorem Cu.tag (h : Cu l c p) {a : Nat} {no : Bool} {T : MTag} {b : Nat} {n : Bool} (ha : a < c.length) (e : sTagS c a no = (T, b, n)) : ∃ T', sTagS l (p + a) no = (T', p + b, n) ∧ tagC T' = tagC T ∧ b < c.length := by
  obtain ⟨b1, n1, e1⟩ : ∃ b1 n1, someS c stName a no = (b1, n1) := ⟨_, _, rfl⟩
  obtain ⟨h1, k1⟩ := h.some_ (by decide) ha e1
  obtain ⟨b2, n2, e2⟩ : ∃ b2 n2, wordS c [58] b1 n1 = (b2, n2) := ⟨_, _, rfl⟩
  obtain ⟨h2, k2⟩ := h.word [58] (by decide) k1 e2
  obtain ⟨b3, n3, e3⟩ : ∃ b3 n3, someS c stValue b2 n2 = (b3, n3) := ⟨_, _, rfl⟩
  obtain ⟨h3, k3⟩ := h.some_ (by decide) k2 e3
  unfold sTagS at e ⊢
  simp only [e1, e2, e3] at e
  simp only [h1, h2, h3]
  obtain ⟨rfl, rfl, rfl⟩ : _ ∧ b3 = b ∧ n3 = n := by injection e with e1 e2; injection e2 with e3 e4; exact ⟨e1, e3, e4⟩
  refine ⟨_, rfl, ?_, k3⟩
  unfold tagC
  simp only
  rw [h.cut (by omega), h.cut (by omega)]
theorem Cu.tags (h : Cu l c p) : ∀ (f f' a : Nat) (no : Bool) (acc acc' : List MTag) (T : List MTag) (b : Nat) (n : Bool), c.length < f + a → c.length < f' + a → a < c.length → acc'.map tagC = acc.map tagC → sTagsGo c f a no acc = (T, b, n) → ∃ T', sTagsGo l f' (p + a) no acc' = (T', p + b, n) ∧ T'.map tagC = T.map tagC ∧ b < c.length
  | 0, f', a, no, acc, acc', T, b, n, hf, hf', ha, hacc, e => by omega
  | f + 1, 0, a, no, acc, acc', T, b, n, hf, hf', ha, hacc, e => by omega
  | f + 1, f' + 1, a, no, acc, acc', T, b, n, hf, hf', ha, hacc, e => by
    obtain ⟨X, b1, n1, e1⟩ : ∃ X b1 n1, sTagS c a no = (X, b1, n1) := ⟨_, _, _, rfl⟩
    obtain ⟨X', h1, hX, k1⟩ := h.tag ha e1
    have hle := sTagS_le (l := c) no (show a ≤ c.length by omega)
    rw [e1] at hle
    simp only at hle
    unfold sTagsGo at e ⊢
    rw [e1] at e
    rw [h1]
    simp only at e ⊢
    rw [h.is k1]
    have hacc2 : (acc' ++ [X']).map tagC = (acc ++ [X]).map tagC := by simp [hacc, hX]
    split at e
    · rename_i hi
      rw [if_pos hi]
      exact Cu.tags h f f' (b1 + 1) false _ _ T b n (by omega) (by omega) (h.step (by decide) k1 hi) hacc2 e
    · rename_i hi
      rw [if_neg hi]
      obtain ⟨rfl, rfl, rfl⟩ : acc ++ [X] = T ∧ b1 = b ∧ n1 = n := by injection e with e1 e2; injection e2 with e3 e4; exact ⟨e1, e3, e4⟩
      exact ⟨_, rfl, hacc2, k1⟩
theorem Cu.moreS (h : Cu l c p) {a : Nat} {T : List MTag} {b : Nat} {n : Bool} (ha : a < c.length) (e : sMoreS c a = (T, b, n)) : ∃ T', sMoreS l (p + a) = (T', p + b, n) ∧ T'.map tagC = T.map tagC ∧ b < c.length := by
  obtain ⟨b1, n1, e1⟩ : ∃ b1 n1, wordS c [35] a false = (b1, n1) := ⟨_, _, rfl⟩
  obtain ⟨h1, k1⟩ := h.word [35] (by decide) ha e1
  unfold sMoreS at e ⊢
  rw [e1] at e
  rw [h1]
  have hle := h.le
  exact h.tags _ _ b1 n1 [] [] T b n (by omega) (by omega) k1 rfl e
/-- What of a row is no place. -/
def SameC (x y : MRow) : Prop := x.kind = y.kind ∧ x.name = y.name ∧ x.tags.map tagC = y.tags.map tagC ∧ x.text = y.text ∧ x.timed = y.timed ∧ x.time = y.time
theorem Cu.line (h : Cu l c p) {R : MRow} {b : Nat} {n : Bool} (e : statLineS c 0 = (R, b, n)) : ∃ R', statLineS l p = (R', p + b, n) ∧ SameC R' R := by
  have ha := h.pos
  obtain ⟨b1, n1, e1⟩ : ∃ b1 n1, someS c stName 0 false = (b1, n1) := ⟨_, _, rfl⟩
  obtain ⟨h1, k1⟩ := h.some_ (by decide) ha e1
  rw [Nat.add_zero] at h1
  obtain ⟨b2, n2, e2⟩ : ∃ b2 n2, wordS c [58] b1 n1 = (b2, n2) := ⟨_, _, rfl⟩
  obtain ⟨h2, k2⟩ := h.word [58] (by decide) k1 e2
  obtain ⟨b3, n3, e3⟩ : ∃ b3 n3, someS c stInk b2 n2 = (b3, n3) := ⟨_, _, rfl⟩
  obtain ⟨h3, k3⟩ := h.some_ (by decide) k2 e3
  obtain ⟨b4, n4, e4⟩ : ∃ b4 n4, wordS c [124] b3 n3 = (b4, n4) := ⟨_, _, rfl⟩
  obtain ⟨h4, k4⟩ := h.word [124] (by decide) k3 e4
  obtain ⟨K, b5, n5, e5⟩ : ∃ K b5 n5, kindS c b4 n4 = (K, b5, n5) := ⟨_, _, _, rfl⟩
  obtain ⟨h5, k5⟩ := h.kind k4 e5
  have c1 : cutL l p (p + b1) = cutL c 0 b1 := h.cut (a := 0) (by omega)
  have c2 : cutL l (p + b2) (p + b3) = cutL c b2 b3 := h.cut (by omega)
  unfold statLineS at e ⊢
  simp only [e1, e2, e3, e4, e5] at e
  simp only [h1, h2, h3, h4, h5, h.is k5, c1, c2]
  split at e
  · rename_i hi
    rw [if_pos hi]
    have k6 := h.step (by decide) k5 hi
    rw [Nat.add_assoc p b5 1, h.is k6]
    split at e
    · rename_i hj
      rw [if_pos hj]
      have k7 := h.step (by decide) k6 hj
      obtain ⟨b6, n6, e6⟩ : ∃ b6 n6, decS c (b5 + 2) false = (b6, n6) := ⟨_, _, rfl⟩
      obtain ⟨h6, k8⟩ := h.dec k7 e6
      have c3 : cutL l (p + (b5 + 2)) (p + b6) = cutL c (b5 + 2) b6 := h.cut (by omega)
      rw [Nat.add_assoc p b5 2]
      simp only [e6] at e
      simp only [h6, c3, h.is k8]
      split at e
      · rename_i hd
        rw [if_pos hd]
        obtain ⟨T, b7, n7, e7⟩ : ∃ T b7 n7, sMoreS c (b6 + 1) = (T, b7, n7) := ⟨_, _, _, rfl⟩
        obtain ⟨T', h7, hT, k9⟩ := h.moreS (h.step (by decide) k8 hd) e7
        rw [Nat.add_assoc p b6 1]
        simp only [e7] at e
        simp only [h7]
        obtain ⟨rfl, e8⟩ : _ ∧ wordS c [10] b7 n7 = (b, n) := by injection e with e1 e2; exact ⟨e1, e2⟩
        rw [h.feed k9 e8]
        exact ⟨_, rfl, rfl, rfl, hT, rfl, rfl, rfl⟩
      · rename_i hd
        rw [if_neg hd]
        obtain ⟨rfl, e8⟩ : _ ∧ wordS c [10] b6 n6 = (b, n) := by injection e with e1 e2; exact ⟨e1, e2⟩
        rw [h.feed k8 e8]
        exact ⟨_, rfl, rfl, rfl, rfl, rfl, rfl, rfl⟩
    · rename_i hj
      rw [if_neg hj]
      obtain ⟨T, b7, n7, e7⟩ : ∃ T b7 n7, sMoreS c (b5 + 1) = (T, b7, n7) := ⟨_, _, _, rfl⟩
      obtain ⟨T', h7, hT, k9⟩ := h.moreS k6 e7
      simp only [e7] at e
      simp only [h7]
      obtain ⟨rfl, e8⟩ : _ ∧ wordS c [10] b7 n7 = (b, n) := by injection e with e1 e2; exact ⟨e1, e2⟩
      rw [h.feed k9 e8]
      exact ⟨_, rfl, rfl, rfl, hT, rfl, rfl, rfl⟩
  · rename_i hi
    rw [if_neg hi]
    obtain ⟨rfl, e8⟩ : _ ∧ wordS c [10] b5 n5 = (b, n) := by injection e with e1 e2; exact ⟨e1, e2⟩
    rw [h.feed k5 e8]
    exact ⟨_, rfl, rfl, rfl, rfl, rfl, rfl, rfl⟩
end
end Go.Proofs.YtpknjngjkdnpiaaGreatDoor
