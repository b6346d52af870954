/- The walks of package scan: scalars up to a byte, signs: the loops over a builder. -/
import Derived.Test.YtdngieihlcknmaaDoorScanD
namespace Go.Proofs.YtdngieihlcknmaaDoor
set_option linter.unusedVariables false
set_option linter.unusedSimpArgs false
open Go.RowKit
/-- The scanner, and a builder of the call's own. -/
def BS (w0 w : World) (g : Nat) (s : ByteArray) (b : Nat) (nb : Bool) (acc : List UInt8) : Prop := Sc w g s b nb ∧ Lib.IsBuilder 86 5 w0.heap.size w0.heap.size (Lib.byteCells acc) w ∧ Aw [g] w0 w ∧ g < w0.heap.size
section
variable {w0 w w1 : World} {g : Nat} {s : ByteArray} {b : Nat} {nb : Bool} {acc : List UInt8}
theorem BS.start (h : Sc w g s b nb) : BS w (w.alloc (.cells #[.pointer none, .slice none 0 0] 86)) g s b nb [] := ⟨h.alloc _, bld_new, (Aw.refl _ _).alloc _, h.lt⟩
theorem BS.scan {b' : Nat} {nb' : Bool} {S : List Nat} (h : BS w0 w g s b nb acc) (k : Aw S w w1) (hs : Sc w1 g s b' nb') (hS : ∀ i, i ∈ S → i = g) : BS w0 w1 g s b' nb' acc :=
  ⟨hs, bld_aw h.2.1 k (fun i hi => by rw [hS i hi]; exact h.2.2.2), h.2.2.1.trans (k.mono (fun i hi => by rw [hS i hi]; simp)), h.2.2.2⟩
theorem BS.write {t : ByteArray} {p : Value} (h : BS w0 w g s b nb acc) (k : Below w0.heap.size w w1) (hb : Lib.BuilderAt 86 5 w0.heap.size w0.heap.size p (Lib.byteCells acc ++ Lib.strCells t) w1) (hp : p = .pointer (some ⟨w0.heap.size, 0, none⟩)) : BS w0 w1 g s b nb (acc ++ t.data.toList) := by
  subst hp
  refine ⟨h.1.below k h.2.2.2, .inr ?_, h.2.2.1.below k (Nat.le_refl _), h.2.2.2⟩
  rw [byteCells_app]; exact hb
theorem BS.put {x : UInt8} {p : Value} (h : BS w0 w g s b nb acc) (k : Below w0.heap.size w w1) (hb : Lib.BuilderAt 86 5 w0.heap.size w0.heap.size p (Lib.byteCells acc ++ [.int .u8 (x.toNat : Int)]) w1) (hp : p = .pointer (some ⟨w0.heap.size, 0, none⟩)) : BS w0 w1 g s b nb (acc ++ [x]) := by
  subst hp
  refine ⟨h.1.below k h.2.2.2, .inr ?_, h.2.2.1.below k (Nat.le_refl _), h.2.2.2⟩
  rw [byteCells_app]; exact hb
theorem BS.set {p : Addr} {u : Value} {b' : Nat} {nb' : Bool} (h : BS w0 w g s b nb acc) (hp : p.block = g) (hs : Sc (w.setCell p u) g s b' nb') : BS w0 (w.setCell p u) g s b' nb' acc :=
  h.scan (S := [g]) ((Aw.refl _ _).setCell (.inl (by rw [hp]; simp)) u) hs (by simp)
end
def noOf (w : World) (g : Nat) : Bool := match w.cell? ⟨g, 2, none⟩ with
  | some (.bool b) => b
  | _ => false
theorem Sc.noOf {w : World} {g : Nat} {s : ByteArray} {a : Nat} {no : Bool} (h : Sc w g s a no) : noOf w g = no := by
  unfold Go.Proofs.YtdngieihlcknmaaDoor.noOf
  rw [h.facts.1.2.2]
def mOf (w : World) (g : Nat) (s : ByteArray) : Nat := 2 * (s.size - atOf w g) + if noOf w g then 0 else 1
theorem Sc.mOf {w : World} {g : Nat} {s : ByteArray} {a : Nat} {no : Bool} (h : Sc w g s a no) : mOf w g s = 2 * (s.size - a) + if no then 0 else 1 := by
  unfold Go.Proofs.YtdngieihlcknmaaDoor.mOf; rw [h.atOf, h.noOf]
def InkR (l : List UInt8) (e : Int) (m : List UInt8) (f b : Nat) (nb : Bool) (acc T : List UInt8) (b' : Nat) (n' : Bool) : Prop :=
  (nb = false ∧ l.length < f + b ∧ inkS l e m 110 f b acc = (T, b', n')) ∨ (nb = true ∧ b' = b ∧ n' = true)
theorem cells_len (l : List UInt8) : (Lib.byteCells l).length = l.length := by simp [Lib.byteCells]
theorem strCells_len (t : ByteArray) : (Lib.strCells t).length = t.size := by simp [Lib.strCells]
theorem strCells_eq (t : ByteArray) : Lib.strCells t = Lib.byteCells t.data.toList := by simp [Lib.strCells, Lib.byteCells]
set_option maxRecDepth 100000 in
set_option maxHeartbeats 6400000 in
theorem inked_any (g : Nat) (s m : ByteArray) (e0 : Int) (a : Nat) (no : Bool) (T : List UInt8) (b' : Nat) (n' : Bool) (w : World) (h : Sc w g s a no) (ha : a ≤ s.size) (hs : s.size ≤ 1048576) (hR : ink s.data.toList e0 m.data.toList 110 a no = (T, b', n')) :
    Calls Tryd.prog 65 #[.pointer (some ⟨g, 0, none⟩), .int .u8 e0, .string m] w fun e w' => e = .returned (.string (if n' then ⟨#[]⟩ else mkS T)) ∧ Sc w' g s b' n' ∧ Aw [g] w w' := by
  have HL : Hid (s.data.toList.length = s.size) := Lib.hid (by simp)
  have hB0 := BS.start h
  obtain ⟨⟨c0, c1, c2⟩, f1, f2⟩ := h.facts
  cases no
  case true =>
    obtain ⟨rfl, rfl, rfl⟩ : [] = T ∧ a = b' ∧ true = n' := by
      unfold ink at hR; simp only [if_true] at hR
      injection hR with e1 e2; injection e2 with e3 e4; exact ⟨e1, e3, e4⟩
    clear hR
    go_enter Tryd.func65, Tryd.ntmps65
    go_wp2_with fail
    go_loopw [8] (fun _ wr => BS w wr g s a true []) (fun _ _ => 0)
    case atStart => exact hB0
    case round =>
      clear hB0 c0 c1 c2 f1 f2
      obtain ⟨⟨c0, c1, c2⟩, f1, f2⟩ := hrel.1.facts
      go_wp2_with fail
      go_ret
      exact ⟨rfl, hrel.1, hrel.2.2.1⟩
  case false =>
  have HR : Hid (InkR s.data.toList e0 m.data.toList (s.data.toList.length + 1) a false [] T b' n') := Lib.hid (.inl ⟨rfl, by omega, hR⟩)
  clear hR
  go_enter Tryd.func65, Tryd.ntmps65
  go_wp2_with fail
  go_loopw [8] (fun _ wr => ∃ (b f : Nat) (nb : Bool) (acc : List UInt8), b ≤ s.size ∧ acc.length ≤ b ∧ BS w wr g s b nb acc ∧ Hid (InkR s.data.toList e0 m.data.toList f b nb acc T b' n')) (fun _ wr => mOf wr g s)
  case atStart => exact ⟨a, _, false, [], ha, by simp, hB0, HR⟩
  case round =>
    clear hB0 HR c0 c1 c2 f1 f2 h
    obtain ⟨b, f, nb, acc, hb, hacc, hB, HI⟩ := hrel
    obtain ⟨⟨c0, c1, c2⟩, f1, f2⟩ := hB.1.facts
    have hm0 := hB.1.mOf
    have hbs := hB.2.2.1.size
    cases nb
    case true =>
      obtain ⟨rfl, rfl⟩ : b' = b ∧ n' = true := by
        rcases HI.out with ⟨h1, _⟩ | ⟨_, h2, h3⟩
        · cases h1
        · exact ⟨h2, h3⟩
      clear HI
      go_wp2_with fail
      go_ret
      exact ⟨rfl, hB.1, hB.2.2.1⟩
    case false =>
    have kP := fun W h => peek_any g s b false W h hb (Nat.le_trans hs (by decide))
    obtain ⟨hf, hI⟩ : s.data.toList.length < f + b ∧ inkS s.data.toList e0 m.data.toList 110 f b acc = (T, b', n') := by
      rcases HI.out with ⟨_, h2, h3⟩ | ⟨h1, _⟩
      · exact ⟨h2, h3⟩
      · cases h1
    rw [HL.out] at hf
    obtain ⟨f, rfl⟩ : ∃ f', f = f' + 1 := ⟨f - 1, by omega⟩
    clear HI
    unfold inkS at hI
    by_cases hlt : b < s.size
    case neg =>
      have hp : pkB s.data.toList b false = false := by simp [pkB]; omega
      rw [if_pos (by rw [HL.out]; omega)] at hI
      obtain ⟨rfl, rfl, rfl⟩ : acc = T ∧ b = b' ∧ true = n' := by injection hI with e1 e2; injection e2 with e3 e4; exact ⟨e1, e3, e4⟩
      rw [hp] at kP
      clear hp hI hf
      generalize pkC s.data.toList b false = c at kP
      go_wp2_with (go_at_call 58; refine (kP _ hB.1).mono ?_; rintro e w1 ⟨rfl, h1, hA1⟩; obtain ⟨⟨d0, d1, d2⟩, g1, g2⟩ := h1.facts)
      have h2 := (hB.scan hA1 h1 (by simp)).set (p := ⟨g, 2, none⟩) rfl (h1.no1 true)
      exact ⟨⟨b, f, true, acc, hb, hacc, h2, Lib.hid (.inr ⟨rfl, rfl, rfl⟩)⟩, by (rw [h2.1.mOf, hm0]; simp)⟩
    case pos =>
    have hp : pkB s.data.toList b false = true := by simp [pkB, hlt]
    have hc : pkC s.data.toList b false = bt s.data.toList b := by unfold pkC; rw [hp]; rfl
    rw [hp, hc] at kP
    rw [if_neg (by rw [HL.out]; omega)] at hI
    clear hp hc
    by_cases k1 : bt s.data.toList b = e0
    case pos =>
      rw [if_pos k1] at hI
      obtain ⟨rfl, rfl, rfl⟩ : acc = T ∧ b = b' ∧ false = n' := by injection hI with e1 e2; injection e2 with e3 e4; exact ⟨e1, e3, e4⟩
      rw [k1] at kP
      clear k1 hI hf
      have hbl := hB.2.1
      go_wp2_with (first
        | (go_at_call 58; refine (kP _ hB.1).mono ?_; rintro e w1 ⟨rfl, h1, hA1⟩; have hB1 := hB.scan hA1 h1 (by simp))
        | (go_at_call 54; refine (Tryd.Builder_String_any w.heap.size w.heap.size acc _ hB1.2.1 hB1.2.2.1.size).mono ?_; rintro e w2 ⟨rfl, hb2⟩))
      go_ret
      exact ⟨rfl, hB1.1.below hb2 hB1.2.2.2, hB1.2.2.1.below hb2 (Nat.le_refl _)⟩
    case neg =>
    have kc1 : (bt s.data.toList b == e0) = false := by rw [beq_eq_false_iff_ne]; exact k1
    rw [if_neg k1] at hI
    by_cases k2 : bt s.data.toList b = 10
    case pos =>
      rw [if_pos k2] at hI
      obtain ⟨rfl, rfl, rfl⟩ : acc = T ∧ b = b' ∧ true = n' := by injection hI with e1 e2; injection e2 with e3 e4; exact ⟨e1, e3, e4⟩
      rw [k2] at kP kc1
      clear k1 k2 hI hf
      go_wp2_with (go_at_call 58; refine (kP _ hB.1).mono ?_; rintro e w1 ⟨rfl, h1, hA1⟩; obtain ⟨⟨d0, d1, d2⟩, g1, g2⟩ := h1.facts)
      have h2 := (hB.scan hA1 h1 (by simp)).set (p := ⟨g, 2, none⟩) rfl (h1.no1 true)
      exact ⟨⟨b, f, true, acc, hb, hacc, h2, Lib.hid (.inr ⟨rfl, rfl, rfl⟩)⟩, by (rw [h2.1.mOf, hm0]; simp)⟩
    case neg =>
    have kc2 : (bt s.data.toList b == 10) = false := by rw [beq_eq_false_iff_ne]; exact k2
    rw [if_neg k2] at hI
    by_cases k3 : bt s.data.toList b = 92
    case pos =>
      rw [if_pos k3] at hI
      rw [k3] at kP kc1
      have kB := fun W h => behind_any g s m b W h hlt (Nat.le_trans hs (by decide))
      cases he : escB s.data.toList m.data.toList b
      case false =>
        rw [he, if_neg (by simp)] at hI
        simp only [he, Bool.false_eq_true, if_false, Bool.not_false] at kB
        obtain ⟨rfl, rfl, rfl⟩ : acc = T ∧ b + 1 = b' ∧ true = n' := by injection hI with e1 e2; injection e2 with e3 e4; exact ⟨e1, e3, e4⟩
        clear k1 k2 k3 kc2 hI hf he
        go_wp2_with (first
          | (go_at_call 58; refine (kP _ hB.1).mono ?_; rintro e w1 ⟨rfl, h1, hA1⟩; have hB1 := hB.scan hA1 h1 (by simp))
          | (go_at_call 80; refine (kB _ hB1.1).mono ?_; rintro e w2 ⟨rfl, h2, hA2⟩; have hB2 := hB1.scan hA2 h2 (by simp))
          | (go_at_call 52; refine (wstr_any w.heap.size w.heap.size _ _ _ hB2.2.1 (by rw [cells_len]; show acc.length + 0 ≤ _; omega) hB2.2.2.1.size).mono ?_; rintro e w3 ⟨rfl, h3, hb3⟩; have hB3 := hB2.write hb3 h3 rfl))
        rw [List.append_nil] at hB3
        exact ⟨⟨b + 1, f, true, acc, by omega, by omega, hB3, Lib.hid (.inr ⟨rfl, rfl, rfl⟩)⟩, by (rw [hB3.1.mOf, hm0]; simp; omega)⟩
      case true =>
        rw [he, if_pos rfl] at hI
        simp only [he, if_true, Bool.not_true] at kB
        have hlt2 := escB_lt he
        rw [HL.out] at hlt2
        have HI : Hid (inkS s.data.toList e0 m.data.toList 110 f (b + 2) (acc ++ [if bt s.data.toList (b + 1) = 110 then 10 else s.data.toList.getD (b + 1) 0]) = (T, b', n')) := Lib.hid hI
        generalize (if bt s.data.toList (b + 1) = 110 then (10 : UInt8) else s.data.toList.getD (b + 1) 0) = x at kB HI
        clear k1 k2 k3 kc2 hI he
        go_wp2_with (first
          | (go_at_call 58; refine (kP _ hB.1).mono ?_; rintro e w1 ⟨rfl, h1, hA1⟩; have hB1 := hB.scan hA1 h1 (by simp))
          | (go_at_call 80; refine (kB _ hB1.1).mono ?_; rintro e w2 ⟨rfl, h2, hA2⟩; have hB2 := hB1.scan hA2 h2 (by simp))
          | (go_at_call 52; refine (wstr_any w.heap.size w.heap.size _ _ _ hB2.2.1 (by rw [cells_len]; show acc.length + 1 ≤ _; omega) hB2.2.2.1.size).mono ?_; rintro e w3 ⟨rfl, h3, hb3⟩; have hB3 := hB2.write hb3 h3 rfl))
        exact ⟨⟨b + 2, f, false, acc ++ [x], by omega, by (simp; omega), hB3, Lib.hid (.inl ⟨rfl, by rw [HL.out]; omega, HI.out⟩)⟩, by (rw [hB3.1.mOf, hm0]; simp; omega)⟩
    case neg =>
    have kc3 : (bt s.data.toList b == 92) = false := by rw [beq_eq_false_iff_ne]; exact k3
    rw [if_neg k3] at hI
    obtain ⟨n, ok, hfr⟩ : ∃ n ok, frontU s.data.toList b = (n, ok) := ⟨_, _, rfl⟩
    have hfl := front_le s.data.toList b (by rw [HL.out]; exact hlt)
    rw [hfr, HL.out] at hfl
    rw [hfr] at hI
    have kS := fun W h => scalar_any g s b n ok W h hlt (Nat.le_trans hs (by decide)) hfr
    have hsz : (s.extract b (b + n)).data.toList = cutL s.data.toList b (b + n) := by rw [ext_bytes]; rfl
    have hsn : (s.extract b (b + n)).size = n := by have := hfl.2.1; simp only at this; simp; omega
    have hcl : (cutL s.data.toList b (b + n)).length = n := by rw [cutL_len _ _ _ (by rw [HL.out]; exact hfl.2.1)]; omega
    have HSZ := Lib.hid hsz
    have HSN := Lib.hid hsn
    have HCL := Lib.hid hcl
    generalize bt s.data.toList b = c at kP kc1 kc2 kc3
    clear hsz hsn hcl hfr k1 k2 k3
    have hn4 : b + n ≤ s.size := hfl.2.1
    cases ok
    case false =>
      simp only [Bool.false_eq_true, if_false, Bool.not_false] at kS hI
      obtain ⟨e1, rfl, rfl⟩ : acc ++ cutL s.data.toList b (b + n) = T ∧ b + n = b' ∧ true = n' := by injection hI with e1 e2; injection e2 with e3 e4; exact ⟨e1, e3, e4⟩
      clear e1 hI hf hfl
      go_wp2_with (first
        | (go_at_call 58; refine (kP _ hB.1).mono ?_; rintro e w1 ⟨rfl, h1, hA1⟩; have hB1 := hB.scan hA1 h1 (by simp))
        | (go_at_call 81; refine (kS _ hB1.1).mono ?_; rintro e w2 ⟨rfl, h2, hA2⟩; have hB2 := hB1.scan hA2 h2 (by simp))
        | (go_at_call 52; refine (wstr_any w.heap.size w.heap.size _ _ _ hB2.2.1 (by rw [cells_len, HSN.out]; omega) hB2.2.2.1.size).mono ?_; rintro e w3 ⟨rfl, h3, hb3⟩; have hB3 := hB2.write hb3 h3 rfl))
      rw [HSZ.out] at hB3
      exact ⟨⟨b + n, f, true, acc ++ cutL s.data.toList b (b + n), hn4, by (rw [List.length_append, HCL.out]; omega), hB3, Lib.hid (.inr ⟨rfl, rfl, rfl⟩)⟩, by (rw [hB3.1.mOf, hm0]; simp; omega)⟩
    case true =>
      simp only [if_true, Bool.not_true] at kS hI
      have HI := Lib.hid hI
      have hn1 : 1 ≤ n := hfl.2.2 rfl
      clear hI hfl
      go_wp2_with (first
        | (go_at_call 58; refine (kP _ hB.1).mono ?_; rintro e w1 ⟨rfl, h1, hA1⟩; have hB1 := hB.scan hA1 h1 (by simp))
        | (go_at_call 81; refine (kS _ hB1.1).mono ?_; rintro e w2 ⟨rfl, h2, hA2⟩; have hB2 := hB1.scan hA2 h2 (by simp))
        | (go_at_call 52; refine (wstr_any w.heap.size w.heap.size _ _ _ hB2.2.1 (by rw [cells_len, HSN.out]; omega) hB2.2.2.1.size).mono ?_; rintro e w3 ⟨rfl, h3, hb3⟩; have hB3 := hB2.write hb3 h3 rfl))
      rw [HSZ.out] at hB3
      exact ⟨⟨b + n, f, false, acc ++ cutL s.data.toList b (b + n), hn4, by (rw [List.length_append, HCL.out]; omega), hB3, Lib.hid (.inl ⟨rfl, by rw [HL.out]; omega, HI.out⟩)⟩, by (rw [hB3.1.mOf, hm0]; simp; omega)⟩
def SgnR (l m : List UInt8) (wide : Bool) (f b : Nat) (nb : Bool) (acc : List UInt8) (R : List UInt8 × Nat × Bool) : Prop :=
  (nb = false ∧ l.length < f + b ∧ sgnS l m wide f b acc = R) ∨ (nb = true ∧ R = (acc, b, true))
/-- What the signs' loop says in the end. -/
def sgnEnd (a : Nat) (R : List UInt8 × Nat × Bool) : List UInt8 × Nat × Bool := (R.1, R.2.1, R.2.2 || R.2.1 == a)
theorem sgn_end (l m : List UInt8) (wide : Bool) (a : Nat) : sgn l m wide a false = sgnEnd a (sgnS l m wide (l.length + 1) a []) := rfl
end Go.Proofs.YtdngieihlcknmaaDoor
