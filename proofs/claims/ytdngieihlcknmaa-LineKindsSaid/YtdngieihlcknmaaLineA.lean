/- The walks of package lineword: numbers, what a field is. -/
import Derived.Test.YtdngieihlcknmaaScanE
import Derived.Test.YtdngieihlcknmaaLineDef
import Derived.Deep.DrawnRows
namespace Go.Proofs.Ytdngieihlcknmaa
set_option linter.unusedVariables false
set_option linter.unusedSimpArgs false
open Go.RowKit
attribute [local go_sem ↓] Go.wp_at_zero Go.wp_at_succ
/-- The reader's block, a field's block, a tag's block. -/
def Rd (w : World) (r g : Nat) (rv : Value) : Prop := Blk w r 59 #[.pointer (some ⟨g, 0, none⟩), rv]
def Fd (w : World) (f : Nat) (nm vl : ByteArray) (off pos kind : Nat) : Prop := Blk w f 48 #[.string nm, .string vl, .int .i64 (off : Int), .int .i64 (pos : Int), .int .i64 (kind : Int)]
def Tg (w : World) (t : Nat) (nm vl : ByteArray) (off pos : Nat) : Prop := Blk w t 46 #[.string nm, .string vl, .int .i64 (off : Int), .int .i64 (pos : Int)]
section
variable {w w' : World} {r g f t : Nat} {rv : Value} {nm vl : ByteArray} {off pos kind : Nat}
theorem Rd.facts (h : Rd w r g rv) : w.cell? ⟨r, 0, none⟩ = some (.pointer (some ⟨g, 0, none⟩)) ∧ w.cell? ⟨r, 1, none⟩ = some rv ∧ w.frozen? ⟨r, 1, none⟩ = false :=
  ⟨(Blk.cell h 0).trans rfl, (Blk.cell h 1).trans rfl, Blk.frozen h 1⟩
theorem Fd.facts (h : Fd w f nm vl off pos kind) : (w.cell? ⟨f, 0, none⟩ = some (.string nm) ∧ w.cell? ⟨f, 1, none⟩ = some (.string vl) ∧ w.cell? ⟨f, 2, none⟩ = some (.int .i64 (off : Int)) ∧ w.cell? ⟨f, 3, none⟩ = some (.int .i64 (pos : Int)) ∧ w.cell? ⟨f, 4, none⟩ = some (.int .i64 (kind : Int))) ∧
    w.frozen? ⟨f, 0, none⟩ = false ∧ w.frozen? ⟨f, 1, none⟩ = false ∧ w.frozen? ⟨f, 2, none⟩ = false ∧ w.frozen? ⟨f, 3, none⟩ = false ∧ w.frozen? ⟨f, 4, none⟩ = false :=
  ⟨⟨(Blk.cell h 0).trans rfl, (Blk.cell h 1).trans rfl, (Blk.cell h 2).trans rfl, (Blk.cell h 3).trans rfl, (Blk.cell h 4).trans rfl⟩, Blk.frozen h 0, Blk.frozen h 1, Blk.frozen h 2, Blk.frozen h 3, Blk.frozen h 4⟩
theorem Tg.facts (h : Tg w t nm vl off pos) : (w.cell? ⟨t, 0, none⟩ = some (.string nm) ∧ w.cell? ⟨t, 1, none⟩ = some (.string vl) ∧ w.cell? ⟨t, 2, none⟩ = some (.int .i64 (off : Int)) ∧ w.cell? ⟨t, 3, none⟩ = some (.int .i64 (pos : Int))) ∧
    w.frozen? ⟨t, 0, none⟩ = false ∧ w.frozen? ⟨t, 1, none⟩ = false ∧ w.frozen? ⟨t, 2, none⟩ = false ∧ w.frozen? ⟨t, 3, none⟩ = false :=
  ⟨⟨(Blk.cell h 0).trans rfl, (Blk.cell h 1).trans rfl, (Blk.cell h 2).trans rfl, (Blk.cell h 3).trans rfl⟩, Blk.frozen h 0, Blk.frozen h 1, Blk.frozen h 2, Blk.frozen h 3⟩
theorem Fd.setValue (h : Fd w f nm vl off pos kind) (v : ByteArray) : Fd (w.setCell ⟨f, 1, none⟩ (.string v)) f nm v off pos kind := Blk.set_ h 1 (.string v)
theorem Fd.setKind (h : Fd w f nm vl off pos kind) (k : Nat) : Fd (w.setCell ⟨f, 4, none⟩ (.int .i64 (k : Int))) f nm vl off pos k := Blk.set_ h 4 (.int .i64 (k : Int))
theorem Fd.setPos (h : Fd w f nm vl off pos kind) (k : Nat) : Fd (w.setCell ⟨f, 3, none⟩ (.int .i64 (k : Int))) f nm vl off k kind := Blk.set_ h 3 (.int .i64 (k : Int))
theorem Fd.setName (h : Fd w f nm vl off pos kind) (v : ByteArray) : Fd (w.setCell ⟨f, 0, none⟩ (.string v)) f v vl off pos kind := Blk.set_ h 0 (.string v)
theorem Fd.setOff (h : Fd w f nm vl off pos kind) (k : Nat) : Fd (w.setCell ⟨f, 2, none⟩ (.int .i64 (k : Int))) f nm vl k pos kind := Blk.set_ h 2 (.int .i64 (k : Int))
end
/-- The reader, its scanner, a field of the caller's, as they stand behind a call's beginning. -/
structure LF (w0 w : World) (r g f : Nat) (rv : Value) (s : ByteArray) (a : Nat) (no : Bool) (nm vl : ByteArray) (off pos kind : Nat) : Prop where
  rd : Rd w r g rv
  sc : Sc w g s a no
  fd : Fd w f nm vl off pos kind
  rg : r ≠ g
  rf : r ≠ f
  gf : g ≠ f
  aw : Aw [g, f] w0 w
section
variable {w0 w w' : World} {r g f : Nat} {rv : Value} {s : ByteArray} {a a' : Nat} {no no' : Bool} {nm vl : ByteArray} {off pos kind : Nat}
/-- Behind a method of the scanner. -/
theorem LF.scan {S : List Nat} (h : LF w0 w r g f rv s a no nm vl off pos kind) (k : Aw S w w') (hs : Sc w' g s a' no') (hS : ∀ i, i ∈ S → i = g) : LF w0 w' r g f rv s a' no' nm vl off pos kind :=
  ⟨Blk.aw h.rd k (fun e => h.rg (hS _ e)), hs, Blk.aw h.fd k (fun e => h.gf (hS _ e).symm), h.rg, h.rf, h.gf, h.aw.trans (k.mono (fun i hi => by rw [hS i hi]; simp))⟩
theorem LF.value (h : LF w0 w r g f rv s a no nm vl off pos kind) (v : ByteArray) : LF w0 (w.setCell ⟨f, 1, none⟩ (.string v)) r g f rv s a no nm v off pos kind :=
  ⟨Blk.far h.rd h.rf _, Blk.far h.sc h.gf _, h.fd.setValue v, h.rg, h.rf, h.gf, h.aw.setCell (.inl (by simp)) _⟩
theorem LF.kind_ (h : LF w0 w r g f rv s a no nm vl off pos kind) (k : Nat) : LF w0 (w.setCell ⟨f, 4, none⟩ (.int .i64 (k : Int))) r g f rv s a no nm vl off pos k :=
  ⟨Blk.far h.rd h.rf _, Blk.far h.sc h.gf _, h.fd.setKind k, h.rg, h.rf, h.gf, h.aw.setCell (.inl (by simp)) _⟩
theorem LF.pos_ (h : LF w0 w r g f rv s a no nm vl off pos kind) (k : Nat) : LF w0 (w.setCell ⟨f, 3, none⟩ (.int .i64 (k : Int))) r g f rv s a no nm vl off k kind :=
  ⟨Blk.far h.rd h.rf _, Blk.far h.sc h.gf _, h.fd.setPos k, h.rg, h.rf, h.gf, h.aw.setCell (.inl (by simp)) _⟩
theorem LF.drew (h : LF w0 w r g f rv s a no nm vl off pos kind) : LF w0 w.drew r g f rv s a no nm vl off pos kind := ⟨h.rd, h.sc, h.fd, h.rg, h.rf, h.gf, h.aw.drew⟩
theorem LF.drewN (h : LF w0 w r g f rv s a no nm vl off pos kind) (n : Nat) : LF w0 (w.drewN n) r g f rv s a no nm vl off pos kind := ⟨h.rd, h.sc, h.fd, h.rg, h.rf, h.gf, h.aw.drewN n⟩
theorem LF.facts (h : LF w0 w r g f rv s a no nm vl off pos kind) : w.cell? ⟨r, 0, none⟩ = some (.pointer (some ⟨g, 0, none⟩)) ∧ w.cell? ⟨f, 1, none⟩ = some (.string vl) := ⟨h.rd.facts.1, h.fd.facts.1.2.1⟩
end
theorem ext_cut (s : ByteArray) (a b : Nat) : s.extract a b = mkS (cutL s.data.toList a b) := by
  apply bytes_ext
  rw [ext_bytes]; rfl
theorem mk_app (a b : List UInt8) : mkS a ++ mkS b = mkS (a ++ b) := by
  apply bytes_ext
  show (mkS a ++ mkS b).data.toList = a ++ b
  rw [ByteArray.data_append]; simp [mkS]
set_option maxRecDepth 100000 in
set_option maxHeartbeats 3200000 in
theorem number_any (w0 : World) (r g f : Nat) (rv : Value) (s : ByteArray) (a : Nat) (no : Bool) (nm vl : ByteArray) (off pos : Nat) (kd : Nat) (v : List UInt8) (p a' : Nat) (no' : Bool) (w : World) (h : LF w0 w r g f rv s a no nm vl off pos 0) (ha : a ≤ s.size) (hs : s.size ≤ 1048576) (hR : numberS s.data.toList a no = ((kd, v, p), a', no')) :
    Calls Try.prog 93 #[.pointer (some ⟨r, 0, none⟩), .pointer (some ⟨f, 0, none⟩)] w fun e w' => e = .returned (.tuple #[]) ∧ LF w0 w' r g f rv s a' no' nm (mkS v) off pos kd := by
  have hL : s.data.toList.length = s.size := by simp
  have hs2 : s.size ≤ 4611686018427387904 := Nat.le_trans hs (by decide)
  obtain ⟨b, nb, hm⟩ : ∃ b nb, numS s.data.toList a no = (b, nb) := ⟨_, _, rfl⟩
  have hle := numS_le s.data.toList a no (by rw [hL]; exact ha)
  unfold numberS at hR
  simp only [hm] at hR
  rw [hm, hL] at hle
  simp only at hle
  have kI := fun W h => is_any g s a no 45 W h ha hs2
  have kW := fun W h => whole_any g s a no b nb W h ha hs2 hm
  have k1 := fun W h => takes_any g s b nb 105 W h hle.2 hs2
  have k2 := fun W h => takes_any g s b nb 117 W h hle.2 hs2
  have k3 := fun W h => takes_any g s b nb 46 W h hle.2 hs2
  unfold takeA at k1 k2 k3
  rw [ext_cut] at kW
  obtain ⟨r0, r1, r2⟩ := h.rd.facts
  obtain ⟨mn, hmn⟩ : ∃ mn, isB s.data.toList a no 45 = mn := ⟨_, rfl⟩
  rw [hmn] at hR kI
  clear hmn
  cases q1 : isB s.data.toList b nb 105
  case true =>
    have hnb := (isB_lt q1).2.1
    subst hnb
    rw [q1, if_pos rfl] at hR
    simp only [q1, if_true] at k1
    obtain ⟨rfl, rfl, rfl, rfl⟩ : 1 = kd ∧ cutL s.data.toList a b = v ∧ b + 1 = a' ∧ false = no' := by
      injection hR with e1 e2; injection e1 with e3 e4; injection e4 with e5 e6; injection e2 with e7 e8; exact ⟨e3, e5, e7, e8⟩
    clear hR q1 hm hL k2 k3
    generalize mkS (cutL s.data.toList a b) = V at kW ⊢
    go_enter Try.func93, Try.ntmps93
    go_wp2_with (first
      | (go_at_call 55; refine (kI _ h.sc).mono ?_; rintro e w1 ⟨rfl, h1, hA1⟩; have L1 := h.scan hA1 h1 (by simp); obtain ⟨x0, _, _⟩ := L1.rd.facts)
      | (go_at_call 63; refine (kW _ L1.sc).mono ?_; rintro e w2 ⟨rfl, h2, hA2⟩; have L2 := L1.scan hA2 h2 (by simp); obtain ⟨_, _, y2, _⟩ := L2.fd.facts; obtain ⟨z0, _, _⟩ := (L2.value V).rd.facts)
      | (go_at_call 58; refine (k1 _ (L2.value V).sc).mono ?_; rintro e w3 ⟨rfl, h3, hA3⟩; have L3 := (L2.value V).scan hA3 h3 (by simp); obtain ⟨_, _, _, _, _, u4⟩ := L3.fd.facts))
    go_end0
    exact ⟨rfl, L3.kind_ 1⟩
  case false =>
  rw [q1, if_neg (by simp)] at hR
  simp only [q1, Bool.false_eq_true, if_false] at k1
  by_cases q2 : (!mn && isB s.data.toList b nb 117) = true
  case pos =>
    rw [if_pos q2] at hR
    simp only [Bool.and_eq_true, Bool.not_eq_true'] at q2
    obtain ⟨rfl, q3⟩ := q2
    have hnb := (isB_lt q3).2.1
    subst hnb
    simp only [q3, if_true] at k2
    obtain ⟨rfl, rfl, rfl, rfl⟩ : 2 = kd ∧ cutL s.data.toList a b = v ∧ b + 1 = a' ∧ false = no' := by
      injection hR with e1 e2; injection e1 with e3 e4; injection e4 with e5 e6; injection e2 with e7 e8; exact ⟨e3, e5, e7, e8⟩
    clear hR q1 q3 hm hL k3
    generalize mkS (cutL s.data.toList a b) = V at kW ⊢
    go_enter Try.func93, Try.ntmps93
    go_wp2_with (first
      | (go_at_call 55; refine (kI _ h.sc).mono ?_; rintro e w1 ⟨rfl, h1, hA1⟩; have L1 := h.scan hA1 h1 (by simp); obtain ⟨x0, _, _⟩ := L1.rd.facts)
      | (go_at_call 63; refine (kW _ L1.sc).mono ?_; rintro e w2 ⟨rfl, h2, hA2⟩; have L2 := L1.scan hA2 h2 (by simp); obtain ⟨_, _, y2, _⟩ := L2.fd.facts; obtain ⟨z0, _, _⟩ := (L2.value V).rd.facts)
      | (go_at_call 58; (with_reducible refine (k1 _ (L2.value V).sc).mono ?_); rintro e w3 ⟨rfl, h3, hA3⟩; have L3 := (L2.value V).scan hA3 h3 (by simp); obtain ⟨v0, _, _⟩ := L3.rd.facts)
      | (go_at_call 58; (with_reducible refine (k2 _ L3.sc).mono ?_); rintro e w4 ⟨rfl, h4, hA4⟩; have L4 := L3.scan hA4 h4 (by simp); obtain ⟨_, _, _, _, _, u4⟩ := L4.fd.facts))
    go_end0
    exact ⟨rfl, L4.kind_ 2⟩
  case neg =>
  rw [if_neg q2] at hR
  have q2' : mn = true ∨ (mn = false ∧ isB s.data.toList b nb 117 = false) := by
    cases mn
    · right; simpa using q2
    · exact .inl rfl
  clear q2
  cases q3 : isB s.data.toList b nb 46
  case true =>
    have hnb := (isB_lt q3).2.1
    have hlt := (isB_lt q3).1
    rw [hL] at hlt
    subst hnb
    rw [q3, if_pos rfl] at hR
    simp only [q3, if_true] at k3
    obtain ⟨c, nc, hd⟩ : ∃ c nc, someS s.data.toList digB (b + 1) false = (c, nc) := ⟨_, _, rfl⟩
    rw [hd] at hR
    have hdl := someS_le s.data.toList digB (b + 1) false (by rw [hL]; omega)
    rw [hd, hL] at hdl
    have k4 := fun W h => some_dig g s (b + 1) false c nc W h (by omega) hs2 hd
    rw [ext_cut] at k4
    obtain ⟨rfl, rfl, rfl, rfl⟩ : 0 = kd ∧ cutL s.data.toList a b ++ 46 :: cutL s.data.toList (b + 1) c = v ∧ c = a' ∧ nc = no' := by
      injection hR with e1 e2; injection e1 with e3 e4; injection e4 with e5 e6; injection e2 with e7 e8; exact ⟨e3, e5, e7, e8⟩
    have hV2 : mkS (cutL s.data.toList a b) ++ ((⟨#[46]⟩ : ByteArray) ++ mkS (cutL s.data.toList (b + 1) c)) = mkS (cutL s.data.toList a b ++ 46 :: cutL s.data.toList (b + 1) c) := by
      rw [show (⟨#[46]⟩ : ByteArray) = mkS [46] from rfl, mk_app, mk_app]; rfl
    have hs3 : (mkS (cutL s.data.toList (b + 1) c)).size ≤ 1048576 := by
      show (cutL s.data.toList (b + 1) c).length ≤ _
      rw [cutL_len _ _ _ (by rw [hL]; exact hdl.2)]; have := hdl.2; simp only at this; omega
    have hs4 : (mkS (cutL s.data.toList a b)).size ≤ 1048576 := by
      show (cutL s.data.toList a b).length ≤ _
      rw [cutL_len _ _ _ (by rw [hL]; exact hle.2)]; omega
    rw [← hV2]
    generalize mkS (cutL s.data.toList a b) = V at kW hs4 ⊢
    generalize mkS (cutL s.data.toList (b + 1) c) = V2 at k4 hs3 ⊢
    have hz1 : ¬ 9223372036854775807 < 1 + V2.size := by omega
    have hz2 : ¬ 9223372036854775807 < V.size + (1 + V2.size) := by omega
    clear hR q1 q3 hm hL hd hV2 hdl
    rcases q2' with rfl | ⟨rfl, q4⟩
    · clear k2
      go_enter Try.func93, Try.ntmps93
      go_wp2_with (first
        | (go_at_call 55; refine (kI _ h.sc).mono ?_; rintro e w1 ⟨rfl, h1, hA1⟩; have L1 := h.scan hA1 h1 (by simp); obtain ⟨x0, _, _⟩ := L1.rd.facts)
        | (go_at_call 63; refine (kW _ L1.sc).mono ?_; rintro e w2 ⟨rfl, h2, hA2⟩; have L2 := L1.scan hA2 h2 (by simp); obtain ⟨_, _, y2, _⟩ := L2.fd.facts; obtain ⟨z0, _, _⟩ := (L2.value V).rd.facts)
        | (go_at_call 58; (with_reducible refine (k1 _ (L2.value V).sc).mono ?_); rintro e w3 ⟨rfl, h3, hA3⟩; have L3 := (L2.value V).scan hA3 h3 (by simp); obtain ⟨v0, _, _⟩ := L3.rd.facts)
        | (go_at_call 58; (with_reducible refine (k3 _ L3.sc).mono ?_); rintro e w4 ⟨rfl, h4, hA4⟩; have L4 := L3.scan hA4 h4 (by simp)))
      obtain ⟨p0, p1⟩ := L4.facts
      go_region_with (first
        | (go_at_call 81; refine (k4 _ L4.drew.sc).mono ?_; rintro e w5 ⟨rfl, h5, hA5⟩; have L5 := L4.drew.scan hA5 h5 (by simp); obtain ⟨p2, p3⟩ := L5.facts; obtain ⟨_, _, u1, _⟩ := L5.fd.facts))
      all_goals
        go_wp2_with fail
        go_end0
        exact ⟨rfl, L5.value _⟩
    · simp only [q4, Bool.false_eq_true, if_false] at k2
      clear q4
      go_enter Try.func93, Try.ntmps93
      go_wp2_with (first
        | (go_at_call 55; refine (kI _ h.sc).mono ?_; rintro e w1 ⟨rfl, h1, hA1⟩; have L1 := h.scan hA1 h1 (by simp); obtain ⟨x0, _, _⟩ := L1.rd.facts)
        | (go_at_call 63; refine (kW _ L1.sc).mono ?_; rintro e w2 ⟨rfl, h2, hA2⟩; have L2 := L1.scan hA2 h2 (by simp); obtain ⟨_, _, y2, _⟩ := L2.fd.facts; obtain ⟨z0, _, _⟩ := (L2.value V).rd.facts)
        | (go_at_call 58; (with_reducible refine (k1 _ (L2.value V).sc).mono ?_); rintro e w3 ⟨rfl, h3, hA3⟩; have L3 := (L2.value V).scan hA3 h3 (by simp); obtain ⟨v0, _, _⟩ := L3.rd.facts)
        | (go_at_call 58; (with_reducible refine (k2 _ L3.sc).mono ?_); rintro e w6 ⟨rfl, h6, hA6⟩; have L6 := L3.scan hA6 h6 (by simp); obtain ⟨v6, _, _⟩ := L6.rd.facts)
        | (go_at_call 58; (with_reducible refine (k3 _ L6.sc).mono ?_); rintro e w4 ⟨rfl, h4, hA4⟩; have L4 := L6.scan hA4 h4 (by simp)))
      obtain ⟨p0, p1⟩ := L4.facts
      go_region_with (first
        | (go_at_call 81; refine (k4 _ L4.drew.sc).mono ?_; rintro e w5 ⟨rfl, h5, hA5⟩; have L5 := L4.drew.scan hA5 h5 (by simp); obtain ⟨p2, p3⟩ := L5.facts; obtain ⟨_, _, u1, _⟩ := L5.fd.facts))
      all_goals
        go_wp2_with fail
        go_end0
        exact ⟨rfl, L5.value _⟩
  case false =>
    rw [q3, if_neg (by simp)] at hR
    simp only [q3, Bool.false_eq_true, if_false] at k3
    obtain ⟨rfl, rfl, rfl, rfl⟩ : 0 = kd ∧ cutL s.data.toList a b = v ∧ b = a' ∧ nb = no' := by
      injection hR with e1 e2; injection e1 with e3 e4; injection e4 with e5 e6; injection e2 with e7 e8; exact ⟨e3, e5, e7, e8⟩
    clear hR q1 q3 hm hL
    generalize mkS (cutL s.data.toList a b) = V at kW ⊢
    rcases q2' with rfl | ⟨rfl, q4⟩
    · clear k2
      go_enter Try.func93, Try.ntmps93
      go_wp2_with (first
        | (go_at_call 55; refine (kI _ h.sc).mono ?_; rintro e w1 ⟨rfl, h1, hA1⟩; have L1 := h.scan hA1 h1 (by simp); obtain ⟨x0, _, _⟩ := L1.rd.facts)
        | (go_at_call 63; refine (kW _ L1.sc).mono ?_; rintro e w2 ⟨rfl, h2, hA2⟩; have L2 := L1.scan hA2 h2 (by simp); obtain ⟨_, _, y2, _⟩ := L2.fd.facts; obtain ⟨z0, _, _⟩ := (L2.value V).rd.facts)
        | (go_at_call 58; (with_reducible refine (k1 _ (L2.value V).sc).mono ?_); rintro e w3 ⟨rfl, h3, hA3⟩; have L3 := (L2.value V).scan hA3 h3 (by simp); obtain ⟨v0, _, _⟩ := L3.rd.facts)
        | (go_at_call 58; (with_reducible refine (k3 _ L3.sc).mono ?_); rintro e w4 ⟨rfl, h4, hA4⟩; have L4 := L3.scan hA4 h4 (by simp)))
      go_end0
      exact ⟨rfl, L4⟩
    · simp only [q4, Bool.false_eq_true, if_false] at k2
      clear q4
      go_enter Try.func93, Try.ntmps93
      go_wp2_with (first
        | (go_at_call 55; refine (kI _ h.sc).mono ?_; rintro e w1 ⟨rfl, h1, hA1⟩; have L1 := h.scan hA1 h1 (by simp); obtain ⟨x0, _, _⟩ := L1.rd.facts)
        | (go_at_call 63; refine (kW _ L1.sc).mono ?_; rintro e w2 ⟨rfl, h2, hA2⟩; have L2 := L1.scan hA2 h2 (by simp); obtain ⟨_, _, y2, _⟩ := L2.fd.facts; obtain ⟨z0, _, _⟩ := (L2.value V).rd.facts)
        | (go_at_call 58; (with_reducible refine (k1 _ (L2.value V).sc).mono ?_); rintro e w3 ⟨rfl, h3, hA3⟩; have L3 := (L2.value V).scan hA3 h3 (by simp); obtain ⟨v0, _, _⟩ := L3.rd.facts)
        | (go_at_call 58; (with_reducible refine (k2 _ L3.sc).mono ?_); rintro e w6 ⟨rfl, h6, hA6⟩; have L6 := L3.scan hA6 h6 (by simp); obtain ⟨v6, _, _⟩ := L6.rd.facts)
        | (go_at_call 58; (with_reducible refine (k3 _ L6.sc).mono ?_); rintro e w4 ⟨rfl, h4, hA4⟩; have L4 := L6.scan hA4 h4 (by simp)))
      go_end0
      exact ⟨rfl, L4⟩
end Go.Proofs.Ytdngieihlcknmaa
