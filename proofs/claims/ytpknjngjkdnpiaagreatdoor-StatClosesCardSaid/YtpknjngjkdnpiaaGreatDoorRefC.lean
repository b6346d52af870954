/- The walks of the reference's scanner: whole numbers; a row of bytes of the call's own beside the scanner. -/
import Derived.Test.YtpknjngjkdnpiaaGreatDoorRefB
import Derived.Test.YtpknjngjkdnpiaaGreatDoorScanF
import Derived.Deep.AppendLies
import Derived.Deep.RegionHeld3
import Derived.Deep.RegionLaw
import Derived.Deep.CutRange
import Derived.Lib.AppendStr
import Derived.OwnWalk
namespace Go.Proofs.YtpknjngjkdnpiaaGreatDoor
set_option linter.unusedVariables false
set_option linter.unusedSimpArgs false
open Go.RowKit
section
variable {P : Program} (w : World)
theorem step_append_str {ops : Array Oper} {o : Oper} {a : Act} {K : Act → World → Prop} {Q : Exit → Act → World → Prop} {E : Prop} (hgd : o.guard = none) (s x : Operand) (t u : TypeId)
    (ho : o.op = .call { callee := .builtin .append, args := #[s, x], argTypes := #[t, u] })
    (base : Nat) (e : TypeId) (i : TypeInfo) (ht : P.underlying t = some (.slice e)) (hu : P.underlying u = some .string) (hi : P.info? e = some i) (hz : i.zero = some (.int .u8 0)) (hsize : i.size = 1) (hby : i.bytes = 1)
    (v : Value) (n : Nat) (xs : List Value) (hs : a.eval s = v) (hown : w.ownsRow base e 1 v n xs) (st : ByteArray) (hx : a.eval x = .string st)
    (h63 : n + st.size ≤ maxLen) (hbytes : n + st.size ≤ 140737488355328) (hbase : base ≤ w.heap.size)
    (h : ∀ v' w', w'.ownsRow base e 1 v' (n + st.size) (xs ++ Lib.strCells st) → w.grownBy w' v.ownBlock → K (a.put o.dst v') w') :
    if Region.wanted o (yielded ops a.tmps) = true then Oper.wp P o a w K Q else E := by
  have hw : Region.wanted o (yielded ops a.tmps) = true := by simp [Region.wanted, hgd]
  rw [if_pos hw]
  obtain ⟨v', w', hrun, h2, h3, _⟩ := Lib.run_append_own_string (P := P) w base t u o.type e i ht hu hi hz hsize hby v n xs hown st h63 hbytes hbase
  unfold Oper.wp execOp
  simp only [ho, resolve, invoke, builtin, Sem.run_bind, Sem.run_pure, Result.andThen_ok, List.map_toArray, List.map_cons, List.map_nil, hs, hx, hrun]
  exact h v' w' h2 h3
end
set_option maxRecDepth 100000 in
set_option maxHeartbeats 3200000 in
theorem number_ref (g : Nat) (s : ByteArray) (a : Nat) (no : Bool) (b' : Nat) (n' : Bool) (w : World) (h : Sr w g s a no) (ha : a ≤ s.size) (hs : s.size ≤ 1048576) (hR : numS s.data.toList a no = (b', n')) :
    Calls Tryz.prog 43 #[.pointer (some ⟨g, 0, none⟩), .bool true] w fun e w' => e = .returned (.string (mkS (cutL s.data.toList a b'))) ∧ Sr w' g s b' n' ∧ Aw [g] w w' := by
  have hL : s.data.toList.length = s.size := by simp
  obtain ⟨⟨c0, c1, c2⟩, f1, f2⟩ := h.facts
  cases no
  case true =>
    obtain ⟨rfl, rfl⟩ : a = b' ∧ true = n' := by unfold numS at hR; injection hR with e1 e2; exact ⟨e1, e2⟩
    have h0 : mkS (cutL s.data.toList a a) = ⟨#[]⟩ := by unfold cutL; simp [mkS]
    rw [h0]
    clear h0 hR hL
    go_enter Tryz.func43, Tryz.ntmps43
    go_wp2_with fail
    go_ret
    exact ⟨rfl, h, Aw.refl _ _⟩
  case false =>
    have hle := takeA_le s.data.toList a false 45 (by rw [hL]; exact ha)
    unfold numS at hR
    simp only [Bool.false_eq_true, if_false] at hR
    have hl2 := someS_le s.data.toList digB (takeA s.data.toList a false 45) false hle.2
    rw [hR] at hl2
    rw [hL] at hle hl2
    simp only at hl2
    have hi0 : (0 : Int) ≤ a := by omega
    have hi1 : (a : Int) ≤ b' := by omega
    have hi2 : (b' : Int) ≤ s.size := by omega
    have kN := fun W h => next_any g s a false W h (Nat.le_trans hs (by decide)) ha
    have hq : (bt s.data.toList a == 45) = isB s.data.toList a false 45 := by
      unfold isB pkB
      by_cases hlt : a < s.size
      · simp [hlt]
      · rw [bt_end (by omega)]; simp [hlt]
    unfold takeA at hle hR
    cases hb : isB s.data.toList a false 45
    · rw [hb] at hq hle hR
      simp only [Bool.false_eq_true, if_false] at hle hR
      have kR := fun W h => run_dig g s a false b' n' W h ha hs hR
      rw [← ext_cut]
      clear hR hb hL
      generalize bt s.data.toList a = c at kN hq
      go_enter Tryz.func43, Tryz.ntmps43
      go_wp2_with (first
        | (go_at_call 42; refine (kN _ h).mono ?_; rintro e w1 ⟨rfl, q1, rfl⟩)
        | (go_at_call 40; refine (kR _ (h.drewN _)).mono ?_; rintro e w2 ⟨rfl, h2, hA2⟩; obtain ⟨⟨d0, d1, d2⟩, g1, g2⟩ := h2.facts))
      all_goals
        go_quiet (fail)
        go_wp2_with fail
        go_ret
        exact ⟨rfl, h2.drewN _, (((Aw.refl _ _).drewN _).trans hA2).drewN _⟩
    · rw [hb] at hq hle hR
      simp only [if_true] at hle hR
      have kR := fun W h => run_dig g s (a + 1) false b' n' W h hle.2 hs hR
      rw [← ext_cut]
      clear hR hb hL
      generalize bt s.data.toList a = c at kN hq
      go_enter Tryz.func43, Tryz.ntmps43
      go_wp2_with (first
        | (go_at_call 42; refine (kN _ h).mono ?_; rintro e w1 ⟨rfl, q1, rfl⟩)
        | (go_at_call 40; refine (kR _ (h.drewN q1).at1).mono ?_; rintro e w2 ⟨rfl, h2, hA2⟩; obtain ⟨⟨d0, d1, d2⟩, g1, g2⟩ := h2.facts))
      all_goals
        go_quiet (fail)
        go_wp2_with fail
        go_ret
        exact ⟨rfl, h2.drewN _, ((((Aw.refl _ _).drewN _).setCell (.inl (by simp)) _).trans hA2).drewN _⟩
/-- The reference's scanner, and a row of bytes of the call's own. -/
def SB (w0 w : World) (g : Nat) (s : ByteArray) (b : Nat) (nb : Bool) (acc : List UInt8) (v : Value) : Prop := Sr w g s b nb ∧ w.ownsRow w0.heap.size 5 1 v acc.length (Lib.byteCells acc) ∧ Aw [g] w0 w ∧ g < w0.heap.size
section
variable {w0 w w1 : World} {g : Nat} {s : ByteArray} {b : Nat} {nb : Bool} {acc : List UInt8} {v : Value}
theorem SB.drew (h : SB w0 w g s b nb acc v) : SB w0 w.drew g s b nb acc v := ⟨h.1.drew, h.2.1, h.2.2.1.drew, h.2.2.2⟩
theorem SB.drewN (h : SB w0 w g s b nb acc v) (n : Nat) : SB w0 (w.drewN n) g s b nb acc v := ⟨h.1.drewN n, own_drewN h.2.1 n, h.2.2.1.drewN n, h.2.2.2⟩
theorem SB.set {p : Addr} {u : Value} {b' : Nat} {nb' : Bool} (h : SB w0 w g s b nb acc v) (hp : p.block = g) (hs : Sr (w.setCell p u) g s b' nb') : SB w0 (w.setCell p u) g s b' nb' acc v :=
  ⟨hs, own_aw h.2.1 (S := [g]) ((Aw.refl _ _).setCell (.inl (by rw [hp]; simp)) u) (fun i hi e => by
    rw [List.mem_singleton] at e; subst e; exact own_blk_ne h.2.1 h.1 (by decide) hi), h.2.2.1.setCell (.inl (by rw [hp]; simp)) u, h.2.2.2⟩
/-- Behind an append. -/
theorem SB.app {w2 : World} {v' : Value} {xs : List UInt8} {n : Nat} (h : SB w0 w g s b nb acc v) (o : Obj) (hg : (w.alloc o).grownBy w2 v.ownBlock) (hn : n = (acc ++ xs).length) (ho : w2.ownsRow w0.heap.size 5 1 v' n (Lib.byteCells acc ++ Lib.byteCells xs)) : SB w0 w2 g s b nb (acc ++ xs) v' := by
  subst hn
  exact ⟨Blk.grown (Blk.alloc h.1 o) hg (fun e => own_blk_ne h.2.1 h.1 (by decide) e.symm), by rw [byteCells_app]; exact ho,
    (h.2.2.1.alloc o).grown hg (fun k hk => .inr (h.2.1.lt k hk).1), h.2.2.2⟩
theorem SB.app0 {w2 : World} {v' : Value} {xs : List UInt8} {n : Nat} (h : SB w0 w g s b nb acc v) (hg : w.grownBy w2 v.ownBlock) (hn : n = (acc ++ xs).length) (ho : w2.ownsRow w0.heap.size 5 1 v' n (Lib.byteCells acc ++ Lib.byteCells xs)) : SB w0 w2 g s b nb (acc ++ xs) v' := by
  subst hn
  exact ⟨Blk.grown h.1 hg (fun e => own_blk_ne h.2.1 h.1 (by decide) e.symm), by rw [byteCells_app]; exact ho,
    h.2.2.1.grown hg (fun k hk => .inr (h.2.1.lt k hk).1), h.2.2.2⟩
end
theorem frontC {s : ByteArray} {a n : Nat} {q : Bool} (h : frontU s.data.toList a = (n, q)) (ha : a < s.size) (hs : s.size ≤ 4611686018427387904) (w : World) (k : Nat) : Calls Tryz.prog 135 #[.string s, .int .i64 a] (w.drewN k) fun e w' => e = .returned (.tuple #[.int .i64 (n : Int), .bool q]) ∧ w.drewN k = w' := by
  have := refFront_any s a (w.drewN k) ha hs
  rw [h] at this; exact this
theorem escB_has {l m : List UInt8} {b : Nat} (h : b + 1 < l.length) : escB l m b = hasB m (bt l (b + 1)) := by
  unfold escB hasB; simp [h]
end Go.Proofs.YtpknjngjkdnpiaaGreatDoor
