/- Tenants: what they may; Add, Names. -/
import Derived.Test.YtjffagffjcbolaaTenD
namespace Go.Proofs.Ytjffagffjcbolaa
set_option linter.unusedVariables false
set_option linter.unusedSimpArgs false
open Go.RowKit
def isP (p : Int) : Bool := decide (1 ≤ p) && decide (p ≤ 4)
theorem isProto_any (p : Int) (w : World) : Calls Try.prog 42 #[.int .i64 p] w fun e w' => e = .returned (.bool (isP p)) ∧ w' = w := by
  cases h1 : decide ((1 : Int) ≤ p)
  · go_enter Try.func42, Try.ntmps42
    go_wp2_with fail
    go_ret
    exact ⟨ret_bool (by unfold isP; rw [h1]; rfl), rfl⟩
  · go_enter Try.func42, Try.ntmps42
    go_wp2_with fail
    go_ret
    exact ⟨ret_bool (by unfold isP; rw [h1]; first | rfl | simp), rfl⟩
/-- Has a configuration a protocol? -/
def allowsB (protos p : Int) : Bool := isP p && (bits .and .i64 (protos / 2 ^ p.toNat) 1 == 1)
theorem isP_cases (p : Int) : isP p = false ∨ p = 1 ∨ p = 2 ∨ p = 3 ∨ p = 4 := by
  unfold isP
  simp only [Bool.and_eq_false_iff, decide_eq_false_iff_not]
  omega
theorem allows_any (x : VCfg) (p : Int) (w : World) : Calls Try.prog 29 #[.agg #[.int .i64 x.protos, .int .i64 x.bytes, .int .i64 x.points, .int .i64 x.store, .int .i64 x.mode, .int .i64 x.unit, .slice x.A x.rules.length x.c], .int .i64 p] w fun e w' => e = .returned (.bool (allowsB x.protos p)) ∧ Aw [] w w' := by
  have k := fun W => isProto_any p W
  have hA := (Aw.refl [] w).alloc (.cells #[.int .i64 x.protos, .int .i64 x.bytes, .int .i64 x.points, .int .i64 x.store, .int .i64 x.mode, .int .i64 x.unit, .slice x.A x.rules.length x.c] 30)
  rcases isP_cases p with h | rfl | rfl | rfl | rfl
  · rw [h] at k
    have HX : Hid (allowsB x.protos p = false) := Lib.hid (by unfold allowsB; rw [h]; rfl)
    go_enter Try.func29, Try.ntmps29
    go_wp2_with (go_at_call 42; (with_reducible refine (k _).mono ?_); rintro e w1 ⟨rfl, hw1⟩; rw [hw1]; clear hw1 w1)
    go_ret
    exact ⟨ret_bool (by rw [HX.out]), hA⟩
  all_goals
    have k' : ∀ W, Calls Try.prog 42 #[.int .i64 _] W fun e w' => e = .returned (.bool true) ∧ w' = W := k
    clear k
    go_enter Try.func29, Try.ntmps29
    go_wp2_with (go_at_call 42; (with_reducible refine (k' _).mono ?_); rintro e w1 ⟨rfl, hw1⟩; rw [hw1]; clear hw1 w1)
    go_ret
    exact ⟨ret_bool (by first | rfl | (unfold allowsB; rfl)), hA⟩
def notMay (protos p : Int) : Bool := !allowsB protos p
theorem mayClo_any (x : VCfg) (p : Int) (cb : Nat) (w : World) (h : Blk w cb 30 #[.int .i64 x.protos, .int .i64 x.bytes, .int .i64 x.points, .int .i64 x.store, .int .i64 x.mode, .int .i64 x.unit, .slice x.A x.rules.length x.c]) : Calls Try.prog 28 #[.int .i64 p, .pointer (some ⟨cb, 0, none⟩)] w fun e w' => e = .returned (.bool (notMay x.protos p)) ∧ Aw [] w w' := by
  have k := fun W => allows_any x p W
  have HX : Hid (notMay x.protos p = !allowsB x.protos p) := Lib.hid rfl
  generalize allowsB x.protos p = V at k HX
  have c0 := (Blk.cell h 0).trans rfl; have c1 := (Blk.cell h 1).trans rfl; have c2 := (Blk.cell h 2).trans rfl; have c3 := (Blk.cell h 3).trans rfl; have c4 := (Blk.cell h 4).trans rfl; have c5 := (Blk.cell h 5).trans rfl; have c6 := (Blk.cell h 6).trans rfl
  go_enter Try.func28, Try.ntmps28
  go_wp2_with (go_at_call 29; (with_reducible refine (k _).mono ?_); rintro e w1 ⟨rfl, hA1⟩)
  go_ret
  exact ⟨ret_bool (by rw [HX.out]), hA1⟩
def intCell (z : Int) : List Value := [.int .i64 z]
set_option maxHeartbeats 1600000 in
theorem midx_any (x : VCfg) (cb : Nat) (A : Option Addr) (n cap : Nat) (zs : List Int) (w : World) (hb : Blk w cb 30 #[.int .i64 x.protos, .int .i64 x.bytes, .int .i64 x.points, .int .i64 x.store, .int .i64 x.mode, .int .i64 x.unit, .slice x.A x.rules.length x.c]) (hl : IsRows intCell 1 w w.heap.size A n zs) (hn : n ≤ 9223372036854775807) :
    Calls Try.prog 41 #[.slice A n cap, .func (.func 28) #[] #[.pointer (some ⟨cb, 0, none⟩)]] w fun e w' => (∃ r : Int, e = .returned (.int .i64 r) ∧ decide (0 ≤ r) = zs.any (notMay x.protos)) ∧ Aw [] w w' := by
  have hll := hl.1
  have hcl := Blk.lt hb
  go_enter Try.func41, Try.ntmps41
  go_wp2_with fail
  go_loopw [8] (fun i wr => Aw [] w wr ∧ ∃ k : Nat, k ≤ n ∧ i = .int .i64 k ∧ Hid (∀ j z, j < k → zs[j]? = some z → notMay x.protos z = false)) (fun i _ => n - (intOf i).toNat)
  case atStart => exact ⟨Aw.refl _ _, 0, by omega, rfl, Lib.hid (fun j x h => by omega)⟩
  case round =>
    obtain ⟨hbw, k, hk, rfl, HG⟩ := hrel
    by_cases hlt : k < n
    · have hdk : decide ((k : Int) < n) = true := decide_eq_true (by omega)
      have hk0 : (0 : Int) ≤ k := by omega
      have hk1 : (k : Int) < n := by omega
      obtain ⟨b, off, rfl, hgb, hcs⟩ := (hl.aw hbw (Nat.le_refl _) (by simp)).2 (by omega)
      obtain ⟨Z, hZ⟩ : ∃ Z, zs[k]? = some Z := ⟨_, List.getElem?_eq_getElem (by omega)⟩
      have q0 : wr.cell? ⟨b, off + k, none⟩ = some (.int .i64 Z) := by have := hcs k Z 0 _ hZ rfl; simpa using this
      have kW := mayClo_any x Z cb wr (Blk.aw hb hbw (by simp))
      clear hcs
      cases hq : notMay x.protos Z
      · rw [hq] at kW
        have HF : Hid (∀ j z, j < k + 1 → zs[j]? = some z → notMay x.protos z = false) := Lib.hid (fun j y hj hy => by
          by_cases e : j = k
          · subst e; rw [hZ] at hy; injection hy with hy; rw [← hy]; exact hq
          · exact HG.out j y (by omega) hy)
        clear hq HG hZ
        go_wp2_with (go_at_call 28; (with_reducible refine kW.mono ?_); rintro e w1 ⟨rfl, hb1⟩)
        exact ⟨⟨hbw.trans hb1, k + 1, by omega, rfl, HF⟩, by (simp only [intOf]; omega)⟩
      · rw [hq] at kW
        have HF : Hid (zs.any (notMay x.protos) = true) := Lib.hid (List.any_eq_true.2 ⟨Z, List.mem_of_getElem? hZ, hq⟩)
        clear hq HG hZ
        go_wp2_with (go_at_call 28; (with_reducible refine kW.mono ?_); rintro e w1 ⟨rfl, hb1⟩)
        go_ret
        exact ⟨⟨k, rfl, by rw [HF.out]; exact decide_eq_true (by omega)⟩, hbw.trans hb1⟩
    · have hdk : decide ((k : Int) < n) = false := decide_eq_false (by omega)
      have HF : Hid (zs.any (notMay x.protos) = false) := Lib.hid (by
        rw [List.any_eq_false]
        intro y hy
        obtain ⟨j, hj, rfl⟩ := List.getElem_of_mem hy
        rw [HG.out j _ (by omega) (List.getElem?_eq_getElem hj)]; simp)
      clear HG
      go_wp2_with fail
      go_ret
      exact ⟨⟨-1, rfl, by rw [HF.out]; rfl⟩, hbw⟩
theorem mcon_any (x : VCfg) (cb : Nat) (A : Option Addr) (n cap : Nat) (zs : List Int) (w : World) (hb : Blk w cb 30 #[.int .i64 x.protos, .int .i64 x.bytes, .int .i64 x.points, .int .i64 x.store, .int .i64 x.mode, .int .i64 x.unit, .slice x.A x.rules.length x.c]) (hl : IsRows intCell 1 w w.heap.size A n zs) (hn : n ≤ 9223372036854775807) :
    Calls Try.prog 27 #[.slice A n cap, .func (.func 28) #[] #[.pointer (some ⟨cb, 0, none⟩)]] w fun e w' => e = .returned (.bool (zs.any (notMay x.protos))) ∧ Aw [] w w' := by
  have kI := midx_any x cb A n cap zs w hb hl hn
  clear hb hl
  go_enter Try.func27, Try.ntmps27
  go_wp2_with (go_at_call 41; (with_reducible refine kI.mono ?_); rintro e w1 ⟨⟨r, rfl, hr⟩, hb1⟩)
  go_ret
  first | exact ⟨ret_bool hr, hb1⟩ | exact ⟨rfl, hb1⟩
/-- What is told of a tenant and protocols. -/
def mayE (m : Bk) (k : List UInt8) (zs : List Int) : Nat := if hasKV m k then (if zs.any (notMay (lookB m k).protos) then 17 else 0) else 18
set_option maxRecDepth 100000 in
set_option maxHeartbeats 3200000 in
theorem bmay_any (p b : Nat) (m : Bk) (s : ByteArray) (A : Option Addr) (n cap : Nat) (zs : List Int) (w : World) (h : BookAt w p b m) (hs : s.size ≤ maxLen) (hl : IsRows intCell 1 w w.heap.size A n zs) (hn : n ≤ 9223372036854775807) :
    Calls Try.prog 15 #[.pointer (some ⟨p, 0, none⟩), .string s, .slice A n cap] w fun e w' => e = .returned (.int .i64 (mayE m s.data.toList zs : Nat)) ∧ Below w.heap.size w w' := by
  have c0 := (Blk.cell h.blk 0).trans rfl
  have hlt := Blk.lt h.blk
  obtain ⟨x, hx⟩ : ∃ x, lookB m s.data.toList = x := ⟨_, rfl⟩
  obtain ⟨hv, hh⟩ : ∃ hv, hasKV m s.data.toList = hv := ⟨_, rfl⟩
  have HE : Hid (mayE m s.data.toList zs = if hv then (if zs.any (notMay x.protos) then 17 else 0) else 18) := Lib.hid (by unfold mayE; rw [hx, hh])
  have hA := (Aw.refl [] w).alloc (.cells #[.int .i64 x.protos, .int .i64 x.bytes, .int .i64 x.points, .int .i64 x.store, .int .i64 x.mode, .int .i64 x.unit, .slice x.A x.rules.length x.c] 30)
  have hB := Blk.new w 30 #[.int .i64 x.protos, .int .i64 x.bytes, .int .i64 x.points, .int .i64 x.store, .int .i64 x.mode, .int .i64 x.unit, .slice x.A x.rules.length x.c]
  go_enter Try.func15, Try.ntmps15
  go_upto_region 2 with (at_lookup; refine wpList_lookup_cfg _ rfl _ _ rfl b m rfl h.own s hs rfl x hv hx hh ?_)
  have hl2 := (hl.aw hA (Nat.le_refl _) (by simp)).more hA.size
  have kC := mcon_any x w.heap.size A n cap zs _ hB hl2 hn
  generalize w.alloc (.cells #[.int .i64 x.protos, .int .i64 x.bytes, .int .i64 x.points, .int .i64 x.store, .int .i64 x.mode, .int .i64 x.unit, .slice x.A x.rules.length x.c] 30) = W at *
  generalize zs.any (notMay x.protos) = V at *
  clear h c0 hl hl2 hx hh
  cases hv
  · go_wp2_with fail
    go_ret
    exact ⟨by rw [HE.out]; rfl, hA.none_bel⟩
  · cases V
    all_goals
      go_wp2_with (go_at_call 27; (with_reducible refine kC.mono ?_); rintro e w1 ⟨rfl, hb1⟩)
      go_ret
      exact ⟨by rw [HE.out]; rfl, (hA.trans hb1).none_bel⟩
end Go.Proofs.Ytjffagffjcbolaa
