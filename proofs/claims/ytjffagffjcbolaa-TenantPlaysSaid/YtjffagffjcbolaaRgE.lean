/- The walks of the reference's gateway: New, Find, May. -/
import Derived.Test.YtjffagffjcbolaaRgD
import Derived.Deep.RegionHeld3
namespace Go.Proofs.Ytjffagffjcbolaa
set_option linter.unusedVariables false
set_option linter.unusedSimpArgs false
open Go.RowKit
/-- A tenant of the reference's. -/
structure VTen where
  name : ByteArray
  cfg : VCfg
  t : Nat
def tenCell (x : VTen) : List Value := [.string x.name, .int .i64 x.cfg.protos, .int .i64 x.cfg.bytes, .int .i64 x.cfg.points, .int .i64 x.cfg.store, .int .i64 x.cfg.mode, .int .i64 x.cfg.unit, .slice x.cfg.A x.cfg.rules.length x.cfg.c, .string x.name, .slice none 0 0, .pointer (some ⟨x.t, 0, none⟩)]
theorem tenCell_len (x : VTen) : (tenCell x).length = 11 := rfl
/-- The gateway: where its tenants lie. -/
structure GwAt (w : World) (q : Nat) (at_ : Int) (A : Option Addr) (c : Nat) (R : List VTen) : Prop where
  blk : Blk w q 50 #[.slice A R.length c, .int .i64 at_]
  rows : IsRows tenCell 11 w w.heap.size A R.length R
  cap : R.length ≤ c ∧ c ≤ maxLen ∧ ((A = none ∧ c = 0) ∨ ∃ b off, A = some ⟨b, off, none⟩)
  cfg : ∀ x ∈ R, CfgAt w w.heap.size x.cfg
section
variable {w w' : World} {q : Nat} {at_ : Int} {A : Option Addr} {c : Nat} {R : List VTen}
theorem GwAt.bel (h : GwAt w q at_ A c R) (k : Below w.heap.size w w') : GwAt w' q at_ A c R := ⟨h.blk.below k (Blk.lt h.blk), (h.rows.below k).more k.size, h.cap, fun x hx => (h.cfg x hx).bel k⟩
theorem GwAt.alloc (h : GwAt w q at_ A c R) (o : Obj) : GwAt (w.alloc o) q at_ A c R := h.bel ((Below.refl _ _).alloc (Nat.le_refl _) o)
end
/-- Where the first tenant of a name stands. -/
def ixN (R : List VTen) (s : ByteArray) : Int := match R.findIdx? (fun x => x.name.data.toList == s.data.toList) with
  | some k => k
  | none => -1
theorem ixN_cases (R : List VTen) (s : ByteArray) : (ixN R s = -1 ∧ ∀ x ∈ R, x.name.data.toList ≠ s.data.toList) ∨ ∃ (k : Nat) (x : VTen), ixN R s = (k : Int) ∧ R[k]? = some x ∧ x.name.data.toList = s.data.toList ∧ k < R.length := by
  unfold ixN
  cases h : R.findIdx? (fun x => x.name.data.toList == s.data.toList) with
  | none =>
    left
    refine ⟨rfl, fun x hx e => ?_⟩
    have := List.findIdx?_eq_none_iff.1 h x hx
    rw [e] at this
    simp at this
  | some k =>
    right
    obtain ⟨hk, h1, _⟩ := List.findIdx?_eq_some_iff_getElem.1 h
    exact ⟨k, R[k], rfl, List.getElem?_eq_getElem hk, eq_of_beq h1, hk⟩
theorem ixN_yes {R : List VTen} {s : ByteArray} {k : Nat} {x : VTen} (hx : R[k]? = some x) (he : x.name.data.toList = s.data.toList) (h : ∀ j y, j < k → R[j]? = some y → y.name.data.toList ≠ s.data.toList) : ixN R s = (k : Int) := by
  unfold ixN
  have hk : k < R.length := (List.getElem?_eq_some_iff.1 hx).1
  have : R.findIdx? (fun x => x.name.data.toList == s.data.toList) = some k := by
    rw [List.findIdx?_eq_some_iff_getElem]
    have e : R[k] = x := (List.getElem?_eq_some_iff.1 hx).2
    refine ⟨hk, by rw [e, he]; simp, fun j hj => ?_⟩
    have := h j _ hj (List.getElem?_eq_getElem (by omega))
    simpa using this
  rw [this]
theorem ixN_no {R : List VTen} {s : ByteArray} (h : ∀ j y, j < R.length → R[j]? = some y → y.name.data.toList ≠ s.data.toList) : ixN R s = -1 := by
  rcases ixN_cases R s with ⟨h1, _⟩ | ⟨k, x, _, hx, he, hk⟩
  · exact h1
  · exact absurd he (h k x hk hx)
theorem gnew_any (w : World) : Calls Try.prog 9 #[] w fun e w' => ∃ a : Int, e = .returned (.pointer (some ⟨w.heap.size, 0, none⟩)) ∧ GwAt w' w.heap.size a none 0 [] ∧ Below w.heap.size w w' := by
  go_enter Try.func9, Try.ntmps9
  go_wp2_with fail
  go_ret
  exact ⟨_, rfl, ⟨Blk.new w _ _, IsRows.nil_, ⟨Nat.le_refl _, Nat.zero_le _, .inl ⟨rfl, rfl⟩⟩, by intro x hx; cases hx⟩, bl_alloc (Below.refl _ _) _⟩
set_option maxRecDepth 100000 in
set_option maxHeartbeats 1600000 in
theorem gfind_any (q : Nat) (at_ : Int) (A : Option Addr) (c : Nat) (R : List VTen) (s : ByteArray) (w : World) (h : GwAt w q at_ A c R) (hR : R.length ≤ 1000) :
    Calls Try.prog 19 #[.pointer (some ⟨q, 0, none⟩), .string s] w fun e w' => e = .returned (.int .i64 (ixN R s)) ∧ w' = w := by
  have c0 := (Blk.cell h.blk 0).trans rfl
  have hrw := h.rows
  obtain ⟨V, hV⟩ : ∃ V, ixN R s = V := ⟨_, rfl⟩
  have HV := Lib.hid hV
  rw [hV]
  clear h hV
  generalize hn : R.length = n at *
  have HN := Lib.hid hn
  clear hn
  go_enter Try.func19, Try.ntmps19
  go_wp2_with fail
  go_loop [5] (fun i => ∃ k : Nat, k ≤ n ∧ i = .int .i64 k ∧ Hid (∀ j y, j < k → R[j]? = some y → y.name.data.toList ≠ s.data.toList)) (fun i => n - (intOf i).toNat)
  case atStart => exact ⟨0, by omega, rfl, Lib.hid (fun j x h => by omega)⟩
  case round =>
    obtain ⟨k, hk, rfl, HG⟩ := hrel
    by_cases hlt : k < n
    · have hdk : decide ((k : Int) < (n : Int)) = true := decide_eq_true (by omega)
      have hk0 : (0 : Int) ≤ k := by omega
      have hk1 : (k : Int) < (n : Int) := by omega
      obtain ⟨b, off, hA, hb, hcs⟩ := hrw.2 (by omega)
      rw [hA] at c0
      obtain ⟨X, hX⟩ : ∃ X, R[k]? = some X := ⟨_, List.getElem?_eq_getElem (by have := HN.out; omega)⟩
      have q0 : w.cell? ⟨b, off + k * 11, none⟩ = some (.string X.name) := hcs k X 0 _ hX rfl
      have HXS : Hid ((X.name.toList == s.toList) = (X.name.data.toList == s.data.toList)) := Lib.hid (by rw [ByteArray.toList_eq, ByteArray.toList_eq])
      have HX := Lib.hid hX
      clear hcs hA hX
      cases hq : (X.name.toList == s.toList)
      · have HF : Hid (∀ j y, j < k + 1 → R[j]? = some y → y.name.data.toList ≠ s.data.toList) := Lib.hid (fun j y hj hy => by
          by_cases e : j = k
          · subst e; rw [HX.out] at hy; injection hy with hy; rw [← hy]
            have := HXS.out; rw [hq] at this
            exact beq_eq_false_iff_ne.1 this.symm
          · exact HG.out j y (by omega) hy)
        clear HG
        go_wp2_with fail
        exact ⟨⟨k + 1, by omega, rfl, HF⟩, by (simp only [intOf]; omega)⟩
      · have HF : Hid (V = (k : Int)) := Lib.hid (by
          rw [← HV.out]
          exact ixN_yes HX.out (by have := HXS.out; rw [hq] at this; exact eq_of_beq this.symm) HG.out)
        clear HG
        go_wp2_with fail
        go_ret
        exact ⟨ret_int HF.out.symm, rfl⟩
    · have hdk : decide ((k : Int) < (n : Int)) = false := decide_eq_false (by omega)
      have HF : Hid (V = -1) := Lib.hid (by
        rw [← HV.out]
        exact ixN_no (fun j y hj hy => HG.out j y (by have := HN.out; omega) hy))
      clear HG
      go_wp2_with fail
      go_ret
      exact ⟨ret_int HF.out.symm, rfl⟩
/-- What the reference tells of formats. -/
def rmayE (R : List VTen) (s : ByteArray) (zs : List Int) : Nat := match R.find? (fun x => x.name.data.toList == s.data.toList) with
  | some x => if zs.any (notMay x.cfg.protos) then 17 else 0
  | none => 18
set_option maxRecDepth 100000 in
set_option maxHeartbeats 3200000 in
theorem gmay_none (q : Nat) (at_ : Int) (A : Option Addr) (c : Nat) (R : List VTen) (s : ByteArray) (pA : Option Addr) (pn pc : Nat) (w : World) (h : GwAt w q at_ A c R) (hR : R.length ≤ 1000) (hf : ixN R s = -1) :
    Calls Try.prog 16 #[.pointer (some ⟨q, 0, none⟩), .string s, .slice pA pn pc] w fun e w' => e = .returned (.int .i64 18) ∧ Below w.heap.size w w' := by
  have kF := gfind_any q at_ A c R s w h hR
  rw [hf] at kF
  clear hf
  go_enter Try.func16, Try.ntmps16
  go_wp2_with (go_at_call 19; (with_reducible refine kF.mono ?_); rintro e w1 ⟨rfl, hw1⟩; rw [hw1]; clear hw1 w1)
  go_ret
  exact ⟨rfl, Below.refl _ _⟩
set_option maxRecDepth 100000 in
set_option maxHeartbeats 3200000 in
theorem gmay_some (q : Nat) (at_ : Int) (A : Option Addr) (c : Nat) (R : List VTen) (s : ByteArray) (pA : Option Addr) (pn pc : Nat) (zs : List Int) (w : World) (h : GwAt w q at_ A c R) (hR : R.length ≤ 1000) (K : Nat) (X : VTen) (hf : ixN R s = (K : Int)) (hX : R[K]? = some X) (hz : IsRows intCell 1 w w.heap.size pA pn zs) (hpn : pn ≤ 1000) :
    Calls Try.prog 16 #[.pointer (some ⟨q, 0, none⟩), .string s, .slice pA pn pc] w fun e w' => e = .returned (.int .i64 ((if zs.any (notMay X.cfg.protos) then 17 else 0 : Nat) : Int)) ∧ Below w.heap.size w w' := by
  have kF := gfind_any q at_ A c R s w h hR
  rw [hf] at kF
  clear hf
  have hK : K < R.length := (List.getElem?_eq_some_iff.1 hX).1
  have hzl := hz.1
  have HX := Lib.hid hX
  obtain ⟨V, hV⟩ : ∃ V, zs.any (notMay X.cfg.protos) = V := ⟨_, rfl⟩
  have HV := Lib.hid hV
  rw [hV]
  obtain ⟨E, hE⟩ : ∃ E : Nat, (if V = true then 17 else 0) = E := ⟨_, rfl⟩
  have HE := Lib.hid hE
  rw [hE]
  clear hX hV hE
  have hK0 : (0 : Int) ≤ K := by omega
  have hK1 : (K : Int) < (R.length : Int) := by omega
  have hKd : decide ((K : Int) < 0) = false := decide_eq_false (by omega)
  go_enter Try.func16, Try.ntmps16
  go_wp2_with (go_at_call 19; (with_reducible refine kF.mono ?_); rintro e w1 ⟨rfl, hw1⟩; rw [hw1]; clear hw1 w1)
  clear kF
  go_loopw [8] (fun i wr => Below w.heap.size w wr ∧ ∃ k : Nat, k ≤ pn ∧ i = .int .i64 k ∧ Hid (∀ j z, j < k → zs[j]? = some z → notMay X.cfg.protos z = false)) (fun i _ => pn - (intOf i).toNat)
  case atStart => exact ⟨Below.refl _ _, 0, by omega, rfl, Lib.hid (fun j x h => by omega)⟩
  case round =>
    obtain ⟨hbw, k, hk, rfl, HG⟩ := hrel
    by_cases hlt : k < pn
    · have hdk : decide ((k : Int) < (pn : Int)) = true := decide_eq_true (by omega)
      have hk0 : (0 : Int) ≤ k := by omega
      have hk1 : (k : Int) < (pn : Int) := by omega
      have hr := h.bel hbw
      have c0 := (Blk.cell hr.blk 0).trans rfl
      obtain ⟨b, off, hA, hb, hcs⟩ := hr.rows.2 (by omega)
      rw [hA] at c0
      have q1 : wr.cell? ⟨b, off + K * 11 + 1, none⟩ = some (.int .i64 X.cfg.protos) := hcs K X 1 _ HX.out rfl
      have q2 : wr.cell? ⟨b, off + K * 11 + 2, none⟩ = some (.int .i64 X.cfg.bytes) := hcs K X 2 _ HX.out rfl
      have q3 : wr.cell? ⟨b, off + K * 11 + 3, none⟩ = some (.int .i64 X.cfg.points) := hcs K X 3 _ HX.out rfl
      have q4 : wr.cell? ⟨b, off + K * 11 + 4, none⟩ = some (.int .i64 X.cfg.store) := hcs K X 4 _ HX.out rfl
      have q5 : wr.cell? ⟨b, off + K * 11 + 5, none⟩ = some (.int .i64 X.cfg.mode) := hcs K X 5 _ HX.out rfl
      have q6 : wr.cell? ⟨b, off + K * 11 + 6, none⟩ = some (.int .i64 X.cfg.unit) := hcs K X 6 _ HX.out rfl
      have q7 : wr.cell? ⟨b, off + K * 11 + 7, none⟩ = some (.slice X.cfg.A X.cfg.rules.length X.cfg.c) := hcs K X 7 _ HX.out rfl
      obtain ⟨pb, po, rfl, hpb, hps⟩ := (hz.bel hbw).2 (by omega)
      obtain ⟨Z, hZ⟩ : ∃ Z, zs[k]? = some Z := ⟨_, List.getElem?_eq_getElem (by omega)⟩
      have z0 : wr.cell? ⟨pb, po + k, none⟩ = some (.int .i64 Z) := by have := hps k Z 0 _ hZ rfl; simpa using this
      have kA := fun W => rallows_any X.cfg Z W
      have HVV : Hid (notMay X.cfg.protos Z = !allowsB X.cfg.protos Z) := Lib.hid rfl
      have HZ := Lib.hid hZ
      clear hcs hA hps hZ
      have hql := Blk.lt hr.blk
      have mkS : ∀ W', Below wr.heap.size wr W' → (W'.cell? ⟨q, 0, none⟩ = some (.slice (some ⟨b, off, none⟩) R.length c) ∧ W'.cell? ⟨b, off + K * 11 + 1, none⟩ = some (.int .i64 X.cfg.protos) ∧ W'.cell? ⟨b, off + K * 11 + 2, none⟩ = some (.int .i64 X.cfg.bytes) ∧ W'.cell? ⟨b, off + K * 11 + 3, none⟩ = some (.int .i64 X.cfg.points) ∧ W'.cell? ⟨b, off + K * 11 + 4, none⟩ = some (.int .i64 X.cfg.store) ∧ W'.cell? ⟨b, off + K * 11 + 5, none⟩ = some (.int .i64 X.cfg.mode) ∧ W'.cell? ⟨b, off + K * 11 + 6, none⟩ = some (.int .i64 X.cfg.unit) ∧ W'.cell? ⟨b, off + K * 11 + 7, none⟩ = some (.slice X.cfg.A X.cfg.rules.length X.cfg.c) ∧ W'.cell? ⟨pb, po + k, none⟩ = some (.int .i64 Z)) ∧ Below wr.heap.size wr W' := fun W' hb' =>
        ⟨⟨(hb'.cell (p := ⟨q, 0, none⟩) hql).trans c0, (hb'.cell (p := ⟨b, off + K * 11 + 1, none⟩) hb).trans q1, (hb'.cell (p := ⟨b, off + K * 11 + 2, none⟩) hb).trans q2, (hb'.cell (p := ⟨b, off + K * 11 + 3, none⟩) hb).trans q3, (hb'.cell (p := ⟨b, off + K * 11 + 4, none⟩) hb).trans q4, (hb'.cell (p := ⟨b, off + K * 11 + 5, none⟩) hb).trans q5, (hb'.cell (p := ⟨b, off + K * 11 + 6, none⟩) hb).trans q6, (hb'.cell (p := ⟨b, off + K * 11 + 7, none⟩) hb).trans q7, (hb'.cell (p := ⟨pb, po + k, none⟩) hpb).trans z0⟩, hb'⟩
      have hS0 := Below.refl wr.heap.size wr
      have HM := Lib.hid mkS
      clear q1 q2 q3 q4 q5 q6 q7 z0 c0 mkS
      cases hq : allowsB X.cfg.protos Z
      all_goals
        rw [hq] at kA HVV
        clear hq
      · have HF : Hid (V = true) := Lib.hid (by rw [← HV.out]; exact List.any_eq_true.2 ⟨Z, List.mem_of_getElem? HZ.out, HVV.out⟩)
        clear HG
        go_wp2_with fail
        go_region_held3 (fun w' => (w'.cell? ⟨q, 0, none⟩ = some (.slice (some ⟨b, off, none⟩) R.length c) ∧ w'.cell? ⟨b, off + K * 11 + 1, none⟩ = some (.int .i64 X.cfg.protos) ∧ w'.cell? ⟨b, off + K * 11 + 2, none⟩ = some (.int .i64 X.cfg.bytes) ∧ w'.cell? ⟨b, off + K * 11 + 3, none⟩ = some (.int .i64 X.cfg.points) ∧ w'.cell? ⟨b, off + K * 11 + 4, none⟩ = some (.int .i64 X.cfg.store) ∧ w'.cell? ⟨b, off + K * 11 + 5, none⟩ = some (.int .i64 X.cfg.mode) ∧ w'.cell? ⟨b, off + K * 11 + 6, none⟩ = some (.int .i64 X.cfg.unit) ∧ w'.cell? ⟨b, off + K * 11 + 7, none⟩ = some (.slice X.cfg.A X.cfg.rules.length X.cfg.c) ∧ w'.cell? ⟨pb, po + k, none⟩ = some (.int .i64 Z)) ∧ Below wr.heap.size wr w') (first | (with_reducible assumption) | (refine HM.out _ ?_; repeat (first | assumption | exact And.right (by assumption) | refine Below.drew ?_ | refine bl_drewN ?_ _ | refine bl_alloc ?_ _))) (first | (go_at_call 30; (with_reducible refine (kA _).mono ?_); rintro e w1 ⟨rfl, hb1⟩; have S1 := HM.out w1 (bl_any (And.right (by with_reducible assumption)) hb1)))
        all_goals
          rename_i hHeld
          obtain ⟨_, hY⟩ := hHeld
          go_wp2_with fail
          go_ret
          exact ⟨ret_int (by rw [← HE.out, HF.out]; rfl), bl_any hbw hY⟩
      · have HF : Hid (∀ j z, j < k + 1 → zs[j]? = some z → notMay X.cfg.protos z = false) := Lib.hid (fun j y hj hy => by
          by_cases e : j = k
          · subst e; rw [HZ.out] at hy; injection hy with hy; rw [← hy]; exact HVV.out
          · exact HG.out j y (by omega) hy)
        clear HG
        go_wp2_with fail
        go_region_held3 (fun w' => (w'.cell? ⟨q, 0, none⟩ = some (.slice (some ⟨b, off, none⟩) R.length c) ∧ w'.cell? ⟨b, off + K * 11 + 1, none⟩ = some (.int .i64 X.cfg.protos) ∧ w'.cell? ⟨b, off + K * 11 + 2, none⟩ = some (.int .i64 X.cfg.bytes) ∧ w'.cell? ⟨b, off + K * 11 + 3, none⟩ = some (.int .i64 X.cfg.points) ∧ w'.cell? ⟨b, off + K * 11 + 4, none⟩ = some (.int .i64 X.cfg.store) ∧ w'.cell? ⟨b, off + K * 11 + 5, none⟩ = some (.int .i64 X.cfg.mode) ∧ w'.cell? ⟨b, off + K * 11 + 6, none⟩ = some (.int .i64 X.cfg.unit) ∧ w'.cell? ⟨b, off + K * 11 + 7, none⟩ = some (.slice X.cfg.A X.cfg.rules.length X.cfg.c) ∧ w'.cell? ⟨pb, po + k, none⟩ = some (.int .i64 Z)) ∧ Below wr.heap.size wr w') (first | (with_reducible assumption) | (refine HM.out _ ?_; repeat (first | assumption | exact And.right (by assumption) | refine Below.drew ?_ | refine bl_drewN ?_ _ | refine bl_alloc ?_ _))) (first | (go_at_call 30; (with_reducible refine (kA _).mono ?_); rintro e w1 ⟨rfl, hb1⟩; have S1 := HM.out w1 (bl_any (And.right (by with_reducible assumption)) hb1)))
        all_goals
          rename_i hHeld
          obtain ⟨_, hY⟩ := hHeld
          go_wp2_with fail
          exact ⟨⟨bl_any hbw hY, k + 1, by omega, rfl, HF⟩, by (simp only [intOf]; omega)⟩
    · have hdk : decide ((k : Int) < (pn : Int)) = false := decide_eq_false (by omega)
      have HF : Hid (V = false) := Lib.hid (by
        rw [← HV.out, List.any_eq_false]
        intro y hy
        obtain ⟨j, hj, rfl⟩ := List.getElem_of_mem hy
        rw [HG.out j _ (by omega) (List.getElem?_eq_getElem hj)]; simp)
      clear HG
      go_wp2_with fail
      go_ret
      exact ⟨ret_int (by rw [← HE.out, HF.out]; rfl), hbw⟩
end Go.Proofs.Ytjffagffjcbolaa
