/- The walks of package template: may parts be, labels beside them, a rule? -/
import Derived.Test.YtjffagffjcbolaaTplA
import Derived.Deep.RegionHeld3
namespace Go.Proofs.Ytjffagffjcbolaa
set_option linter.unusedVariables false
set_option linter.unusedSimpArgs false
open Go.RowKit
theorem maxLen_is : maxLen = 9223372036854775807 := by decide
theorem Often.aw {S : List Nat} {w w' : World} {B : Nat} {ls : List ByteArray} (h : Often w B ls) (k : Aw S w w') (hB : B ∉ S) : Often w' B ls := by
  obtain ⟨D, ⟨es, clock, hh, r⟩, hc⟩ := h
  have hlt : B < w.heap.size := by
    rcases Nat.lt_or_ge B w.heap.size with h' | h'
    · exact h'
    · rw [Array.getElem?_eq_none h'] at hh; cases hh
  exact ⟨D, ⟨es, clock, (k.block B hlt hB).trans hh, r⟩, hc⟩
theorem Often.bel {w w' : World} {B B0 : Nat} {ls : List ByteArray} (h : Often w B ls) (hb : Below B0 w w') (hB : B < B0) : Often w' B ls := h.below hb hB
/-! ### a look-up behind a guard -/
theorem wpList_wanted {P : Program} {ops : Array Oper} {Q : Exit → Act → World → Prop} {a : Act} {w : World} {rest : List Oper} {o : Oper} (hw : Region.wanted o (yielded ops a.tmps) = true)
    (h : ∀ K : Act → World → Prop, (∀ a w, wpList P ops Q rest a w → K a w) → o.wp P a w K Q) : wpList P ops Q (o :: rest) a w :=
  wpList_step fun K hK => by rw [if_pos hw]; exact h K hK
theorem wpList_lookup_wanted {H : Type} {P : Program} (w : World) {ops : Array Oper} {rest : List Oper} {o : Oper} {a : Act} {Q : Exit → Act → World → Prop}
    (hw : Region.wanted o (yielded ops a.tmps) = true) (m x : Operand) (t : TypeId) (hop : o.op = Op.lookup t m x false)
    (k e : TypeId) (q : IntKind) (K : Maps.Keyed P k) (ht : P.underlying t = some (.map k e)) (he : P.underlying e = some (.int q)) (hz : (zeroValue e).run P w = .ok (.int q 0) w) (b n : Nat) (D : DataW H)
    (hm : a.eval m = .map (some b)) (hown : w.ownsMap P k (plainElem P e) b n D) (key : Value) (kl : Lit) (hx : a.eval x = key) (hkey : keyOf P k key = some kl)
    (hK : ∀ c : Int, D.atKey kl (.lit (.int q 0)) = .lit (.int q c) → (Lit.int q c).wf = true → wpList P ops Q rest (a.put o.dst (.int q c)) w) :
    wpList P ops Q (o :: rest) a w := by
  refine wpList_wanted hw fun K' hK' => ?_
  obtain ⟨c, hrun, hat, hwc⟩ := hown.lookup_int K ht he hz hkey
  unfold Oper.wp
  simp [execOp, hop, hm, hx, hrun, Result.andThen]
  exact hK' _ _ (hK c hat hwc)
/-! ### the closures -/
theorem goodClo_any (x : ByteArray) (w : World) (hx : x.size ≤ 9223372036854775807) : Calls Try.prog 47 #[.string x] w fun e w' => e = .returned (.bool (wrongF x)) ∧ w' = w := by
  have k := fun W => isText_any x W hx
  have HB : Hid (wrongF x = (!isE x && !textB x)) := Lib.hid rfl
  have HE : Hid (isE x = (x.toList == [42])) := Lib.hid (by unfold isE; rw [ByteArray.toList_eq])
  generalize textB x = Q at k HB
  cases he : (x.toList == [42])
  · go_enter Try.func47, Try.ntmps47
    go_wp2_with (go_at_call 48; refine (k _).mono ?_; rintro e w1 ⟨rfl, hw1⟩; rw [hw1]; clear hw1 w1)
    go_ret
    exact ⟨ret_bool (by rw [HB.out, HE.out, he]; rfl), rfl⟩
  · go_enter Try.func47, Try.ntmps47
    go_wp2_with fail
    go_ret
    exact ⟨ret_bool (by rw [HB.out, HE.out, he]; rfl), rfl⟩
set_option maxRecDepth 100000 in
theorem partClo_any (x : ByteArray) (cb B : Nat) (ls : List ByteArray) (w : World) (hx : x.size ≤ 9223372036854775807) (hcb : Blk w cb 101 #[.map (some B)]) (hO : Often w B ls) :
    Calls Try.prog 64 #[.string x, .pointer (some ⟨cb, 0, none⟩)] w fun e w' => e = .returned (.bool (wrongP ls x)) ∧ w' = w := by
  have k := fun W => isText_any x W hx
  have HB : Hid (wrongP ls x = (!textB x || decide (1 < cntL ls x))) := Lib.hid rfl
  generalize textB x = Q at k HB
  have q0 := (Blk.cell hcb 0).trans rfl
  obtain ⟨D, hm, hc⟩ := hO
  have hkey := keyS (s := x) (by rw [maxLen_is]; exact hx)
  cases Q
  · go_enter Try.func64, Try.ntmps64
    go_wp2_with (go_at_call 48; refine (k _).mono ?_; rintro e w1 ⟨rfl, hw1⟩; rw [hw1]; clear hw1 w1)
    go_ret
    exact ⟨ret_bool (by rw [HB.out]; rfl), rfl⟩
  · go_enter Try.func64, Try.ntmps64
    go_wp2_with (first
      | (go_at_call 48; refine (k _).mono ?_; rintro e w1 ⟨rfl, hw1⟩; rw [hw1]; clear hw1 w1)
      | (at_lookup; refine wpList_lookup_wanted _ (by first | rfl | (simp [Region.wanted, yielded]; done)) _ _ 101 rfl 9 3 .i64 mapLaw Try.underlying101 Try.underlying3 (zeroInt _) B ls.length D rfl hm _ _ rfl hkey ?_; intro c hat hwc))
    have ec : c = (cntL ls x : Int) := by
      have h4 := hc.at_ x
      rw [hat] at h4
      injection h4 with h4
      injection h4
    go_ret
    exact ⟨ret_bool (by rw [HB.out, ec]; apply bcl; simp; omega), rfl⟩
theorem any_no {l : List ByteArray} {p : ByteArray → Bool} (h : ∀ (j : Nat) (x : ByteArray), l[j]? = some x → p x = false) : l.any p = false := by
  rw [List.any_eq_false]
  intro x hx
  obtain ⟨j, hj, rfl⟩ := List.getElem_of_mem hx
  rw [h j _ (List.getElem?_eq_getElem hj)]; simp
theorem any_yes {l : List ByteArray} {p : ByteArray → Bool} {j : Nat} {x : ByteArray} (h : l[j]? = some x) (hp : p x = true) : l.any p = true := List.any_eq_true.2 ⟨x, List.mem_of_getElem? h, hp⟩
set_option maxHeartbeats 1600000 in
theorem sidx_good (cb : Nat) (A : Option Addr) (n cap B : Nat) (names : List ByteArray) (p : ByteArray → Bool) (w : World) (hl : IsRows strCell 1 w B A n names) (hn : n ≤ 2097152)
    (hp : ∀ x ∈ names, Calls Try.prog 47 #[.string x] w fun e w' => e = .returned (.bool (p x)) ∧ w' = w) :
    Calls Try.prog 62 #[.slice A n cap, .func (.func 47) #[] #[]] w fun e w' => (∃ r : Int, e = .returned (.int .i64 r) ∧ decide (0 ≤ r) = names.any p) ∧ w' = w := by
  have hll := hl.1
  have HP := Lib.hid hp
  clear hp
  go_enter Try.func62, Try.ntmps62
  go_wp2_with fail
  go_loop [8] (fun i => ∃ k : Nat, k ≤ n ∧ i = .int .i64 k ∧ Hid (∀ j x, j < k → names[j]? = some x → p x = false)) (fun i => n - (intOf i).toNat)
  case atStart => exact ⟨0, by omega, rfl, Lib.hid (fun j x h => by omega)⟩
  case round =>
    obtain ⟨k, hk, rfl, HG⟩ := hrel
    by_cases hlt : k < n
    · have hd : decide ((k : Int) < n) = true := decide_eq_true (by omega)
      have hk0 : (0 : Int) ≤ k := by omega
      have hk1 : (k : Int) < n := by omega
      obtain ⟨b, off, x, rfl, hgb, hx, e0⟩ := str_at hl hlt
      have kP := HP.out x (List.mem_of_getElem? hx)
      cases hq : p x
      · rw [hq] at kP
        have HF : Hid (∀ j x, j < k + 1 → names[j]? = some x → p x = false) := Lib.hid (fun j y hj hy => by
          by_cases e : j = k
          · subst e; rw [hx] at hy; injection hy with hy; rw [← hy]; exact hq
          · exact HG.out j y (by omega) hy)
        clear hq HG hx
        go_wp2_with (go_at_call 47; (with_reducible refine kP.mono ?_); rintro e w1 ⟨rfl, hw1⟩; rw [hw1]; clear hw1 w1)
        exact ⟨⟨k + 1, by omega, rfl, HF⟩, by (simp only [intOf]; omega)⟩
      · rw [hq] at kP
        have HF : Hid (names.any p = true) := Lib.hid (any_yes hx hq)
        clear hq HG hx
        go_wp2_with (go_at_call 47; (with_reducible refine kP.mono ?_); rintro e w1 ⟨rfl, hw1⟩; rw [hw1]; clear hw1 w1)
        go_ret
        exact ⟨⟨k, rfl, by rw [HF.out]; exact decide_eq_true (by omega)⟩, rfl⟩
    · have hd : decide ((k : Int) < n) = false := decide_eq_false (by omega)
      have HF : Hid (names.any p = false) := Lib.hid (any_no (fun j x hx => HG.out j x (by have := (List.getElem?_eq_some_iff.1 hx).1; omega) hx))
      clear HG
      go_wp2_with fail
      go_ret
      exact ⟨⟨-1, rfl, by rw [HF.out]; rfl⟩, rfl⟩
theorem scon_good (cb : Nat) (A : Option Addr) (n cap B : Nat) (names : List ByteArray) (p : ByteArray → Bool) (w : World) (hl : IsRows strCell 1 w B A n names) (hn : n ≤ 2097152)
    (hp : ∀ x ∈ names, Calls Try.prog 47 #[.string x] w fun e w' => e = .returned (.bool (p x)) ∧ w' = w) :
    Calls Try.prog 49 #[.slice A n cap, .func (.func 47) #[] #[]] w fun e w' => e = .returned (.bool (names.any p)) ∧ w' = w := by
  have kI := sidx_good cb A n cap B names p w hl hn hp
  clear hp
  go_enter Try.func49, Try.ntmps49
  go_wp2_with (go_at_call 62; (with_reducible refine kI.mono ?_); rintro e w1 ⟨⟨r, rfl, hr⟩, hw1⟩; rw [hw1]; clear hw1 w1)
  go_ret
  first | exact ⟨ret_bool hr, rfl⟩ | exact ⟨rfl, rfl⟩
set_option maxHeartbeats 1600000 in
theorem sidx_part (cb : Nat) (A : Option Addr) (n cap B : Nat) (names : List ByteArray) (p : ByteArray → Bool) (w : World) (hl : IsRows strCell 1 w B A n names) (hn : n ≤ 2097152)
    (hp : ∀ x ∈ names, Calls Try.prog 64 #[.string x,.pointer (some ⟨cb,0,none⟩)] w fun e w' => e = .returned (.bool (p x)) ∧ w' = w) :
    Calls Try.prog 62 #[.slice A n cap, .func (.func 64) #[] #[.pointer (some ⟨cb,0,none⟩)]] w fun e w' => (∃ r : Int, e = .returned (.int .i64 r) ∧ decide (0 ≤ r) = names.any p) ∧ w' = w := by
  have hll := hl.1
  have HP := Lib.hid hp
  clear hp
  go_enter Try.func62, Try.ntmps62
  go_wp2_with fail
  go_loop [8] (fun i => ∃ k : Nat, k ≤ n ∧ i = .int .i64 k ∧ Hid (∀ j x, j < k → names[j]? = some x → p x = false)) (fun i => n - (intOf i).toNat)
  case atStart => exact ⟨0, by omega, rfl, Lib.hid (fun j x h => by omega)⟩
  case round =>
    obtain ⟨k, hk, rfl, HG⟩ := hrel
    by_cases hlt : k < n
    · have hd : decide ((k : Int) < n) = true := decide_eq_true (by omega)
      have hk0 : (0 : Int) ≤ k := by omega
      have hk1 : (k : Int) < n := by omega
      obtain ⟨b, off, x, rfl, hgb, hx, e0⟩ := str_at hl hlt
      have kP := HP.out x (List.mem_of_getElem? hx)
      cases hq : p x
      · rw [hq] at kP
        have HF : Hid (∀ j x, j < k + 1 → names[j]? = some x → p x = false) := Lib.hid (fun j y hj hy => by
          by_cases e : j = k
          · subst e; rw [hx] at hy; injection hy with hy; rw [← hy]; exact hq
          · exact HG.out j y (by omega) hy)
        clear hq HG hx
        go_wp2_with (go_at_call 64; (with_reducible refine kP.mono ?_); rintro e w1 ⟨rfl, hw1⟩; rw [hw1]; clear hw1 w1)
        exact ⟨⟨k + 1, by omega, rfl, HF⟩, by (simp only [intOf]; omega)⟩
      · rw [hq] at kP
        have HF : Hid (names.any p = true) := Lib.hid (any_yes hx hq)
        clear hq HG hx
        go_wp2_with (go_at_call 64; (with_reducible refine kP.mono ?_); rintro e w1 ⟨rfl, hw1⟩; rw [hw1]; clear hw1 w1)
        go_ret
        exact ⟨⟨k, rfl, by rw [HF.out]; exact decide_eq_true (by omega)⟩, rfl⟩
    · have hd : decide ((k : Int) < n) = false := decide_eq_false (by omega)
      have HF : Hid (names.any p = false) := Lib.hid (any_no (fun j x hx => HG.out j x (by have := (List.getElem?_eq_some_iff.1 hx).1; omega) hx))
      clear HG
      go_wp2_with fail
      go_ret
      exact ⟨⟨-1, rfl, by rw [HF.out]; rfl⟩, rfl⟩
theorem scon_part (cb : Nat) (A : Option Addr) (n cap B : Nat) (names : List ByteArray) (p : ByteArray → Bool) (w : World) (hl : IsRows strCell 1 w B A n names) (hn : n ≤ 2097152)
    (hp : ∀ x ∈ names, Calls Try.prog 64 #[.string x,.pointer (some ⟨cb,0,none⟩)] w fun e w' => e = .returned (.bool (p x)) ∧ w' = w) :
    Calls Try.prog 49 #[.slice A n cap, .func (.func 64) #[] #[.pointer (some ⟨cb,0,none⟩)]] w fun e w' => e = .returned (.bool (names.any p)) ∧ w' = w := by
  have kI := sidx_part cb A n cap B names p w hl hn hp
  clear hp
  go_enter Try.func49, Try.ntmps49
  go_wp2_with (go_at_call 62; (with_reducible refine kI.mono ?_); rintro e w1 ⟨⟨r, rfl, hr⟩, hw1⟩; rw [hw1]; clear hw1 w1)
  go_ret
  first | exact ⟨ret_bool hr, rfl⟩ | exact ⟨rfl, rfl⟩
/-! ### parts -/
theorem tail_no {ps : List ByteArray} {j : Nat} {x : ByteArray} (h : ps[j]? = some x) (hj : j + 1 < ps.length) (hx : isT x = true) : tailOk ps = false := by
  unfold tailOk
  have : ps.dropLast.any isT = true := List.any_eq_true.2 ⟨x, List.mem_of_getElem? (i := j) (by rw [List.getElem?_dropLast, if_pos (by omega)]; exact h), hx⟩
  rw [this]; rfl
theorem tail_yes {ps : List ByteArray} (h : ∀ j x, j + 1 < ps.length → ps[j]? = some x → isT x = false) : tailOk ps = true := by
  unfold tailOk
  have : ps.dropLast.any isT = false := any_no (fun j x hx => by
    rw [List.getElem?_dropLast] at hx
    split at hx
    · exact h j x (by omega) hx
    · cases hx)
  rw [this]; rfl
theorem named_succ {ps : List ByteArray} {k : Nat} {x : ByteArray} (h : ps[k]? = some x) : namedB (ps.take (k + 1)) = (namedB (ps.take k) || (isM x || isT x)) := by
  unfold namedB
  rw [List.take_add_one, h, List.any_append]
  simp
set_option maxRecDepth 100000 in
set_option maxHeartbeats 3200000 in
theorem isParts_any (A : Option Addr) (n cap : Nat) (ps : List ByteArray) (w : World) (hl : IsRows strCell 1 w w.heap.size A n ps) (hn : n ≤ 2097152) (hsz : ∀ x ∈ ps, x.size ≤ 9223372036854775807) :
    Calls Try.prog 50 #[.slice A n cap] w fun e w' => e = .returned (.bool (partsB ps)) ∧ Below w.heap.size w w' := by
  have hll := hl.1
  have hmf : ∀ (fn : Fn) (first cap : Array Value) (w : World), (Instr.makeFunc fn first cap).run Try.prog w = .ok (.func fn first cap) w := fun _ _ _ _ => rfl
  have kN := names_any A n cap ps w hl hn (fun x hx => by rw [maxLen_is]; exact hsz x hx)
  have kL := fun W (hb : Below w.heap.size w W) => labels_any A n cap ps W ((hl.below hb).more hb.size) hn
  have kC := fun W cb A3 c3 B (hr : IsRows strCell 1 W W.heap.size A3 (lbsT ps).length (lbsT ps)) (hcb : Blk W cb 101 #[.map (some B)]) (hO : Often W B (lbsT ps)) =>
    scon_part cb A3 (lbsT ps).length c3 W.heap.size (lbsT ps) (wrongP (lbsT ps)) W hr (by have := lbsT_len ps; omega) (fun x hx => partClo_any x cb B (lbsT ps) W (hsz x (List.mem_filter.1 hx).1) hcb hO)
  have HB : Hid (partsB ps = (tailOk ps && (namedB ps && (decide (ps.length ≤ 12) && !(lbsT ps).any (wrongP (lbsT ps)))))) := Lib.hid rfl
  have H0 : Hid (false = namedB (ps.take 0)) := Lib.hid (by rw [List.take_zero]; rfl)
  clear hsz
  generalize (lbsT ps).any (wrongP (lbsT ps)) = Z at kC HB
  generalize lbsT ps = ls at *
  go_enter Try.func50, Try.ntmps50
  go_wp2_with fail
  go_loop [3, 10] (fun q i => ∃ (b : Bool) (k : Nat), k ≤ n ∧ q = .bool b ∧ i = .int .i64 k ∧ Hid (b = namedB (ps.take k)) ∧ Hid (∀ j x, j < k → j + 1 < ps.length → ps[j]? = some x → isT x = false)) (fun _ i => n - (intOf i).toNat)
  case atStart => exact ⟨false, 0, by omega, rfl, rfl, H0, Lib.hid (fun j x h => by omega)⟩
  case round =>
    obtain ⟨b, k, hk, rfl, rfl, HN, HT⟩ := hrel
    clear H0
    by_cases hlt : k < n
    · have hd : decide ((k : Int) < n) = true := decide_eq_true (by omega)
      have hk0 : (0 : Int) ≤ k := by omega
      have hk1 : (k : Int) < n := by omega
      have hw1 : IntKind.i64.wrap ((n : Int) - 1) = (n : Int) - 1 := IntWalk.i64_in _ (by omega)
      obtain ⟨bk, off, x, rfl, hgb, hx, e0⟩ := str_at hl hlt
      have HS := Lib.hid (named_succ hx)
      have HM : Hid (isM x = (x.toList == [109, 101, 116, 114, 105, 99])) := Lib.hid (by unfold isM; rw [ByteArray.toList_eq])
      have HE : Hid (isT x = (x.toList == [109, 101, 116, 114, 105, 99, 42])) := Lib.hid (by unfold isT; rw [ByteArray.toList_eq])
      clear kN kL kC hmf
      cases ht : (x.toList == [109, 101, 116, 114, 105, 99, 42])
      · have HT2 : Hid (∀ j x, j < k + 1 → j + 1 < ps.length → ps[j]? = some x → isT x = false) := Lib.hid (fun j y hj hj2 hy => by
          by_cases e : j = k
          · subst e; rw [hx] at hy; injection hy with hy; rw [← hy, HE.out]; exact ht
          · exact HT.out j y (by omega) hj2 hy)
        clear HT HB hx
        cases b <;> cases hm : (x.toList == [109, 101, 116, 114, 105, 99])
        all_goals
          go_wp2_with fail
          exact ⟨⟨_, k + 1, by omega, rfl, rfl, Lib.hid (by rw [HS.out, ← HN.out, HM.out, HE.out, hm, ht]; rfl), HT2⟩, by (simp only [intOf]; omega)⟩
      · by_cases hlast : k + 1 < n
        · have hd2 : decide ((k : Int) < (n : Int) - 1) = true := decide_eq_true (by omega)
          have HF : Hid (partsB ps = false) := Lib.hid (by rw [HB.out, tail_no hx (by omega) (by rw [HE.out]; exact ht)]; rfl)
          clear HT HB hx
          cases b <;> cases hm : (x.toList == [109, 101, 116, 114, 105, 99])
          all_goals
            go_wp2_with fail
            go_ret
            exact ⟨ret_bool HF.out.symm, Below.refl _ _⟩
        · have hd2 : decide ((k : Int) < (n : Int) - 1) = false := decide_eq_false (by omega)
          have HT2 : Hid (∀ j x, j < k + 1 → j + 1 < ps.length → ps[j]? = some x → isT x = false) := Lib.hid (fun j y hj hj2 hy => HT.out j y (by omega) hj2 hy)
          clear HT HB hx
          cases b <;> cases hm : (x.toList == [109, 101, 116, 114, 105, 99])
          all_goals
            go_wp2_with fail
            exact ⟨⟨_, k + 1, by omega, rfl, rfl, Lib.hid (by rw [HS.out, ← HN.out, HM.out, HE.out, hm, ht]; rfl), HT2⟩, by (simp only [intOf]; omega)⟩
    · have hd : decide ((k : Int) < n) = false := decide_eq_false (by omega)
      have HT3 : Hid (tailOk ps = true) := Lib.hid (tail_yes (fun j x hj hx => HT.out j x (by omega) hj hx))
      have hN : b = namedB ps := by rw [HN.out, List.take_of_length_le (by omega)]
      have HN2 := Lib.hid hN
      clear HT HN hN
      cases b
      · clear kL kC
        go_wp2_with (go_at_call 63; refine kN.mono ?_; rintro e w1 ⟨rfl, hO1, hb1⟩)
        go_ret
        exact ⟨ret_bool (by rw [HB.out, ← HN2.out, HT3.out]; rfl), bl_alloc hb1 _⟩
      · by_cases h12 : n ≤ 12
        · have hd12 : decide ((n : Int) ≤ 12) = true := decide_eq_true (by omega)
          go_wp2_with (first
            | (go_at_call 63; refine kN.mono ?_; rintro e w1 ⟨rfl, hO1, hb1⟩; have hcb := Blk.new w1 101 #[.map (some w.heap.size)]; have hbX := bl_alloc hb1 (.cells #[.map (some w.heap.size)] 101); have hO2 := hO1.bel ((Below.refl w1.heap.size w1).alloc (Nat.le_refl _) (.cells #[.map (some w.heap.size)] 101)) (by obtain ⟨D, hm, _⟩ := hO1; exact hm.lt))
            | (go_at_call 65; refine (kL _ hbX).mono ?_; rintro e w3 ⟨⟨v, rfl, hown⟩, hb3⟩; obtain ⟨A3, c3, rfl, hr3⟩ := own_rws (f := strCell) (fun _ => rfl) hown rfl; have hcb3 := hcb.below hb3 (Blk.lt hcb); have hO3 := hO2.bel hb3 (by obtain ⟨D, hm, _⟩ := hO2; exact hm.lt))
            | (go_at_call 49; refine (kC _ _ _ _ _ hr3 hcb3 hO3).mono ?_; rintro e w4 ⟨rfl, hw4⟩; rw [hw4]; clear hw4 w4))
          go_ret
          exact ⟨ret_bool (by rw [HB.out, ← HN2.out, HT3.out, decide_eq_true (by omega : ps.length ≤ 12)]; simp), bl_any hbX hb3⟩
        · have hd12 : decide ((n : Int) ≤ 12) = false := decide_eq_false (by omega)
          clear kL kC
          go_wp2_with (go_at_call 63; refine kN.mono ?_; rintro e w1 ⟨rfl, hO1, hb1⟩)
          go_ret
          exact ⟨ret_bool (by rw [HB.out, ← HN2.out, HT3.out, decide_eq_false (by omega : ¬ ps.length ≤ 12)]; rfl), bl_alloc hb1 _⟩
/-! ### labels beside them -/
theorem nodup_cnt {ls : List ByteArray} (h : ∀ x ∈ ls, cntL ls x ≤ 1) : ls.Pairwise fun x y => x.data.toList ≠ y.data.toList := by
  rw [← List.pairwise_map (f := fun x : ByteArray => x.data.toList) (R := fun a b => a ≠ b)]
  show (ls.map fun x : ByteArray => x.data.toList).Nodup
  rw [List.nodup_iff_count]
  intro a
  by_cases ha : a ∈ ls.map fun x : ByteArray => x.data.toList
  · obtain ⟨x, hx, rfl⟩ := List.mem_map.1 ha
    have := h x hx
    unfold cntL at this
    rw [List.count, List.countP_map]
    exact this
  · rw [List.count_eq_zero_of_not_mem ha]; omega
theorem parts_nodup {ps : List ByteArray} (h : partsB ps = true) : (lbsT ps).Pairwise fun x y => x.data.toList ≠ y.data.toList := by
  refine nodup_cnt (fun x hx => ?_)
  unfold partsB at h
  simp only [Bool.and_eq_true, Bool.not_eq_true', List.any_eq_false] at h
  have h1 := h.2.2.2 x hx
  unfold wrongP at h1
  simp only [Bool.or_eq_true, Bool.not_eq_true', decide_eq_true_eq, not_or] at h1
  omega
theorem extraTo_succ (ps : List ByteArray) (L : List Lab) (k : Nat) : extraTo ps L (k + 1) = (extraTo ps L k && extraAt ps L k) := by
  unfold extraTo; rw [List.range_succ, List.all_append]; simp
theorem extra_no {ps : List ByteArray} {L : List Lab} {k : Nat} (h : extraAt ps L k = false) (hk : k < L.length) : extraB L ps = false := by
  unfold extraB extraTo
  have : (List.range L.length).all (extraAt ps L) = false := by
    rw [List.all_eq_false]
    exact ⟨k, List.mem_range.2 hk, by rw [h]; exact Bool.false_ne_true⟩
  rw [this]; rfl
theorem extraAt_of {ps : List ByteArray} {L : List Lab} {k : Nat} {x y : ByteArray} (h : L[k]? = some (x, y)) : extraAt ps L k = ((decide (k = 0) || decide (nmL (L.getD (k - 1) default) < x.data.toList)) && (textB x && (inksB tmInk y.data.toList && (decide (y.size ≤ 60) && decide (cntL (lbsT ps) x = 0))))) := by
  unfold extraAt
  rw [List.getD_eq_getElem?_getD (i := k), h]; rfl
theorem cm_at {D : DataW Unit} {ls : List ByteArray} {x : ByteArray} {c : Int} (h : CM D ls) (hat : D.atKey (litS x) (.lit (.int .i64 0)) = .lit (.int .i64 c)) : c = (cntL ls x : Int) := by
  have h4 := h.at_ x
  rw [hat] at h4
  injection h4 with h4
  injection h4
theorem isText_q (s : ByteArray) (w : World) (hs : s.size ≤ 9223372036854775807) : Calls Try.prog 48 #[.string s] w fun e w' => e = .returned (.bool (textB s)) ∧ w = w' := (isText_any s w hs).mono fun _ _ ⟨h1, h2⟩ => ⟨h1, h2.symm⟩
theorem inks_q (s : ByteArray) (w : World) (hs : s.size ≤ 9223372036854775807) : Calls Try.prog 60 #[.string s, .func (.func 66) #[] #[]] w fun e w' => e = .returned (.bool (inksB tmInk s.data.toList)) ∧ w = w' := (inks_ink s w hs).mono fun _ _ ⟨h1, h2⟩ => ⟨h1, h2.symm⟩
theorem wrap8 {a : Nat} (h : a ≤ 16777216) : IntKind.i64.wrap (a : Int) = a := IntWalk.i64_in _ (by omega)
set_option maxRecDepth 100000 in
set_option maxHeartbeats 3200000 in
theorem isExtra_any (A : Option Addr) (n cap : Nat) (L : List Lab) (A2 : Option Addr) (n2 cap2 : Nat) (ps : List ByteArray) (w : World) (hl : IsRows labCell 2 w w.heap.size A n L) (hn : n ≤ 2097152) (hl2 : IsRows strCell 1 w w.heap.size A2 n2 ps) (hn2 : n2 ≤ 2097152)
    (hsz : ∀ x ∈ ps, x.size ≤ 9223372036854775807) (hsz2 : ∀ x ∈ L, x.1.size ≤ 9223372036854775807 ∧ x.2.size ≤ 9223372036854775807) (hnd : (lbsT ps).Pairwise fun x y => x.data.toList ≠ y.data.toList) :
    Calls Try.prog 51 #[.slice A n cap, .slice A2 n2 cap2] w fun e w' => e = .returned (.bool (extraB L ps)) ∧ Below w.heap.size w w' := by
  have hll := hl.1
  have hll2 := hl2.1
  have kN := names_any A2 n2 cap2 ps w hl2 hn2 (fun x hx => by rw [maxLen_is]; exact hsz x hx)
  have hlen := lbsT_len ps
  have HE : ∀ k, k ≤ n → Hid (extraTo ps L k = true → k = n → extraB L ps = decide (L.length + (lbsT ps).length ≤ 8)) := fun k hk => Lib.hid (fun h1 h2 => by unfold extraB; rw [hll, ← h2, h1, Bool.true_and])
  have hX : ∀ k x y, L[k]? = some (x, y) → Hid (extraAt ps L k = ((decide (k = 0) || decide (nmL (L.getD (k - 1) default) < x.data.toList)) && (textB x && (inksB tmInk y.data.toList && (decide (y.size ≤ 60) && decide (cntL (lbsT ps) x = 0)))))) := fun k x y h => Lib.hid (extraAt_of h)
  clear hsz
  generalize lbsT ps = ls at *
  go_enter Try.func51, Try.ntmps51
  go_wp2_with (go_at_call 63; refine kN.mono ?_; rintro e w1 ⟨rfl, hO1, hb1⟩)
  have hlt1 : w.heap.size < w1.heap.size := by obtain ⟨D, hm, _⟩ := hO1; exact hm.lt
  clear kN
  go_loopw [12] (fun i wr => Below w.heap.size w wr ∧ Often wr w.heap.size ls ∧ ∃ k : Nat, k ≤ n ∧ i = .int .i64 k ∧ Hid (extraTo ps L k = true)) (fun i _ => n - (intOf i).toNat)
  case atStart => exact ⟨hb1, hO1, 0, by omega, rfl, Lib.hid rfl⟩
  case round =>
    obtain ⟨hbw, hO, k, hk, rfl, HG⟩ := hrel
    clear hO1 hb1
    obtain ⟨D, hm, hc⟩ := hO
    have hBw := hm.lt
    by_cases hlt : k < n
    · have hdk : decide ((k : Int) < n) = true := decide_eq_true (by omega)
      have hk0 : (0 : Int) ≤ k := by omega
      have hk1 : (k : Int) < n := by omega
      obtain ⟨b, off, x, y, rfl, hgb, hx, e0, e1⟩ := lab_at (hl.below hbw) hlt
      have hgw := Nat.lt_of_lt_of_le hgb hbw.size
      obtain ⟨hxs, hys⟩ := hsz2 _ (List.mem_of_getElem? hx)
      have HX := hX k x y hx
      have hkey := keyS (s := x) (by rw [maxLen_is]; exact hxs)
      have kT := fun W => isText_q x W hxs
      have kI := fun W => inks_q y W hys
      generalize textB x = qt at kT HX
      generalize inksB tmInk y.data.toList = qi at kI HX
      clear hX HE
      go_wp2_with fail
      have hB := Blk.new wr 88 #[.string x, .string y]
      have c0 := (hB.cell 0).trans rfl
      have c1 := (hB.cell 1).trans rfl
      have hbX := bl_alloc hbw (.cells #[.string x, .string y] 88)
      have HMX := Lib.hid (hm.alloc (.cells #[.string x, .string y] 88))
      have HC := Lib.hid hc
      have HKY := Lib.hid hkey
      clear hm hc hkey hB
      by_cases h0 : k = 0
      · subst h0
        have HY : Hid (extraAt ps L 0 = (qt && (qi && (decide (y.size ≤ 60) && decide (cntL ls x = 0))))) := Lib.hid (by rw [HX.out]; simp)
        clear HX hx
        cases qt
        · clear kI
          have HF := Lib.hid (extra_no (ps := ps) (L := L) (k := 0) (by rw [HY.out]; simp; try omega) (by omega))
          clear HY HG
          go_quiet (first | (go_at_call 48; exact quiet_left (kT _)))
          go_wp2_with fail
          go_ret
          exact ⟨ret_bool HF.out.symm, bl_drewN hbX _⟩
        · cases qi
          · skip
            have HF := Lib.hid (extra_no (ps := ps) (L := L) (k := 0) (by rw [HY.out]; simp; try omega) (by omega))
            clear HY HG
            go_quiet (first | (go_at_call 48; exact quiet_left (kT _)) | (go_at_call 60; exact quiet_left (kI _)))
            go_wp2_with fail
            go_ret
            exact ⟨ret_bool HF.out.symm, bl_drewN hbX _⟩
          · by_cases h60 : 60 < y.size
            · have hd60 : decide ((60 : Int) < y.size) = true := decide_eq_true (by omega)
              have hd61 : decide (60 < y.size) = true := decide_eq_true h60
              have HF := Lib.hid (extra_no (ps := ps) (L := L) (k := 0) (by rw [HY.out]; simp; try omega) (by omega))
              clear HY HG
              go_quiet (first | (go_at_call 48; exact quiet_left (kT _)) | (go_at_call 60; exact quiet_left (kI _)))
              go_wp2_with fail
              go_ret
              exact ⟨ret_bool HF.out.symm, bl_drewN hbX _⟩
            · have hd60 : decide ((60 : Int) < y.size) = false := decide_eq_false (by omega)
              have hd61 : decide (60 < y.size) = false := decide_eq_false h60
              by_cases hz : cntL ls x = 0
              · have hdc : decide ((0 : Int) < (cntL ls x : Int)) = false := decide_eq_false (by omega)
                have hdc2 : decide (0 < cntL ls x) = false := decide_eq_false (by omega)
                have HF : Hid (extraTo ps L (0 + 1) = true) := Lib.hid (by rw [extraTo_succ, HG.out, HY.out]; simp; omega)
                clear HY HG
                go_quiet (first | (go_at_call 48; exact quiet_left (kT _)) | (go_at_call 60; exact quiet_left (kI _)))
                go_wp2_with (at_lookup; refine wpList_lookup_own_int _ rfl _ _ 101 rfl 9 3 .i64 mapLaw Try.underlying101 Try.underlying3 (zeroInt _) w.heap.size ls.length D rfl HMX.out _ _ rfl HKY.out ?_; intro c hat hwc; obtain rfl := cm_at HC.out hat; clear hat hwc)
                exact ⟨⟨bl_drewN hbX _, ⟨D, HMX.out, HC.out⟩, 0 + 1, by omega, rfl, HF⟩, by (simp only [intOf]; omega)⟩
              · have hdc : decide ((0 : Int) < (cntL ls x : Int)) = true := decide_eq_true (by omega)
                have hdc2 : decide (0 < cntL ls x) = true := decide_eq_true (by omega)
                have HF := Lib.hid (extra_no (ps := ps) (L := L) (k := 0) (by rw [HY.out]; simp; try omega) (by omega))
                clear HY HG
                go_quiet (first | (go_at_call 48; exact quiet_left (kT _)) | (go_at_call 60; exact quiet_left (kI _)))
                go_wp2_with (at_lookup; refine wpList_lookup_own_int _ rfl _ _ 101 rfl 9 3 .i64 mapLaw Try.underlying101 Try.underlying3 (zeroInt _) w.heap.size ls.length D rfl HMX.out _ _ rfl HKY.out ?_; intro c hat hwc; obtain rfl := cm_at HC.out hat; clear hat hwc)
                go_ret
                exact ⟨ret_bool HF.out.symm, bl_drewN hbX _⟩
      · obtain ⟨b3, off3, px, py, hAA, _, hpx, p0, _⟩ := lab_at (hl.below hbw) (show k - 1 < n by omega)
        cases hAA
        have hz0 : decide ((0 : Int) < k) = true := decide_eq_true (by omega)
        have hz1 : decide (0 < k) = true := decide_eq_true (by omega)
        have hkm0 : (0 : Int) ≤ (k : Int) - 1 := by omega
        have hkm1 : (k : Int) - 1 < n := by omega
        have hkm2 : (1 : Int) ≤ k := by omega
        have hw1 : IntKind.i64.wrap ((k : Int) - 1) = (k : Int) - 1 := IntWalk.i64_in _ (by omega)
        have hw2 : ((k : Int) - 1).toNat = k - 1 := by omega
        have p1 : (wr.alloc (.cells #[.string x, .string y] 88)).cell? ⟨b, off + (k - 1) * 2, none⟩ = some (.string px) := (World.cell?_alloc_lt wr _ ⟨_, _, none⟩ hgw).trans p0
        have HP : Hid (decide (nmL (L.getD (k - 1) default) < x.data.toList) = Op.bytesLess px.toList x.toList) := Lib.hid (by
          rw [List.getD_eq_getElem?_getD, hpx, bytesLess_eq, ByteArray.toList_eq, ByteArray.toList_eq]; rfl)
        cases hq : Op.bytesLess px.toList x.toList
        · have HF := Lib.hid (extra_no (ps := ps) (L := L) (k := k) (by rw [HX.out, HP.out, hq, decide_eq_false h0]; rfl) (by omega))
          clear HX HP HG hx hpx kT kI
          go_quiet (fail)
          go_wp2_with fail
          go_ret
          exact ⟨ret_bool HF.out.symm, bl_drewN hbX _⟩
        · have HY : Hid (extraAt ps L k = (qt && (qi && (decide (y.size ≤ 60) && decide (cntL ls x = 0))))) := Lib.hid (by rw [HX.out, HP.out, hq]; simp)
          clear HX HP hx hpx
          cases qt
          · clear kI
            have HF := Lib.hid (extra_no (ps := ps) (L := L) (k := k) (by rw [HY.out]; simp; try omega) (by omega))
            clear HY HG
            go_quiet (first | (go_at_call 48; exact quiet_left (kT _)))
            go_wp2_with fail
            go_ret
            exact ⟨ret_bool HF.out.symm, bl_drewN hbX _⟩
          · cases qi
            · skip
              have HF := Lib.hid (extra_no (ps := ps) (L := L) (k := k) (by rw [HY.out]; simp; try omega) (by omega))
              clear HY HG
              go_quiet (first | (go_at_call 48; exact quiet_left (kT _)) | (go_at_call 60; exact quiet_left (kI _)))
              go_wp2_with fail
              go_ret
              exact ⟨ret_bool HF.out.symm, bl_drewN hbX _⟩
            · by_cases h60 : 60 < y.size
              · have hd60 : decide ((60 : Int) < y.size) = true := decide_eq_true (by omega)
                have hd61 : decide (60 < y.size) = true := decide_eq_true h60
                have HF := Lib.hid (extra_no (ps := ps) (L := L) (k := k) (by rw [HY.out]; simp; try omega) (by omega))
                clear HY HG
                go_quiet (first | (go_at_call 48; exact quiet_left (kT _)) | (go_at_call 60; exact quiet_left (kI _)))
                go_wp2_with fail
                go_ret
                exact ⟨ret_bool HF.out.symm, bl_drewN hbX _⟩
              · have hd60 : decide ((60 : Int) < y.size) = false := decide_eq_false (by omega)
                have hd61 : decide (60 < y.size) = false := decide_eq_false h60
                by_cases hz : cntL ls x = 0
                · have hdc : decide ((0 : Int) < (cntL ls x : Int)) = false := decide_eq_false (by omega)
                  have hdc2 : decide (0 < cntL ls x) = false := decide_eq_false (by omega)
                  have HF : Hid (extraTo ps L (k + 1) = true) := Lib.hid (by rw [extraTo_succ, HG.out, HY.out]; simp; omega)
                  clear HY HG
                  go_quiet (first | (go_at_call 48; exact quiet_left (kT _)) | (go_at_call 60; exact quiet_left (kI _)))
                  go_wp2_with (at_lookup; refine wpList_lookup_own_int _ rfl _ _ 101 rfl 9 3 .i64 mapLaw Try.underlying101 Try.underlying3 (zeroInt _) w.heap.size ls.length D rfl HMX.out _ _ rfl HKY.out ?_; intro c hat hwc; obtain rfl := cm_at HC.out hat; clear hat hwc)
                  exact ⟨⟨bl_drewN hbX _, ⟨D, HMX.out, HC.out⟩, k + 1, by omega, rfl, HF⟩, by (simp only [intOf]; omega)⟩
                · have hdc : decide ((0 : Int) < (cntL ls x : Int)) = true := decide_eq_true (by omega)
                  have hdc2 : decide (0 < cntL ls x) = true := decide_eq_true (by omega)
                  have HF := Lib.hid (extra_no (ps := ps) (L := L) (k := k) (by rw [HY.out]; simp; try omega) (by omega))
                  clear HY HG
                  go_quiet (first | (go_at_call 48; exact quiet_left (kT _)) | (go_at_call 60; exact quiet_left (kI _)))
                  go_wp2_with (at_lookup; refine wpList_lookup_own_int _ rfl _ _ 101 rfl 9 3 .i64 mapLaw Try.underlying101 Try.underlying3 (zeroInt _) w.heap.size ls.length D rfl HMX.out _ _ rfl HKY.out ?_; intro c hat hwc; obtain rfl := cm_at HC.out hat; clear hat hwc)
                  go_ret
                  exact ⟨ret_bool HF.out.symm, bl_drewN hbX _⟩
    · have hdk : decide ((k : Int) < n) = false := decide_eq_false (by omega)
      have HF := Lib.hid ((HE k hk).out HG.out (by omega))
      have hsize := hc.size hnd
      have hwr : IntKind.i64.wrap ((n : Int) + ((Maps.size D : Nat) : Int)) = ((n + ls.length : Nat) : Int) := by rw [hsize, ← Int.natCast_add]; exact wrap8 (by omega)
      have hd8 : decide (((n + ls.length : Nat) : Int) ≤ 8) = decide (L.length + ls.length ≤ 8) := decide_eq_decide.2 (by omega)
      clear HG HE hX
      go_wp2_with (at_len; refine wpList_len_own _ rfl _ 101 rfl 9 3 Try.underlying101 _ w.heap.size ls.length D rfl hm ?_)
      go_ret
      exact ⟨ret_bool (by rw [HF.out]; first | exact hd8 | (rw [hsize] at *; simp at *; omega)), hbw⟩
/-! ### a rule -/
structure VRule where
  rule : MRule
  fA : Option Addr
  fC : Nat
  pA : Option Addr
  pC : Nat
  eA : Option Addr
  eC : Nat
structure RuleAt (w : World) (B : Nat) (x : VRule) : Prop where
  f : IsRows strCell 1 w B x.fA x.rule.filter.length x.rule.filter
  p : IsRows strCell 1 w B x.pA x.rule.parts.length x.rule.parts
  e : IsRows labCell 2 w B x.eA x.rule.extra.length x.rule.extra
structure RuleOk (r : MRule) : Prop where
  f : r.filter.length ≤ 2097152 ∧ ∀ x ∈ r.filter, x.size ≤ 9223372036854775807
  p : r.parts.length ≤ 2097152 ∧ ∀ x ∈ r.parts, x.size ≤ 9223372036854775807
  e : r.extra.length ≤ 2097152 ∧ ∀ x ∈ r.extra, x.1.size ≤ 9223372036854775807 ∧ x.2.size ≤ 9223372036854775807
section
variable {w w' : World} {B B' : Nat} {x : VRule}
theorem RuleAt.below (h : RuleAt w B x) (k : Below B w w') : RuleAt w' B x := ⟨h.f.below k, h.p.below k, h.e.below k⟩
theorem RuleAt.more (h : RuleAt w B x) (k : B ≤ B') : RuleAt w B' x := ⟨h.f.more k, h.p.more k, h.e.more k⟩
theorem RuleAt.bel (h : RuleAt w w.heap.size x) (k : Below w.heap.size w w') : RuleAt w' w'.heap.size x := (h.below k).more k.size
theorem RuleAt.aw {S : List Nat} (h : RuleAt w B x) (k : Aw S w w') (hB : B ≤ w.heap.size) (hS : ∀ i, i ∈ S → B ≤ i) : RuleAt w' B x := ⟨h.f.aw k hB hS, h.p.aw k hB hS, h.e.aw k hB hS⟩
end
set_option maxRecDepth 100000 in
set_option maxHeartbeats 3200000 in
theorem tgood_any (x : VRule) (w : World) (h : RuleAt w w.heap.size x) (ok : RuleOk x.rule) :
    Calls Try.prog 34 #[.agg #[.slice x.fA x.rule.filter.length x.fC, .slice x.pA x.rule.parts.length x.pC, .slice x.eA x.rule.extra.length x.eC]] w fun e w' => e = .returned (.bool (goodR x.rule)) ∧ Below w.heap.size w w' := by
  have HB : Hid (goodR x.rule = (decide (x.rule.filter.length ≤ 12) && (decide (x.rule.filter.length ≤ x.rule.parts.length) && (!(x.rule.filter.any wrongF) && (partsB x.rule.parts && extraB x.rule.extra x.rule.parts))))) := Lib.hid rfl
  have kC := fun W (hb : Below w.heap.size w W) => scon_good 0 x.fA x.rule.filter.length x.fC W.heap.size x.rule.filter wrongF W (h.bel hb).f ok.f.1 (fun y hy => goodClo_any y W (ok.f.2 y hy))
  have kP := fun W (hb : Below w.heap.size w W) => isParts_any x.pA x.rule.parts.length x.pC x.rule.parts W (h.bel hb).p ok.p.1 ok.p.2
  have kE := fun W (hb : Below w.heap.size w W) (hp : partsB x.rule.parts = true) => isExtra_any x.eA x.rule.extra.length x.eC x.rule.extra x.pA x.rule.parts.length x.pC x.rule.parts W (h.bel hb).e ok.e.1 (h.bel hb).p ok.p.1 ok.p.2 ok.e.2 (parts_nodup hp)
  clear h ok
  generalize partsB x.rule.parts = P1 at *
  generalize extraB x.rule.extra x.rule.parts = E1 at *
  generalize (x.rule.filter.any wrongF) = F1 at *
  obtain ⟨⟨fs, ps, es⟩, fA, fC, pA, pC, eA, eC⟩ := x
  simp only at *
  generalize fs.length = fn at *
  generalize ps.length = pn at *
  generalize es.length = en at *
  have hW := Blk.new w 63 #[.slice fA fn fC, .slice pA pn pC, .slice eA en eC]
  have hb0 : Below w.heap.size w (w.alloc (.cells #[.slice fA fn fC, .slice pA pn pC, .slice eA en eC] 63)) := (Below.refl _ _).alloc (Nat.le_refl _) _
  have c0 := (Blk.cell hW 0).trans rfl
  have c1 := (Blk.cell hW 1).trans rfl
  have c2 := (Blk.cell hW 2).trans rfl
  have d2 : decide ((fn : Int) ≤ (pn : Int)) = decide (fn ≤ pn) := decide_eq_decide.2 (by omega)
  by_cases h1 : fn ≤ 12
  case neg =>
    have d1 : decide ((fn : Int) ≤ 12) = false := decide_eq_false (by omega)
    rw [decide_eq_false h1] at HB
    clear kC kP kE
    go_enter Try.func34, Try.ntmps34
    go_wp2_with fail
    go_ret
    exact ⟨ret_bool (by rw [HB.out]; rfl), hb0⟩
  case pos =>
    have d1 : decide ((fn : Int) ≤ 12) = true := decide_eq_true (by omega)
    rw [decide_eq_true h1] at HB
    by_cases h2 : fn ≤ pn
    case neg =>
      rw [decide_eq_false h2] at d2 HB
      clear kC kP kE
      go_enter Try.func34, Try.ntmps34
      go_wp2_with fail
      go_ret
      exact ⟨ret_bool (by rw [HB.out]; rfl), hb0⟩
    case pos =>
      rw [decide_eq_true h2] at d2 HB
      cases F1
      case true =>
        clear kP kE
        go_enter Try.func34, Try.ntmps34
        go_wp2_with (go_at_call 49; (with_reducible refine (kC _ hb0).mono ?_); rintro e w1 ⟨rfl, hw1⟩; rw [hw1]; clear hw1 w1)
        go_ret
        exact ⟨ret_bool (by rw [HB.out]; rfl), hb0⟩
      case false =>
        cases P1
        case false =>
          clear kE
          go_enter Try.func34, Try.ntmps34
          go_wp2_with (first
            | (go_at_call 49; (with_reducible refine (kC _ hb0).mono ?_); rintro e w1 ⟨rfl, hw1⟩; rw [hw1]; clear hw1 w1)
            | (go_at_call 50; (with_reducible refine (kP _ hb0).mono ?_); rintro e w2 ⟨rfl, hb2⟩))
          go_ret
          exact ⟨ret_bool (by rw [HB.out]; rfl), bl_any hb0 hb2⟩
        case true =>
          have kE2 := fun W hb => kE W hb rfl
          clear kE
          go_enter Try.func34, Try.ntmps34
          go_wp2_with (first
            | (go_at_call 49; (with_reducible refine (kC _ hb0).mono ?_); rintro e w1 ⟨rfl, hw1⟩; rw [hw1]; clear hw1 w1)
            | (go_at_call 50; (with_reducible refine (kP _ hb0).mono ?_); rintro e w2 ⟨rfl, hb2⟩; have hW2 := hW.below hb2 (Blk.lt hW); have e0 := (Blk.cell hW2 0).trans rfl; have e1 := (Blk.cell hW2 1).trans rfl; have e2 := (Blk.cell hW2 2).trans rfl)
            | (go_at_call 51; (with_reducible refine (kE2 _ (bl_any hb0 hb2)).mono ?_); rintro e w3 ⟨rfl, hb3⟩))
          go_ret
          exact ⟨ret_bool (by rw [HB.out]; cases E1 <;> rfl), bl_any (bl_any hb0 hb2) hb3⟩
end Go.Proofs.Ytjffagffjcbolaa
