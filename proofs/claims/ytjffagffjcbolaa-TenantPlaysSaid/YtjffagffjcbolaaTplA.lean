/- The walks of package template: classes over texts, the labels of parts, how often each is there. -/
import Derived.Test.YtjffagffjcbolaaTplDef
import Derived.Test.YtjffagffjcbolaaCls
import Derived.Test.YtjffagffjcbolaaAppAny
import Derived.Test.YtjffagffjcbolaaOpenStr
import Derived.Test.YtjffagffjcbolaaQuiet2
import Derived.Test.YtjffagffjcbolaaLabB
import Derived.Maps.OwnOps
import Derived.Maps.OwnSet
import Derived.WalkSpells
namespace Go.Proofs.Ytjffagffjcbolaa
set_option linter.unusedVariables false
set_option linter.unusedSimpArgs false
open Go.RowKit
theorem inks_no {p : Int → Bool} {l : List UInt8} {k : Nat} (hk : k < l.length) (h : p (bt l k) = false) : inksB p l = false := by
  unfold inksB
  have : (l.all fun c => p c.toNat) = false := by
    rw [List.all_eq_false]
    exact ⟨l[k], List.getElem_mem hk, by rw [← bt_get hk, h]; simp⟩
  rw [this]; rfl
theorem inks_yes {p : Int → Bool} {l : List UInt8} (h : ∀ j, j < l.length → p (bt l j) = true) : inksB p l = !(l == []) := by
  unfold inksB
  have : (l.all fun c => p c.toNat) = true := by
    rw [List.all_eq_true]
    intro c hc
    obtain ⟨j, hj, rfl⟩ := List.getElem_of_mem hc
    rw [← bt_get hj]; exact h j hj
  rw [this]; rfl
set_option maxHeartbeats 1600000 in
theorem inks_node (s : ByteArray) (w : World) (hs : s.size ≤ 9223372036854775807) :
    Calls Try.prog 60 #[.string s, .func (.func 61) #[] #[]] w fun e w' => e = .returned (.bool (inksB dtNode s.data.toList)) ∧ w' = w := by
  have HL : Hid (s.data.toList.length = s.size) := Lib.hid (by simp)
  obtain ⟨V, hV⟩ : ∃ V, inksB dtNode s.data.toList = V := ⟨_, rfl⟩
  rw [hV]
  have HV := Lib.hid hV
  clear hV
  go_enter Try.func60, Try.ntmps60
  go_wp2_with fail
  go_loop [8] (fun i => ∃ k : Nat, k ≤ s.size ∧ i = .int .i64 k ∧ Hid (∀ j, j < k → dtNode (bt s.data.toList j) = true)) (fun i => s.size - (intOf i).toNat)
  case atStart => exact ⟨0, by omega, rfl, Lib.hid (fun j h => by omega)⟩
  case round =>
    obtain ⟨k, hk, rfl, HG⟩ := hrel
    by_cases hlt : k < s.size
    · have hd : decide ((k : Int) < s.size) = true := decide_eq_true (by omega)
      have hk0 : (0 : Int) ≤ k := by omega
      have hk1 : (k : Int) < s.size := by omega
      have HC := Lib.hid (getElem_bt hlt)
      have kK := fun W => tnodeE ((s[k]'hlt).toNat : Int) W (by omega) (by have := (s[k]'hlt).toNat_lt; omega)
      cases hp : dtNode ((s[k]'hlt).toNat : Int)
      · rw [hp] at kK
        have HF : Hid (V = false) := Lib.hid (by rw [← HV.out]; exact inks_no (by rw [HL.out]; exact hlt) (by rw [← HC.out]; exact hp))
        clear hp HG
        go_wp2_with (go_at_call 61; refine (kK _).mono ?_; rintro e w1 ⟨rfl, hw1⟩; rw [hw1]; clear hw1 w1)
        go_ret
        exact ⟨ret_bool HF.out.symm, rfl⟩
      · rw [hp] at kK
        have HF : Hid (∀ j, j < k + 1 → dtNode (bt s.data.toList j) = true) := Lib.hid (fun j hj => by
          by_cases e : j = k
          · rw [e, ← HC.out]; exact hp
          · exact HG.out j (by omega))
        clear hp HG
        go_wp2_with (go_at_call 61; refine (kK _).mono ?_; rintro e w1 ⟨rfl, hw1⟩; rw [hw1]; clear hw1 w1)
        exact ⟨⟨k + 1, by omega, rfl, HF⟩, by (simp only [intOf]; omega)⟩
    · have hd : decide ((k : Int) < s.size) = false := decide_eq_false (by omega)
      have HF : Hid (V = !(s.data.toList == [])) := Lib.hid (by rw [← HV.out]; exact inks_yes (fun j hj => HG.out j (by rw [HL.out] at hj; omega)))
      clear HG
      go_wp2_with fail
      go_ret
      exact ⟨ret_bool (by rw [HF.out, ← ByteArray.toList_eq]; cases s.toList <;> rfl), rfl⟩
set_option maxHeartbeats 1600000 in
theorem inks_ink (s : ByteArray) (w : World) (hs : s.size ≤ 9223372036854775807) :
    Calls Try.prog 60 #[.string s, .func (.func 66) #[] #[]] w fun e w' => e = .returned (.bool (inksB tmInk s.data.toList)) ∧ w' = w := by
  have HL : Hid (s.data.toList.length = s.size) := Lib.hid (by simp)
  obtain ⟨V, hV⟩ : ∃ V, inksB tmInk s.data.toList = V := ⟨_, rfl⟩
  rw [hV]
  have HV := Lib.hid hV
  clear hV
  go_enter Try.func60, Try.ntmps60
  go_wp2_with fail
  go_loop [8] (fun i => ∃ k : Nat, k ≤ s.size ∧ i = .int .i64 k ∧ Hid (∀ j, j < k → tmInk (bt s.data.toList j) = true)) (fun i => s.size - (intOf i).toNat)
  case atStart => exact ⟨0, by omega, rfl, Lib.hid (fun j h => by omega)⟩
  case round =>
    obtain ⟨k, hk, rfl, HG⟩ := hrel
    by_cases hlt : k < s.size
    · have hd : decide ((k : Int) < s.size) = true := decide_eq_true (by omega)
      have hk0 : (0 : Int) ≤ k := by omega
      have hk1 : (k : Int) < s.size := by omega
      have HC := Lib.hid (getElem_bt hlt)
      have kK := fun W => tinkE ((s[k]'hlt).toNat : Int) W (by omega) (by have := (s[k]'hlt).toNat_lt; omega)
      cases hp : tmInk ((s[k]'hlt).toNat : Int)
      · rw [hp] at kK
        have HF : Hid (V = false) := Lib.hid (by rw [← HV.out]; exact inks_no (by rw [HL.out]; exact hlt) (by rw [← HC.out]; exact hp))
        clear hp HG
        go_wp2_with (go_at_call 66; refine (kK _).mono ?_; rintro e w1 ⟨rfl, hw1⟩; rw [hw1]; clear hw1 w1)
        go_ret
        exact ⟨ret_bool HF.out.symm, rfl⟩
      · rw [hp] at kK
        have HF : Hid (∀ j, j < k + 1 → tmInk (bt s.data.toList j) = true) := Lib.hid (fun j hj => by
          by_cases e : j = k
          · rw [e, ← HC.out]; exact hp
          · exact HG.out j (by omega))
        clear hp HG
        go_wp2_with (go_at_call 66; refine (kK _).mono ?_; rintro e w1 ⟨rfl, hw1⟩; rw [hw1]; clear hw1 w1)
        exact ⟨⟨k + 1, by omega, rfl, HF⟩, by (simp only [intOf]; omega)⟩
    · have hd : decide ((k : Int) < s.size) = false := decide_eq_false (by omega)
      have HF : Hid (V = !(s.data.toList == [])) := Lib.hid (by rw [← HV.out]; exact inks_yes (fun j hj => HG.out j (by rw [HL.out] at hj; omega)))
      clear HG
      go_wp2_with fail
      go_ret
      exact ⟨ret_bool (by rw [HF.out, ← ByteArray.toList_eq]; cases s.toList <;> rfl), rfl⟩
theorem isText_any (s : ByteArray) (w : World) (hs : s.size ≤ 9223372036854775807) :
    Calls Try.prog 48 #[.string s] w fun e w' => e = .returned (.bool (textB s)) ∧ w' = w := by
  have k := fun W => inks_node s W hs
  have HB : Hid (textB s = (inksB dtNode s.data.toList && decide (s.size ≤ 60))) := Lib.hid rfl
  generalize inksB dtNode s.data.toList = Q at k HB
  cases Q
  · go_enter Try.func48, Try.ntmps48
    go_wp2_with (go_at_call 60; refine (k _).mono ?_; rintro e w1 ⟨rfl, hw1⟩; rw [hw1]; clear hw1 w1)
    go_ret
    exact ⟨ret_bool (by rw [HB.out]; rfl), rfl⟩
  · have hd : decide ((s.size : Int) ≤ 60) = decide (s.size ≤ 60) := decide_eq_decide.2 (by omega)
    go_enter Try.func48, Try.ntmps48
    go_wp2_with (go_at_call 60; refine (k _).mono ?_; rintro e w1 ⟨rfl, hw1⟩; rw [hw1]; clear hw1 w1)
    go_ret
    exact ⟨ret_bool (by rw [HB.out]; simp; try omega), rfl⟩
/-! ### the labels of parts -/
theorem lb_yes {L : List ByteArray} {k : Nat} {x : ByteArray} (h : L[k]? = some x) (e : isLb x = true) : lbsT (L.take (k + 1)) = lbsT (L.take k) ++ [x] := by
  rw [List.take_add_one, h, lbsT, lbsT, List.filter_append]
  simp only [Option.toList_some, List.filter_cons, List.filter_nil, e]; rfl
theorem lb_no {L : List ByteArray} {k : Nat} {x : ByteArray} (h : L[k]? = some x) (e : isLb x = false) : lbsT (L.take (k + 1)) = lbsT (L.take k) := by
  rw [List.take_add_one, h, lbsT, lbsT, List.filter_append]
  simp only [Option.toList_some, List.filter_cons, List.filter_nil, e]; simp
theorem lb_len (L : List ByteArray) (k : Nat) : (lbsT (L.take k)).length ≤ k := Nat.le_trans (List.length_filter_le _ _) (List.length_take_le _ _)
theorem lbsT_len (L : List ByteArray) : (lbsT L).length ≤ L.length := List.length_filter_le _ _
/-- The three words that a part may be, as the walks ask. -/
theorem lb_cases (x : ByteArray) : (isLb x = true ∧ ((x.toList == [109, 101, 116, 114, 105, 99]) = false ∧ (x.toList == [109, 101, 116, 114, 105, 99, 42]) = false ∧ (x.toList == [95]) = false)) ∨
    (isLb x = false ∧ ((x.toList == [109, 101, 116, 114, 105, 99]) = true ∨ ((x.toList == [109, 101, 116, 114, 105, 99]) = false ∧ (x.toList == [109, 101, 116, 114, 105, 99, 42]) = true) ∨ ((x.toList == [109, 101, 116, 114, 105, 99]) = false ∧ (x.toList == [109, 101, 116, 114, 105, 99, 42]) = false ∧ (x.toList == [95]) = true))) := by
  unfold isLb isM isT isK
  rw [ByteArray.toList_eq]
  cases h1 : (x.data.toList == [109, 101, 116, 114, 105, 99]) <;> cases h2 : (x.data.toList == [109, 101, 116, 114, 105, 99, 42]) <;> cases h3 : (x.data.toList == [95]) <;> simp
set_option maxRecDepth 100000 in
set_option maxHeartbeats 1600000 in
theorem labels_any (A : Option Addr) (n cap : Nat) (ps : List ByteArray) (w : World) (hl : IsRows strCell 1 w w.heap.size A n ps) (hn : n ≤ 2097152) :
    Calls Try.prog 65 #[.slice A n cap] w fun e w' => (∃ v, e = .returned v ∧ w'.ownsRow w.heap.size 9 1 v (lbsT ps).length ((lbsT ps).flatMap strCell)) ∧ Below w.heap.size w w' := by
  have hll := hl.1
  obtain ⟨i0, hi0, hz0, hz1, hz2⟩ := info_parts Try.infoString
  have hu : Try.prog.underlying 42 = some (.slice 9) := by kernel_rfl
  go_enter Try.func65, Try.ntmps65
  go_wp2_with fail
  go_loopw [3, 8] (fun o i wr => Below w.heap.size w wr ∧ ∃ k : Nat, k ≤ n ∧ i = .int .i64 k ∧ wr.ownsRow w.heap.size 9 1 o (lbsT (ps.take k)).length ((lbsT (ps.take k)).flatMap strCell)) (fun _ i _ => n - (intOf i).toNat)
  case atStart => exact ⟨Below.refl _ _, 0, by omega, rfl, World.ownsRow_nil _ _ _ _⟩
  case round =>
    obtain ⟨hbw, k, hk, rfl, hown⟩ := hrel
    have hwr := hbw.size
    by_cases hlt : k < n
    · have hdk : decide ((k : Int) < n) = true := decide_eq_true (by omega)
      have hk0 : (0 : Int) ≤ k := by omega
      have hk1 : (k : Int) < n := by omega
      obtain ⟨b, off, x, rfl, hgb, hx, e0⟩ := str_at (hl.below hbw) hlt
      have hol := lb_len ps k
      have hgw := Nat.lt_of_lt_of_le hgb hbw.size
      rcases lb_cases x with ⟨hq, h1, h2, h3⟩ | ⟨hq, h1 | ⟨h1, h2⟩ | ⟨h1, h2, h3⟩⟩
      · have hoy := lb_yes hx hq
        generalize lbsT (ps.take k) = O at *
        clear hq hx
        go_wp2_with (first
          | (at_builtin; go_loud (refine wpList_append_lies _ (by rfl) _ _ _ (by rfl) w.heap.size 9 i0 _ 1 16 hu hi0 hz0 hz1 hz2 rfl (by omega) _ O.length (O.flatMap strCell) (by rfl) (hown.alloc _) ⟨wr.heap.size, 0, none⟩ 1 1 [.string x] (by rfl) (by rfl) (World.news_of_block (blk_at (by simp))) (by simp [Value.oneCell']) (by omega) (by simp [maxLen]; omega) (by omega) (by simp; omega) (wr.heap.size + 1) (by simp) ?_); intro gg capg w4 hown4 hgrow hat hlt4))
        exact ⟨⟨(bl_alloc hbw _).grown hgrow (by simp; omega) (fun j e => (hown.lt _ e).1), k + 1, by omega, rfl, by (rw [hoy, List.length_append, List.flatMap_append]; exact hown4)⟩, by (simp only [intOf]; omega)⟩
      all_goals
        have hon := lb_no hx hq
        clear hq hx
        go_wp2_with fail
        exact ⟨⟨hbw, k + 1, by omega, rfl, by (rw [hon]; exact hown)⟩, by (simp only [intOf]; omega)⟩
    · have hdk : decide ((k : Int) < n) = false := decide_eq_false (by omega)
      obtain rfl : k = n := by omega
      rw [List.take_of_length_le (by omega)] at hown
      go_wp2_with fail
      go_ret
      exact ⟨⟨_, rfl, hown⟩, hbw⟩
/-! ### how often each is there -/
def litS (s : ByteArray) : Lit := .string s.data.toList
/-- A map that counts the first labels. -/
structure CM (D : DataW Unit) (ls : List ByteArray) : Prop where
  at_ : ∀ s : ByteArray, D.atKey (litS s) (.lit (.int .i64 0)) = .lit (.int .i64 (cntL ls s : Int))
  tidy : Maps.Tidy D
  has : ∀ s : ByteArray, Maps.has D (litS s) = ls.any fun p => p.data.toList == s.data.toList
  size : (ls.Pairwise fun x y => x.data.toList ≠ y.data.toList) → Maps.size D = ls.length
theorem CM.nil : CM (.map []) [] := ⟨fun s => rfl, Maps.tidy_empty, fun s => rfl, fun _ => rfl⟩
theorem litS_ne {s x : ByteArray} (h : s.data.toList ≠ x.data.toList) : litS s ≠ litS x := fun e => h (by unfold litS at e; injection e)
theorem CM.step {D : DataW Unit} {ls : List ByteArray} {x : ByteArray} {c : Int} (h : CM D ls) (hc : D.atKey (litS x) (.lit (.int .i64 0)) = .lit (.int .i64 c)) : CM (D.put (litS x) (.lit (.int .i64 (c + 1)))) (ls ++ [x]) := by
  have hk : WideAt.IsKeyLit (litS x) := trivial
  have e0 : c = (cntL ls x : Int) := by
    have := h.at_ x
    rw [hc] at this
    injection this with this
    injection this
  refine ⟨fun s => ?_, h.tidy.put hk _, fun s => ?_, fun hp => ?_⟩
  · by_cases e : s.data.toList = x.data.toList
    · have e1 : litS s = litS x := by unfold litS; rw [e]
      rw [e1, Maps.atKey_put_same h.tidy.isMap hk, e0]
      unfold cntL
      rw [List.countP_append, e, List.countP_singleton]
      simp
    · rw [Maps.atKey_put_other (litS_ne e), h.at_]
      unfold cntL
      rw [List.countP_append, List.countP_singleton, if_neg (by rw [beq_iff_eq]; exact fun k => e k.symm)]
      rfl
  · rw [List.any_append]
    by_cases e : s.data.toList = x.data.toList
    · have e1 : litS s = litS x := by unfold litS; rw [e]
      rw [e1, Maps.has_put_same h.tidy.isMap hk, e]
      simp
    · rw [Maps.has_put_other (litS_ne e), h.has]
      have : ([x].any fun p => p.data.toList == s.data.toList) = false := by
        rw [List.any_cons, List.any_nil, Bool.or_false, beq_eq_false_iff_ne]
        exact fun k => e k.symm
      rw [this, Bool.or_false]
  · rw [List.pairwise_append] at hp
    rw [Maps.size_put h.tidy, h.size hp.1, h.has, if_neg, List.length_append]
    · rfl
    · rw [List.any_eq_true]
      rintro ⟨p, hp1, hp2⟩
      exact hp.2.2 p hp1 x (by simp) (by simpa using hp2)
theorem mapLaw : Maps.Keyed Try.prog 9 := Maps.string_keyed Try.underlying9
theorem zeroInt (w : World) : (zeroValue 3).run Try.prog w = .ok (.int .i64 0) w := by kernel_rfl
theorem keyS {s : ByteArray} (h : s.size ≤ maxLen) : keyOf Try.prog 9 (.string s) = some (litS s) := Go.WideMaps.keyOf_string_mk Try.underlying9 h
/-- A map of the call's own that counts labels. -/
def Often (w : World) (B : Nat) (ls : List ByteArray) : Prop := ∃ D, w.ownsMap Try.prog 9 (plainElem Try.prog 3) B ls.length D ∧ CM D ls
theorem Often.below {w w' : World} {B B0 : Nat} {ls : List ByteArray} (h : Often w B ls) (hb : Below B0 w w') (hB : B < B0) : Often w' B ls := by
  obtain ⟨D, ⟨es, clock, hh, r⟩, hc⟩ := h
  exact ⟨D, ⟨es, clock, (hb.block B hB).trans hh, r⟩, hc⟩
theorem cnt_take {ls : List ByteArray} (k : Nat) (s : ByteArray) : cntL (ls.take k) s ≤ k := Nat.le_trans List.countP_le_length (List.length_take_le _ _)
set_option maxRecDepth 100000 in
set_option maxHeartbeats 1600000 in
theorem names_any (A : Option Addr) (n cap : Nat) (ps : List ByteArray) (w : World) (hl : IsRows strCell 1 w w.heap.size A n ps) (hn : n ≤ 2097152) (hsz : ∀ x ∈ ps, x.size ≤ maxLen) :
    Calls Try.prog 63 #[.slice A n cap] w fun e w' => e = .returned (.map (some w.heap.size)) ∧ Often w' w.heap.size (lbsT ps) ∧ Below w.heap.size w w' := by
  have hll := hl.1
  have hmm := @run_makeMap Try.prog
  have kL := labels_any A n cap ps (w.alloc (.map #[] 0)) ((hl.below ((Below.refl _ _).alloc (Nat.le_refl _) _)).more (by simp)) hn
  have hlen := lbsT_len ps
  have hsz2 : ∀ x ∈ lbsT ps, x.size ≤ maxLen := fun x hx => hsz x (List.mem_filter.1 hx).1
  generalize lbsT ps = ls at *
  go_enter Try.func63, Try.ntmps63
  go_wp2_with (go_at_call 65; refine kL.mono ?_; rintro e w1 ⟨⟨v, rfl, hown⟩, hb1⟩; obtain ⟨A1, c1, rfl, hr1⟩ := own_rws (f := strCell) (fun _ => rfl) hown rfl)
  have hb0 : Below w.heap.size w w1 := bl_any ((Below.refl _ _).alloc (Nat.le_refl _) _) hb1
  have hm0 : w1.ownsMap (H := Unit) Try.prog 9 (plainElem Try.prog 3) w.heap.size 0 (.map []) := by
    obtain ⟨es, clock, hh, r⟩ := World.ownsMap_made (H := Unit) w Try.prog 9 (plainElem Try.prog 3)
    exact ⟨es, clock, (hb1.block _ (by simp)).trans hh, r⟩
  have hlt0 : w.heap.size < w1.heap.size := by have := hb1.size; simp at this; omega
  have hbs : (w.alloc (.map #[] 0)).heap.size = w.heap.size + 1 := by simp
  rw [hbs] at hown
  clear kL hmm
  go_loopw [10] (fun i wr => Below w.heap.size w wr ∧ w1.heap.size ≤ wr.heap.size ∧ wr.ownsRow (w.heap.size + 1) 9 1 (.slice A1 ls.length c1) ls.length (ls.flatMap strCell) ∧ ∃ (k : Nat) (D : DataW Unit), k ≤ ls.length ∧ i = .int .i64 k ∧ wr.ownsMap Try.prog 9 (plainElem Try.prog 3) w.heap.size k D ∧ CM D (ls.take k)) (fun i _ => ls.length - (intOf i).toNat)
  case atStart => exact ⟨hb0, Nat.le_refl _, hown, 0, _, by omega, rfl, hm0, by rw [List.take_zero]; exact CM.nil⟩
  case round =>
    obtain ⟨hbw, hz, hrw, k, D, hk, rfl, hm, hc⟩ := hrel
    by_cases hlt : k < ls.length
    · have hdk : decide ((k : Int) < (ls.length : Int)) = true := decide_eq_true (by omega)
      have hk0 : (0 : Int) ≤ k := by omega
      have hk1 : (k : Int) < (ls.length : Int) := by omega
      have hbk : ∀ g, (Value.slice A1 ls.length c1).ownBlock = some g → w.heap.size + 1 ≤ g := fun g hg => (hrw.lt g hg).1
      obtain ⟨_, _, hAA, hrr⟩ := own_rws (f := strCell) (fun _ => rfl) hrw rfl
      injection hAA with e1 e2 e3
      subst e1
      clear e2 e3
      obtain ⟨b, off, x, rfl, hgb, hx, e0⟩ := str_at hrr hlt
      have hkey := keyS (hsz2 x (List.mem_of_getElem? hx))
      have hxk : ls.take (k + 1) = ls.take k ++ [x] := by rw [List.take_add_one, hx]; rfl
      have hck := cnt_take (ls := ls) k x
      go_wp2_with (first
        | (at_lookup; refine wpList_lookup_own_int _ rfl _ _ 101 rfl 9 3 .i64 mapLaw Try.underlying101 Try.underlying3 (zeroInt _) w.heap.size k _ rfl hm _ _ rfl hkey ?_; intro c hat hwc)
        | (at_mapUpdate; refine wpList_mapUpdate_own _ rfl _ _ _ 101 rfl 9 3 mapLaw Try.underlying101 _ w.heap.size k _ rfl hm (by unfold maxLen; omega) _ _ _ rfl rfl hkey _ [] (plainElem_int Try.underlying3 (wrap64_wf _)) ?_; intro w2 hm2 hg2))
      have hs3 := hc.step hat
      have ec : c = (cntL (ls.take k) x : Int) := by
        have h4 := hc.at_ x
        rw [hat] at h4
        injection h4 with h4
        injection h4
      have ew : wrap64 (c + 1) = c + 1 := by
        unfold wrap64; omega
      rw [ew] at hm2
      have hmk := hg2.size
      exact ⟨⟨hbw.grown hg2 hbw.size (fun j e => by cases e; omega), by omega, hrw.kept hg2 (.inr fun e => by have := hbk _ e; omega), k + 1, _, by omega, rfl, hm2, by rw [hxk]; exact hs3⟩, by (simp only [intOf]; omega)⟩
    · have hdk : decide ((k : Int) < (ls.length : Int)) = false := decide_eq_false (by omega)
      obtain rfl : k = ls.length := by omega
      rw [List.take_length] at hc
      go_wp2_with fail
      go_ret
      exact ⟨rfl, ⟨D, hm, hc⟩, hbw⟩
end Go.Proofs.Ytjffagffjcbolaa
