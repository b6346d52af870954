/- Tenants: as many as may be: the walk of TenantMany. -/
import Derived.Test.YtjffagffjcbolaaTenL
namespace Go.Proofs.Ytjffagffjcbolaa
set_option linter.unusedVariables false
set_option linter.unusedSimpArgs false
open Go.RowKit
theorem conv1 (c : Int) (W : World) (b : Nat) (h : W.cell? ⟨b, 0, none⟩ = some (.int .u8 c)) :
    (convert 65 9 (.slice (some ⟨b, 0, none⟩) 1 1)).run Try.prog W = .ok (.string ⟨#[UInt8.ofNat c.toNat]⟩) W := by
  rw [run_convert_bytes_arg W 65 5 Try.underlying65 Try.underlying5 b 0 1 1 [c] rfl (by
    intro i hi
    match i, hi with
    | 0, _ => simpa using h) _ Try.underlying9]
  rfl
theorem strs_flat (ks : List (List UInt8)) : (ks.map fun l => ByteArray.mk l.toArray).flatMap strCell = ks.map fun l => Value.string ⟨l.toArray⟩ := by
  induction ks with
  | nil => rfl
  | cons x r ih => rw [List.map_cons, List.flatMap_cons, ih]; rfl
def insK (k : List UInt8) : List (List UInt8) → List (List UInt8)
  | [] => [k]
  | y :: r => if bytesBefore k y then k :: y :: r else y :: insK k r
def putK (ks : List (List UInt8)) (k : List UInt8) : List (List UInt8) := insK k (ks.filter fun x => !(x == k))
theorem keys_ins {α : Type} (k : List UInt8) (v : α) : ∀ m : KV α, (insKV k v m).map (·.1) = insK k (m.map (·.1))
  | [] => rfl
  | y :: r => by
    unfold insKV
    rw [List.map_cons, insK]
    split
    · rfl
    · rw [List.map_cons, keys_ins k v r]
theorem keys_del {α : Type} (m : KV α) (k : List UInt8) : (delKV m k).map (·.1) = (m.map (·.1)).filter fun x => !(x == k) := by
  unfold delKV
  rw [List.filter_map]
  rfl
theorem keys_put {α : Type} (m : KV α) (k : List UInt8) (v : α) : (putKV m k v).map (·.1) = putK (m.map (·.1)) k := by
  unfold putKV putK
  rw [keys_ins, keys_del]
theorem has_keys {α : Type} (m : KV α) (k : List UInt8) : hasKV m k = (m.map (·.1)).any fun x => x == k := by
  unfold hasKV
  rw [List.any_map]
  rfl
/-- What Add answers, by the keys alone. -/
def addK (ks : List (List UInt8)) (k : List UInt8) (c : VCfg) : Nat := if !(tnameB k) || !(cfgB c) then 19 else if ks.any (fun x => x == k) then 18 else if 5 ≤ ks.length then 14 else 0
theorem add_keys (m : Bk) (k : List UInt8) (c : VCfg) : addE m k c = addK (m.map (·.1)) k c := by
  unfold addE addK
  rw [has_keys, List.length_map]
def nC : VCfg := ⟨0, 1, 1, 1, 0, 0, none, 0, []⟩
theorem nC_at (w : World) : CfgAt w w.heap.size nC := ⟨IsRows.nil_, (by intro r hr; cases hr), Nat.zero_le _⟩
/-- A book of the call's own, by its keys. -/
structure KK (w0 w : World) (p b : Nat) (ks : List (List UInt8)) : Prop where
  ex : ∃ m, KS w0 w p b m ∧ m.map (·.1) = ks
section
variable {w0 w w' : World} {p b : Nat} {ks : List (List UInt8)}
theorem KK.bel (h : KK w0 w p b ks) (k : Below w.heap.size w w') : KK w0 w' p b ks := by
  obtain ⟨m, h1, h2⟩ := h.ex
  exact ⟨m, h1.bel k, h2⟩
theorem KK.alloc (h : KK w0 w p b ks) (o : Obj) : KK w0 (w.alloc o) p b ks := h.bel ((Below.refl _ _).alloc (Nat.le_refl _) o)
theorem KK.drew (h : KK w0 w p b ks) : KK w0 w.drew p b ks := h.bel (Below.refl _ _).drew
theorem KK.bl (h : KK w0 w p b ks) : Below w0.heap.size w0 w := by
  obtain ⟨m, h1, _⟩ := h.ex
  exact h1.bl
theorem KK.pb (h : KK w0 w p b ks) : w0.heap.size ≤ b := by
  obtain ⟨m, h1, _⟩ := h.ex
  exact h1.pb
/-- Add, by the keys. -/
theorem nadd (s : ByteArray) (E : Nat) (h : KK w0 w p b ks) (hs : s.size ≤ 100) (hk : ks.length ≤ 1000) (hE : addK ks s.data.toList nC = E) : Calls Try.prog 11 #[.pointer (some ⟨p, 0, none⟩), .string s, .agg #[.int .i64 0, .int .i64 1, .int .i64 1, .int .i64 1, .int .i64 0, .int .i64 0, .slice none 0 0]] w fun e w' => e = .returned (.int .i64 (E : Nat)) ∧ KK w0 w' p b (if E = 0 then putK ks s.data.toList else ks) ∧ Aw [b] w w' := by
  obtain ⟨m, h1, h2⟩ := h.ex
  have hml : m.length ≤ 1000 := by rw [← h2, List.length_map] at hk; exact hk
  refine (badd_any p b m s nC w h1.bk (by omega) (by unfold maxLen; omega) (nC_at w) hml).mono fun e w' ⟨k1, k2, k3⟩ => ?_
  rw [add_keys, h2, hE] at k1 k2
  refine ⟨k1, ?_, k3⟩
  unfold AddQ at k2
  by_cases h0 : E = 0
  · rw [if_pos h0] at k2 ⊢
    obtain ⟨d, _, hb⟩ := k2
    exact ⟨_, h1.aw k3 hb, by rw [keys_put, h2]⟩
  · rw [if_neg h0] at k2 ⊢
    exact ⟨_, h1.aw k3 k2, h2⟩
theorem nadd0 (s : ByteArray) (h : KK w0 w p b ks) (hs : s.size ≤ 100) (hk : ks.length ≤ 1000) (hE : addK ks s.data.toList nC = 0) : Calls Try.prog 11 #[.pointer (some ⟨p, 0, none⟩), .string s, .agg #[.int .i64 0, .int .i64 1, .int .i64 1, .int .i64 1, .int .i64 0, .int .i64 0, .slice none 0 0]] w fun e w' => e = .returned (.int .i64 0) ∧ KK w0 w' p b (putK ks s.data.toList) ∧ Aw [b] w w' :=
  (nadd s 0 h hs hk hE).mono fun e w' ⟨h1, h2, h3⟩ => ⟨h1, by rw [if_pos rfl] at h2; exact h2, h3⟩
theorem naddN (s : ByteArray) (E : Nat) (h : KK w0 w p b ks) (hs : s.size ≤ 100) (hk : ks.length ≤ 1000) (hE : addK ks s.data.toList nC = E) (h0 : E ≠ 0) : Calls Try.prog 11 #[.pointer (some ⟨p, 0, none⟩), .string s, .agg #[.int .i64 0, .int .i64 1, .int .i64 1, .int .i64 1, .int .i64 0, .int .i64 0, .slice none 0 0]] w fun e w' => e = .returned (.int .i64 (E : Nat)) ∧ KK w0 w' p b ks ∧ Aw [b] w w' :=
  (nadd s E h hs hk hE).mono fun e w' ⟨h1, h2, h3⟩ => ⟨h1, by rw [if_neg h0] at h2; exact h2, h3⟩
theorem nname (h : KK w0 w p b ks) (hk : ks.length ≤ 1000) : Calls Try.prog 17 #[.pointer (some ⟨p, 0, none⟩)] w fun e w' => (∃ v, e = .returned v ∧ w'.ownsRow w.heap.size 9 1 v ks.length ((ks.map fun l => ByteArray.mk l.toArray).flatMap strCell)) ∧ KK w0 w' p b ks ∧ Below w.heap.size w w' := by
  obtain ⟨m, h1, h2⟩ := h.ex
  have hml : m.length ≤ 1000 := by rw [← h2, List.length_map] at hk; exact hk
  refine (bnames_any p b m w h1.bk hml).mono fun e w' ⟨⟨v, k1, k2⟩, k3⟩ => ⟨⟨v, k1, ?_⟩, h.bel k3, k3⟩
  rw [h2] at k2
  have e1 : ks.length = m.length := by rw [← h2, List.length_map]
  rw [e1]
  rw [strs_flat]
  exact k2
theorem ndrop (s : ByteArray) (h : KK w0 w p b ks) (hs : s.size ≤ 100) (hh : ks.any (fun x => x == s.data.toList) = true) : Calls Try.prog 13 #[.pointer (some ⟨p, 0, none⟩), .string s] w fun e w' => e = .returned (.int .i64 0) ∧ KK w0 w' p b (ks.filter fun x => !(x == s.data.toList)) ∧ Aw [b] w w' := by
  obtain ⟨m, h1, h2⟩ := h.ex
  refine (bdrop_any p b m s w h1.bk (by unfold maxLen; omega)).mono fun e w' ⟨k1, k2, k3⟩ => ⟨?_, ⟨_, h1.aw k3 k2, by rw [keys_del, h2]⟩, k3⟩
  have e1 : hasKV m s.data.toList = true := by rw [has_keys, h2]; exact hh
  rw [e1] at k1
  exact k1
theorem nmay (s : ByteArray) (h : KK w0 w p b ks) (hs : s.size ≤ 100) (hh : ks.any (fun x => x == s.data.toList) = false) : Calls Try.prog 15 #[.pointer (some ⟨p, 0, none⟩), .string s, .slice none 0 0] w fun e w' => e = .returned (.int .i64 18) ∧ KK w0 w' p b ks ∧ Below w.heap.size w w' := by
  obtain ⟨m, h1, h2⟩ := h.ex
  have e1 : hasKV m s.data.toList = false := by rw [has_keys, h2]; exact hh
  refine (kmayG m s (by unfold maxLen; omega) none 0 0 18 [] h1 IsRows.nil_ (by omega) (by unfold mayE; rw [e1]; rfl)).mono fun e w' ⟨k1, k2, k3⟩ => ⟨k1, ⟨m, k2, h2⟩, k3⟩
end
/-- The names in turn; what is there behind some of them. -/
def tk (r i : Nat) : List UInt8 := [UInt8.ofNat (97 + (i + r) % 5)]
def tks (r i : Nat) : List (List UInt8) := (List.range i).foldl (fun ks j => putK ks (tk r j)) []
theorem tks_next (r i : Nat) : tks r (i + 1) = putK (tks r i) (tk r i) := by
  unfold tks
  rw [List.range_succ, List.foldl_append]; rfl
theorem tks_table : ((List.range 5).all fun r => ((List.range 5).all fun i => addK (tks r i) (tk r i) nC == 0 && decide ((tks r i).length ≤ 5)) && tks r 5 == [[97], [98], [99], [100], [101]]) = true := by decide +kernel
theorem tks_at {r i : Nat} (hr : r < 5) (hi : i < 5) : addK (tks r i) (tk r i) nC = 0 ∧ (tks r i).length ≤ 5 := by
  have h := List.all_eq_true.1 tks_table r (List.mem_range.2 hr)
  simp only [Bool.and_eq_true] at h
  have h2 := List.all_eq_true.1 h.1 i (List.mem_range.2 hi)
  simp only [Bool.and_eq_true, beq_iff_eq, decide_eq_true_eq] at h2
  exact h2
theorem tks_end {r : Nat} (hr : r < 5) : tks r 5 = [[97], [98], [99], [100], [101]] := by
  have h := List.all_eq_true.1 tks_table r (List.mem_range.2 hr)
  simp only [Bool.and_eq_true, beq_iff_eq] at h
  exact h.2
theorem lE1 : addK [[97], [98], [99], [100], [101]] [122, 122] nC = 14 := by decide +kernel
theorem lE2 : addK [[97], [98], [99], [100], [101]] [97] nC = 18 := by decide +kernel
theorem lE3 : addK [[97], [98], [99], [100], [101]] [] nC = 19 := by decide +kernel
theorem lE4 : addK [[97], [99], [100], [101]] [122, 122] nC = 0 := by decide +kernel
theorem lE5 : putK [[97], [99], [100], [101]] [122, 122] = [[97], [99], [100], [101], [122, 122]] := by decide +kernel
theorem tk_str (r i : Nat) : (⟨#[UInt8.ofNat (97 + (i + r) % 5)]⟩ : ByteArray).data.toList = tk r i := rfl
def lNames : List ByteArray := [[97], [98], [99], [100], [101]].map fun l => ByteArray.mk l.toArray
theorem lName_at {k : Nat} (h : k < 5) : lNames[k]? = some ⟨#[UInt8.ofNat (97 + k)]⟩ := by
  match k, h with
  | 0, _ => rfl
  | 1, _ => rfl
  | 2, _ => rfl
  | 3, _ => rfl
  | 4, _ => rfl
theorem rows_off {α : Type} {f : α → List Value} {size B n : Nat} {A : Option Addr} {xs : List α} {S : List Nat} {w w' : World} (h : IsRows f size w B A n xs) (k : Aw S w w') (hB : B ≤ w.heap.size) (hS : ∀ b o, A = some ⟨b, o, none⟩ → b ∉ S) : IsRows f size w' B A n xs :=
  ⟨h.1, fun hn => by
    obtain ⟨b, off, e, hb, hc⟩ := h.2 hn
    exact ⟨b, off, e, hb, fun i x j u hx hu => (World.cell?_of_block (w := w) (a := ⟨b, off + (i * size + j), none⟩) (k.block b (by omega) (hS b off e))).trans (hc i x j u hx hu)⟩⟩
set_option maxRecDepth 100000 in
set_option maxHeartbeats 12800000 in
theorem many29_any (h : Int) (w : World) (h0 : 0 ≤ h) (h1 : h ≤ 255) : Calls Try.prog 6 #[.int .u8 h] w fun e w' => e = .returned (.bool true) ∧ Below w.heap.size w w' := by
  have kK := fun W => known29_any W
  obtain ⟨H, rfl⟩ : ∃ H : Nat, h = (H : Int) := ⟨h.toNat, by omega⟩
  have hr5 : H % 5 < 5 := Nat.mod_lt _ (by decide)
  have wH : IntKind.i64.wrap (H : Int) = (H : Int) := IntWalk.i64_in _ (by omega)
  go_enter Try.func6, Try.ntmps6
  go_upto_region 7 with (first
    | (go_at_call 7; (with_reducible refine (kK _).mono ?_); rintro e w1 ⟨rfl, hb1⟩)
    | (go_at_call 8; (with_reducible refine (bnew_any _).mono ?_); rintro e w2 ⟨rfl, hbk, hb2⟩))
  have hK2 : KS w w2 (w1.heap.size + 1) w1.heap.size [] := ⟨hbk, bl_any hb1 hb2, hb1.size⟩
  have hq1 : w1.heap.size < w2.heap.size := hbk.lt
  have hc := Blk.new w2 30 #[.int .i64 0, .int .i64 1, .int .i64 1, .int .i64 1, .int .i64 0, .int .i64 0, .slice none 0 0]
  have hKK : KK w (w2.alloc (.cells #[.int .i64 0, .int .i64 1, .int .i64 1, .int .i64 1, .int .i64 0, .int .i64 0, .slice none 0 0] 30)) (w1.heap.size + 1) w1.heap.size [] := ⟨[], hK2.alloc _, rfl⟩
  clear hbk hb2 kK hK2 hb1
  generalize w2.alloc (.cells #[.int .i64 0, .int .i64 1, .int .i64 1, .int .i64 1, .int .i64 0, .int .i64 0, .slice none 0 0] 30) = W2 at *
  generalize w2.heap.size = q at *
  generalize w1.heap.size + 1 = p at *
  generalize w1.heap.size = b at *
  have hqb : q ∉ [b] := by simp; omega
  go_wp2_with fail
  go_loopw [5] (fun i wr => Blk wr q 30 #[.int .i64 0, .int .i64 1, .int .i64 1, .int .i64 1, .int .i64 0, .int .i64 0, .slice none 0 0] ∧ ∃ k : Nat, k ≤ 5 ∧ i = .int .i64 k ∧ KK w wr p b (tks (H % 5) k)) (fun i _ => 5 - (intOf i).toNat)
  case atStart => exact ⟨hc, 0, by omega, rfl, hKK⟩
  case round =>
    obtain ⟨hcr, k, hk, rfl, hKr⟩ := hrel
    clear hc hKK
    by_cases hlt : k < 5
    · have hd : decide ((k : Int) < 5) = true := decide_eq_true (by omega)
      have hk0 : (0 : Int) ≤ k := by omega
      obtain ⟨hE, hL⟩ := tks_at hr5 hlt
      have hNx := Lib.hid (tks_next (H % 5) k)
      have wS : IntKind.i64.wrap ((k : Int) + (H : Int)) = ((k + H : Nat) : Int) := by rw [IntWalk.i64_in _ (by omega)]; omega
      obtain ⟨kk, hkk⟩ : ∃ kk, (k + H % 5) % 5 = kk := ⟨_, rfl⟩
      have hkk5 : kk < 5 := by omega
      have wT : (((k + H : Nat) : Int)).tmod 5 = (kk : Int) := by rw [Int.tmod_eq_emod_of_nonneg (by omega)]; omega
      have wU : IntKind.u8.wrap (kk : Int) = (kk : Int) := by simp [IntKind.wrap, IntKind.bits, IntKind.signed]; omega
      have wM : ((k : Int) + (H : Int)) % 5 = (kk : Int) := by omega
      have wV : IntKind.u8.wrap (97 + (kk : Int)) = 97 + (kk : Int) := by simp [IntKind.wrap, IntKind.bits, IntKind.signed]; omega
      obtain ⟨S, hS⟩ : ∃ S : ByteArray, S = ⟨#[UInt8.ofNat (97 + kk)]⟩ := ⟨_, rfl⟩
      have hcv : (convert 65 9 (.slice (some ⟨wr.heap.size, 0, none⟩) 1 1)).run Try.prog (wr.alloc (.cells #[.int .u8 (97 + (kk : Int))] 5)) = .ok (.string S) (wr.alloc (.cells #[.int .u8 (97 + (kk : Int))] 5)) := by
        have := conv1 (97 + (kk : Int)) (wr.alloc (.cells #[.int .u8 (97 + (kk : Int))] 5)) wr.heap.size ((Blk.cell (Blk.new wr 5 #[.int .u8 (97 + (kk : Int))]) 0).trans rfl)
        rw [show ((97 : Int) + (kk : Int)).toNat = 97 + kk by omega, ← hS] at this
        exact this
      have kA := nadd0 S (hKr.alloc (.cells #[.int .u8 (97 + (kk : Int))] 5)) (by rw [hS]; show 1 ≤ 100; omega) (by omega) (by rw [hS, ← hkk]; exact hE)
      have hca := hcr.alloc (.cells #[.int .u8 (97 + (kk : Int))] 5)
      have q0 := (Blk.cell hca 0).trans rfl; have q1 := (Blk.cell hca 1).trans rfl; have q2 := (Blk.cell hca 2).trans rfl; have q3 := (Blk.cell hca 3).trans rfl; have q4 := (Blk.cell hca 4).trans rfl; have q5 := (Blk.cell hca 5).trans rfl; have q6 := (Blk.cell hca 6).trans rfl
      have HZ : Hid (putK (tks (H % 5) k) S.data.toList = tks (H % 5) (k + 1)) := Lib.hid (by rw [hNx.out, hS, ← hkk]; rfl)
      clear hE hL hNx hkk hS
      go_wp2_with (go_at_call 11; (with_reducible refine kA.mono ?_); rintro e w5 ⟨rfl, hK5, hA5⟩)
      rw [HZ.out] at hK5
      exact ⟨⟨Blk.aw hca hA5 hqb, k + 1, by omega, rfl, hK5⟩, by (simp only [intOf]; omega)⟩
    · have hd : decide ((k : Int) < 5) = false := decide_eq_false (by omega)
      obtain rfl : k = 5 := by omega
      rw [tks_end hr5] at hKr
      have kN := nname hKr (by decide)
      have hql := Blk.lt hcr
      go_upto_region 14 with (go_at_call 17; (with_reducible refine kN.mono ?_); rintro e w5 ⟨⟨v, rfl, hown⟩, hK5, hb5⟩; obtain ⟨lA, lc, rfl⟩ := own_form hown)
      have hrw : IsRows strCell 1 w5 w5.heap.size lA 5 lNames := own_isRows (f := strCell) (fun _ => rfl) hown rfl
      have hc5 := Blk.below hcr hb5 hql
      have hoff : ∀ g o, lA = some ⟨g, o, none⟩ → g ∉ [b] := fun g o e => by subst e; have := (hown.lt g rfl).1; simp; omega
      clear hown kN hKr hcr hb5
      have q0 := (Blk.cell hc5 0).trans rfl; have q1 := (Blk.cell hc5 1).trans rfl; have q2 := (Blk.cell hc5 2).trans rfl; have q3 := (Blk.cell hc5 3).trans rfl; have q4 := (Blk.cell hc5 4).trans rfl; have q5 := (Blk.cell hc5 5).trans rfl; have q6 := (Blk.cell hc5 6).trans rfl
      go_upto_region 16 with (first
        | (go_at_call 11; (with_reducible refine (naddN ⟨#[122, 122]⟩ 14 hK5 (by decide) (by decide) lE1 (by decide)).mono ?_); rintro e w6 ⟨rfl, hK6, hA6⟩; have hc6 := Blk.aw hc5 hA6 hqb; have r0 := (Blk.cell hc6 0).trans rfl; have r1 := (Blk.cell hc6 1).trans rfl; have r2 := (Blk.cell hc6 2).trans rfl; have r3 := (Blk.cell hc6 3).trans rfl; have r4 := (Blk.cell hc6 4).trans rfl; have r5 := (Blk.cell hc6 5).trans rfl; have r6 := (Blk.cell hc6 6).trans rfl)
        | (go_at_call 11; (with_reducible refine (naddN ⟨#[97]⟩ 18 hK6 (by decide) (by decide) lE2 (by decide)).mono ?_); rintro e w7 ⟨rfl, hK7, hA7⟩; have hc7 := Blk.aw hc6 hA7 hqb; have s0 := (Blk.cell hc7 0).trans rfl; have s1 := (Blk.cell hc7 1).trans rfl; have s2 := (Blk.cell hc7 2).trans rfl; have s3 := (Blk.cell hc7 3).trans rfl; have s4 := (Blk.cell hc7 4).trans rfl; have s5 := (Blk.cell hc7 5).trans rfl; have s6 := (Blk.cell hc7 6).trans rfl)
        | (go_at_call 11; (with_reducible refine (naddN ⟨#[]⟩ 19 hK7 (by decide) (by decide) lE3 (by decide)).mono ?_); rintro e w8 ⟨rfl, hK8, hA8⟩))
      have hc8 := Blk.aw hc7 hA8 hqb
      have hrw8 : IsRows strCell 1 w8 w8.heap.size lA 5 lNames := (rows_off (rows_off (rows_off hrw hA6 (Nat.le_refl _) hoff) hA7 hA6.size hoff) hA8 (Nat.le_trans hA6.size hA7.size) hoff).more (Nat.le_trans (Nat.le_trans hA6.size hA7.size) hA8.size)
      clear hc5 hc6 hc7 hA6 hA7 hA8 hrw hK5 hK6 hK7 q0 q1 q2 q3 q4 q5 q6 r0 r1 r2 r3 r4 r5 r6 s0 s1 s2 s3 s4 s5 s6
      go_wp2_with fail
      go_loopw [8] (fun i wr => Below w8.heap.size w8 wr ∧ ∃ k : Nat, k ≤ 5 ∧ i = .int .i64 k) (fun i _ => 5 - (intOf i).toNat)
      case atStart => exact ⟨Below.refl _ _, 0, by omega, rfl⟩
      case round =>
        obtain ⟨hbr, k, hk, rfl⟩ := hrel
        by_cases hlt : k < 5
        · have hd : decide ((k : Int) < 5) = true := decide_eq_true (by omega)
          have hk0 : (0 : Int) ≤ k := by omega
          have hk1 : (k : Int) < 5 := by omega
          obtain ⟨g, off, rfl, hg, hcs⟩ := (hrw8.bel hbr).2 (by omega)
          obtain ⟨S, hS⟩ : ∃ S : ByteArray, S = ⟨#[UInt8.ofNat (97 + k)]⟩ := ⟨_, rfl⟩
          have e0 : wr.cell? ⟨g, off + k, none⟩ = some (.string S) := by have := hcs k _ 0 _ (lName_at hlt) rfl; rw [hS]; simpa using this
          have hcv : ∀ W : World, W.cell? ⟨wr.heap.size, 0, none⟩ = some (.int .u8 (97 + (k : Int))) → (convert 65 9 (.slice (some ⟨wr.heap.size, 0, none⟩) 1 1)).run Try.prog W = .ok (.string S) W := fun W hW => by
            have := conv1 (97 + (k : Int)) W wr.heap.size hW
            rw [show ((97 : Int) + (k : Int)).toNat = 97 + k by omega, ← hS] at this
            exact this
          have hcv1 := hcv _ ((Blk.cell (Blk.new wr 5 #[.int .u8 (97 + (k : Int))]) 0).trans rfl)
          have hcv2 := hcv _ ((Blk.cell (Blk.new wr.drew 5 #[.int .u8 (97 + (k : Int))]) 0).trans rfl)
          have hcv3 := hcv (wr.alloc (.cells #[.int .u8 (97 + (k : Int))] 5)).drew ((Blk.cell (Blk.new wr 5 #[.int .u8 (97 + (k : Int))]) 0).trans rfl)
          have hz2 : wr.drew.heap.size = wr.heap.size := rfl
          have wk8 : IntKind.u8.wrap (k : Int) = (k : Int) := by simp [IntKind.wrap, IntKind.bits, IntKind.signed]; omega
          have wV : IntKind.u8.wrap (97 + (k : Int)) = 97 + (k : Int) := by simp [IntKind.wrap, IntKind.bits, IntKind.signed]; omega
          clear hcs hS hcv
          go_upto_region 19 with (fail)
          go_region
          all_goals
            go_wp2_with fail
            exact ⟨⟨(bl_alloc hbr _).drew, k + 1, by omega, rfl⟩, by (simp only [intOf]; omega)⟩
        · have hd : decide ((k : Int) < 5) = false := decide_eq_false (by omega)
          have hK9 := hK8.bel hbr
          have hc9 := Blk.below hc8 hbr (Blk.lt hc8)
          clear hK8 hc8 hrw8
          go_wp2_with (first
            | (go_at_call 13; (with_reducible refine (ndrop ⟨#[98]⟩ hK9 (by decide) (by decide)).mono ?_); rintro e w10 ⟨rfl, hK10, hA10⟩; have hK11 : KK w w10 p b [[97], [99], [100], [101]] := hK10; have hc10 := Blk.aw hc9 hA10 hqb; have q0 := (Blk.cell hc10 0).trans rfl; have q1 := (Blk.cell hc10 1).trans rfl; have q2 := (Blk.cell hc10 2).trans rfl; have q3 := (Blk.cell hc10 3).trans rfl; have q4 := (Blk.cell hc10 4).trans rfl; have q5 := (Blk.cell hc10 5).trans rfl; have q6 := (Blk.cell hc10 6).trans rfl)
            | (go_at_call 11; (with_reducible refine (nadd0 ⟨#[122, 122]⟩ hK11 (by decide) (by decide) lE4).mono ?_); rintro e w12 ⟨rfl, hK12, hA12⟩; have hK13 : KK w w12 p b [[97], [99], [100], [101], [122, 122]] := (by rw [← lE5]; exact hK12))
            | (go_at_call 17; (with_reducible refine (nname hK13 (by decide)).mono ?_); rintro e w14 ⟨⟨v14, rfl, hown14⟩, hK14, hb14⟩; obtain ⟨zA, zc, rfl⟩ := own_form hown14)
            | (go_at_call 15; (with_reducible refine (nmay ⟨#[98]⟩ hK14 (by decide) (by decide)).mono ?_); rintro e w15 ⟨rfl, hK15, hb15⟩))
          go_ret
          exact ⟨rfl, hK15.bl⟩
end Go.Proofs.Ytjffagffjcbolaa
