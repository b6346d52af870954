/- The walks of the reference's gateway: Drop, Add. -/
import Derived.Test.YtjffagffjcbolaaRgG
namespace Go.Proofs.Ytjffagffjcbolaa
set_option linter.unusedVariables false
set_option linter.unusedSimpArgs false
open Go.RowKit
theorem Try.infoTen : (Try.prog.info? 57).map (fun i => (i.zero, i.size, i.bytes)) = some (some (.agg #[.string ⟨#[]⟩, .int .i64 0, .int .i64 0, .int .i64 0, .int .i64 0, .int .i64 0, .int .i64 0, .slice none 0 0, .string ⟨#[]⟩, .slice none 0 0, .pointer none]), 11, 136) := by kernel_rfl
theorem own_cases {w : World} {base : Nat} {e : TypeId} {size : Nat} {v : Value} {n : Nat} {xs : List Value} (h : w.ownsRow base e size v n xs) : (v = .slice none 0 0 ∧ xs = [] ∧ n = 0) ∨ ∃ g cap, v = .slice (some ⟨g, 0, none⟩) n cap ∧ n ≤ cap ∧ cap ≤ maxLen ∧ base ≤ g := by
  obtain ⟨hl, ⟨h1, h2⟩ | ⟨g, cap, cur, hv, hg, hh, hnc, hcm, _⟩⟩ := h
  · exact .inl ⟨h1, by subst h2; exact List.length_eq_zero_iff.1 (by omega), h2⟩
  · exact .inr ⟨g, cap, hv, hnc, hcm, hg⟩
theorem tens_one (l : List VTen) : ∀ u ∈ l.flatMap tenCell, u.oneCell' = true := by
  intro u hu
  obtain ⟨x, _, hx⟩ := List.mem_flatMap.1 hu
  simp only [tenCell, List.mem_cons, List.not_mem_nil, or_false] at hx
  rcases hx with rfl | rfl | rfl | rfl | rfl | rfl | rfl | rfl | rfl | rfl | rfl <;> rfl
theorem tens_reads {w : World} {B : Nat} {A : Option Addr} {n : Nat} {l : List VTen} (h : IsRows tenCell 11 w B A n l) : Reads w B 11 A n (l.flatMap tenCell) := rows_reads (f := tenCell) (fun _ => rfl) (by decide) h
/-- Rows stay where another block is written. -/
theorem rows_gw {α : Type} {f : α → List Value} {size B n q : Nat} {A : Option Addr} {xs : List α} {w w' : World} {T : TypeId} {cs : Array Value} (h : IsRows f size w B A n xs) (hB : B ≤ w.heap.size) (hb : Blk w q T cs) (j : Nat) (hj : ∀ x, ∃ u, (f x)[j]? = some u ∧ ∀ o, cs[o + j]? ≠ some u) (k : Aw [q] w w') : IsRows f size w' B A n xs := by
  refine ⟨h.1, fun hn => ?_⟩
  obtain ⟨b, off, e, hlt, hc⟩ := h.2 hn
  have hne : b ≠ q := by
    intro hq
    obtain ⟨x, hx⟩ : ∃ x, xs[0]? = some x := ⟨_, List.getElem?_eq_getElem (by have := h.1; omega)⟩
    obtain ⟨u, hu, hno⟩ := hj x
    have h1 := hc 0 x j u hx hu
    subst hq
    rw [Blk.cell hb, Nat.zero_mul, Nat.zero_add] at h1
    exact hno off h1
  exact ⟨b, off, e, hlt, fun i x j u hx hu => (World.cell?_of_block (w := w) (a := ⟨b, off + (i * size + j), none⟩) (k.block b (by omega) (by simpa using hne))).trans (hc i x j u hx hu)⟩
theorem CfgAt.gw {w w' : World} {q n c : Nat} {A : Option Addr} {a : Int} {x : VCfg} (h : CfgAt w w.heap.size x) (hb : Blk w q 50 #[.slice A n c, .int .i64 a]) (k : Aw [q] w w') : CfgAt w' w'.heap.size x := by
  have hno : ∀ s : ByteArray, ∀ o, (#[Value.slice A n c, .int .i64 a] : Array Value)[o + 0]? ≠ some (.string s) := by
    intro s o
    match o with
    | 0 => simp
    | 1 => simp
    | o + 2 => simp
  refine ⟨(rows_gw h.rows (Nat.le_refl _) hb 2 (fun x => ⟨_, rfl, fun o => by simp⟩) k).more k.size, fun r hr => ?_, h.len⟩
  obtain ⟨h1, h2⟩ := h.each r hr
  exact ⟨⟨(rows_gw h1.f (Nat.le_refl _) hb 0 (fun x => ⟨_, rfl, hno x⟩) k).more k.size, (rows_gw h1.p (Nat.le_refl _) hb 0 (fun x => ⟨_, rfl, hno x⟩) k).more k.size, (rows_gw h1.e (Nat.le_refl _) hb 0 (fun x => ⟨_, rfl, hno x.1⟩) k).more k.size⟩, h2⟩
/-- The gateway with other tenants. -/
theorem GwAt.put {w : World} {q : Nat} {at_ : Int} {A : Option Addr} {c : Nat} {R R' : List VTen} {v : Value} {base : Nat} (h : Blk w q 50 #[.slice A R.length c, .int .i64 at_]) (ho : w.ownsRow base 57 11 v R'.length (R'.flatMap tenCell)) (hc : ∀ x ∈ R', CfgAt w w.heap.size x.cfg) :
    ∃ A' c', v = .slice A' R'.length c' ∧ GwAt (w.setCell ⟨q, 0, none⟩ v) q at_ A' c' R' := by
  have hne := own_blk_ne ho h (by decide)
  have hA : Aw [q] w (w.setCell ⟨q, 0, none⟩ v) := (Aw.refl [q] w).setCell (p := ⟨q, 0, none⟩) (.inl (by simp)) v
  have ho' := own_aw ho hA (fun g hg hm => by simp at hm; subst hm; exact hne hg)
  obtain ⟨A', c', rfl, hr⟩ := own_rws (f := tenCell) (fun _ => rfl) ho' rfl
  refine ⟨A', c', rfl, ?_, hr, ?_, fun x hx => ?_⟩
  · have := Blk.set_ h 0 (.slice A' R'.length c')
    exact this
  · rcases own_cases ho with ⟨e, _, h0⟩ | ⟨g, cap, e, h1, h2, _⟩
    · injection e with e0 _ e2
      subst e2; subst e0
      exact ⟨by omega, Nat.zero_le _, .inl ⟨rfl, rfl⟩⟩
    · injection e with e0 _ e2
      subst e2
      exact ⟨h1, h2, .inr ⟨g, 0, e0⟩⟩
  · exact (hc x hx).gw h hA
/-- What stands while tenants are put anew. -/
structure GS (w0 w : World) (q : Nat) (at_ : Int) (A : Option Addr) (n c : Nat) : Prop where
  b : Blk w q 50 #[.slice A n c, .int .i64 at_]
  l : Below w0.heap.size w0 w
section
variable {w0 w w' : World} {q : Nat} {at_ : Int} {A : Option Addr} {n c : Nat}
theorem GS.call (h : GS w0 w q at_ A n c) (k : Below w.heap.size w w') : GS w0 w' q at_ A n c := ⟨h.b.below k (Blk.lt h.b), bl_any h.l k⟩
theorem GS.drew (h : GS w0 w q at_ A n c) : GS w0 w.drew q at_ A n c := h.call (Below.refl _ _).drew
theorem GS.alloc (h : GS w0 w q at_ A n c) (o : Obj) : GS w0 (w.alloc o) q at_ A n c := h.call ((Below.refl _ _).alloc (Nat.le_refl _) o)
theorem GS.grown (h : GS w0 w q at_ A n c) {row : Option Nat} (k : w.grownBy w' row) (hr : ∀ i, row = some i → w0.heap.size ≤ i) (hne : row ≠ some q) : GS w0 w' q at_ A n c :=
  ⟨h.b.grown k (fun e => hne e.symm), h.l.grown k h.l.size hr⟩
theorem GS.fs (h : GS w0 w q at_ A n c) : (w.cell? ⟨q, 0, none⟩ = some (.slice A n c) ∧ w.frozen? ⟨q, 0, none⟩ = false) ∧ GS w0 w q at_ A n c := ⟨⟨(Blk.cell h.b 0).trans rfl, Blk.frozen h.b 0⟩, h⟩
end
theorem gdrop_none (q : Nat) (at_ : Int) (A : Option Addr) (c : Nat) (R : List VTen) (s : ByteArray) (w : World) (h : GwAt w q at_ A c R) (hR : R.length ≤ 1000) (hf : ixN R s = -1) :
    Calls Try.prog 14 #[.pointer (some ⟨q, 0, none⟩), .string s] w fun e w' => e = .returned (.int .i64 18) ∧ w' = w := by
  have kF := gfind_any q at_ A c R s w h hR
  rw [hf] at kF
  clear hf
  go_enter Try.func14, Try.ntmps14
  go_wp2_with (go_at_call 19; (with_reducible refine kF.mono ?_); rintro e w1 ⟨rfl, hw1⟩; rw [hw1]; clear hw1 w1)
  go_ret
  exact ⟨rfl, rfl⟩
set_option maxRecDepth 100000 in
set_option maxHeartbeats 6400000 in
theorem gdrop_some (q : Nat) (at_ : Int) (A : Option Addr) (c : Nat) (R : List VTen) (s : ByteArray) (w : World) (h : GwAt w q at_ A c R) (hR : R.length ≤ 1000) (K : Nat) (hf : ixN R s = (K : Int)) (hK : K < R.length) :
    Calls Try.prog 14 #[.pointer (some ⟨q, 0, none⟩), .string s] w fun e w' => e = .returned (.int .i64 0) ∧ (∃ A' c', GwAt w' q at_ A' c' (R.take K ++ R.drop (K + 1))) ∧ Aw [q] w w' := by
  obtain ⟨i0, hi0, hz0, hz1, hz2⟩ := info_parts Try.infoTen
  have hu : Try.prog.underlying 48 = some (.slice 57) := by kernel_rfl
  have kF := gfind_any q at_ A c R s w h hR
  rw [hf] at kF
  clear hf
  obtain ⟨hc1, hc2, _⟩ := h.cap
  have hS : GS w w q at_ A R.length c := ⟨h.blk, Below.refl _ _⟩
  have hrw := h.rows
  obtain ⟨b, off, rfl, hb, _⟩ := hrw.2 (by omega)
  have hql := Blk.lt h.blk
  have HC : Hid (∀ x ∈ R.take K ++ R.drop (K + 1), CfgAt w w.heap.size x.cfg) := Lib.hid (fun x hx => h.cfg x (by
    rcases List.mem_append.1 hx with hx | hx
    · exact List.mem_of_mem_take hx
    · exact List.mem_of_mem_drop hx))
  have HT : Reads w w.heap.size 11 (some ⟨b, off, none⟩) K ((R.take K).flatMap tenCell) := tens_reads (rows_to K (by omega) hrw)
  have HD : Reads w w.heap.size 11 (some ⟨b, off + (K + 1) * 11, none⟩) (R.length - (K + 1)) ((R.drop (K + 1)).flatMap tenCell) := tens_reads (rows_cut (K + 1) hrw)
  have HL : Hid ((R.take K ++ R.drop (K + 1)).length = K + (R.length - (K + 1))) := Lib.hid (by rw [List.length_append, List.length_take, List.length_drop]; omega)
  have hK0 : (0 : Int) ≤ K := by omega
  have hK1 : (K : Int) ≤ (c : Int) := by omega
  have hKd : decide ((K : Int) < 0) = false := decide_eq_false (by omega)
  have hwK : IntKind.i64.wrap ((K : Int) + 1) = (K : Int) + 1 := IntWalk.i64_in _ (by omega)
  have hK2 : ((K : Int) + 1).toNat = K + 1 := by omega
  have hK3 : (K : Int) + 1 ≤ (R.length : Int) := by omega
  have hK4 : (R.length : Int) ≤ (c : Int) := by omega
  have hK5 : (0 : Int) ≤ (K : Int) + 1 := by omega
  have hK6 : (K : Int) + 1 ≤ (c : Int) := by omega
  have hcm := hc2
  unfold maxLen at hcm
  obtain ⟨f0, _⟩ := hS.fs
  obtain ⟨f0, f1⟩ := f0
  clear h hrw
  go_enter Try.func14, Try.ntmps14
  go_upto_region 4 with (go_at_call 19; (with_reducible refine kF.mono ?_); rintro e w1 ⟨rfl, hw1⟩; rw [hw1]; clear hw1 w1)
  clear kF
  have HN : ∀ (v8 : Value) (w8 : World), w8.ownsRow w.heap.size 57 11 v8 (K + (R.length - (K + 1))) ((R.take K).flatMap tenCell ++ (R.drop (K + 1)).flatMap tenCell) → GS w w8 q at_ (some ⟨b, off, none⟩) R.length c → (∃ A' c', GwAt (w8.setCell ⟨q, 0, none⟩ v8) q at_ A' c' (R.take K ++ R.drop (K + 1))) ∧ Aw [q] w (w8.setCell ⟨q, 0, none⟩ v8) := fun v8 w8 ho hS8 => by
    rw [← HL.out, ← List.flatMap_append] at ho
    obtain ⟨A', c', _, hg⟩ := GwAt.put hS8.b ho (fun x hx => (HC.out x hx).bel hS8.l)
    refine ⟨⟨A', c', hg⟩, ?_⟩
    have h1 : Aw [q] w w8 := Aw.ofBelow hS8.l
    exact h1.setCell (p := ⟨q, 0, none⟩) (.inl (by simp)) v8
  have HNH := Lib.hid HN
  clear HN
  by_cases hcp : c = K + 1
  · have hcq : (c = K + 1) = True := eq_true hcp
    have HD2 : Reads w w.heap.size 11 (some ⟨b, off, none⟩) (R.length - (K + 1)) ((R.drop (K + 1)).flatMap tenCell) := by
      have e : R.length = K + 1 := by omega
      have e2 : R.drop (K + 1) = [] := List.drop_of_length_le (by omega)
      rw [e2, e, Nat.sub_self]
      exact ⟨rfl, fun h => absurd h (by omega)⟩
    clear HD hcp
    go_region_law (first
      | (refine step_append_new _ (by rfl) (.tmp 17) _ (by rfl) 57 i0 _ 11 136 hu hi0 hz0 hz1 hz2 rfl (by omega) w.heap.size (some ⟨b, off, none⟩) K _ ((R.take K).flatMap tenCell) (by rfl) HT (tens_one _) (by simp [maxLen]; omega) (by omega) ?_; intro v5 w5 ho5 hb5; have S5 := hS.call (Below.trans ((Below.refl w.heap.size w).drew) hb5); obtain ⟨⟨g0, g1⟩, _⟩ := S5.fs)
      | (refine step_append_any _ (by rfl) (.tmp 18) (.tmp 25) _ (by rfl) w.heap.size 57 i0 _ 11 136 hu hi0 hz0 hz1 hz2 rfl (by omega) v5 K _ (by rfl) ho5 w.heap.size _ (R.length - (K + 1)) _ _ (by rfl) (HD2.below S5.l) (tens_one _) (by simp [maxLen]; omega) (by omega) S5.l.size ?_; intro v8 w8 ho8 hg8 hat8; obtain ⟨A8, c8, rfl⟩ := own_form ho8; have S8 := S5.grown hg8 (fun j e => (ho5.lt j e).1) (own_blk_ne ho5 S5.b (by decide)); obtain ⟨⟨k0, k1⟩, _⟩ := S8.fs))
    all_goals
      go_wp2_with fail
      go_ret
      exact ⟨rfl, HNH.out _ w8 ho8 S8⟩
  · go_region_law (first
      | (refine step_append_new _ (by rfl) (.tmp 17) _ (by rfl) 57 i0 _ 11 136 hu hi0 hz0 hz1 hz2 rfl (by omega) w.heap.size (some ⟨b, off, none⟩) K _ ((R.take K).flatMap tenCell) (by rfl) HT (tens_one _) (by simp [maxLen]; omega) (by omega) ?_; intro v5 w5 ho5 hb5; have S5 := hS.call (Below.trans ((Below.refl w.heap.size w).drew) hb5); obtain ⟨⟨g0, g1⟩, _⟩ := S5.fs)
      | (refine step_append_any _ (by rfl) (.tmp 18) (.tmp 25) _ (by rfl) w.heap.size 57 i0 _ 11 136 hu hi0 hz0 hz1 hz2 rfl (by omega) v5 K _ (by rfl) ho5 w.heap.size _ (R.length - (K + 1)) _ _ (by rfl) (HD.below S5.l) (tens_one _) (by simp [maxLen]; omega) (by omega) S5.l.size ?_; intro v8 w8 ho8 hg8 hat8; obtain ⟨A8, c8, rfl⟩ := own_form ho8; have S8 := S5.grown hg8 (fun j e => (ho5.lt j e).1) (own_blk_ne ho5 S5.b (by decide)); obtain ⟨⟨k0, k1⟩, _⟩ := S8.fs))
    all_goals
      go_wp2_with fail
      go_ret
      exact ⟨rfl, HNH.out _ w8 ho8 S8⟩
end Go.Proofs.Ytjffagffjcbolaa
