/- The walk of the reference's Add where a tenant is put. -/
import Derived.Test.YtjffagffjcbolaaRgI
import Derived.Deep.CutRange
import Derived.Deep.CutBlock
namespace Go.Proofs.Ytjffagffjcbolaa
set_option linter.unusedVariables false
set_option linter.unusedSimpArgs false
open Go.RowKit
theorem gaddE_zero {R : List VTen} {s : ByteArray} {c : VCfg} (h : gaddE R s c = 0) : tnameB s.data.toList = true ∧ cfgB c = true ∧ ixN R s = -1 ∧ R.length < 5 := by
  unfold gaddE at h
  cases h1 : tnameB s.data.toList
  · rw [h1] at h; simp at h
  cases h2 : cfgB c
  · rw [h1, h2] at h; simp at h
  rw [h1, h2] at h
  simp only [Bool.not_true, Bool.or_self, Bool.false_eq_true, if_false] at h
  by_cases h3 : 0 ≤ ixN R s
  · rw [if_pos h3] at h; cases h
  rw [if_neg h3] at h
  by_cases h4 : 5 ≤ R.length
  · rw [if_pos h4] at h; cases h
  refine ⟨rfl, rfl, ?_, by omega⟩
  rcases ixN_cases R s with ⟨h5, _⟩ | ⟨k, x, h5, _⟩
  · exact h5
  · omega
/-- What stands while a tenant is put. -/
structure HS (w0 w : World) (q : Nat) (at_ : Int) (A : Option Addr) (n c bx : Nat) (y : VTen) : Prop where
  g : GS w0 w q at_ A n c
  x : Blk w bx 57 #[.string y.name, .int .i64 y.cfg.protos, .int .i64 y.cfg.bytes, .int .i64 y.cfg.points, .int .i64 y.cfg.store, .int .i64 y.cfg.mode, .int .i64 y.cfg.unit, .slice y.cfg.A y.cfg.rules.length y.cfg.c, .string y.name, .slice none 0 0, .pointer (some ⟨y.t, 0, none⟩)]
section
variable {w0 w w' : World} {q : Nat} {at_ : Int} {A : Option Addr} {n c bx : Nat} {y : VTen}
theorem HS.call (h : HS w0 w q at_ A n c bx y) (k : Below w.heap.size w w') : HS w0 w' q at_ A n c bx y := ⟨h.g.call k, h.x.below k (Blk.lt h.x)⟩
theorem HS.drew (h : HS w0 w q at_ A n c bx y) : HS w0 w.drew q at_ A n c bx y := h.call (Below.refl _ _).drew
theorem HS.alloc (h : HS w0 w q at_ A n c bx y) (o : Obj) : HS w0 (w.alloc o) q at_ A n c bx y := h.call ((Below.refl _ _).alloc (Nat.le_refl _) o)
theorem HS.grown (h : HS w0 w q at_ A n c bx y) {row : Option Nat} (k : w.grownBy w' row) (hr : ∀ i, row = some i → w0.heap.size ≤ i) (hne : row ≠ some q) (hne2 : row ≠ some bx) : HS w0 w' q at_ A n c bx y :=
  ⟨h.g.grown k hr hne, h.x.grown k (fun e => hne2 e.symm)⟩
theorem HS.fs (h : HS w0 w q at_ A n c bx y) : (w.cell? ⟨q, 0, none⟩ = some (.slice A n c) ∧ w.frozen? ⟨q, 0, none⟩ = false) ∧ w.cell? ⟨bx, 0, none⟩ = some (.string y.name) ∧ w.cell? ⟨bx, 1, none⟩ = some (.int .i64 y.cfg.protos) ∧ w.cell? ⟨bx, 2, none⟩ = some (.int .i64 y.cfg.bytes) ∧ w.cell? ⟨bx, 3, none⟩ = some (.int .i64 y.cfg.points) ∧ w.cell? ⟨bx, 4, none⟩ = some (.int .i64 y.cfg.store) ∧ w.cell? ⟨bx, 5, none⟩ = some (.int .i64 y.cfg.mode) ∧ w.cell? ⟨bx, 6, none⟩ = some (.int .i64 y.cfg.unit) ∧ w.cell? ⟨bx, 7, none⟩ = some (.slice y.cfg.A y.cfg.rules.length y.cfg.c) ∧ w.cell? ⟨bx, 8, none⟩ = some (.string y.name) ∧ w.cell? ⟨bx, 9, none⟩ = some (.slice none 0 0) ∧ w.cell? ⟨bx, 10, none⟩ = some (.pointer (some ⟨y.t, 0, none⟩)) :=
  ⟨h.g.fs.1, (Blk.cell h.x 0).trans rfl, (Blk.cell h.x 1).trans rfl, (Blk.cell h.x 2).trans rfl, (Blk.cell h.x 3).trans rfl, (Blk.cell h.x 4).trans rfl, (Blk.cell h.x 5).trans rfl, (Blk.cell h.x 6).trans rfl, (Blk.cell h.x 7).trans rfl, (Blk.cell h.x 8).trans rfl, (Blk.cell h.x 9).trans rfl, (Blk.cell h.x 10).trans rfl⟩
end
theorem ten_reads1 {w : World} {g : Nat} {y : VTen} (h : Blk w g 57 #[.string y.name, .int .i64 y.cfg.protos, .int .i64 y.cfg.bytes, .int .i64 y.cfg.points, .int .i64 y.cfg.store, .int .i64 y.cfg.mode, .int .i64 y.cfg.unit, .slice y.cfg.A y.cfg.rules.length y.cfg.c, .string y.name, .slice none 0 0, .pointer (some ⟨y.t, 0, none⟩)]) : Reads w w.heap.size 11 (some ⟨g, 0, none⟩) 1 (tenCell y) := by
  refine ⟨rfl, fun _ => ⟨_, rfl, h.lt, fun j z hz => ?_⟩⟩
  have he : (⟨g, 0, none⟩ : Addr).add j = ⟨g, j, none⟩ := by unfold Addr.add; split <;> simp_all
  rw [he, h.cell j, ← hz]
  simp [tenCell]
theorem reads_take {w : World} {B : Nat} {A : Option Addr} {n k : Nat} {l : List VTen} (h : IsRows tenCell 11 w B A n l) (hk : k ≤ n) : Reads w B 11 A k ((l.take k).flatMap tenCell) := by
  rcases Nat.eq_zero_or_pos k with rfl | h0
  · exact ⟨by simp, fun h => absurd h (by omega)⟩
  · obtain ⟨b, off, rfl, _⟩ := h.2 (by omega)
    exact tens_reads (rows_to k hk h)
theorem reads_none {w : World} {B : Nat} {A : Option Addr} {m k : Nat} {l : List VTen} (hm : m = 0) (hl : l.length ≤ k) : Reads w B 11 A m ((l.drop k).flatMap tenCell) := by
  subst hm
  rw [List.drop_of_length_le hl]
  exact ⟨rfl, fun h => absurd h (by omega)⟩
theorem flat_drop : ∀ (R : List VTen) (k : Nat), (R.flatMap tenCell).drop (k * 11) = (R.drop k).flatMap tenCell
  | _, 0 => by simp
  | [], k + 1 => by simp
  | x :: R, k + 1 => by
    have ih := flat_drop R k
    rw [List.flatMap_cons, List.drop_succ_cons, ← ih, Nat.add_mul, Nat.one_mul, Nat.add_comm, ← List.drop_drop]
    congr 1
/-- What the gateway is behind a tenant put. -/
def GAdd (w' : World) (q : Nat) (at_ : Int) (R : List VTen) (s : ByteArray) (c : VCfg) : Prop := ∃ (j : Nat) (y : VTen) (A' : Option Addr) (c' : Nat), j ≤ R.length ∧ (∀ i x, i < j → R[i]? = some x → x.name.data.toList < s.data.toList) ∧ (∀ x, R[j]? = some x → ¬ x.name.data.toList < s.data.toList) ∧ y.name = s ∧ LikeC c y.cfg ∧ GwAt w' q at_ A' c' (R.take j ++ y :: R.drop j)
set_option maxRecDepth 100000 in
set_option maxHeartbeats 12800000 in
theorem gadd_yes (q : Nat) (at_ : Int) (A : Option Addr) (cc : Nat) (R : List VTen) (s : ByteArray) (c : VCfg) (w : World) (h : GwAt w q at_ A cc R) (hs : s.size ≤ 9223372036854775807) (hc : CfgAt w w.heap.size c) (hpn : -9223372036854775808 ≤ c.protos) (hE : gaddE R s c = 0) :
    Calls Try.prog 12 #[.pointer (some ⟨q, 0, none⟩), .string s, .agg #[.int .i64 c.protos, .int .i64 c.bytes, .int .i64 c.points, .int .i64 c.store, .int .i64 c.mode, .int .i64 c.unit, .slice c.A c.rules.length c.c]] w fun e w' => e = .returned (.int .i64 0) ∧ GAdd w' q at_ R s c ∧ Aw [q] w w' := by
  obtain ⟨i0, hi0, hz0, hz1, hz2⟩ := info_parts Try.infoTen
  have hu : Try.prog.underlying 48 = some (.slice 57) := by kernel_rfl
  obtain ⟨e1, e2, e3, e4⟩ := gaddE_zero hE
  have hT := fun W => rtenant_any s W hs
  have hbX : Below w.heap.size w (w.alloc (.cells #[.int .i64 c.protos, .int .i64 c.bytes, .int .i64 c.points, .int .i64 c.store, .int .i64 c.mode, .int .i64 c.unit, .slice c.A c.rules.length c.c] 30)) := bl_alloc (Below.refl _ _) _
  have hB := Blk.new w 30 #[.int .i64 c.protos, .int .i64 c.bytes, .int .i64 c.points, .int .i64 c.store, .int .i64 c.mode, .int .i64 c.unit, .slice c.A c.rules.length c.c]
  have h1 := h.bel hbX
  have hc1 := hc.bel hbX
  have kC := rcheck_any c _ hc1 hpn
  unfold cfgE at kC
  rw [e2] at kC
  rw [e1] at hT
  clear h hE hpn e1 e2
  go_enter Try.func12, Try.ntmps12
  go_upto_region 1 with (fail)
  generalize w.alloc (.cells #[.int .i64 c.protos, .int .i64 c.bytes, .int .i64 c.points, .int .i64 c.store, .int .i64 c.mode, .int .i64 c.unit, .slice c.A c.rules.length c.c] 30) = W at *
  have d0 := (Blk.cell hB 0).trans rfl; have d1 := (Blk.cell hB 1).trans rfl; have d2 := (Blk.cell hB 2).trans rfl; have d3 := (Blk.cell hB 3).trans rfl; have d4 := (Blk.cell hB 4).trans rfl; have d5 := (Blk.cell hB 5).trans rfl; have d6 := (Blk.cell hB 6).trans rfl
  have kC' : Calls Try.prog 21 #[.agg #[.int .i64 c.protos, .int .i64 c.bytes, .int .i64 c.points, .int .i64 c.store, .int .i64 c.mode, .int .i64 c.unit, .slice c.A c.rules.length c.c]] W fun e w' => e = .returned (.int .i64 0) ∧ Below W.heap.size W w' := kC
  clear kC
  have kF := fun w2 (hb : Below W.heap.size W w2) => gfind_any q at_ A cc R s w2 (h1.bel hb) (by omega)
  rw [e3] at kF
  clear e3
  have d5' : decide ((5 : Int) ≤ (R.length : Int)) = false := decide_eq_false (by omega)
  have d5n : decide (5 ≤ R.length) = false := decide_eq_false (by omega)
  go_upto_region 7 with (first
        | (go_at_call 25; (with_reducible refine (hT _).mono ?_); rintro en w1 ⟨rfl, hw1⟩; rw [hw1]; clear hw1 w1)
        | (go_at_call 21; (with_reducible refine kC'.mono ?_); rintro en w1 ⟨rfl, hb1⟩; have h2 := h1.bel hb1; have c0 := (Blk.cell h2.blk 0).trans rfl)
        | (go_at_call 19; (with_reducible refine (kF _ hb1).mono ?_); rintro en w2 ⟨rfl, hw2⟩; rw [hw2]; clear hw2 w2))
  have hB2 := hB.below hb1 (Blk.lt hB)
  have hc2 := hc1.bel hb1
  have hW1 := bl_any hbX hb1
  clear hB hc1 h1 hbX hb1 kC' kF hT d0 d1 d2 d3 d4 d5 d6 c0
  have kO := rown_any c w1 hc2
  have HCR : Hid (∀ x ∈ R, CfgAt w1 w1.heap.size x.cfg) := Lib.hid h2.cfg
  generalize hcl : c.rules.length = mm at *
  have HCL := Lib.hid hcl
  clear hcl
  have d0 := (Blk.cell hB2 0).trans rfl; have d1 := (Blk.cell hB2 1).trans rfl; have d2 := (Blk.cell hB2 2).trans rfl; have d3 := (Blk.cell hB2 3).trans rfl; have d4 := (Blk.cell hB2 4).trans rfl; have d5 := (Blk.cell hB2 5).trans rfl; have d6 := (Blk.cell hB2 6).trans rfl
  have hG1 : GS w1 w1 q at_ A R.length cc := ⟨h2.blk, Below.refl _ _⟩
  have c0 := (Blk.cell h2.blk 0).trans rfl
  have hrw := h2.rows
  obtain ⟨hp1, hp2, hp3⟩ := h2.cap
  clear hp3
  generalize hn : R.length = n at *
  have HN := Lib.hid hn
  clear hn
  have hpm := hp2
  unfold maxLen at hpm
  go_upto_block 1 with fail
  go_cut [7] from 30 to 50 (fun v7 wx => w1 = wx ∧ ∃ k : Nat, v7 = .int .i64 k ∧ k ≤ n ∧ Hid (∀ i x, i < k → R[i]? = some x → x.name.data.toList < s.data.toList) ∧ Hid (∀ x, R[k]? = some x → ¬ x.name.data.toList < s.data.toList))
  case first =>
    go_wp2_with fail
    go_loop [7] (fun i => ∃ k : Nat, k ≤ n ∧ i = .int .i64 k ∧ Hid (∀ i x, i < k → R[i]? = some x → x.name.data.toList < s.data.toList)) (fun i => n - (intOf i).toNat)
    case atStart => exact ⟨0, by omega, rfl, Lib.hid (fun i x h => by omega)⟩
    case round =>
      obtain ⟨k, hk, rfl, HG⟩ := hrel
      have hk0 : (0 : Int) ≤ k := by omega
      have hcs : (k < n ∧ ∃ X : VTen, R[k]? = some X ∧ X.name.data.toList < s.data.toList) ∨ (k < n ∧ ∃ X : VTen, R[k]? = some X ∧ ¬ X.name.data.toList < s.data.toList) ∨ k = n := by
        by_cases hlt : k < n
        · obtain ⟨X, hX⟩ : ∃ X, R[k]? = some X := ⟨_, List.getElem?_eq_getElem (by have := HN.out; omega)⟩
          by_cases hl : X.name.data.toList < s.data.toList
          · exact .inl ⟨hlt, X, hX, hl⟩
          · exact .inr (.inl ⟨hlt, X, hX, hl⟩)
        · exact .inr (.inr (by omega))
      rcases hcs with ⟨hlt, X, hX, hl⟩ | ⟨hlt, X, hX, hl⟩ | hkn2
      · have hdk : decide ((k : Int) < (n : Int)) = true := decide_eq_true (by omega)
        have hk1 : (k : Int) < (n : Int) := by omega
        obtain ⟨b, off, hA, hb, hcx⟩ := hrw.2 (by omega)
        rw [hA] at c0
        have q0 : w1.cell? ⟨b, off + k * 11, none⟩ = some (.string X.name) := hcx k X 0 _ hX rfl
        have hbl : Op.bytesLess X.name.toList s.toList = true := by rw [bytesLess_eq, ByteArray.toList_eq, ByteArray.toList_eq]; exact decide_eq_true hl
        have HF : Hid (∀ i x, i < k + 1 → R[i]? = some x → x.name.data.toList < s.data.toList) := Lib.hid (fun i y hi hy => by
          by_cases e : i = k
          · subst e; rw [hX] at hy; injection hy with hy; rw [← hy]; exact hl
          · exact HG.out i y (by omega) hy)
        clear hcx hA hX hl HG
        go_wp2_with fail
        exact ⟨⟨k + 1, by omega, rfl, HF⟩, by (simp only [intOf]; omega)⟩
      · have hdk : decide ((k : Int) < (n : Int)) = true := decide_eq_true (by omega)
        have hk1 : (k : Int) < (n : Int) := by omega
        obtain ⟨b, off, hA, hb, hcx⟩ := hrw.2 (by omega)
        rw [hA] at c0
        have q0 : w1.cell? ⟨b, off + k * 11, none⟩ = some (.string X.name) := hcx k X 0 _ hX rfl
        have hbl : Op.bytesLess X.name.toList s.toList = false := by rw [bytesLess_eq, ByteArray.toList_eq, ByteArray.toList_eq]; exact decide_eq_false hl
        have HLE : Hid (∀ x, R[k]? = some x → ¬ x.name.data.toList < s.data.toList) := Lib.hid (fun x hx => by
          rw [hX] at hx; injection hx with hx; rw [← hx]; exact hl)
        clear hcx hA hX hl
        go_wp2_with fail
        go_meet
        exact ⟨rfl, k, rfl, hk, HG, HLE⟩
      · have hdk : decide ((k : Int) < (n : Int)) = false := decide_eq_false (by omega)
        have hdk2 : decide (k < n) = false := decide_eq_false (by omega)
        have HLE : Hid (∀ x, R[k]? = some x → ¬ x.name.data.toList < s.data.toList) := Lib.hid (fun x hx => by
          have := (List.getElem?_eq_some_iff.1 hx).1
          have := HN.out
          omega)
        clear hkn2
        go_wp2_with fail
        go_meet
        exact ⟨rfl, k, rfl, hk, HG, HLE⟩
  case rest =>
    obtain ⟨rfl, k, rfl, hk, HG, HLE⟩ := hcut
    have hk0 : (0 : Int) ≤ k := by omega
    have hkc : (k : Int) ≤ (cc : Int) := by omega
    have hkn : (k : Int) ≤ (n : Int) := by omega
    have hnc : (n : Int) ≤ (cc : Int) := by omega
    go_upto_region 11 with (go_at_call 26; (with_reducible refine kO.mono ?_); rintro en w5 ⟨⟨A5, c5, qs, rfl, hQ, hO⟩, hb5⟩)
    have hqn : mm = qs.length := by have := congrArg List.length hQ; rw [List.length_map, List.length_map, HCL.out] at this; exact this.symm
    subst hqn
    have hS6 : HS w1 ((w5.alloc (.cells #[.slice none 0 0] 73)).alloc (.cells #[.string s, .int .i64 c.protos, .int .i64 c.bytes, .int .i64 c.points, .int .i64 c.store, .int .i64 c.mode, .int .i64 c.unit, .slice A5 qs.length c5, .string s, .slice none 0 0, .pointer (some ⟨w5.heap.size, 0, none⟩)] 57)) q at_ A n cc (w5.heap.size + 1) ⟨s, ⟨c.protos, c.bytes, c.points, c.store, c.mode, c.unit, A5, c5, qs⟩, w5.heap.size⟩ := ⟨((hG1.call hb5).alloc _).alloc _, by have h := blk_two w5 73 57 #[.slice none 0 0] #[.string s, .int .i64 c.protos, .int .i64 c.bytes, .int .i64 c.points, .int .i64 c.store, .int .i64 c.mode, .int .i64 c.unit, .slice A5 qs.length c5, .string s, .slice none 0 0, .pointer (some ⟨w5.heap.size, 0, none⟩)]; exact h⟩
    have hD6 : CfgAt ((w5.alloc (.cells #[.slice none 0 0] 73)).alloc (.cells #[.string s, .int .i64 c.protos, .int .i64 c.bytes, .int .i64 c.points, .int .i64 c.store, .int .i64 c.mode, .int .i64 c.unit, .slice A5 qs.length c5, .string s, .slice none 0 0, .pointer (some ⟨w5.heap.size, 0, none⟩)] 57)) ((w5.alloc (.cells #[.slice none 0 0] 73)).alloc (.cells #[.string s, .int .i64 c.protos, .int .i64 c.bytes, .int .i64 c.points, .int .i64 c.store, .int .i64 c.mode, .int .i64 c.unit, .slice A5 qs.length c5, .string s, .slice none 0 0, .pointer (some ⟨w5.heap.size, 0, none⟩)] 57)).heap.size ⟨c.protos, c.bytes, c.points, c.store, c.mode, c.unit, A5, c5, qs⟩ := (own_cfg hO rfl hQ hc2 ⟨c.protos, c.bytes, c.points, c.store, c.mode, c.unit, A5, c5, qs⟩ ⟨rfl, rfl⟩).bel (bl_alloc (bl_alloc (Below.refl _ _) _) _)
    have HLK : Hid (LikeC c ⟨c.protos, c.bytes, c.points, c.store, c.mode, c.unit, A5, c5, qs⟩) := Lib.hid ⟨rfl, rfl, rfl, rfl, rfl, rfl, hQ⟩
    have hbx5 : w1.heap.size ≤ w5.heap.size := hb5.size
    have hl6 : w5.heap.size + 1 < ((w5.alloc (.cells #[.slice none 0 0] 73)).alloc (.cells #[.string s, .int .i64 c.protos, .int .i64 c.bytes, .int .i64 c.points, .int .i64 c.store, .int .i64 c.mode, .int .i64 c.unit, .slice A5 qs.length c5, .string s, .slice none 0 0, .pointer (some ⟨w5.heap.size, 0, none⟩)] 57)).heap.size := by simp
    have hW16 : Below w1.heap.size w1 ((w5.alloc (.cells #[.slice none 0 0] 73)).alloc (.cells #[.string s, .int .i64 c.protos, .int .i64 c.bytes, .int .i64 c.points, .int .i64 c.store, .int .i64 c.mode, .int .i64 c.unit, .slice A5 qs.length c5, .string s, .slice none 0 0, .pointer (some ⟨w5.heap.size, 0, none⟩)] 57)) := bl_alloc (bl_alloc hb5 _) _
    generalize (w5.alloc (.cells #[.slice none 0 0] 73)).alloc (.cells #[.string s, .int .i64 c.protos, .int .i64 c.bytes, .int .i64 c.points, .int .i64 c.store, .int .i64 c.mode, .int .i64 c.unit, .slice A5 qs.length c5, .string s, .slice none 0 0, .pointer (some ⟨w5.heap.size, 0, none⟩)] 57) = W6 at *
    generalize hT5 : w5.heap.size = T5 at *
    generalize hbx : T5 + 1 = bx at *
    clear hT5
    have hq6 := Blk.lt hS6.g.b
    have hfs := hS6.fs
    simp only at hfs
    obtain ⟨⟨c0', f0⟩, x0, x1, x2, x3, x4, x5, x6, x7, x8, x9, x10⟩ := hfs
    clear c0 d0 d1 d2 d3 d4 d5 d6 kO hQ hO
    have c6a := (World.cell?_alloc_lt W6 (.cells #[.string s, .int .i64 c.protos, .int .i64 c.bytes, .int .i64 c.points, .int .i64 c.store, .int .i64 c.mode, .int .i64 c.unit, .slice A5 qs.length c5, .string s, .slice none 0 0, .pointer (some ⟨T5, 0, none⟩)] 57) ⟨q, 0, none⟩ hq6).trans c0'
    have c6b := (World.cell?_alloc_lt W6.drew (.cells #[.string s, .int .i64 c.protos, .int .i64 c.bytes, .int .i64 c.points, .int .i64 c.store, .int .i64 c.mode, .int .i64 c.unit, .slice A5 qs.length c5, .string s, .slice none 0 0, .pointer (some ⟨T5, 0, none⟩)] 57) ⟨q, 0, none⟩ hq6).trans c0'
    have hW6 : Below w.heap.size w W6 := bl_any hW1 hW16
    have HCR6 : Hid (∀ x ∈ R, CfgAt W6 W6.heap.size x.cfg) := Lib.hid (fun x hx => (HCR.out x hx).bel hW16)
    have HX : Hid (∀ (v9 : Value) (d : VCfg) (t : Nat) (w9 : World), LikeC c d → CfgAt W6 W6.heap.size d → w9.ownsRow W6.heap.size 57 11 v9 (k + 1 + (n - k)) ((R.take k).flatMap tenCell ++ tenCell ⟨s, d, t⟩ ++ (R.drop k).flatMap tenCell) → GS W6 w9 q at_ A n cc → GAdd (w9.setCell ⟨q, 0, none⟩ v9) q at_ R s c ∧ Aw [q] w (w9.setCell ⟨q, 0, none⟩ v9)) := Lib.hid (fun v9 d t w9 hd hdc ho hS9 => by
      have hl : (R.take k ++ ⟨s, d, t⟩ :: R.drop k).length = k + 1 + (n - k) := by
        rw [List.length_append, List.length_cons, List.length_take, List.length_drop]
        have := HN.out
        omega
      have e : (R.take k ++ ⟨s, d, t⟩ :: R.drop k).flatMap tenCell = (R.take k).flatMap tenCell ++ tenCell ⟨s, d, t⟩ ++ (R.drop k).flatMap tenCell := by
        rw [List.flatMap_append, List.flatMap_cons, List.append_assoc]
      rw [← e, ← hl] at ho
      have hS10 : Blk w9 q 50 #[.slice A R.length cc, .int .i64 at_] := by rw [HN.out]; exact hS9.b
      obtain ⟨A', c', _, hg⟩ := GwAt.put hS10 ho (fun x hx => by
        rcases List.mem_append.1 hx with hx | hx
        · exact (HCR6.out x (List.mem_of_mem_take hx)).bel hS9.l
        rcases List.mem_cons.1 hx with rfl | hx
        · exact hdc.bel hS9.l
        · exact (HCR6.out x (List.mem_of_mem_drop hx)).bel hS9.l)
      refine ⟨⟨k, ⟨s, d, t⟩, A', c', by have := HN.out; omega, HG.out, HLE.out, rfl, hd, hg⟩, ?_⟩
      have h1 : Aw [q] w w9 := Aw.ofBelow (bl_any hW6 hS9.l)
      exact h1.setCell (p := ⟨q, 0, none⟩) (.inl (by simp)) v9)
    have HT := ((reads_take hrw hk).below hW16).more hW16.size
    replace hS6 : HS W6 W6 q at_ A n cc bx ⟨s, ⟨c.protos, c.bytes, c.points, c.store, c.mode, c.unit, A5, c5, qs⟩, T5⟩ := ⟨⟨hS6.g.b, Below.refl _ _⟩, hS6.x⟩
    have hw16 := Nat.le_refl W6.heap.size
    have HD : Reads W6 W6.heap.size 11 (if cc = k then A else A.map (·.add (k * 11))) (n - k) ((R.drop k).flatMap tenCell) := by
      have h0 := (tens_reads hrw).cut hk hp1
      have e : (R.flatMap tenCell).drop (k * 11) = (R.drop k).flatMap tenCell := flat_drop R k
      rw [e] at h0
      exact (h0.below hW16).more hW16.size
    clear hrw hW1 hW16 hW6 h2 hB2 hc2 HCR HCR6 hb5 hc hG1 hbx5
    go_region_law (first
      | (refine step_append_new _ (by rfl) (.tmp 65) _ (by rfl) 57 i0 _ 11 136 hu hi0 hz0 hz1 hz2 rfl (by omega) W6.heap.size _ k _ ((R.take k).flatMap tenCell) (by rfl) (by first | exact HT | exact HT.alloc hS6.g.l.size _) (tens_one _) (by simp [maxLen]; omega) (by omega) ?_; intro v7 w7 ho7 hb7; have S7 : HS W6 w7 q at_ _ n cc bx ⟨s, ⟨c.protos, c.bytes, c.points, c.store, c.mode, c.unit, A5, c5, qs⟩, T5⟩ := (by first | exact hS6.drew.call hb7 | exact (hS6.drew.alloc _).call hb7); have hfs7 := S7.fs; simp only at hfs7; obtain ⟨⟨c7, f7⟩, y0, y1, y2, y3, y4, y5, y6, y7, y8, y9, y10⟩ := hfs7; have c7a := (World.cell?_alloc_lt w7 (.cells #[.string s, .int .i64 c.protos, .int .i64 c.bytes, .int .i64 c.points, .int .i64 c.store, .int .i64 c.mode, .int .i64 c.unit, .slice A5 qs.length c5, .string s, .slice none 0 0, .pointer (some ⟨T5, 0, none⟩)] 57) ⟨q, 0, none⟩ (Blk.lt S7.g.b)).trans c7; have hnb : v7.ownBlock ≠ some bx := (fun e => by have h0 := ((own_low ho7 (show W6.heap.size ≤ _ by first | exact Nat.le_refl _ | (simp; done))).lt _ e).1; omega); have ho7b := own_low ho7 (show W6.heap.size ≤ _ by first | exact hS6.g.l.size | exact (hS6.g.alloc _).l.size | exact (hS6.drew.g.alloc _).l.size); (try (have N7 : Blk w7 W6.heap.size 57 #[.string s, .int .i64 c.protos, .int .i64 c.bytes, .int .i64 c.points, .int .i64 c.store, .int .i64 c.mode, .int .i64 c.unit, .slice A5 qs.length c5, .string s, .slice none 0 0, .pointer (some ⟨T5, 0, none⟩)] := Blk.below (Blk.new W6.drew _ _) hb7 (by first | (simp; done) | (simp; omega)))))
      | (refine step_append_any _ (by rfl) (.tmp 66) (.tmp 68) _ (by rfl) W6.heap.size 57 i0 _ 11 136 hu hi0 hz0 hz1 hz2 rfl (by omega) v7 k _ (by rfl) (by first | exact ho7b | exact ho7b.alloc _) _ _ 1 _ (tenCell (⟨s, ⟨c.protos, c.bytes, c.points, c.store, c.mode, c.unit, A5, c5, qs⟩, T5⟩)) (by rfl) (by first | exact ten_reads1 (y := (⟨s, ⟨c.protos, c.bytes, c.points, c.store, c.mode, c.unit, A5, c5, qs⟩, T5⟩)) N7 | exact ten_reads1 (y := (⟨s, ⟨c.protos, c.bytes, c.points, c.store, c.mode, c.unit, A5, c5, qs⟩, T5⟩)) (Blk.new w7 _ _)) (by simp [tenCell, Value.oneCell']) (by simp [maxLen]; omega) (by omega) (by first | exact S7.g.l.size | exact (S7.g.alloc _).l.size) ?_; intro v8 w8 ho8 hg8 hat8; clear hat8; have S8 : HS W6 w8 q at_ _ n cc bx ⟨s, ⟨c.protos, c.bytes, c.points, c.store, c.mode, c.unit, A5, c5, qs⟩, T5⟩ := (by first | exact S7.grown hg8 (fun j e => (ho7b.lt j e).1) (own_blk_ne ho7b S7.g.b (by decide)) hnb | exact (S7.alloc _).grown hg8 (fun j e => (ho7b.lt j e).1) (own_blk_ne ho7b S7.g.b (by decide)) hnb); have hfs8 := S8.fs; simp only at hfs8; obtain ⟨⟨c8, f8⟩, _⟩ := hfs8)
      | (refine step_append_any _ (by rfl) (.tmp 69) (.tmp 75) _ (by rfl) W6.heap.size 57 i0 _ 11 136 hu hi0 hz0 hz1 hz2 rfl (by omega) v8 (k + 1) _ (by rfl) ho8 W6.heap.size _ (n - k) _ _ (by rfl) (HD.below S8.g.l) (tens_one _) (by simp [maxLen]; omega) (by omega) S8.g.l.size ?_; intro v9 w9 ho9 hg9 hat9; clear hat9; obtain ⟨A9, c9, rfl⟩ := own_form ho9; have S9 := S8.g.grown hg9 (fun j e => (ho8.lt j e).1) (own_blk_ne ho8 S8.g.b (by decide)); obtain ⟨⟨k0, k1⟩, _⟩ := S9.fs))
    all_goals
      go_wp2_with fail
    all_goals
      go_ret
      exact ⟨rfl, HX.out _ _ T5 w9 HLK.out hD6 ho9 S9⟩
end Go.Proofs.Ytjffagffjcbolaa
