/- The walk of RuleFar. -/
import Derived.Test.YtodgfapgmmjpcaaGreatDoorK23
import Derived.Test.YtodgfapgmmjpcaaGreatDoorOpenStr
namespace Go.Proofs.YtodgfapgmmjpcaaGreatDoor
set_option linter.unusedVariables false
set_option linter.unusedSimpArgs false
open Go.RowKit
/-- Each string of a slice that was read is no longer than the reach. -/
theorem strs_sized {H : Type} {enc : TypeId × Value → H} {w : World} {base B R : Nat} {spare : Nat → Bool} {held : Bool} {A : Option Addr} {len cap : Nat} {d : DataW H} {ps : List MemPlace} {xs : List ByteArray}
    (h : DataW.Trod enc Tryz.prog w base spare held 22 (.slice A len cap) d ps) (hz : ∀ n ∈ d.weights Tryz.prog 22, n ≤ R) (hr : IsRows strCell 1 w B A len xs) : ∀ x ∈ xs, x.size ≤ R := by
  obtain ⟨fuel, hf⟩ := h
  rcases Go.Deep.open_slice Tryz.underlying22 hf with ⟨hcs, hx⟩ | ⟨a, l, c, m, n, D, Pl, hcs, _, hl, hm, hmm, hxe, hx⟩
  · simp [Value.cells] at hcs
    obtain ⟨rfl, rfl, rfl⟩ := hcs
    intro x hm
    have := hr.1
    rw [List.length_eq_zero_iff] at this
    subst this
    simp at hm
  · simp [Value.cells] at hcs
    obtain ⟨rfl, rfl, rfl⟩ := hcs
    intro x hxm
    obtain ⟨i, hi, rfl⟩ := List.getElem_of_mem hxm
    have hlen := hr.1
    have hlm : len ≤ m := by rw [hmm]; split <;> omega
    obtain ⟨b, off, e, hb, hc⟩ := hr.2 (by omega)
    obtain rfl := Option.some.inj e
    have c0 := hc i xs[i] 0 _ (List.getElem?_eq_getElem hi) rfl
    obtain ⟨cs', h1, h2⟩ := hx i (by omega)
    obtain ⟨y, rfl, hD, hy⟩ := DataW.trod_string Tryz.underlying9 h2
    obtain ⟨_, _, hcc⟩ := World.cells?_some h1
    rw [Tryz.cellsOfStr] at hcc
    have c1 := hcc 0 (by omega)
    rw [Go.Deep.add_add] at c1
    have c2 : w.cell? ⟨b, off + i * 1 + 0, none⟩ = some (.string y) := by
      have e : Addr.add ⟨b, off, none⟩ (i * 1 + 0) = ⟨b, off + i * 1 + 0, none⟩ := by
        by_cases h0 : i = 0
        · subst h0; simp [Addr.add]
        · simp [Addr.add, h0]
      rw [e] at c1
      exact c1.trans rfl
    have hxy : y = xs[i] := by
      have := (c0.symm.trans c2)
      simpa using this.symm
    subst hxy
    have hDi : D i = .lit (.string xs[i].data.toList) := by simpa using congrArg Prod.fst hD
    have hd : d = .slice ((List.range len).map D) ((List.range (m - len)).map fun j => D (len + j)) := congrArg Prod.fst hxe
    have hwm : ∀ (l : List (DataW H)), D i ∈ l → xs[i].size ∈ DataW.weightsAll Tryz.prog 9 l := by
      intro l
      induction l with
      | nil => intro h; simp at h
      | cons a l ih =>
        intro h
        simp only [DataW.weightsAll, List.mem_append]
        rcases List.mem_cons.1 h with rfl | h
        · left; rw [hDi]; simp [DataW.weights]
        · exact .inr (ih h)
    refine hz _ ?_
    rw [hd]
    simp only [DataW.weights, Tryz.underlying22]
    refine List.mem_cons_of_mem _ (List.mem_append_left _ (hwm _ ?_))
    exact List.mem_map.2 ⟨i, List.mem_range.2 (by omega), rfl⟩
theorem fltO_at {s : ByteArray} {k : Nat} (hk : k ≤ s.size) : fltO 11 s (k : Int) = k := by
  unfold fltO
  rw [if_neg (by decide)]
  unfold spotO clampO
  omega
theorem fltO_0 (s : ByteArray) : fltO 19 s (0 : Nat) = 0 := by
  unfold fltO
  rw [if_neg (by decide)]
  unfold spotO clampO
  omega
theorem str_app (a b : ByteArray) : (a ++ b).data.toList = a.data.toList ++ b.data.toList := by
  rw [ByteArray.data_append]; simp
/-- Compile at a text that is stuck. -/
theorem comp_k {s : ByteArray} {k : Nat} (h : compV s.data.toList = (k : Int)) (hk : k ≤ 1048576) (hs : s.size ≤ 4611686018427387903) (W : World) :
    Calls Tryz.prog 15 #[.string s] W fun e w' => (∃ l c, e = .returned (.tuple #[.agg #[.slice none 0 0, .slice none 0 0, .slice none 0 0], .agg #[.int .i64 11, .int .i64 k, .int .i64 l, .int .i64 c]])) ∧ Below W.heap.size W w' := by
  obtain ⟨h1, h2⟩ := compT_bad h
  have hL : s.data.toList.length = s.size := by simp
  have hM : (compS s.data.toList).2.1 ≤ 1048576 := by
    rw [compV_eq] at h
    split at h <;> omega
  have c := compile_any s W hs hM
  rw [h1] at c
  refine c.mono ?_
  rintro e w' ⟨rfl, hb⟩
  refine ⟨⟨fltL 11 s k, fltC 11 s k, ?_⟩, hb⟩
  show Ending.returned (.tuple #[_, .agg #[.int .i64 (11 : Nat), .int .i64 (fltO 11 s (k : Nat)), _, _]]) = _
  rw [fltO_at (by omega)]
  rfl
/-- Compile at a text that is not stuck. -/
theorem comp_ok {s : ByteArray} (h : compV s.data.toList = -1) (hs : s.size ≤ 1048576) (W : World) :
    Calls Tryz.prog 15 #[.string s] W fun e w' => (∃ (a b c : Option Addr × Nat × Nat) (d : Int), e = .returned (.tuple #[.agg #[.slice a.1 a.2.1 a.2.2, .slice b.1 b.2.1 b.2.2, .slice c.1 c.2.1 c.2.2], .agg #[.int .i64 d, .int .i64 0, .int .i64 (if d = 0 then 0 else fltL 19 s 0), .int .i64 (if d = 0 then 0 else fltC 19 s 0)]]) ∧ (d = 0 ∨ d = 19)) ∧ Below W.heap.size W w' := by
  have hL : s.data.toList.length = s.size := by simp
  have c := compile_any s W (by omega) (by have := compS_le s.data.toList; omega)
  have hn := compT_good h
  rcases hc : compT s.data.toList with ⟨x, y⟩ | R
  · have hx : (x, y) = (19, 0) := by
      unfold compT at hc
      split at hc
      · cases hc; exact absurd (by unfold compT; rw [if_pos (by assumption)]) (hn _)
      · split at hc
        · cases hc
        · cases hc; rfl
    obtain ⟨rfl, rfl⟩ := Prod.mk.inj hx
    rw [hc] at c
    refine c.mono ?_
    rintro e w' ⟨rfl, hb⟩
    refine ⟨⟨(none, 0, 0), (none, 0, 0), (none, 0, 0), 19, ?_, .inr rfl⟩, hb⟩
    show Ending.returned (.tuple #[_, .agg #[.int .i64 (19 : Nat), .int .i64 (fltO 19 s (0 : Nat)), _, _]]) = _
    rw [fltO_0]
    rfl
  · rw [hc] at c
    refine c.mono ?_
    rintro e w' ⟨⟨y, rfl, _, _⟩, hb⟩
    exact ⟨⟨(y.fA, _, y.fC), (y.pA, _, y.pC), (y.eA, _, y.eC), 0, rfl, .inl rfl⟩, hb⟩
theorem blk_bel {w w' : World} {g : Nat} {t : TypeId} {cs : Array Value} (h : Blk w g t cs) (hb : Below w.heap.size w w') : Blk w' g t cs := h.below hb (Blk.lt h)
theorem blk_here {w : World} {g : Nat} {t : TypeId} {cs : Array Value} (h : w.heap.size = g) : Blk (w.alloc (.cells cs t)) g t cs := by subst h; exact Blk.new _ _ _
def endT (i : Nat) : ByteArray := ⟨(endsT.getD i []).toArray⟩
theorem endT_sz {i : Nat} (h : i < 7) : (endT i).size ≤ 3 := by
  rcases i with _ | _ | _ | _ | _ | _ | _ | i
  all_goals first | (exact absurd h (by omega)) | decide
theorem far_at {s : ByteArray} {k : Nat} (h : compV s.data.toList = (k : Int)) (hk : k < s.size) (e : ByteArray) : compV (s.extract 0 (k + 1) ++ e).data.toList = k := by
  rw [str_app, ext_bytes, List.drop_zero, Nat.sub_zero]
  exact comp_far h (by simpa using hk) _
theorem close_at {s : ByteArray} {k : Nat} (h : compV s.data.toList = (k : Int)) : ∃ i, i < 7 ∧ compV (s.extract 0 k ++ endT i).data.toList = -1 := by
  obtain ⟨i, h1, h2⟩ := comp_closes h
  refine ⟨i, h1, ?_⟩
  rw [str_app, ext_bytes, List.drop_zero, Nat.sub_zero]
  simpa [endT] using h2

set_option maxRecDepth 100000 in
set_option maxHeartbeats 3200000 in
theorem far23_any (s : ByteArray) (A : Option Addr) (n cap : Nat) (xs : List ByteArray) (m : Int) (w : World) (hm : MxAt w m) (hl : IsRows strCell 1 w w.heap.size A n xs) (hn : n ≤ 9223372036854775807) (hs : s.size ≤ 9223372036854775807) (hx : ∀ x ∈ xs, x.size ≤ 140737488355328) :
    Calls Tryz.prog 4 #[.string s, .slice A n cap] w fun e w' => e = .returned (.bool true) ∧ Below w.heap.size w w' := by
  by_cases hbig : 200 < s.size ∨ 8 < n
  · by_cases h1000 : 200 < s.size
    · have hd1 : decide ((200 : Int) < s.size) = true := decide_eq_true (by omega)
      go_enter Tryz.func4, Tryz.ntmps4
      go_wp2_with (go_at_call 8; (with_reducible refine (known23_any m _ hm).mono ?_); rintro e w1 ⟨rfl, hb1⟩)
      go_ret
      exact ⟨rfl, hb1⟩
    · have hd1 : decide ((200 : Int) < s.size) = false := decide_eq_false (by omega)
      have hd2 : decide ((8 : Int) < n) = true := decide_eq_true (by omega)
      go_enter Tryz.func4, Tryz.ntmps4
      go_wp2_with (go_at_call 8; (with_reducible refine (known23_any m _ hm).mono ?_); rintro e w1 ⟨rfl, hb1⟩)
      go_ret
      exact ⟨rfl, hb1⟩
  have hd1 : decide ((200 : Int) < s.size) = false := decide_eq_false (by omega)
  have hd2 : decide ((8 : Int) < n) = false := decide_eq_false (by omega)
  have h200 : s.size ≤ 200 := by omega
  have h8 : n ≤ 8 := by omega
  clear hbig hs hn
  have hL : s.data.toList.length = s.size := by simp
  rcases compV_cases s.data.toList with hk | ⟨k, hks, hk⟩
  · have kB := fun W => comp_ok hk (by omega) W
    clear hk
    go_enter Tryz.func4, Tryz.ntmps4
    go_upto_region 6 with (first
      | (go_at_call 8; (with_reducible refine (known23_any m _ hm).mono ?_); rintro e w1 ⟨rfl, hb1⟩)
      | (go_at_call 15; (with_reducible refine (kB _).mono ?_); rintro e w2 ⟨⟨⟨a1, a2, a3⟩, ⟨b1, b2, b3⟩, ⟨c1, c2, c3⟩, d, rfl, hd⟩, hb2⟩))
    rcases hd with rfl | rfl
    all_goals
      go_wp2_with fail
      go_ret
      exact ⟨rfl, bl_alloc (bl_alloc (bl_any hb1 hb2) _) _⟩
  · rw [hL] at hks
    have kB := fun W => comp_k hk (by omega) (by omega) W
    have kF := fun e (hk2 : k < s.size) => far_at hk hk2 e
    have kCl := close_at hk
    clear hk
    have hdk5 : decide ((k : Int) < 0) = false := decide_eq_false (by omega)
    have hdk3 : decide (0 ≤ (k : Int)) = true := decide_eq_true (by omega)
    have hdk4 : decide ((k : Int) ≤ s.size) = true := decide_eq_true (by omega)
    have hi0 : (0 : Int) ≤ k := by omega
    have hi1 : (k : Int) ≤ s.size := by omega
    have hmx : max (0 : Int) k = k := by omega
    go_enter Tryz.func4, Tryz.ntmps4
    go_upto_region 6 with (first
      | (go_at_call 8; (with_reducible refine (known23_any m _ hm).mono ?_); rintro e w1 ⟨rfl, hb1⟩)
      | (go_at_call 15; (with_reducible refine (kB _).mono ?_); rintro e w2 ⟨⟨l7, c7, rfl⟩, hb2⟩))
    have hB3 : Below w.heap.size w ((w2.alloc (.cells #[.slice none 0 0, .slice none 0 0, .slice none 0 0] 25)).alloc (.cells #[.int .i64 11, .int .i64 k, .int .i64 l7, .int .i64 c7] 43)) := bl_alloc (bl_alloc (bl_any hb1 hb2) _) _
    have h7 : Blk ((w2.alloc (.cells #[.slice none 0 0, .slice none 0 0, .slice none 0 0] 25)).alloc (.cells #[.int .i64 11, .int .i64 k, .int .i64 l7, .int .i64 c7] 43)) (w2.heap.size + 1) 43 #[.int .i64 11, .int .i64 k, .int .i64 l7, .int .i64 c7] := by
      have := Blk.new (w2.alloc (.cells #[.slice none 0 0, .slice none 0 0, .slice none 0 0] 25)) 43 #[.int .i64 11, .int .i64 k, .int .i64 l7, .int .i64 c7]
      simpa using this
    generalize (w2.alloc (.cells #[.slice none 0 0, .slice none 0 0, .slice none 0 0] 25)).alloc (.cells #[.int .i64 11, .int .i64 k, .int .i64 l7, .int .i64 c7] 43) = W3 at *
    generalize w2.heap.size + 1 = g at *
    have hl3 := (hl.below hB3).more hB3.size
    have z0 := (Blk.cell h7 0).trans rfl
    have z1 := (Blk.cell h7 1).trans rfl
    have hg := Blk.lt h7
    clear kB hl hb1 hb2
    go_wp2_with fail
    go_loopw [7] (fun i wr => Below W3.heap.size W3 wr ∧ ∃ j : Nat, j ≤ n ∧ i = .int .i64 j) (fun i _ => n - (intOf i).toNat)
    case atStart => exact ⟨Below.refl _ _, 0, by omega, rfl⟩
    case round =>
      obtain ⟨hbr, j, hj, rfl⟩ := hrel
      have y0 := (hbr.cell (p := ⟨g, 0, none⟩) hg).trans z0
      have y1 := (hbr.cell (p := ⟨g, 1, none⟩) hg).trans z1
      have h7r := h7.below hbr hg
      by_cases hin : j < n ∧ k < s.size
      · obtain ⟨hjn, hks2⟩ := hin
        have hdj : decide ((j : Int) < n) = true := decide_eq_true (by omega)
        have hdj2 : decide ((k : Int) < s.size) = true := decide_eq_true (by omega)
        obtain ⟨b, off, hA, hb, hc⟩ := hl3.2 (by omega)
        subst hA
        obtain ⟨y, hy⟩ : ∃ y, xs[j]? = some y := ⟨_, List.getElem?_eq_getElem (by rw [hl3.1]; exact hjn)⟩
        have c0 : wr.cell? ⟨b, off + j, none⟩ = some (.string y) := (hbr.cell (p := ⟨b, off + j, none⟩) hb).trans (by have := hc j y 0 _ hy rfl; simpa using this)
        have hys : y.size ≤ 140737488355328 := hx y (List.mem_of_getElem? hy)
        have hj0 : (0 : Int) ≤ j := by omega
        have hj1 : (j : Int) < n := by omega
        have hq1 : IntKind.i64.wrap ((k : Int) + 1) = (k : Int) + 1 := IntWalk.i64_in _ (by omega)
        have hq2 : (k : Int) + 1 ≤ s.size := by omega
        have hq3 : (0 : Int) ≤ (k : Int) + 1 := by omega
        have kY := fun W => comp_k (kF y hks2) (by omega) (by rw [ByteArray.size_append, ByteArray.size_extract]; omega) W
        have hsz : ¬ 9223372036854775807 < min (k + 1) s.size - 0 + y.size := by omega
        have hsz2 : ¬ 9223372036854775807 < min (k + 1) s.size + y.size := by omega
        have hb' : b < wr.heap.size := Nat.lt_of_lt_of_le hb hbr.size
        have hg' : g < wr.heap.size := Nat.lt_of_lt_of_le hg hbr.size
        clear hy hc z0 z1 hl3 kF kCl
        have mkS2 : ∀ w', Below wr.heap.size wr w' → (w'.cell? ⟨b, off + j, none⟩ = some (.string y) ∧ w'.cell? ⟨g, 1, none⟩ = some (.int .i64 k)) ∧ Below wr.heap.size wr w' := fun w' h => ⟨⟨(h.cell (p := ⟨b, off + j, none⟩) hb').trans c0, (h.cell (p := ⟨g, 1, none⟩) hg').trans y1⟩, h⟩
        go_wp2_with fail
        have hSr : Below wr.heap.size wr wr := Below.refl _ _
        go_region_held3 (fun w' => (w'.cell? ⟨b, off + j, none⟩ = some (.string y) ∧ w'.cell? ⟨g, 1, none⟩ = some (.int .i64 k)) ∧ Below wr.heap.size wr w') ((refine mkS2 _ ?_; repeat (first | (with_reducible assumption) | (with_reducible exact hSr) | (with_reducible exact And.right (by with_reducible assumption)) | (with_reducible refine Below.drew ?_) | (with_reducible refine bl_drewN ?_ _) | (with_reducible refine bl_alloc ?_ _) | ((with_reducible refine bl_set ?_ ?_ _); rotate_left; (focus (first | (simp; done) | (simp; omega) | omega)))))) (first
          | (go_at_call 15; refine (kY _).mono ?_; rintro e w8 ⟨⟨l8, c8, rfl⟩, hb8⟩; have hbX : Below wr.heap.size wr w8 := bl_any (by with_reducible exact And.right (by with_reducible assumption)) hb8; (try (have aR : Blk w8 wr.heap.size 25 #[.slice none 0 0, .slice none 0 0, .slice none 0 0] := blk_bel (by first | ((repeat (first | with_reducible exact Blk.new _ _ _ | (with_reducible refine blk_here ?_; simp; done) | with_reducible refine Blk.alloc ?_ _ | with_reducible refine Blk.drew ?_ | with_reducible refine Blk.drewN ?_ _)); done) | fail) hb8; have rlt := Blk.lt aR; have rne := Nat.ne_of_lt rlt; have rne' := Nat.ne_of_gt rlt; have r0 := (Blk.cell aR 0).trans rfl; have rf0 := Blk.frozen aR 0; have ra0 := fun o => (Blk.cell (Blk.alloc aR o) 0).trans rfl; have rg0 := fun o => Blk.frozen (Blk.alloc aR o) 0; have r1 := (Blk.cell aR 1).trans rfl; have rf1 := Blk.frozen aR 1; have ra1 := fun o => (Blk.cell (Blk.alloc aR o) 1).trans rfl; have rg1 := fun o => Blk.frozen (Blk.alloc aR o) 1; have r2 := (Blk.cell aR 2).trans rfl; have rf2 := Blk.frozen aR 2; have ra2 := fun o => (Blk.cell (Blk.alloc aR o) 2).trans rfl; have rg2 := fun o => Blk.frozen (Blk.alloc aR o) 2)); (try (have aR : Blk w8 (wr.heap.size + 1) 25 #[.slice none 0 0, .slice none 0 0, .slice none 0 0] := blk_bel (by first | ((repeat (first | with_reducible exact Blk.new _ _ _ | (with_reducible refine blk_here ?_; simp; done) | with_reducible refine Blk.alloc ?_ _ | with_reducible refine Blk.drew ?_ | with_reducible refine Blk.drewN ?_ _)); done) | fail) hb8; have rlt := Blk.lt aR; have rne := Nat.ne_of_lt rlt; have rne' := Nat.ne_of_gt rlt; have r0 := (Blk.cell aR 0).trans rfl; have rf0 := Blk.frozen aR 0; have ra0 := fun o => (Blk.cell (Blk.alloc aR o) 0).trans rfl; have rg0 := fun o => Blk.frozen (Blk.alloc aR o) 0; have r1 := (Blk.cell aR 1).trans rfl; have rf1 := Blk.frozen aR 1; have ra1 := fun o => (Blk.cell (Blk.alloc aR o) 1).trans rfl; have rg1 := fun o => Blk.frozen (Blk.alloc aR o) 1; have r2 := (Blk.cell aR 2).trans rfl; have rf2 := Blk.frozen aR 2; have ra2 := fun o => (Blk.cell (Blk.alloc aR o) 2).trans rfl; have rg2 := fun o => Blk.frozen (Blk.alloc aR o) 2)); (try (have aF : Blk w8 wr.heap.size 43 #[.int .i64 0, .int .i64 0, .int .i64 0, .int .i64 0] := blk_bel (by first | ((repeat (first | with_reducible exact Blk.new _ _ _ | (with_reducible refine blk_here ?_; simp; done) | with_reducible refine Blk.alloc ?_ _ | with_reducible refine Blk.drew ?_ | with_reducible refine Blk.drewN ?_ _)); done) | fail) hb8; have flt := Blk.lt aF; have fne := Nat.ne_of_lt flt; have fne' := Nat.ne_of_gt flt; have f0 := (Blk.cell aF 0).trans rfl; have ff0 := Blk.frozen aF 0; have fa0 := fun o => (Blk.cell (Blk.alloc aF o) 0).trans rfl; have fg0 := fun o => Blk.frozen (Blk.alloc aF o) 0; have f1 := (Blk.cell aF 1).trans rfl; have ff1 := Blk.frozen aF 1; have fa1 := fun o => (Blk.cell (Blk.alloc aF o) 1).trans rfl; have fg1 := fun o => Blk.frozen (Blk.alloc aF o) 1; have f2 := (Blk.cell aF 2).trans rfl; have ff2 := Blk.frozen aF 2; have fa2 := fun o => (Blk.cell (Blk.alloc aF o) 2).trans rfl; have fg2 := fun o => Blk.frozen (Blk.alloc aF o) 2; have f3 := (Blk.cell aF 3).trans rfl; have ff3 := Blk.frozen aF 3; have fa3 := fun o => (Blk.cell (Blk.alloc aF o) 3).trans rfl; have fg3 := fun o => Blk.frozen (Blk.alloc aF o) 3)); (try (have aF : Blk w8 (wr.heap.size + 1) 43 #[.int .i64 0, .int .i64 0, .int .i64 0, .int .i64 0] := blk_bel (by first | ((repeat (first | with_reducible exact Blk.new _ _ _ | (with_reducible refine blk_here ?_; simp; done) | with_reducible refine Blk.alloc ?_ _ | with_reducible refine Blk.drew ?_ | with_reducible refine Blk.drewN ?_ _)); done) | fail) hb8; have flt := Blk.lt aF; have fne := Nat.ne_of_lt flt; have fne' := Nat.ne_of_gt flt; have f0 := (Blk.cell aF 0).trans rfl; have ff0 := Blk.frozen aF 0; have fa0 := fun o => (Blk.cell (Blk.alloc aF o) 0).trans rfl; have fg0 := fun o => Blk.frozen (Blk.alloc aF o) 0; have f1 := (Blk.cell aF 1).trans rfl; have ff1 := Blk.frozen aF 1; have fa1 := fun o => (Blk.cell (Blk.alloc aF o) 1).trans rfl; have fg1 := fun o => Blk.frozen (Blk.alloc aF o) 1; have f2 := (Blk.cell aF 2).trans rfl; have ff2 := Blk.frozen aF 2; have fa2 := fun o => (Blk.cell (Blk.alloc aF o) 2).trans rfl; have fg2 := fun o => Blk.frozen (Blk.alloc aF o) 2; have f3 := (Blk.cell aF 3).trans rfl; have ff3 := Blk.frozen aF 3; have fa3 := fun o => (Blk.cell (Blk.alloc aF o) 3).trans rfl; have fg3 := fun o => Blk.frozen (Blk.alloc aF o) 3)); have hS8 := mkS2 _ hbX))
        all_goals go_wp2_with fail
        all_goals exact ⟨⟨bl_any hbr (by repeat (first | (with_reducible exact hbX) | (with_reducible refine bl_alloc ?_ _) | ((with_reducible refine bl_set ?_ ?_ _); rotate_left; (focus (first | (simp; done) | (simp; omega) | omega))))), j + 1, by omega, rfl⟩, by (simp only [intOf]; omega)⟩
      · have hcase : (j < n ∧ ¬ k < s.size ∧ decide ((j : Int) < n) = true ∧ decide ((k : Int) < s.size) = false) ∨ (¬ j < n ∧ decide ((j : Int) < n) = false) := by
          by_cases hjn : j < n
          · exact .inl ⟨hjn, fun h => hin ⟨hjn, h⟩, decide_eq_true (by omega), decide_eq_false (by omega)⟩
          · exact .inr ⟨hjn, decide_eq_false (by omega)⟩
        clear hin kF z0 z1 hl3 hx
        have hdk2 : decide ((s.size : Int) < k) = false := decide_eq_false (by omega)
        have hdk6 : decide (s.size < k) = false := decide_eq_false (by omega)
        have hbT := bl_any hB3 hbr
        rcases hcase with ⟨hjn, hjk, hdj, hdj2⟩ | ⟨hjn, hdj⟩
        all_goals
          obtain ⟨wo, rfl⟩ : ∃ x, x = wr := ⟨_, rfl⟩
          go_wp2_with fail
          have hr5 := IsRows.made (f := strCell) (fun _ => rfl) wo 9 #[.string ⟨#[]⟩, .string ⟨#[97]⟩, .string ⟨#[35, 32, 97]⟩, .string ⟨#[32, 97]⟩, .string ⟨#[61, 97]⟩, .string ⟨#[97, 61, 97]⟩, .string ⟨#[97, 32, 97]⟩] [endT 0, endT 1, endT 2, endT 3, endT 4, endT 5, endT 6] rfl
          have h75 := h7r.alloc (.cells #[.string ⟨#[]⟩, .string ⟨#[97]⟩, .string ⟨#[35, 32, 97]⟩, .string ⟨#[32, 97]⟩, .string ⟨#[61, 97]⟩, .string ⟨#[97, 61, 97]⟩, .string ⟨#[97, 32, 97]⟩] 9)
          have hbT5 := bl_alloc hbT (.cells #[.string ⟨#[]⟩, .string ⟨#[97]⟩, .string ⟨#[35, 32, 97]⟩, .string ⟨#[32, 97]⟩, .string ⟨#[61, 97]⟩, .string ⟨#[97, 61, 97]⟩, .string ⟨#[97, 32, 97]⟩] 9)
          obtain ⟨b, off, hA5, hb5, hc5⟩ := hr5.2 (by decide)
          obtain ⟨rfl, rfl⟩ : wo.heap.size = b ∧ 0 = off := by simpa using hA5
          have hg5 := Blk.lt h75
          go_loopw [101] (fun i wr => Below (wo.alloc (.cells #[.string ⟨#[]⟩, .string ⟨#[97]⟩, .string ⟨#[35, 32, 97]⟩, .string ⟨#[32, 97]⟩, .string ⟨#[61, 97]⟩, .string ⟨#[97, 61, 97]⟩, .string ⟨#[97, 32, 97]⟩] 9)).heap.size (wo.alloc (.cells #[.string ⟨#[]⟩, .string ⟨#[97]⟩, .string ⟨#[35, 32, 97]⟩, .string ⟨#[32, 97]⟩, .string ⟨#[61, 97]⟩, .string ⟨#[97, 61, 97]⟩, .string ⟨#[97, 32, 97]⟩] 9)) wr ∧ ∃ j : Nat, j ≤ 7 ∧ i = .int .i64 j ∧ Hid (∀ i, i < j → compV (s.extract 0 k ++ endT i).data.toList ≠ -1)) (fun i _ => 7 - (intOf i).toNat)
          case atStart => exact ⟨Below.refl _ _, 0, by omega, rfl, Lib.hid (fun i h => absurd h (by omega))⟩
          case round =>
            obtain ⟨hbq, q, hq, rfl, hne⟩ := hrel
            have y0 := (hbq.cell (p := ⟨g, 0, none⟩) hg5).trans ((Blk.cell h75 0).trans rfl)
            have y1 := (hbq.cell (p := ⟨g, 1, none⟩) hg5).trans ((Blk.cell h75 1).trans rfl)
            by_cases hq7 : q < 7
            · have hdq : decide ((q : Int) < 7) = true := decide_eq_true (by omega)
              have c0 : wr.cell? ⟨wo.heap.size, 0 + q, none⟩ = some (.string (endT q)) := (hbq.cell (p := ⟨wo.heap.size, 0 + q, none⟩) hb5).trans (by
                have hy : [endT 0, endT 1, endT 2, endT 3, endT 4, endT 5, endT 6][q]? = some (endT q) := by
                  rcases q with _ | _ | _ | _ | _ | _ | _ | q
                  all_goals first | rfl | (exact absurd hq7 (by omega))
                have := hc5 q (endT q) 0 _ hy rfl
                simpa using this)
              have c1 : wr.cell? ⟨wo.heap.size, q, none⟩ = some (.string (endT q)) := by have := c0; rw [Nat.zero_add] at this; exact this
              have hes := endT_sz hq7
              have hq0 : (0 : Int) ≤ q := by omega
              have hsz : ¬ 9223372036854775807 < min k s.size - 0 + (endT q).size := by omega
              have hsz2 : ¬ 9223372036854775807 < min k s.size + (endT q).size := by omega
              have hss : (s.extract 0 k ++ endT q).size ≤ 203 := by rw [ByteArray.size_append, ByteArray.size_extract]; omega
              by_cases hV : compV (s.extract 0 k ++ endT q).data.toList = -1
              · have kX := fun W => comp_ok hV (by omega) W
                clear hne hV
                go_wp2_with (go_at_call 15; (with_reducible refine (kX _).mono ?_); rintro e w9 ⟨⟨⟨a1, a2, a3⟩, ⟨b1, b2, b3⟩, ⟨c1, c2, c3⟩, d, rfl, hd⟩, hb9⟩; rcases hd with rfl | rfl)
                all_goals
                  go_ret
                  exact ⟨rfl, bl_alloc (bl_alloc (bl_any (bl_any hbT5 hbq) hb9) _) _⟩
              · have hne2 : Hid (∀ i, i < q + 1 → compV (s.extract 0 k ++ endT i).data.toList ≠ -1) := Lib.hid (fun i h => by
                  by_cases e : i = q
                  · subst e; exact hV
                  · exact hne.out i (by omega))
                clear hne
                rcases compV_cases (s.extract 0 k ++ endT q).data.toList with h | ⟨k2, hk2, hv2⟩
                · exact absurd h hV
                have hL2 : (s.extract 0 k ++ endT q).data.toList.length = (s.extract 0 k ++ endT q).size := by simp
                have kX := fun W => comp_k hv2 (by omega) (by omega) W
                clear hV hv2
                go_wp2_with (go_at_call 15; (with_reducible refine (kX _).mono ?_); rintro e w9 ⟨⟨l9, c9, rfl⟩, hb9⟩)
                exact ⟨⟨bl_alloc (bl_alloc (bl_any hbq hb9) _) _, q + 1, by omega, rfl, hne2⟩, by (simp only [intOf]; omega)⟩
            · exfalso
              obtain ⟨i, hi, h⟩ := kCl
              exact hne.out i (by omega) h
end Go.Proofs.YtodgfapgmmjpcaaGreatDoor
