/- The walk of LossyOrder. -/
import Derived.Test.YtjdanidnmpigkaaL14a
import Derived.Test.YtjdanidnmpigkaaAppAny
import Derived.BigQuiet
import Derived.Deep.RegionHeld3
import Derived.Deep.DrawnRows
namespace Go.Proofs.Ytjdanidnmpigkaa
open Go.RowKit
attribute [local go_sem ↓] Go.wp_at_zero Go.wp_at_succ
/-- What the last walk keeps: what came in, and two clashes. -/
def LO (w w' : World) (a b : Nat) (r : Option (Bs × Bs)) : Prop := Below w.heap.size w w' ∧ Blk w' a 26 #[.string (clA r), .string (clB r)] ∧ Blk w' b 26 #[.string (clA r), .string (clB r)]
theorem LO.drew {w w' : World} {a b : Nat} {r : Option (Bs × Bs)} (h : LO w w' a b r) : LO w w'.drew a b r := ⟨h.1.drew, h.2.1.drew, h.2.2.drew⟩
theorem LO.alloc {w w' : World} {a b : Nat} {r : Option (Bs × Bs)} (h : LO w w' a b r) (o : Obj) : LO w (w'.alloc o) a b r := ⟨bl_alloc h.1 o, h.2.1.alloc o, h.2.2.alloc o⟩
theorem LO.bel {w w' w'' : World} {a b : Nat} {r : Option (Bs × Bs)} (h : LO w w' a b r) (k : Below w'.heap.size w' w'') : LO w w'' a b r := ⟨bl_any h.1 k, h.2.1.below k h.2.1.lt, h.2.2.below k h.2.2.lt⟩
theorem LO.own {w w' w'' : World} {a b : Nat} {r : Option (Bs × Bs)} (h : LO w w' a b r) {v : Value} {n : Nat} {xs : List Value} (hown : w'.ownsRow w.heap.size 9 1 v n xs) (k : w'.grownBy w'' v.ownBlock) : LO w w'' a b r :=
  ⟨h.1.grown k h.1.size (fun j e => (hown.lt _ e).1), h.2.1.grown k (fun e => own_blk_ne hown h.2.1 (by decide) e.symm), h.2.2.grown k (fun e => own_blk_ne hown h.2.2 (by decide) e.symm)⟩
theorem LO.far {w w' : World} {a b : Nat} {r : Option (Bs × Bs)} (h : LO w w' a b r) {p : Addr} (hp : w.heap.size ≤ p.block) (h1 : a ≠ p.block) (h2 : b ≠ p.block) (u : Value) : LO w (w'.setCell p u) a b r := ⟨bl_set h.1 hp u, h.2.1.far h1 u, h.2.2.far h2 u⟩
set_option maxRecDepth 100000 in
set_option maxHeartbeats 3200000 in
theorem order14_any (q : Int) (A : Option Addr) (n cap : Nat) (l : List ByteArray) (turn : Int) (w : World) (hq : 0 ≤ q ∧ q ≤ 255) (hl : IsRows strCell 1 w w.heap.size A n l) (hcap : n ≤ cap ∧ cap ≤ maxLen) (ht : 0 ≤ turn ∧ turn ≤ 255) :
    Calls Try.prog 5 #[.int .u8 q, .slice A n cap, .int .u8 turn] w fun e w' => e = .returned (.bool true) ∧ Below w.heap.size w w' := by
  by_cases h14 : 14 < n
  · have hd14 : decide ((14 : Int) < n) = true := decide_eq_true (by omega)
    go_enter Try.func5, Try.ntmps5
    go_wp2_with (go_at_call 7; refine (known14_any _).mono ?_; rintro e w1 ⟨rfl, hb1⟩)
    go_ret
    exact ⟨rfl, hb1⟩
  have hd14 : decide ((14 : Int) < n) = false := decide_eq_false (by omega)
  by_cases h0 : n = 0
  · have hd0 : ((n : Int) == 0) = true := by (rw [beq_iff_eq]; omega)
    go_enter Try.func5, Try.ntmps5
    go_wp2_with (go_at_call 7; refine (known14_any _).mono ?_; rintro e w1 ⟨rfl, hb1⟩)
    go_ret
    exact ⟨rfl, hb1⟩
  have hd0 : ((n : Int) == 0) = false := by (rw [beq_eq_false_iff_ne]; omega)
  go_enter Try.func5, Try.ntmps5
  go_wp2_with (go_at_call 7; refine (known14_any _).mono ?_; rintro e w1 ⟨rfl, hb1⟩)
  go_loopw [7] (fun i wr => Below w.heap.size w wr ∧ ∃ k : Nat, k ≤ n ∧ i = .int .i64 k ∧ ∀ x ∈ l.take k, x.size ≤ 100) (fun i _ => n - (intOf i).toNat)
  case atStart => exact ⟨hb1, 0, by omega, rfl, fun x hx => by simp at hx⟩
  case round =>
    obtain ⟨hbw, k, hk, rfl, hshort⟩ := hrel
    have hll := hl.1
    by_cases hlt : k < n
    · have hdk : decide ((k : Int) < n) = true := decide_eq_true (by omega)
      have hk0 : (0 : Int) ≤ k := by omega
      have hk1 : (k : Int) < n := by omega
      obtain ⟨x, hx⟩ : ∃ x, l[k]? = some x := ⟨_, List.getElem?_eq_getElem (by omega)⟩
      obtain ⟨b, off, rfl, hgb, hrc⟩ := hl.2 (by omega)
      have e0 : wr.cell? ⟨b, off + k, none⟩ = some (.string x) := (hbw.cell (p := ⟨b, off + k, none⟩) hgb).trans (by have := hrc k x 0 _ hx rfl; simpa using this)
      by_cases h100 : 100 < x.size
      · have hd : decide ((100 : Int) < x.size) = true := decide_eq_true (by omega)
        go_wp2_with fail
        go_ret
        exact ⟨rfl, hbw⟩
      · have hd : decide ((100 : Int) < x.size) = false := decide_eq_false (by omega)
        go_wp2_with fail
        refine ⟨⟨hbw, k + 1, by omega, rfl, fun y hy => ?_⟩, by (simp only [intOf]; omega)⟩
        rw [List.take_add_one, hx] at hy
        simp only [Option.toList_some, List.mem_append, List.mem_singleton] at hy
        rcases hy with hy | rfl
        · exact hshort y hy
        · omega
    · have hdk : decide ((k : Int) < n) = false := decide_eq_false (by omega)
      obtain rfl : k = n := by omega
      rw [List.take_of_length_le (by omega)] at hshort
      have hsz : ∀ x ∈ l, x.size ≤ 1048576 := fun x hx => Nat.le_trans (hshort x hx) (by decide)
      have hnz : ¬ (k : Int) = 0 := by omega
      have hwr := hbw.size
      obtain ⟨tn, rfl⟩ : ∃ tn : Nat, turn = (tn : Int) := ⟨turn.toNat, by omega⟩
      have hz0 : ((k : Int) == 0) = false := by (rw [beq_eq_false_iff_ne]; omega)
      obtain ⟨m, hmk, hmod⟩ : ∃ m : Nat, m < k ∧ (tn : Int) % (k : Int) = (m : Int) := ⟨tn % k, Nat.mod_lt _ (by omega), by omega⟩
      obtain ⟨b, off, rfl, hgb, hrc⟩ := hl.2 (by omega)
      obtain ⟨i0, hi0, iz0, hz1, hz2⟩ := info_parts Try.infoString
      have hu : Try.prog.underlying 22 = some (.slice 9) := by kernel_rfl
      have hck : ¬ cap = m := by omega
      have hm0 : (0 : Int) ≤ m := by omega
      have hm1 : (m : Int) ≤ k := by omega
      have hm2 : (m : Int) ≤ cap := by omega
      have hm3 : (k : Int) ≤ cap := by omega
      have hcut : IsRows strCell 1 w w.heap.size (some ⟨b, off + m, none⟩) (k - m) (l.drop m) := by have := rows_cut m hl; rwa [Nat.mul_one] at this
      have hto : IsRows strCell 1 w w.heap.size (some ⟨b, off, none⟩) m (l.take m) := rows_to m (by omega) hl
      have hs1 : ∀ x ∈ l.drop m ++ l, x.size ≤ 1048576 := fun x hx => hsz x (by rcases List.mem_append.1 hx with h | h; exact List.mem_of_mem_drop h; exact h)
      have hs2 : ∀ x ∈ l.drop m ++ l.take m, x.size ≤ 1048576 := fun x hx => hsz x (by rcases List.mem_append.1 hx with h | h; exact List.mem_of_mem_drop h; exact List.mem_of_mem_take h)
      have hc1 : collide (1 + q % 4) 1 ((l.drop m ++ l).map (·.data.toList)) = collide (1 + q % 4) 1 (l.map (·.data.toList)) := collide_same _ _ _ _ fun x => by
        simp only [List.mem_map, List.mem_append]
        exact ⟨fun ⟨y, h, e⟩ => ⟨y, h.elim List.mem_of_mem_drop id, e⟩, fun ⟨y, h, e⟩ => ⟨y, .inr h, e⟩⟩
      have hc2 : collide (1 + q % 4) 1 ((l.drop m ++ l.take m).map (·.data.toList)) = collide (1 + q % 4) 1 (l.map (·.data.toList)) := collide_same _ _ _ _ fun x => by
        simp only [List.mem_map, List.mem_append]
        exact ⟨fun ⟨y, h, e⟩ => ⟨y, h.elim List.mem_of_mem_drop List.mem_of_mem_take, e⟩, fun ⟨y, h, e⟩ => ⟨y, by rw [← List.take_append_drop m l] at h; exact (List.mem_append.1 h).symm, e⟩⟩
      have hC1 : ∀ (A : Option Addr) (n cap : Nat) (W : World), IsRows strCell 1 W W.heap.size A n (l.drop m ++ l) → n ≤ 1048576 → Calls Try.prog 8 #[.int .i64 (1 + q % 4), .int .i64 1, .slice A n cap] W fun e w' => e = .returned (.tuple #[.agg #[.string (clA (collide (1 + q % 4) 1 (l.map (·.data.toList)))), .string (clB (collide (1 + q % 4) 1 (l.map (·.data.toList))))], .bool (collide (1 + q % 4) 1 (l.map (·.data.toList))).isSome]) ∧ Below W.heap.size W w' := fun A n cap W h hn => by
        have h9 := coll_any (1 + q % 4) 1 A n cap _ W h hs1 hn
        rw [hc1] at h9; exact h9
      have hC2 : ∀ (A : Option Addr) (n cap : Nat) (W : World), IsRows strCell 1 W W.heap.size A n (l.drop m ++ l.take m) → n ≤ 1048576 → Calls Try.prog 8 #[.int .i64 (1 + q % 4), .int .i64 1, .slice A n cap] W fun e w' => e = .returned (.tuple #[.agg #[.string (clA (collide (1 + q % 4) 1 (l.map (·.data.toList)))), .string (clB (collide (1 + q % 4) 1 (l.map (·.data.toList))))], .bool (collide (1 + q % 4) 1 (l.map (·.data.toList))).isSome]) ∧ Below W.heap.size W w' := fun A n cap W h hn => by
        have h9 := coll_any (1 + q % 4) 1 A n cap _ W h hs2 hn
        rw [hc2] at h9; exact h9
      clear hc1 hc2 hs1 hs2
      have hC0 := fun W h => coll_any (1 + q % 4) 1 (some ⟨b, off, none⟩) k cap l W h hsz (by omega)
      generalize collide (1 + q % 4) 1 (l.map (·.data.toList)) = r at hC0 hC1 hC2
      go_wp2_with fail
      go_quiet (fail)
      go_wp2_with (first
        | (go_at_call 8; (with_reducible refine (hC0 _ ((hl.below (bl_drewN hbw _)).more (bl_drewN hbw _).size)).mono ?_); rintro e w2 ⟨rfl, hb2⟩)
        | (at_builtin; refine wpList_append_any _ (by rfl) (.const (.slice none 0 0)) (.tmp 57) _ (by rfl) w.heap.size 9 i0 _ 1 16 hu hi0 iz0 hz1 hz2 rfl (by omega) _ 0 [] (by rfl) (World.ownsRow_nil _ _ _ _) w.heap.size _ (k - m) _ _ (by rfl) ((strs_reads hcut).below (bl_alloc (bl_any (bl_drewN hbw _) hb2) _)) (strs_one _) (by simp [maxLen]; omega) (by omega) (bl_alloc (bl_any (bl_drewN hbw _) hb2) _).size ?_; intro v3 w3 hown3 hg3 hat3; have hb3 := (bl_alloc (bl_any (bl_drewN hbw _) hb2) _).grown hg3 (bl_alloc (bl_any (bl_drewN hbw _) hb2) _).size (by simp [Value.ownBlock]))
        | (at_builtin; refine wpList_append_any _ (by rfl) (.tmp 58) (.tmp 59) _ (by rfl) w.heap.size 9 i0 _ 1 16 hu hi0 iz0 hz1 hz2 rfl (by omega) v3 (0 + (k - m)) _ (by rfl) hown3 w.heap.size _ k _ _ (by rfl) ((strs_reads hl).below hb3) (strs_one _) (by simp [maxLen]; omega) (by omega) hb3.size ?_; intro v4 w4 hown4 hg4 hat4; have hb4 := hb3.grown hg4 hb3.size (fun j e => (hown3.lt _ e).1); rw [Nat.zero_add, List.nil_append, ← List.flatMap_append] at hown4; obtain ⟨A4, cap4, rfl, hr4⟩ := own_rws (f := strCell) (fun _ => rfl) hown4 (by first | rfl | (simp [hll]; done) | (simp [hll]; omega)))
        | (go_at_call 8; (with_reducible refine (hC1 _ _ _ _ hr4 (by omega)).mono ?_); rintro e w5 ⟨rfl, hb5⟩))
      have hk1 := ((((Blk.new w2 26 #[.string (clA r), .string (clB r)]).grown hg3 (by simp [Value.ownBlock])).grown hg4 (fun e => by have h1 := (hown3.lt _ e.symm); have h2 := hg3.size; simp at h2; rcases hat3 with h3 | h3 <;> rw [h3] at e <;> simp [Value.ownBlock] at e <;> omega)).below hb5 (by have h5 := hg3.size; have h6 := hg4.size; simp at h5; omega)).alloc (.cells #[.string (clA r), .string (clB r)] 26)
      have hk2 := Blk.new w5 26 #[.string (clA r), .string (clB r)]
      have hbX := bl_alloc (bl_any hb4 hb5) (.cells #[.string (clA r), .string (clB r)] 26)
      have hLO : LO w _ w2.heap.size w5.heap.size r := ⟨hbX, hk1, hk2⟩
      clear hown3 hown4 hg3 hg4 hat3 hat4 hr4 hb3 hb4
      have hs25 := hk1.lt
      have hs55 := hk2.lt
      clear hbX hk1 hk2
      generalize w5.alloc (.cells #[.string (clA r), .string (clB r)] 26) = wX at hLO hs25 hs55 ⊢
      have hx0 := hLO.1.size
      go_region_held3 (fun w' => LO w w' w2.heap.size w5.heap.size r) (repeat (first | assumption | refine LO.drew ?_ | refine LO.alloc ?_ _ | refine LO.far ?_ (by first | (simp; omega) | (show _ ≤ _; omega)) (by first | (simp; omega) | (show _ ≠ _; omega)) (by first | (simp; omega) | (show _ ≠ _; omega)) _)) (first
        | (refine step_append_any _ (by rfl) (.const (.slice none 0 0)) (.tmp 68) _ (by rfl) w.heap.size 9 i0 _ 1 16 hu hi0 iz0 hz1 hz2 rfl (by omega) _ 0 [] (by rfl) (World.ownsRow_nil _ _ _ _) w.heap.size _ (k - m) _ _ (by rfl) ((strs_reads hcut).below (‹LO w _ w2.heap.size w5.heap.size r›).1) (strs_one _) (by simp [maxLen]; omega) (by omega) (‹LO w _ w2.heap.size w5.heap.size r›).1.size ?_; intro v6 w6 hown6 hg6 hat6; have hL6 := LO.own ‹LO w _ w2.heap.size w5.heap.size r› (World.ownsRow_nil _ _ _ _) hg6; have hx6 := hL6.1.size; have hy6 := hL6.2.1.lt; have hz6 := hL6.2.2.lt; (try have hN6 : Blk w6 wX.heap.size 26 #[.string ⟨#[]⟩, .string ⟨#[]⟩] := (Blk.new wX.drew 26 #[.string ⟨#[]⟩, .string ⟨#[]⟩]).grown hg6 (by simp [Value.ownBlock])))
        | (refine step_append_any _ (by rfl) (.tmp 69) (.tmp 72) _ (by rfl) w.heap.size 9 i0 _ 1 16 hu hi0 iz0 hz1 hz2 rfl (by omega) v6 (0 + (k - m)) _ (by rfl) (by first | exact hown6 | exact hown6.alloc _) w.heap.size _ m _ _ (by rfl) ((strs_reads hto).below (‹LO w _ w2.heap.size w5.heap.size r›).1) (strs_one _) (by simp [maxLen]; omega) (by omega) (‹LO w _ w2.heap.size w5.heap.size r›).1.size ?_; intro v7 w7 hown7 hg7 hat7; have hL7 := LO.own ‹LO w _ w2.heap.size w5.heap.size r› (by first | exact hown6 | exact hown6.alloc _) hg7; have hx7 := hL7.1.size; have hy7 := hL7.2.1.lt; have hz7 := hL7.2.2.lt; (try have hN7 := (Blk.new w6 26 #[.string ⟨#[]⟩, .string ⟨#[]⟩]).grown hg7 (fun e => absurd (hown6.lt _ e.symm).2 (Nat.lt_irrefl _))); (try have hN7 := hN6.grown hg7 (fun e => own_blk_ne hown6 hN6 (by decide) e.symm)); rw [Nat.zero_add, List.nil_append, ← List.flatMap_append] at hown7; obtain ⟨A7, cap7, rfl, hr7⟩ := own_rws (f := strCell) (fun _ => rfl) hown7 (by first | rfl | (simp [hll]; done) | (simp [hll]; omega)))
        | (go_at_call 8; refine (hC2 _ _ _ _ (by first | exact hr7 | exact (hr7.below (bl_alloc (Below.refl _ _) _)).more (by simp)) (by omega)).mono ?_; rintro e w8 ⟨rfl, hb8⟩; have hL8 := LO.bel ‹LO w _ w2.heap.size w5.heap.size r› hb8; have hx8 := hL8.1.size; have hy8 := hL8.2.1.lt; have hz8 := hL8.2.2.lt; (try have hN8 := (Blk.new w7 26 #[.string ⟨#[]⟩, .string ⟨#[]⟩]).below hb8 (by simp)); (try have hN8 := hN7.below hb8 hN7.lt); (try (have n0 := hN8.cell 0; have n1 := hN8.cell 1; have p0 := hN8.frozen 0; have p1 := hN8.frozen 1; simp at n0 n1))))
      have ec := eqClash
      all_goals
        rename_i hH
        obtain ⟨hbZ, z1, z2⟩ := hH
        first
          | ((have z3 := (hN8.set_ 0 (.string (clA r))).set_ 1 (.string (clB r))); (simp only [List.setIfInBounds_toArray, List.set_cons_zero, List.set_cons_succ] at z3); (generalize World.setCell (World.setCell w8 _ _) _ _ = wZ at *))
          | ((have z3 := Blk.new w8 26 #[.string (clA r), .string (clB r)]); (generalize w8.alloc _ = wZ at *))
        have c0 := z1.cell 0; have c1 := z1.cell 1; have d0 := z2.cell 0; have d1 := z2.cell 1; have e0 := z3.cell 0; have e1 := z3.cell 1
        clear hr7 hown7 hat7 hb8 hL8 hL7 hL6 hg7 hg6 hat6 hown6 hLO
        simp at c0 c1 d0 d1 e0 e1
        go_wp2_with fail
        go_ret
        exact ⟨ret_bool (by simp), hbZ⟩
end Go.Proofs.Ytjdanidnmpigkaa
