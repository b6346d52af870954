/- The walk of SpotFirst. -/
import Derived.Test.YtdhkfbobfjkclaaL2b
import Derived.Test.YtdhkfbobfjkclaaL2c
import Derived.Test.YtdhkfbobfjkclaaOpenInts
import Derived.Deep.AppendLies
import Derived.Deep.RegionHeld3
namespace Go.Proofs.Ytdhkfbobfjkclaa
open Go.RowKit
/-! ### a row of the call's own, and what calls do to it -/
theorem own_below {w w' : World} {base : Nat} {e : TypeId} {size : Nat} {v : Value} {n : Nat} {xs : List Value} (h : w.ownsRow base e size v n xs) (hb : Below w.heap.size w w') : w'.ownsRow base e size v n xs := by
  obtain ⟨hl, h | ⟨g, cap, cur, hv, hg, hh, r⟩⟩ := h
  · exact ⟨hl, .inl h⟩
  · refine ⟨hl, .inr ⟨g, cap, cur, hv, hg, ?_, r⟩⟩
    have hlt : g < w.heap.size := by
      rcases Nat.lt_or_ge g w.heap.size with h' | h'
      · exact h'
      · rw [Array.getElem?_eq_none (by omega)] at hh; cases hh
    exact (hb.block g hlt).trans hh
theorem own_rows {α : Type} {f : α → List Value} {size : Nat} (hf : ∀ x, (f x).length = size) {w : World} {base : Nat} {e : TypeId} {v : Value} {n : Nat} {l : List α} (h : w.ownsRow base e size v n (l.flatMap f)) (hn : l.length = n) :
    ∃ (A : Option Addr) (cap : Nat), v = .slice A n cap ∧ IsRows f size w w.heap.size A n l := by
  obtain ⟨hl, ⟨rfl, rfl⟩ | ⟨g, cap, cur, rfl, hg, hh, hnc, hcm, hcs, htk⟩⟩ := h
  · exact ⟨none, 0, rfl, hn, fun h => absurd h (by omega)⟩
  · refine ⟨_, cap, rfl, hn, fun _ => ⟨g, 0, rfl, ?_, fun i x j u hx hu => ?_⟩⟩
    · rcases Nat.lt_or_ge g w.heap.size with h' | h'
      · exact h'
      · rw [Array.getElem?_eq_none (by omega)] at hh; cases hh
    · have h1 := flatMap_at f size hf l i x j u hx hu
      rw [← htk] at h1
      rw [cell_of_row w g (0 + (i * size + j)) cur e (0, 0) hh, Nat.zero_add, ← Array.getElem?_toList]
      rw [List.getElem?_take] at h1
      split at h1
      · exact h1
      · cases h1
/-! ### the plain law -/
theorem ahead_no (a f : Flt) : aheadF a f = false ↔ f.c = 0 ∨ (a.c ≠ 0 ∧ a.o ≤ f.o) := by
  unfold aheadF
  by_cases h : f.c = 0
  · simp [h]
  · by_cases g : a.c = 0
    · simp [h, g]
    · simp [h, g]
theorem fold_ahead : ∀ (l : List Flt) (a : Flt), aheadF (l.foldl (fun a f => if aheadF a f = true then f else a) a) a = false ∧ ∀ x ∈ l, aheadF (l.foldl (fun a f => if aheadF a f = true then f else a) a) x = false
  | [], a => ⟨(ahead_no a a).2 (by by_cases h : a.c = 0 <;> simp [h]), fun x hx => by simp at hx⟩
  | f :: l, a => by
    obtain ⟨h1, h2⟩ := fold_ahead l (if aheadF a f = true then f else a)
    rw [List.foldl_cons]
    generalize List.foldl (fun a f => if aheadF a f = true then f else a) (if aheadF a f = true then f else a) l = F at h1 h2 ⊢
    simp only [ahead_no] at h1 h2 ⊢
    refine ⟨?_, fun x hx => ?_⟩
    · split at h1
      · rename_i h
        have h' : ¬ (f.c = 0 ∨ (a.c ≠ 0 ∧ a.o ≤ f.o)) := fun e => by rw [(ahead_no a f).2 e] at h; cases h
        omega
      · exact h1
    · rcases List.mem_cons.1 hx with rfl | hx
      · split at h1
        · exact h1
        · rename_i h
          have h' := (ahead_no a x).1 (by simpa using h)
          omega
      · exact h2 x hx
theorem first_ahead (l : List Flt) (x : Flt) (hx : x ∈ l) : aheadF (firstF l) x = false := (fold_ahead l zeroF).2 x hx
def eqF (f g : Flt) : Bool := f.c == g.c && (f.o == g.o && (f.l == g.l && f.k == g.k))
def inB (F : Flt) (l : List Flt) (j : Nat) : Bool := eqF F zeroF || (l.take j).any (fun x => eqF x F)
theorem firstF_in (l : List Flt) : ∀ a : Flt, l.foldl (fun a f => if aheadF a f = true then f else a) a = a ∨ l.foldl (fun a f => if aheadF a f = true then f else a) a ∈ l := by
  induction l with
  | nil => exact fun a => .inl rfl
  | cons f l ih =>
    intro a
    rw [List.foldl_cons]
    rcases ih (if aheadF a f = true then f else a) with h | h
    · rw [h]
      split
      · exact .inr (List.mem_cons_self ..)
      · exact .inl rfl
    · exact .inr (List.mem_cons_of_mem _ h)
theorem eqF_self (f : Flt) : eqF f f = true := by simp [eqF]
theorem inB_all (l : List Flt) (k : Nat) (hk : l.length = k) : inB (firstF l) l k = true := by
  unfold inB
  rw [List.take_of_length_le (by omega)]
  rcases firstF_in l zeroF with h | h
  · rw [show firstF l = zeroF from h, eqF_self]; rfl
  · rw [Bool.or_eq_true]
    exact .inr (List.any_eq_true.2 ⟨firstF l, h, eqF_self _⟩)
theorem last_law (l : List Flt) (x : Flt) (hx : x.c ≠ 0) :
    ((firstF l).c == 0 || decide (x.o < (firstF l).o)) = (eqF (firstF (l ++ [x])) x && !(eqF (firstF (l ++ [x])) (firstF l))) := by
  rw [firstF_snoc]
  generalize firstF l = F
  have hx' : (x.c != 0) = true := by simpa using hx
  have ha : aheadF F x = (F.c == 0 || decide (x.o < F.o)) := by unfold aheadF; rw [hx', Bool.true_and]
  rw [← ha]
  cases h : aheadF F x
  · simp [eqF_self]
  · have h' : F.c = 0 ∨ x.o < F.o := by rw [ha] at h; simpa using h
    have hne : eqF x F = false := by
      unfold eqF
      rcases h' with g | g
      · rw [show (x.c == F.c) = false from by (rw [beq_eq_false_iff_ne]; omega)]; rfl
      · rw [show (x.o == F.o) = false from by (rw [beq_eq_false_iff_ne]; omega)]; simp
    simp [eqF_self, hne]
theorem Try.infoFault : (Try.prog.info? 36).map (fun i => (i.zero, i.size, i.bytes)) = some (some (.agg #[.int .i64 0, .int .i64 0, .int .i64 0, .int .i64 0]), 4, 32) := by kernel_rfl
set_option maxRecDepth 100000 in
set_option maxHeartbeats 3200000 in
theorem first2_any (s : ByteArray) (A : Option Addr) (n cap : Nat) (xs : List Int) (B : Option Addr) (m capm : Nat) (ys : List Int) (more : Int) (w : World) (hl : IsRow .u16 w A n cap xs) (hm : IsRow .u8 w B m capm ys) (hmore : 0 ≤ more ∧ more ≤ 65535) (hs : s.size ≤ 9223372036854775807) :
    Calls Try.prog 9 #[.string s, .slice A n cap, .slice B m capm, .int .u16 more] w fun e w' => e = .returned (.bool true) ∧ Below w.heap.size w w' := by
  by_cases hbig : 200 < s.size ∨ 20 < n ∨ m < n
  · by_cases h200 : 200 < s.size
    · have hd200 : decide ((200 : Int) < s.size) = true := decide_eq_true (by omega)
      go_enter Try.func9, Try.ntmps9
      go_wp2_with (go_at_call 21; refine (known2_any _).mono ?_; rintro e w1 ⟨rfl, hb1⟩)
      go_ret
      exact ⟨rfl, by repeat (first | exact Below.refl _ _ | assumption | refine bl_trans ?_ (by assumption))⟩
    · have hd200 : decide ((200 : Int) < s.size) = false := decide_eq_false (by omega)
      by_cases h20 : 20 < n
      · have hd20 : decide ((20 : Int) < n) = true := decide_eq_true (by omega)
        go_enter Try.func9, Try.ntmps9
        go_wp2_with (go_at_call 21; refine (known2_any _).mono ?_; rintro e w1 ⟨rfl, hb1⟩)
        go_ret
        exact ⟨rfl, by repeat (first | exact Below.refl _ _ | assumption | refine bl_trans ?_ (by assumption))⟩
      · have hd20 : decide ((20 : Int) < n) = false := decide_eq_false (by omega)
        have hdm : decide ((m : Int) < n) = true := decide_eq_true (by omega)
        go_enter Try.func9, Try.ntmps9
        go_wp2_with (go_at_call 21; refine (known2_any _).mono ?_; rintro e w1 ⟨rfl, hb1⟩)
        go_ret
        exact ⟨rfl, by repeat (first | exact Below.refl _ _ | assumption | refine bl_trans ?_ (by assumption))⟩
  have hd200 : decide ((200 : Int) < s.size) = false := decide_eq_false (by omega)
  have hd20 : decide ((20 : Int) < n) = false := decide_eq_false (by omega)
  have hdm : decide ((m : Int) < n) = false := decide_eq_false (by omega)
  have h200 : s.size ≤ 200 := by omega
  have h20 : n ≤ 20 := by omega
  have hmn : n ≤ m := by omega
  clear hbig
  go_enter Try.func9, Try.ntmps9
  go_wp2_with (go_at_call 21; refine (known2_any _).mono ?_; rintro e w1 ⟨rfl, hb1⟩)
  obtain ⟨i0, hi0, hz0, hz1, hz2⟩ := info_parts Try.infoFault
  go_loopw [9, 10] (fun f i wr => Below w.heap.size w wr ∧ ∃ (k : Nat) (l : List Flt), k ≤ n ∧ i = .int .i64 k ∧ l.length = k ∧ wr.ownsRow w.heap.size 36 4 f k (l.flatMap fltCells)) (fun _ i _ => n - (intOf i).toNat)
  case atStart => exact ⟨hb1, 0, [], by omega, rfl, rfl, World.ownsRow_nil _ _ _ _⟩
  case round =>
    obtain ⟨hbw, k, l, hk, rfl, hlk, hown⟩ := hrel
    by_cases hlt : k < n
    · have hdk : decide ((k : Int) < n) = true := decide_eq_true (by omega)
      obtain ⟨g, off, rfl, hg, hcell⟩ := hl.at_ (by omega)
      obtain ⟨g2, off2, rfl, hg2, hcell2⟩ := hm.at_ (by omega)
      obtain ⟨hc0, hw0⟩ := hcell k hlt
      obtain ⟨hd0, hw1⟩ := hcell2 k (by omega)
      have hc := (hbw.cell (p := ⟨g, off + k, none⟩) hg).trans hc0
      have hd := (hbw.cell (p := ⟨g2, off2 + k, none⟩) hg2).trans hd0
      have hz := wf_u16 hw0
      have hy := wf_u8 hw1
      clear hcell hc0 hw0 hcell2 hd0 hw1
      generalize xs.getD k 0 = z at hc hz
      generalize ys.getD k 0 = y at hd hy
      obtain ⟨zn, rfl⟩ : ∃ zn : Nat, z = (zn : Int) := ⟨z.toNat, by omega⟩
      obtain ⟨yn, rfl⟩ : ∃ yn : Nat, y = (yn : Int) := ⟨y.toNat, by omega⟩
      have hwr := hbw.size
      have hk1 : (k : Int) < n := by omega
      have hk2 : (k : Int) < m := by omega
      have hk0 : (0 : Int) ≤ k := by omega
      have hlt1 : g < wr.heap.size := by omega
      have hlt2 : g2 < wr.heap.size := by omega
      go_wp2_with fail
      have hne1 : some g ≠ u9.ownBlock := fun e => by have := (hown.lt _ e.symm).1; omega
      have hne2 : some g2 ≠ u9.ownBlock := fun e => by have := (hown.lt _ e.symm).1; omega
      have hu : Try.prog.underlying 30 = some (.slice 36) := by kernel_rfl
      have q1 : IntKind.i64.wrap ((s.size : Int) + 1) = s.size + 1 := IntWalk.i64_in _ (by omega)
      have q2 : ((s.size : Int) + 1 == 0) = false := by (rw [beq_eq_false_iff_ne]; omega)
      have q3 : ¬ ((s.size : Int) + 1 = 0) := by omega
      go_region_held3 (fun w' => w'.cell? ⟨g, off + k, none⟩ = some (.int .u16 (zn : Int)) ∧ w'.cell? ⟨g2, off2 + k, none⟩ = some (.int .u8 (yn : Int))) (first
          | (simp [go_sem, *]; done)
          | go_keep
          | (refine ⟨(hc2 _ _ (by first | omega | (simp; omega))).trans ?_, (hc2 _ _ (by first | omega | (simp; omega))).trans ?_⟩ <;> simp [go_sem, *]; done)
          | (refine ⟨?_, ?_⟩ <;> (rw [hgrow.cell_far _ (by first | omega | (simp; omega)) (by first | assumption | (simp; omega))]; simp [go_sem, *]); done))
        (first
          | (go_at_call 24; refine (at_any _ _ _ _ (by omega)).mono ?_; rintro e w2 ⟨rfl, hb2⟩; obtain ⟨hc2, hf2⟩ := bcell hb2; have hsz2 : wr.heap.size ≤ w2.heap.size := (by (have := hb2.size; first | omega | (simp at this; omega))); have hg1 : ¬ g = w2.heap.size := (by omega); have hg2' : ¬ g2 = w2.heap.size := (by omega); have hg3 : ¬ w2.heap.size = g := (by omega); have hg4 : ¬ w2.heap.size = g2 := (by omega); have hown2 := own_below (by first | exact hown | exact hown.drew | exact hown.drew.drew) hb2; have hbw2 := bl_trans (by first | exact hbw | exact bl_drewN hbw _) hb2)
          | (refine step_append_lies _ (by rfl) _ _ _ (by rfl) w.heap.size 36 i0 _ 4 32 hu hi0 hz0 hz1 hz2 rfl (by omega) u9 k (l.flatMap fltCells) (by rfl) (by first | exact hown2.alloc _ | exact (hown2.alloc _).drew | exact hown2.drew.alloc _ | exact (hown2.drew.alloc _).drew) ⟨w2.heap.size, 0, none⟩ 1 1 _ (by rfl) (by rfl) (World.news_of_block (heap_alloc_new w2 _)) (by simp [Value.oneCell']) (by omega) (by simp [maxLen]; omega) (by omega) (by simp; omega) (w2.heap.size + 1) (by simp) ?_; intro gg capg w3 hown3 hgrow hat hlt3))
      go_wp2_with fail
      have hbel3 : Below w.heap.size w w3 := (bl_alloc hbw2 _).grown hgrow (by have := hbw2.size; simp; omega) (fun j e => (hown.lt _ e).1)
      rw [show (List.flatMap fltCells l ++ [_, _, _, _]) = (l ++ [Flt.mk _ _ _ _]).flatMap fltCells from by (rw [List.flatMap_append]; rfl)] at hown3
      refine ⟨⟨hbel3, k + 1, by omega, by omega, ?_⟩, by (simp only [intOf]; omega)⟩
      first | exact ⟨_, by simp; omega, hown3⟩ | exact ⟨_, hown3, by simp; omega⟩
    · have hdk : decide ((k : Int) < n) = false := decide_eq_false (by omega)
      obtain ⟨Af, capf, rfl, hrows⟩ := own_rows (f := fltCells) (fun _ => rfl) hown hlk
      obtain ⟨qz, hqz⟩ : ∃ q, ((firstF l).c == 0 && ((firstF l).o == 0 && ((firstF l).l == 0 && (firstF l).k == 0))) = q := ⟨_, rfl⟩
      have ef0 : ∀ w, (binOp .eql 36 (.agg #[.int .i64 (firstF l).c, .int .i64 (firstF l).o, .int .i64 (firstF l).l, .int .i64 (firstF l).k]) (.agg #[.int .i64 0, .int .i64 0, .int .i64 0, .int .i64 0])).run Try.prog w = .ok (.bool qz) w := fun w => by rw [eqFault, hqz]
      go_wp2_with (go_at_call 27; refine (first_lit _ _ _ l _ hrows (by omega)).mono ?_; rintro e w2 ⟨rfl, hb2⟩)
      go_loopw [12, 13] (fun pin i wx => Below w.heap.size w wx ∧ Blk wx w2.heap.size 36 (fltArr (firstF l)) ∧ wx.ownsRow w.heap.size 36 4 (.slice Af k capf) k (l.flatMap fltCells) ∧ ∃ j : Nat, j ≤ k ∧ i = .int .i64 j ∧ pin = .bool (inB (firstF l) l j)) (fun _ i _ => k - (intOf i).toNat)
      case atStart => exact ⟨bl_alloc (bl_trans hbw hb2) _, Blk.new w2 _ _, (own_below hown hb2).alloc _, 0, by omega, rfl, congrArg Value.bool (by (rw [← hqz]; simp [inB, eqF, zeroF]))⟩
      case round =>
        have ef := eqFault
        clear ef0 hqz
        obtain ⟨hbx, hblk, hownx, j, hj, rfl, rfl⟩ := hrel
        obtain ⟨Ax, capx, hvx, hrx⟩ := own_rows (f := fltCells) (fun _ => rfl) hownx hlk
        cases hvx
        by_cases hjk : j < k
        · have hdj : decide ((j : Int) < k) = true := decide_eq_true (by omega)
          have hx : l[j]? = some (l[j]'(by omega)) := List.getElem?_eq_getElem (by omega)
          have hstep : inB (firstF l) l (j + 1) = (inB (firstF l) l j || eqF (l[j]'(by omega)) (firstF l)) := by
            unfold inB
            rw [List.take_succ_eq_append_getElem (by omega), List.any_append]
            simp [Bool.or_assoc]
          obtain ⟨b, off', rfl, hgb, hrc⟩ := hrx.2 (by omega)
          generalize hxx : l[j]'(by omega) = x at hx hstep
          have e0 : wr.cell? ⟨b, off' + j * 4, none⟩ = some (.int .i64 x.c) := hrc j x 0 _ hx rfl
          have e1 : wr.cell? ⟨b, off' + j * 4 + 1, none⟩ = some (.int .i64 x.o) := hrc j x 1 _ hx rfl
          have e2 : wr.cell? ⟨b, off' + j * 4 + 2, none⟩ = some (.int .i64 x.l) := hrc j x 2 _ hx rfl
          have e3 : wr.cell? ⟨b, off' + j * 4 + 3, none⟩ = some (.int .i64 x.k) := hrc j x 3 _ hx rfl
          have c0 := hblk.cell 0; have c1 := hblk.cell 1; have c2 := hblk.cell 2; have c3 := hblk.cell 3
          simp [fltArr] at c0 c1 c2 c3
          have hj0 : (0 : Int) ≤ j := by omega
          have hj1 : (j : Int) < k := by omega
          generalize hin : inB (firstF l) l j = inb at *
          go_wp2_with fail
          go_upto_region 15 with fail
          go_cut [12] (fun p wx => ∃ wz : World, wz = wx ∧ p = .bool (inb || eqF x (firstF l)) ∧ Blk wx w2.heap.size 36 (fltArr (firstF l)) ∧ wx.ownsRow w.heap.size 36 4 (.slice (some ⟨b, off', none⟩) k capf) k (l.flatMap fltCells) ∧ (wx.cell? ⟨b, off' + j * 4, none⟩ = some (.int .i64 x.c) ∧ wx.cell? ⟨b, off' + j * 4 + 1, none⟩ = some (.int .i64 x.o) ∧ wx.cell? ⟨b, off' + j * 4 + 2, none⟩ = some (.int .i64 x.l) ∧ wx.cell? ⟨b, off' + j * 4 + 3, none⟩ = some (.int .i64 x.k)) ∧ Below w.heap.size w wx)
          case first =>
            cases inb
            · go_quiet (fail)
              go_wp2_with fail
              go_meet
              exact ⟨_, rfl, congrArg Value.bool (by simp [eqF]), hblk.drewN _, hownx, ⟨by simpa using e0, by simpa using e1, by simpa using e2, by simpa using e3⟩, bl_drewN hbx _⟩
            · go_quiet (fail)
              go_wp2_with fail
              go_meet
              exact ⟨_, rfl, congrArg Value.bool (by simp), hblk.drewN _, hownx, ⟨by simpa using e0, by simpa using e1, by simpa using e2, by simpa using e3⟩, bl_drewN hbx _⟩
          case rest =>
            obtain ⟨wz, rfl, rfl, hblk, hownx, ⟨e0, e1, e2, e3⟩, hbx⟩ := hcut
            have c0 := hblk.cell 0; have c1 := hblk.cell 1; have c2 := hblk.cell 2; have c3 := hblk.cell 3
            simp [fltArr] at c0 c1 c2 c3
            have hna := (ahead_no _ _).1 (first_ahead l x (List.mem_of_getElem? hx))
            cases qx : (x.c == 0)
            · have mx : (x.c != 0) = true := by rw [bne, qx]; rfl
              have qx' : x.c ≠ 0 := by simpa using qx
              have qf : ((firstF l).c == 0) = false := by (rw [beq_eq_false_iff_ne]; omega)
              have qo : decide (x.o < (firstF l).o) = false := decide_eq_false (by omega)
              go_upto_region 16 with fail
              have hgz := lt_of_cell e0
              simp at hgz
              have hgq := hblk.lt
              go_region_held3 (fun w' => w'.cell? ⟨b, off' + j * 4, none⟩ = some (.int .i64 x.c) ∧ w'.cell? ⟨b, off' + j * 4 + 1, none⟩ = some (.int .i64 x.o) ∧ w'.cell? ⟨b, off' + j * 4 + 2, none⟩ = some (.int .i64 x.l) ∧ w'.cell? ⟨b, off' + j * 4 + 3, none⟩ = some (.int .i64 x.k) ∧ w'.cell? ⟨w2.heap.size, 0, none⟩ = some (.int .i64 (firstF l).c) ∧ w'.cell? ⟨w2.heap.size, 1, none⟩ = some (.int .i64 (firstF l).o) ∧ w'.cell? ⟨w2.heap.size, 2, none⟩ = some (.int .i64 (firstF l).l) ∧ w'.cell? ⟨w2.heap.size, 3, none⟩ = some (.int .i64 (firstF l).k)) (simp [go_sem, *]) (first
                | (go_at_call 28; refine (before_any _ _ _ _ _ _ _).mono ?_; rintro e wA ⟨rfl, hbA⟩; obtain ⟨hcA, hfA⟩ := bcell hbA; have hzA := hbA.size; (try simp only [drew_size] at hcA hfA hzA); (try simp at hzA)))
              go_wp2_with fail
              exact ⟨⟨bl_trans (bl_drewN hbx _) hbA, (hblk.drewN _).below hbA (by first | omega | (simp; omega)), own_below (by first | exact hownx | exact hownx.drew | exact hownx.drew.drew) hbA, j + 1, by omega, rfl, by (rw [hstep])⟩, by (simp only [intOf]; omega)⟩
            · have mx : (x.c != 0) = false := by rw [bne, qx]; rfl
              go_upto_region 16 with fail
              go_quiet (fail)
              go_wp2_with fail
              exact ⟨⟨bl_drewN hbx _, hblk.drewN _, hownx, j + 1, by omega, rfl, by (rw [hstep])⟩, by (simp only [intOf]; omega)⟩
        · have hdj : decide ((j : Int) < k) = false := decide_eq_false (by omega)
          have hjk' : j = k := by omega
          subst hjk'
          rw [inB_all l j hlk]
          obtain ⟨mn, rfl⟩ : ∃ mn : Nat, more = (mn : Int) := ⟨more.toNat, by omega⟩
          have hu : Try.prog.underlying 30 = some (.slice 36) := by kernel_rfl
          have q1 : IntKind.i64.wrap ((s.size : Int) + 1) = s.size + 1 := IntWalk.i64_in _ (by omega)
          have q2 : ((s.size : Int) + 1 == 0) = false := by (rw [beq_eq_false_iff_ne]; omega)
          have q3 : ¬ ((s.size : Int) + 1 = 0) := by omega
          go_wp2_with (first
            | (go_at_call 24; refine (at_any _ _ _ _ (by omega)).mono ?_; rintro e w3 ⟨rfl, hb3⟩; generalize fltO _ s _ = xo; generalize fltL _ s _ = xl; generalize fltC _ s _ = xk)
            | (at_builtin; go_loud (refine wpList_append_lies _ (by rfl) _ _ _ (by rfl) w.heap.size 36 i0 _ 4 32 hu hi0 hz0 hz1 hz2 rfl (by omega) _ j (l.flatMap fltCells) (by rfl) (((own_below hownx hb3).alloc _).alloc _) ⟨w3.heap.size + 1, 0, none⟩ 1 1 _ (by rfl) (by rfl) (World.news_of_block (blk_new' (by simp))) (by simp [Value.oneCell']) (by omega) (by simp [maxLen]; omega) (by omega) (by have := hb3.size; have := hbx.size; simp; omega) (w3.heap.size + 2) (by simp) ?_); intro gg capg w4 hown4 hgrow hat hlt4))
          have hb4 : Below w.heap.size w w4 := (bl_alloc (bl_alloc (bl_trans hbx hb3) _) _).grown hgrow (by have := hb3.size; have := hbx.size; simp; omega) (fun j e => (hownx.lt _ e).1)
          have hown5 : w4.ownsRow w.heap.size 36 4 (.slice (some ⟨gg, 0, none⟩) (j + 1) capg) (j + 1) ((l ++ [(⟨19, xo, xl, xk⟩ : Flt)]).flatMap fltCells) := by (rw [List.flatMap_append]; exact hown4)
          obtain ⟨A4, cap4, hv4, hr4⟩ := own_rows (f := fltCells) (fun _ => rfl) hown5 (by simp; omega)
          cases hv4
          have law := last_law l ⟨19, xo, xl, xk⟩ (by show (19 : Int) ≠ 0; decide)
          go_wp2_with (go_at_call 27; refine (first_lit _ _ _ _ _ hr4 (by omega)).mono ?_; rintro e w5 ⟨rfl, hb5⟩)
          have hz3 := hb3.size; have hz4 := hgrow.size; have hz5 := hb5.size; have hzl := hblk.lt
          simp at hz4
          have k1 : Blk w5 w2.heap.size 36 (fltArr (firstF l)) := ((((hblk.below hb3 (by omega)).alloc _).alloc _).grown hgrow (fun e => absurd (hown.lt _ e.symm).2 (by have := hb2.size; omega))).below hb5 (by omega)
          have k2 : Blk w5 w3.heap.size 36 #[.int .i64 19, .int .i64 xo, .int .i64 xl, .int .i64 xk] := (((Blk.new w3 _ _).alloc _).grown hgrow (fun e => absurd (hownx.lt _ e.symm).2 (by omega))).below hb5 (by omega)
          generalize firstF (l ++ [(⟨19, xo, xl, xk⟩ : Flt)]) = bF at *
          generalize firstF l = aF at *
          unfold eqF at law
          simp only at law
          have k3 := Blk.new w5 36 (fltArr bF)
          replace k1 := k1.alloc (.cells (fltArr bF) 36)
          replace k2 := k2.alloc (.cells (fltArr bF) 36)
          have hb6 : Below w.heap.size w (w5.alloc (.cells (fltArr bF) 36)) := bl_alloc (bl_trans hb4 hb5) _
          have hl1 := k1.lt; have hl2 := k2.lt; have hl3 := k3.lt
          have nf := neqFault
          clear hblk hown hownx hown4 hown5 hr4
          simp only [fltArr] at *
          generalize w5.alloc _ = w6 at *
          have c0 := k1.cell 0; have c1 := k1.cell 1; have c2 := k1.cell 2; have c3 := k1.cell 3
          have d0 := k2.cell 0; have d1 := k2.cell 1; have d2 := k2.cell 2; have d3 := k2.cell 3
          have e0 := k3.cell 0; have e1 := k3.cell 1; have e2 := k3.cell 2; have e3 := k3.cell 3
          simp at c0 c1 c2 c3 d0 d1 d2 d3 e0 e1 e2 e3
          obtain ⟨q1, hq1⟩ : ∃ q, (bF.c == 19 && (bF.o == xo && (bF.l == xl && bF.k == xk))) = q := ⟨_, rfl⟩
          obtain ⟨q2, hq2⟩ : ∃ q, (bF.c == aF.c && (bF.o == aF.o && (bF.l == aF.l && bF.k == aF.k))) = q := ⟨_, rfl⟩
          have ef' : ∀ w, (binOp .eql 36 (.agg #[.int .i64 bF.c, .int .i64 bF.o, .int .i64 bF.l, .int .i64 bF.k]) (.agg #[.int .i64 19, .int .i64 xo, .int .i64 xl, .int .i64 xk])).run Try.prog w = .ok (.bool q1) w := fun w => by rw [eqFault, hq1]
          have nf' : ∀ w, (binOp .neq 36 (.agg #[.int .i64 bF.c, .int .i64 bF.o, .int .i64 bF.l, .int .i64 bF.k]) (.agg #[.int .i64 aF.c, .int .i64 aF.o, .int .i64 aF.l, .int .i64 aF.k])).run Try.prog w = .ok (.bool (!q2)) w := fun w => by rw [neqFault, hq2]
          rw [hq1, hq2] at law
          obtain ⟨q3, hq3⟩ : ∃ q, decide (xo < aF.o) = q := ⟨_, rfl⟩
          rw [hq3] at law
          clear ef nf hq1 hq2
          cases qa : (aF.c == 0)
          · have qa' : (aF.c != 0) = true := by rw [bne, qa]; rfl
            rw [qa] at law
            cases q1
            · refine wp_region_held_drew (S := (fun w' => (w'.cell? ⟨w2.heap.size, 0, none⟩ = some (.int .i64 aF.c) ∧ w'.cell? ⟨w2.heap.size, 1, none⟩ = some (.int .i64 aF.o) ∧ w'.cell? ⟨w2.heap.size, 2, none⟩ = some (.int .i64 aF.l) ∧ w'.cell? ⟨w2.heap.size, 3, none⟩ = some (.int .i64 aF.k)) ∧ (w'.cell? ⟨w3.heap.size, 0, none⟩ = some (.int .i64 19) ∧ w'.cell? ⟨w3.heap.size, 1, none⟩ = some (.int .i64 xo) ∧ w'.cell? ⟨w3.heap.size, 2, none⟩ = some (.int .i64 xl) ∧ w'.cell? ⟨w3.heap.size, 3, none⟩ = some (.int .i64 xk)) ∧ w'.cell? ⟨w5.heap.size, 0, none⟩ = some (.int .i64 bF.c) ∧ w'.cell? ⟨w5.heap.size, 1, none⟩ = some (.int .i64 bF.o) ∧ w'.cell? ⟨w5.heap.size, 2, none⟩ = some (.int .i64 bF.l) ∧ w'.cell? ⟨w5.heap.size, 3, none⟩ = some (.int .i64 bF.k))) (by kernel_rfl) ?_ (fun hHeld => ?_)
              · (try dsimp only); (simp [go_sem, *])
              refine wpAnyH_take (i := 0) (oi := _) (v := ?_) rfl (by kernel_rfl) (by kernel_rfl) (by kernel_rfl) (fun _ _ _ h => h) (Or.inl ⟨by rfl, ?_⟩) (by assumption) ?_
              rotate_left
              focus (intro w hSw; (try dsimp only at hSw); go_simp; try with_reducible rfl)
              (try simp only [Act.put, List.setIfInBounds_toArray, List.set_cons_zero, List.set_cons_succ, List.getElem_toArray, List.getElem_cons_zero])
              refine wpAnyH_take (i := 1) (oi := _) (v := ?_) rfl (by kernel_rfl) (by kernel_rfl) (by kernel_rfl) (fun _ _ _ h => h) (Or.inl ⟨by rfl, ?_⟩) (by assumption) ?_
              rotate_left
              focus (intro w hSw; (try dsimp only at hSw); go_simp; try with_reducible rfl)
              (try simp only [Act.put, List.setIfInBounds_toArray, List.set_cons_zero, List.set_cons_succ, List.getElem_toArray, List.getElem_cons_zero, List.getElem_cons_succ])
              refine wpAnyH_take (i := 2) (oi := _) (v := ?_) rfl (by kernel_rfl) (by kernel_rfl) (by kernel_rfl) (fun _ _ _ h => h) (Or.inl ⟨by rfl, ?_⟩) (by assumption) ?_
              rotate_left
              focus (intro w hSw; (try dsimp only at hSw); go_simp; try with_reducible rfl)
              (try simp only [Act.put, List.setIfInBounds_toArray, List.set_cons_zero, List.set_cons_succ, List.getElem_toArray, List.getElem_cons_zero, List.getElem_cons_succ])
              refine wpAnyH_take (i := 3) (oi := _) (v := ?_) rfl (by kernel_rfl) (by kernel_rfl) (by kernel_rfl) (fun _ _ _ h => h) (Or.inl ⟨by rfl, ?_⟩) (by assumption) ?_
              rotate_left
              focus (intro w hSw; (try dsimp only at hSw); go_simp; try with_reducible rfl)
              (try simp only [Act.put, List.setIfInBounds_toArray, List.set_cons_zero, List.set_cons_succ, List.getElem_toArray, List.getElem_cons_zero, List.getElem_cons_succ])
              refine wpAnyH_take (i := 4) (oi := _) (v := ?_) rfl (by kernel_rfl) (by kernel_rfl) (by kernel_rfl) (fun _ _ _ h => h) (Or.inl ⟨by rfl, ?_⟩) (by assumption) ?_
              rotate_left
              focus (intro w hSw; (try dsimp only at hSw); go_simp; try with_reducible rfl)
              (try simp only [Act.put, List.setIfInBounds_toArray, List.set_cons_zero, List.set_cons_succ, List.getElem_toArray, List.getElem_cons_zero, List.getElem_cons_succ])
              refine wpAnyH_take (i := 5) (oi := _) (v := ?_) rfl (by kernel_rfl) (by kernel_rfl) (by kernel_rfl) (fun _ _ _ h => h) (Or.inl ⟨by rfl, ?_⟩) (by assumption) ?_
              rotate_left
              focus (intro w hSw; (try dsimp only at hSw); go_simp; try with_reducible rfl)
              (try simp only [Act.put, List.setIfInBounds_toArray, List.set_cons_zero, List.set_cons_succ, List.getElem_toArray, List.getElem_cons_zero, List.getElem_cons_succ])
              refine wpAnyH_take (i := 6) (oi := _) (v := ?_) rfl (by kernel_rfl) (by kernel_rfl) (by kernel_rfl) (fun _ _ _ h => h) (Or.inl ⟨by rfl, ?_⟩) (by assumption) ?_
              rotate_left
              focus (intro w hSw; (try dsimp only at hSw); go_simp; try with_reducible rfl)
              (try simp only [Act.put, List.setIfInBounds_toArray, List.set_cons_zero, List.set_cons_succ, List.getElem_toArray, List.getElem_cons_zero, List.getElem_cons_succ])
              refine wpAnyH_take (i := 7) (oi := _) (v := ?_) rfl (by kernel_rfl) (by kernel_rfl) (by kernel_rfl) (fun _ _ _ h => h) (Or.inl ⟨by rfl, ?_⟩) (by assumption) ?_
              rotate_left
              focus (intro w hSw; (try dsimp only at hSw); go_simp; try with_reducible rfl)
              (try simp only [Act.put, List.setIfInBounds_toArray, List.set_cons_zero, List.set_cons_succ, List.getElem_toArray, List.getElem_cons_zero, List.getElem_cons_succ])
              refine wpAnyH_take (i := 8) (oi := _) (v := ?_) rfl (by kernel_rfl) (by kernel_rfl) (by kernel_rfl) (fun _ _ _ h => h) (Or.inl ⟨by rfl, ?_⟩) (by assumption) ?_
              rotate_left
              focus (intro w hSw; (try dsimp only at hSw); go_simp; try with_reducible rfl)
              (try simp only [Act.put, List.setIfInBounds_toArray, List.set_cons_zero, List.set_cons_succ, List.getElem_toArray, List.getElem_cons_zero, List.getElem_cons_succ])
              refine wpAnyH_take (i := 9) (oi := _) (v := ?_) rfl (by kernel_rfl) (by kernel_rfl) (by kernel_rfl) (fun _ _ _ h => h) (Or.inl ⟨by rfl, ?_⟩) (by assumption) ?_
              rotate_left
              focus (intro w hSw; (try dsimp only at hSw); go_simp; try with_reducible rfl)
              (try simp only [Act.put, List.setIfInBounds_toArray, List.set_cons_zero, List.set_cons_succ, List.getElem_toArray, List.getElem_cons_zero, List.getElem_cons_succ])
              refine wpAnyH_take (i := 12) (oi := _) (v := ?_) rfl (by kernel_rfl) (by kernel_rfl) (by kernel_rfl) (fun _ _ _ h => h) (Or.inl ⟨by rfl, ?_⟩) (by assumption) ?_
              rotate_left
              focus (intro w hSw; (try dsimp only at hSw); go_simp; try with_reducible rfl)
              (try simp only [Act.put, List.setIfInBounds_toArray, List.set_cons_zero, List.set_cons_succ, List.getElem_toArray, List.getElem_cons_zero, List.getElem_cons_succ])
              refine wpAnyH_take (i := 13) (oi := _) (v := ?_) rfl (by kernel_rfl) (by kernel_rfl) (by kernel_rfl) (fun _ _ _ h => h) (Or.inl ⟨by rfl, ?_⟩) (by assumption) ?_
              rotate_left
              focus (intro w hSw; (try dsimp only at hSw); go_simp; try with_reducible rfl)
              (try simp only [Act.put, List.setIfInBounds_toArray, List.set_cons_zero, List.set_cons_succ, List.getElem_toArray, List.getElem_cons_zero, List.getElem_cons_succ])
              refine wpAnyH_take (i := 14) (oi := _) (v := ?_) rfl (by kernel_rfl) (by kernel_rfl) (by kernel_rfl) (fun _ _ _ h => h) (Or.inl ⟨by rfl, ?_⟩) (by assumption) ?_
              rotate_left
              focus (intro w hSw; (try dsimp only at hSw); go_simp; try with_reducible rfl)
              (try simp only [Act.put, List.setIfInBounds_toArray, List.set_cons_zero, List.set_cons_succ, List.getElem_toArray, List.getElem_cons_zero, List.getElem_cons_succ])
              refine wpAnyH_ready (rs := [10]) (by kernel_rfl) (by simp) ?_
              refine AllReadyH.cons (o := _) rfl (fun K hK => ?_) AllReadyH.nil
              go_simp
              go_wp2_with (go_at_call 28; refine (before_any _ _ _ _ _ _ _).mono ?_; rintro e wA ⟨rfl, hbA⟩; obtain ⟨hcA, hfA⟩ := bcell hbA; have hzA := hbA.size; (try simp only [drew_size] at hcA hfA hzA); (try simp at hzA); rw [hq3])
              refine hK.out _ _ ?_ (fun hHeld2 => ?_)
              · (try dsimp only); (simp [go_sem, *])
              clear hK K hHeld
              (try simp only [Act.put, List.setIfInBounds_toArray, List.set_cons_zero, List.set_cons_succ, List.getElem_toArray, List.getElem_cons_zero, List.getElem_cons_succ])
              refine wpAnyH_take (i := 11) (oi := _) (v := ?_) rfl (by kernel_rfl) (by kernel_rfl) (by kernel_rfl) (fun _ _ _ h => h) (Or.inl ⟨by rfl, ?_⟩) (by assumption) ?_
              rotate_left
              focus (intro w hSw; (try dsimp only at hSw); go_simp; try with_reducible rfl)
              (try simp only [Act.put, List.setIfInBounds_toArray, List.set_cons_zero, List.set_cons_succ, List.getElem_toArray, List.getElem_cons_zero, List.getElem_cons_succ])
              refine wpAnyH_take (i := 15) (oi := _) (v := ?_) rfl (by kernel_rfl) (by kernel_rfl) (by kernel_rfl) (fun _ _ _ h => h) (Or.inl ⟨by rfl, ?_⟩) (by assumption) ?_
              rotate_left
              focus (intro w hSw; (try dsimp only at hSw); go_simp; try with_reducible rfl)
              (try simp only [Act.put, List.setIfInBounds_toArray, List.set_cons_zero, List.set_cons_succ, List.getElem_toArray, List.getElem_cons_zero, List.getElem_cons_succ])
              refine wpAnyH_take (i := 16) (oi := _) (v := undef) rfl (by kernel_rfl) (by kernel_rfl) (by kernel_rfl) (fun _ _ _ h => h) (Or.inr ⟨by rfl, rfl⟩) (by assumption) ?_
              (try simp only [Act.put, List.setIfInBounds_toArray, List.set_cons_zero, List.set_cons_succ, List.getElem_toArray, List.getElem_cons_zero, List.getElem_cons_succ])
              refine wpAnyH_take (i := 17) (oi := _) (v := undef) rfl (by kernel_rfl) (by kernel_rfl) (by kernel_rfl) (fun _ _ _ h => h) (Or.inr ⟨by rfl, rfl⟩) (by assumption) ?_
              (try simp only [Act.put, List.setIfInBounds_toArray, List.set_cons_zero, List.set_cons_succ, List.getElem_toArray, List.getElem_cons_zero, List.getElem_cons_succ])
              refine wpAnyH_take (i := 18) (oi := _) (v := undef) rfl (by kernel_rfl) (by kernel_rfl) (by kernel_rfl) (fun _ _ _ h => h) (Or.inr ⟨by rfl, rfl⟩) (by assumption) ?_
              (try simp only [Act.put, List.setIfInBounds_toArray, List.set_cons_zero, List.set_cons_succ, List.getElem_toArray, List.getElem_cons_zero, List.getElem_cons_succ])
              refine wpAnyH_take (i := 19) (oi := _) (v := ?_) rfl (by kernel_rfl) (by kernel_rfl) (by kernel_rfl) (fun _ _ _ h => h) (Or.inl ⟨by rfl, ?_⟩) (by assumption) ?_
              rotate_left
              focus (intro w hSw; (try dsimp only at hSw); go_simp; try with_reducible rfl)
              (try simp only [Act.put, List.setIfInBounds_toArray, List.set_cons_zero, List.set_cons_succ, List.getElem_toArray, List.getElem_cons_zero, List.getElem_cons_succ])
              refine wpAnyH_take (i := 20) (oi := _) (v := ?_) rfl (by kernel_rfl) (by kernel_rfl) (by kernel_rfl) (fun _ _ _ h => h) (Or.inl ⟨by rfl, ?_⟩) (by assumption) ?_
              rotate_left
              focus (intro w hSw; (try dsimp only at hSw); go_simp; try with_reducible rfl)
              (try simp only [Act.put, List.setIfInBounds_toArray, List.set_cons_zero, List.set_cons_succ, List.getElem_toArray, List.getElem_cons_zero, List.getElem_cons_succ])
              refine wpAnyH_take (i := 21) (oi := _) (v := ?_) rfl (by kernel_rfl) (by kernel_rfl) (by kernel_rfl) (fun _ _ _ h => h) (Or.inl ⟨by rfl, ?_⟩) (by assumption) ?_
              rotate_left
              focus (intro w hSw; (try dsimp only at hSw); go_simp; try with_reducible rfl)
              (try simp only [Act.put, List.setIfInBounds_toArray, List.set_cons_zero, List.set_cons_succ, List.getElem_toArray, List.getElem_cons_zero, List.getElem_cons_succ])
              refine wpAnyH_take (i := 22) (oi := _) (v := ?_) rfl (by kernel_rfl) (by kernel_rfl) (by kernel_rfl) (fun _ _ _ h => h) (Or.inl ⟨by rfl, ?_⟩) (by assumption) ?_
              rotate_left
              focus (intro w hSw; (try dsimp only at hSw); go_simp; try with_reducible rfl)
              (try simp only [Act.put, List.setIfInBounds_toArray, List.set_cons_zero, List.set_cons_succ, List.getElem_toArray, List.getElem_cons_zero, List.getElem_cons_succ])
              refine wpAnyH_done (by kernel_rfl) ?_ _
              go_wp2_with fail
              go_ret
              refine ⟨ret_bool ?_, ?_⟩
              all_goals first | rfl | (simpa using law.symm) | (exfalso; simp at law; done) | exact bl_trans (bl_drewN hb6 _) hbA | exact bl_drewN hb6 _
            · go_region_held3 (fun w' => (w'.cell? ⟨w2.heap.size, 0, none⟩ = some (.int .i64 aF.c) ∧ w'.cell? ⟨w2.heap.size, 1, none⟩ = some (.int .i64 aF.o) ∧ w'.cell? ⟨w2.heap.size, 2, none⟩ = some (.int .i64 aF.l) ∧ w'.cell? ⟨w2.heap.size, 3, none⟩ = some (.int .i64 aF.k)) ∧ (w'.cell? ⟨w3.heap.size, 0, none⟩ = some (.int .i64 19) ∧ w'.cell? ⟨w3.heap.size, 1, none⟩ = some (.int .i64 xo) ∧ w'.cell? ⟨w3.heap.size, 2, none⟩ = some (.int .i64 xl) ∧ w'.cell? ⟨w3.heap.size, 3, none⟩ = some (.int .i64 xk)) ∧ w'.cell? ⟨w5.heap.size, 0, none⟩ = some (.int .i64 bF.c) ∧ w'.cell? ⟨w5.heap.size, 1, none⟩ = some (.int .i64 bF.o) ∧ w'.cell? ⟨w5.heap.size, 2, none⟩ = some (.int .i64 bF.l) ∧ w'.cell? ⟨w5.heap.size, 3, none⟩ = some (.int .i64 bF.k)) (simp [go_sem, *]) (first
                | (go_at_call 28; refine (before_any _ _ _ _ _ _ _).mono ?_; rintro e wA ⟨rfl, hbA⟩; obtain ⟨hcA, hfA⟩ := bcell hbA; have hzA := hbA.size; (try simp only [drew_size] at hcA hfA hzA); (try simp at hzA); rw [hq3]))
              all_goals
                go_wp2_with fail
                go_ret
                refine ⟨ret_bool ?_, ?_⟩
                all_goals first | rfl | (simpa using law.symm) | (exfalso; simp at law; done) | exact bl_trans (bl_drewN hb6 _) hbA | exact bl_drewN hb6 _
          · have qa' : (aF.c != 0) = false := by rw [bne, qa]; rfl
            rw [qa] at law
            cases q1
            all_goals
              go_quiet (fail)
              go_wp2_with fail
              go_ret
              refine ⟨ret_bool ?_, ?_⟩
              all_goals first | rfl | (simpa using law.symm) | (exfalso; simp at law; done) | exact bl_trans (bl_drewN hb6 _) hbA | exact bl_drewN hb6 _
end Go.Proofs.Ytdhkfbobfjkclaa