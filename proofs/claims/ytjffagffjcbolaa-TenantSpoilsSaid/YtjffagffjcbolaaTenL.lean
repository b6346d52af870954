/- Tenants: several formats, one by one: the walk of TenantMay. -/
import Derived.Test.YtjffagffjcbolaaTenK
import Derived.Test.YtjffagffjcbolaaOpenInts
namespace Go.Proofs.Ytjffagffjcbolaa
set_option linter.unusedVariables false
set_option linter.unusedSimpArgs false
open Go.RowKit
theorem row_ints {w : World} {A : Option Addr} {n cap : Nat} {zs : List Int} (h : IsRow .i64 w A n cap zs) : IsRows intCell 1 w w.heap.size A n (zs.take n) := by
  have hl : n ≤ zs.length := by
    rcases h with ⟨_, h0, _, _⟩ | ⟨x, _, h1, _, h2, _⟩ <;> omega
  refine ⟨by rw [List.length_take]; omega, fun hn => ?_⟩
  obtain ⟨b, off, e, hb, hc⟩ := h.at_ hn
  refine ⟨b, off, e, hb, fun i x j u hx hu => ?_⟩
  have hi : i < n := by have := (List.getElem?_eq_some_iff.1 hx).1; rw [List.length_take] at this; omega
  rw [List.getElem?_take_of_lt hi] at hx
  cases j with
  | zero =>
    simp only [intCell, List.getElem?_cons_zero, Option.some.injEq] at hu
    subst hu
    have h1 := (hc i hi).1
    rw [List.getD_eq_getElem?_getD, hx] at h1
    simpa using h1
  | succ j => simp [intCell] at hu
theorem row_le {w : World} {A : Option Addr} {n cap : Nat} {zs : List Int} (h : IsRow .i64 w A n cap zs) : n ≤ 9223372036854775807 := by
  rcases h with ⟨_, h0, _, _⟩ | ⟨x, _, h1, h2, _⟩
  · omega
  · unfold maxLen at h2; omega
def mC (P : Int) : VCfg := ⟨P, 1, 1, 1, 0, 0, none, 0, []⟩
def mD (P : Int) (A : Option Addr) (c : Nat) : VCfg := ⟨P, 1, 1, 1, 0, 0, A, c, []⟩
def mM (P : Int) (A : Option Addr) (c : Nat) : Bk := [([97, 45, 49], mD P A c)]
theorem mC_ok {q : Nat} (h : q < 16) : cfgB (mC ((q : Int) * 2)) = true := by
  have h1 : ((List.range 16).all fun q => cfgB (mC ((q : Int) * 2))) = true := by decide +kernel
  exact List.all_eq_true.1 h1 q (List.mem_range.2 h)
theorem mC_at (P : Int) (w : World) : CfgAt w w.heap.size (mC P) := ⟨IsRows.nil_, (by intro r hr; cases hr), Nat.zero_le _⟩
theorem mLike {P : Int} {d : VCfg} (h : LikeC (mC P) d) : d = mD P d.A d.c := by
  obtain ⟨p, b, q, s, m, u, A, c, rs⟩ := d
  obtain ⟨h1, h2, h3, h4, h5, h6, h7⟩ := h
  simp only [mC, List.map_nil, List.map_eq_nil_iff] at h1 h2 h3 h4 h5 h6 h7
  subst h1 h2 h3 h4 h5 h6 h7
  rfl
theorem mE1 {P : Int} (h : cfgB (mC P) = true) : addE [] [97, 45, 49] (mC P) = 0 := by
  unfold addE
  rw [h]; decide
theorem mMay1 (P : Int) (A : Option Addr) (c : Nat) (zs : List Int) : mayE (mM P A c) [97, 45, 49] zs = if zs.any (notMay P) then 17 else 0 := by rfl
theorem mMay2 (P : Int) (A : Option Addr) (c : Nat) (zs : List Int) : mayE (mM P A c) [97, 45, 50] zs = 18 := by rfl
section
variable {w0 w : World} {p b : Nat} {A : Option Addr} {c : Nat}
theorem madd (P : Int) (hP : cfgB (mC P) = true) (h : KS w0 w p b []) : Calls Try.prog 11 #[.pointer (some ⟨p, 0, none⟩), .string ⟨#[97, 45, 49]⟩, .agg #[.int .i64 P, .int .i64 1, .int .i64 1, .int .i64 1, .int .i64 0, .int .i64 0, .slice none 0 0]] w fun e w' => e = .returned (.int .i64 0) ∧ (∃ A c, KS w0 w' p b (mM P A c)) :=
  (badd_any p b [] ⟨#[97, 45, 49]⟩ (mC P) w h.bk (by decide) (by decide) (mC_at P w) (by simp)).mono fun e w' ⟨h1, h2, h3⟩ => by
    have e0 : addE [] (⟨#[97, 45, 49]⟩ : ByteArray).data.toList (mC P) = 0 := mE1 hP
    rw [e0] at h1 h2
    unfold AddQ at h2
    rw [if_pos rfl] at h2
    obtain ⟨d, hd, hb⟩ := h2
    refine ⟨h1, ⟨d.A, d.c, h.aw h3 ?_⟩⟩
    have : putKV ([] : Bk) [97, 45, 49] d = mM P d.A d.c := by unfold mM; rw [← mLike hd]; rfl
    rw [← this]; exact hb
end
theorem any_notMay (P : Int) (zs : List Int) : zs.any (notMay P) = !(zs.all (allowsB P)) := by
  induction zs with
  | nil => rfl
  | cons z r ih => rw [List.any_cons, List.all_cons, ih, notMay, Bool.not_and]
set_option maxRecDepth 100000 in
set_option maxHeartbeats 12800000 in
theorem may29_any (h : Int) (A : Option Addr) (n cap : Nat) (zs : List Int) (w : World) (h0 : 0 ≤ h) (h1 : h ≤ 255) (hl : IsRows intCell 1 w w.heap.size A n zs) (hn : n ≤ 9223372036854775807) :
    Calls Try.prog 4 #[.int .u8 h, .slice A n cap] w fun e w' => e = .returned (.bool true) ∧ Below w.heap.size w w' := by
  have kK := fun W => known29_any W
  by_cases hbig : 10 < n
  · have hd1 : decide ((10 : Int) < n) = true := decide_eq_true (by omega)
    go_enter Try.func4, Try.ntmps4
    go_wp2_with (go_at_call 7; (with_reducible refine (kK _).mono ?_); rintro e w1 ⟨rfl, hb1⟩)
    go_ret
    exact ⟨rfl, hb1⟩
  have hd1 : decide ((10 : Int) < n) = false := decide_eq_false (by omega)
  obtain ⟨q, hq⟩ : ∃ q : Nat, h.tmod 16 = (q : Int) := ⟨(h.tmod 16).toNat, by rw [Int.toNat_of_nonneg]; rw [Int.tmod_eq_emod_of_nonneg h0]; omega⟩
  have hq16 : q < 16 := by rw [Int.tmod_eq_emod_of_nonneg h0] at hq; omega
  have wq : IntKind.i64.wrap (q : Int) = (q : Int) := IntWalk.i64_in _ (by omega)
  have wq8 : IntKind.u8.wrap (q : Int) = (q : Int) := by simp [IntKind.wrap, IntKind.bits, IntKind.signed]; omega
  have wq2 : IntKind.i64.wrap ((q : Int) * 2) = (q : Int) * 2 := IntWalk.i64_in _ (by omega)
  have hok := mC_ok hq16
  obtain ⟨P, hP⟩ : ∃ P : Int, (q : Int) * 2 = P := ⟨_, rfl⟩
  have hPb : 0 ≤ P ∧ P ≤ 30 := by omega
  rw [hP] at hok wq2
  go_enter Try.func4, Try.ntmps4
  go_upto_region 6 with (first
    | (go_at_call 7; (with_reducible refine (kK _).mono ?_); rintro e w1 ⟨rfl, hb1⟩)
    | (go_at_call 8; (with_reducible refine (bnew_any _).mono ?_); rintro e w2 ⟨rfl, hbk, hb2⟩))
  have hK2 : KS w w2 (w1.heap.size + 1) w1.heap.size [] := ⟨hbk, bl_any hb1 hb2, hb1.size⟩
  clear hbk hb2 kK
  go_upto_region 8 with (go_at_call 11; (with_reducible refine (madd P hok hK2).mono ?_); rintro e w3 ⟨rfl, A3, c3, hK3⟩)
  have hb1s := hb1.size
  clear hb1 hK2
  have hP0 : ∀ z, isP z = false → allowsB P z = false := fun z hz => by unfold allowsB; rw [hz]; rfl
  generalize w1.heap.size + 1 = p at *
  generalize w1.heap.size = b at *
  go_wp2_with fail
  go_loopw [6, 7] (fun av i wr => KS w wr p b (mM P A3 c3) ∧ ∃ k : Nat, k ≤ n ∧ i = .int .i64 k ∧ av = .bool ((zs.take k).all (allowsB P))) (fun _ i _ => n - (intOf i).toNat)
  case atStart => exact ⟨hK3, 0, by omega, rfl, rfl⟩
  case round =>
    obtain ⟨hKr, k, hk, rfl, rfl⟩ := hrel
    by_cases hlt : k < n
    · have hd : decide ((k : Int) < n) = true := decide_eq_true (by omega)
      have hk0 : (0 : Int) ≤ k := by omega
      have hk1 : (k : Int) < n := by omega
      obtain ⟨bb, off, rfl, hgb, hcs⟩ := (hl.below hKr.bl).2 (by omega)
      obtain ⟨Z, hZ⟩ : ∃ Z, zs[k]? = some Z := ⟨_, List.getElem?_eq_getElem (by have := hl.1; omega)⟩
      have q0 : wr.cell? ⟨bb, off + k, none⟩ = some (.int .i64 Z) := by have := hcs k Z 0 _ hZ rfl; simpa using this
      have HT : Hid ((zs.take (k + 1)).all (allowsB P) = ((zs.take k).all (allowsB P) && allowsB P Z)) := Lib.hid (by rw [List.take_add_one, hZ, List.all_append]; simp)
      have hrows : IsRows intCell 1 (wr.alloc (.cells #[.int .i64 Z] 3)) (wr.alloc (.cells #[.int .i64 Z] 3)).heap.size (some ⟨wr.heap.size, 0, none⟩) 1 [Z] := IsRows.made (f := intCell) (fun _ => rfl) wr _ _ [Z] rfl
      have kM := kmayG (mM P A3 c3) ⟨#[97, 45, 49]⟩ (by decide) _ 1 1 (if [Z].any (notMay P) then 17 else 0) [Z] (hKr.alloc (.cells #[.int .i64 Z] 3)) hrows (by decide) (mMay1 P A3 c3 [Z])
      have e1 : [Z].any (notMay P) = !allowsB P Z := by simp [notMay]
      rw [e1] at kM
      generalize (zs.take k).all (allowsB P) = av at *
      clear hcs hZ hrows
      rcases isP_cases Z with hz | rfl | rfl | rfl | rfl
      · have ha := hP0 Z hz
        rw [ha] at kM HT
        simp only [Bool.not_false, if_true] at kM
        clear ha e1 hP0
        cases hz1 : decide (1 ≤ Z)
        · cases av
          all_goals
            go_wp2_with (go_at_call 15; (with_reducible refine kM.mono ?_); rintro e w5 ⟨rfl, hK5, hb5⟩)
            exact ⟨⟨hK5, k + 1, by omega, rfl, by rw [HT.out]; simp⟩, by (simp only [intOf]; omega)⟩
        · have hz2 : decide (Z ≤ 4) = false := by unfold isP at hz; rw [hz1] at hz; simpa using hz
          cases av
          all_goals
            go_wp2_with (go_at_call 15; (with_reducible refine kM.mono ?_); rintro e w5 ⟨rfl, hK5, hb5⟩)
            exact ⟨⟨hK5, k + 1, by omega, rfl, by rw [HT.out]; simp⟩, by (simp only [intOf]; omega)⟩
      · obtain ⟨V, hV⟩ : ∃ V, (bits .and .i64 (P / 2) 1 == 1) = V := ⟨_, rfl⟩
        have ha : allowsB P 1 = V := by rw [← hV]; rfl
        rw [ha] at kM HT
        clear ha e1 hP0
        have wu : IntKind.u64.wrap (1 : Int) = 1 := by decide
        cases V <;> cases av
        all_goals
          simp only [Bool.not_false, Bool.not_true, if_true, Bool.false_eq_true, if_false] at kM
          go_wp2_with (go_at_call 15; (with_reducible refine kM.mono ?_); rintro e w5 ⟨rfl, hK5, hb5⟩)
          exact ⟨⟨hK5, k + 1, by omega, rfl, by rw [HT.out]; simp⟩, by (simp only [intOf]; omega)⟩
      · obtain ⟨V, hV⟩ : ∃ V, (bits .and .i64 (P / 4) 1 == 1) = V := ⟨_, rfl⟩
        have ha : allowsB P 2 = V := by rw [← hV]; rfl
        rw [ha] at kM HT
        clear ha e1 hP0
        have wu : IntKind.u64.wrap (2 : Int) = 2 := by decide
        cases V <;> cases av
        all_goals
          simp only [Bool.not_false, Bool.not_true, if_true, Bool.false_eq_true, if_false] at kM
          go_wp2_with (go_at_call 15; (with_reducible refine kM.mono ?_); rintro e w5 ⟨rfl, hK5, hb5⟩)
          exact ⟨⟨hK5, k + 1, by omega, rfl, by rw [HT.out]; simp⟩, by (simp only [intOf]; omega)⟩
      · obtain ⟨V, hV⟩ : ∃ V, (bits .and .i64 (P / 8) 1 == 1) = V := ⟨_, rfl⟩
        have ha : allowsB P 3 = V := by rw [← hV]; rfl
        rw [ha] at kM HT
        clear ha e1 hP0
        have wu : IntKind.u64.wrap (3 : Int) = 3 := by decide
        cases V <;> cases av
        all_goals
          simp only [Bool.not_false, Bool.not_true, if_true, Bool.false_eq_true, if_false] at kM
          go_wp2_with (go_at_call 15; (with_reducible refine kM.mono ?_); rintro e w5 ⟨rfl, hK5, hb5⟩)
          exact ⟨⟨hK5, k + 1, by omega, rfl, by rw [HT.out]; simp⟩, by (simp only [intOf]; omega)⟩
      · obtain ⟨V, hV⟩ : ∃ V, (bits .and .i64 (P / 16) 1 == 1) = V := ⟨_, rfl⟩
        have ha : allowsB P 4 = V := by rw [← hV]; rfl
        rw [ha] at kM HT
        clear ha e1 hP0
        have wu : IntKind.u64.wrap (4 : Int) = 4 := by decide
        cases V <;> cases av
        all_goals
          simp only [Bool.not_false, Bool.not_true, if_true, Bool.false_eq_true, if_false] at kM
          go_wp2_with (go_at_call 15; (with_reducible refine kM.mono ?_); rintro e w5 ⟨rfl, hK5, hb5⟩)
          exact ⟨⟨hK5, k + 1, by omega, rfl, by rw [HT.out]; simp⟩, by (simp only [intOf]; omega)⟩
    · have hd : decide ((k : Int) < n) = false := decide_eq_false (by omega)
      obtain rfl : k = n := by omega
      rw [List.take_of_length_le (by have := hl.1; omega)]
      have hl5 := (hl.below hKr.bl).more hKr.bl.size
      have kM1 := kmayG (mM P A3 c3) ⟨#[97, 45, 49]⟩ (by decide) A k cap (if zs.any (notMay P) then 17 else 0) zs hKr hl5 (by omega) (mMay1 P A3 c3 zs)
      have kM2 := fun W (h : KS w W p b (mM P A3 c3)) => kmayG (mM P A3 c3) ⟨#[97, 45, 50]⟩ (by decide) A k cap 18 zs h ((hl.below h.bl).more h.bl.size) (by omega) (mMay2 P A3 c3 zs)
      have kM3 := fun W (h : KS w W p b (mM P A3 c3)) => kmayG (mM P A3 c3) ⟨#[97, 45, 49]⟩ (by decide) none 0 0 0 [] h IsRows.nil_ (by omega) (mMay1 P A3 c3 [])
      rw [any_notMay] at kM1
      clear hl5 hP0 hP
      generalize zs.all (allowsB P) = V at *
      cases V
      all_goals
        simp only [Bool.not_false, Bool.not_true, if_true, Bool.false_eq_true, if_false] at kM1
        go_wp2_with (first
          | (go_at_call 15; (with_reducible refine kM1.mono ?_); rintro e w5 ⟨rfl, hK5, hb5⟩)
          | (go_at_call 15; (with_reducible refine (kM2 _ hK5).mono ?_); rintro e w6 ⟨rfl, hK6, hb6⟩)
          | (go_at_call 15; (with_reducible refine (kM3 _ hK6).mono ?_); rintro e w7 ⟨rfl, hK7, hb7⟩))
        go_ret
        exact ⟨rfl, hK7.bl⟩
end Go.Proofs.Ytjffagffjcbolaa
