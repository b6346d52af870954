/- The walk of the counting format's reference: a line. -/
import Derived.Test.YtpknjngjkdnpiaaGreatDoorRf26a
import Derived.Deep.CutRange
import Derived.Deep.CutBlock
namespace Go.Proofs.YtpknjngjkdnpiaaGreatDoor
set_option linter.unusedVariables false
set_option linter.unusedSimpArgs false
open Go.RowKit
/-- What a row is told as. -/
def RowT (R : MRow) (no : Bool) (base : Nat) (v : Value) (w : World) : Prop :=
  ∃ x : VRow, v = .agg #[.int .i64 (x.row.kind : Int), .string x.row.name, .int .i64 (x.row.off : Int), .slice x.tA x.row.tags.length x.tc, .slice x.fA x.row.fields.length x.fc, .string x.row.text, .int .i64 (x.row.pos : Int), .bool x.row.timed, .string x.row.time, .int .i64 (x.row.when_ : Int)] ∧ OwnV w base x ∧ (no = false → x.row = R)
theorem rowT_mk {R : MRow} {no : Bool} {base : Nat} {w : World} {K : Nat} {nm : ByteArray} {off : Nat} {tA : Option Addr} {tags : List MTag} {tc : Nat} {text : ByteArray} {pos : Nat} {timed : Bool} {time : ByteArray} {wh : Nat}
    (ht : w.ownsRow base 78 4 (.slice tA tags.length tc) tags.length (tags.flatMap tagCell)) (hR : no = false → (⟨K, nm, off, tags, [], text, pos, timed, time, wh⟩ : MRow) = R) :
    RowT R no base (.agg #[.int .i64 (K : Int), .string nm, .int .i64 (off : Int), .slice tA tags.length tc, .slice none 0 0, .string text, .int .i64 (pos : Int), .bool timed, .string time, .int .i64 (wh : Int)]) w :=
  ⟨⟨⟨K, nm, off, tags, [], text, pos, timed, time, wh⟩, tA, tc, none, 0⟩, rfl, ⟨ht, World.ownsRow_nil _ _ _ _⟩, hR⟩
theorem Aw.ten' {w : World} {q : Nat} {p0 p1 p2 p3 p4 p5 p6 p7 p8 p9 : Addr} {u0 u1 u2 u3 u4 u5 u6 u7 u8 u9 : Value} (h0 : p0.block = q) (h1 : p1.block = q) (h2 : p2.block = q) (h3 : p3.block = q) (h4 : p4.block = q) (h5 : p5.block = q) (h6 : p6.block = q) (h7 : p7.block = q) (h8 : p8.block = q) (h9 : p9.block = q) :
    Aw [q] w ((((((((((w.setCell p0 u0).setCell p1 u1).setCell p2 u2).setCell p3 u3).setCell p4 u4).setCell p5 u5).setCell p6 u6).setCell p7 u7).setCell p8 u8).setCell p9 u9) :=
  ((((((((((Aw.refl _ _).setCell (.inl (by simp [h0])) _).setCell (.inl (by simp [h1])) _).setCell (.inl (by simp [h2])) _).setCell (.inl (by simp [h3])) _).setCell (.inl (by simp [h4])) _).setCell (.inl (by simp [h5])) _).setCell (.inl (by simp [h6])) _).setCell (.inl (by simp [h7])) _).setCell (.inl (by simp [h8])) _).setCell (.inl (by simp [h9])) _
/-- The row's cells are copied to the block of what is told. -/
theorem QX.fin {w w1 wx w' : World} {g q x K : Nat} {s : ByteArray} {a : Nat} {no : Bool} {nm : ByteArray} {off : Nat} {tA : Option Addr} {tags : List MTag} {tc : Nat} {text : ByteArray} {pos : Nat} {timed : Bool} {time : ByteArray} {wh : Nat} {R : MRow} {cs : Array Value}
    (h : QX w1 wx g x s a no K nm off (.slice tA tags.length tc) tags text pos timed time wh) (hw : Aw [] w w1) (hq : Blk w1 q 74 cs) (hq2 : w.heap.size ≤ q) (hg : g < w.heap.size) (k : Aw [q] wx w') (hR : no = false → (⟨K, nm, off, tags, [], text, pos, timed, time, wh⟩ : MRow) = R) :
    RowT R no w.heap.size (.agg #[.int .i64 (K : Int), .string nm, .int .i64 (off : Int), .slice tA tags.length tc, .slice none 0 0, .string text, .int .i64 (pos : Int), .bool timed, .string time, .int .i64 (wh : Int)]) w' ∧ Sr w' g s a no ∧ Aw [g] w w' := by
  have hqq : Blk wx q 74 cs := Blk.aw hq h.aw (by simp; omega)
  refine ⟨rowT_mk (own_more (own_aw h.tg k (fun j hj e => by
      simp only [List.mem_cons, List.not_mem_nil, or_false] at e
      subst e; exact own_blk_ne h.tg hqq (by decide) hj)) hw.size) hR, h.sr.aw k (by simp; omega), ?_⟩
  exact (((hw.mono (by simp)).trans h.aw).own k (fun i hi => by simp at hi; subst hi; exact .inr hq2))
set_option maxRecDepth 100000 in
set_option maxHeartbeats 12800000 in
theorem line26_any (g : Nat) (s : ByteArray) (a : Nat) (R : MRow) (a' : Nat) (no' : Bool) (w : World) (h : Sr w g s a false) (ha : a ≤ s.size) (hs : s.size ≤ 1048576) (hR : statLineS s.data.toList a = (R, a', no')) :
    Calls Tryz.prog 24 #[.pointer (some ⟨g, 0, none⟩)] w fun e w' => ∃ v, e = .returned v ∧ RowT R no' w.heap.size v w' ∧ Sr w' g s a' no' ∧ Aw [g] w w' := by
  have hL : s.data.toList.length = s.size := by simp
  have hs2 : s.size ≤ 4611686018427387904 := Nat.le_trans hs (by decide)
  have hg := h.lt
  obtain ⟨a1, n1, h1⟩ : ∃ a1 n1, someS s.data.toList stName a false = (a1, n1) := ⟨_, _, rfl⟩
  obtain ⟨a2, n2, h2⟩ : ∃ a2 n2, wordS s.data.toList [58] a1 n1 = (a2, n2) := ⟨_, _, rfl⟩
  obtain ⟨a3, n3, h3⟩ : ∃ a3 n3, someS s.data.toList stInk a2 n2 = (a3, n3) := ⟨_, _, rfl⟩
  obtain ⟨a4, n4, h4⟩ : ∃ a4 n4, wordS s.data.toList [124] a3 n3 = (a4, n4) := ⟨_, _, rfl⟩
  obtain ⟨K, a5, n5, h5⟩ : ∃ K a5 n5, kindS s.data.toList a4 n4 = (K, a5, n5) := ⟨_, _, _, rfl⟩
  have hl1 := someS_le s.data.toList stName a false (by rw [hL]; omega)
  rw [h1, hL] at hl1
  have hl2 := wordS_le s.data.toList [58] a1 n1 (by rw [hL]; exact hl1.2)
  rw [h2, hL] at hl2
  have hl3 := someS_le s.data.toList stInk a2 n2 (by rw [hL]; exact hl2.2)
  rw [h3, hL] at hl3
  have hl4 := wordS_le s.data.toList [124] a3 n3 (by rw [hL]; exact hl3.2)
  rw [h4, hL] at hl4
  have hl5 := kindS_le (l := s.data.toList) n4 (by rw [hL]; exact hl4.2)
  rw [h5, hL] at hl5
  simp only at hl1 hl2 hl3 hl4 hl5
  unfold statLineS at hR
  simp only [h1, h2, h3, h4, h5] at hR
  have k1 := fun W h => run_name26 g s a false a1 n1 W h ha hs h1
  have k2 := fun W h => lit_any g s ⟨#[58]⟩ a1 n1 a2 n2 W h hl1.2 hs (by decide) h2
  have k3 := fun W h => run_ink26 g s a2 n2 a3 n3 W h hl2.2 hs h3
  have k4 := fun W h => lit_any g s ⟨#[124]⟩ a3 n3 a4 n4 W h hl3.2 hs (by decide) h4
  have kN4 := fun W h => next_any g s a4 n4 W h hs2 hl4.2
  have kN5 := fun W h => next_any g s a5 n5 W h hs2 hl5.2
  generalize mkS (cutL s.data.toList a a1) = V1 at k1 hR
  generalize mkS (cutL s.data.toList a2 a3) = V5 at k3 hR
  have H5 := Lib.hid h5
  have HR := Lib.hid hR
  have HL := Lib.hid hL
  clear h1 h2 h3 h4 h5 hR hL
  have hAw1 : Aw [] w (w.alloc (.cells #[.int .i64 0, .string ⟨#[]⟩, .int .i64 0, .slice none 0 0, .slice none 0 0, .string ⟨#[]⟩, .int .i64 0, .bool false, .string ⟨#[]⟩, .int .i64 0] 74)) := (Aw.refl _ _).alloc _
  have hQ0 := Blk.new w 74 #[.int .i64 0, .string ⟨#[]⟩, .int .i64 0, .slice none 0 0, .slice none 0 0, .string ⟨#[]⟩, .int .i64 0, .bool false, .string ⟨#[]⟩, .int .i64 0]
  have hs1 := h.alloc (.cells #[.int .i64 0, .string ⟨#[]⟩, .int .i64 0, .slice none 0 0, .slice none 0 0, .string ⟨#[]⟩, .int .i64 0, .bool false, .string ⟨#[]⟩, .int .i64 0] 74)
  obtain ⟨⟨c0, c1, c2⟩, f1, f2⟩ := h.facts
  go_enter Tryz.func24, Tryz.ntmps24
  go_upto_region 1 with fail
  generalize hw1 : w.alloc (.cells #[.int .i64 0, .string ⟨#[]⟩, .int .i64 0, .slice none 0 0, .slice none 0 0, .string ⟨#[]⟩, .int .i64 0, .bool false, .string ⟨#[]⟩, .int .i64 0] 74) = w1 at hAw1 hQ0 hs1 ⊢
  generalize hq0 : w.heap.size = q at hQ0 ⊢
  clear hw1 c0 c1 c2 f1 f2
  obtain ⟨⟨c0, c1, c2⟩, f1, f2⟩ := hs1.facts
  have hq1 : q < w1.heap.size := Blk.lt hQ0
  have L1 : QX w1 (w1.alloc (.cells #[.int .i64 0, .string ⟨#[]⟩, .int .i64 (a : Int), .slice none 0 0, .slice none 0 0, .string ⟨#[]⟩, .int .i64 0, .bool false, .string ⟨#[]⟩, .int .i64 0] 74)) g w1.heap.size s a false 0 ⟨#[]⟩ a (.slice none 0 0) [] ⟨#[]⟩ 0 false ⟨#[]⟩ 0 :=
    ⟨hs1.alloc _, by
      have := Blk.new w1 74 #[.int .i64 0, .string ⟨#[]⟩, .int .i64 (a : Int), .slice none 0 0, .slice none 0 0, .string ⟨#[]⟩, .int .i64 0, .bool false, .string ⟨#[]⟩, .int .i64 0]
      simpa [Rw] using this, World.ownsRow_nil _ _ _ _, hs1.lt, Nat.le_refl _, (Aw.refl _ _).alloc _⟩
  go_upto_if 29 with (first
    | (go_at_call 40; (with_reducible refine (k1 _ L1.sr).mono ?_); rintro e w4 ⟨rfl, h4, hA4⟩; have L4 := L1.scan h4 hA4; obtain ⟨_, x0, x1, x2, x3⟩ := L4.rw_.facts; have L5 := L4.name V1)
    | (go_at_call 41; (with_reducible refine (k2 _ L5.sr).mono ?_); rintro e w6 ⟨rfl, h6, hA6⟩; have L6 := L5.scan h6 hA6; obtain ⟨⟨y0, y1, y2⟩, _⟩ := L6.sr.facts; obtain ⟨_, r0, r1, r2, r3, r4, r5, r6, r7, r8, r9⟩ := L6.rw_.facts; have L7 := L6.pos_ a2)
    | (go_at_call 40; (with_reducible refine (k3 _ L7.sr).mono ?_); rintro e w8 ⟨rfl, h8, hA8⟩; have L8 := L7.scan h8 hA8; obtain ⟨_, r0, r1, r2, r3, r4, r5, r6, r7, r8, r9⟩ := L8.rw_.facts; have L9 := L8.text_ V5)
    | (go_at_call 41; (with_reducible refine (k4 _ L9.sr).mono ?_); rintro e w10 ⟨rfl, h10, hA10⟩; have L10 := L9.scan h10 hA10; obtain ⟨⟨y0, y1, y2⟩, j1, j2⟩ := L10.sr.facts))
  clear L9 L8 L7 L6 L5 L4 L1 h4 hA4 h6 hA6 h8 hA8 h10 hA10 k1 k2 k3 k4
  clear x0 x1 x2 x3 c0 c1 c2 f1 f2 r0 r1 r2 r3 r4 r5 r6 r7 r8 r9
  obtain ⟨_, r0, r1, r2, r3, r4, r5, r6, r7, r8, r9⟩ := L10.rw_.facts
  go_cut [] from 30 to 65 (fun wx => ∃ K', QX w1 wx g w1.heap.size s a5 n5 K' V1 a (.slice none 0 0) [] V5 a2 false ⟨#[]⟩ 0 ∧ (n5 = false → K' = K))
  case first =>
    clear kN5 HR
    have h5 := H5.out
    unfold kindS at h5
    cases n4
    case true =>
      simp only [isB_no, Bool.false_eq_true, if_false, wordS_no] at h5
      obtain ⟨rfl, rfl, rfl⟩ : 4 = K ∧ a4 = a5 ∧ true = n5 := by injection h5 with e1 e2; injection e2 with e3 e4; exact ⟨e1, e3, e4⟩
      clear h5 H5
      go_wp2_with fail
      go_meet
      exact ⟨_, L10, fun e => by cases e⟩
    case false =>
      rw [isB_nx (by decide), isB_nx (by decide), isB_nx (by decide)] at h5
      clear H5
      generalize bt s.data.toList a4 = C at kN4 h5
      have H5 := Lib.hid h5
      clear h5
      cases hq1 : (C == 99)
      case true =>
        have h5 := H5.out
        simp only [hq1, if_true] at h5
        obtain ⟨rfl, rfl, rfl⟩ : 1 = K ∧ a4 + 1 = a5 ∧ false = n5 := by injection h5 with e1 e2; injection e2 with e3 e4; exact ⟨e1, e3, e4⟩
        clear h5 H5
        go_wp2_with (go_at_call 42; (with_reducible refine (kN4 _ L10.sr).mono ?_); rintro e w11 ⟨rfl, q1, rfl⟩; have L11 := L10.drewN q1; obtain ⟨⟨c0, c1, c2⟩, o1, o2⟩ := L11.sr.facts; obtain ⟨_, t0, t1, t2, t3, t4, t5, t6, t7, t8, t9⟩ := L11.rw_.facts; have L12 := L11.kind_ 1 (u := .int .i64 1) rfl; obtain ⟨⟨v0, v1, v2⟩, v3, v4⟩ := L12.sr.facts; have L13 := L12.at1)
        go_meet
        exact ⟨_, L13, fun _ => rfl⟩
      case false =>
        cases hq2 : (C == 103)
        case true =>
          have h5 := H5.out
          simp only [hq1, hq2, Bool.false_eq_true, if_false, if_true] at h5
          obtain ⟨rfl, rfl, rfl⟩ : 2 = K ∧ a4 + 1 = a5 ∧ false = n5 := by injection h5 with e1 e2; injection e2 with e3 e4; exact ⟨e1, e3, e4⟩
          clear h5 H5
          go_wp2_with (go_at_call 42; (with_reducible refine (kN4 _ L10.sr).mono ?_); rintro e w11 ⟨rfl, q1, rfl⟩; have L11 := L10.drewN q1; obtain ⟨⟨c0, c1, c2⟩, o1, o2⟩ := L11.sr.facts; obtain ⟨_, t0, t1, t2, t3, t4, t5, t6, t7, t8, t9⟩ := L11.rw_.facts; have L12 := L11.kind_ 2 (u := .int .i64 2) rfl; obtain ⟨⟨v0, v1, v2⟩, v3, v4⟩ := L12.sr.facts; have L13 := L12.at1)
          go_meet
          exact ⟨_, L13, fun _ => rfl⟩
        case false =>
          cases hq3 : (C == 115)
          case true =>
            have h5 := H5.out
            simp only [hq1, hq2, hq3, Bool.false_eq_true, if_false, if_true] at h5
            obtain ⟨rfl, rfl, rfl⟩ : 5 = K ∧ a4 + 1 = a5 ∧ false = n5 := by injection h5 with e1 e2; injection e2 with e3 e4; exact ⟨e1, e3, e4⟩
            clear h5 H5
            go_wp2_with (go_at_call 42; (with_reducible refine (kN4 _ L10.sr).mono ?_); rintro e w11 ⟨rfl, q1, rfl⟩; have L11 := L10.drewN q1; obtain ⟨⟨c0, c1, c2⟩, o1, o2⟩ := L11.sr.facts; obtain ⟨_, t0, t1, t2, t3, t4, t5, t6, t7, t8, t9⟩ := L11.rw_.facts; have L12 := L11.kind_ 5 (u := .int .i64 5) rfl; obtain ⟨⟨v0, v1, v2⟩, v3, v4⟩ := L12.sr.facts; have L13 := L12.at1)
            go_meet
            exact ⟨_, L13, fun _ => rfl⟩
          case false =>
            have h5 := H5.out
            simp only [hq1, hq2, hq3, Bool.false_eq_true, if_false] at h5
            obtain ⟨rfl, h5'⟩ : 4 = K ∧ wordS s.data.toList wMs a4 false = (a5, n5) := by injection h5 with e1 e2; exact ⟨e1, e2⟩
            have kM := fun W h => lit_any g s ⟨#[109, 115]⟩ a4 false a5 n5 W h hl4.2 hs (by decide) h5'
            clear h5 H5 h5'
            go_wp2_with (first
              | (go_at_call 42; (with_reducible refine (kN4 _ L10.sr).mono ?_); rintro e w11 ⟨rfl, q1, rfl⟩; have L11 := L10.drewN q1; obtain ⟨⟨c0, c1, c2⟩, o1, o2⟩ := L11.sr.facts; obtain ⟨_, t0, t1, t2, t3, t4, t5, t6, t7, t8, t9⟩ := L11.rw_.facts; have L12 := L11.kind_ 4 (u := .int .i64 4) rfl)
              | (go_at_call 41; (with_reducible refine (kM _ L12.sr).mono ?_); rintro e w13 ⟨rfl, h13, hA13⟩; have L13 := L12.scan h13 hA13))
            go_meet
            exact ⟨_, L13, fun _ => rfl⟩
  case rest =>
    obtain ⟨K', hY, hK⟩ := hcut
    have HK := Lib.hid hK
    clear L10 hK kN4 H5 y0 y1 y2 j1 j2 r0 r1 r2 r3 r4 r5 r6 r7 r8 r9
    have hqg : q ∉ [g] := by simp; omega
    obtain ⟨⟨c0, c1, c2⟩, f1, f2⟩ := hY.sr.facts
    have hR := HR.out
    cases n5
    case true =>
      simp only [isB_no, Bool.false_eq_true, if_false, wordS_no] at hR
      obtain ⟨_, rfl, rfl⟩ : True ∧ a5 = a' ∧ true = no' := by injection hR with e1 e2; injection e2 with e3 e4; exact ⟨trivial, e3, e4⟩
      have kF := fun W h => lit_any g s ⟨#[10]⟩ a5 true a5 true W h hl5.2 hs (by decide) (wordS_no _ _ _)
      clear hR HR HK kN5
      go_wp2_with (go_at_call 41; (with_reducible refine (kF _ hY.sr).mono ?_); rintro e wz ⟨rfl, hwz, hAwz⟩; have LZ := hY.scan hwz hAwz; obtain ⟨⟨d0, d1, d2, d3, d4, d5, d6, d7, d8, d9⟩, _⟩ := LZ.rw_.facts; obtain ⟨⟨e0, e1, e2, e3, e4, e5, e6, e7, e8, e9⟩, v0, v1, v2, v3, v4, v5, v6, v7, v8, v9⟩ := Rw.facts (Blk.aw hQ0 LZ.aw hqg))
      refine bodyPost_ret (v := .agg #[.int .i64 (K' : Int), .string V1, .int .i64 (a : Int), .slice none 0 0, .slice none 0 0, .string V5, .int .i64 (a2 : Int), .bool false, .string ⟨#[]⟩, .int .i64 ((0 : Nat) : Int)]) (by simp [results, Tryz.results24, go_sem, e0, e1, e2, e3, e4, e5, e6, e7, e8, e9]) rfl ⟨_, rfl, LZ.fin (tA := none) (tags := []) (tc := 0) hAw1 hQ0 (by omega) hg ?_ (fun e => by cases e)⟩
      exact Aw.ten' rfl rfl rfl rfl rfl rfl rfl rfl rfl rfl
    case false =>
      have hKK := HK.out rfl
      subst hKK
      clear HK
      rw [isB_nx (by decide)] at hR
      have hlt := nx_lt (p := a5) HL.out (show (124 : Int) ≠ 0 by decide)
      generalize bt s.data.toList a5 = C at kN5 hR hlt
      clear HR
      cases hq : (C == 124)
      case false =>
        simp only [hq, Bool.false_eq_true, if_false] at hR
        obtain ⟨hRow, hF⟩ : _ ∧ wordS s.data.toList [10] a5 false = (a', no') := by injection hR with e1 e2; exact ⟨e1, e2⟩
        have HRow := Lib.hid hRow
        have kF := fun W h => lit_any g s ⟨#[10]⟩ a5 false a' no' W h hl5.2 hs (by decide) hF
        clear hR hRow hF hlt
        go_wp2_with (first
          | (go_at_call 42; (with_reducible refine (kN5 _ hY.sr).mono ?_); rintro e wy ⟨rfl, q1, rfl⟩; have LY := hY.drewN q1; obtain ⟨⟨u0, u1, u2⟩, u3, u4⟩ := LY.sr.facts)
          | (go_at_call 41; (with_reducible refine (kF _ LY.sr).mono ?_); rintro e wz ⟨rfl, hwz, hAwz⟩; have LZ := LY.scan hwz hAwz; obtain ⟨⟨d0, d1, d2, d3, d4, d5, d6, d7, d8, d9⟩, _⟩ := LZ.rw_.facts; obtain ⟨⟨e0, e1, e2, e3, e4, e5, e6, e7, e8, e9⟩, v0, v1, v2, v3, v4, v5, v6, v7, v8, v9⟩ := Rw.facts (Blk.aw hQ0 LZ.aw hqg)))
        refine bodyPost_ret (v := .agg #[.int .i64 (K' : Int), .string V1, .int .i64 (a : Int), .slice none 0 0, .slice none 0 0, .string V5, .int .i64 (a2 : Int), .bool false, .string ⟨#[]⟩, .int .i64 ((0 : Nat) : Int)]) (by simp [results, Tryz.results24, go_sem, e0, e1, e2, e3, e4, e5, e6, e7, e8, e9]) rfl ⟨_, rfl, LZ.fin (tA := none) (tags := []) (tc := 0) hAw1 hQ0 (by omega) hg ?_ (fun _ => HRow.out)⟩
        exact Aw.ten' rfl rfl rfl rfl rfl rfl rfl rfl rfl rfl
      case true =>
        simp only [hq, if_true] at hR
        have hlt := hlt (by simpa using hq)
        obtain ⟨p1, hp1⟩ : ∃ p1, p1 = a5 + 1 := ⟨_, rfl⟩
        rw [show a5 + 2 = p1 + 1 by omega, ← hp1] at hR
        have hlt : p1 ≤ s.size := by omega
        have kN6 := fun W h => next_any g s p1 false W h hs2 hlt
        rw [isB_nx (by decide)] at hR
        have hlt2 := nx_lt (p := p1) HL.out (show (64 : Int) ≠ 0 by decide)
        generalize bt s.data.toList p1 = C2 at kN6 hR hlt2
        have HR := Lib.hid hR
        clear hR
        go_upto_region 23 with (first
          | (go_at_call 42; (with_reducible refine (kN5 _ hY.sr).mono ?_); rintro e wy ⟨rfl, q1, rfl⟩; have LY := hY.drewN q1; obtain ⟨⟨u0, u1, u2⟩, u3, u4⟩ := LY.sr.facts; have L6 := LY.at1))
        rw [← hp1] at L6
        clear hp1
        revert L6
        generalize World.setCell _ _ _ = W6
        intro L6
        clear LY u0 u1 u2 u3 u4 c0 c1 c2 f1 f2 hY kN5
        cases hq2 : (C2 == 64)
        case false =>
          have hR := HR.out
          simp only [hq2, Bool.false_eq_true, if_false] at hR
          clear HR hlt2
          obtain ⟨T, a7, n7, hM⟩ : ∃ T a7 n7, sMoreS s.data.toList (p1) = (T, a7, n7) := ⟨_, _, _, rfl⟩
          rw [hM] at hR
          simp only at hR
          obtain ⟨hRow, hF⟩ : _ ∧ wordS s.data.toList [10] a7 n7 = (a', no') := by injection hR with e1 e2; exact ⟨e1, e2⟩
          have HRow := Lib.hid hRow
          obtain ⟨hh, nh, hH⟩ : ∃ hh nh, wordS s.data.toList [35] (p1) false = (hh, nh) := ⟨_, _, rfl⟩
          unfold sMoreS at hM
          rw [hH] at hM
          have hlh := wordS_le s.data.toList [35] (p1) false (by rw [HL.out]; omega)
          rw [hH, HL.out] at hlh
          simp only at hlh hM
          have hl7 := sTagsGo_le (l := s.data.toList) (s.data.toList.length + 1) hh nh [] (by rw [HL.out]; exact hlh.2)
          rw [hM, HL.out] at hl7
          simp only at hl7
          have kH := fun W h => lit_any g s ⟨#[35]⟩ (p1) false hh nh W h (by omega) hs (by decide) hH
          have kT := fun W h => tags26_any g w1.heap.size s hh nh T a7 n7 K' V1 a V5 a2 false ⟨#[]⟩ (0 : Nat) w1 W h hlh.2 hs hM
          have kF := fun W h => lit_any g s ⟨#[10]⟩ a7 n7 a' no' W h hl7.2 hs (by decide) hF
          have HN : Hid (no' = false → n7 = false) := Lib.hid (fun e => by
            cases n7
            · rfl
            · rw [wordS_no] at hF; injection hF with _ e3; rw [← e3] at e; cases e)
          clear hR hRow hF hM hH
          go_wp2_with (first
            | (go_at_call 42; (with_reducible refine (kN6 _ L6.sr).mono ?_); rintro e wx ⟨rfl, q2, rfl⟩; have L7 := L6.drewN q2; obtain ⟨⟨u0, u1, u2⟩, u3, u4⟩ := L7.sr.facts)
            | (go_at_call 41; (with_reducible refine (kH _ L7.sr).mono ?_); rintro e wh ⟨rfl, hwh, hAwh⟩; have LH := L7.scan hwh hAwh)
            | (go_at_call 44; refine (kT _ LH).mono ?_; rintro e wt ⟨rfl, tv, tags, LT, hT⟩; obtain ⟨tA, tc, rfl⟩ := own_form LT.tg; have HT := Lib.hid hT; clear hT)
            | (go_at_call 41; (with_reducible refine (kF _ LT.sr).mono ?_); rintro e wz ⟨rfl, hwz, hAwz⟩; have LZ := LT.scan hwz hAwz; obtain ⟨⟨d0, d1, d2, d3, d4, d5, d6, d7, d8, d9⟩, _⟩ := LZ.rw_.facts; obtain ⟨⟨e0, e1, e2, e3, e4, e5, e6, e7, e8, e9⟩, v0, v1, v2, v3, v4, v5, v6, v7, v8, v9⟩ := Rw.facts (Blk.aw hQ0 LZ.aw hqg)))
          refine bodyPost_ret (v := .agg #[.int .i64 (K' : Int), .string V1, .int .i64 (a : Int), .slice tA tags.length tc, .slice none 0 0, .string V5, .int .i64 (a2 : Int), .bool false, .string ⟨#[]⟩, .int .i64 ((0 : Nat) : Int)]) (by simp [results, Tryz.results24, go_sem, e0, e1, e2, e3, e4, e5, e6, e7, e8, e9]) rfl ⟨_, rfl, LZ.fin  hAw1 hQ0 (by omega) hg ?_ (fun e => by rw [← HRow.out, HT.out (HN.out e)]; rfl)⟩
          exact Aw.ten' rfl rfl rfl rfl rfl rfl rfl rfl rfl rfl
        case true =>
          have hR := HR.out
          simp only [hq2, if_true] at hR
          have hlt2 := hlt2 (by simpa using hq2)
          clear HR
          obtain ⟨pd, hpd⟩ : ∃ pd, pd = p1 + 1 := ⟨_, rfl⟩
          rw [← hpd] at hR
          obtain ⟨a6, n6, h6⟩ : ∃ a6 n6, decS s.data.toList pd false = (a6, n6) := ⟨_, _, rfl⟩
          rw [h6] at hR
          dsimp only at hR
          have hl6 := decS_le s.data.toList pd false (by rw [HL.out]; omega)
          rw [h6, HL.out] at hl6
          simp only at hl6
          have hpl : pd ≤ s.size := by omega
          have kD := fun W h => number_dec g s pd false a6 n6 W h hpl hs h6
          generalize mkS (cutL s.data.toList pd a6) = VT at kD hR
          have kN7 := fun W h => next_any g s a6 n6 W h hs2 hl6.2
          have HR := Lib.hid hR
          clear hR h6
          obtain ⟨⟨c0, c1, c2⟩, f1, f2⟩ := L6.sr.facts
          go_upto_region 25 with (first
            | (go_at_call 42; (with_reducible refine (kN6 _ L6.sr).mono ?_); rintro e wx ⟨rfl, q2, rfl⟩; have L7 := L6.drewN q2; obtain ⟨⟨u0, u1, u2⟩, u3, u4⟩ := L7.sr.facts; have L8 := L7.at1))
          rw [← hpd] at L8
          clear hpd
          revert L8
          generalize World.setCell _ _ _ = W8
          intro L8
          clear L7 L6 u0 u1 u2 u3 u4 c0 c1 c2 f1 f2 kN6
          obtain ⟨⟨c0, c1, c2⟩, f1, f2⟩ := L8.sr.facts
          obtain ⟨_, r0, r1, r2, r3, r4, r5, r6, r7, r8, r9⟩ := L8.rw_.facts
          have L9 := (L8.timed_ true).when_ pd
          go_upto_region 27 with (go_at_call 43; (with_reducible refine (kD _ L9.sr).mono ?_); rintro e w14 ⟨rfl, h14, hA14⟩; have L14 := L9.scan h14 hA14; obtain ⟨_, t0, t1, t2, t3, t4, t5, t6, t7, t8, t9⟩ := L14.rw_.facts; have L15 := L14.time_ VT)
          revert L15
          generalize World.setCell _ _ _ = W15
          intro L15
          clear L14 L9 L8 h14 hA14 r0 r1 r2 r3 r4 r5 r6 r7 r8 r9 t0 t1 t2 t3 t4 t5 t6 t7 t8 t9 c0 c1 c2 f1 f2 kD
          obtain ⟨⟨c0, c1, c2⟩, f1, f2⟩ := L15.sr.facts
          have hR := HR.out
          cases n6
          case true =>
            simp only [isB_no, Bool.false_eq_true, if_false, wordS_no] at hR
            obtain ⟨_, rfl, rfl⟩ : True ∧ a6 = a' ∧ true = no' := by injection hR with e1 e2; injection e2 with e3 e4; exact ⟨trivial, e3, e4⟩
            have kF := fun W h => lit_any g s ⟨#[10]⟩ a6 true a6 true W h hl6.2 hs (by decide) (wordS_no _ _ _)
            clear hR HR kN7
            go_wp2_with (go_at_call 41; (with_reducible refine (kF _ L15.sr).mono ?_); rintro e wz ⟨rfl, hwz, hAwz⟩; have LZ := L15.scan hwz hAwz; obtain ⟨⟨d0, d1, d2, d3, d4, d5, d6, d7, d8, d9⟩, _⟩ := LZ.rw_.facts; obtain ⟨⟨e0, e1, e2, e3, e4, e5, e6, e7, e8, e9⟩, v0, v1, v2, v3, v4, v5, v6, v7, v8, v9⟩ := Rw.facts (Blk.aw hQ0 LZ.aw hqg))
            refine bodyPost_ret (v := .agg #[.int .i64 (K' : Int), .string V1, .int .i64 (a : Int), .slice none 0 0, .slice none 0 0, .string V5, .int .i64 (a2 : Int), .bool true, .string VT, .int .i64 (pd : Int)]) (by simp [results, Tryz.results24, go_sem, e0, e1, e2, e3, e4, e5, e6, e7, e8, e9]) rfl ⟨_, rfl, LZ.fin (tA := none) (tags := []) (tc := 0) hAw1 hQ0 (by omega) hg ?_ (fun e => by cases e)⟩
            exact Aw.ten' rfl rfl rfl rfl rfl rfl rfl rfl rfl rfl
          case false =>
            rw [isB_nx (by decide)] at hR
            have hlt3 := nx_lt (p := a6) HL.out (show (124 : Int) ≠ 0 by decide)
            generalize bt s.data.toList a6 = C3 at kN7 hR hlt3
            clear HR
            cases hq3 : (C3 == 124)
            case false =>
              simp only [hq3, Bool.false_eq_true, if_false] at hR
              obtain ⟨hRow, hF⟩ : _ ∧ wordS s.data.toList [10] a6 false = (a', no') := by injection hR with e1 e2; exact ⟨e1, e2⟩
              have HRow := Lib.hid hRow
              have kF := fun W h => lit_any g s ⟨#[10]⟩ a6 false a' no' W h hl6.2 hs (by decide) hF
              clear hR hRow hF hlt3
              go_wp2_with (first
                | (go_at_call 42; (with_reducible refine (kN7 _ L15.sr).mono ?_); rintro e wy ⟨rfl, q3, rfl⟩; have LY := L15.drewN q3; obtain ⟨⟨u0, u1, u2⟩, u3, u4⟩ := LY.sr.facts)
                | (go_at_call 41; (with_reducible refine (kF _ LY.sr).mono ?_); rintro e wz ⟨rfl, hwz, hAwz⟩; have LZ := LY.scan hwz hAwz; obtain ⟨⟨d0, d1, d2, d3, d4, d5, d6, d7, d8, d9⟩, _⟩ := LZ.rw_.facts; obtain ⟨⟨e0, e1, e2, e3, e4, e5, e6, e7, e8, e9⟩, v0, v1, v2, v3, v4, v5, v6, v7, v8, v9⟩ := Rw.facts (Blk.aw hQ0 LZ.aw hqg)))
              refine bodyPost_ret (v := .agg #[.int .i64 (K' : Int), .string V1, .int .i64 (a : Int), .slice none 0 0, .slice none 0 0, .string V5, .int .i64 (a2 : Int), .bool true, .string VT, .int .i64 (pd : Int)]) (by simp [results, Tryz.results24, go_sem, e0, e1, e2, e3, e4, e5, e6, e7, e8, e9]) rfl ⟨_, rfl, LZ.fin (tA := none) (tags := []) (tc := 0) hAw1 hQ0 (by omega) hg ?_ (fun _ => HRow.out)⟩
              exact Aw.ten' rfl rfl rfl rfl rfl rfl rfl rfl rfl rfl
            case true =>
              simp only [hq3, if_true] at hR
              have hlt3 := hlt3 (by simpa using hq3)
              obtain ⟨T, a7, n7, hM⟩ : ∃ T a7 n7, sMoreS s.data.toList (a6 + 1) = (T, a7, n7) := ⟨_, _, _, rfl⟩
              rw [hM] at hR
              simp only at hR
              obtain ⟨hRow, hF⟩ : _ ∧ wordS s.data.toList [10] a7 n7 = (a', no') := by injection hR with e1 e2; exact ⟨e1, e2⟩
              have HRow := Lib.hid hRow
              obtain ⟨hh, nh, hH⟩ : ∃ hh nh, wordS s.data.toList [35] (a6 + 1) false = (hh, nh) := ⟨_, _, rfl⟩
              unfold sMoreS at hM
              rw [hH] at hM
              have hlh := wordS_le s.data.toList [35] (a6 + 1) false (by rw [HL.out]; omega)
              rw [hH, HL.out] at hlh
              simp only at hlh hM
              have hl7 := sTagsGo_le (l := s.data.toList) (s.data.toList.length + 1) hh nh [] (by rw [HL.out]; exact hlh.2)
              rw [hM, HL.out] at hl7
              simp only at hl7
              have kH := fun W h => lit_any g s ⟨#[35]⟩ (a6 + 1) false hh nh W h (by omega) hs (by decide) hH
              have kT := fun W h => tags26_any g w1.heap.size s hh nh T a7 n7 K' V1 a V5 a2 true VT pd w1 W h hlh.2 hs hM
              have kF := fun W h => lit_any g s ⟨#[10]⟩ a7 n7 a' no' W h hl7.2 hs (by decide) hF
              have HN : Hid (no' = false → n7 = false) := Lib.hid (fun e => by
                cases n7
                · rfl
                · rw [wordS_no] at hF; injection hF with _ e3; rw [← e3] at e; cases e)
              clear hR hRow hF hM hH
              go_wp2_with (first
                | (go_at_call 42; (with_reducible refine (kN7 _ L15.sr).mono ?_); rintro e wy ⟨rfl, q3, rfl⟩; have L16 := L15.drewN q3; obtain ⟨⟨u0, u1, u2⟩, u3, u4⟩ := L16.sr.facts; have L17 := L16.at1)
                | (go_at_call 41; (with_reducible refine (kH _ L17.sr).mono ?_); rintro e wh ⟨rfl, hwh, hAwh⟩; have LH := L17.scan hwh hAwh)
                | (go_at_call 44; refine (kT _ LH).mono ?_; rintro e wt ⟨rfl, tv, tags, LT, hT⟩; obtain ⟨tA, tc, rfl⟩ := own_form LT.tg; have HT := Lib.hid hT; clear hT)
                | (go_at_call 41; (with_reducible refine (kF _ LT.sr).mono ?_); rintro e wz ⟨rfl, hwz, hAwz⟩; have LZ := LT.scan hwz hAwz; obtain ⟨⟨d0, d1, d2, d3, d4, d5, d6, d7, d8, d9⟩, _⟩ := LZ.rw_.facts; obtain ⟨⟨e0, e1, e2, e3, e4, e5, e6, e7, e8, e9⟩, v0, v1, v2, v3, v4, v5, v6, v7, v8, v9⟩ := Rw.facts (Blk.aw hQ0 LZ.aw hqg)))
              refine bodyPost_ret (v := .agg #[.int .i64 (K' : Int), .string V1, .int .i64 (a : Int), .slice tA tags.length tc, .slice none 0 0, .string V5, .int .i64 (a2 : Int), .bool true, .string VT, .int .i64 (pd : Int)]) (by simp [results, Tryz.results24, go_sem, e0, e1, e2, e3, e4, e5, e6, e7, e8, e9]) rfl ⟨_, rfl, LZ.fin  hAw1 hQ0 (by omega) hg ?_ (fun e => by rw [← HRow.out, HT.out (HN.out e)])⟩
              exact Aw.ten' rfl rfl rfl rfl rfl rfl rfl rfl rfl rfl
end Go.Proofs.YtpknjngjkdnpiaaGreatDoor
