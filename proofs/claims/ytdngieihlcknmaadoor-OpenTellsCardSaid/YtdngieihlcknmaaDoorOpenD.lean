/- The walks of package openword: what is told of a family. -/
import Derived.Test.YtdngieihlcknmaaDoorOpenC
namespace Go.Proofs.YtdngieihlcknmaaDoor
set_option linter.unusedVariables false
set_option linter.unusedSimpArgs false
open Go.RowKit
set_option maxRecDepth 100000 in
set_option maxHeartbeats 6400000 in
theorem told1_any (wd : ByteArray) (word : List UInt8) (hwd : (wd ++ (⟨#[32]⟩ : ByteArray)).data.toList = word) (hws : wd.size ≤ 100) (r g : Nat) (rv : Value) (s : ByteArray) (a : Nat) (no : Bool) (R : MRow) (a' : Nat) (no' : Bool) (base n : Nat) (xs : List Value) (w : World) (h : LR w w r g rv s a no) (hown : w.ownsRow base 42 10 rv n xs) (hb : base ≤ w.heap.size) (hn : n ≤ 1048577) (ha : a ≤ s.size) (hs : s.size ≤ 1048576) (hR : otoldS s.data.toList 1 word a no = (R, a', no')) :
    Calls Tryd.prog 45 #[.pointer (some ⟨r, 0, none⟩), .int .i64 1, .string wd] w fun e w' => e = .returned (.tuple #[]) ∧ OneRow w r g rv s base n xs R a' no' w' := by
  have hL : s.data.toList.length = s.size := by simp
  have hs2 : s.size ≤ 4611686018427387904 := Nat.le_trans hs (by decide)
  have hr := Blk.lt h.rd
  have hg := Blk.lt h.sc
  have hts : (wd ++ (⟨#[32]⟩ : ByteArray)).size ≤ 4611686018427387904 := by
    have : (⟨#[32]⟩ : ByteArray).size = 1 := rfl
    rw [ByteArray.size_append]; omega
  obtain ⟨b, n1, h1⟩ : ∃ b n1, wordS s.data.toList word a no = (b, n1) := ⟨_, _, rfl⟩
  obtain ⟨a2, n2, h2⟩ : ∃ a2 n2, nmS s.data.toList owName b n1 = (a2, n2) := ⟨_, _, rfl⟩
  obtain ⟨a3, n3, h3⟩ : ∃ a3 n3, wordS s.data.toList [32] a2 n2 = (a3, n3) := ⟨_, _, rfl⟩
  obtain ⟨V, a4, n4, h4⟩ : ∃ V a4 n4, otextS s.data.toList 1 a3 n3 = (V, a4, n4) := ⟨_, _, _, rfl⟩
  obtain ⟨a5, n5, h5⟩ : ∃ a5 n5, wordS s.data.toList [10] a4 n4 = (a5, n5) := ⟨_, _, rfl⟩
  have hl1 := wordS_le s.data.toList word a no (by rw [hL]; exact ha)
  rw [h1, hL] at hl1
  have hl2 := nmS_le (l := s.data.toList) owName n1 (by rw [hL]; exact hl1.2)
  rw [h2, hL] at hl2
  have hl3 := wordS_le s.data.toList [32] a2 n2 (by rw [hL]; exact hl2.2)
  rw [h3, hL] at hl3
  have hl4 := otextS_le (l := s.data.toList) (kind := 1) n3 (by rw [hL]; exact hl3.2)
  rw [h4, hL] at hl4
  simp only at hl1 hl2 hl3 hl4
  unfold otoldS at hR
  simp only [h1, h2, h3, h4, h5] at hR
  have kA := fun W a no h => at_any g s a no W h
  have kB := fun W h => word_any g s (wd ++ (⟨#[32]⟩ : ByteArray)) a no b n1 W h ha hs2 hts (by rw [hwd]; exact h1)
  have kN := fun W h => name_oname r g rv s b n1 a2 n2 W h hl1.2 hs h2
  have kW := fun W h => word_any g s ⟨#[32]⟩ a2 n2 a3 n3 W h hl2.2 hs2 (by decide) h3
  have kF := fun W h => word_any g s ⟨#[10]⟩ a4 n4 a5 n5 W h hl4.2 hs2 (by decide) h5
  unfold otextS at h4
  rw [if_pos rfl] at h4
  obtain ⟨v1, v2⟩ : cutL s.data.toList a3 (someS s.data.toList smB a3 n3).1 = V ∧ someS s.data.toList smB a3 n3 = (a4, n4) := by
    injection h4 with e1 e2; exact ⟨e1, e2⟩
  have kI := fun W h => some_osmall g s a3 n3 a4 n4 W h hl3.2 hs2 v2
  rw [ext_cut] at kI
  rw [v2] at v1
  rw [← v1] at hR
  simp only at hR
  generalize mkS (cutL s.data.toList a3 a4) = V5 at kI hR
  generalize mkS (cutL s.data.toList b a2) = V1 at kN hR
  obtain ⟨rfl, rfl, rfl⟩ : (⟨1, V1, b, [], [], V5, a3, false, mkS [], 0⟩ : MRow) = R ∧ a5 = a' ∧ n5 = no' := by
    injection hR with e1 e2; injection e2 with e3 e4; exact ⟨e1, e3, e4⟩
  obtain ⟨i2, hi2, jz0, jz1, jz2⟩ := info_parts Tryd.infoRow
  have hur : Tryd.prog.underlying 23 = some (.slice 42) := by kernel_rfl
  have x0 := h.facts
  clear h1 h2 h3 h4 h5 hL hR hwd
  go_enter Tryd.func45, Tryd.ntmps45
  go_upto_region 12 with (first
    | (go_at_call 32; (with_reducible refine (kB _ h.sc).mono ?_); rintro e w1 ⟨rfl, h1, hA1⟩; have L1 := h.scan hA1 h1 (by simp); have x1 := L1.facts; have L2 : LX w (w1.alloc (.cells #[.int .i64 1, .string ⟨#[]⟩, .int .i64 (b : Int), .slice none 0 0, .slice none 0 0, .string ⟨#[]⟩, .int .i64 0, .bool false, .string ⟨#[]⟩, .int .i64 0] 42)) r g w1.heap.size rv s b n1 1 ⟨#[]⟩ b (.slice none 0 0) [] ⟨#[]⟩ 0 false ⟨#[]⟩ 0 := ⟨L1.alloc _, (by have := Blk.new w1 42 #[.int .i64 1, .string ⟨#[]⟩, .int .i64 (b : Int), .slice none 0 0, .slice none 0 0, .string ⟨#[]⟩, .int .i64 0, .bool false, .string ⟨#[]⟩, .int .i64 0]; simpa [Rw] using this), World.ownsRow_nil _ _ _ _, hr, hg, L1.aw.size⟩; have x2 := L2.facts)
    | (go_at_call 25; (with_reducible refine (kA _ b n1 L1.sc).mono ?_); rintro e w2 ⟨rfl, rfl⟩)
    | (go_at_call 59; (with_reducible refine (kN _ L2.lr.self).mono ?_); rintro e w3 ⟨rfl, h3⟩; have L3 := L2.call h3; have x3 := L3.facts; obtain ⟨_, _, f2, _⟩ := L3.rw_.facts; have L4 := L3.name V1; have x4 := L4.facts)
    | (go_at_call 32; (with_reducible refine (kW _ L4.lr.sc).mono ?_); rintro e w6 ⟨rfl, h6, hA6⟩; have L6 := L4.scan hA6 h6 (by simp); have x6 := L6.facts; obtain ⟨_, _, _, _, _, _, _, f6, _⟩ := L6.rw_.facts; have L7 := L6.pos_ a3; have x7 := L7.facts)
    | (go_at_call 25; (with_reducible refine (kA _ a3 n3 L6.lr.sc).mono ?_); rintro e w7 ⟨rfl, rfl⟩)
    | (go_at_call 63; (with_reducible refine (kI _ L7.lr.sc).mono ?_); rintro e w8 ⟨rfl, h8, hA8⟩; have L8 := L7.scan hA8 h8 (by simp); have x8 := L8.facts; obtain ⟨_, _, _, _, _, _, f8, _⟩ := L8.rw_.facts; have L9 := L8.text_ V5; have x9 := L9.facts)
    | (go_at_call 32; (with_reducible refine (kF _ L9.lr.sc).mono ?_); rintro e w15 ⟨rfl, h15, hA15⟩; have L15 := L9.scan hA15 h15 (by simp); have x15 := L15.facts))
  obtain ⟨X, hX⟩ : ∃ X : VRow, X = rowOf 1 V1 b none [] 0 V5 a3 false ⟨#[]⟩ 0 := ⟨_, rfl⟩
  have hown5 : w15.drew.ownsRow base 42 10 rv n xs := own_aw hown L15.lr.aw.drew (fun k hk e => by
    rw [List.mem_singleton] at e
    subst e; exact own_blk_ne hown h.sc (by decide) hk)
  obtain ⟨_, y2, y3⟩ := L15.lr.rd.facts
  obtain ⟨⟨q0, q1, q2, q3, q4, q5, q6, q7, q8, q9⟩, _⟩ := L15.rw_.facts
  obtain ⟨m0, m1, m2⟩ := Rd.facts (Blk.alloc L15.lr.rd (.cells #[.int .i64 1, .string V1, .int .i64 (b : Int), .slice none 0 0, .slice none 0 0, .string V5, .int .i64 (a3 : Int), .bool false, .string ⟨#[]⟩, .int .i64 0] 42))
  go_region_law (refine step_append_lies _ (by rfl) _ _ _ (by rfl) base 42 i2 _ 10 136 hur hi2 jz0 jz1 jz2 rfl (by omega) rv n xs (by rfl) (hown5.alloc _) ⟨w15.heap.size, 0, none⟩ 1 1 (rowCell X) (by rfl) (by rfl) (by rw [hX]; exact World.news_of_block (heap_alloc_new w15.drew _)) (by rw [hX]; simp [rowCell, rowOf, Value.oneCell']) (by omega) (by simp [maxLen]; omega) (by omega) (by have := L15.lr.aw.size; simp; omega) (w15.heap.size + 1) (by simp) ?_; intro gg capg w18 hown18 hgrow hat18 hlt18; rw [hX] at hown18; have hfin := line_end (tags := []) (rv' := .slice (some ⟨gg, 0, none⟩) (n + 1) capg) L15.drew hown5 hb (((Aw.refl _ _).alloc _).grown hgrow (fun k hk => .inl (by simpa using hk))) hown18; obtain ⟨g0, g1, g2⟩ := Rd.facts (Blk.grown (w := _) (Blk.alloc L15.drew.lr.rd _) hgrow (fun e => own_blk_ne hown5 L15.drew.lr.rd (by decide) e.symm)))
  all_goals
    go_wp2_with fail
    go_end0
    exact ⟨rfl, _, _, rfl, hfin⟩
set_option maxRecDepth 100000 in
set_option maxHeartbeats 6400000 in
theorem told2_any (wd : ByteArray) (word : List UInt8) (hwd : (wd ++ (⟨#[32]⟩ : ByteArray)).data.toList = word) (hws : wd.size ≤ 100) (r g : Nat) (rv : Value) (s : ByteArray) (a : Nat) (no : Bool) (R : MRow) (a' : Nat) (no' : Bool) (base n : Nat) (xs : List Value) (w : World) (h : LR w w r g rv s a no) (hown : w.ownsRow base 42 10 rv n xs) (hb : base ≤ w.heap.size) (hn : n ≤ 1048577) (ha : a ≤ s.size) (hs : s.size ≤ 1048576) (hR : otoldS s.data.toList 2 word a no = (R, a', no')) :
    Calls Tryd.prog 45 #[.pointer (some ⟨r, 0, none⟩), .int .i64 2, .string wd] w fun e w' => e = .returned (.tuple #[]) ∧ OneRow w r g rv s base n xs R a' no' w' := by
  have hL : s.data.toList.length = s.size := by simp
  have hs2 : s.size ≤ 4611686018427387904 := Nat.le_trans hs (by decide)
  have hr := Blk.lt h.rd
  have hg := Blk.lt h.sc
  have hts : (wd ++ (⟨#[32]⟩ : ByteArray)).size ≤ 4611686018427387904 := by
    have : (⟨#[32]⟩ : ByteArray).size = 1 := rfl
    rw [ByteArray.size_append]; omega
  obtain ⟨b, n1, h1⟩ : ∃ b n1, wordS s.data.toList word a no = (b, n1) := ⟨_, _, rfl⟩
  obtain ⟨a2, n2, h2⟩ : ∃ a2 n2, nmS s.data.toList owName b n1 = (a2, n2) := ⟨_, _, rfl⟩
  obtain ⟨a3, n3, h3⟩ : ∃ a3 n3, wordS s.data.toList [32] a2 n2 = (a3, n3) := ⟨_, _, rfl⟩
  obtain ⟨V, a4, n4, h4⟩ : ∃ V a4 n4, otextS s.data.toList 2 a3 n3 = (V, a4, n4) := ⟨_, _, _, rfl⟩
  obtain ⟨a5, n5, h5⟩ : ∃ a5 n5, wordS s.data.toList [10] a4 n4 = (a5, n5) := ⟨_, _, rfl⟩
  have hl1 := wordS_le s.data.toList word a no (by rw [hL]; exact ha)
  rw [h1, hL] at hl1
  have hl2 := nmS_le (l := s.data.toList) owName n1 (by rw [hL]; exact hl1.2)
  rw [h2, hL] at hl2
  have hl3 := wordS_le s.data.toList [32] a2 n2 (by rw [hL]; exact hl2.2)
  rw [h3, hL] at hl3
  have hl4 := otextS_le (l := s.data.toList) (kind := 2) n3 (by rw [hL]; exact hl3.2)
  rw [h4, hL] at hl4
  simp only at hl1 hl2 hl3 hl4
  unfold otoldS at hR
  simp only [h1, h2, h3, h4, h5] at hR
  have kA := fun W a no h => at_any g s a no W h
  have kB := fun W h => word_any g s (wd ++ (⟨#[32]⟩ : ByteArray)) a no b n1 W h ha hs2 hts (by rw [hwd]; exact h1)
  have kN := fun W h => name_oname r g rv s b n1 a2 n2 W h hl1.2 hs h2
  have kW := fun W h => word_any g s ⟨#[32]⟩ a2 n2 a3 n3 W h hl2.2 hs2 (by decide) h3
  have kF := fun W h => word_any g s ⟨#[10]⟩ a4 n4 a5 n5 W h hl4.2 hs2 (by decide) h5
  unfold otextS at h4
  rw [if_neg (by decide), if_pos rfl] at h4
  obtain ⟨v1, v2⟩ : cutL s.data.toList a3 (someS s.data.toList owName a3 n3).1 = V ∧ someS s.data.toList owName a3 n3 = (a4, n4) := by
    injection h4 with e1 e2; exact ⟨e1, e2⟩
  have kI := fun W h => some_oname g s a3 n3 a4 n4 W h hl3.2 hs2 v2
  rw [ext_cut] at kI
  rw [v2] at v1
  rw [← v1] at hR
  simp only at hR
  generalize mkS (cutL s.data.toList a3 a4) = V5 at kI hR
  generalize mkS (cutL s.data.toList b a2) = V1 at kN hR
  obtain ⟨rfl, rfl, rfl⟩ : (⟨2, V1, b, [], [], V5, a3, false, mkS [], 0⟩ : MRow) = R ∧ a5 = a' ∧ n5 = no' := by
    injection hR with e1 e2; injection e2 with e3 e4; exact ⟨e1, e3, e4⟩
  obtain ⟨i2, hi2, jz0, jz1, jz2⟩ := info_parts Tryd.infoRow
  have hur : Tryd.prog.underlying 23 = some (.slice 42) := by kernel_rfl
  have x0 := h.facts
  clear h1 h2 h3 h4 h5 hL hR hwd
  go_enter Tryd.func45, Tryd.ntmps45
  go_upto_region 12 with (first
    | (go_at_call 32; (with_reducible refine (kB _ h.sc).mono ?_); rintro e w1 ⟨rfl, h1, hA1⟩; have L1 := h.scan hA1 h1 (by simp); have x1 := L1.facts; have L2 : LX w (w1.alloc (.cells #[.int .i64 2, .string ⟨#[]⟩, .int .i64 (b : Int), .slice none 0 0, .slice none 0 0, .string ⟨#[]⟩, .int .i64 0, .bool false, .string ⟨#[]⟩, .int .i64 0] 42)) r g w1.heap.size rv s b n1 2 ⟨#[]⟩ b (.slice none 0 0) [] ⟨#[]⟩ 0 false ⟨#[]⟩ 0 := ⟨L1.alloc _, (by have := Blk.new w1 42 #[.int .i64 2, .string ⟨#[]⟩, .int .i64 (b : Int), .slice none 0 0, .slice none 0 0, .string ⟨#[]⟩, .int .i64 0, .bool false, .string ⟨#[]⟩, .int .i64 0]; simpa [Rw] using this), World.ownsRow_nil _ _ _ _, hr, hg, L1.aw.size⟩; have x2 := L2.facts)
    | (go_at_call 25; (with_reducible refine (kA _ b n1 L1.sc).mono ?_); rintro e w2 ⟨rfl, rfl⟩)
    | (go_at_call 59; (with_reducible refine (kN _ L2.lr.self).mono ?_); rintro e w3 ⟨rfl, h3⟩; have L3 := L2.call h3; have x3 := L3.facts; obtain ⟨_, _, f2, _⟩ := L3.rw_.facts; have L4 := L3.name V1; have x4 := L4.facts)
    | (go_at_call 32; (with_reducible refine (kW _ L4.lr.sc).mono ?_); rintro e w6 ⟨rfl, h6, hA6⟩; have L6 := L4.scan hA6 h6 (by simp); have x6 := L6.facts; obtain ⟨_, _, _, _, _, _, _, f6, _⟩ := L6.rw_.facts; have L7 := L6.pos_ a3; have x7 := L7.facts)
    | (go_at_call 25; (with_reducible refine (kA _ a3 n3 L6.lr.sc).mono ?_); rintro e w7 ⟨rfl, rfl⟩)
    | (go_at_call 63; (with_reducible refine (kI _ L7.lr.sc).mono ?_); rintro e w8 ⟨rfl, h8, hA8⟩; have L8 := L7.scan hA8 h8 (by simp); have x8 := L8.facts; obtain ⟨_, _, _, _, _, _, f8, _⟩ := L8.rw_.facts; have L9 := L8.text_ V5; have x9 := L9.facts)
    | (go_at_call 32; (with_reducible refine (kF _ L9.lr.sc).mono ?_); rintro e w15 ⟨rfl, h15, hA15⟩; have L15 := L9.scan hA15 h15 (by simp); have x15 := L15.facts))
  obtain ⟨X, hX⟩ : ∃ X : VRow, X = rowOf 2 V1 b none [] 0 V5 a3 false ⟨#[]⟩ 0 := ⟨_, rfl⟩
  have hown5 : w15.drew.ownsRow base 42 10 rv n xs := own_aw hown L15.lr.aw.drew (fun k hk e => by
    rw [List.mem_singleton] at e
    subst e; exact own_blk_ne hown h.sc (by decide) hk)
  obtain ⟨_, y2, y3⟩ := L15.lr.rd.facts
  obtain ⟨⟨q0, q1, q2, q3, q4, q5, q6, q7, q8, q9⟩, _⟩ := L15.rw_.facts
  obtain ⟨m0, m1, m2⟩ := Rd.facts (Blk.alloc L15.lr.rd (.cells #[.int .i64 2, .string V1, .int .i64 (b : Int), .slice none 0 0, .slice none 0 0, .string V5, .int .i64 (a3 : Int), .bool false, .string ⟨#[]⟩, .int .i64 0] 42))
  go_region_law (refine step_append_lies _ (by rfl) _ _ _ (by rfl) base 42 i2 _ 10 136 hur hi2 jz0 jz1 jz2 rfl (by omega) rv n xs (by rfl) (hown5.alloc _) ⟨w15.heap.size, 0, none⟩ 1 1 (rowCell X) (by rfl) (by rfl) (by rw [hX]; exact World.news_of_block (heap_alloc_new w15.drew _)) (by rw [hX]; simp [rowCell, rowOf, Value.oneCell']) (by omega) (by simp [maxLen]; omega) (by omega) (by have := L15.lr.aw.size; simp; omega) (w15.heap.size + 1) (by simp) ?_; intro gg capg w18 hown18 hgrow hat18 hlt18; rw [hX] at hown18; have hfin := line_end (tags := []) (rv' := .slice (some ⟨gg, 0, none⟩) (n + 1) capg) L15.drew hown5 hb (((Aw.refl _ _).alloc _).grown hgrow (fun k hk => .inl (by simpa using hk))) hown18; obtain ⟨g0, g1, g2⟩ := Rd.facts (Blk.grown (w := _) (Blk.alloc L15.drew.lr.rd _) hgrow (fun e => own_blk_ne hown5 L15.drew.lr.rd (by decide) e.symm)))
  all_goals
    go_wp2_with fail
    go_end0
    exact ⟨rfl, _, _, rfl, hfin⟩
set_option maxRecDepth 100000 in
set_option maxHeartbeats 6400000 in
theorem told3_any (wd : ByteArray) (word : List UInt8) (hwd : (wd ++ (⟨#[32]⟩ : ByteArray)).data.toList = word) (hws : wd.size ≤ 100) (r g : Nat) (rv : Value) (s : ByteArray) (a : Nat) (no : Bool) (R : MRow) (a' : Nat) (no' : Bool) (base n : Nat) (xs : List Value) (w : World) (h : LR w w r g rv s a no) (hown : w.ownsRow base 42 10 rv n xs) (hb : base ≤ w.heap.size) (hn : n ≤ 1048577) (ha : a ≤ s.size) (hs : s.size ≤ 1048576) (hR : otoldS s.data.toList 3 word a no = (R, a', no')) :
    Calls Tryd.prog 45 #[.pointer (some ⟨r, 0, none⟩), .int .i64 3, .string wd] w fun e w' => e = .returned (.tuple #[]) ∧ OneRow w r g rv s base n xs R a' no' w' := by
  have hL : s.data.toList.length = s.size := by simp
  have hs2 : s.size ≤ 4611686018427387904 := Nat.le_trans hs (by decide)
  have hr := Blk.lt h.rd
  have hg := Blk.lt h.sc
  have hts : (wd ++ (⟨#[32]⟩ : ByteArray)).size ≤ 4611686018427387904 := by
    have : (⟨#[32]⟩ : ByteArray).size = 1 := rfl
    rw [ByteArray.size_append]; omega
  obtain ⟨b, n1, h1⟩ : ∃ b n1, wordS s.data.toList word a no = (b, n1) := ⟨_, _, rfl⟩
  obtain ⟨a2, n2, h2⟩ : ∃ a2 n2, nmS s.data.toList owName b n1 = (a2, n2) := ⟨_, _, rfl⟩
  obtain ⟨a3, n3, h3⟩ : ∃ a3 n3, wordS s.data.toList [32] a2 n2 = (a3, n3) := ⟨_, _, rfl⟩
  obtain ⟨V, a4, n4, h4⟩ : ∃ V a4 n4, otextS s.data.toList 3 a3 n3 = (V, a4, n4) := ⟨_, _, _, rfl⟩
  obtain ⟨a5, n5, h5⟩ : ∃ a5 n5, wordS s.data.toList [10] a4 n4 = (a5, n5) := ⟨_, _, rfl⟩
  have hl1 := wordS_le s.data.toList word a no (by rw [hL]; exact ha)
  rw [h1, hL] at hl1
  have hl2 := nmS_le (l := s.data.toList) owName n1 (by rw [hL]; exact hl1.2)
  rw [h2, hL] at hl2
  have hl3 := wordS_le s.data.toList [32] a2 n2 (by rw [hL]; exact hl2.2)
  rw [h3, hL] at hl3
  have hl4 := otextS_le (l := s.data.toList) (kind := 3) n3 (by rw [hL]; exact hl3.2)
  rw [h4, hL] at hl4
  simp only at hl1 hl2 hl3 hl4
  unfold otoldS at hR
  simp only [h1, h2, h3, h4, h5] at hR
  have kA := fun W a no h => at_any g s a no W h
  have kB := fun W h => word_any g s (wd ++ (⟨#[32]⟩ : ByteArray)) a no b n1 W h ha hs2 hts (by rw [hwd]; exact h1)
  have kN := fun W h => name_oname r g rv s b n1 a2 n2 W h hl1.2 hs h2
  have kW := fun W h => word_any g s ⟨#[32]⟩ a2 n2 a3 n3 W h hl2.2 hs2 (by decide) h3
  have kF := fun W h => word_any g s ⟨#[10]⟩ a4 n4 a5 n5 W h hl4.2 hs2 (by decide) h5
  unfold otextS at h4
  rw [if_neg (by decide), if_neg (by decide)] at h4
  obtain ⟨VV, h6⟩ : ∃ VV, ink s.data.toList 10 inH 110 a3 n3 = (VV, a4, n4) := by
    injection h4 with e1 e2
    exact ⟨_, by rw [← e2]⟩
  have hV : mkS V = if n4 then ⟨#[]⟩ else mkS VV := by
    injection h4 with e1 e2
    rw [← e1]; unfold inkV; rw [h6]; cases n4 <;> rfl
  have kI := fun W h => inked_any g s ⟨#[92, 110]⟩ 10 a3 n3 VV a4 n4 W h hl3.2 hs h6
  rw [← hV] at kI
  generalize mkS V = V5 at kI hR
  generalize mkS (cutL s.data.toList b a2) = V1 at kN hR
  obtain ⟨rfl, rfl, rfl⟩ : (⟨3, V1, b, [], [], V5, a3, false, mkS [], 0⟩ : MRow) = R ∧ a5 = a' ∧ n5 = no' := by
    injection hR with e1 e2; injection e2 with e3 e4; exact ⟨e1, e3, e4⟩
  obtain ⟨i2, hi2, jz0, jz1, jz2⟩ := info_parts Tryd.infoRow
  have hur : Tryd.prog.underlying 23 = some (.slice 42) := by kernel_rfl
  have x0 := h.facts
  clear h1 h2 h3 h4 h5 hL hR hwd
  go_enter Tryd.func45, Tryd.ntmps45
  go_upto_region 12 with (first
    | (go_at_call 32; (with_reducible refine (kB _ h.sc).mono ?_); rintro e w1 ⟨rfl, h1, hA1⟩; have L1 := h.scan hA1 h1 (by simp); have x1 := L1.facts; have L2 : LX w (w1.alloc (.cells #[.int .i64 3, .string ⟨#[]⟩, .int .i64 (b : Int), .slice none 0 0, .slice none 0 0, .string ⟨#[]⟩, .int .i64 0, .bool false, .string ⟨#[]⟩, .int .i64 0] 42)) r g w1.heap.size rv s b n1 3 ⟨#[]⟩ b (.slice none 0 0) [] ⟨#[]⟩ 0 false ⟨#[]⟩ 0 := ⟨L1.alloc _, (by have := Blk.new w1 42 #[.int .i64 3, .string ⟨#[]⟩, .int .i64 (b : Int), .slice none 0 0, .slice none 0 0, .string ⟨#[]⟩, .int .i64 0, .bool false, .string ⟨#[]⟩, .int .i64 0]; simpa [Rw] using this), World.ownsRow_nil _ _ _ _, hr, hg, L1.aw.size⟩; have x2 := L2.facts)
    | (go_at_call 25; (with_reducible refine (kA _ b n1 L1.sc).mono ?_); rintro e w2 ⟨rfl, rfl⟩)
    | (go_at_call 59; (with_reducible refine (kN _ L2.lr.self).mono ?_); rintro e w3 ⟨rfl, h3⟩; have L3 := L2.call h3; have x3 := L3.facts; obtain ⟨_, _, f2, _⟩ := L3.rw_.facts; have L4 := L3.name V1; have x4 := L4.facts)
    | (go_at_call 32; (with_reducible refine (kW _ L4.lr.sc).mono ?_); rintro e w6 ⟨rfl, h6, hA6⟩; have L6 := L4.scan hA6 h6 (by simp); have x6 := L6.facts; obtain ⟨_, _, _, _, _, _, _, f6, _⟩ := L6.rw_.facts; have L7 := L6.pos_ a3; have x7 := L7.facts)
    | (go_at_call 25; (with_reducible refine (kA _ a3 n3 L6.lr.sc).mono ?_); rintro e w7 ⟨rfl, rfl⟩)
    | (go_at_call 65; (with_reducible refine (kI _ L7.lr.sc).mono ?_); rintro e w8 ⟨rfl, h8, hA8⟩; have L8 := L7.scan hA8 h8 (by simp); have x8 := L8.facts; obtain ⟨_, _, _, _, _, _, f8, _⟩ := L8.rw_.facts; have L9 := L8.text_ V5; have x9 := L9.facts)
    | (go_at_call 32; (with_reducible refine (kF _ L9.lr.sc).mono ?_); rintro e w15 ⟨rfl, h15, hA15⟩; have L15 := L9.scan hA15 h15 (by simp); have x15 := L15.facts))
  obtain ⟨X, hX⟩ : ∃ X : VRow, X = rowOf 3 V1 b none [] 0 V5 a3 false ⟨#[]⟩ 0 := ⟨_, rfl⟩
  have hown5 : w15.drew.ownsRow base 42 10 rv n xs := own_aw hown L15.lr.aw.drew (fun k hk e => by
    rw [List.mem_singleton] at e
    subst e; exact own_blk_ne hown h.sc (by decide) hk)
  obtain ⟨_, y2, y3⟩ := L15.lr.rd.facts
  obtain ⟨⟨q0, q1, q2, q3, q4, q5, q6, q7, q8, q9⟩, _⟩ := L15.rw_.facts
  obtain ⟨m0, m1, m2⟩ := Rd.facts (Blk.alloc L15.lr.rd (.cells #[.int .i64 3, .string V1, .int .i64 (b : Int), .slice none 0 0, .slice none 0 0, .string V5, .int .i64 (a3 : Int), .bool false, .string ⟨#[]⟩, .int .i64 0] 42))
  go_region_law (refine step_append_lies _ (by rfl) _ _ _ (by rfl) base 42 i2 _ 10 136 hur hi2 jz0 jz1 jz2 rfl (by omega) rv n xs (by rfl) (hown5.alloc _) ⟨w15.heap.size, 0, none⟩ 1 1 (rowCell X) (by rfl) (by rfl) (by rw [hX]; exact World.news_of_block (heap_alloc_new w15.drew _)) (by rw [hX]; simp [rowCell, rowOf, Value.oneCell']) (by omega) (by simp [maxLen]; omega) (by omega) (by have := L15.lr.aw.size; simp; omega) (w15.heap.size + 1) (by simp) ?_; intro gg capg w18 hown18 hgrow hat18 hlt18; rw [hX] at hown18; have hfin := line_end (tags := []) (rv' := .slice (some ⟨gg, 0, none⟩) (n + 1) capg) L15.drew hown5 hb (((Aw.refl _ _).alloc _).grown hgrow (fun k hk => .inl (by simpa using hk))) hown18; obtain ⟨g0, g1, g2⟩ := Rd.facts (Blk.grown (w := _) (Blk.alloc L15.drew.lr.rd _) hgrow (fun e => own_blk_ne hown5 L15.drew.lr.rd (by decide) e.symm)))
  all_goals
    go_wp2_with fail
    go_end0
    exact ⟨rfl, _, _, rfl, hfin⟩
end Go.Proofs.YtdngieihlcknmaaDoor
