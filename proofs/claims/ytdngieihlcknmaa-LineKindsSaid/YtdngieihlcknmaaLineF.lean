/- The walk of package lineword: a line, walked. -/
import Derived.Test.YtdngieihlcknmaaLineE
namespace Go.Proofs.Ytdngieihlcknmaa
set_option linter.unusedVariables false
set_option linter.unusedSimpArgs false
open Go.RowKit
attribute [local go_sem ↓] Go.wp_at_zero Go.wp_at_succ
theorem own_more {w : World} {base base' : Nat} {e : TypeId} {size n : Nat} {v : Value} {xs : List Value} (h : w.ownsRow base e size v n xs) (hb : base' ≤ base) : w.ownsRow base' e size v n xs := by
  obtain ⟨hl, h | ⟨g, cap, cur, hv, hg, r⟩⟩ := h
  · exact ⟨hl, .inl h⟩
  · exact ⟨hl, .inr ⟨g, cap, cur, hv, by omega, r⟩⟩
/-- A row whose tags, fields are the call's own. -/
def OwnV (w : World) (base : Nat) (x : VRow) : Prop :=
  w.ownsRow base 46 4 (.slice x.tA x.row.tags.length x.tc) x.row.tags.length (x.row.tags.flatMap tagCell) ∧ w.ownsRow base 48 5 (.slice x.fA x.row.fields.length x.fc) x.row.fields.length (x.row.fields.flatMap fieldCell)
theorem own_form {w : World} {base : Nat} {e : TypeId} {size n : Nat} {v : Value} {xs : List Value} (h : w.ownsRow base e size v n xs) : ∃ A c, v = .slice A n c := by
  obtain ⟨hl, ⟨rfl, rfl⟩ | ⟨g, cap, cur, rfl, r⟩⟩ := h
  · exact ⟨_, _, rfl⟩
  · exact ⟨_, _, rfl⟩
theorem tagsS_step (l : List UInt8) (f a : Nat) (no : Bool) (acc : List MTag) : tagsS l (f + 1) a no acc = if isB l a no 44 then tagsS l f (tagS l (a + 1) false).2.1 (tagS l (a + 1) false).2.2 (acc ++ [(tagS l (a + 1) false).1]) else (acc, a, no) := rfl
theorem line_end {w w5 w8 : World} {r g b x : Nat} {rv rv' : Value} {s : ByteArray} {a : Nat} {no : Bool} {nm : ByteArray} {off : Nat} {X : VRow} {timed : Bool} {time : ByteArray} {wh base n : Nat} {xs : List Value}
    (L : LX w w5 r g b x rv s a no nm off (.slice X.tA X.row.tags.length X.tc) X.row.tags (.slice X.fA X.row.fields.length X.fc) X.row.fields timed time wh) (hown : w5.ownsRow base 44 10 rv n xs) (hb : base ≤ w.heap.size) (hA : Aw rv.ownBlock.toList w5 w8) (ho : w8.ownsRow base 44 10 rv' (n + 1) (xs ++ rowCell X)) :
    Rd (w8.setCell ⟨r, 1, none⟩ rv') r g rv' ∧ Sc (w8.setCell ⟨r, 1, none⟩ rv') g s a no ∧ (w8.setCell ⟨r, 1, none⟩ rv').ownsRow base 44 10 rv' (n + 1) (xs ++ rowCell X) ∧ OwnV (w8.setCell ⟨r, 1, none⟩ rv') base X ∧ Aw (g :: r :: rv.ownBlock.toList) w (w8.setCell ⟨r, 1, none⟩ rv') := by
  have hrd := Blk.aw L.lr.rd hA (fun e => own_blk_ne hown L.lr.rd (by decide) (by simpa using e))
  have hsc := Blk.aw L.lr.sc hA (fun e => own_blk_ne hown L.lr.sc (by decide) (by simpa using e))
  have htg := own_aw L.tg hA (fun i hi e => own_own_ne L.tg hown (by decide) i hi (by simpa using e))
  have hfl := own_aw L.fl hA (fun i hi e => own_own_ne L.fl hown (by decide) i hi (by simpa using e))
  have k2 : Aw [r] w8 (w8.setCell ⟨r, 1, none⟩ rv') := (Aw.refl _ _).setCell (.inl (by simp)) rv'
  refine ⟨Blk.set_ hrd 1 rv', Blk.far hsc L.lr.rg.symm _, own_aw ho k2 (fun i hi e => ?_), ⟨own_more (own_aw htg k2 (fun i hi e => ?_)) hb, own_more (own_aw hfl k2 (fun i hi e => ?_)) hb⟩, ?_⟩
  · simp only [List.mem_cons, List.not_mem_nil, or_false] at e
    subst e; exact own_blk_ne ho hrd (by decide) hi
  · simp only [List.mem_cons, List.not_mem_nil, or_false] at e
    subst e; exact own_blk_ne htg hrd (by decide) hi
  · simp only [List.mem_cons, List.not_mem_nil, or_false] at e
    subst e; exact own_blk_ne hfl hrd (by decide) hi
  · refine ((L.lr.aw.mono (by simp)).trans (hA.mono (fun k hk => by simp [List.mem_cons]; exact .inr (.inr (by simpa using hk))))).trans (k2.mono (by simp))
set_option maxRecDepth 100000 in
set_option maxHeartbeats 6400000 in
theorem line_any (r g : Nat) (rv : Value) (s : ByteArray) (a : Nat) (R : MRow) (a' : Nat) (no' : Bool) (base n : Nat) (xs : List Value) (w : World) (h : LR w w r g rv s a false) (hown : w.ownsRow base 44 10 rv n xs) (hb : base ≤ w.heap.size) (hn : n ≤ 1048576) (ha : a < s.size) (hs : s.size ≤ 1048576) (hR : lineS s.data.toList a = (R, a', no')) :
    Calls Try.prog 37 #[.pointer (some ⟨r, 0, none⟩)] w fun e w' => e = .returned (.tuple #[]) ∧ ∃ rv' x, x.row = R ∧ Rd w' r g rv' ∧ Sc w' g s a' no' ∧ w'.ownsRow base 44 10 rv' (n + 1) (xs ++ rowCell x) ∧ OwnV w' base x ∧ Aw (g :: r :: rv.ownBlock.toList) w w' := by
  have hL : s.data.toList.length = s.size := by simp
  have hs2 : s.size ≤ 4611686018427387904 := Nat.le_trans hs (by decide)
  obtain ⟨nw, hnw⟩ : ∃ q, isB s.data.toList a false 35 = q := ⟨_, rfl⟩
  obtain ⟨T1, a1, n1, h1⟩ : ∃ T1 a1 n1, sgn s.data.toList inM false a nw = (T1, a1, n1) := ⟨_, _, _, rfl⟩
  obtain ⟨tags, a2, n2, h2⟩ : ∃ tags a2 n2, tagsS s.data.toList (s.data.toList.length + 1) a1 n1 [] = (tags, a2, n2) := ⟨_, _, _, rfl⟩
  obtain ⟨a3, n3, h3⟩ : ∃ a3 n3, wordS s.data.toList [32] a2 n2 = (a3, n3) := ⟨_, _, rfl⟩
  obtain ⟨flds, a4, n4, h4⟩ : ∃ flds a4 n4, fieldsS s.data.toList (s.data.toList.length + 1) a3 n3 [] = (flds, a4, n4) := ⟨_, _, _, rfl⟩
  unfold lineS at hR
  simp only [hnw, h1, h2, h3, h4] at hR
  have hl1 := sgn_le s.data.toList inM false a nw (by rw [hL]; omega)
  rw [h1, hL] at hl1
  have hl2 := tagsS_le (l := s.data.toList) (s.data.toList.length + 1) a1 n1 [] (by rw [hL]; exact hl1.2.1)
  rw [h2, hL] at hl2
  have hl3 := wordS_le s.data.toList [32] a2 n2 (by rw [hL]; exact hl2.2)
  rw [h3, hL] at hl3
  have hl4 := fieldsS_le (l := s.data.toList) (s.data.toList.length + 1) a3 n3 [] (by rw [hL]; exact hl3.2)
  rw [h4, hL] at hl4
  simp only at hl1 hl2 hl3 hl4
  have hr := Blk.lt h.rd
  have hg := Blk.lt h.sc
  have kA := fun W h => at_any g s a false W h
  have kI := fun W h => is_any g s a false 35 W h (Nat.le_of_lt ha) hs2
  rw [hnw] at kI
  have kSt := fun W h => stop_any g s a false W h
  have kS := fun W h => signs_any g s ⟨#[44, 32]⟩ false a nw T1 a1 n1 W h (Nat.le_of_lt ha) hs (by decide) h1
  have hw2 : Hid (tagsS s.data.toList (s.data.toList.length + 1) a1 n1 [] = (tags, a2, n2)) := Lib.hid h2
  have hw4 : Hid (fieldsS s.data.toList (s.data.toList.length + 1) a3 n3 [] = (flds, a4, n4)) := Lib.hid h4
  have HR := Lib.hid hR
  have HL := Lib.hid hL
  have kW := fun W h => word_any g s ⟨#[32]⟩ a2 n2 a3 n3 W h hl2.2 hs2 (by decide) h3
  generalize hV : mkS T1 = V1 at kS
  have HV := Lib.hid hV
  obtain ⟨i0, hi0, hz0, hz1, hz2⟩ := info_parts Try.infoTag
  obtain ⟨i1, hi1, iz0, iz1, iz2⟩ := info_parts Try.infoField
  obtain ⟨i2, hi2, jz0, jz1, jz2⟩ := info_parts Try.infoRow
  clear h1 h2 h3 h4 hR hL hV hnw
  have L0 := h.alloc (.cells #[.pointer (some ⟨r, 0, none⟩)] 55)
  obtain ⟨x0, _, _⟩ := L0.rd.facts
  have L1 : LX w ((w.alloc (.cells #[.pointer (some ⟨r, 0, none⟩)] 55)).alloc (.cells #[.int .i64 0, .string ⟨#[]⟩, .int .i64 (a : Int), .slice none 0 0, .slice none 0 0, .string ⟨#[]⟩, .int .i64 0, .bool false, .string ⟨#[]⟩, .int .i64 0] 44)) r g w.heap.size (w.heap.size + 1) rv s a false ⟨#[]⟩ a (.slice none 0 0) [] (.slice none 0 0) [] false ⟨#[]⟩ 0 :=
    ⟨L0.alloc _, Blk.alloc (Blk.new w _ _) _, by
      have := Blk.new (w.alloc (.cells #[.pointer (some ⟨r, 0, none⟩)] 55)) 44 #[.int .i64 0, .string ⟨#[]⟩, .int .i64 (a : Int), .slice none 0 0, .slice none 0 0, .string ⟨#[]⟩, .int .i64 0, .bool false, .string ⟨#[]⟩, .int .i64 0]
      simpa [Rw] using this, World.ownsRow_nil _ _ _ _, World.ownsRow_nil _ _ _ _, hr, hg, Nat.le_refl _, by omega, by omega⟩
  obtain ⟨y0, y1⟩ := L1.facts
  go_enter Try.func37, Try.ntmps37
  go_upto_if 13 with (first
    | (go_at_call 25; (with_reducible refine (kA _ L0.sc).mono ?_); rintro e w1 ⟨rfl, rfl⟩)
    | (go_at_call 55; (with_reducible refine (kI _ L1.lr.sc).mono ?_); rintro e w2 ⟨rfl, h2, hA2⟩; have L2 := L1.scan hA2 h2 (by simp); obtain ⟨z0, z1⟩ := L2.facts))
  go_cut [] from 14 to 18 (fun wx => LX w wx r g w.heap.size (w.heap.size + 1) rv s a nw ⟨#[]⟩ a (.slice none 0 0) [] (.slice none 0 0) [] false ⟨#[]⟩ 0)
  case first =>
    cases nw
    all_goals
      go_wp2_with (go_at_call 56; (with_reducible refine (kSt _ L2.lr.sc).mono ?_); rintro e w3 ⟨rfl, h3, hA3⟩; have L3 := L2.scan hA3 h3 (by simp))
      go_meet
      assumption
  case rest =>
  clear L2 z0 z1 hA2 h2 L1 y0 y1 x0 L0
  obtain ⟨z0, z1⟩ := hcut.facts
  go_wp2_with (first
      | (go_at_call 57; (with_reducible refine (kS _ hcut.lr.sc).mono ?_); rintro e w4 ⟨rfl, h4, hA4⟩; have L4 := hcut.scan hA4 h4 (by simp); obtain ⟨_, f1, f2, f3, f4, f5, f6⟩ := L4.rw_.facts; have L5 := L4.put 1 (.string V1) (Blk.set_ L4.rw_ 1 (.string V1))))
  clear kA kI kSt kS
  go_loopw [25] (fun _ wr => ∃ (p f : Nat) (np : Bool) (acc : List MTag) (tv : Value), p ≤ s.size ∧ s.size < f + p ∧ acc.length ≤ p ∧ LX w wr r g w.heap.size (w.heap.size + 1) rv s p np V1 a tv acc (.slice none 0 0) [] false ⟨#[]⟩ 0 ∧ Hid (tagsS s.data.toList f p np acc = (tags, a2, n2))) (fun _ wr => s.size - atOf wr g)
  case atStart => exact ⟨a1, _, n1, [], _, by omega, by (have := HL.out; omega), by simp, L5, hw2⟩
  case round =>
    clear L5 hA4 h4 z0 z1 hcut L4 f1 f2 f3 f4 f5 f6
    obtain ⟨p, f, np, acc, tv, hp, hf, hacc, hX, HT⟩ := hrel
    obtain ⟨z0, z1⟩ := hX.facts
    obtain ⟨f, rfl⟩ : ∃ f', f = f' + 1 := ⟨f - 1, by omega⟩
    have hT := HT.out
    rw [tagsS_step] at hT
    have kT := fun W h => takes_any g s p np 44 W h hp hs2
    unfold takeA at kT
    cases hq : isB s.data.toList p np 44
    case true =>
      have hlt := (isB_lt hq).1
      rw [HL.out] at hlt
      have hnp := (isB_lt hq).2.1
      subst hnp
      simp only [hq, if_true] at kT hT
      obtain ⟨X, p2, np2, hX2⟩ : ∃ X p2 np2, tagS s.data.toList (p + 1) false = (X, p2, np2) := ⟨_, _, _, rfl⟩
      rw [hX2] at hT
      have HT2 := Lib.hid hT
      have hle := tagS_le (l := s.data.toList) false (show p + 1 ≤ s.data.toList.length by rw [HL.out]; omega)
      rw [hX2, HL.out] at hle
      have kG := fun W h hb hbg => tagL_any r g w.heap.size rv s (p + 1) false X p2 np2 W h hb hbg (by omega) hs hX2
      have hat := hX.lr.sc.atOf
      clear hT HT hq hX2
      go_wp2_with (go_at_call 58; (with_reducible refine (kT _ hX.lr.sc).mono ?_); rintro e w5 ⟨rfl, h5, hA5⟩; have L6 := hX.scan hA5 h5 (by simp); obtain ⟨y0, y1⟩ := L6.facts; obtain ⟨⟨_, _, _, y2, _⟩, _⟩ := L6.rw_.facts)
      have hut : Try.prog.underlying 41 = some (.slice 46) := by kernel_rfl
      have hbg : w.heap.size ≠ g := by omega
      go_region_law (first
          | (go_simp; go_at_call 59; refine (kG _ L6.drew.lr.self L6.drew.bx hbg).mono ?_; rintro e w7 ⟨rfl, k7⟩; have L7 := L6.drew.call k7; obtain ⟨v0, v1⟩ := L7.facts; obtain ⟨⟨_, _, _, v2, _⟩, _, v3, _⟩ := L7.rw_.facts; obtain ⟨⟨_, _, _, v4, _⟩, _⟩ := Rw.facts (Blk.alloc L7.rw_ (.cells #[.string X.name, .string X.value, .int .i64 (X.off : Int), .int .i64 (X.pos : Int)] 46)))
          | (refine step_append_lies _ (by rfl) _ _ _ (by rfl) w.heap.size 46 i0 _ 4 48 hut hi0 hz0 hz1 hz2 rfl (by omega) tv acc.length (acc.flatMap tagCell) (by rfl) (L7.tg.alloc _) ⟨w7.heap.size, 0, none⟩ 1 1 (tagCell X) (by rfl) (by rfl) (World.news_of_block (heap_alloc_new w7 _)) (by simp [tagCell, Value.oneCell']) (by omega) (by simp [maxLen]; omega) (by omega) (by have := L7.lr.aw.size; simp; omega) (w7.heap.size + 1) (by simp) ?_; intro gg capg w8 hown8 hgrow hat8 hlt8; obtain ⟨_, _, r4, _⟩ := Rw.facts (Blk.grown (w := _) (Blk.alloc L7.rw_ _) hgrow (fun e => own_blk_ne L7.tg L7.rw_ (by decide) e.symm)); have L8 := L7.tags_ (((Aw.refl _ _).alloc _).grown hgrow (fun k hk => .inl (by simp [hk]))) hown8))
      all_goals
        go_wp2_with fail
        exact ⟨⟨p2, f, np2, acc ++ [X], _, hle.2, by omega, by simp; omega, L8, HT2⟩, by rw [L8.lr.sc.atOf, hat]; omega⟩
    case false =>
      simp only [hq, Bool.false_eq_true, if_false] at kT hT
      obtain ⟨rfl, rfl, rfl⟩ : acc = tags ∧ p = a2 ∧ np = n2 := by injection hT with e1 e2; injection e2 with e3 e4; exact ⟨e1, e3, e4⟩
      obtain ⟨F, p4, m4, hF⟩ : ∃ F p4 m4, fieldS s.data.toList a3 n3 = (F, p4, m4) := ⟨_, _, _, rfl⟩
      have hF2 := hw4.out
      unfold fieldsS at hF2
      rw [hF] at hF2
      simp only [List.nil_append] at hF2
      have HF2 := Lib.hid hF2
      have hle := fieldS_le (l := s.data.toList) n3 (show a3 ≤ s.data.toList.length by rw [HL.out]; omega)
      rw [hF, HL.out] at hle
      have kF := fun W h => field_any r g rv s a3 n3 F p4 m4 W h hl3.2 hs hF
      clear hF hF2 hT HT hq hw2
      have huf : Try.prog.underlying 42 = some (.slice 48) := by kernel_rfl
      go_upto_region 8 with (first
        | (go_at_call 58; (with_reducible refine (kT _ hX.lr.sc).mono ?_); rintro e w5 ⟨rfl, h5, hA5⟩; have L6 := hX.scan hA5 h5 (by simp); obtain ⟨y0, y1⟩ := L6.facts)
        | (go_at_call 61; (with_reducible refine (kW _ L6.lr.sc).mono ?_); rintro e w6 ⟨rfl, h6, hA6⟩; have L7 := L6.scan hA6 h6 (by simp); obtain ⟨v0, v1⟩ := L7.facts; obtain ⟨⟨_, _, _, _, v2, _⟩, _⟩ := L7.rw_.facts))
      clear kT kW L6 y0 y1 hA5 hA6 h5 h6 hX z0 z1
      go_cut [] from 43 to 49 (fun wx => ∃ fv, LX w wx r g w.heap.size (w.heap.size + 1) rv s p4 m4 V1 a tv acc fv [F] false ⟨#[]⟩ 0)
      case first =>
        go_region_law (first
          | (go_simp; go_at_call 62; refine (kF _ L7.drew.lr.self).mono ?_; rintro e w8 ⟨rfl, k8⟩; have L8 := L7.drew.call k8; obtain ⟨x0, x1⟩ := L8.facts; obtain ⟨⟨_, _, _, _, x2, _⟩, _, _, x3, _⟩ := L8.rw_.facts; obtain ⟨⟨_, _, _, _, x4, _⟩, _⟩ := Rw.facts (Blk.alloc L8.rw_ (.cells #[.string F.name, .string F.value, .int .i64 (F.off : Int), .int .i64 (F.pos : Int), .int .i64 (F.kind : Int)] 48)))
          | (refine step_append_lies _ (by rfl) _ _ _ (by rfl) w.heap.size 48 i1 _ 5 56 huf hi1 iz0 iz1 iz2 rfl (by omega) (.slice none 0 0) 0 [] (by rfl) (L8.fl.alloc _) ⟨w8.heap.size, 0, none⟩ 1 1 (fieldCell F) (by rfl) (by rfl) (World.news_of_block (heap_alloc_new w8 _)) (by simp [fieldCell, Value.oneCell']) (by omega) (by simp [maxLen]) (by omega) (by have := L8.lr.aw.size; simp; omega) (w8.heap.size + 1) (by simp) ?_; intro gg capg w9 hown9 hgrow hat9 hlt9; obtain ⟨_, _, _, r4, _⟩ := Rw.facts (Blk.grown (w := _) (Blk.alloc L8.rw_ _) hgrow (fun e => by simp [Value.ownBlock] at e)); have L9 := L8.flds_ (((Aw.refl _ _).alloc _).grown hgrow (fun k hk => .inl (by simp [hk]))) hown9))
        all_goals
          go_wp2_with fail
          go_meet
          exact ⟨_, L9⟩
      case rest =>
        obtain ⟨fv, hY⟩ := hcut
        clear L7 v0 v1 v2 kF
        go_wp2_with fail
        go_loopw [50] (fun _ wr => ∃ (p f : Nat) (np : Bool) (accF : List MField) (fv : Value), p ≤ s.size ∧ s.size < f + p + 1 ∧ accF.length ≤ p + 1 ∧ LX w wr r g w.heap.size (w.heap.size + 1) rv s p np V1 a tv acc fv accF false ⟨#[]⟩ 0 ∧ Hid ((if isB s.data.toList p np 44 then fieldsS s.data.toList f (p + 1) false accF else (accF, p, np)) = (flds, a4, n4))) (fun _ wr => s.size - atOf wr g)
        case atStart => exact ⟨p4, _, m4, [F], fv, hle.2, by (have := HL.out; omega), by simp, hY, HF2⟩
        case round =>
          clear hY HF2 hle
          obtain ⟨p, f, np, accF, fv, hp, hf, hacc, hX, HT⟩ := hrel
          obtain ⟨z0, z1⟩ := hX.facts
          have hT := HT.out
          have kT := fun W h => takes_any g s p np 44 W h hp hs2
          unfold takeA at kT
          cases hq : isB s.data.toList p np 44
          case true =>
            have hlt := (isB_lt hq).1
            rw [HL.out] at hlt
            have hnp := (isB_lt hq).2.1
            subst hnp
            obtain ⟨f, rfl⟩ : ∃ f', f = f' + 1 := ⟨f - 1, by omega⟩
            simp only [hq, if_true] at kT hT
            obtain ⟨F2, p2, np2, hF⟩ : ∃ F p2 np2, fieldS s.data.toList (p + 1) false = (F, p2, np2) := ⟨_, _, _, rfl⟩
            unfold fieldsS at hT
            rw [hF] at hT
            have HT2 := Lib.hid hT
            have hle := fieldS_le (l := s.data.toList) false (show p + 1 ≤ s.data.toList.length by rw [HL.out]; omega)
            rw [hF, HL.out] at hle
            simp only at hle
            have kF := fun W h => field_any r g rv s (p + 1) false F2 p2 np2 W h (by omega) hs hF
            have hat := hX.lr.sc.atOf
            clear hT HT hq hF
            go_wp2_with (go_at_call 58; (with_reducible refine (kT _ hX.lr.sc).mono ?_); rintro e w5 ⟨rfl, h5, hA5⟩; have L6 := hX.scan hA5 h5 (by simp); obtain ⟨y0, y1⟩ := L6.facts; obtain ⟨⟨_, _, _, _, y2, _⟩, _⟩ := L6.rw_.facts)
            go_region_law (first
              | (go_simp; go_at_call 62; refine (kF _ L6.drew.lr.self).mono ?_; rintro e w8 ⟨rfl, k8⟩; have L8 := L6.drew.call k8; obtain ⟨x0, x1⟩ := L8.facts; obtain ⟨⟨_, _, _, _, x2, _⟩, _, _, x3, _⟩ := L8.rw_.facts; obtain ⟨⟨_, _, _, _, x4, _⟩, _⟩ := Rw.facts (Blk.alloc L8.rw_ (.cells #[.string F2.name, .string F2.value, .int .i64 (F2.off : Int), .int .i64 (F2.pos : Int), .int .i64 (F2.kind : Int)] 48)))
              | (refine step_append_lies _ (by rfl) _ _ _ (by rfl) w.heap.size 48 i1 _ 5 56 huf hi1 iz0 iz1 iz2 rfl (by omega) fv accF.length (accF.flatMap fieldCell) (by rfl) (L8.fl.alloc _) ⟨w8.heap.size, 0, none⟩ 1 1 (fieldCell F2) (by rfl) (by rfl) (World.news_of_block (heap_alloc_new w8 _)) (by simp [fieldCell, Value.oneCell']) (by omega) (by simp [maxLen]; omega) (by omega) (by have := L8.lr.aw.size; simp; omega) (w8.heap.size + 1) (by simp) ?_; intro gg capg w9 hown9 hgrow hat9 hlt9; obtain ⟨_, _, _, r4, _⟩ := Rw.facts (Blk.grown (w := _) (Blk.alloc L8.rw_ _) hgrow (fun e => own_blk_ne L8.fl L8.rw_ (by decide) e.symm)); have L9 := L8.flds_ (((Aw.refl _ _).alloc _).grown hgrow (fun k hk => .inl (by simp [hk]))) hown9))
            all_goals
              go_wp2_with fail
              exact ⟨⟨p2, f, np2, accF ++ [F2], _, hle.2, by omega, by simp; omega, L9, HT2⟩, by rw [L9.lr.sc.atOf, hat]; omega⟩
          case false =>
            simp only [hq, Bool.false_eq_true, if_false] at kT hT
            obtain ⟨rfl, rfl, rfl⟩ : accF = flds ∧ p = a4 ∧ np = n4 := by injection hT with e1 e2; injection e2 with e3 e4; exact ⟨e1, e3, e4⟩
            clear hT HT hq hw4
            have kT2 := fun W h => takes_any g s p np 32 W h hp hs2
            unfold takeA at kT2
            obtain ⟨Q3, p3, m3, h3⟩ : ∃ Q3 p3 m3, (if isB s.data.toList p np 32 = true then ((true, mkS (cutL s.data.toList (p + 1) (numS s.data.toList (p + 1) false).1), p + 1), numS s.data.toList (p + 1) false) else ((false, mkS [], 0), (p, np))) = (Q3, p3, m3) := ⟨_, _, _, rfl⟩
            have hp3 : p3 ≤ s.size := by
              cases hq : isB s.data.toList p np 32
              · simp only [hq, Bool.false_eq_true, if_false] at h3
                injection h3 with _ e; injection e with e _; omega
              · simp only [hq, if_true] at h3
                have := (isB_lt hq).1
                have := numS_le s.data.toList (p + 1) false (by omega)
                injection h3 with _ e
                rw [e, HL.out] at this
                omega
            have hR2 : R = ⟨0, mkS T1, a, acc, accF, mkS [], 0, Q3.1, Q3.2.1, Q3.2.2⟩ ∧ wordS s.data.toList [10] p3 m3 = (a', no') := by
              have hR := HR.out
              cases hq : isB s.data.toList p np 32
              · simp only [hq, Bool.false_eq_true, if_false] at h3 hR
                injection h3 with e1 e2; injection e2 with e2 e3; injection hR with e4 e5
                subst e1 e2 e3 e4; exact ⟨rfl, e5⟩
              · simp only [hq, if_true] at h3 hR
                injection h3 with e1 e2; injection hR with e4 e5
                rw [e2] at e5
                rw [e2] at e1 e4
                subst e1 e4; exact ⟨rfl, e5⟩
            obtain ⟨hR2, hR3⟩ := hR2
            subst hR2
            have kW := fun W h => word_any g s ⟨#[10]⟩ p3 m3 a' no' W h hp3 hs2 (by decide) hR3
            clear hR3 HR
            generalize hq : isB s.data.toList p np 32 = q at kT2 h3
            go_upto_if 66 with (first
              | (go_at_call 58; (with_reducible refine (kT _ hX.lr.sc).mono ?_); rintro e w5 ⟨rfl, h5, hA5⟩; have L6 := hX.scan hA5 h5 (by simp); obtain ⟨y0, y1⟩ := L6.facts)
              | (go_at_call 58; (with_reducible refine (kT2 _ L6.lr.sc).mono ?_); rintro e w6 ⟨rfl, h6, hA6⟩; have L7 := L6.scan hA6 h6 (by simp); obtain ⟨v0, v1⟩ := L7.facts))
            go_cut [] from 67 to 79 (fun wx => LX w wx r g w.heap.size (w.heap.size + 1) rv s p3 m3 V1 a tv acc fv accF Q3.1 Q3.2.1 Q3.2.2)
            case first =>
              cases q
              · simp only [Bool.false_eq_true, if_false] at h3 L7
                injection h3 with e1 e2; injection e2 with e2 e3
                subst e1 e2 e3
                go_wp2_with fail
                go_meet
                exact L7
              · have hlt := (isB_lt hq).1
                have hnp := (isB_lt hq).2.1
                subst hnp
                rw [HL.out] at hlt
                simp only [if_true] at h3 L7
                obtain ⟨p4', m4', h4'⟩ : ∃ p4 m4, numS s.data.toList (p + 1) false = (p4, m4) := ⟨_, _, rfl⟩
                rw [h4'] at h3
                injection h3 with e1 e2; injection e2 with e2 e3
                subst e1 e2 e3
                have kA := fun W h => at_any g s (p + 1) false W h
                have kN := fun W h => whole_any g s (p + 1) false p4' m4' W h (by omega) hs2 h4'
                rw [ext_cut] at kN
                clear h4' kT kT2 hq
                generalize hV4 : mkS (cutL s.data.toList (p + 1) p4') = V4 at kN
                obtain ⟨_, _, _, _, f1, f2, f3⟩ := L7.rw_.facts
                have L8 := L7.put 7 (.bool true) (Blk.set_ L7.rw_ 7 (.bool true))
                have L9 := L8.put 9 (.int .i64 ((p : Int) + 1)) (wh' := p + 1) (Blk.set_ L8.rw_ 9 (.int .i64 ((p : Int) + 1)))
                obtain ⟨t0, t1⟩ := L9.facts
                go_wp2_with (first
                  | (go_at_call 25; (with_reducible refine (kA _ L7.lr.sc).mono ?_); rintro e w7 ⟨rfl, rfl⟩)
                  | (go_at_call 63; (with_reducible refine (kN _ L9.lr.sc).mono ?_); rintro e w10 ⟨rfl, h10, hA10⟩; have L10 := L9.scan hA10 h10 (by simp); obtain ⟨_, _, _, _, _, f8, _⟩ := L10.rw_.facts; have L11 := L10.put 8 (.string V4) (Blk.set_ L10.rw_ 8 (.string V4))))
                go_meet
                subst hV4
                exact L11
            case rest =>
            clear L7 v0 v1 kT kT2 L6 h6 hA6 h5 hA5 hX h3 y0 y1 z0 z1
            obtain ⟨z0, z1⟩ := hcut.facts
            go_upto_region 15 with (go_at_call 61; (with_reducible refine (kW _ hcut.lr.sc).mono ?_); rintro e w5 ⟨rfl, h5, hA5⟩; have L6 := hcut.scan hA5 h5 (by simp); obtain ⟨y0, y1⟩ := L6.facts; obtain ⟨_, y2, y3⟩ := L6.lr.rd.facts; obtain ⟨⟨x0, x1, x2, x3, x4, x5, x6, x7, x8, x9⟩, _⟩ := L6.rw_.facts)
            obtain ⟨tA, tc, rfl⟩ := own_form L6.tg
            obtain ⟨fA, fc, rfl⟩ := own_form L6.fl
            have hv := HV.out
            subst hv
            have hur : Try.prog.underlying 23 = some (.slice 44) := by kernel_rfl
            have hown5 : w5.drew.ownsRow base 44 10 rv n xs := own_aw hown L6.lr.aw.drew (fun k hk e => by
              rw [List.mem_singleton] at e
              subst e; exact own_blk_ne hown h.sc (by decide) hk)
            obtain ⟨X, hX⟩ : ∃ X : VRow, X = ⟨⟨0, mkS T1, a, acc, accF, mkS [], 0, Q3.1, Q3.2.1, Q3.2.2⟩, tA, tc, fA, fc⟩ := ⟨_, rfl⟩
            obtain ⟨m0, m1, m2⟩ := Rd.facts (Blk.alloc L6.lr.rd (.cells #[.int .i64 0, .string (mkS T1), .int .i64 (a : Int), .slice tA acc.length tc, .slice fA accF.length fc, .string ⟨#[]⟩, .int .i64 0, .bool Q3.1, .string Q3.2.1, .int .i64 (Q3.2.2 : Int)] 44))
            have m3 := Bx.cell (Blk.alloc L6.bx (.cells #[.int .i64 0, .string (mkS T1), .int .i64 (a : Int), .slice tA acc.length tc, .slice fA accF.length fc, .string ⟨#[]⟩, .int .i64 0, .bool Q3.1, .string Q3.2.1, .int .i64 (Q3.2.2 : Int)] 44))
            go_region_law (refine step_append_lies _ (by rfl) _ _ _ (by rfl) base 44 i2 _ 10 136 hur hi2 jz0 jz1 jz2 rfl (by omega) rv n xs (by rfl) (hown5.alloc _) ⟨w5.heap.size, 0, none⟩ 1 1 (rowCell X) (by rfl) (by rfl) (by rw [hX]; exact World.news_of_block (heap_alloc_new w5.drew _)) (by rw [hX]; simp [rowCell, Value.oneCell']) (by omega) (by simp [maxLen]; omega) (by omega) (by have := L6.lr.aw.size; simp; omega) (w5.heap.size + 1) (by simp) ?_; intro gg capg w8 hown8 hgrow hat8 hlt8; have hfin := line_end (X := X) (rv' := .slice (some ⟨gg, 0, none⟩) (n + 1) capg) (by rw [hX]; exact L6.drew) hown5 hb (((Aw.refl _ _).alloc _).grown hgrow (fun k hk => .inl (by simp [hk]))) hown8; have q3 := Bx.cell (Blk.grown (w := _) (Blk.alloc L6.drew.bx _) hgrow (fun e => own_blk_ne hown5 L6.drew.bx (by decide) e.symm)); obtain ⟨q0, q1, q2⟩ := Rd.facts (Blk.grown (w := _) (Blk.alloc L6.drew.lr.rd _) hgrow (fun e => own_blk_ne hown5 L6.drew.lr.rd (by decide) e.symm)))
            all_goals
              go_wp2_with fail
              go_end0
              exact ⟨rfl, _, X, by rw [hX], hfin⟩
end Go.Proofs.Ytdngieihlcknmaa
