/- The walk of polyglothelp.Many. DotsOnce: what may not be is told at its place: the table. The walk of DotsOnce. -/
import Derived.Test.YtoplengednoldaaGreatDoorCore
import Derived.Laws.MakeOwn
import Derived.Test.YtoplengednoldaaGreatDoorMgRd8
namespace Go.Proofs.YtoplengednoldaaGreatDoor
set_option linter.unusedVariables false
set_option linter.unusedSimpArgs false
open Go.RowKit
section
def manyC (c : UInt8) (n i : Nat) : Array Value := (List.replicate i (Value.int .u8 (c.toNat : Int)) ++ List.replicate (n - i) (Value.int .u8 0)).toArray
theorem manyC_set (c : UInt8) (n i : Nat) (h : i < n) : (manyC c n i).setIfInBounds i (.int .u8 (c.toNat : Int)) = manyC c n (i + 1) := by
  unfold manyC
  rw [List.setIfInBounds_toArray]
  congr 1
  refine List.ext_getElem? fun j => ?_
  simp only [List.getElem?_set, List.getElem?_append, List.getElem?_replicate, List.length_replicate, List.length_append]
  by_cases h1 : i = j
  · subst h1; simp; omega
  · simp only [h1, if_false]
    by_cases h2 : j < i
    · simp [h2, show j < i + 1 by omega]
    · simp only [h2, if_false, show ¬ j < i + 1 by omega]
      by_cases h3 : j < n
      · simp [show j - i < n - i by omega, show j - (i + 1) < n - (i + 1) by omega]
      · simp [show ¬ j - i < n - i by omega, show ¬ j - (i + 1) < n - (i + 1) by omega]
theorem manyC_made (c : UInt8) (n : Nat) : madeCells #[Value.int .u8 0] n = manyC c n 0 := by
  unfold madeCells manyC
  apply Array.ext'
  simp only [List.replicate_zero, List.nil_append, Nat.sub_zero, Array.toList_map, Array.toList_range]
  refine List.ext_getElem (by simp) fun i h1 h2 => ?_
  simp [Nat.mod_one]
theorem manyC_size (c : UInt8) (n i : Nat) (h : i ≤ n) : (manyC c n i).size = n := by unfold manyC; simp; omega
set_option maxRecDepth 100000 in
set_option maxHeartbeats 1600000 in
theorem many_any (c : UInt8) (n : Nat) (hn : n ≤ 1000) (w : World) :
    Calls Tryz.prog 18 #[.int .u8 (c.toNat : Int), .int .i64 (n : Int)] w fun e w' => (∃ v, e = .returned v ∧ w'.ownsRow w.heap.size 5 1 v n (Lib.byteCells (List.replicate n c))) ∧ Below w.heap.size w w' := by
  obtain ⟨i0, hi0, hz0, hz1, hz2⟩ := info_parts Tryz.infoByte
  have hmk : ∀ w : World, (Instr.makeSlice 56 (.int .i64 (n : Int)) (.int .i64 (n : Int))).run Tryz.prog w = .ok (.slice (some ⟨w.heap.size, 0, none⟩) n n) (w.alloc (.cells (manyC c n 0) 5)) := fun w => by
    have h := run_make (P := Tryz.prog) w 56 5 i0 (.int .u8 0) (by kernel_rfl) hi0 hz0 .i64 .i64 (n : Int) (n : Int) (by omega) (Int.le_refl _) (by rw [hz2]; omega) (by omega)
    rw [hz1, Int.toNat_natCast, Nat.mul_one] at h
    have e : (Value.int .u8 0).cells = #[.int .u8 0] := rfl
    rw [e, manyC_made c n] at h
    exact h
  have hB0 := Blk.new w 5 (manyC c n 0)
  go_enter Tryz.func18, Tryz.ntmps18
  go_wp2_with fail
  go_loopw [6] (fun i wr => ∃ k : Nat, k ≤ n ∧ i = .int .i64 k ∧ Blk wr w.heap.size 5 (manyC c n k) ∧ Below w.heap.size w wr) (fun i _ => n - (intOf i).toNat)
  case atStart => exact ⟨0, by omega, rfl, hB0, (Below.refl _ _).alloc (Nat.le_refl _) _⟩
  case round =>
    obtain ⟨k, hk, rfl, hb, hbl⟩ := hrel
    clear hB0
    by_cases hlt : k < n
    · have hd : decide ((k : Int) < (n : Int)) = true := decide_eq_true (by omega)
      have hdn : decide (k < n) = true := decide_eq_true hlt
      have h0 : (0 : Int) ≤ k := by omega
      have h1 : (k : Int) < n := by omega
      have c0 : wr.cell? ⟨w.heap.size, k, none⟩ = some ((manyC c n k)[k]'(by rw [manyC_size c n k hk]; exact hlt)) := (Blk.cell hb k).trans (Array.getElem?_eq_getElem _)
      have f0 := Blk.frozen hb k
      have hb2 := Blk.set_ hb k (.int .u8 (c.toNat : Int))
      rw [manyC_set c n k hlt] at hb2
      go_wp2_with fail
      exact ⟨⟨k + 1, by omega, rfl, hb2, bl_set hbl (Nat.le_refl _) _⟩, by (simp only [intOf]; omega)⟩
    · have hd : decide ((k : Int) < (n : Int)) = false := decide_eq_false (by omega)
      have hdn : decide (k < n) = false := decide_eq_false hlt
      obtain rfl : k = n := by omega
      go_wp2_with fail
      go_ret
      refine ⟨⟨_, rfl, by simp [Lib.byteCells], .inr ⟨w.heap.size, k, manyC c k k, rfl, Nat.le_refl _, hb, Nat.le_refl _, by simp [maxLen]; omega, by rw [manyC_size c k k (Nat.le_refl _)]; omega, ?_⟩⟩, hbl⟩
      simp [manyC, Lib.byteCells]
end
section
def longD : ByteArray := ⟨(List.replicate 61 97).toArray⟩
def rowsOD : List ByteArray := [⟨#[109, 59, 97, 61, 49, 59, 97, 61, 49, 32, 49, 32, 50, 10]⟩, ⟨#[109, 32, 49, 32, 50, 10, 109, 32, 53, 32, 50, 10]⟩, longD ++ ⟨#[32, 49, 32, 50, 10]⟩, ⟨#[109, 59]⟩ ++ longD ++ ⟨#[61, 49, 32, 49, 32, 50, 10]⟩, ⟨#[109, 59, 97, 61]⟩ ++ longD ++ ⟨#[32, 49, 32, 50, 10]⟩, ⟨#[109, 32, 57, 50, 50, 51, 51, 55, 50, 48, 51, 54, 56, 53, 52, 55, 55, 53, 56, 48, 56, 32, 50, 10]⟩, ⟨#[109, 32, 49, 32, 49, 49, 50, 53, 56, 57, 57, 57, 48, 54, 56, 52, 51, 10]⟩, ⟨#[109, 59, 97, 61, 49, 59, 98, 61, 49, 59, 99, 61, 49, 59, 100, 61, 49, 59, 101, 61, 49, 59, 102, 61, 49, 59, 103, 61, 49, 59, 104, 61, 49, 59, 105, 61, 49, 32, 49, 32, 50, 10]⟩, ⟨#[109, 46, 32, 49, 32, 50, 10]⟩, ⟨#[109, 59, 97, 61, 32, 49, 32, 50, 10]⟩, ⟨#[109, 32, 49, 32, 50, 46, 48, 10]⟩]
def codesOD : List Nat := [13, 13, 14, 14, 14, 12, 12, 14, 11, 11, 11]
def offsOD : List Nat := [6, 6, 0, 2, 4, 2, 4, 34, 2, 4, 5]
def onceD (k : Nat) : Bool := (match readD (rowsOD.getD k ⟨#[]⟩).data.toList [] with | .error x => x.1 == codesOD.getD k 0 && x.2 == offsOD.getD k 0 | .ok _ => false) && (match readD (⟨#[122, 32, 49, 32, 50, 10]⟩ ++ rowsOD.getD k ⟨#[]⟩).data.toList [] with | .error x => x.1 == codesOD.getD k 0 && x.2 == offsOD.getD k 0 + 6 | .ok _ => false)
theorem once_allD : ((List.range 11).all onceD) = true := by decide +kernel
theorem once_atD {k : Nat} (h : k < 11) : readD (rowsOD.getD k ⟨#[]⟩).data.toList [] = .error (codesOD.getD k 0, offsOD.getD k 0) ∧ readD (⟨#[122, 32, 49, 32, 50, 10]⟩ ++ rowsOD.getD k ⟨#[]⟩).data.toList [] = .error (codesOD.getD k 0, offsOD.getD k 0 + 6) := by
  have h1 := List.all_eq_true.1 once_allD k (List.mem_range.2 h)
  unfold onceD at h1
  rw [Bool.and_eq_true] at h1
  obtain ⟨h1, h2⟩ := h1
  constructor
  · cases hq : readD (rowsOD.getD k ⟨#[]⟩).data.toList [] with
    | ok l => rw [hq] at h1; cases h1
    | error x =>
      rw [hq] at h1
      simp only [Bool.and_eq_true, beq_iff_eq] at h1
      rw [← h1.1, ← h1.2]
  · cases hq : readD (⟨#[122, 32, 49, 32, 50, 10]⟩ ++ rowsOD.getD k ⟨#[]⟩).data.toList [] with
    | ok l => rw [hq] at h2; cases h2
    | error x =>
      rw [hq] at h2
      simp only [Bool.and_eq_true, beq_iff_eq] at h2
      rw [← h2.1, ← h2.2]
theorem once_sizeD {k : Nat} (h : k < 11) : (rowsOD.getD k ⟨#[]⟩).size ≤ 100 := by
  have : ((List.range 11).all fun k => decide ((rowsOD.getD k ⟨#[]⟩).size ≤ 100)) = true := by decide +kernel
  exact of_decide_eq_true (List.all_eq_true.1 this k (List.mem_range.2 h))
end
section
def rowsC : Array Value := (rowsOD.map Value.string).toArray
def codesC : Array Value := (codesOD.map fun (c : Nat) => Value.int .i64 (c : Int)).toArray
def offsC : Array Value := (offsOD.map fun (c : Nat) => Value.int .i64 (c : Int)).toArray
theorem rowsC_at {k : Nat} (h : k < 11) : rowsC[k]? = some (.string (rowsOD.getD k ⟨#[]⟩)) := by
  have hl : rowsOD.length = 11 := rfl
  unfold rowsC
  rw [List.getElem?_toArray, List.getElem?_map, List.getD_eq_getElem?_getD, List.getElem?_eq_getElem (by omega)]; rfl
theorem codesC_at {k : Nat} (h : k < 11) : codesC[k]? = some (.int .i64 (codesOD.getD k 0 : Nat)) := by
  have hl : codesOD.length = 11 := rfl
  unfold codesC
  rw [List.getElem?_toArray, List.getElem?_map, List.getD_eq_getElem?_getD, List.getElem?_eq_getElem (by omega)]; rfl
theorem offsC_at {k : Nat} (h : k < 11) : offsC[k]? = some (.int .i64 (offsOD.getD k 0 : Nat)) := by
  have hl : offsOD.length = 11 := rfl
  unfold offsC
  rw [List.getElem?_toArray, List.getElem?_map, List.getD_eq_getElem?_getD, List.getElem?_eq_getElem (by omega)]; rfl
/-- What stands while a fault is held against another one. -/
structure OnS (w0 w : World) (f b k : Nat) (c : Int) (o l q : Int) : Prop where
  fb : Blk w f 46 #[.int .i64 c, .int .i64 o, .int .i64 l, .int .i64 q]
  cb : Blk w b 42 codesC
  ck : codesC[k]? = some (.int .i64 c)
  bl : Below w0.heap.size w0 w
theorem OnS.below {w0 w w' : World} {f b k : Nat} {c o l q : Int} (h : OnS w0 w f b k c o l q) (a : Below w.heap.size w w') : OnS w0 w' f b k c o l q :=
  ⟨h.fb.below a (Blk.lt h.fb), h.cb.below a (Blk.lt h.cb), h.ck, bl_any h.bl a⟩
theorem OnS.drew {w0 w : World} {f b k : Nat} {c o l q : Int} (h : OnS w0 w f b k c o l q) : OnS w0 w.drew f b k c o l q := ⟨h.fb, h.cb, h.ck, h.bl.drew⟩
theorem OnS.fs {w0 w : World} {f b k : Nat} {c o l q : Int} (h : OnS w0 w f b k c o l q) : (w.cell? ⟨f, 0, none⟩ = some (.int .i64 c) ∧ w.cell? ⟨f, 1, none⟩ = some (.int .i64 o) ∧ w.cell? ⟨f, 2, none⟩ = some (.int .i64 l) ∧ w.cell? ⟨f, 3, none⟩ = some (.int .i64 q) ∧ w.cell? ⟨b, k, none⟩ = some (.int .i64 c)) ∧ OnS w0 w f b k c o l q :=
  ⟨⟨(Blk.cell h.fb 0).trans rfl, (Blk.cell h.fb 1).trans rfl, (Blk.cell h.fb 2).trans rfl, (Blk.cell h.fb 3).trans rfl, (Blk.cell h.cb k).trans h.ck⟩, h⟩
theorem longD_size : longD.size = 61 := by decide +kernel
set_option maxRecDepth 100000 in
set_option maxHeartbeats 6400000 in
theorem once24_any (h : Int) (ahead : Bool) (m : Int) (w : World) (hm : MxAt w m) (h0 : 0 ≤ h) (h1 : h ≤ 255) :
    Calls Tryz.prog 7 #[.int .u8 h, .bool ahead] w fun e w' => e = .returned (.bool true) ∧ Below w.heap.size w w' := by
  have kM : ∀ W, Calls Tryz.prog 18 #[.int .u8 97, .int .i64 61] W fun e w' => (∃ v, e = .returned v ∧ w'.ownsRow W.heap.size 5 1 v 61 (Lib.byteCells (List.replicate 61 97))) ∧ Below W.heap.size W w' := fun W => many_any 97 61 (by decide) W
  have kK := known24_any m w hm
  have hLs := longD_size
  have hLr : rowsC = #[.string (⟨#[109, 59, 97, 61, 49, 59, 97, 61, 49, 32, 49, 32, 50, 10]⟩), .string (⟨#[109, 32, 49, 32, 50, 10, 109, 32, 53, 32, 50, 10]⟩), .string (longD ++ ⟨#[32, 49, 32, 50, 10]⟩), .string (⟨#[109, 59]⟩ ++ longD ++ ⟨#[61, 49, 32, 49, 32, 50, 10]⟩), .string (⟨#[109, 59, 97, 61]⟩ ++ longD ++ ⟨#[32, 49, 32, 50, 10]⟩), .string (⟨#[109, 32, 57, 50, 50, 51, 51, 55, 50, 48, 51, 54, 56, 53, 52, 55, 55, 53, 56, 48, 56, 32, 50, 10]⟩), .string (⟨#[109, 32, 49, 32, 49, 49, 50, 53, 56, 57, 57, 57, 48, 54, 56, 52, 51, 10]⟩), .string (⟨#[109, 59, 97, 61, 49, 59, 98, 61, 49, 59, 99, 61, 49, 59, 100, 61, 49, 59, 101, 61, 49, 59, 102, 61, 49, 59, 103, 61, 49, 59, 104, 61, 49, 59, 105, 61, 49, 32, 49, 32, 50, 10]⟩), .string (⟨#[109, 46, 32, 49, 32, 50, 10]⟩), .string (⟨#[109, 59, 97, 61, 32, 49, 32, 50, 10]⟩), .string (⟨#[109, 32, 49, 32, 50, 46, 48, 10]⟩)] := rfl
  generalize hLO : longD = LO at *
  have HR := Lib.hid hLr
  have HLO := Lib.hid hLO
  clear hLr hLO
  have s1 : ¬ 9223372036854775807 < LO.size + 5 := by omega
  go_enter Tryz.func7, Tryz.ntmps7
  go_upto_region 4 with (first
    | (go_at_call 8; (with_reducible refine kK.mono ?_); rintro en w1 ⟨rfl, hb1⟩)
    | (go_at_call 18; (with_reducible refine (kM _).mono ?_); rintro en w2 ⟨⟨v, rfl, hown⟩, hb2⟩; have hcv : (convert 56 9 v).run Tryz.prog w2 = .ok (.string LO) w2 := (by rw [← HLO.out]; exact conv_own (w := w2) (v := v) (acc := List.replicate 61 97) (by simpa using hown))))
  clear hcv hown
  have s2 : ¬ 9223372036854775807 < 2 + LO.size := by omega
  have s3 : ¬ 9223372036854775807 < 2 + LO.size + 7 := by omega
  have s4 : ¬ 9223372036854775807 < 4 + LO.size := by omega
  have s5 : ¬ 9223372036854775807 < 4 + LO.size + 5 := by omega
  go_upto_region 7 with fail
  have hA0 : Blk (w2.alloc (.cells #[.string (⟨#[109, 59, 97, 61, 49, 59, 97, 61, 49, 32, 49, 32, 50, 10]⟩), .string (⟨#[109, 32, 49, 32, 50, 10, 109, 32, 53, 32, 50, 10]⟩), .string (LO ++ ⟨#[32, 49, 32, 50, 10]⟩), .string (⟨#[109, 59]⟩ ++ LO ++ ⟨#[61, 49, 32, 49, 32, 50, 10]⟩), .string (⟨#[109, 59, 97, 61]⟩ ++ LO ++ ⟨#[32, 49, 32, 50, 10]⟩), .string (⟨#[109, 32, 57, 50, 50, 51, 51, 55, 50, 48, 51, 54, 56, 53, 52, 55, 55, 53, 56, 48, 56, 32, 50, 10]⟩), .string (⟨#[109, 32, 49, 32, 49, 49, 50, 53, 56, 57, 57, 57, 48, 54, 56, 52, 51, 10]⟩), .string (⟨#[109, 59, 97, 61, 49, 59, 98, 61, 49, 59, 99, 61, 49, 59, 100, 61, 49, 59, 101, 61, 49, 59, 102, 61, 49, 59, 103, 61, 49, 59, 104, 61, 49, 59, 105, 61, 49, 32, 49, 32, 50, 10]⟩), .string (⟨#[109, 46, 32, 49, 32, 50, 10]⟩), .string (⟨#[109, 59, 97, 61, 32, 49, 32, 50, 10]⟩), .string (⟨#[109, 32, 49, 32, 50, 46, 48, 10]⟩)] 9)) w2.heap.size 9 rowsC := by rw [HR.out]; exact Blk.new w2 _ _
  have hA := (hA0.alloc (.cells #[.int .i64 13, .int .i64 13, .int .i64 14, .int .i64 14, .int .i64 14, .int .i64 12, .int .i64 12, .int .i64 14, .int .i64 11, .int .i64 11, .int .i64 11] 42)).alloc (.cells #[.int .i64 6, .int .i64 6, .int .i64 0, .int .i64 2, .int .i64 4, .int .i64 2, .int .i64 4, .int .i64 34, .int .i64 2, .int .i64 4, .int .i64 5] 3)
  have hB : Blk ((w2.alloc (.cells #[.string (⟨#[109, 59, 97, 61, 49, 59, 97, 61, 49, 32, 49, 32, 50, 10]⟩), .string (⟨#[109, 32, 49, 32, 50, 10, 109, 32, 53, 32, 50, 10]⟩), .string (LO ++ ⟨#[32, 49, 32, 50, 10]⟩), .string (⟨#[109, 59]⟩ ++ LO ++ ⟨#[61, 49, 32, 49, 32, 50, 10]⟩), .string (⟨#[109, 59, 97, 61]⟩ ++ LO ++ ⟨#[32, 49, 32, 50, 10]⟩), .string (⟨#[109, 32, 57, 50, 50, 51, 51, 55, 50, 48, 51, 54, 56, 53, 52, 55, 55, 53, 56, 48, 56, 32, 50, 10]⟩), .string (⟨#[109, 32, 49, 32, 49, 49, 50, 53, 56, 57, 57, 57, 48, 54, 56, 52, 51, 10]⟩), .string (⟨#[109, 59, 97, 61, 49, 59, 98, 61, 49, 59, 99, 61, 49, 59, 100, 61, 49, 59, 101, 61, 49, 59, 102, 61, 49, 59, 103, 61, 49, 59, 104, 61, 49, 59, 105, 61, 49, 32, 49, 32, 50, 10]⟩), .string (⟨#[109, 46, 32, 49, 32, 50, 10]⟩), .string (⟨#[109, 59, 97, 61, 32, 49, 32, 50, 10]⟩), .string (⟨#[109, 32, 49, 32, 50, 46, 48, 10]⟩)] 9)).alloc (.cells #[.int .i64 13, .int .i64 13, .int .i64 14, .int .i64 14, .int .i64 14, .int .i64 12, .int .i64 12, .int .i64 14, .int .i64 11, .int .i64 11, .int .i64 11] 42)) (w2.heap.size + 1) 42 codesC := by
    have e2 : codesC = #[.int .i64 13, .int .i64 13, .int .i64 14, .int .i64 14, .int .i64 14, .int .i64 12, .int .i64 12, .int .i64 14, .int .i64 11, .int .i64 11, .int .i64 11] := rfl
    rw [e2]
    have := Blk.new (w2.alloc (.cells #[.string (⟨#[109, 59, 97, 61, 49, 59, 97, 61, 49, 32, 49, 32, 50, 10]⟩), .string (⟨#[109, 32, 49, 32, 50, 10, 109, 32, 53, 32, 50, 10]⟩), .string (LO ++ ⟨#[32, 49, 32, 50, 10]⟩), .string (⟨#[109, 59]⟩ ++ LO ++ ⟨#[61, 49, 32, 49, 32, 50, 10]⟩), .string (⟨#[109, 59, 97, 61]⟩ ++ LO ++ ⟨#[32, 49, 32, 50, 10]⟩), .string (⟨#[109, 32, 57, 50, 50, 51, 51, 55, 50, 48, 51, 54, 56, 53, 52, 55, 55, 53, 56, 48, 56, 32, 50, 10]⟩), .string (⟨#[109, 32, 49, 32, 49, 49, 50, 53, 56, 57, 57, 57, 48, 54, 56, 52, 51, 10]⟩), .string (⟨#[109, 59, 97, 61, 49, 59, 98, 61, 49, 59, 99, 61, 49, 59, 100, 61, 49, 59, 101, 61, 49, 59, 102, 61, 49, 59, 103, 61, 49, 59, 104, 61, 49, 59, 105, 61, 49, 32, 49, 32, 50, 10]⟩), .string (⟨#[109, 46, 32, 49, 32, 50, 10]⟩), .string (⟨#[109, 59, 97, 61, 32, 49, 32, 50, 10]⟩), .string (⟨#[109, 32, 49, 32, 50, 46, 48, 10]⟩)] 9)) 42 #[.int .i64 13, .int .i64 13, .int .i64 14, .int .i64 14, .int .i64 14, .int .i64 12, .int .i64 12, .int .i64 14, .int .i64 11, .int .i64 11, .int .i64 11]
    simpa using this
  have hB := hB.alloc (.cells #[.int .i64 6, .int .i64 6, .int .i64 0, .int .i64 2, .int .i64 4, .int .i64 2, .int .i64 4, .int .i64 34, .int .i64 2, .int .i64 4, .int .i64 5] 3)
  have hC : Blk (((w2.alloc (.cells #[.string (⟨#[109, 59, 97, 61, 49, 59, 97, 61, 49, 32, 49, 32, 50, 10]⟩), .string (⟨#[109, 32, 49, 32, 50, 10, 109, 32, 53, 32, 50, 10]⟩), .string (LO ++ ⟨#[32, 49, 32, 50, 10]⟩), .string (⟨#[109, 59]⟩ ++ LO ++ ⟨#[61, 49, 32, 49, 32, 50, 10]⟩), .string (⟨#[109, 59, 97, 61]⟩ ++ LO ++ ⟨#[32, 49, 32, 50, 10]⟩), .string (⟨#[109, 32, 57, 50, 50, 51, 51, 55, 50, 48, 51, 54, 56, 53, 52, 55, 55, 53, 56, 48, 56, 32, 50, 10]⟩), .string (⟨#[109, 32, 49, 32, 49, 49, 50, 53, 56, 57, 57, 57, 48, 54, 56, 52, 51, 10]⟩), .string (⟨#[109, 59, 97, 61, 49, 59, 98, 61, 49, 59, 99, 61, 49, 59, 100, 61, 49, 59, 101, 61, 49, 59, 102, 61, 49, 59, 103, 61, 49, 59, 104, 61, 49, 59, 105, 61, 49, 32, 49, 32, 50, 10]⟩), .string (⟨#[109, 46, 32, 49, 32, 50, 10]⟩), .string (⟨#[109, 59, 97, 61, 32, 49, 32, 50, 10]⟩), .string (⟨#[109, 32, 49, 32, 50, 46, 48, 10]⟩)] 9)).alloc (.cells #[.int .i64 13, .int .i64 13, .int .i64 14, .int .i64 14, .int .i64 14, .int .i64 12, .int .i64 12, .int .i64 14, .int .i64 11, .int .i64 11, .int .i64 11] 42)).alloc (.cells #[.int .i64 6, .int .i64 6, .int .i64 0, .int .i64 2, .int .i64 4, .int .i64 2, .int .i64 4, .int .i64 34, .int .i64 2, .int .i64 4, .int .i64 5] 3)) (w2.heap.size + 1 + 1) 3 offsC := by
    have e3 : offsC = #[.int .i64 6, .int .i64 6, .int .i64 0, .int .i64 2, .int .i64 4, .int .i64 2, .int .i64 4, .int .i64 34, .int .i64 2, .int .i64 4, .int .i64 5] := rfl
    rw [e3]
    have := Blk.new ((w2.alloc (.cells #[.string (⟨#[109, 59, 97, 61, 49, 59, 97, 61, 49, 32, 49, 32, 50, 10]⟩), .string (⟨#[109, 32, 49, 32, 50, 10, 109, 32, 53, 32, 50, 10]⟩), .string (LO ++ ⟨#[32, 49, 32, 50, 10]⟩), .string (⟨#[109, 59]⟩ ++ LO ++ ⟨#[61, 49, 32, 49, 32, 50, 10]⟩), .string (⟨#[109, 59, 97, 61]⟩ ++ LO ++ ⟨#[32, 49, 32, 50, 10]⟩), .string (⟨#[109, 32, 57, 50, 50, 51, 51, 55, 50, 48, 51, 54, 56, 53, 52, 55, 55, 53, 56, 48, 56, 32, 50, 10]⟩), .string (⟨#[109, 32, 49, 32, 49, 49, 50, 53, 56, 57, 57, 57, 48, 54, 56, 52, 51, 10]⟩), .string (⟨#[109, 59, 97, 61, 49, 59, 98, 61, 49, 59, 99, 61, 49, 59, 100, 61, 49, 59, 101, 61, 49, 59, 102, 61, 49, 59, 103, 61, 49, 59, 104, 61, 49, 59, 105, 61, 49, 32, 49, 32, 50, 10]⟩), .string (⟨#[109, 46, 32, 49, 32, 50, 10]⟩), .string (⟨#[109, 59, 97, 61, 32, 49, 32, 50, 10]⟩), .string (⟨#[109, 32, 49, 32, 50, 46, 48, 10]⟩)] 9)).alloc (.cells #[.int .i64 13, .int .i64 13, .int .i64 14, .int .i64 14, .int .i64 14, .int .i64 12, .int .i64 12, .int .i64 14, .int .i64 11, .int .i64 11, .int .i64 11] 42)) 3 #[.int .i64 6, .int .i64 6, .int .i64 0, .int .i64 2, .int .i64 4, .int .i64 2, .int .i64 4, .int .i64 34, .int .i64 2, .int .i64 4, .int .i64 5]
    simpa using this
  have hbl : Below w.heap.size w (((w2.alloc (.cells #[.string (⟨#[109, 59, 97, 61, 49, 59, 97, 61, 49, 32, 49, 32, 50, 10]⟩), .string (⟨#[109, 32, 49, 32, 50, 10, 109, 32, 53, 32, 50, 10]⟩), .string (LO ++ ⟨#[32, 49, 32, 50, 10]⟩), .string (⟨#[109, 59]⟩ ++ LO ++ ⟨#[61, 49, 32, 49, 32, 50, 10]⟩), .string (⟨#[109, 59, 97, 61]⟩ ++ LO ++ ⟨#[32, 49, 32, 50, 10]⟩), .string (⟨#[109, 32, 57, 50, 50, 51, 51, 55, 50, 48, 51, 54, 56, 53, 52, 55, 55, 53, 56, 48, 56, 32, 50, 10]⟩), .string (⟨#[109, 32, 49, 32, 49, 49, 50, 53, 56, 57, 57, 57, 48, 54, 56, 52, 51, 10]⟩), .string (⟨#[109, 59, 97, 61, 49, 59, 98, 61, 49, 59, 99, 61, 49, 59, 100, 61, 49, 59, 101, 61, 49, 59, 102, 61, 49, 59, 103, 61, 49, 59, 104, 61, 49, 59, 105, 61, 49, 32, 49, 32, 50, 10]⟩), .string (⟨#[109, 46, 32, 49, 32, 50, 10]⟩), .string (⟨#[109, 59, 97, 61, 32, 49, 32, 50, 10]⟩), .string (⟨#[109, 32, 49, 32, 50, 46, 48, 10]⟩)] 9)).alloc (.cells #[.int .i64 13, .int .i64 13, .int .i64 14, .int .i64 14, .int .i64 14, .int .i64 12, .int .i64 12, .int .i64 14, .int .i64 11, .int .i64 11, .int .i64 11] 42)).alloc (.cells #[.int .i64 6, .int .i64 6, .int .i64 0, .int .i64 2, .int .i64 4, .int .i64 2, .int .i64 4, .int .i64 34, .int .i64 2, .int .i64 4, .int .i64 5] 3)) := bl_alloc (bl_alloc (bl_alloc (bl_any hb1 hb2) _) _) _
  generalize ((w2.alloc (.cells #[.string (⟨#[109, 59, 97, 61, 49, 59, 97, 61, 49, 32, 49, 32, 50, 10]⟩), .string (⟨#[109, 32, 49, 32, 50, 10, 109, 32, 53, 32, 50, 10]⟩), .string (LO ++ ⟨#[32, 49, 32, 50, 10]⟩), .string (⟨#[109, 59]⟩ ++ LO ++ ⟨#[61, 49, 32, 49, 32, 50, 10]⟩), .string (⟨#[109, 59, 97, 61]⟩ ++ LO ++ ⟨#[32, 49, 32, 50, 10]⟩), .string (⟨#[109, 32, 57, 50, 50, 51, 51, 55, 50, 48, 51, 54, 56, 53, 52, 55, 55, 53, 56, 48, 56, 32, 50, 10]⟩), .string (⟨#[109, 32, 49, 32, 49, 49, 50, 53, 56, 57, 57, 57, 48, 54, 56, 52, 51, 10]⟩), .string (⟨#[109, 59, 97, 61, 49, 59, 98, 61, 49, 59, 99, 61, 49, 59, 100, 61, 49, 59, 101, 61, 49, 59, 102, 61, 49, 59, 103, 61, 49, 59, 104, 61, 49, 59, 105, 61, 49, 32, 49, 32, 50, 10]⟩), .string (⟨#[109, 46, 32, 49, 32, 50, 10]⟩), .string (⟨#[109, 59, 97, 61, 32, 49, 32, 50, 10]⟩), .string (⟨#[109, 32, 49, 32, 50, 46, 48, 10]⟩)] 9)).alloc (.cells #[.int .i64 13, .int .i64 13, .int .i64 14, .int .i64 14, .int .i64 14, .int .i64 12, .int .i64 12, .int .i64 14, .int .i64 11, .int .i64 11, .int .i64 11] 42)).alloc (.cells #[.int .i64 6, .int .i64 6, .int .i64 0, .int .i64 2, .int .i64 4, .int .i64 2, .int .i64 4, .int .i64 34, .int .i64 2, .int .i64 4, .int .i64 5] 3) = W at *
  generalize w2.heap.size = b at *
  clear hA0 hb1 hb2
  obtain ⟨k, hk⟩ : ∃ k : Nat, h.tmod 11 = (k : Int) := ⟨(h.tmod 11).toNat, by rw [Int.toNat_of_nonneg]; rw [Int.tmod_eq_emod_of_nonneg h0]; omega⟩
  have hk11 : k < 11 := by rw [Int.tmod_eq_emod_of_nonneg h0] at hk; omega
  have wk : IntKind.i64.wrap (k : Int) = (k : Int) := IntWalk.i64_in _ (by omega)
  have wh : IntKind.i64.wrap h = h := IntWalk.i64_in _ (by omega)
  obtain ⟨t1, t2⟩ := once_atD hk11
  have ts := once_sizeD hk11
  have cA := (Blk.cell hA k).trans (rowsC_at hk11)
  have cB := (Blk.cell hB k).trans (codesC_at hk11)
  have cC := (Blk.cell hC k).trans (offsC_at hk11)
  have k0 : (0 : Int) ≤ k := by omega
  have k1 : (k : Int) < 11 := by omega
  have hz : (⟨#[122, 32, 49, 32, 50, 10]⟩ : ByteArray).size = 6 := rfl
  have ho : offsOD.getD k 0 ≤ 34 := by
    have : ((List.range 11).all fun k => decide (offsOD.getD k 0 ≤ 34)) = true := by decide +kernel
    exact of_decide_eq_true (List.all_eq_true.1 this k (List.mem_range.2 hk11))
  have ck := codesC_at hk11
  generalize rowsOD.getD k ⟨#[]⟩ = S at *
  generalize codesOD.getD k 0 = cd at *
  generalize offsOD.getD k 0 = of_ at *
  go_upto_region 8 with fail
  go_quiet (fail)
  have ef := fun a0 a1 a2 a3 b0 b1 b2 b3 w => eqFault a0 a1 a2 a3 b0 b1 b2 b3 w
  cases ahead
  case false =>
    have kR : ∀ W, MxAt W m → Calls Tryz.prog 14 #[.string S, .slice none 0 0] W fun en w' => en = .returned (.tuple #[.slice none 0 0, .agg #[.int .i64 (cd : Int), .int .i64 (fltO cd S of_), .int .i64 (fltL cd S of_), .int .i64 (fltC cd S of_)]]) ∧ Below W.heap.size W w' := fun W hW => by
      have h := dread24_any S none 0 [] m W (by omega) (rules_none hW) (by rw [List.map_nil, t1]; intro gs hg; cases hg)
      rw [List.map_nil, t1] at h
      simp only [ReadDP] at h
      exact h
    have kAt := fun W => spAt_any (cd : Int) S (of_ : Int) W (by omega)
    go_wp2_with fail
    go_upto_region 12 with (go_at_call 14; (with_reducible refine (kR _ (hm.below (bl_drewN hbl _))).mono ?_); rintro en w3 ⟨rfl, hb3⟩)
    have hOn : OnS w (w3.alloc (.cells #[.int .i64 (cd : Int), .int .i64 (fltO cd S of_), .int .i64 (fltL cd S of_), .int .i64 (fltC cd S of_)] 46)) w3.heap.size (b + 1) k (cd : Int) (fltO cd S of_) (fltL cd S of_) (fltC cd S of_) :=
      ⟨Blk.new w3 _ _, ((Blk.drewN hB _).below hb3 (Blk.lt hB)).alloc _, ck, bl_alloc (bl_any (bl_drewN hbl _) hb3) _⟩
    generalize w3.alloc (.cells #[.int .i64 (cd : Int), .int .i64 (fltO cd S of_), .int .i64 (fltL cd S of_), .int .i64 (fltC cd S of_)] 46) = W4 at *
    generalize w3.heap.size = f at *
    clear hb3 kR cA cB cC
    generalize fltO cd S of_ = fo at *
    generalize fltL cd S of_ = fl at *
    generalize fltC cd S of_ = fc at *
    go_region_held3 (fun w' => (w'.cell? ⟨f, 0, none⟩ = some (.int .i64 (cd : Int)) ∧ w'.cell? ⟨f, 1, none⟩ = some (.int .i64 fo) ∧ w'.cell? ⟨f, 2, none⟩ = some (.int .i64 fl) ∧ w'.cell? ⟨f, 3, none⟩ = some (.int .i64 fc) ∧ w'.cell? ⟨b + 1, k, none⟩ = some (.int .i64 (cd : Int))) ∧ OnS w w' f (b + 1) k (cd : Int) fo fl fc) (first | (with_reducible assumption) | (with_reducible exact hOn.drew.fs)) (first
      | (go_at_call 19; (with_reducible refine (kAt _).mono ?_); rintro en w5 ⟨rfl, hb5⟩; have S5 := (OnS.below (And.right (by with_reducible assumption)) hb5).fs))
    all_goals
      rename_i hHeld
      obtain ⟨_, hY⟩ := hHeld
      go_wp2_with fail
      go_ret
      exact ⟨rfl, hY.bl⟩
  case true =>
    have hzs : (⟨#[122, 32, 49, 32, 50, 10]⟩ ++ S : ByteArray).size = 6 + S.size := by rw [ByteArray.size_append]; rfl
    have l1 : ¬ 9223372036854775807 < 6 + S.size := by omega
    have w6 : IntKind.i64.wrap ((of_ : Int) + 6) = (of_ : Int) + 6 := IntWalk.i64_in _ (by omega)
    have kR : ∀ W, MxAt W m → Calls Tryz.prog 14 #[.string (⟨#[122, 32, 49, 32, 50, 10]⟩ ++ S), .slice none 0 0] W fun en w' => en = .returned (.tuple #[.slice none 0 0, .agg #[.int .i64 (cd : Int), .int .i64 (fltO cd (⟨#[122, 32, 49, 32, 50, 10]⟩ ++ S) ((of_ : Int) + 6)), .int .i64 (fltL cd (⟨#[122, 32, 49, 32, 50, 10]⟩ ++ S) ((of_ : Int) + 6)), .int .i64 (fltC cd (⟨#[122, 32, 49, 32, 50, 10]⟩ ++ S) ((of_ : Int) + 6))]]) ∧ Below W.heap.size W w' := fun W hW => by
      have h := dread24_any (⟨#[122, 32, 49, 32, 50, 10]⟩ ++ S) none 0 [] m W (by omega) (rules_none hW) (by rw [List.map_nil, t2]; intro gs hg; cases hg)
      rw [List.map_nil, t2] at h
      simp only [ReadDP] at h
      rw [show ((of_ + 6 : Nat) : Int) = (of_ : Int) + 6 by omega] at h
      exact h
    have kAt := fun W => spAt_any (cd : Int) (⟨#[122, 32, 49, 32, 50, 10]⟩ ++ S) ((of_ : Int) + 6) W (by omega)
    clear t1 t2
    generalize hT : (⟨#[122, 32, 49, 32, 50, 10]⟩ ++ S : ByteArray) = T at *
    go_wp2_with fail
    go_upto_region 12 with (go_at_call 14; (with_reducible refine (kR _ (hm.below (bl_drewN hbl _))).mono ?_); rintro en w3 ⟨rfl, hb3⟩)
    have hOn : OnS w (w3.alloc (.cells #[.int .i64 (cd : Int), .int .i64 (fltO cd T ((of_ : Int) + 6)), .int .i64 (fltL cd T ((of_ : Int) + 6)), .int .i64 (fltC cd T ((of_ : Int) + 6))] 46)) w3.heap.size (b + 1) k (cd : Int) (fltO cd T ((of_ : Int) + 6)) (fltL cd T ((of_ : Int) + 6)) (fltC cd T ((of_ : Int) + 6)) :=
      ⟨Blk.new w3 _ _, ((Blk.drewN hB _).below hb3 (Blk.lt hB)).alloc _, ck, bl_alloc (bl_any (bl_drewN hbl _) hb3) _⟩
    generalize w3.alloc (.cells #[.int .i64 (cd : Int), .int .i64 (fltO cd T ((of_ : Int) + 6)), .int .i64 (fltL cd T ((of_ : Int) + 6)), .int .i64 (fltC cd T ((of_ : Int) + 6))] 46) = W4 at *
    generalize w3.heap.size = f at *
    clear hb3 kR cA cB cC
    generalize fltO cd T ((of_ : Int) + 6) = fo at *
    generalize fltL cd T ((of_ : Int) + 6) = fl at *
    generalize fltC cd T ((of_ : Int) + 6) = fc at *
    go_region_held3 (fun w' => (w'.cell? ⟨f, 0, none⟩ = some (.int .i64 (cd : Int)) ∧ w'.cell? ⟨f, 1, none⟩ = some (.int .i64 fo) ∧ w'.cell? ⟨f, 2, none⟩ = some (.int .i64 fl) ∧ w'.cell? ⟨f, 3, none⟩ = some (.int .i64 fc) ∧ w'.cell? ⟨b + 1, k, none⟩ = some (.int .i64 (cd : Int))) ∧ OnS w w' f (b + 1) k (cd : Int) fo fl fc) (first | (with_reducible assumption) | (with_reducible exact hOn.drew.fs)) (first
      | (go_at_call 19; (with_reducible refine (kAt _).mono ?_); rintro en w5 ⟨rfl, hb5⟩; have S5 := (OnS.below (And.right (by with_reducible assumption)) hb5).fs))
    all_goals
      rename_i hHeld
      obtain ⟨_, hY⟩ := hHeld
      go_wp2_with fail
      go_ret
      exact ⟨rfl, hY.bl⟩
end
end Go.Proofs.YtoplengednoldaaGreatDoor
