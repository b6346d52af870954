/- The walk of StatOnce. -/
import Derived.Test.YtpknjngjkdnpiaaGreatDoorS26ot
import Derived.Test.YtpknjngjkdnpiaaGreatDoorMgEvB
import Derived.Test.YtpknjngjkdnpiaaGreatDoorMany
namespace Go.Proofs.YtpknjngjkdnpiaaGreatDoor
set_option linter.unusedVariables false
set_option linter.unusedSimpArgs false
open Go.RowKit
def rowsC : Array Value := (rowsO.map Value.string).toArray
def codesC : Array Value := (codesO.map fun (c : Nat) => Value.int .i64 (c : Int)).toArray
def offsC : Array Value := (offsO.map fun (c : Nat) => Value.int .i64 (c : Int)).toArray
theorem rowsC_at {k : Nat} (h : k < 16) : rowsC[k]? = some (.string (rowsO.getD k ⟨#[]⟩)) := by
  have hl : rowsO.length = 16 := rfl
  unfold rowsC
  rw [List.getElem?_toArray, List.getElem?_map, List.getD_eq_getElem?_getD, List.getElem?_eq_getElem (by omega)]; rfl
theorem codesC_at {k : Nat} (h : k < 16) : codesC[k]? = some (.int .i64 (codesO.getD k 0 : Nat)) := by
  have hl : codesO.length = 16 := rfl
  unfold codesC
  rw [List.getElem?_toArray, List.getElem?_map, List.getD_eq_getElem?_getD, List.getElem?_eq_getElem (by omega)]; rfl
theorem offsC_at {k : Nat} (h : k < 16) : offsC[k]? = some (.int .i64 (offsO.getD k 0 : Nat)) := by
  have hl : offsO.length = 16 := rfl
  unfold offsC
  rw [List.getElem?_toArray, List.getElem?_map, List.getD_eq_getElem?_getD, List.getElem?_eq_getElem (by omega)]; rfl
/-- What stands while a fault is held against another one. -/
structure OnS (w0 w : World) (f b k : Nat) (c : Int) (o l q : Int) : Prop where
  fb : Blk w f 42 #[.int .i64 c, .int .i64 o, .int .i64 l, .int .i64 q]
  cb : Blk w b 38 codesC
  ck : codesC[k]? = some (.int .i64 c)
  bl : Below w0.heap.size w0 w
theorem OnS.below {w0 w w' : World} {f b k : Nat} {c o l q : Int} (h : OnS w0 w f b k c o l q) (a : Below w.heap.size w w') : OnS w0 w' f b k c o l q :=
  ⟨h.fb.below a (Blk.lt h.fb), h.cb.below a (Blk.lt h.cb), h.ck, bl_any h.bl a⟩
theorem OnS.drew {w0 w : World} {f b k : Nat} {c o l q : Int} (h : OnS w0 w f b k c o l q) : OnS w0 w.drew f b k c o l q := ⟨h.fb, h.cb, h.ck, h.bl.drew⟩
theorem OnS.fs {w0 w : World} {f b k : Nat} {c o l q : Int} (h : OnS w0 w f b k c o l q) : (w.cell? ⟨f, 0, none⟩ = some (.int .i64 c) ∧ w.cell? ⟨f, 1, none⟩ = some (.int .i64 o) ∧ w.cell? ⟨f, 2, none⟩ = some (.int .i64 l) ∧ w.cell? ⟨f, 3, none⟩ = some (.int .i64 q) ∧ w.cell? ⟨b, k, none⟩ = some (.int .i64 c)) ∧ OnS w0 w f b k c o l q :=
  ⟨⟨(Blk.cell h.fb 0).trans rfl, (Blk.cell h.fb 1).trans rfl, (Blk.cell h.fb 2).trans rfl, (Blk.cell h.fb 3).trans rfl, (Blk.cell h.cb k).trans h.ck⟩, h⟩
theorem longO_size : longO.size = 61 := by decide +kernel
set_option maxRecDepth 100000 in
set_option maxHeartbeats 6400000 in
theorem once26_any (h : Int) (ahead : Bool) (w : World) (h0 : 0 ≤ h) (h1 : h ≤ 255) :
    Calls Tryz.prog 7 #[.int .u8 h, .bool ahead] w fun e w' => e = .returned (.bool true) ∧ Below w.heap.size w w' := by
  have kM : ∀ W, Calls Tryz.prog 19 #[.int .u8 97, .int .i64 61] W fun e w' => (∃ v, e = .returned v ∧ w'.ownsRow W.heap.size 5 1 v 61 (Lib.byteCells (List.replicate 61 97))) ∧ Below W.heap.size W w' := fun W => many_any 97 61 (by decide) W
  have hLs := longO_size
  have hLr : rowsC = #[.string (⟨#[109, 58, 120, 124, 99, 10]⟩), .string (⟨#[109, 58, 49, 124, 99, 124, 64, 48, 10]⟩), .string (⟨#[109, 58, 49, 124, 99, 124, 64, 49, 46, 49, 10]⟩), .string (⟨#[109, 58, 49, 124, 99, 124, 64, 48, 46, 51, 10]⟩), .string (⟨#[109, 58, 49, 124, 115, 124, 64, 48, 46, 53, 10]⟩), .string (⟨#[109, 58, 45, 49, 124, 109, 115, 10]⟩), .string (⟨#[109, 58, 43, 45, 49, 124, 103, 10]⟩), .string (⟨#[109, 58, 49, 124, 99, 124, 35, 97, 58, 49, 44, 97, 58, 50, 10]⟩), .string (longO ++ ⟨#[58, 49, 124, 99, 10]⟩), .string (⟨#[109, 58]⟩ ++ longO ++ ⟨#[124, 115, 10]⟩), .string (⟨#[109, 58, 49, 124, 99, 124, 35]⟩ ++ longO ++ ⟨#[58, 49, 10]⟩), .string (⟨#[109, 58, 49, 124, 99, 124, 35, 97, 58]⟩ ++ longO ++ ⟨#[10]⟩), .string (⟨#[109, 58, 57, 50, 50, 51, 51, 55, 50, 48, 51, 54, 56, 53, 52, 55, 55, 53, 56, 48, 56, 124, 103, 10]⟩), .string (⟨#[109, 58, 51, 124, 109, 115, 124, 64, 48, 46, 54, 10]⟩), .string (⟨#[109, 58, 49, 124, 120, 10]⟩), .string (⟨#[109, 58, 43, 49, 124, 99, 10]⟩)] := rfl
  generalize hLO : longO = LO at *
  have HR := Lib.hid hLr
  have HLO := Lib.hid hLO
  clear hLr hLO
  have s1 : ¬ 9223372036854775807 < LO.size + 5 := by omega
  go_enter Tryz.func7, Tryz.ntmps7
  go_upto_region 4 with (first
    | (go_at_call 9; (with_reducible refine (known26_any _).mono ?_); rintro en w1 ⟨rfl, hb1⟩)
    | (go_at_call 19; (with_reducible refine (kM _).mono ?_); rintro en w2 ⟨⟨v, rfl, hown⟩, hb2⟩; have hcv : (convert 51 9 v).run Tryz.prog w2 = .ok (.string LO) w2 := (by rw [← HLO.out]; exact conv_own (w := w2) (v := v) (acc := List.replicate 61 97) (by simpa using hown))))
  clear hcv hown
  have s2 : ¬ 9223372036854775807 < 2 + LO.size := by omega
  go_upto_region 7 with fail
  have hA0 : Blk (w2.alloc (.cells #[.string (⟨#[109, 58, 120, 124, 99, 10]⟩), .string (⟨#[109, 58, 49, 124, 99, 124, 64, 48, 10]⟩), .string (⟨#[109, 58, 49, 124, 99, 124, 64, 49, 46, 49, 10]⟩), .string (⟨#[109, 58, 49, 124, 99, 124, 64, 48, 46, 51, 10]⟩), .string (⟨#[109, 58, 49, 124, 115, 124, 64, 48, 46, 53, 10]⟩), .string (⟨#[109, 58, 45, 49, 124, 109, 115, 10]⟩), .string (⟨#[109, 58, 43, 45, 49, 124, 103, 10]⟩), .string (⟨#[109, 58, 49, 124, 99, 124, 35, 97, 58, 49, 44, 97, 58, 50, 10]⟩), .string (LO ++ ⟨#[58, 49, 124, 99, 10]⟩), .string (⟨#[109, 58]⟩ ++ LO ++ ⟨#[124, 115, 10]⟩), .string (⟨#[109, 58, 49, 124, 99, 124, 35]⟩ ++ LO ++ ⟨#[58, 49, 10]⟩), .string (⟨#[109, 58, 49, 124, 99, 124, 35, 97, 58]⟩ ++ LO ++ ⟨#[10]⟩), .string (⟨#[109, 58, 57, 50, 50, 51, 51, 55, 50, 48, 51, 54, 56, 53, 52, 55, 55, 53, 56, 48, 56, 124, 103, 10]⟩), .string (⟨#[109, 58, 51, 124, 109, 115, 124, 64, 48, 46, 54, 10]⟩), .string (⟨#[109, 58, 49, 124, 120, 10]⟩), .string (⟨#[109, 58, 43, 49, 124, 99, 10]⟩)] 9)) w2.heap.size 9 rowsC := by rw [HR.out]; exact Blk.new w2 _ _
  have hA := (hA0.alloc (.cells #[.int .i64 13, .int .i64 12, .int .i64 12, .int .i64 12, .int .i64 13, .int .i64 12, .int .i64 13, .int .i64 13, .int .i64 14, .int .i64 14, .int .i64 14, .int .i64 14, .int .i64 12, .int .i64 12, .int .i64 11, .int .i64 13] 38)).alloc (.cells #[.int .i64 2, .int .i64 7, .int .i64 7, .int .i64 7, .int .i64 7, .int .i64 2, .int .i64 2, .int .i64 11, .int .i64 0, .int .i64 2, .int .i64 7, .int .i64 9, .int .i64 2, .int .i64 8, .int .i64 4, .int .i64 2] 3)
  have hB : Blk ((w2.alloc (.cells #[.string (⟨#[109, 58, 120, 124, 99, 10]⟩), .string (⟨#[109, 58, 49, 124, 99, 124, 64, 48, 10]⟩), .string (⟨#[109, 58, 49, 124, 99, 124, 64, 49, 46, 49, 10]⟩), .string (⟨#[109, 58, 49, 124, 99, 124, 64, 48, 46, 51, 10]⟩), .string (⟨#[109, 58, 49, 124, 115, 124, 64, 48, 46, 53, 10]⟩), .string (⟨#[109, 58, 45, 49, 124, 109, 115, 10]⟩), .string (⟨#[109, 58, 43, 45, 49, 124, 103, 10]⟩), .string (⟨#[109, 58, 49, 124, 99, 124, 35, 97, 58, 49, 44, 97, 58, 50, 10]⟩), .string (LO ++ ⟨#[58, 49, 124, 99, 10]⟩), .string (⟨#[109, 58]⟩ ++ LO ++ ⟨#[124, 115, 10]⟩), .string (⟨#[109, 58, 49, 124, 99, 124, 35]⟩ ++ LO ++ ⟨#[58, 49, 10]⟩), .string (⟨#[109, 58, 49, 124, 99, 124, 35, 97, 58]⟩ ++ LO ++ ⟨#[10]⟩), .string (⟨#[109, 58, 57, 50, 50, 51, 51, 55, 50, 48, 51, 54, 56, 53, 52, 55, 55, 53, 56, 48, 56, 124, 103, 10]⟩), .string (⟨#[109, 58, 51, 124, 109, 115, 124, 64, 48, 46, 54, 10]⟩), .string (⟨#[109, 58, 49, 124, 120, 10]⟩), .string (⟨#[109, 58, 43, 49, 124, 99, 10]⟩)] 9)).alloc (.cells #[.int .i64 13, .int .i64 12, .int .i64 12, .int .i64 12, .int .i64 13, .int .i64 12, .int .i64 13, .int .i64 13, .int .i64 14, .int .i64 14, .int .i64 14, .int .i64 14, .int .i64 12, .int .i64 12, .int .i64 11, .int .i64 13] 38)) (w2.heap.size + 1) 38 codesC := by
    have e2 : codesC = #[.int .i64 13, .int .i64 12, .int .i64 12, .int .i64 12, .int .i64 13, .int .i64 12, .int .i64 13, .int .i64 13, .int .i64 14, .int .i64 14, .int .i64 14, .int .i64 14, .int .i64 12, .int .i64 12, .int .i64 11, .int .i64 13] := rfl
    rw [e2]
    have := Blk.new (w2.alloc (.cells #[.string (⟨#[109, 58, 120, 124, 99, 10]⟩), .string (⟨#[109, 58, 49, 124, 99, 124, 64, 48, 10]⟩), .string (⟨#[109, 58, 49, 124, 99, 124, 64, 49, 46, 49, 10]⟩), .string (⟨#[109, 58, 49, 124, 99, 124, 64, 48, 46, 51, 10]⟩), .string (⟨#[109, 58, 49, 124, 115, 124, 64, 48, 46, 53, 10]⟩), .string (⟨#[109, 58, 45, 49, 124, 109, 115, 10]⟩), .string (⟨#[109, 58, 43, 45, 49, 124, 103, 10]⟩), .string (⟨#[109, 58, 49, 124, 99, 124, 35, 97, 58, 49, 44, 97, 58, 50, 10]⟩), .string (LO ++ ⟨#[58, 49, 124, 99, 10]⟩), .string (⟨#[109, 58]⟩ ++ LO ++ ⟨#[124, 115, 10]⟩), .string (⟨#[109, 58, 49, 124, 99, 124, 35]⟩ ++ LO ++ ⟨#[58, 49, 10]⟩), .string (⟨#[109, 58, 49, 124, 99, 124, 35, 97, 58]⟩ ++ LO ++ ⟨#[10]⟩), .string (⟨#[109, 58, 57, 50, 50, 51, 51, 55, 50, 48, 51, 54, 56, 53, 52, 55, 55, 53, 56, 48, 56, 124, 103, 10]⟩), .string (⟨#[109, 58, 51, 124, 109, 115, 124, 64, 48, 46, 54, 10]⟩), .string (⟨#[109, 58, 49, 124, 120, 10]⟩), .string (⟨#[109, 58, 43, 49, 124, 99, 10]⟩)] 9)) 38 #[.int .i64 13, .int .i64 12, .int .i64 12, .int .i64 12, .int .i64 13, .int .i64 12, .int .i64 13, .int .i64 13, .int .i64 14, .int .i64 14, .int .i64 14, .int .i64 14, .int .i64 12, .int .i64 12, .int .i64 11, .int .i64 13]
    simpa using this
  have hB := hB.alloc (.cells #[.int .i64 2, .int .i64 7, .int .i64 7, .int .i64 7, .int .i64 7, .int .i64 2, .int .i64 2, .int .i64 11, .int .i64 0, .int .i64 2, .int .i64 7, .int .i64 9, .int .i64 2, .int .i64 8, .int .i64 4, .int .i64 2] 3)
  have hC : Blk (((w2.alloc (.cells #[.string (⟨#[109, 58, 120, 124, 99, 10]⟩), .string (⟨#[109, 58, 49, 124, 99, 124, 64, 48, 10]⟩), .string (⟨#[109, 58, 49, 124, 99, 124, 64, 49, 46, 49, 10]⟩), .string (⟨#[109, 58, 49, 124, 99, 124, 64, 48, 46, 51, 10]⟩), .string (⟨#[109, 58, 49, 124, 115, 124, 64, 48, 46, 53, 10]⟩), .string (⟨#[109, 58, 45, 49, 124, 109, 115, 10]⟩), .string (⟨#[109, 58, 43, 45, 49, 124, 103, 10]⟩), .string (⟨#[109, 58, 49, 124, 99, 124, 35, 97, 58, 49, 44, 97, 58, 50, 10]⟩), .string (LO ++ ⟨#[58, 49, 124, 99, 10]⟩), .string (⟨#[109, 58]⟩ ++ LO ++ ⟨#[124, 115, 10]⟩), .string (⟨#[109, 58, 49, 124, 99, 124, 35]⟩ ++ LO ++ ⟨#[58, 49, 10]⟩), .string (⟨#[109, 58, 49, 124, 99, 124, 35, 97, 58]⟩ ++ LO ++ ⟨#[10]⟩), .string (⟨#[109, 58, 57, 50, 50, 51, 51, 55, 50, 48, 51, 54, 56, 53, 52, 55, 55, 53, 56, 48, 56, 124, 103, 10]⟩), .string (⟨#[109, 58, 51, 124, 109, 115, 124, 64, 48, 46, 54, 10]⟩), .string (⟨#[109, 58, 49, 124, 120, 10]⟩), .string (⟨#[109, 58, 43, 49, 124, 99, 10]⟩)] 9)).alloc (.cells #[.int .i64 13, .int .i64 12, .int .i64 12, .int .i64 12, .int .i64 13, .int .i64 12, .int .i64 13, .int .i64 13, .int .i64 14, .int .i64 14, .int .i64 14, .int .i64 14, .int .i64 12, .int .i64 12, .int .i64 11, .int .i64 13] 38)).alloc (.cells #[.int .i64 2, .int .i64 7, .int .i64 7, .int .i64 7, .int .i64 7, .int .i64 2, .int .i64 2, .int .i64 11, .int .i64 0, .int .i64 2, .int .i64 7, .int .i64 9, .int .i64 2, .int .i64 8, .int .i64 4, .int .i64 2] 3)) (w2.heap.size + 1 + 1) 3 offsC := by
    have e3 : offsC = #[.int .i64 2, .int .i64 7, .int .i64 7, .int .i64 7, .int .i64 7, .int .i64 2, .int .i64 2, .int .i64 11, .int .i64 0, .int .i64 2, .int .i64 7, .int .i64 9, .int .i64 2, .int .i64 8, .int .i64 4, .int .i64 2] := rfl
    rw [e3]
    have := Blk.new ((w2.alloc (.cells #[.string (⟨#[109, 58, 120, 124, 99, 10]⟩), .string (⟨#[109, 58, 49, 124, 99, 124, 64, 48, 10]⟩), .string (⟨#[109, 58, 49, 124, 99, 124, 64, 49, 46, 49, 10]⟩), .string (⟨#[109, 58, 49, 124, 99, 124, 64, 48, 46, 51, 10]⟩), .string (⟨#[109, 58, 49, 124, 115, 124, 64, 48, 46, 53, 10]⟩), .string (⟨#[109, 58, 45, 49, 124, 109, 115, 10]⟩), .string (⟨#[109, 58, 43, 45, 49, 124, 103, 10]⟩), .string (⟨#[109, 58, 49, 124, 99, 124, 35, 97, 58, 49, 44, 97, 58, 50, 10]⟩), .string (LO ++ ⟨#[58, 49, 124, 99, 10]⟩), .string (⟨#[109, 58]⟩ ++ LO ++ ⟨#[124, 115, 10]⟩), .string (⟨#[109, 58, 49, 124, 99, 124, 35]⟩ ++ LO ++ ⟨#[58, 49, 10]⟩), .string (⟨#[109, 58, 49, 124, 99, 124, 35, 97, 58]⟩ ++ LO ++ ⟨#[10]⟩), .string (⟨#[109, 58, 57, 50, 50, 51, 51, 55, 50, 48, 51, 54, 56, 53, 52, 55, 55, 53, 56, 48, 56, 124, 103, 10]⟩), .string (⟨#[109, 58, 51, 124, 109, 115, 124, 64, 48, 46, 54, 10]⟩), .string (⟨#[109, 58, 49, 124, 120, 10]⟩), .string (⟨#[109, 58, 43, 49, 124, 99, 10]⟩)] 9)).alloc (.cells #[.int .i64 13, .int .i64 12, .int .i64 12, .int .i64 12, .int .i64 13, .int .i64 12, .int .i64 13, .int .i64 13, .int .i64 14, .int .i64 14, .int .i64 14, .int .i64 14, .int .i64 12, .int .i64 12, .int .i64 11, .int .i64 13] 38)) 3 #[.int .i64 2, .int .i64 7, .int .i64 7, .int .i64 7, .int .i64 7, .int .i64 2, .int .i64 2, .int .i64 11, .int .i64 0, .int .i64 2, .int .i64 7, .int .i64 9, .int .i64 2, .int .i64 8, .int .i64 4, .int .i64 2]
    simpa using this
  have hbl : Below w.heap.size w (((w2.alloc (.cells #[.string (⟨#[109, 58, 120, 124, 99, 10]⟩), .string (⟨#[109, 58, 49, 124, 99, 124, 64, 48, 10]⟩), .string (⟨#[109, 58, 49, 124, 99, 124, 64, 49, 46, 49, 10]⟩), .string (⟨#[109, 58, 49, 124, 99, 124, 64, 48, 46, 51, 10]⟩), .string (⟨#[109, 58, 49, 124, 115, 124, 64, 48, 46, 53, 10]⟩), .string (⟨#[109, 58, 45, 49, 124, 109, 115, 10]⟩), .string (⟨#[109, 58, 43, 45, 49, 124, 103, 10]⟩), .string (⟨#[109, 58, 49, 124, 99, 124, 35, 97, 58, 49, 44, 97, 58, 50, 10]⟩), .string (LO ++ ⟨#[58, 49, 124, 99, 10]⟩), .string (⟨#[109, 58]⟩ ++ LO ++ ⟨#[124, 115, 10]⟩), .string (⟨#[109, 58, 49, 124, 99, 124, 35]⟩ ++ LO ++ ⟨#[58, 49, 10]⟩), .string (⟨#[109, 58, 49, 124, 99, 124, 35, 97, 58]⟩ ++ LO ++ ⟨#[10]⟩), .string (⟨#[109, 58, 57, 50, 50, 51, 51, 55, 50, 48, 51, 54, 56, 53, 52, 55, 55, 53, 56, 48, 56, 124, 103, 10]⟩), .string (⟨#[109, 58, 51, 124, 109, 115, 124, 64, 48, 46, 54, 10]⟩), .string (⟨#[109, 58, 49, 124, 120, 10]⟩), .string (⟨#[109, 58, 43, 49, 124, 99, 10]⟩)] 9)).alloc (.cells #[.int .i64 13, .int .i64 12, .int .i64 12, .int .i64 12, .int .i64 13, .int .i64 12, .int .i64 13, .int .i64 13, .int .i64 14, .int .i64 14, .int .i64 14, .int .i64 14, .int .i64 12, .int .i64 12, .int .i64 11, .int .i64 13] 38)).alloc (.cells #[.int .i64 2, .int .i64 7, .int .i64 7, .int .i64 7, .int .i64 7, .int .i64 2, .int .i64 2, .int .i64 11, .int .i64 0, .int .i64 2, .int .i64 7, .int .i64 9, .int .i64 2, .int .i64 8, .int .i64 4, .int .i64 2] 3)) := bl_alloc (bl_alloc (bl_alloc (bl_any hb1 hb2) _) _) _
  generalize ((w2.alloc (.cells #[.string (⟨#[109, 58, 120, 124, 99, 10]⟩), .string (⟨#[109, 58, 49, 124, 99, 124, 64, 48, 10]⟩), .string (⟨#[109, 58, 49, 124, 99, 124, 64, 49, 46, 49, 10]⟩), .string (⟨#[109, 58, 49, 124, 99, 124, 64, 48, 46, 51, 10]⟩), .string (⟨#[109, 58, 49, 124, 115, 124, 64, 48, 46, 53, 10]⟩), .string (⟨#[109, 58, 45, 49, 124, 109, 115, 10]⟩), .string (⟨#[109, 58, 43, 45, 49, 124, 103, 10]⟩), .string (⟨#[109, 58, 49, 124, 99, 124, 35, 97, 58, 49, 44, 97, 58, 50, 10]⟩), .string (LO ++ ⟨#[58, 49, 124, 99, 10]⟩), .string (⟨#[109, 58]⟩ ++ LO ++ ⟨#[124, 115, 10]⟩), .string (⟨#[109, 58, 49, 124, 99, 124, 35]⟩ ++ LO ++ ⟨#[58, 49, 10]⟩), .string (⟨#[109, 58, 49, 124, 99, 124, 35, 97, 58]⟩ ++ LO ++ ⟨#[10]⟩), .string (⟨#[109, 58, 57, 50, 50, 51, 51, 55, 50, 48, 51, 54, 56, 53, 52, 55, 55, 53, 56, 48, 56, 124, 103, 10]⟩), .string (⟨#[109, 58, 51, 124, 109, 115, 124, 64, 48, 46, 54, 10]⟩), .string (⟨#[109, 58, 49, 124, 120, 10]⟩), .string (⟨#[109, 58, 43, 49, 124, 99, 10]⟩)] 9)).alloc (.cells #[.int .i64 13, .int .i64 12, .int .i64 12, .int .i64 12, .int .i64 13, .int .i64 12, .int .i64 13, .int .i64 13, .int .i64 14, .int .i64 14, .int .i64 14, .int .i64 14, .int .i64 12, .int .i64 12, .int .i64 11, .int .i64 13] 38)).alloc (.cells #[.int .i64 2, .int .i64 7, .int .i64 7, .int .i64 7, .int .i64 7, .int .i64 2, .int .i64 2, .int .i64 11, .int .i64 0, .int .i64 2, .int .i64 7, .int .i64 9, .int .i64 2, .int .i64 8, .int .i64 4, .int .i64 2] 3) = W at *
  generalize w2.heap.size = b at *
  clear hA0 hb1 hb2
  obtain ⟨k, hk⟩ : ∃ k : Nat, h.tmod 16 = (k : Int) := ⟨(h.tmod 16).toNat, by rw [Int.toNat_of_nonneg]; rw [Int.tmod_eq_emod_of_nonneg h0]; omega⟩
  have hk16 : k < 16 := by rw [Int.tmod_eq_emod_of_nonneg h0] at hk; omega
  have wk : IntKind.i64.wrap (k : Int) = (k : Int) := IntWalk.i64_in _ (by omega)
  have wh : IntKind.i64.wrap h = h := IntWalk.i64_in _ (by omega)
  obtain ⟨t1, t2⟩ := once_at hk16
  have ts := once_size hk16
  have cA := (Blk.cell hA k).trans (rowsC_at hk16)
  have cB := (Blk.cell hB k).trans (codesC_at hk16)
  have cC := (Blk.cell hC k).trans (offsC_at hk16)
  have k0 : (0 : Int) ≤ k := by omega
  have k1 : (k : Int) < 16 := by omega
  have hz : (⟨#[122, 58, 49, 124, 99, 10]⟩ : ByteArray).size = 6 := rfl
  have ho : offsO.getD k 0 ≤ 11 := by
    have : ((List.range 16).all fun k => decide (offsO.getD k 0 ≤ 11)) = true := by decide +kernel
    exact of_decide_eq_true (List.all_eq_true.1 this k (List.mem_range.2 hk16))
  have ck := codesC_at hk16
  generalize rowsO.getD k ⟨#[]⟩ = S at *
  generalize codesO.getD k 0 = cd at *
  generalize offsO.getD k 0 = of_ at *
  go_upto_region 8 with fail
  go_quiet (fail)
  have ef := fun a0 a1 a2 a3 b0 b1 b2 b3 w => eqFault a0 a1 a2 a3 b0 b1 b2 b3 w
  cases ahead
  case false =>
    have kR := fun W => sread26_any S W (by omega)
    rw [t1] at kR
    simp only [ReadP] at kR
    have kAt := fun W => spAt_any (cd : Int) S (of_ : Int) W (by omega)
    go_wp2_with fail
    go_upto_region 12 with (go_at_call 15; (with_reducible refine (kR _).mono ?_); rintro en w3 ⟨rfl, hb3⟩)
    have hOn : OnS w (w3.alloc (.cells #[.int .i64 (cd : Int), .int .i64 (fltO cd S of_), .int .i64 (fltL cd S of_), .int .i64 (fltC cd S of_)] 42)) w3.heap.size (b + 1) k (cd : Int) (fltO cd S of_) (fltL cd S of_) (fltC cd S of_) :=
      ⟨Blk.new w3 _ _, ((Blk.drewN hB _).below hb3 (Blk.lt hB)).alloc _, ck, bl_alloc (bl_any (bl_drewN hbl _) hb3) _⟩
    generalize w3.alloc (.cells #[.int .i64 (cd : Int), .int .i64 (fltO cd S of_), .int .i64 (fltL cd S of_), .int .i64 (fltC cd S of_)] 42) = W4 at *
    generalize w3.heap.size = f at *
    clear hb3 kR cA cB cC
    generalize fltO cd S of_ = fo at *
    generalize fltL cd S of_ = fl at *
    generalize fltC cd S of_ = fc at *
    go_region_held3 (fun w' => (w'.cell? ⟨f, 0, none⟩ = some (.int .i64 (cd : Int)) ∧ w'.cell? ⟨f, 1, none⟩ = some (.int .i64 fo) ∧ w'.cell? ⟨f, 2, none⟩ = some (.int .i64 fl) ∧ w'.cell? ⟨f, 3, none⟩ = some (.int .i64 fc) ∧ w'.cell? ⟨b + 1, k, none⟩ = some (.int .i64 (cd : Int))) ∧ OnS w w' f (b + 1) k (cd : Int) fo fl fc) (first | (with_reducible assumption) | (with_reducible exact hOn.drew.fs)) (first
      | (go_at_call 20; (with_reducible refine (kAt _).mono ?_); rintro en w5 ⟨rfl, hb5⟩; have S5 := (OnS.below (And.right (by with_reducible assumption)) hb5).fs))
    all_goals
      rename_i hHeld
      obtain ⟨_, hY⟩ := hHeld
      go_wp2_with fail
      go_ret
      exact ⟨rfl, hY.bl⟩
  case true =>
    have hzs : (⟨#[122, 58, 49, 124, 99, 10]⟩ ++ S : ByteArray).size = 6 + S.size := by rw [ByteArray.size_append]; rfl
    have l1 : ¬ 9223372036854775807 < 6 + S.size := by omega
    have w6 : IntKind.i64.wrap ((of_ : Int) + 6) = (of_ : Int) + 6 := IntWalk.i64_in _ (by omega)
    have kR := fun W => sread26_any (⟨#[122, 58, 49, 124, 99, 10]⟩ ++ S) W (by omega)
    rw [t2] at kR
    simp only [ReadP] at kR
    have kAt := fun W => spAt_any (cd : Int) (⟨#[122, 58, 49, 124, 99, 10]⟩ ++ S) ((of_ : Int) + 6) W (by omega)
    clear t1 t2
    generalize hT : (⟨#[122, 58, 49, 124, 99, 10]⟩ ++ S : ByteArray) = T at *
    go_wp2_with fail
    go_upto_region 12 with (go_at_call 15; (with_reducible refine (kR _).mono ?_); rintro en w3 ⟨rfl, hb3⟩)
    have hOn : OnS w (w3.alloc (.cells #[.int .i64 (cd : Int), .int .i64 (fltO cd T ((of_ : Int) + 6)), .int .i64 (fltL cd T ((of_ : Int) + 6)), .int .i64 (fltC cd T ((of_ : Int) + 6))] 42)) w3.heap.size (b + 1) k (cd : Int) (fltO cd T ((of_ : Int) + 6)) (fltL cd T ((of_ : Int) + 6)) (fltC cd T ((of_ : Int) + 6)) :=
      ⟨Blk.new w3 _ _, ((Blk.drewN hB _).below hb3 (Blk.lt hB)).alloc _, ck, bl_alloc (bl_any (bl_drewN hbl _) hb3) _⟩
    generalize w3.alloc (.cells #[.int .i64 (cd : Int), .int .i64 (fltO cd T ((of_ : Int) + 6)), .int .i64 (fltL cd T ((of_ : Int) + 6)), .int .i64 (fltC cd T ((of_ : Int) + 6))] 42) = W4 at *
    generalize w3.heap.size = f at *
    clear hb3 kR cA cB cC
    generalize fltO cd T ((of_ : Int) + 6) = fo at *
    generalize fltL cd T ((of_ : Int) + 6) = fl at *
    generalize fltC cd T ((of_ : Int) + 6) = fc at *
    go_region_held3 (fun w' => (w'.cell? ⟨f, 0, none⟩ = some (.int .i64 (cd : Int)) ∧ w'.cell? ⟨f, 1, none⟩ = some (.int .i64 fo) ∧ w'.cell? ⟨f, 2, none⟩ = some (.int .i64 fl) ∧ w'.cell? ⟨f, 3, none⟩ = some (.int .i64 fc) ∧ w'.cell? ⟨b + 1, k, none⟩ = some (.int .i64 (cd : Int))) ∧ OnS w w' f (b + 1) k (cd : Int) fo fl fc) (first | (with_reducible assumption) | (with_reducible exact hOn.drew.fs)) (first
      | (go_at_call 20; (with_reducible refine (kAt _).mono ?_); rintro en w5 ⟨rfl, hb5⟩; have S5 := (OnS.below (And.right (by with_reducible assumption)) hb5).fs))
    all_goals
      rename_i hHeld
      obtain ⟨_, hY⟩ := hHeld
      go_wp2_with fail
      go_ret
      exact ⟨rfl, hY.bl⟩
end Go.Proofs.YtpknjngjkdnpiaaGreatDoor
