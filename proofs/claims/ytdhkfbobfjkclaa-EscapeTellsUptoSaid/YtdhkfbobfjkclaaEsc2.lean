/- The walks of package escape: byteOf, Undo, Back, All. -/
import Derived.Test.YtdhkfbobfjkclaaEsc
import Derived.Test.YtdhkfbobfjkclaaOpen
namespace Go.Proofs.Ytdhkfbobfjkclaa
open Go.RowKit
/-! ### the plain functions -/
def hexL : List UInt8 := [48, 49, 50, 51, 52, 53, 54, 55, 56, 57, 97, 98, 99, 100, 101, 102]
/-- The digit's value; below 0: it is none. -/
def hexV (c : UInt8) : Int := Lib.indexByte hexL c
def byteOk (l : List UInt8) : Bool := decide (2 ≤ l.length) && (decide ((0 : Int) ≤ hexV (l.getD 0 0)) && decide ((0 : Int) ≤ hexV (l.getD 1 0)))
def byteV (l : List UInt8) : UInt8 := UInt8.ofNat (hexV (l.getD 0 0) * (16 : Int) + hexV (l.getD 1 0) : Int).toNat
def undoN : Nat → List UInt8 → Option (List UInt8)
  | 0, _ => none
  | _ + 1, [] => some []
  | n + 1, c :: t => if Lib.hasPrefix (c :: t) [95, 120] = true then (if byteOk (t.drop 1) = true then (undoN n (t.drop 3)).map (byteV (t.drop 1) :: ·) else none) else (undoN n t).map (c :: ·)
def undoB (l : List UInt8) : Option (List UInt8) := undoN (l.length + 1) l
theorem undoN_fuel : ∀ (n : Nat) (l : List UInt8), l.length < n → undoN n l = undoB l := by
  have key : ∀ (n m : Nat) (l : List UInt8), l.length < n → l.length < m → undoN n l = undoN m l := by
    intro n
    induction n with
    | zero => intro m l h; omega
    | succ n ih =>
      intro m l h h'
      cases m with
      | zero => omega
      | succ m =>
        cases l with
        | nil => rfl
        | cons c t =>
          simp only [List.length_cons] at h h'
          simp only [undoN]
          rw [ih m (t.drop 3) (by simp; omega) (by simp; omega), ih m t (by omega) (by omega)]
  exact fun n l h => key n _ l h (by omega)
theorem undoB_nil : undoB [] = some [] := rfl
theorem undoB_cons (c : UInt8) (t : List UInt8) : undoB (c :: t) = if Lib.hasPrefix (c :: t) [95, 120] = true then (if byteOk (t.drop 1) = true then (undoB (t.drop 3)).map (byteV (t.drop 1) :: ·) else none) else (undoB t).map (c :: ·) := by
  show undoN (t.length + 1 + 1) (c :: t) = _
  simp only [undoN]
  rw [undoN_fuel _ (t.drop 3) (by simp; omega), undoN_fuel _ t (by omega)]
theorem undoB_cut (l : List UInt8) : undoB l = if (Lib.cut l [95, 120]).2.2 = true then (if byteOk (Lib.cut l [95, 120]).2.1 = true then (undoB ((Lib.cut l [95, 120]).2.1.drop 2)).map ((Lib.cut l [95, 120]).1 ++ byteV (Lib.cut l [95, 120]).2.1 :: ·) else none) else some l := by
  induction l with
  | nil => rfl
  | cons c t ih =>
    rw [undoB_cons]
    by_cases hp : Lib.hasPrefix (c :: t) [95, 120] = true
    · rw [if_pos hp]
      have hi : Lib.index (c :: t) [95, 120] = 0 := by unfold Lib.index; exact if_pos hp
      have hc : Lib.cut (c :: t) [95, 120] = ([], t.drop 1, true) := by unfold Lib.cut; rw [hi]; simp
      rw [hc]
      simp
    · rw [if_neg hp, ih]
      have hi : Lib.index (c :: t) [95, 120] = if Lib.index t [95, 120] == -1 then -1 else Lib.index t [95, 120] + 1 := by rw [Lib.index]; exact if_neg hp
      by_cases hn : 0 ≤ Lib.index t [95, 120]
      · have hc : Lib.cut (c :: t) [95, 120] = (c :: (Lib.cut t [95, 120]).1, (Lib.cut t [95, 120]).2.1, (Lib.cut t [95, 120]).2.2) := by
          have hi' : Lib.index (c :: t) [95, 120] = Lib.index t [95, 120] + 1 := by rw [hi, if_neg (by simp; omega)]
          unfold Lib.cut
          rw [hi', if_pos (show (0 : Int) ≤ Lib.index t [95, 120] + 1 by omega), if_pos hn]
          obtain ⟨k, hk⟩ : ∃ k : Nat, Lib.index t [95, 120] = k := ⟨_, (Int.toNat_of_nonneg hn).symm⟩
          rw [hk, show ((k : Int) + 1).toNat = k + 1 from by omega, show ((k : Int)).toNat = k from by omega]
          simp
        rw [hc]
        have hf : (Lib.cut t [95, 120]).2.2 = true := by unfold Lib.cut; rw [if_pos hn]
        simp only [hf, if_true]
        split
        · cases undoB ((Lib.cut t [95, 120]).2.1.drop 2) <;> simp
        · rfl
      · have hm : Lib.index t [95, 120] = -1 := by have := Lib.index_ge t [95, 120]; omega
        have h1 : (Lib.cut t [95, 120]).2.2 = false := by unfold Lib.cut; rw [if_neg hn]
        have h2 : (Lib.cut (c :: t) [95, 120]).2.2 = false := by unfold Lib.cut; rw [hi, hm]; simp
        rw [h1, h2]
        simp
theorem hexV_lt (c : UInt8) : hexV c < 16 ∧ -1 ≤ hexV c := by
  have : ∀ n : Nat, n < 256 → hexV (UInt8.ofNat n) < 16 ∧ -1 ≤ hexV (UInt8.ofNat n) := by decide +kernel
  have h := this c.toNat c.toNat_lt
  rwa [UInt8.ofNat_toNat] at h
theorem hex_call (c : UInt8) : Lib.indexByte (⟨#[48, 49, 50, 51, 52, 53, 54, 55, 56, 57, 97, 98, 99, 100, 101, 102]⟩ : ByteArray).data.toList ((c.toNat : Int).toNat.toUInt8) = hexV c := by
  rw [Int.toNat_natCast, show c.toNat.toUInt8 = c from by simp]; rfl
theorem idx_at (s : ByteArray) (c : Int) (v : Int) (h : Lib.indexByte s.data.toList c.toNat.toUInt8 = v) (w : World) :
    Calls Try.prog 39 #[.string s, .int .u8 c] w fun e w' => e = .returned (.int .i64 v) ∧ w' = w := by
  rw [← h]; exact Try.strings_IndexByte s c w
set_option maxRecDepth 100000 in
set_option maxHeartbeats 800000 in
theorem byteOf_any (s : ByteArray) (w : World) (hs : s.size ≤ 1048576) :
    Calls Try.prog 51 #[.string s] w fun e w' => e = .returned (.tuple #[.int .u8 (if byteOk s.data.toList = true then ((byteV s.data.toList).toNat : Int) else 0), .bool (byteOk s.data.toList)]) ∧ ∃ n, w' = w.drewN n := by
  by_cases h2 : s.size < 2
  · have hd : decide ((s.size : Int) < 2) = true := decide_eq_true (by omega)
    have hb : byteOk s.data.toList = false := by unfold byteOk; rw [decide_eq_false (by simp; omega)]; rfl
    rw [hb, if_neg Bool.false_ne_true]
    clear hb
    go_enter Try.func51, Try.ntmps51
    go_wp2_with fail
    go_ret2
    exact ⟨rfl, 0, rfl⟩
  · have hd : decide ((s.size : Int) < 2) = false := decide_eq_false (by omega)
    have h0 : 0 < s.size := by omega
    have h1 : 1 < s.size := by omega
    have z0 : (0 : Int) < s.size := by omega
    have z1 : (1 : Int) < s.size := by omega
    have hx0 := hex_call (s[0]'h0)
    have hx1 := hex_call (s[1]'h1)
    have hb : byteOk s.data.toList = (decide ((0 : Int) ≤ hexV (s[0]'h0)) && decide ((0 : Int) ≤ hexV (s[1]'h1))) := by
      unfold byteOk; rw [decide_eq_true (by simp; omega), getD_at s 0 h0, getD_at s 1 h1]; rfl
    have hv : byteV s.data.toList = UInt8.ofNat (hexV (s[0]'h0) * (16 : Int) + hexV (s[1]'h1) : Int).toNat := by
      unfold byteV; rw [getD_at s 0 h0, getD_at s 1 h1]
    have g0 := hexV_lt (s[0]'h0)
    have g1 := hexV_lt (s[1]'h1)
    generalize hexV (s[0]'h0) = a at hx0 g0 hb hv
    generalize hexV (s[1]'h1) = b at hx1 g1 hb hv
    by_cases ha : a < 0
    · have da : decide (a < 0) = true := decide_eq_true ha
      have hb' : byteOk s.data.toList = false := by rw [hb, decide_eq_false (by omega)]; rfl
      rw [hb', if_neg Bool.false_ne_true]
      clear hb hv hb'
      go_enter Try.func51, Try.ntmps51
      go_wp2_with fail
      go_quiet (first
        | (go_at_call 39; exact Calls.quiet_of_same (idx_at _ _ _ hx0 _))
        | (go_at_call 39; exact Calls.quiet_of_same (idx_at _ _ _ hx1 _)))
      go_wp2_with fail
      go_ret2
      exact ⟨rfl, _, rfl⟩
    · have da : decide (a < 0) = false := decide_eq_false ha
      by_cases hbn : b < 0
      · have db : decide (b < 0) = true := decide_eq_true hbn
        have hb' : byteOk s.data.toList = false := by rw [hb, decide_eq_false (show ¬ (0 : Int) ≤ b by omega)]; simp
        rw [hb', if_neg Bool.false_ne_true]
        clear hb hv hb'
        go_enter Try.func51, Try.ntmps51
        go_wp2_with fail
        go_quiet (first
          | (go_at_call 39; exact Calls.quiet_of_same (idx_at _ _ _ hx0 _))
          | (go_at_call 39; exact Calls.quiet_of_same (idx_at _ _ _ hx1 _)))
        go_wp2_with fail
        go_ret2
        exact ⟨rfl, _, rfl⟩
      · have db : decide (b < 0) = false := decide_eq_false hbn
        have hb' : byteOk s.data.toList = true := by rw [hb, decide_eq_true (by omega), decide_eq_true (show (0 : Int) ≤ b by omega)]; rfl
        have e16 : ((UInt8.ofNat (a * (16 : Int) + b).toNat).toNat : Int) = a * 16 + b := by (rw [UInt8.toNat_ofNat']; omega)
        rw [hb', if_pos rfl, hv, e16]
        clear hb hv hb'
        go_enter Try.func51, Try.ntmps51
        go_wp2_with fail
        go_quiet (first
          | (go_at_call 39; exact Calls.quiet_of_same (idx_at _ _ _ hx0 _))
          | (go_at_call 39; exact Calls.quiet_of_same (idx_at _ _ _ hx1 _)))
        go_wp2_with fail
        go_ret2
        exact ⟨rfl, _, rfl⟩
def undoS (l : List UInt8) : ByteArray := match undoB l with
  | some r => ⟨r.toArray⟩
  | none => ⟨#[]⟩
theorem cut_at (t : ByteArray) (a b : List UInt8) (f : Bool) (hc : Lib.cut t.data.toList [95, 120] = (a, b, f)) (m : Int) (w : World) (hr : t.size ≤ 1048576) (hm : w.cell? ⟨0, 0, none⟩ = some (.int .i64 m)) :
    Calls Try.prog 50 #[.string t, .string ⟨#[95, 120]⟩] w fun e w' => e = .returned (.tuple #[.string ⟨a.toArray⟩, .string ⟨b.toArray⟩, .bool f]) ∧ ∃ n, w' = w.drewN n := by
  have h := Try.strings_Cut t ⟨#[95, 120]⟩ m w (by omega) hm
  rw [show (⟨#[95, 120]⟩ : ByteArray).data.toList = [95, 120] from rfl, hc] at h
  exact h
theorem cut_len (l a b : List UInt8) (hc : Lib.cut l [95, 120] = (a, b, true)) : a.length + 2 + b.length = l.length := by
  have hr := Lib.index_room l [95, 120]
  unfold Lib.cut at hc
  split at hc
  · rename_i h
    have h1 := hr h
    simp at h1
    injection hc with e1 e2
    injection e2 with e2 _
    subst e1; subst e2
    simp
    omega
  · cases hc
theorem cut_no (l a b : List UInt8) (hc : Lib.cut l [95, 120] = (a, b, false)) : a = l := by
  unfold Lib.cut at hc
  split at hc
  · cases hc
  · injection hc with e1 _; exact e1.symm
def strLen : Value → Nat
  | .string s => s.size
  | _ => 0
theorem size_mk (a : List UInt8) : (⟨a.toArray⟩ : ByteArray).size = a.length := rfl
set_option maxRecDepth 100000 in
set_option maxHeartbeats 1600000 in
theorem undo_any (s : ByteArray) (m : Int) (w : World) (hs : s.size ≤ 1048576) (hm : w.cell? ⟨0, 0, none⟩ = some (.int .i64 m)) :
    Calls Try.prog 35 #[.string s] w fun e w' => e = .returned (.tuple #[.string (undoS s.data.toList), .bool (undoB s.data.toList).isSome]) ∧ Below w.heap.size w w' := by
  have h0 : 0 < w.heap.size := by have := lt_of_cell hm; omega
  go_enter Try.func35, Try.ntmps35
  go_wp2_with fail
  go_loopw [0] (fun sv wr => Below w.heap.size w wr ∧ ∃ (t : ByteArray) (acc : List UInt8), sv = .string t ∧ acc.length + t.size ≤ s.size ∧ undoB s.data.toList = (undoB t.data.toList).map (acc ++ ·) ∧ Lib.IsBuilder 65 5 w.heap.size w.heap.size (Lib.byteCells acc) wr) (fun sv _ => strLen sv)
  case atStart => exact ⟨bl_alloc (Below.refl _ _) _, s, [], rfl, by simp, by (cases undoB s.data.toList <;> simp), bld_new⟩
  case round =>
    obtain ⟨hbw, t, acc, rfl, hlen, hun, hB⟩ := hrel
    have hmr : wr.cell? ⟨0, 0, none⟩ = some (.int .i64 m) := (hbw.cell (p := ⟨0, 0, none⟩) h0).trans hm
    have hwr := hbw.size
    rw [undoB_cut t.data.toList] at hun
    obtain ⟨a, b, f, hc⟩ : ∃ a b f, Lib.cut t.data.toList [95, 120] = (a, b, f) := ⟨_, _, _, rfl⟩
    rw [hc] at hun
    simp only at hun
    cases f
    · have hal : a.length = t.size := by (rw [cut_no _ _ _ hc]; simp)
      have hz : (⟨a.toArray⟩ : ByteArray).size = a.length := rfl
      have hB' : ∀ w3, Lib.BuilderAt 65 5 w.heap.size w.heap.size (.pointer (some ⟨w.heap.size, 0, none⟩)) (Lib.byteCells acc ++ Lib.strCells ⟨a.toArray⟩) w3 → Lib.IsBuilder 65 5 w.heap.size w.heap.size (Lib.byteCells (acc ++ a)) w3 := fun w3 h => .inr (by (rw [byteCells_app]; exact h))
      go_wp2_with (first
        | (go_at_call 50; refine (cut_at t a b false hc m _ (by omega) (by first | exact hmr | simpa using hmr)).mono ?_; rintro e w1 ⟨rfl, n1, rfl⟩)
        | (go_at_call 48; refine (wstr_any _ _ _ _ _ (bld_drewN hB _) (by (rw [Lib.byteCells_length]; omega)) (by simpa using hwr)).mono ?_; rintro e w3 ⟨rfl, hB3, hb3⟩; have hs3 := hb3.size)
        | (go_at_call 49; refine (Try.Builder_String_any w.heap.size w.heap.size _ _ (hB' _ hB3) (by (simp at hs3; omega))).mono ?_; rintro e w2 ⟨rfl, hb2⟩))
      have hu : undoB s.data.toList = some (acc ++ a) := by (rw [hun, cut_no _ _ _ hc]; rfl)
      go_ret2
      exact ⟨by (unfold undoS; rw [hu]; rfl), bl_mark (bl_mark (bl_drewN hbw _) hb3) hb2⟩
    · have hlen2 := cut_len _ _ _ hc
      have hts : t.data.toList.length = t.size := by simp
      have hz : (⟨a.toArray⟩ : ByteArray).size = a.length := rfl
      have hzb : (⟨b.toArray⟩ : ByteArray).size = b.length := rfl
      simp only [if_true] at hun
      cases hok : byteOk b
      · go_wp2_with (first
          | (go_at_call 50; refine (cut_at t a b true hc m _ (by omega) (by first | exact hmr | simpa using hmr)).mono ?_; rintro e w1 ⟨rfl, n1, rfl⟩)
          | (go_at_call 48; refine (wstr_any _ _ _ _ _ (bld_drewN hB _) (by (rw [Lib.byteCells_length]; omega)) (by simpa using hwr)).mono ?_; rintro e w3 ⟨rfl, hB3, hb3⟩; have hs3 := hb3.size)
          | (go_at_call 51; refine (byteOf_any _ _ (by omega)).mono ?_; rintro e w2 ⟨rfl, n2, rfl⟩; rw [show (⟨b.toArray⟩ : ByteArray).data.toList = b from rfl, hok]))
        have hu : undoB s.data.toList = none := by (rw [hun, hok]; rfl)
        go_ret2
        exact ⟨by (unfold undoS; rw [hu]; rfl), bl_drewN (bl_mark (bl_drewN hbw _) hb3) _⟩
      · have hb2 : 2 ≤ b.length := by (unfold byteOk at hok; simp at hok; omega)
        have hb2' : (2 : Int) ≤ (⟨b.toArray⟩ : ByteArray).size := by omega
        go_wp2_with (first
          | (go_at_call 50; refine (cut_at t a b true hc m _ (by omega) (by first | exact hmr | simpa using hmr)).mono ?_; rintro e w1 ⟨rfl, n1, rfl⟩)
          | (go_at_call 48; refine (wstr_any _ _ _ _ _ (bld_drewN hB _) (by (rw [Lib.byteCells_length]; omega)) (by simpa using hwr)).mono ?_; rintro e w3 ⟨rfl, hB3, hb3⟩; have hs3 := hb3.size)
          | (go_at_call 51; refine (byteOf_any _ _ (by omega)).mono ?_; rintro e w2 ⟨rfl, n2, rfl⟩; rw [show (⟨b.toArray⟩ : ByteArray).data.toList = b from rfl, hok, if_pos rfl])
          | (go_at_call 47; (refine (wbyte_any w.heap.size w.heap.size (Lib.byteCells acc ++ Lib.strCells ⟨a.toArray⟩) _ _ (bld_drewN (.inr hB3) _) (by (simp [Lib.byteCells_length, Lib.strCells_length]; omega)) (by simp at hs3; simp; omega)).mono ?_); rintro e w4 ⟨rfl, hB4, hb4⟩; have hs4 := hb4.size))
        have hxs : ((⟨b.toArray⟩ : ByteArray).extract 2 b.length).size = b.length - 2 := by (rw [ByteArray.size_extract]; omega)
        have hxd : ((⟨b.toArray⟩ : ByteArray).extract 2 b.length).data.toList = b.drop 2 := data_drop ⟨b.toArray⟩ 2
        refine ⟨⟨bl_mark (bl_drewN (bl_mark (bl_drewN hbw _) hb3) _) hb4, _, acc ++ a ++ [byteV b], rfl, ?_, ?_, .inr ?_⟩, ?_⟩
        · rw [hxs]; simp; omega
        · rw [hxd, hun, hok]
          cases undoB (b.drop 2) <;> simp
        · rw [byteCells_app, byteCells_app]; exact hB4
        · show ((⟨b.toArray⟩ : ByteArray).extract 2 b.length).size < t.size
          omega
def backB (p wh : Int) (l : List UInt8) : List UInt8 := match undoB l with
  | some r => if escB p wh r = l then r else l
  | none => l
theorem undoB_len : ∀ (n : Nat) (l r : List UInt8), l.length ≤ n → undoB l = some r → r.length ≤ l.length := by
  intro n
  induction n with
  | zero => intro l r h h2; cases l with
    | nil => rw [undoB_nil] at h2; cases h2; simp
    | cons c t => simp at h
  | succ n ih => intro l r h h2; cases l with
    | nil => rw [undoB_nil] at h2; cases h2; simp
    | cons c t =>
      simp only [List.length_cons] at h
      rw [undoB_cons] at h2
      split at h2
      · split at h2
        · cases hq : undoB (t.drop 3) with
          | none => rw [hq] at h2; cases h2
          | some q =>
            rw [hq] at h2; simp at h2; subst h2
            have := ih (t.drop 3) q (by simp; omega) hq
            simp at this ⊢
            omega
        · cases h2
      · cases hq : undoB t with
        | none => rw [hq] at h2; cases h2
        | some q =>
          rw [hq] at h2; simp at h2; subst h2
          have := ih t q (by omega) hq
          simp; omega
theorem bytes_ext (s t : ByteArray) (h : s.data.toList = t.data.toList) : s = t := by
  cases s; cases t; congr; exact Array.toList_inj.1 h
set_option maxRecDepth 100000 in
set_option maxHeartbeats 800000 in
theorem back_any (p wh : Int) (s : ByteArray) (m : Int) (w : World) (hs : s.size ≤ 1048576) (hm : w.cell? ⟨0, 0, none⟩ = some (.int .i64 m)) :
    Calls Try.prog 32 #[.int .i64 p, .int .i64 wh, .string s] w fun e w' => e = .returned (.string ⟨(backB p wh s.data.toList).toArray⟩) ∧ Below w.heap.size w w' := by
  cases hu : undoB s.data.toList with
  | none =>
    have hb : backB p wh s.data.toList = s.data.toList := by unfold backB; rw [hu]
    rw [hb]
    clear hb
    go_enter Try.func32, Try.ntmps32
    go_wp2_with (go_at_call 35; refine (undo_any _ _ _ hs hm).mono ?_; rintro e w1 ⟨rfl, hb1⟩; rw [hu])
    go_ret
    exact ⟨ret_str (bytes_ext _ _ rfl), hb1⟩
  | some r =>
    have hus : undoS s.data.toList = ⟨r.toArray⟩ := by unfold undoS; rw [hu]
    have hrl := undoB_len _ _ _ (Nat.le_refl _) hu
    have hsz : (⟨r.toArray⟩ : ByteArray).size = r.length := rfl
    have hsl : s.data.toList.length = s.size := by simp
    have hb : backB p wh s.data.toList = if escB p wh r = s.data.toList then r else s.data.toList := by unfold backB; rw [hu]
    rw [hb]
    clear hb
    by_cases hq : escB p wh r = s.data.toList
    · rw [if_pos hq]
      have hq1 : (escB p wh r == s.toList) = true := by (rw [ByteArray.toList_eq, beq_iff_eq]; exact hq)
      have hq3 : (escB p wh r != s.toList) = false := by (rw [bne, hq1]; rfl)
      clear hq
      go_enter Try.func32, Try.ntmps32
      go_wp2_with (first
        | (go_at_call 35; refine (undo_any _ _ _ hs hm).mono ?_; rintro e w1 ⟨rfl, hb1⟩; rw [hu, hus])
        | (go_at_call 30; refine (escape_any _ _ _ _ (by omega)).mono ?_; rintro e w2 ⟨rfl, hb2⟩))
      go_ret
      exact ⟨rfl, bl_any hb1 hb2⟩
    · rw [if_neg hq]
      have hq1 : (escB p wh r == s.toList) = false := by (rw [ByteArray.toList_eq, beq_eq_false_iff_ne]; exact hq)
      have hq3 : (escB p wh r != s.toList) = true := by (rw [bne, hq1]; rfl)
      clear hq
      go_enter Try.func32, Try.ntmps32
      go_wp2_with (first
        | (go_at_call 35; refine (undo_any _ _ _ hs hm).mono ?_; rintro e w1 ⟨rfl, hb1⟩; rw [hu, hus])
        | (go_at_call 30; refine (escape_any _ _ _ _ (by omega)).mono ?_; rintro e w2 ⟨rfl, hb2⟩))
      go_ret
      exact ⟨ret_str (bytes_ext _ _ rfl), bl_any hb1 hb2⟩
end Go.Proofs.Ytdhkfbobfjkclaa
