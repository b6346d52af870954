/- Tenants: what is known of them: the walk of known. -/
import Derived.Test.YtjffagffjcbolaaTenG
import Derived.Deep.CutRange
namespace Go.Proofs.Ytjffagffjcbolaa
set_option linter.unusedVariables false
set_option linter.unusedSimpArgs false
open Go.RowKit
/-- A book of the call's own. -/
structure KS (w0 w : World) (p b : Nat) (m : Bk) : Prop where
  bk : BookAt w p b m
  bl : Below w0.heap.size w0 w
  pb : w0.heap.size ≤ b
section
variable {w0 w w' : World} {p b : Nat} {m m' : Bk}
theorem KS.bel (h : KS w0 w p b m) (k : Below w.heap.size w w') : KS w0 w' p b m := ⟨h.bk.bel k, bl_any h.bl k, h.pb⟩
theorem KS.drew (h : KS w0 w p b m) : KS w0 w.drew p b m := h.bel (Below.refl _ _).drew
theorem KS.alloc (h : KS w0 w p b m) (o : Obj) : KS w0 (w.alloc o) p b m := h.bel ((Below.refl _ _).alloc (Nat.le_refl _) o)
theorem KS.aw (h : KS w0 w p b m) (k : Aw [b] w w') (hb : BookAt w' p b m') : KS w0 w' p b m' := ⟨hb, h.bl.trans (k.bel_of (fun i hi => by simp at hi; subst hi; exact h.pb) h.bl.size), h.pb⟩
end
def kC : VCfg := ⟨18, 100, 10, 20, 0, 0, none, 0, []⟩
def kD (A : Option Addr) (c : Nat) : VCfg := ⟨18, 100, 10, 20, 0, 0, A, c, []⟩
def kM (A : Option Addr) (c : Nat) : Bk := [([116], kD A c)]
theorem kC_ok : cfgB kC = true := by decide
theorem kC_at (w : World) : CfgAt w w.heap.size kC := ⟨IsRows.nil_, (by intro r hr; cases hr), Nat.zero_le _⟩
theorem k0_at (w : World) : CfgAt w w.heap.size cfg0 := ⟨IsRows.nil_, (by intro r hr; cases hr), Nat.zero_le _⟩
theorem kLike {d : VCfg} (h : LikeC kC d) : d = kD d.A d.c := by
  obtain ⟨p, b, q, s, m, u, A, c, rs⟩ := d
  obtain ⟨h1, h2, h3, h4, h5, h6, h7⟩ := h
  simp only [kC, List.map_nil, List.map_eq_nil_iff] at h1 h2 h3 h4 h5 h6 h7
  subst h1 h2 h3 h4 h5 h6 h7
  rfl
theorem kE1 : addE [] [116] kC = 0 := by decide
theorem kE2 (A : Option Addr) (c : Nat) : addE (kM A c) [116] kC = 18 := by rfl
theorem kE3 (A : Option Addr) (c : Nat) : addE (kM A c) [84] kC = 19 := by rfl
theorem kMay1 (A : Option Addr) (c : Nat) : mayE (kM A c) [116] [1, 4] = 0 := by
  have h : ([1, 4] : List Int).any (notMay 18) = false := by decide +kernel
  show (if true = true then (if ([1, 4] : List Int).any (notMay 18) = true then 17 else 0) else 18) = 0
  rw [h]; rfl
theorem kMay2 (A : Option Addr) (c : Nat) : mayE (kM A c) [116] [1, 2] = 17 := by
  have h : ([1, 2] : List Int).any (notMay 18) = true := by decide +kernel
  show (if true = true then (if ([1, 2] : List Int).any (notMay 18) = true then 17 else 0) else 18) = 17
  rw [h]; rfl
theorem kMay3 (A : Option Addr) (c : Nat) : mayE (kM A c) [117] [] = 18 := by rfl
theorem k0E : cfgE cfg0 = 19 := by decide
section
variable {w0 w : World} {p b : Nat} {A : Option Addr} {c : Nat}
theorem kadd1 (h : KS w0 w p b []) : Calls Try.prog 11 #[.pointer (some ⟨p, 0, none⟩), .string ⟨#[116]⟩, .agg #[.int .i64 18, .int .i64 100, .int .i64 10, .int .i64 20, .int .i64 0, .int .i64 0, .slice none 0 0]] w fun e w' => e = .returned (.int .i64 0) ∧ (∃ A c, KS w0 w' p b (kM A c)) ∧ Aw [b] w w' :=
  (badd_any p b [] ⟨#[116]⟩ kC w h.bk (by decide) (by decide) (kC_at w) (by simp)).mono fun e w' ⟨h1, h2, h3⟩ => by
    have e0 : addE [] (⟨#[116]⟩ : ByteArray).data.toList kC = 0 := kE1
    rw [e0] at h1 h2
    unfold AddQ at h2
    rw [if_pos rfl] at h2
    obtain ⟨d, hd, hb⟩ := h2
    refine ⟨h1, ⟨d.A, d.c, h.aw h3 ?_⟩, h3⟩
    have : putKV ([] : Bk) [116] d = kM d.A d.c := by unfold kM; rw [← kLike hd]; rfl
    rw [← this]; exact hb
theorem kadd2 (h : KS w0 w p b (kM A c)) : Calls Try.prog 11 #[.pointer (some ⟨p, 0, none⟩), .string ⟨#[116]⟩, .agg #[.int .i64 18, .int .i64 100, .int .i64 10, .int .i64 20, .int .i64 0, .int .i64 0, .slice none 0 0]] w fun e w' => e = .returned (.int .i64 18) ∧ KS w0 w' p b (kM A c) ∧ Aw [b] w w' :=
  (badd_any p b (kM A c) ⟨#[116]⟩ kC w h.bk (by decide) (by decide) (kC_at w) (by simp [kM])).mono fun e w' ⟨h1, h2, h3⟩ => by
    have e0 : addE (kM A c) (⟨#[116]⟩ : ByteArray).data.toList kC = 18 := kE2 A c
    rw [e0] at h1 h2
    unfold AddQ at h2
    rw [if_neg (by decide)] at h2
    exact ⟨h1, h.aw h3 h2, h3⟩
theorem kadd3 (h : KS w0 w p b (kM A c)) : Calls Try.prog 11 #[.pointer (some ⟨p, 0, none⟩), .string ⟨#[84]⟩, .agg #[.int .i64 18, .int .i64 100, .int .i64 10, .int .i64 20, .int .i64 0, .int .i64 0, .slice none 0 0]] w fun e w' => e = .returned (.int .i64 19) ∧ KS w0 w' p b (kM A c) ∧ Aw [b] w w' :=
  (badd_any p b (kM A c) ⟨#[84]⟩ kC w h.bk (by decide) (by decide) (kC_at w) (by simp [kM])).mono fun e w' ⟨h1, h2, h3⟩ => by
    have e0 : addE (kM A c) (⟨#[84]⟩ : ByteArray).data.toList kC = 19 := kE3 A c
    rw [e0] at h1 h2
    unfold AddQ at h2
    rw [if_neg (by decide)] at h2
    exact ⟨h1, h.aw h3 h2, h3⟩
theorem kget1 (h : KS w0 w p b (kM A c)) : Calls Try.prog 18 #[.pointer (some ⟨p, 0, none⟩), .string ⟨#[116]⟩] w fun e w' => (∃ A c, e = .returned (.tuple #[.agg #[.int .i64 18, .int .i64 100, .int .i64 10, .int .i64 20, .int .i64 0, .int .i64 0, .slice A 0 c], .bool true])) ∧ KS w0 w' p b (kM A c) ∧ Below w.heap.size w w' :=
  (bget_any p b (kM A c) ⟨#[116]⟩ w h.bk (by decide) (kD A c) rfl true rfl).mono fun e w' ⟨⟨A', c', qs, h1, _, _⟩, h2⟩ => ⟨⟨A', c', h1⟩, h.bel h2, h2⟩
theorem kget2 (h : KS w0 w p b (kM A c)) : Calls Try.prog 18 #[.pointer (some ⟨p, 0, none⟩), .string ⟨#[117]⟩] w fun e w' => (∃ A c, e = .returned (.tuple #[.agg #[.int .i64 0, .int .i64 0, .int .i64 0, .int .i64 0, .int .i64 0, .int .i64 0, .slice A 0 c], .bool false])) ∧ KS w0 w' p b (kM A c) ∧ Below w.heap.size w w' :=
  (bget_any p b (kM A c) ⟨#[117]⟩ w h.bk (by decide) cfg0 rfl false rfl).mono fun e w' ⟨⟨A', c', qs, h1, _, _⟩, h2⟩ => ⟨⟨A', c', h1⟩, h.bel h2, h2⟩
theorem kname (h : KS w0 w p b (kM A c)) : Calls Try.prog 17 #[.pointer (some ⟨p, 0, none⟩)] w fun e w' => (∃ g k, e = .returned (.slice (some ⟨g, 0, none⟩) 1 k) ∧ w'.cell? ⟨g, 0, none⟩ = some (.string ⟨#[116]⟩)) ∧ KS w0 w' p b (kM A c) ∧ Below w.heap.size w w' :=
  (bnames_any p b (kM A c) w h.bk (by simp [kM])).mono fun e w' ⟨⟨v, h1, h2⟩, h3⟩ => by
    obtain ⟨A', cap, e1, hr⟩ := own_rws (f := strCell) (l := [⟨#[116]⟩]) (fun _ => rfl) h2 rfl
    obtain ⟨g, off, e2, hg, hc⟩ := hr.2 (by simp [kM])
    have h4 := hc 0 ⟨#[116]⟩ 0 (.string ⟨#[116]⟩) rfl rfl
    subst e1; subst e2
    obtain ⟨g', k', hx, _⟩ : ∃ g' k', (Value.slice (some ⟨g, off, none⟩) 1 cap) = .slice (some ⟨g', 0, none⟩) 1 k' ∧ True := by
      obtain ⟨_, hz⟩ := h2
      rcases hz with ⟨hz, _⟩ | ⟨g', c', cs, hz, _⟩
      · cases hz
      · exact ⟨g', c', hz, trivial⟩
    injection hx with hx1 _ hx2
    injection hx1 with hx1
    injection hx1 with hx1 hx3
    subst hx1; subst hx3; subst hx2
    exact ⟨⟨g, cap, h1, h4⟩, h.bel h3, h3⟩
theorem kmayG (m : Bk) (s : ByteArray) (hs : s.size ≤ maxLen) (B : Option Addr) (n k E : Nat) (zs : List Int) (h : KS w0 w p b m) (hl : IsRows intCell 1 w w.heap.size B n zs) (hn : n ≤ 10) (hE : mayE m s.data.toList zs = E) : Calls Try.prog 15 #[.pointer (some ⟨p, 0, none⟩), .string s, .slice B n k] w fun e w' => e = .returned (.int .i64 (E : Nat)) ∧ KS w0 w' p b m ∧ Below w.heap.size w w' :=
  (bmay_any p b m s B n k zs w h.bk hs hl (by omega)).mono fun e w' ⟨h1, h2⟩ => ⟨by rw [← hE]; exact h1, h.bel h2, h2⟩
theorem kdrop1 (h : KS w0 w p b (kM A c)) : Calls Try.prog 13 #[.pointer (some ⟨p, 0, none⟩), .string ⟨#[116]⟩] w fun e w' => e = .returned (.int .i64 0) ∧ KS w0 w' p b [] :=
  (bdrop_any p b (kM A c) ⟨#[116]⟩ w h.bk (by decide)).mono fun e w' ⟨h1, h2, h3⟩ => ⟨h1, h.aw h3 h2⟩
theorem kdrop2 (h : KS w0 w p b []) : Calls Try.prog 13 #[.pointer (some ⟨p, 0, none⟩), .string ⟨#[116]⟩] w fun e w' => e = .returned (.int .i64 18) ∧ KS w0 w' p b [] :=
  (bdrop_any p b [] ⟨#[116]⟩ w h.bk (by decide)).mono fun e w' ⟨h1, h2, h3⟩ => ⟨h1, h.aw h3 h2⟩
theorem kcheck0 (h : KS w0 w p b (kM A c)) : Calls Try.prog 20 #[.agg #[.int .i64 0, .int .i64 0, .int .i64 0, .int .i64 0, .int .i64 0, .int .i64 0, .slice none 0 0]] w fun e w' => e = .returned (.int .i64 19) ∧ KS w0 w' p b (kM A c) :=
  (check_any cfg0 w (k0_at w)).mono fun e w' ⟨h1, h2⟩ => ⟨by have := h1; rw [k0E] at this; exact this, h.bel h2⟩
end
end Go.Proofs.Ytjffagffjcbolaa
