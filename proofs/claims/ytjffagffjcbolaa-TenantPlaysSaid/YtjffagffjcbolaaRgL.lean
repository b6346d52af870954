/- TenantPlays: what stands while steps are played: the book and the gateway. -/
import Derived.Test.YtjffagffjcbolaaRgK
import Derived.Test.YtjffagffjcbolaaRgJ
import Derived.Test.YtjffagffjcbolaaTenK
namespace Go.Proofs.Ytjffagffjcbolaa
set_option linter.unusedVariables false
set_option linter.unusedSimpArgs false
open Go.RowKit
theorem rows_map {α : Type} {f : α → List Value} {size B n b : Nat} {A : Option Addr} {xs : List α} {w w' : World} {H : Type} {P : Program} {k : TypeId} {Rd : Value → Option (DataW H × List MemPlace)} {N : Nat} {D : DataW H} (h : IsRows f size w B A n xs) (hB : B ≤ w.heap.size) (hb : w.ownsMap P k Rd b N D) (hf : ∀ x, ∃ u, (f x)[0]? = some u) (a : Aw [b] w w') : IsRows f size w' B A n xs := by
  refine ⟨h.1, fun hn => ?_⟩
  obtain ⟨g, off, e, hlt, hc⟩ := h.2 hn
  have hne : g ≠ b := by
    intro hq
    obtain ⟨x, hx⟩ : ∃ x, xs[0]? = some x := ⟨_, List.getElem?_eq_getElem (by have := h.1; omega)⟩
    obtain ⟨u, hu⟩ := hf x
    have h1 := hc 0 x 0 u hx hu
    obtain ⟨es, clock, hm, _⟩ := hb
    subst hq
    unfold World.cell? at h1
    simp only [hm] at h1
    cases h1
  exact ⟨g, off, e, hlt, fun i x j u hx hu => (World.cell?_of_block (w := w) (a := ⟨g, off + (i * size + j), none⟩) (a.block g (by omega) (by simpa using hne))).trans (hc i x j u hx hu)⟩
theorem CfgAt.map {w w' : World} {x : VCfg} {b : Nat} {H : Type} {P : Program} {k : TypeId} {Rd : Value → Option (DataW H × List MemPlace)} {N : Nat} {D : DataW H} (h : CfgAt w w.heap.size x) (hb : w.ownsMap P k Rd b N D) (a : Aw [b] w w') : CfgAt w' w'.heap.size x := by
  refine ⟨(rows_map h.rows (Nat.le_refl _) hb (fun _ => ⟨_, rfl⟩) a).more a.size, fun r hr => ?_, h.len⟩
  obtain ⟨h1, h2⟩ := h.each r hr
  exact ⟨⟨(rows_map h1.f (Nat.le_refl _) hb (fun _ => ⟨_, rfl⟩) a).more a.size, (rows_map h1.p (Nat.le_refl _) hb (fun _ => ⟨_, rfl⟩) a).more a.size, (rows_map h1.e (Nat.le_refl _) hb (fun _ => ⟨_, rfl⟩) a).more a.size⟩, h2⟩
theorem map_blk_ne {w : World} {b g : Nat} {H : Type} {P : Program} {k : TypeId} {Rd : Value → Option (DataW H × List MemPlace)} {N : Nat} {D : DataW H} {T : TypeId} {cs : Array Value} (hb : w.ownsMap P k Rd b N D) (h : Blk w g T cs) : g ≠ b := by
  intro e
  subst e
  obtain ⟨es, clock, hm, _⟩ := hb
  unfold Blk at h
  rw [hm] at h
  cases h
/-- The book and the gateway. -/
structure PS (w0 w : World) (p b q : Nat) (at_ : Int) (A : Option Addr) (c : Nat) (m : Bk) (R : List VTen) : Prop where
  bk : BookAt w p b m
  gw : GwAt w q at_ A c R
  bl : Below w0.heap.size w0 w
  pb : w0.heap.size ≤ b
  pq : w0.heap.size ≤ q
section
variable {w0 w w' : World} {p b q : Nat} {at_ : Int} {A A' : Option Addr} {c c' : Nat} {m m' : Bk} {R R' : List VTen}
theorem PS.bel (h : PS w0 w p b q at_ A c m R) (k : Below w.heap.size w w') : PS w0 w' p b q at_ A c m R := ⟨h.bk.bel k, h.gw.bel k, bl_any h.bl k, h.pb, h.pq⟩
theorem PS.drew (h : PS w0 w p b q at_ A c m R) : PS w0 w.drew p b q at_ A c m R := h.bel (Below.refl _ _).drew
theorem PS.alloc (h : PS w0 w p b q at_ A c m R) (o : Obj) : PS w0 (w.alloc o) p b q at_ A c m R := h.bel ((Below.refl _ _).alloc (Nat.le_refl _) o)
theorem PS.qb (h : PS w0 w p b q at_ A c m R) : q ≠ b := map_blk_ne h.bk.own h.gw.blk
theorem PS.book (h : PS w0 w p b q at_ A c m R) (k : Aw [b] w w') (hb : BookAt w' p b m') : PS w0 w' p b q at_ A c m' R :=
  ⟨hb, ⟨Blk.aw h.gw.blk k (by have := h.qb; simpa using this), (rows_map h.gw.rows (Nat.le_refl _) h.bk.own (fun _ => ⟨_, rfl⟩) k).more k.size, h.gw.cap, fun x hx => (h.gw.cfg x hx).map h.bk.own k⟩,
   h.bl.trans (k.bel_of (fun i hi => by simp at hi; subst hi; exact h.pb) h.bl.size), h.pb, h.pq⟩
theorem PS.gate (h : PS w0 w p b q at_ A c m R) (k : Aw [q] w w') (hg : GwAt w' q at_ A' c' R') : PS w0 w' p b q at_ A' c' m R' :=
  ⟨⟨Blk.aw h.bk.blk k (by have := Blk.ne_ h.bk.blk h.gw.blk (by decide); simpa using this), by
      obtain ⟨es, clock, hm, r⟩ := h.bk.own
      exact ⟨es, clock, (k.block b h.bk.lt (by have := h.qb; simp; exact fun e => this e.symm)).trans hm, r⟩, h.bk.up, fun x hx => (h.bk.cfg x hx).gw h.gw.blk k⟩, hg,
   h.bl.trans (k.bel_of (fun i hi => by simp at hi; subst hi; exact h.pq) h.bl.size), h.pb, h.pq⟩
theorem PS.own (h : PS w0 w p b q at_ A c m R) {X : VCfg} (hc : CfgAt w0 w0.heap.size X) : CfgAt w w.heap.size X := (hc.below h.bl).more h.bl.size
theorem pbx {g : Nat} {T : TypeId} {cs : Array Value} (h : PS w0 w p b q at_ A c m R) (hg : Blk w g T cs) (k : Aw [b] w w') : Blk w' g T cs := Blk.aw hg k (by have := map_blk_ne h.bk.own hg; simpa using this)
theorem pgx {g : Nat} {cs : Array Value} {T : TypeId} (hT : T ≠ 50) (h : PS w0 w p b q at_ A c m R) (hg : Blk w g T cs) (k : Aw [q] w w') : Blk w' g T cs := Blk.aw hg k (by have := Blk.ne_ hg h.gw.blk hT; simpa using this)
/-! ### what the two answer -/
theorem Both.has (h : Both m R) (hu : UpKV m) (s : ByteArray) : (hasKV m s.data.toList = false ∧ lookKV m s.data.toList = none ∧ ixN R s = -1 ∧ (∀ x ∈ R, x.name.data.toList ≠ s.data.toList)) ∨ (hasKV m s.data.toList = true ∧ ∃ (k : Nat) (y : VTen) (x : VCfg), ixN R s = (k : Int) ∧ R[k]? = some y ∧ k < R.length ∧ y.name.data.toList = s.data.toList ∧ lookKV m s.data.toList = some x ∧ LikeC x y.cfg) := by
  rcases ixN_cases R s with ⟨h1, h2⟩ | ⟨k, y, h1, hy, he, hk⟩
  · obtain ⟨g1, g2⟩ := h.has_no h2
    exact .inl ⟨g1, g2, h1, h2⟩
  · obtain ⟨g1, x, g2, g3⟩ := h.has_yes hu hy he
    exact .inr ⟨g1, k, y, x, h1, hy, hk, he, g2, g3⟩
theorem Both.addE (h : Both m R) (hu : UpKV m) (s : ByteArray) (X : VCfg) : addE m s.data.toList X = gaddE R s X := by
  unfold Go.Proofs.Ytjffagffjcbolaa.addE gaddE
  rw [h.len]
  rcases h.has hu s with ⟨h1, _, h2, _⟩ | ⟨h1, k, _, _, h2, _⟩
  · rw [h1, h2]; rfl
  · rw [h1, h2, if_pos (show (0 : Int) ≤ (k : Int) by omega)]; rfl
/-! ### their calls -/
theorem pbAdd (h : PS w0 w p b q at_ A c m R) (s : ByteArray) (X : VCfg) (hs : s.size ≤ 100) (hX : CfgAt w0 w0.heap.size X) (hm : m.length ≤ 1000) (E : Nat) (hE : addE m s.data.toList X = E) (h0 : E ≠ 0) :
    Calls Try.prog 11 #[.pointer (some ⟨p, 0, none⟩), .string s, .agg #[.int .i64 X.protos, .int .i64 X.bytes, .int .i64 X.points, .int .i64 X.store, .int .i64 X.mode, .int .i64 X.unit, .slice X.A X.rules.length X.c]] w fun e w' => e = .returned (.int .i64 (E : Nat)) ∧ PS w0 w' p b q at_ A c m R ∧ Aw [b] w w' :=
  (badd_any p b m s X w h.bk (by omega) (by unfold maxLen; omega) (h.own hX) hm).mono fun e w' ⟨h1, h2, h3⟩ => by
    rw [hE] at h1 h2
    unfold AddQ at h2
    rw [if_neg h0] at h2
    exact ⟨h1, h.book h3 h2, h3⟩
theorem pbAdd0 (h : PS w0 w p b q at_ A c m R) (s : ByteArray) (X : VCfg) (hs : s.size ≤ 100) (hX : CfgAt w0 w0.heap.size X) (hm : m.length ≤ 1000) (hE : addE m s.data.toList X = 0) :
    Calls Try.prog 11 #[.pointer (some ⟨p, 0, none⟩), .string s, .agg #[.int .i64 X.protos, .int .i64 X.bytes, .int .i64 X.points, .int .i64 X.store, .int .i64 X.mode, .int .i64 X.unit, .slice X.A X.rules.length X.c]] w fun e w' => e = .returned (.int .i64 0) ∧ (∃ d, LikeC X d ∧ PS w0 w' p b q at_ A c (putKV m s.data.toList d) R) ∧ Aw [b] w w' :=
  (badd_any p b m s X w h.bk (by omega) (by unfold maxLen; omega) (h.own hX) hm).mono fun e w' ⟨h1, h2, h3⟩ => by
    rw [hE] at h1 h2
    unfold AddQ at h2
    rw [if_pos rfl] at h2
    obtain ⟨d, hd, hb⟩ := h2
    exact ⟨h1, ⟨d, hd, h.book h3 hb⟩, h3⟩
theorem pgAdd (h : PS w0 w p b q at_ A c m R) (s : ByteArray) (X : VCfg) (hs : s.size ≤ 100) (hX : CfgAt w0 w0.heap.size X) (hp : -9223372036854775808 ≤ X.protos) (hR : R.length ≤ 1000) (E : Nat) (hE : gaddE R s X = E) (h0 : E ≠ 0) :
    Calls Try.prog 12 #[.pointer (some ⟨q, 0, none⟩), .string s, .agg #[.int .i64 X.protos, .int .i64 X.bytes, .int .i64 X.points, .int .i64 X.store, .int .i64 X.mode, .int .i64 X.unit, .slice X.A X.rules.length X.c]] w fun e w' => e = .returned (.int .i64 (E : Nat)) ∧ PS w0 w' p b q at_ A c m R ∧ Below w.heap.size w w' :=
  (gadd_no q at_ A c R s X w h.gw (by omega) (h.own hX) hp hR E hE h0).mono fun e w' ⟨h1, h2⟩ => ⟨h1, h.bel h2, h2⟩
/-- A tenant put among others. -/
def PutR (R R' : List VTen) (s : ByteArray) (X : VCfg) : Prop := ∃ (j : Nat) (y : VTen), j ≤ R.length ∧ (∀ i x, i < j → R[i]? = some x → x.name.data.toList < s.data.toList) ∧ (∀ x, R[j]? = some x → ¬ x.name.data.toList < s.data.toList) ∧ y.name = s ∧ LikeC X y.cfg ∧ R' = R.take j ++ y :: R.drop j
theorem pgAdd0 (h : PS w0 w p b q at_ A c m R) (s : ByteArray) (X : VCfg) (hs : s.size ≤ 100) (hX : CfgAt w0 w0.heap.size X) (hp : -9223372036854775808 ≤ X.protos) (hE : gaddE R s X = 0) :
    Calls Try.prog 12 #[.pointer (some ⟨q, 0, none⟩), .string s, .agg #[.int .i64 X.protos, .int .i64 X.bytes, .int .i64 X.points, .int .i64 X.store, .int .i64 X.mode, .int .i64 X.unit, .slice X.A X.rules.length X.c]] w fun e w' => e = .returned (.int .i64 0) ∧ (∃ A' c' R', PutR R R' s X ∧ PS w0 w' p b q at_ A' c' m R') ∧ Aw [q] w w' :=
  (gadd_yes q at_ A c R s X w h.gw (by omega) (h.own hX) hp hE).mono fun e w' ⟨h1, h2, h3⟩ => by
    obtain ⟨j, y, A', c', g1, g2, g3, g4, g5, g6⟩ := h2
    exact ⟨h1, ⟨A', c', _, ⟨j, y, g1, g2, g3, g4, g5, rfl⟩, h.gate h3 g6⟩, h3⟩
theorem pbDrop (h : PS w0 w p b q at_ A c m R) (s : ByteArray) (hs : s.size ≤ 100) (hv : Bool) (hh : hasKV m s.data.toList = hv) :
    Calls Try.prog 13 #[.pointer (some ⟨p, 0, none⟩), .string s] w fun e w' => e = .returned (.int .i64 (if hv then 0 else 18)) ∧ PS w0 w' p b q at_ A c (delKV m s.data.toList) R ∧ Aw [b] w w' :=
  (bdrop_any p b m s w h.bk (by unfold maxLen; omega)).mono fun e w' ⟨h1, h2, h3⟩ => ⟨by rw [← hh]; exact h1, h.book h3 h2, h3⟩
theorem pgDrop (h : PS w0 w p b q at_ A c m R) (s : ByteArray) (hR : R.length ≤ 1000) (K : Nat) (hf : ixN R s = (K : Int)) (hK : K < R.length) :
    Calls Try.prog 14 #[.pointer (some ⟨q, 0, none⟩), .string s] w fun e w' => e = .returned (.int .i64 0) ∧ (∃ A' c', PS w0 w' p b q at_ A' c' m (R.take K ++ R.drop (K + 1))) ∧ Aw [q] w w' :=
  (gdrop_some q at_ A c R s w h.gw hR K hf hK).mono fun e w' ⟨h1, ⟨A', c', h2⟩, h3⟩ => ⟨h1, ⟨A', c', h.gate h3 h2⟩, h3⟩
end
end Go.Proofs.Ytjffagffjcbolaa
