/- Small lemmas that the walks of this seat share: on bools, bytes of a string, worlds. Small lemmas on worlds: what is new above, what was there stays. Words for memory, after the kit's page of words to copy: a slice that reads as a list; a block that is known whole. Slices of structs and of strings that came in: element by element, cell by cell. Rows and builders of the call's own behind a callee that touches nothing beneath. What the walks over strings, bytes and rows of strings share. All blocks but some are as they were; the scanner's block. -/
import Derived.WalkKit
import Derived.Lib.Hide
import Derived.Lib.Bytealg
import Derived.WalkSmall
import Derived.Laws.OwnMore
import Derived.Laws.Rows
import Derived.Deep.AppendLies
import Derived.Deep.Draws
import Derived.ProofKit
import Derived.Deep.Slices
import Derived.Test.YtpknjngjkdnpiaaGreatDoorProg
import Derived.Lib.Builder
import Derived.Lib.AppendStr
import Derived.Lib.UnsafeStr
import Derived.Laws.IdiomStrings
import Derived.Laws.BytesArg
namespace Go.Proofs.YtpknjngjkdnpiaaGreatDoor
set_option linter.unusedVariables false
set_option linter.unusedSimpArgs false
open Go.RowKit

theorem bcl {b c : Bool} (h : b = true ↔ c = true) : b = c := Bool.eq_iff_iff.2 h
theorem ret_bool {b c : Bool} (h : b = c) : Ending.returned (.bool b) = .returned (.bool c) := by rw [h]
theorem ret_int {k : IntKind} {a b : Int} (h : a = b) : Ending.returned (.int k a) = .returned (.int k b) := by rw [h]
theorem ret_str {a b : ByteArray} (h : a = b) : Ending.returned (.string a) = .returned (.string b) := by rw [h]
/-- The byte at a place, as a number; 0 behind the end. -/
def bt (l : List UInt8) (i : Nat) : Int := ((l.getD i 0).toNat : Int)
theorem getElem_bt {s : ByteArray} {i : Nat} (h : i < s.size) : ((s[i]).toNat : Int) = bt s.data.toList i := by
  unfold bt; rw [List.getD_eq_getElem?_getD, List.getElem?_eq_getElem (by simpa using h)]; rfl
theorem bt_nonneg (l : List UInt8) (i : Nat) : 0 ≤ bt l i := by unfold bt; omega
theorem bt_le (l : List UInt8) (i : Nat) : bt l i ≤ 255 := by
  unfold bt; have := (l.getD i 0).toNat_lt; omega
theorem bt_get {l : List UInt8} {i : Nat} (h : i < l.length) : bt l i = (l[i].toNat : Int) := by
  unfold bt; rw [List.getD_eq_getElem?_getD, List.getElem?_eq_getElem h]; rfl
theorem bcell {W w1 : World} {B : Nat} (hb : Below B W w1) : (∀ b o, b < B → w1.cell? ⟨b, o, none⟩ = W.cell? ⟨b, o, none⟩) ∧ (∀ b o, b < B → w1.frozen? ⟨b, o, none⟩ = W.frozen? ⟨b, o, none⟩) :=
  ⟨fun b o h => hb.cell (p := ⟨b, o, none⟩) h, fun b o h => hb.frozen (p := ⟨b, o, none⟩) h⟩
theorem toUInt8_eq (c : Int) (k : UInt8) (h0 : 0 ≤ c) (h1 : c ≤ 255) : (k = c.toNat.toUInt8) ↔ c = k.toNat := by
  constructor
  · rintro rfl; simp; omega
  · intro h; apply UInt8.toNat_inj.1; simp [h]
/-- What strings.IndexByte answers. -/
def idxB (l : List UInt8) (c : Int) : Int := Lib.indexByte l c.toNat.toUInt8
theorem indexByte_mem (l : List UInt8) (c : UInt8) : 0 ≤ Lib.indexByte l c ↔ c ∈ l := by
  induction l with
  | nil => simp [Lib.indexByte]
  | cons a l ih =>
    have := Lib.indexByte_ge l c
    by_cases h : a = c
    · simp [Lib.indexByte, h]
    · have h' : c ≠ a := fun e => h e.symm
      simp only [Lib.indexByte, List.mem_cons, h', false_or, ← ih]
      simp only [beq_iff_eq, h, if_false]
      split <;> omega
theorem idxB_mem (l : List UInt8) (c : Int) (h0 : 0 ≤ c) (h1 : c ≤ 255) : 0 ≤ idxB l c ↔ ∃ u ∈ l, c = u.toNat := by
  unfold idxB; rw [indexByte_mem]
  constructor
  · intro h; exact ⟨_, h, (toUInt8_eq c _ h0 h1).1 rfl⟩
  · rintro ⟨u, hu, e⟩; rw [← (toUInt8_eq c u h0 h1).2 e]; exact hu
theorem idxB_nonneg_3 (a b d : UInt8) (c : Int) (h0 : 0 ≤ c) (h1 : c ≤ 255) : 0 ≤ idxB [a, b, d] c ↔ c = a.toNat ∨ c = b.toNat ∨ c = d.toNat := by
  rw [idxB_mem _ _ h0 h1]; simp
theorem indexByte3 (a b d : UInt8) (A B D : Int) (c : UInt8) (ha : (a.toNat : Int) = A) (hb : (b.toNat : Int) = B) (hd : (d.toNat : Int) = D) :
    0 ≤ Lib.indexByte [a, b, d] c ↔ (c.toNat : Int) = A ∨ (c.toNat : Int) = B ∨ (c.toNat : Int) = D := by
  subst ha hb hd
  rw [indexByte_mem]; simp only [List.mem_cons, List.not_mem_nil, or_false, ← UInt8.toNat_inj]; omega
theorem bl_trans {a b c : World} (h : Below a.heap.size a b) (k : Below b.heap.size b c) : Below a.heap.size a c := h.trans (k.mono h.size)
theorem bl_alloc {a b : World} (h : Below a.heap.size a b) (o : Obj) : Below a.heap.size a (b.alloc o) := h.alloc h.size o
theorem bl_set {a b : World} (h : Below a.heap.size a b) {p : Addr} (hp : a.heap.size ≤ p.block) (u : Value) : Below a.heap.size a (b.setCell p u) := h.setCell hp u
theorem bl_drewN {a b : World} (h : Below a.heap.size a b) (n : Nat) : Below a.heap.size a (b.drewN n) := below_drewN h n
theorem sz_le (a : Array UInt8) (h : a.size ≤ 1000) : (ByteArray.mk a).size ≤ 9223372036854775807 := by show a.size ≤ _; omega
theorem block_of_add (a : Addr) (n : Nat) : (a.add n).block = a.block := by unfold Addr.add; split <;> rfl
theorem add_of_add (a : Addr) (i j : Nat) : (a.add i).add j = a.add (i + j) := by
  unfold Addr.add
  by_cases hi : i = 0 <;> by_cases hj : j = 0 <;> simp [hi, hj, Nat.add_assoc]

def Reads (w : World) (B size : Nat) (A : Option Addr) (n : Nat) (xs : List Value) : Prop :=
  xs.length = n * size ∧ (0 < n → ∃ ad, A = some ad ∧ ad.block < B ∧ ∀ j u, xs[j]? = some u → w.cell? (ad.add j) = some u)

section
variable {w w' : World} {B B' size n : Nat} {A : Option Addr} {xs : List Value}
theorem Reads.none_ : Reads w B size A 0 [] := ⟨by simp, fun h => absurd h (by omega)⟩
theorem Reads.at_ {k : Nat} (h : Reads w B 1 A n xs) (hk : k < n) : ∃ ad u, A = some ad ∧ ad.block < B ∧ xs[k]? = some u ∧ w.cell? (ad.add k) = some u := by
  obtain ⟨ad, e, hb, hc⟩ := h.2 (by omega)
  have hl : k < xs.length := by have := h.1; omega
  exact ⟨ad, xs[k], e, hb, List.getElem?_eq_getElem hl, hc k _ (List.getElem?_eq_getElem hl)⟩
theorem Reads.keep (h : Reads w B size A n xs) (hk : ∀ p : Addr, p.block < B → w'.cell? p = w.cell? p) : Reads w' B size A n xs :=
  ⟨h.1, fun hn => by
    obtain ⟨ad, e, hb, hc⟩ := h.2 hn
    exact ⟨ad, e, hb, fun j u hu => (hk _ (by rw [block_of_add]; exact hb)).trans (hc j u hu)⟩⟩
theorem Reads.more (h : Reads w B size A n xs) (hB : B ≤ B') : Reads w B' size A n xs :=
  ⟨h.1, fun hn => by
    obtain ⟨ad, e, hb, hc⟩ := h.2 hn
    exact ⟨ad, e, by omega, hc⟩⟩
theorem Reads.below (h : Reads w B size A n xs) (hb : Below B w w') : Reads w' B size A n xs := h.keep fun _ hp => hb.cell hp
theorem Reads.drew (h : Reads w B size A n xs) : Reads w.drew B size A n xs := h
theorem Reads.drewN (h : Reads w B size A n xs) (k : Nat) : Reads (w.drewN k) B size A n xs := h
theorem Reads.alloc (h : Reads w B size A n xs) (hB : B ≤ w.heap.size) (o : Obj) : Reads (w.alloc o) B size A n xs := h.keep fun p hp => World.cell?_alloc_lt w o p (by omega)
theorem Reads.setCell (h : Reads w B size A n xs) {p : Addr} (hB : B ≤ p.block) (u : Value) : Reads (w.setCell p u) B size A n xs :=
  h.keep fun q hq => World.cell?_setCell_other w p q u (fun e => by subst e; omega)
theorem Reads.grown (h : Reads w B size A n xs) {row : Option Nat} (hg : w.grownBy w' row) (hB : B ≤ w.heap.size) (hr : ∀ g, row = some g → B ≤ g) : Reads w' B size A n xs :=
  h.keep fun p hp => World.cell?_of_block (hg.block p.block (by omega) (fun e => by have := hr _ e.symm; omega))
theorem Reads.cut (h : Reads w B size A n xs) {k cap : Nat} (hk : k ≤ n) (hc : n ≤ cap) :
    Reads w B size (if cap = k then A else A.map (·.add (k * size))) (n - k) (xs.drop (k * size)) := by
  refine ⟨by rw [List.length_drop, h.1, Nat.sub_mul], fun hn => ?_⟩
  obtain ⟨ad, rfl, hb, hcell⟩ := h.2 (by omega)
  rw [if_neg (by omega)]
  refine ⟨ad.add (k * size), rfl, by rw [block_of_add]; exact hb, fun j u hu => ?_⟩
  rw [add_of_add]
  exact hcell _ u (by rw [← hu, List.getElem?_drop])
theorem Reads.of_own {base : Nat} {e : TypeId} {c : Nat} (h : w.ownsRow base e size (.slice A n c) n xs) : Reads w w.heap.size size A n xs := by
  refine ⟨h.1, fun hn => ?_⟩
  obtain ⟨g, cap, hv, _, hlt⟩ := h.form hn
  have hA : A = some ⟨g, 0, none⟩ := by injection hv
  subst hA
  exact ⟨_, rfl, hlt, h.cells (g := g) rfl⟩
end
def Blk (w : World) (g : Nat) (t : TypeId) (cs : Array Value) : Prop := w.heap[g]? = some (.cells cs t (0, 0))

section
variable {w w' : World} {g : Nat} {t : TypeId} {cs : Array Value}
theorem Blk.lt (h : Blk w g t cs) : g < w.heap.size := by
  rcases Nat.lt_or_ge g w.heap.size with hlt | hge
  · exact hlt
  · unfold Blk at h; rw [Array.getElem?_eq_none hge] at h; cases h
theorem Blk.cell (h : Blk w g t cs) (i : Nat) : w.cell? ⟨g, i, none⟩ = cs[i]? := cell_of_row w g i cs t (0, 0) h
theorem Blk.frozen (h : Blk w g t cs) (i : Nat) : w.frozen? ⟨g, i, none⟩ = false := by
  unfold Blk at h
  simp [World.frozen?, h]
theorem Blk.new (w : World) (t : TypeId) (cs : Array Value) : Blk (w.alloc (.cells cs t)) w.heap.size t cs := heap_alloc_new w _
theorem Blk.drew (h : Blk w g t cs) : Blk w.drew g t cs := h
theorem Blk.drewN (h : Blk w g t cs) (n : Nat) : Blk (w.drewN n) g t cs := h
theorem Blk.alloc (h : Blk w g t cs) (o : Obj) : Blk (w.alloc o) g t cs := (Below.heap_alloc w o g h.lt).trans h
theorem Blk.set_ (h : Blk w g t cs) (i : Nat) (u : Value) : Blk (w.setCell ⟨g, i, none⟩ u) g t (cs.setIfInBounds i u) := by
  unfold Blk at h ⊢
  simp [World.setCell, Array.getElem?_modify, h]
theorem Blk.far (h : Blk w g t cs) {p : Addr} (hp : g ≠ p.block) (u : Value) : Blk (w.setCell p u) g t cs := (Below.heap_setCell w p u g hp).trans h
theorem Blk.below {B : Nat} (h : Blk w g t cs) (hb : Below B w w') (hg : g < B) : Blk w' g t cs := (hb.block g hg).trans h
theorem Blk.grown {row : Option Nat} (h : Blk w g t cs) (hb : w.grownBy w' row) (hg : some g ≠ row) : Blk w' g t cs := (hb.block g h.lt hg).trans h
theorem Blk.ne_ {g' : Nat} {t' : TypeId} {cs' : Array Value} (h : Blk w g t cs) (h' : Blk w g' t' cs') (hne : t ≠ t') : g ≠ g' := by
  rintro rfl
  unfold Blk at h h'
  rw [h] at h'
  injection h' with h'
  injection h' with _ ht
  exact hne ht
theorem own_blk_ne {base : Nat} {e : TypeId} {size n : Nat} {v : Value} {xs : List Value} (h : w.ownsRow base e size v n xs) (hg : Blk w g t cs) (hne : e ≠ t) : v.ownBlock ≠ some g := by
  rcases h.2 with ⟨rfl, _⟩ | ⟨g', cap, cur, rfl, _, hh, _⟩
  · simp [Value.ownBlock]
  · intro he
    have : g' = g := by simpa [Value.ownBlock] using he
    subst this
    exact Blk.ne_ (t := e) hh hg hne rfl
end
/-- A slice value whose i-th element's cells are 'f xs[i]': nil and empty let in. -/
def IsRows {α : Type} (f : α → List Value) (size : Nat) (w : World) (B : Nat) (A : Option Addr) (n : Nat) (xs : List α) : Prop :=
  xs.length = n ∧ (0 < n → ∃ b off, A = some ⟨b, off, none⟩ ∧ b < B ∧ ∀ i x j u, xs[i]? = some x → (f x)[j]? = some u → w.cell? ⟨b, off + (i * size + j), none⟩ = some u)
section
variable {α : Type} {f : α → List Value} {size : Nat} {w w' : World} {B B' : Nat} {A : Option Addr} {n : Nat} {xs : List α}
theorem IsRows.keep (h : IsRows f size w B A n xs) (hk : ∀ b o, b < B → w'.cell? ⟨b, o, none⟩ = w.cell? ⟨b, o, none⟩) : IsRows f size w' B A n xs :=
  ⟨h.1, fun hn => by
    obtain ⟨b, off, e, hb, hc⟩ := h.2 hn
    exact ⟨b, off, e, hb, fun i x j u hx hu => (hk _ _ hb).trans (hc i x j u hx hu)⟩⟩
theorem IsRows.below (h : IsRows f size w B A n xs) (hb : Below B w w') : IsRows f size w' B A n xs := h.keep fun b o hp => hb.cell (p := ⟨b, o, none⟩) hp
theorem IsRows.more (h : IsRows f size w B A n xs) (hB : B ≤ B') : IsRows f size w B' A n xs :=
  ⟨h.1, fun hn => by
    obtain ⟨b, off, e, hb, hc⟩ := h.2 hn
    exact ⟨b, off, e, by omega, hc⟩⟩
theorem IsRows.nil_ : IsRows f size w B A 0 ([] : List α) := ⟨rfl, fun h => absurd h (by omega)⟩
end
theorem flatMap_at {α : Type} (f : α → List Value) (size : Nat) (hf : ∀ x, (f x).length = size) : ∀ (xs : List α) (i : Nat) (x : α) (j : Nat) (u : Value), xs[i]? = some x → (f x)[j]? = some u → (xs.flatMap f)[i * size + j]? = some u
  | [], i, x, j, u, h, _ => by simp at h
  | y :: ys, 0, x, j, u, h, hu => by
    simp at h; subst h
    have hj := (List.getElem?_eq_some_iff.1 hu).1
    rw [List.flatMap_cons, Nat.zero_mul, Nat.zero_add, List.getElem?_append_left hj]; exact hu
  | y :: ys, i + 1, x, j, u, h, hu => by
    have ih := flatMap_at f size hf ys i x j u (by simpa using h) hu
    rw [List.flatMap_cons, List.getElem?_append_right (by rw [hf, Nat.add_mul, Nat.one_mul]; omega), hf, show (i + 1) * size + j - size = i * size + j by rw [Nat.add_mul, Nat.one_mul]; omega]
    exact ih
/-- A row that the call has just made. -/
theorem IsRows.made {α : Type} {f : α → List Value} {size : Nat} (hf : ∀ x, (f x).length = size) (W : World) (T : TypeId) (cs : Array Value) (xs : List α) (h : cs.toList = xs.flatMap f) :
    IsRows f size (W.alloc (.cells cs T)) (W.alloc (.cells cs T)).heap.size (some ⟨W.heap.size, 0, none⟩) xs.length xs := by
  refine ⟨rfl, fun _ => ⟨_, _, rfl, by simp, fun i x j u hx hu => ?_⟩⟩
  rw [World.cell?_alloc_at _ _ _ _ rfl, Nat.zero_add, ← Array.getElem?_toList, h]
  exact flatMap_at f size hf xs i x j u hx hu
theorem lt_of_cell {w : World} {a : Addr} {v : Value} (h : w.cell? a = some v) : a.block < w.heap.size := by
  rcases Nat.lt_or_ge a.block w.heap.size with h' | h'
  · exact h'
  · unfold World.cell? at h
    rw [Array.getElem?_eq_none h'] at h
    simp at h
section
variable {H : Type} {enc : TypeId × Value → H} {P : Program} {w : World} {base : Nat} {spare : Nat → Bool} {held : Bool}
theorem open_isRows {α : Type} [Inhabited α] (f : α → List Value) (OK : α → Prop) (size : Nat) {t e : TypeId} (hsz : P.cellsOf e = size) (hpos : 0 < size) (ht : P.underlying t = some (.slice e))
    (hq : ∀ n cs x, DataW.trod enc P w base spare held n e cs = some x → ∃ y, cs = f y ∧ OK y) {A : Option Addr} {len cap : Nat} {x : DataW H × List MemPlace}
    (h : ∃ fuel, DataW.trod enc P w base spare held fuel t (Value.cells (.slice A len cap)).toList = some x) :
    ∃ xs : List α, IsRows f size w w.heap.size A len xs ∧ (∀ y ∈ xs, OK y) ∧ len ≤ cap ∧ cap ≤ maxLen := by
  obtain ⟨fuel, hf⟩ := h
  rcases Go.Deep.open_slice ht hf with ⟨hcs, _⟩ | ⟨a, l, c, m, n, D, Pl, hcs, _, hl, hm, hmm, _, hx⟩
  · simp [Value.cells] at hcs
    obtain ⟨rfl, rfl, rfl⟩ := hcs
    exact ⟨[], IsRows.nil_, by simp, Nat.le_refl _, Nat.zero_le _⟩
  · simp [Value.cells] at hcs
    obtain ⟨rfl, rfl, rfl⟩ := hcs
    have hlm : len ≤ m := by rw [hmm]; split <;> omega
    obtain ⟨g, hg⟩ := Go.Deep.choose_lt (α := α) (n := len) (p := fun i y => OK y ∧ ∀ j u, (f y)[j]? = some u → j < size ∧ w.cell? (a.add (i * size + j)) = some u) (fun i hi => by
      obtain ⟨cs', h1, h2⟩ := hx i (by omega)
      obtain ⟨y, rfl, hy⟩ := hq _ _ _ h2
      obtain ⟨_, hlen, hc⟩ := World.cells?_some h1
      rw [hsz] at hlen hc
      refine ⟨y, hy, fun j u hu => ?_⟩
      have hj : j < size := by
        have := (List.getElem?_eq_some_iff.1 hu).1; omega
      have := hc j hj
      rw [Go.Deep.add_add] at this
      exact ⟨hj, this.trans hu⟩)
    refine ⟨(List.range len).map g, ⟨by simp, fun hn => ?_⟩, ?_, hl, hm⟩
    · have hsp : ∃ b off, a = ⟨b, off, none⟩ ∧ b < w.heap.size := by
        obtain ⟨cs', h1, h2⟩ := hx 0 (by omega)
        obtain ⟨_, hlen, hc⟩ := World.cells?_some h1
        rw [hsz] at hlen hc
        have h0 := hc 0 hpos
        rw [Go.Deep.add_add] at h0
        simp only [Nat.zero_mul, Nat.add_zero] at h0
        rw [List.getElem?_eq_getElem (by omega)] at h0
        have e0 : a.add 0 = a := by simp [Addr.add]
        rw [e0] at h0
        have hs := World.cell?_spot h0
        have hb := lt_of_cell h0
        obtain ⟨b, off, sp⟩ := a
        simp only at hs hb
        subst hs
        exact ⟨b, off, rfl, hb⟩
      obtain ⟨b, off, rfl, hb⟩ := hsp
      refine ⟨b, off, rfl, hb, fun i y j u hy hu => ?_⟩
      have hi : i < len := by
        have := (List.getElem?_eq_some_iff.1 hy).1; simpa using this
      rw [List.getElem?_map, List.getElem?_range hi] at hy
      simp only [Option.map_some, Option.some.injEq] at hy
      subst hy
      have := ((hg i hi).2 j u hu).2
      have e : (⟨b, off, none⟩ : Addr).add (i * size + j) = ⟨b, off + (i * size + j), none⟩ := by unfold Addr.add; split <;> simp_all
      rw [e] at this
      exact this
    · intro y hy
      obtain ⟨i, hi, rfl⟩ := List.mem_map.1 hy
      exact (hg i (by simpa using hi)).1
end
theorem own_bel {w w' : World} {base : Nat} {e : TypeId} {size : Nat} {v : Value} {n : Nat} {xs : List Value} (h : w.ownsRow base e size v n xs) (hb : Below w.heap.size w w') : w'.ownsRow base e size v n xs := by
  obtain ⟨hl, h | ⟨g, cap, cur, hv, hg, hh, r⟩⟩ := h
  · exact ⟨hl, .inl h⟩
  · refine ⟨hl, .inr ⟨g, cap, cur, hv, hg, ?_, r⟩⟩
    have hlt : g < w.heap.size := by
      rcases Nat.lt_or_ge g w.heap.size with h' | h'
      · exact h'
      · rw [Array.getElem?_eq_none (by omega)] at hh; cases hh
    exact (hb.block g hlt).trans hh
theorem bldAt_bel {T e : TypeId} {B b : Nat} {p : Value} {bs : List Value} {w w' : World} (h : Lib.BuilderAt T e B b p bs w) (hb : Below w.heap.size w w') : Lib.BuilderAt T e B b p bs w' := by
  obtain ⟨hB, v, hv, hown, hne⟩ := h
  have hlt : b < w.heap.size := Lib.BuilderAt.lt ⟨hB, v, hv, hown, hne⟩
  exact ⟨hB, v, (hb.block b hlt).trans hv, own_bel hown hb, hne⟩
theorem bld_bel {T e : TypeId} {B b : Nat} {bs : List Value} {w w' : World} (h : Lib.IsBuilder T e B b bs w) (hb : Below w.heap.size w w') : Lib.IsBuilder T e B b bs w' :=
  h.imp (bldAt_bel · hb) (bldAt_bel · hb)
theorem bld_drewN {T e : TypeId} {B b : Nat} {bs : List Value} {w : World} (h : Lib.IsBuilder T e B b bs w) (n : Nat) : Lib.IsBuilder T e B b bs (w.drewN n) := h
theorem bld_new {T e : TypeId} {w : World} : Lib.IsBuilder T e w.heap.size w.heap.size [] (w.alloc (.cells #[.pointer none, .slice none 0 0] T)) :=
  .inl ⟨Nat.le_refl _, _, by show (w.heap.push _)[w.heap.size]? = _; simp, World.ownsRow_nil _ _ _ _, by simp [Value.ownBlock]⟩
/-- Below a mark of the outer call, behind a callee's own. -/
theorem bl_any {w a b : World} (h : Below w.heap.size w a) (k : Below a.heap.size a b) : Below w.heap.size w b := h.trans (k.mono h.size)
/-- A callee that says 'Below B' of a mark B that is at most the outer one's size. -/
theorem bl_mark {w a b : World} (h : Below w.heap.size w a) (k : Below w.heap.size a b) : Below w.heap.size w b := h.trans k
theorem byteCells_app (a b : List UInt8) : Lib.byteCells (a ++ b) = Lib.byteCells a ++ Lib.byteCells b := by simp [Lib.byteCells]
theorem data_drop (s : ByteArray) (k : Nat) : (s.extract k s.size).data.toList = s.data.toList.drop k := by
  rw [ByteArray.data_extract, Array.toList_extract]; simp [List.extract, List.take_of_length_le]
theorem getD_at (s : ByteArray) (k : Nat) (h : k < s.size) : s.data.toList.getD k 0 = s[k] := by
  rw [List.getD_eq_getElem?_getD, List.getElem?_eq_getElem (by simpa using h)]; rfl
theorem size_mk (a : List UInt8) : (⟨a.toArray⟩ : ByteArray).size = a.length := rfl
theorem bytes_ext (s t : ByteArray) (h : s.data.toList = t.data.toList) : s = t := by
  cases s; cases t; congr; exact Array.toList_inj.1 h
theorem u8_is (x : UInt8) (c : UInt8) : (c == x) = ((x.toNat : Int) == (c.toNat : Int)) := by
  apply bcl
  rw [beq_iff_eq, beq_iff_eq]
  exact ⟨fun h => by rw [h], fun h => (UInt8.toNat_inj.1 (by omega)).symm⟩
def strCell (s : ByteArray) : List Value := [.string s]
theorem own_rws {α : Type} {f : α → List Value} {size : Nat} (hf : ∀ x, (f x).length = size) {w : World} {base : Nat} {e : TypeId} {v : Value} {n : Nat} {l : List α} (h : w.ownsRow base e size v n (l.flatMap f)) (hn : l.length = n) :
    ∃ (A : Option Addr) (cap : Nat), v = .slice A n cap ∧ IsRows f size w w.heap.size A n l := by
  obtain ⟨hl, ⟨rfl, rfl⟩ | ⟨g, cap, cur, rfl, hg, hh, hnc, hcm, hcs, htk⟩⟩ := h
  · exact ⟨none, 0, rfl, hn, fun h => absurd h (by omega)⟩
  · refine ⟨_, cap, rfl, hn, fun _ => ⟨g, 0, rfl, ?_, fun i x j u hx hu => ?_⟩⟩
    · rcases Nat.lt_or_ge g w.heap.size with h' | h'
      · exact h'
      · rw [Array.getElem?_eq_none (by omega)] at hh; cases hh
    · have h1 := flatMap_at f size hf l i x j u hx hu
      rw [← htk] at h1
      rw [cell_of_row w g (0 + (i * size + j)) cur e (0, 0) hh, Nat.zero_add, ← Array.getElem?_toList]
      rw [List.getElem?_take] at h1
      split at h1
      · exact h1
      · cases h1
theorem Tryz.infoString : (Tryz.prog.info? 9).map (fun i => (i.zero, i.size, i.bytes)) = some (some (.string ⟨#[]⟩), 1, 16) := by kernel_rfl
theorem Tryz.infoByte : (Tryz.prog.info? 5).map (fun i => (i.zero, i.size, i.bytes)) = some (some (.int .u8 0), 1, 1) := by kernel_rfl
theorem conv_own {w : World} {base : Nat} {v : Value} {acc : List UInt8} (h : w.ownsRow base 5 1 v acc.length (Lib.byteCells acc)) :
    (convert 51 9 v).run Tryz.prog w = .ok (.string ⟨acc.toArray⟩) w := by
  have h1 : Tryz.prog.underlying 51 = some (.slice 5) := by kernel_rfl
  have h2 : Tryz.prog.underlying 5 = some (.int .u8) := by kernel_rfl
  have h3 : Tryz.prog.underlying 9 = some .string := by kernel_rfl
  obtain ⟨hl, ⟨rfl, h0⟩ | ⟨g, cap, cur, rfl, hg, hh, hnc, hcm, hcs, htk⟩⟩ := h
  · have : acc = [] := List.length_eq_zero_iff.1 h0
    subst this
    exact run_convert_bytes_nil w 51 5 h1 h2 0 0 9 h3
  · refine run_convert_bytes_back w _ _ _ _ _ acc h1 h2 h3 fun j hj => ?_
    have h4 : (⟨g, 0, none⟩ : Addr).add j = ⟨g, j, none⟩ := by unfold Addr.add; split <;> simp_all
    rw [h4, cell_of_row w g j cur _ (0, 0) hh]
    have h5 : (cur.toList.take (acc.length * 1))[j]? = some (.int .u8 (acc[j].toNat : Int)) := by rw [htk]; simp [Lib.byteCells, hj]
    rw [List.getElem?_take] at h5
    split at h5
    · rw [← Array.getElem?_toList]; exact h5
    · cases h5
theorem own_drewN {base : Nat} {e : TypeId} {size : Nat} {v : Value} {n : Nat} {xs : List Value} {w : World} (h : w.ownsRow base e size v n xs) (k : Nat) : (w.drewN k).ownsRow base e size v n xs := h
structure Aw (S : List Nat) (w w' : World) : Prop where
  os : w'.os = w.os
  tape : w'.tape = w.tape
  output : w'.output = w.output
  size : w.heap.size ≤ w'.heap.size
  block : ∀ k, k < w.heap.size → k ∉ S → w'.heap[k]? = w.heap[k]?
section
variable {S : List Nat} {a b c w w' : World}
theorem Aw.refl (S : List Nat) (w : World) : Aw S w w := ⟨rfl, rfl, rfl, Nat.le_refl _, fun _ _ _ => rfl⟩
theorem Aw.trans (h : Aw S a b) (k : Aw S b c) : Aw S a c :=
  ⟨k.os.trans h.os, k.tape.trans h.tape, k.output.trans h.output, Nat.le_trans h.size k.size, fun i hi hn => (k.block i (Nat.lt_of_lt_of_le hi h.size) hn).trans (h.block i hi hn)⟩
theorem Aw.mono {S' : List Nat} (h : Aw S a b) (hs : ∀ k, k ∈ S → k ∈ S') : Aw S' a b := ⟨h.os, h.tape, h.output, h.size, fun k hk hn => h.block k hk (fun e => hn (hs k e))⟩
theorem Aw.drew (h : Aw S a b) : Aw S a b.drew := ⟨h.os, h.tape, h.output, h.size, h.block⟩
theorem Aw.drewN (h : Aw S a b) (n : Nat) : Aw S a (b.drewN n) := h.trans (by
  have := below_drewN (Below.refl b.heap.size b) n
  exact ⟨this.os, this.tape, this.output, this.size, fun k hk _ => this.block k hk⟩)
/-- Behind a callee of a mark of its own. -/
theorem Aw.below {B : Nat} (h : Aw S a b) (k : Below B b c) (hB : a.heap.size ≤ B) : Aw S a c :=
  ⟨k.os.trans h.os, k.tape.trans h.tape, k.output.trans h.output, Nat.le_trans h.size k.size, fun i hi hn => (k.block i (by omega)).trans (h.block i hi hn)⟩
theorem Aw.bel (h : Aw S a b) (k : Below b.heap.size b c) : Aw S a c := h.below k h.size
theorem Aw.ofBelow (k : Below a.heap.size a b) : Aw S a b := (Aw.refl S a).bel k
theorem Aw.alloc (h : Aw S a b) (o : Obj) : Aw S a (b.alloc o) := h.bel ((Below.refl _ _).alloc (Nat.le_refl _) o)
theorem Aw.setCell (h : Aw S a b) {p : Addr} (hp : p.block ∈ S ∨ a.heap.size ≤ p.block) (u : Value) : Aw S a (b.setCell p u) :=
  ⟨h.os, h.tape, h.output, by simpa [World.setCell] using h.size, fun i hi hn => (Below.heap_setCell b p u i (fun e => by
    rcases hp with hp | hp
    · exact hn (e ▸ hp)
    · omega)).trans (h.block i hi hn)⟩
theorem Aw.grown {row : Option Nat} (h : Aw S a b) (hg : b.grownBy c row) (hr : ∀ k, row = some k → k ∈ S ∨ a.heap.size ≤ k) : Aw S a c :=
  ⟨hg.os.trans h.os, hg.tape.trans h.tape, hg.output.trans h.output, Nat.le_trans h.size hg.size, fun i hi hn => (hg.block i (Nat.lt_of_lt_of_le hi h.size) (fun e => by
    rcases hr i e.symm with h1 | h1
    · exact hn h1
    · omega)).trans (h.block i hi hn)⟩
/-- Below a mark that all of the blocks lie above. -/
theorem Aw.bel_of {B : Nat} (h : Aw S a b) (hS : ∀ k, k ∈ S → B ≤ k) (hB : B ≤ a.heap.size) : Below B a b :=
  ⟨h.os, h.tape, h.output, h.size, fun k hk => h.block k (by omega) (fun e => by have := hS k e; omega)⟩
theorem Aw.none_bel (h : Aw [] a b) : Below a.heap.size a b := h.bel_of (fun k hk => by simp at hk) (Nat.le_refl _)
/-- Behind a callee that turned blocks of the call's own alone. -/
theorem Aw.own {S' : List Nat} (h : Aw S a b) (k : Aw S' b c) (hS : ∀ k, k ∈ S' → k ∈ S ∨ a.heap.size ≤ k) : Aw S a c :=
  ⟨k.os.trans h.os, k.tape.trans h.tape, k.output.trans h.output, Nat.le_trans h.size k.size, fun i hi hn => (k.block i (Nat.lt_of_lt_of_le hi h.size) (fun e => by
    rcases hS i e with h1 | h1
    · exact hn h1
    · omega)).trans (h.block i hi hn)⟩
theorem Blk.aw {g : Nat} {t : TypeId} {cs : Array Value} (h : Blk w g t cs) (k : Aw S w w') (hg : g ∉ S) : Blk w' g t cs := (k.block g h.lt hg).trans h
theorem own_aw {base : Nat} {e : TypeId} {size n : Nat} {v : Value} {xs : List Value} (h : w.ownsRow base e size v n xs) (k : Aw S w w') (hv : ∀ g, v.ownBlock = some g → g ∉ S) : w'.ownsRow base e size v n xs := by
  obtain ⟨hl, h | ⟨g, cap, cur, rfl, hg, hh, r⟩⟩ := h
  · exact ⟨hl, .inl h⟩
  · refine ⟨hl, .inr ⟨g, cap, cur, rfl, hg, ?_, r⟩⟩
    have hlt : g < w.heap.size := by
      rcases Nat.lt_or_ge g w.heap.size with h' | h'
      · exact h'
      · rw [Array.getElem?_eq_none (by omega)] at hh; cases hh
    exact (k.block g hlt (hv g rfl)).trans hh
theorem bldAt_aw {T e : TypeId} {B d : Nat} {p : Value} {bs : List Value} (h : Lib.BuilderAt T e B d p bs w) (k : Aw S w w') (hS : ∀ i, i ∈ S → i < B) : Lib.BuilderAt T e B d p bs w' := by
  obtain ⟨hB, v, hv, hown, hne⟩ := h
  have hlt : d < w.heap.size := Lib.BuilderAt.lt ⟨hB, v, hv, hown, hne⟩
  refine ⟨hB, v, (k.block d hlt (fun e => by have := hS d e; omega)).trans hv, own_aw hown k (fun g hg e => ?_), hne⟩
  have h1 := hS g e
  have h2 := (hown.lt g hg).1
  omega
theorem bld_aw {T e : TypeId} {B d : Nat} {bs : List Value} (h : Lib.IsBuilder T e B d bs w) (k : Aw S w w') (hS : ∀ i, i ∈ S → i < B) : Lib.IsBuilder T e B d bs w' :=
  h.imp (bldAt_aw · k hS) (bldAt_aw · k hS)
theorem IsRows.aw {α : Type} {f : α → List Value} {size B n : Nat} {A : Option Addr} {xs : List α} (h : IsRows f size w B A n xs) (k : Aw S w w') (hB : B ≤ w.heap.size) (hS : ∀ i, i ∈ S → B ≤ i) : IsRows f size w' B A n xs :=
  h.keep fun b o hb => World.cell?_of_block (k.block b (by omega) (fun e => by have := hS b e; omega))
end
theorem num_succ (a : Nat) : Value.int .i64 ((a : Int) + 1) = Value.int .i64 ((a + 1 : Nat) : Int) := rfl
end Go.Proofs.YtpknjngjkdnpiaaGreatDoor
