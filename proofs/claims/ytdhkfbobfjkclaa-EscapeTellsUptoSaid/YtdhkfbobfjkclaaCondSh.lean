/- The row's step where the specification bears a condition and the walk wants the world's shape; strings of a slice that came in, with their sizes. -/
import Derived.Test.YtdhkfbobfjkclaaRows
import Derived.Test.YtdhkfbobfjkclaaEsc3
import Derived.WalkKit
import Derived.ProofKit
import Derived.JoinedCond
namespace Go.Proofs.Ytdhkfbobfjkclaa
open Go.RowKit Go.ChangeShapes
theorem handed_cond_shaped {H : Type} {enc : TypeId × Value → H} {a : Assume} {C : Checked} {os : Os} {f : FuncId} {fn : Func} {s : OpenSpec} {k : (H : Type) → List (DataW H) → Bool} (hk : s.cond = some k) {F : Stop.Interp} {conds : List PathCond} {apart fresh handsOn again : Bool}
    (own : ownKnob C.prog.godebug = none) (started : os.Started) (noInit : C.prog.inits.idxOf? f = none) (hfn : C.prog.funcs[f]? = some fn)
    (witness : ∃ (w : World) (tape : Tape) (i : Input), w.os = os ∧ (w.forCall tape i).Shaped C.prog ∧ i.vars = [] ∧ Input.okWide C.prog (w.forCall tape i) .any w.heap.size f i ∧
      s.pre6 enc C.prog fn conds apart (w.forCall tape i).memory i.args ∧ a.holds C.prog (lone (Frame.enter C.prog f i.args .normal) [] (w.forCall tape i)))
    (contract : ∀ (W : World) (base : Nat) (args : Array Value) (ds gs : List (DataW H)) (before : List MemPlace),
      (∀ (j : Nat) t v, fn.params[j]? = some t → args[j]? = some v → Value.okWide C.prog W .any base t v) →
      DataW.Whole enc C.prog fn.params.toList s.vars apart W args.toList ds gs before →
      k H (ds ++ gs) = true → W.ShapedOpen C.prog →
      Calls C.prog f args W fun e W' => ∃ v, e = .returned v ∧ (s.at F).post enc C.prog fn apart fresh handsOn again W args v W') :
    ReturnsInHanded a C os f .any (s.pre6 enc C.prog fn conds apart) ((s.at F).post enc C.prog fn apart fresh handsOn again) := by
  refine returnsInHanded_of_calls own started noInit witness ?_
  intro w tape i _ hsh _ hok hpre _
  obtain ⟨_, _, _, fn', hfn', _, _, _, _, hval⟩ := hok
  have e : fn' = fn := Option.some.inj (hfn'.symm.trans hfn)
  subst e
  obtain ⟨ds, gs, before, hw, _, hkk⟩ := (OpenSpec.pre_some hk conds apart _ _).1 hpre.1
  have hw' := DataW.Whole.of_heap (w' := w.forCall tape i) (by rfl) hw
  refine (contract (w.forCall tape i) w.heap.size i.args ds gs before hval hw' hkk hsh).mono fun e W' ⟨v, he, hp⟩ => ?_
  subst he
  exact ChangeSpec.post_blind hp
theorem bulk_part {H : Type} {d : DataW H} {l : List (DataW H)} (h : d ∈ l) : Rows.uptoBulk d ≤ Rows.uptoBulkAll l := by
  induction l with
  | nil => cases h
  | cons x r ih =>
    simp only [Rows.uptoBulkAll]
    cases List.mem_cons.1 h with
    | inl e => subst e; omega
    | inr e => have := ih e; omega
theorem open_strs {H : Type} {enc : TypeId × Value → H} {w : World} {base : Nat} {spare : Nat → Bool} {held : Bool} {A : Option Addr} {len cap : Nat} {d : DataW H} {ps : List MemPlace}
    (h : DataW.Trod enc Try.prog w base spare held 48 (.slice A len cap) d ps) : ∃ xs : List ByteArray, IsRows strCell 1 w w.heap.size A len xs ∧ ∀ y ∈ xs, y.size ≤ Rows.uptoBulk d := by
  obtain ⟨fuel, hf⟩ := h
  have h1 : Try.prog.underlying 48 = some (.slice 9) := by kernel_rfl
  have h2 : Try.prog.underlying 9 = some .string := by kernel_rfl
  have h3 : Try.prog.cellsOf 9 = 1 := by kernel_rfl
  rcases Go.Deep.open_slice h1 hf with ⟨hcs, _⟩ | ⟨a, l, c, m, n, D, Pl, hcs, _, hl, hm, hmm, hxx, hx⟩
  · simp [Value.cells] at hcs
    obtain ⟨rfl, rfl, rfl⟩ := hcs
    exact ⟨[], IsRows.nil_, by simp⟩
  · simp [Value.cells] at hcs
    obtain ⟨rfl, rfl, rfl⟩ := hcs
    have hlm : len ≤ m := by rw [hmm]; split <;> omega
    injection hxx with hd _
    obtain ⟨g, hg⟩ := Go.Deep.choose_lt (α := ByteArray) (n := len) (p := fun i y => D i = .lit (.string y.data.toList) ∧ w.cell? (a.add i) = some (.string y)) (fun i hi => by
      obtain ⟨cs', q1, q2⟩ := hx i (by omega)
      obtain ⟨y, rfl, hy, _⟩ := DataW.trod_string h2 q2
      injection hy with hy1 _
      obtain ⟨_, hlen, hc⟩ := World.cells?_some q1
      rw [h3] at hlen hc
      have := hc 0 (by omega)
      rw [Go.Deep.add_add] at this
      simp only [Nat.mul_one, Nat.add_zero] at this
      exact ⟨y, hy1, this⟩)
    refine ⟨(List.range len).map g, ⟨by simp, fun hn => ?_⟩, ?_⟩
    · obtain ⟨b, off, sp⟩ := a
      have h0 := (hg 0 hn).2
      have e0 : (⟨b, off, sp⟩ : Addr).add 0 = ⟨b, off, sp⟩ := by simp [Addr.add]
      rw [e0] at h0
      have hs := World.cell?_spot h0
      have hb := lt_of_cell h0
      simp only at hs hb
      subst hs
      refine ⟨b, off, rfl, hb, fun i y j u hy hu => ?_⟩
      have hi : i < len := by
        have := (List.getElem?_eq_some_iff.1 hy).1; simpa using this
      rw [List.getElem?_map, List.getElem?_range hi] at hy
      simp only [Option.map_some, Option.some.injEq] at hy
      subst hy
      match j, hu with
      | 0, hu =>
        injection hu with hu
        subst hu
        have := (hg i hi).2
        have e : (⟨b, off, none⟩ : Addr).add i = ⟨b, off + (i * 1 + 0), none⟩ := by unfold Addr.add; split <;> simp_all
        rw [e] at this
        exact this
      | j + 1, hu => simp [strCell] at hu
    · intro y hy
      obtain ⟨i, hi, rfl⟩ := List.mem_map.1 hy
      have hi' : i < len := by simpa using hi
      have hD := (hg i hi').1
      have hmem : D i ∈ (List.range len).map D := List.mem_map.2 ⟨i, hi, rfl⟩
      have h5 := bulk_part hmem
      rw [hD] at h5
      simp only [Rows.uptoBulk] at h5
      subst hd
      simp only [Rows.uptoBulk]
      have h6 : (g i).data.toList.length = (g i).size := by simp
      omega
end Go.Proofs.Ytdhkfbobfjkclaa
