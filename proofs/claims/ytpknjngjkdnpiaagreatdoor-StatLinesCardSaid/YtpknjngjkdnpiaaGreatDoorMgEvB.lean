/- The walk of statread's reader: tags. The walk of statread's reader: line. The walks of statread's Read: the closure, the loop over rows. The walk of statread's Read. known of the laws on the counting format: what the texts say. -/
import Derived.Test.YtpknjngjkdnpiaaGreatDoorMgEvA
import Derived.Deep.RegionLaw
import Derived.Test.YtpknjngjkdnpiaaGreatDoorMgB
import Derived.RegionTactic
namespace Go.Proofs.YtpknjngjkdnpiaaGreatDoor
set_option linter.unusedVariables false
set_option linter.unusedSimpArgs false
open Go.RowKit
theorem own_lab {w : World} {base : Nat} {A : Option Addr} {n cap : Nat} {l : List Lab} (h : w.ownsRow base 115 2 (.slice A n cap) n (l.flatMap labCell)) (hl : l.length = n) : IsRows labCell 2 w w.heap.size A n l := by
  obtain ⟨A', cap', e, hr⟩ := own_rws (f := labCell) (fun _ => rfl) h hl
  injection e with e1 e2 e3
  subst e1
  exact hr
/-- No labels lie in an event's block: nowhere in it do two texts stand side by side. -/
theorem ev_ne {w : World} {e : Nat} {nm : ByteArray} {lv : Value} {K : Nat} {v q : Int × Nat} {m : ByteArray} (h : Ev w e nm lv K v q m) (hl : ∀ x, lv ≠ .string x) {b off : Nat} {x y : ByteArray} (h0 : w.cell? ⟨b, off, none⟩ = some (.string x)) (h1 : w.cell? ⟨b, off + 1, none⟩ = some (.string y)) : b ≠ e := by
  rintro rfl
  rw [Blk.cell h] at h0 h1
  have hlt := (Array.getElem?_eq_some_iff.1 h1).1
  have : off = 0 ∨ off = 1 ∨ off = 2 ∨ off = 3 ∨ off = 4 ∨ off = 5 ∨ off = 6 := by simp at hlt; omega
  rcases this with rfl | rfl | rfl | rfl | rfl | rfl | rfl
  · simp at h1; exact hl _ h1
  all_goals first | (simp at h0; done) | (simp at h0; exact hl _ h0)
theorem IsRows.evSet {w : World} {B : Nat} {A : Option Addr} {n : Nat} {L : List Lab} (h : IsRows labCell 2 w B A n L) {e : Nat} {nm : ByteArray} {lv : Value} {K : Nat} {v q : Int × Nat} {m : ByteArray} (hv : Ev w e nm lv K v q m) (hl : ∀ x, lv ≠ .string x) (i : Nat) (u : Value) : IsRows labCell 2 (w.setCell ⟨e, i, none⟩ u) B A n L :=
  ⟨h.1, fun hn => by
    obtain ⟨b, off, x, y, e1, hb, hx, q0, q1⟩ := lab_at h (k := 0) hn
    have hne := ev_ne hv hl (by simpa using q0) (by simpa using q1)
    obtain ⟨b', off', e2, hb', hc⟩ := h.2 hn
    rw [e1] at e2
    injection e2 with e2
    injection e2 with e3 e4
    subst e3 e4
    exact ⟨b, off, e1, hb, fun i' x' j' u' h1 h2 => (World.cell?_setCell_other w _ _ _ (by simp [hne])).trans (hc i' x' j' u' h1 h2)⟩⟩
/-- What tags does. -/
def TagsP (w0 w : World) (r e : Nat) (c o l k : Int) (s : ByteArray) (av : Value) (nm : ByteArray) (K : Nat) (v q : Int × Nat) (m : ByteArray) : Except (Nat × Nat) (List Lab) → Ending → Prop
  | .error x, en => en = .returned (.bool false) ∧ Rf w r x.1 x.2 s av ∧ Aw [r, e] w0 w
  | .ok L, en => en = .returned (.bool true) ∧ Rr w r c o l k s av ∧ (∃ A n cap, Ev w e nm (.slice A n cap) K v q m ∧ IsRows labCell 2 w w.heap.size A n ((sortL L).getD []) ∧ n ≤ L.length ∧ ∀ b o, A = some ⟨b, o, none⟩ → w0.heap.size ≤ b) ∧ Aw [r, e] w0 w
/-- What stands in a round: the reader, the event, a tag, the labels. -/
structure TS (w0 w : World) (r e t : Nat) (c o l k : Int) (s : ByteArray) (av : Value) (nm : ByteArray) (lv : Value) (K : Nat) (v q : Int × Nat) (m : ByteArray) (T : MTag) (acc : List Lab) : Prop where
  rr : Rr w r c o l k s av
  ev : Ev w e nm lv K v q m
  tb : Tg w t T.name T.value T.off T.pos
  own : w.ownsRow w0.heap.size 115 2 lv acc.length (acc.flatMap labCell)
  aw : Aw [r, e] w0 w
section
variable {w0 w w' : World} {r e t : Nat} {c o l k : Int} {s nm : ByteArray} {av lv : Value} {K : Nat} {v q : Int × Nat} {m : ByteArray} {T : MTag} {acc : List Lab}
theorem TS.call (h : TS w0 w r e t c o l k s av nm lv K v q m T acc) (a : Aw [] w w') : TS w0 w' r e t c o l k s av nm lv K v q m T acc :=
  ⟨h.rr.aw a (by simp), h.ev.aw a (by simp), Blk.aw h.tb a (by simp), own_aw h.own a (by simp), h.aw.trans (a.mono (by simp))⟩
theorem TS.drew (h : TS w0 w r e t c o l k s av nm lv K v q m T acc) : TS w0 w.drew r e t c o l k s av nm lv K v q m T acc := h.call (Aw.refl [] w).drew
theorem TS.fs (h : TS w0 w r e t c o l k s av nm lv K v q m T acc) : (w.cell? ⟨e, 1, none⟩ = some lv ∧ w.cell? ⟨t, 0, none⟩ = some (.string T.name)) ∧ TS w0 w r e t c o l k s av nm lv K v q m T acc :=
  ⟨⟨h.ev.facts.1.2.1, h.tb.facts.1.1⟩, h⟩
theorem get_ts {A : Option Addr} {n cap : Nat} (hn : acc.length = n) (hn2 : n ≤ 1048576) (h : (w.cell? ⟨e, 1, none⟩ = some (.slice A n cap) ∧ w.cell? ⟨t, 0, none⟩ = some (.string T.name)) ∧ TS w0 w r e t c o l k s av nm (.slice A n cap) K v q m T acc) :
    Calls Tryz.prog 81 #[.slice A n cap, .string T.name] w fun en w' => en = .returned (.tuple #[.string (getV (getL acc T.name.data.toList)), .bool (getL acc T.name.data.toList).isSome]) ∧ ((w'.cell? ⟨e, 1, none⟩ = some (.slice A n cap) ∧ w'.cell? ⟨t, 0, none⟩ = some (.string T.name)) ∧ TS w0 w' r e t c o l k s av nm (.slice A n cap) K v q m T acc) := by
  have ho := h.2.own
  rw [hn] at ho
  exact (get_any A n cap acc T.name w (own_lab ho hn) (by omega)).mono fun en w' ⟨h1, h2⟩ => ⟨h1, (h.2.call (Aw.ofBelow h2)).fs⟩
end
set_option maxRecDepth 100000 in
set_option maxHeartbeats 12800000 in
theorem tags_any (r e : Nat) (c o l k : Int) (s : ByteArray) (av : Value) (nm0 : ByteArray) (K : Nat) (v q : Int × Nat) (m : ByteArray) (tA : Option Addr) (n tc B : Nat) (tags : List MTag) (w : World)
    (h : Rr w r c o l k s av) (hv : Ev w e nm0 (.slice none 0 0) K v q m) (hre : r ≠ e) (hs : s.size ≤ 1048576) (ht : IsRows tagCell 4 w B tA n tags) (hBr : B ≤ r) (hBe : B ≤ e) (hn : n ≤ 1048576) :
    Calls Tryz.prog 52 #[.pointer (some ⟨r, 0, none⟩), .pointer (some ⟨e, 0, none⟩), .slice tA n tc] w fun en w' => TagsP w w' r e c o l k s av nm0 K v q m (evTagsS tags []) en := by
  have kF13 : ∀ at_ W, Rr W r c o l k s av → Calls Tryz.prog 49 #[.pointer (some ⟨r, 0, none⟩), .int .i64 13, .int .i64 ((at_ : Nat) : Int)] W fun e w' => e = .returned (.bool false) ∧ Rf w' r 13 at_ s av ∧ Aw [r] W w' := fun at_ W h => fails_any r c o l k s av 13 at_ W h hs
  have kF14 : ∀ at_ W, Rr W r c o l k s av → Calls Tryz.prog 49 #[.pointer (some ⟨r, 0, none⟩), .int .i64 14, .int .i64 ((at_ : Nat) : Int)] W fun e w' => e = .returned (.bool false) ∧ Rf w' r 14 at_ s av ∧ Aw [r] W w' := fun at_ W h => fails_any r c o l k s av 14 at_ W h hs
  have hrl := Blk.lt h
  have hel := Blk.lt hv
  have htl := ht.1
  obtain ⟨R, hR⟩ : ∃ R, evTagsS tags [] = R := ⟨_, rfl⟩
  rw [hR]
  have H0 : Hid (evTagsS (tags.drop 0) [] = R) := Lib.hid (by rw [List.drop_zero]; exact hR)
  clear hR
  obtain ⟨i0, hi0, hz0, hz1, hz2⟩ := info_parts Tryz.infoLabel
  have hu : Tryz.prog.underlying 58 = some (.slice 115) := by kernel_rfl
  go_enter Tryz.func52, Tryz.ntmps52
  go_wp2_with fail
  go_loopw [13] (fun i wr => ∃ (j : Nat) (lv : Value) (acc : List Lab), j ≤ n ∧ i = .int .i64 j ∧ acc.length ≤ 8 ∧ Rr wr r c o l k s av ∧ Ev wr e nm0 lv K v q m ∧ wr.ownsRow w.heap.size 115 2 lv acc.length (acc.flatMap labCell) ∧ Hid (evTagsS (tags.drop j) acc = R) ∧ Aw [r, e] w wr) (fun i _ => n - (intOf i).toNat)
  case atStart => exact ⟨0, _, [], by omega, rfl, by simp, h, hv, World.ownsRow_nil _ _ _ _, H0, Aw.refl _ _⟩
  case round =>
    obtain ⟨j, lv, acc, hj, rfl, hacc, hr1, hv1, hown, HR, hA⟩ := hrel
    clear H0
    have hwr := hA.size
    have ht1 := ht.aw hA (by omega) (by simp; omega)
    by_cases hlt : j < n
    case pos =>
      have hdj : decide ((j : Int) < (n : Int)) = true := decide_eq_true (by omega)
      have hdjn : decide (j < n) = true := decide_eq_true hlt
      have hj0 : (0 : Int) ≤ j := by omega
      have hj1 : (j : Int) < n := by omega
      have wj : IntKind.i64.wrap ((j : Int) + 1) = (j : Int) + 1 := IntWalk.i64_in _ (by omega)
      obtain ⟨b, off, rfl, hb, hcs⟩ := ht1.2 (by omega)
      obtain ⟨T, hT⟩ : ∃ T, tags[j]? = some T := ⟨_, List.getElem?_eq_getElem (by omega)⟩
      have q0 : wr.cell? ⟨b, off + j * 4, none⟩ = some (.string T.name) := hcs j T 0 _ hT rfl
      have q1 : wr.cell? ⟨b, off + j * 4 + 1, none⟩ = some (.string T.value) := hcs j T 1 _ hT rfl
      have q2 : wr.cell? ⟨b, off + j * 4 + 2, none⟩ = some (.int .i64 (T.off : Int)) := hcs j T 2 _ hT rfl
      have q3 : wr.cell? ⟨b, off + j * 4 + 3, none⟩ = some (.int .i64 (T.pos : Int)) := hcs j T 3 _ hT rfl
      have hdrop := drop_at hT
      have HR' := HR.out
      rw [hdrop, evTagsS] at HR'
      have HR2 := Lib.hid HR'
      clear hcs hdrop HR hT HR'
      obtain ⟨A, cap, rfl, hrA⟩ := own_rws (f := labCell) (fun _ => rfl) hown rfl
      have hTS : TS w (wr.alloc (.cells #[.string T.name, .string T.value, .int .i64 (T.off : Int), .int .i64 (T.pos : Int)] 78)) r e wr.heap.size c o l k s av nm0 (.slice A acc.length cap) K v q m T acc :=
        ⟨hr1.alloc _, hv1.alloc _, Blk.new wr _ _, hown.alloc _, hA.alloc _⟩
      go_upto_region 4 with (fail)
      clear q0 q1 q2 q3 hr1 hv1 hown
      have hwt : e < wr.heap.size ∧ r < wr.heap.size := ⟨by omega, by omega⟩
      generalize wr.alloc (.cells #[.string T.name, .string T.value, .int .i64 (T.off : Int), .int .i64 (T.pos : Int)] 78) = Wt at *
      generalize wr.heap.size = tb at *
      go_region_held3 (fun w' => (w'.cell? ⟨e, 1, none⟩ = some (.slice A acc.length cap) ∧ w'.cell? ⟨tb, 0, none⟩ = some (.string T.name)) ∧ TS w w' r e tb c o l k s av nm0 (.slice A acc.length cap) K v q m T acc) (first | (with_reducible assumption) | (with_reducible exact hTS.drew.fs)) (first
        | (go_at_call 81; (with_reducible refine (get_ts rfl (by omega) (by with_reducible assumption)).mono ?_); rintro en w5 ⟨rfl, hS5⟩))
      all_goals
        rename_i hHeld
        obtain ⟨_, hY⟩ := hHeld
        obtain ⟨⟨d0, d1, d2, d3⟩, _⟩ := hY.tb.facts
        obtain ⟨⟨g0, g1, g2, g3, g4, g5, g6, g7⟩, _⟩ := hY.ev.facts
        have hR := HR2.out
        clear HR2
        by_cases h60 : 60 < T.name.size
        · rw [if_pos h60] at hR
          have d60 : decide ((60 : Int) < (T.name.size : Int)) = true := decide_eq_true (by omega)
          have d60n : decide (60 < T.name.size) = true := decide_eq_true h60
          subst hR
          go_wp2_with (go_at_call 49; (with_reducible refine (kF14 _ _ hY.rr).mono ?_); rintro en w9 ⟨rfl, h9, hA9⟩)
          go_ret
          exact ⟨rfl, h9, hY.aw.trans (hA9.mono (by simp))⟩
        · rw [if_neg h60] at hR
          have d60 : decide ((60 : Int) < (T.name.size : Int)) = false := decide_eq_false (by omega)
          have d60n : decide (60 < T.name.size) = false := decide_eq_false h60
          by_cases h61 : 60 < T.value.size
          · rw [if_pos h61] at hR
            have d61 : decide ((60 : Int) < (T.value.size : Int)) = true := decide_eq_true (by omega)
            have d61n : decide (60 < T.value.size) = true := decide_eq_true h61
            subst hR
            go_wp2_with (go_at_call 49; (with_reducible refine (kF14 _ _ hY.rr).mono ?_); rintro en w9 ⟨rfl, h9, hA9⟩)
            go_ret
            exact ⟨rfl, h9, hY.aw.trans (hA9.mono (by simp))⟩
          · rw [if_neg h61] at hR
            have d61 : decide ((60 : Int) < (T.value.size : Int)) = false := decide_eq_false (by omega)
            have d61n : decide (60 < T.value.size) = false := decide_eq_false h61
            cases hg : (getL acc T.name.data.toList).isSome
            case true =>
              rw [hg, if_pos rfl] at hR
              subst hR
              go_wp2_with (go_at_call 49; (with_reducible refine (kF13 _ _ hY.rr).mono ?_); rintro en w9 ⟨rfl, h9, hA9⟩)
              go_ret
              exact ⟨rfl, h9, hY.aw.trans (hA9.mono (by simp))⟩
            case false =>
              rw [hg, if_neg (by decide)] at hR
              by_cases h8 : 8 ≤ acc.length
              · rw [if_pos h8] at hR
                have d8 : decide ((8 : Int) ≤ (acc.length : Int)) = true := decide_eq_true (by omega)
                have d8n : decide (8 ≤ acc.length) = true := decide_eq_true h8
                subst hR
                go_wp2_with (go_at_call 49; (with_reducible refine (kF14 _ _ hY.rr).mono ?_); rintro en w9 ⟨rfl, h9, hA9⟩)
                go_ret
                exact ⟨rfl, h9, hY.aw.trans (hA9.mono (by simp))⟩
              · rw [if_neg h8] at hR
                have d8 : decide ((8 : Int) ≤ (acc.length : Int)) = false := decide_eq_false (by omega)
                have d8n : decide (8 ≤ acc.length) = false := decide_eq_false h8
                have HN := Lib.hid hR
                clear hR hTS
                have hbe : w.heap.size ≤ w5.heap.size := hY.aw.size
                have hYa := hY.call ((Aw.refl [] w5).alloc (.cells #[.string T.name, .string T.value] 115))
                have j1 := hYa.ev.facts.1.2.1
                have j2 := hYa.tb.facts.1.1
                have j3 := hYa.tb.facts.1.2.1
                go_wp2_with fail
                go_region_law (refine step_append_lies _ (by rfl) _ _ _ (by rfl) w.heap.size 115 i0 _ 2 32 hu hi0 hz0 hz1 hz2 rfl (by omega) (.slice A acc.length cap) acc.length (acc.flatMap labCell) (by rfl) (hY.drew.own.alloc _) ⟨w5.heap.size, 0, none⟩ 1 1 [.string T.name, .string T.value] (by rfl) (by rfl) (World.news_of_block (heap_alloc_new w5.drew _)) (by simp [Value.oneCell']) (by omega) (by simp [maxLen]; omega) (by omega) (by simp; omega) (w5.heap.size + 1) (by simp) ?_; intro gg capg w18 hown18 hgrow hat18 hlt18; have hev18 : Ev w18 e nm0 (.slice A acc.length cap) K v q m := Blk.grown (w := _) (Blk.alloc hY.drew.ev _) hgrow (fun e => own_blk_ne hY.own hY.ev (by decide) e.symm); obtain ⟨⟨b0, b1, b2, b3, b4, b5, b6, b7⟩, p1, _⟩ := hev18.facts)
                all_goals
                  go_wp2_with fail
                  have hrr18 : Rr w18 r c o l k s av := Blk.grown (w := _) (Blk.alloc hY.drew.rr _) hgrow (fun e => own_blk_ne hY.own hY.rr (by decide) e.symm)
                  have hAw18 : Aw [r, e] w w18 := (hY.drew.aw.alloc _).grown hgrow (fun k' hk => .inr (hY.own.lt _ hk).1)
                  have hnb : ∀ g', (Value.slice (some ⟨gg, 0, none⟩) (acc.length + 1) capg).ownBlock = some g' → g' ∉ [e] := fun g' hg' hm => by
                    have := (hown18.lt _ hg').1
                    simp at hm; omega
                  have hown19 := own_aw hown18 ((Aw.refl [e] w18).setCell (p := ⟨e, 1, none⟩) (.inl (by simp)) (.slice (some ⟨gg, 0, none⟩) (acc.length + 1) capg)) hnb
                  exact ⟨⟨j + 1, _, acc ++ [(T.name, T.value)], by omega, rfl, by simp; omega, hrr18.far hre _, hev18.labs _, by simpa [labCell] using hown19, HN, hAw18.setCell (.inl (by simp)) _⟩, by (simp only [intOf]; omega)⟩
    case neg =>
      have hdj : decide ((j : Int) < (n : Int)) = false := decide_eq_false (by omega)
      have hdjn : decide (j < n) = false := decide_eq_false hlt
      have hR := HR.out
      rw [List.drop_of_length_le (by omega), evTagsS] at hR
      subst hR
      clear HR
      obtain ⟨A, cap, rfl, hrA⟩ := own_rws (f := labCell) (fun _ => rfl) hown rfl
      have kS := sortB_any A acc.length cap acc wr hrA (by omega)
      obtain ⟨⟨g0, g1, g2, g3, g4, g5, g6, g7⟩, _⟩ := hv1.facts
      go_wp2_with (go_at_call 82; (with_reducible refine kS.mono ?_); rintro en w6 ⟨⟨A', n', cap', rfl, hrS, hn', hab⟩, hb6⟩; have hA6 := Aw.ofBelow (S := []) hb6; have hr6 := hr1.aw hA6 (by simp); have hv6 := hv1.aw hA6 (by simp); obtain ⟨_, p1, _⟩ := hv6.facts)
      go_ret
      exact ⟨rfl, hr6.far hre _, ⟨A', n', cap', hv6.labs _, by rw [World.size_setCell]; exact hrS.evSet hv6 (by simp) _ _, hn', fun b o e => Nat.le_trans hwr (hab b o e)⟩, (hA.trans (hA6.mono (by simp))).setCell (.inl (by simp)) _⟩
/-- An event and where its labels lie. -/
structure VEv where
  ev : MEv
  A : Option Addr
  cap : Nat
def evCell (x : VEv) : List Value := [.string x.ev.name, .slice x.A x.ev.labs.length x.cap, .int .i64 (x.ev.kind : Int), .int .i64 x.ev.val.1, .int .i64 (x.ev.val.2 : Int), .int .i64 x.ev.rate.1, .int .i64 (x.ev.rate.2 : Int), .string x.ev.mem_]
theorem evCell_len (x : VEv) : (evCell x).length = 8 := rfl
theorem IsRows.awNe {α : Type} {f : α → List Value} {size B n : Nat} {A : Option Addr} {xs : List α} {w w' : World} {S : List Nat} (h : IsRows f size w B A n xs) (k : Aw S w w') (hB : B ≤ w.heap.size) (hne : ∀ b o, A = some ⟨b, o, none⟩ → 0 < n → b < B → b ∉ S) : IsRows f size w' B A n xs :=
  ⟨h.1, fun hn => by
    obtain ⟨b, off, e, hb, hc⟩ := h.2 hn
    exact ⟨b, off, e, hb, fun i x j u hx hu => (World.cell?_of_block (a := ⟨b, off + (i * size + j), none⟩) (k.block b (by omega) (hne b off e hn hb))).trans (hc i x j u hx hu)⟩⟩
theorem own_re {n r e : Nat} (he : n ≤ e) : ∀ i, i ∈ [r, e] → i ∈ [r] ∨ n ≤ i := fun i hi => by
  simp only [List.mem_cons, List.not_mem_nil, or_false] at hi ⊢
  rcases hi with h | h
  · exact .inl h
  · exact .inr (by omega)
theorem le_re {B r e : Nat} (hr : B ≤ r) (he : B ≤ e) : ∀ i, i ∈ [r, e] → B ≤ i := fun i hi => by
  simp only [List.mem_cons, List.not_mem_nil, or_false] at hi
  omega
/-- The reader and what it has read. -/
structure RA (w0 w : World) (r : Nat) (c o l k : Int) (s : ByteArray) (av : Value) (acc : List VEv) : Prop where
  rr : Rr w r c o l k s av
  own : w.ownsRow w0.heap.size 62 8 av acc.length (acc.flatMap evCell)
  lab : ∀ x ∈ acc, IsRows labCell 2 w w.heap.size x.A x.ev.labs.length x.ev.labs ∧ (0 < x.ev.labs.length → ∀ b off, x.A = some ⟨b, off, none⟩ → w0.heap.size ≤ b ∧ av.ownBlock ≠ some b)
  aw : Aw [r] w0 w
  rl : r < w0.heap.size
theorem RA.push {w0 w w5 w18 : World} {r e gg capg : Nat} {c o l k : Int} {s : ByteArray} {av : Value} {acc : List VEv} {x : VEv} {ob : Obj} (h : RA w0 w r c o l k s av acc) (hA : Aw [r, e] w w5) (he : w.heap.size ≤ e)
    (hnew : IsRows labCell 2 w5 w5.heap.size x.A x.ev.labs.length x.ev.labs) (hab : ∀ b off, x.A = some ⟨b, off, none⟩ → w.heap.size ≤ b) (hae : ∀ b off, x.A = some ⟨b, off, none⟩ → 0 < x.ev.labs.length → b ≠ e) (hgrow : (w5.drew.alloc ob).grownBy w18 av.ownBlock)
    (hat : av.ownBlock = some gg ∨ gg = w5.heap.size + 1) (hrr : Rr w18 r c o l k s av)
    (hown : w18.ownsRow w0.heap.size 62 8 (.slice (some ⟨gg, 0, none⟩) (acc.length + 1) capg) (acc.length + 1) (acc.flatMap evCell ++ evCell x)) :
    RA w0 (w18.setCell ⟨r, 5, none⟩ (.slice (some ⟨gg, 0, none⟩) (acc.length + 1) capg)) r c o l k s (.slice (some ⟨gg, 0, none⟩) (acc.length + 1) capg) (acc ++ [x]) := by
  have hrl := h.rl
  have hs0 := h.aw.size
  have hs5 := hA.size
  have hg18 := hgrow.size
  simp only [World.size_alloc, World.size_drew] at hg18
  have hgl := (hown.lt gg rfl).1
  have hol : ∀ g, av.ownBlock = some g → w0.heap.size ≤ g ∧ g < w.heap.size := fun g hg => h.own.lt g hg
  have kg : Aw av.ownBlock.toList (w5.drew.alloc ob) w18 := (Aw.refl _ _).grown hgrow (fun k' hk => .inl (by simp [hk]))
  have ks : Aw [r] w18 (w18.setCell ⟨r, 5, none⟩ (.slice (some ⟨gg, 0, none⟩) (acc.length + 1) capg)) := (Aw.refl [r] w18).setCell (.inl (by simp)) _
  have k5 : Aw (r :: e :: av.ownBlock.toList) w5 (w18.setCell ⟨r, 5, none⟩ (.slice (some ⟨gg, 0, none⟩) (acc.length + 1) capg)) :=
    ((((Aw.refl (r :: e :: av.ownBlock.toList) w5).drew.alloc ob).trans (kg.mono (fun i hi => by simp at hi; simp [hi]))).trans (ks.mono (fun i hi => by simp at hi; simp [hi])))
  have kw := (hA.mono (S' := r :: e :: av.ownBlock.toList) (fun i hi => by simp at hi; rcases hi with h | h <;> simp [h])).trans k5
  refine ⟨Blk.set_ hrr 5 _, ?_, ?_, h.aw.own kw (fun i hi => ?_), hrl⟩
  · have := own_aw hown ks (fun g hg hm => by simp [Value.ownBlock] at hg hm; omega)
    simpa using this
  · intro y hy
    rw [World.size_setCell]
    rcases List.mem_append.1 hy with hy | hy
    · obtain ⟨q1, q2⟩ := h.lab y hy
      refine ⟨(q1.awNe kw (Nat.le_refl _) (fun b off hb hn hlt hm => ?_)).more (by omega), fun hn b off hb => ?_⟩
      · obtain ⟨q3, q4⟩ := q2 hn b off hb
        simp at hm
        rcases hm with hm | hm | hm
        · omega
        · omega
        · exact q4 hm
      · obtain ⟨q3, q4⟩ := q2 hn b off hb
        refine ⟨q3, fun hg => ?_⟩
        simp [Value.ownBlock] at hg
        subst hg
        rcases hat with hat | hat
        · exact q4 hat
        · obtain ⟨b', off', e1, e2, _⟩ := q1.2 hn
          rw [hb] at e1
          injection e1 with e1
          injection e1 with e1
          omega
    · obtain rfl : y = x := by simpa using hy
      refine ⟨(hnew.awNe k5 (Nat.le_refl _) (fun b off hb hn hlt hm => ?_)).more (by omega), fun hn b off hb => ⟨by have := hab b off hb; omega, fun hg => ?_⟩⟩
      · have h3 := hab b off hb
        simp at hm
        rcases hm with hm | hm | hm
        · omega
        · exact hae b off hb hn hm
        · have := (hol b hm).2; omega
      · simp [Value.ownBlock] at hg
        subst hg
        have h3 := hab _ off hb
        rcases hat with hat | hat
        · have := (hol _ hat).2; omega
        · obtain ⟨b', off', e1, e2, _⟩ := hnew.2 hn
          rw [hb] at e1
          injection e1 with e1
          injection e1 with e1
          omega
  · simp at hi
    rcases hi with hi | hi | hi
    · exact .inl (by simp [hi])
    · exact .inr (by omega)
    · exact .inr (hol i hi).1
/-- What line does. -/
def LineP (w0 w : World) (r : Nat) (c o l k : Int) (s : ByteArray) (av : Value) (acc : List VEv) : Except (Nat × Nat) MEv → Ending → Prop
  | .error x, en => en = .returned (.bool false) ∧ Rf w r x.1 x.2 s av ∧ Aw [r] w0 w
  | .ok ev, en => en = .returned (.bool true) ∧ ∃ av' x, x.ev = ev ∧ RA w0 w r c o l k s av' (acc ++ [x])
theorem valueT_bd {K : Nat} {tx : ByteArray} {pos : Nat} {K' : Nat} {v : Int × Nat} {m : ByteArray} (h : valueT K tx pos = .ok (K', v, m)) : -9223372036854775807 ≤ v.1 ∧ v.1 ≤ 9223372036854775807 := by
  unfold valueT at h
  split at h
  · split at h
    · injection h with h; injection h with _ h; injection h with h _; subst h; simp
    · cases h
  · split at h
    · cases h
    · split at h
      · cases h
      · split at h
        · cases h
        · injection h with h; injection h with _ h; injection h with h _; subst h; exact parseD_bd _
theorem Tryz.infoEvent : (Tryz.prog.info? 62).map (fun i => (i.zero, i.size, i.bytes)) = some (some (.agg #[.string ⟨#[]⟩, .slice none 0 0, .int .i64 0, .int .i64 0, .int .i64 0, .int .i64 0, .int .i64 0, .string ⟨#[]⟩]), 8, 96) := by kernel_rfl
set_option maxRecDepth 100000 in
set_option maxHeartbeats 12800000 in
theorem evline_any (r : Nat) (c o l k : Int) (s : ByteArray) (av : Value) (acc : List VEv) (X : VRow) (B : Nat) (w0 w : World)
    (h : RA w0 w r c o l k s av acc) (hs : s.size ≤ 1048576) (hacc : acc.length ≤ 120) (ht : IsRows tagCell 4 w B X.tA X.row.tags.length X.row.tags) (hBr : B ≤ r) (hn : X.row.tags.length ≤ 1048576) (htx : X.row.text.size ≤ 1048576) (htm : X.row.time.size ≤ 1048576) :
    Calls Tryz.prog 29 #[.pointer (some ⟨r, 0, none⟩), .agg #[.int .i64 (X.row.kind : Int), .string X.row.name, .int .i64 (X.row.off : Int), .slice X.tA X.row.tags.length X.tc, .slice X.fA X.row.fields.length X.fc, .string X.row.text, .int .i64 (X.row.pos : Int), .bool X.row.timed, .string X.row.time, .int .i64 (X.row.when_ : Int)]] w fun en w' => LineP w0 w' r c o l k s av acc (evLineS X.row acc.length) en := by
  obtain ⟨⟨K, nm, off, tags, fields, tx, pos, td, tm, wh⟩, tA, tc, fA, fc⟩ := X
  simp only at *
  have kF14 : ∀ W, Rr W r c o l k s av → Calls Tryz.prog 49 #[.pointer (some ⟨r, 0, none⟩), .int .i64 14, .int .i64 (off : Int)] W fun e w' => e = .returned (.bool false) ∧ Rf w' r 14 off s av ∧ Aw [r] W w' := fun W h => fails_any r c o l k s av 14 off W h hs
  have hrl := h.rl
  have hsz := h.aw.size
  obtain ⟨R, hR⟩ : ∃ R, evLineS ⟨K, nm, off, tags, fields, tx, pos, td, tm, wh⟩ acc.length = R := ⟨_, rfl⟩
  rw [hR]
  unfold evLineS at hR
  simp only at hR
  obtain ⟨vA, vc, rfl, hvr⟩ := own_rws (f := evCell) evCell_len h.own rfl
  have hb1 := Blk.new w 74 #[.int .i64 (K : Int), .string nm, .int .i64 (off : Int), .slice tA tags.length tc, .slice fA fields.length fc, .string tx, .int .i64 (pos : Int), .bool td, .string tm, .int .i64 (wh : Int)]
  have hA1 := (Aw.refl [] w).alloc (.cells #[.int .i64 (K : Int), .string nm, .int .i64 (off : Int), .slice tA tags.length tc, .slice fA fields.length fc, .string tx, .int .i64 (pos : Int), .bool td, .string tm, .int .i64 (wh : Int)] 74)
  have h1 := h.rr.aw hA1 (by simp)
  go_enter Tryz.func29, Tryz.ntmps29
  go_upto_region 1 with (fail)
  generalize w.alloc (.cells #[.int .i64 (K : Int), .string nm, .int .i64 (off : Int), .slice tA tags.length tc, .slice fA fields.length fc, .string tx, .int .i64 (pos : Int), .bool td, .string tm, .int .i64 (wh : Int)] 74) = W1 at *
  have r0 := (Blk.cell hb1 0).trans rfl
  have r1 := (Blk.cell hb1 1).trans rfl
  have r2 := (Blk.cell hb1 2).trans rfl
  obtain ⟨⟨c0, c1, c2, c3, c4, c5⟩, _⟩ := h1.facts
  by_cases h60 : 60 < nm.size
  case pos =>
    rw [if_pos (.inl h60)] at hR
    subst hR
    have d60 : decide ((60 : Int) < (nm.size : Int)) = true := decide_eq_true (by omega)
    have d60n : decide (60 < nm.size) = true := decide_eq_true h60
    go_wp2_with (go_at_call 49; (with_reducible refine (kF14 _ h1).mono ?_); rintro en w9 ⟨rfl, h9, hA9⟩)
    go_ret
    exact ⟨rfl, h9, h.aw.trans ((hA1.mono (by simp)).trans hA9)⟩
  case neg =>
    have d60 : decide ((60 : Int) < (nm.size : Int)) = false := decide_eq_false (by omega)
    have d60n : decide (60 < nm.size) = false := decide_eq_false h60
    by_cases h120 : 120 ≤ acc.length
    case pos =>
      rw [if_pos (.inr h120)] at hR
      subst hR
      have d120 : decide ((120 : Int) ≤ (acc.length : Int)) = true := decide_eq_true (by omega)
      have d120n : decide (120 ≤ acc.length) = true := decide_eq_true h120
      go_wp2_with (go_at_call 49; (with_reducible refine (kF14 _ h1).mono ?_); rintro en w9 ⟨rfl, h9, hA9⟩)
      go_ret
      exact ⟨rfl, h9, h.aw.trans ((hA1.mono (by simp)).trans hA9)⟩
    case neg =>
      rw [if_neg (by rintro (h | h); exact h60 h; exact h120 h)] at hR
      have d120 : decide ((120 : Int) ≤ (acc.length : Int)) = false := decide_eq_false (by omega)
      have d120n : decide (120 ≤ acc.length) = false := decide_eq_false h120
      have HR := Lib.hid hR
      clear hR
      go_upto_region 4 with (fail)
      have hA2 := hA1.alloc (.cells #[.string nm, .slice none 0 0, .int .i64 (K : Int), .int .i64 0, .int .i64 0, .int .i64 0, .int .i64 0, .string ⟨#[]⟩] 62)
      have h2 := h.rr.aw hA2 (by simp)
      have hb2 := Blk.alloc hb1 (.cells #[.string nm, .slice none 0 0, .int .i64 (K : Int), .int .i64 0, .int .i64 0, .int .i64 0, .int .i64 0, .string ⟨#[]⟩] 62)
      have hv2 : Ev (W1.alloc (.cells #[.string nm, .slice none 0 0, .int .i64 (K : Int), .int .i64 0, .int .i64 0, .int .i64 0, .int .i64 0, .string ⟨#[]⟩] 62)) W1.heap.size nm (.slice none 0 0) K (0, 0) (0, 0) ⟨#[]⟩ := Blk.new W1 _ _
      have hre : r ≠ W1.heap.size := by have := Blk.lt h1; omega
      have hwe : w.heap.size < W1.heap.size := Blk.lt hb1
      have hx2 : W1.heap.size < (W1.alloc (.cells #[.string nm, .slice none 0 0, .int .i64 (K : Int), .int .i64 0, .int .i64 0, .int .i64 0, .int .i64 0, .string ⟨#[]⟩] 62)).heap.size := Blk.lt hv2
      have hsz2 := hA2.size
      clear r0 r1 r2 c0 c1 c2 c3 c4 c5 h1 hb1 hA1
      generalize W1.alloc (.cells #[.string nm, .slice none 0 0, .int .i64 (K : Int), .int .i64 0, .int .i64 0, .int .i64 0, .int .i64 0, .string ⟨#[]⟩] 62) = W2 at *
      generalize W1.heap.size = e at *
      have kV := value_any r e c o l k s (.slice vA acc.length vc) nm (.slice none 0 0) K nm off (.slice tA tags.length tc) (.slice fA fields.length fc) tx pos td tm wh W2 h2 hv2 hre hs htx
      have a0 := (Blk.cell hb2 0).trans rfl
      have a1 := (Blk.cell hb2 1).trans rfl
      have a2 := (Blk.cell hb2 2).trans rfl
      have a3 := (Blk.cell hb2 3).trans rfl
      have a4 := (Blk.cell hb2 4).trans rfl
      have a5 := (Blk.cell hb2 5).trans rfl
      have a6 := (Blk.cell hb2 6).trans rfl
      have a7 := (Blk.cell hb2 7).trans rfl
      have a8 := (Blk.cell hb2 8).trans rfl
      have a9 := (Blk.cell hb2 9).trans rfl
      cases hV : valueT K tx pos with
      | error y =>
        have hR := HR.out
        rw [hV] at hR
        simp only at hR
        subst hR
        rw [hV] at kV
        simp only [ValP] at kV
        go_wp2_with (go_at_call 50; (with_reducible refine kV.mono ?_); rintro en w3 ⟨rfl, h3, hA3⟩)
        go_ret
        exact ⟨rfl, h3, h.aw.own ((hA2.mono (S' := [r, e]) (by simp)).trans hA3) (own_re (by omega))⟩
      | ok V =>
        obtain ⟨K', v, m⟩ := V
        have hvb := valueT_bd hV
        rw [hV] at kV
        simp only [ValP] at kV
        have kR := fun w3 h3 hv3 => rate_any r e c o l k s (.slice vA acc.length vc) nm (.slice none 0 0) K' v m K nm off (.slice tA tags.length tc) (.slice fA fields.length fc) tx pos td tm wh w3 h3 hv3 hre hs htm hvb.1 hvb.2
        cases hQ : rateT K td tm wh v with
        | error y =>
          have hR := HR.out
          rw [hV] at hR
          simp only [hQ] at hR
          subst hR
          rw [hQ] at kR
          simp only [RateP] at kR
          go_wp2_with (first
            | (go_at_call 50; (with_reducible refine kV.mono ?_); rintro en w3 ⟨rfl, h3, hv3, hA3⟩; have hb3 := Blk.aw hb2 hA3 (by simp; omega); have b0 := (Blk.cell hb3 0).trans rfl; have b1 := (Blk.cell hb3 1).trans rfl; have b2 := (Blk.cell hb3 2).trans rfl; have b3 := (Blk.cell hb3 3).trans rfl; have b4 := (Blk.cell hb3 4).trans rfl; have b5 := (Blk.cell hb3 5).trans rfl; have b6 := (Blk.cell hb3 6).trans rfl; have b7 := (Blk.cell hb3 7).trans rfl; have b8 := (Blk.cell hb3 8).trans rfl; have b9 := (Blk.cell hb3 9).trans rfl)
            | (go_at_call 51; (with_reducible refine (kR _ h3 hv3).mono ?_); rintro en w4 ⟨rfl, h4, hA4⟩))
          go_ret
          exact ⟨rfl, h4, h.aw.own (((hA2.mono (S' := [r, e]) (by simp)).trans hA3).trans hA4) (own_re (by omega))⟩
        | ok q =>
          rw [hQ] at kR
          simp only [RateP] at kR
          have kT := fun w4 h4 hv4 ht4 => tags_any r e c o l k s (.slice vA acc.length vc) nm K' v q m tA tags.length tc B tags w4 h4 hv4 hre hs ht4 hBr (by omega) hn
          cases hG : evTagsS tags [] with
          | error y =>
            have hR := HR.out
            rw [hV] at hR
            simp only [hQ, hG] at hR
            subst hR
            rw [hG] at kT
            simp only [TagsP] at kT
            go_wp2_with (first
              | (go_at_call 50; (with_reducible refine kV.mono ?_); rintro en w3 ⟨rfl, h3, hv3, hA3⟩; have hb3 := Blk.aw hb2 hA3 (by simp; omega); have b0 := (Blk.cell hb3 0).trans rfl; have b1 := (Blk.cell hb3 1).trans rfl; have b2 := (Blk.cell hb3 2).trans rfl; have b3 := (Blk.cell hb3 3).trans rfl; have b4 := (Blk.cell hb3 4).trans rfl; have b5 := (Blk.cell hb3 5).trans rfl; have b6 := (Blk.cell hb3 6).trans rfl; have b7 := (Blk.cell hb3 7).trans rfl; have b8 := (Blk.cell hb3 8).trans rfl; have b9 := (Blk.cell hb3 9).trans rfl)
              | (go_at_call 51; (with_reducible refine (kR _ h3 hv3).mono ?_); rintro en w4 ⟨rfl, h4, hv4, hA4⟩; have hb4 := Blk.aw hb3 hA4 (by simp; omega); have g3 := (Blk.cell hb4 3).trans rfl; have ht4 := ht.aw (((hA2.mono (S' := [r, e]) (by simp)).trans hA3).trans hA4) (by omega) (le_re (by omega) (by omega)))
              | (go_at_call 52; (with_reducible refine (kT _ h4 hv4 ht4).mono ?_); rintro en w5 ⟨rfl, h5, hA5⟩))
            go_ret
            exact ⟨rfl, h5, h.aw.own ((((hA2.mono (S' := [r, e]) (by simp)).trans hA3).trans hA4).trans hA5) (own_re (by omega))⟩
          | ok L =>
            have hR := HR.out
            rw [hV] at hR
            simp only [hQ, hG] at hR
            subst hR
            rw [hG] at kT
            simp only [TagsP] at kT
            clear HR
            go_upto_region 6 with (first
              | (go_at_call 50; (with_reducible refine kV.mono ?_); rintro en w3 ⟨rfl, h3, hv3, hA3⟩; have hb3 := Blk.aw hb2 hA3 (by simp; omega); have b0 := (Blk.cell hb3 0).trans rfl; have b1 := (Blk.cell hb3 1).trans rfl; have b2 := (Blk.cell hb3 2).trans rfl; have b3 := (Blk.cell hb3 3).trans rfl; have b4 := (Blk.cell hb3 4).trans rfl; have b5 := (Blk.cell hb3 5).trans rfl; have b6 := (Blk.cell hb3 6).trans rfl; have b7 := (Blk.cell hb3 7).trans rfl; have b8 := (Blk.cell hb3 8).trans rfl; have b9 := (Blk.cell hb3 9).trans rfl)
              | (go_at_call 51; (with_reducible refine (kR _ h3 hv3).mono ?_); rintro en w4 ⟨rfl, h4, hv4, hA4⟩; have hb4 := Blk.aw hb3 hA4 (by simp; omega); have g3 := (Blk.cell hb4 3).trans rfl; have ht4 := ht.aw (((hA2.mono (S' := [r, e]) (by simp)).trans hA3).trans hA4) (by omega) (le_re (by omega) (by omega)))
              | (go_at_call 52; (with_reducible refine (kT _ h4 hv4 ht4).mono ?_); rintro en w5 ⟨rfl, h5, ⟨A, n, cap, hv5, hL5, hnL, hab⟩, hA5⟩))
            obtain rfl : ((sortL L).getD []).length = n := hL5.1
            have hAA := ((((hA2.mono (S' := [r, e]) (by simp)).trans hA3).trans hA4).trans hA5)
            have hsz5 := hAA.size
            have hown5 := own_aw h.own hAA (fun g hg hm => by have := h.own.lt g hg; simp at hm; omega)
            have hN : Rr (w5.alloc (.cells #[.string nm, .slice A ((sortL L).getD []).length cap, .int .i64 (K' : Int), .int .i64 v.1, .int .i64 (v.2 : Int), .int .i64 q.1, .int .i64 (q.2 : Int), .string m] 62)) r c o l k s (.slice vA acc.length vc) := h5.alloc _
            have hNv : Ev (w5.alloc (.cells #[.string nm, .slice A ((sortL L).getD []).length cap, .int .i64 (K' : Int), .int .i64 v.1, .int .i64 (v.2 : Int), .int .i64 q.1, .int .i64 (q.2 : Int), .string m] 62)) e nm (.slice A ((sortL L).getD []).length cap) K' v q m := hv5.alloc _
            have he5 : e < w4.heap.size := Blk.lt hv4
            clear a0 a1 a2 a3 a4 a5 a6 a7 a8 a9 b0 b1 b2 b3 b4 b5 b6 b7 b8 b9 g3
            obtain ⟨⟨x0, x1, x2, x3, x4, x5⟩, _⟩ := h5.facts
            obtain ⟨⟨y0, y1, y2, y3, y4, y5, y6, y7⟩, _⟩ := hv5.facts
            obtain ⟨⟨_, _, _, _, _, x5'⟩, _⟩ := hN.facts
            obtain ⟨⟨y0', y1', y2', y3', y4', y5', y6', y7'⟩, _⟩ := hNv.facts
            obtain ⟨i0, hi0, hz0, hz1, hz2⟩ := info_parts Tryz.infoEvent
            have hu : Tryz.prog.underlying 37 = some (.slice 62) := by kernel_rfl
            go_region_law (refine step_append_lies _ (by rfl) _ _ _ (by rfl) w0.heap.size 62 i0 _ 8 96 hu hi0 hz0 hz1 hz2 rfl (by omega) (.slice vA acc.length vc) acc.length (acc.flatMap evCell) (by rfl) (own_drewN (own_bel hown5 ((Below.refl _ _).alloc (Nat.le_refl _) _)) 1) ⟨w5.heap.size, 0, none⟩ 1 1 [.string nm, .slice A ((sortL L).getD []).length cap, .int .i64 (K' : Int), .int .i64 v.1, .int .i64 (v.2 : Int), .int .i64 q.1, .int .i64 (q.2 : Int), .string m] (by rfl) (by rfl) (World.news_of_block (heap_alloc_new w5.drew _)) (by simp [Value.oneCell']) (by omega) (by simp [maxLen]; omega) (by omega) (by simp; omega) (w5.heap.size + 1) (by simp) ?_; intro gg capg w18 hown18 hgrow hat18 hlt18; have hr18 : Rr w18 r c o l k s (.slice vA acc.length vc) := Blk.grown (w := _) (Blk.alloc (Blk.drew h5) _) hgrow (fun e => own_blk_ne hown5 h5 (by decide) e.symm); obtain ⟨_, _, _, _, _, p5⟩ := hr18.facts)
            all_goals
              go_wp2_with fail
              go_ret
              exact ⟨rfl, _, ⟨⟨nm, (sortL L).getD [], K', v, q, m⟩, A, cap⟩, rfl, RA.push h hAA (by omega) hL5 (fun b off hb => by have := hab b off hb; omega) (fun b off hb _ => by have := hab b off hb; omega) hgrow hat18 hr18 hown18⟩
theorem RA.call {w0 w w' : World} {r : Nat} {c o l k : Int} {s : ByteArray} {av : Value} {acc : List VEv} (h : RA w0 w r c o l k s av acc) (a : Aw [] w w') : RA w0 w' r c o l k s av acc :=
  ⟨h.rr.aw a (by simp), own_aw h.own a (by simp), fun x hx => ⟨((h.lab x hx).1.awNe a (Nat.le_refl _) (by simp)).more a.size, (h.lab x hx).2⟩, h.aw.trans (a.mono (by simp)), h.rl⟩
/-- What the closure does. -/
def CloP (w0 w : World) (r : Nat) (c o l k : Int) (s : ByteArray) (acc : List VEv) : Except (Nat × Nat) MEv → Ending → Prop
  | .error x, en => en = .returned (.bool true) ∧ (∃ av, Rf w r x.1 x.2 s av) ∧ Aw [r] w0 w
  | .ok ev, en => en = .returned (.bool false) ∧ ∃ av' x, x.ev = ev ∧ RA w0 w r c o l k s av' (acc ++ [x])
set_option maxRecDepth 100000 in
set_option maxHeartbeats 3200000 in
theorem clo_any (cb r : Nat) (c o l k : Int) (s : ByteArray) (av : Value) (acc : List VEv) (X : VRow) (B : Nat) (w0 w : World)
    (h : RA w0 w r c o l k s av acc) (hcb : Blk w cb 82 #[.pointer (some ⟨r, 0, none⟩)]) (hs : s.size ≤ 1048576) (hacc : acc.length ≤ 120) (ht : IsRows tagCell 4 w B X.tA X.row.tags.length X.row.tags) (hBr : B ≤ r) (hn : X.row.tags.length ≤ 1048576) (htx : X.row.text.size ≤ 1048576) (htm : X.row.time.size ≤ 1048576) :
    Calls Tryz.prog 28 #[.agg #[.int .i64 (X.row.kind : Int), .string X.row.name, .int .i64 (X.row.off : Int), .slice X.tA X.row.tags.length X.tc, .slice X.fA X.row.fields.length X.fc, .string X.row.text, .int .i64 (X.row.pos : Int), .bool X.row.timed, .string X.row.time, .int .i64 (X.row.when_ : Int)], .pointer (some ⟨cb, 0, none⟩)] w fun en w' => CloP w0 w' r c o l k s acc (evLineS X.row acc.length) en := by
  have hA1 := (Aw.refl [] w).alloc (.cells #[.int .i64 (X.row.kind : Int), .string X.row.name, .int .i64 (X.row.off : Int), .slice X.tA X.row.tags.length X.tc, .slice X.fA X.row.fields.length X.fc, .string X.row.text, .int .i64 (X.row.pos : Int), .bool X.row.timed, .string X.row.time, .int .i64 (X.row.when_ : Int)] 74)
  have hB := h.rl
  have hsz := h.aw.size
  have ht1 := ht.aw hA1 (by omega) (by simp)
  have kL := evline_any r c o l k s av acc X B w0 _ (h.call hA1) hs hacc ht1 hBr hn htx htm
  have hc1 := Blk.alloc hcb (.cells #[.int .i64 (X.row.kind : Int), .string X.row.name, .int .i64 (X.row.off : Int), .slice X.tA X.row.tags.length X.tc, .slice X.fA X.row.fields.length X.fc, .string X.row.text, .int .i64 (X.row.pos : Int), .bool X.row.timed, .string X.row.time, .int .i64 (X.row.when_ : Int)] 74)
  have q0 := (Blk.cell hc1 0).trans rfl
  have hb1 := Blk.new w 74 #[.int .i64 (X.row.kind : Int), .string X.row.name, .int .i64 (X.row.off : Int), .slice X.tA X.row.tags.length X.tc, .slice X.fA X.row.fields.length X.fc, .string X.row.text, .int .i64 (X.row.pos : Int), .bool X.row.timed, .string X.row.time, .int .i64 (X.row.when_ : Int)]
  generalize evLineS X.row acc.length = R at *
  cases R with
  | error y =>
    simp only [LineP] at kL
    simp only [CloP]
    go_enter Tryz.func28, Tryz.ntmps28
    go_wp2_with (go_at_call 29; (with_reducible refine kL.mono ?_); rintro en w2 ⟨rfl, h2, hA2⟩)
    go_ret
    exact ⟨rfl, ⟨_, h2⟩, hA2⟩
  | ok ev =>
    simp only [LineP] at kL
    simp only [CloP]
    go_enter Tryz.func28, Tryz.ntmps28
    go_wp2_with (go_at_call 29; (with_reducible refine kL.mono ?_); rintro en w2 ⟨rfl, av2, x2, hx2, h2⟩)
    go_ret
    exact ⟨rfl, av2, x2, hx2, h2⟩
/-- What the loop over rows does. -/
def IdxP (w0 w : World) (r : Nat) (c o l k : Int) (s : ByteArray) : Except (Nat × Nat) (List MEv) → Ending → Prop
  | .error x, en => (∃ j : Nat, en = .returned (.int .i64 (j : Int))) ∧ (∃ av, Rf w r x.1 x.2 s av) ∧ Aw [r] w0 w
  | .ok evs, en => en = .returned (.int .i64 (-1)) ∧ ∃ av acc, acc.map VEv.ev = evs ∧ RA w0 w r c o l k s av acc
set_option maxRecDepth 100000 in
set_option maxHeartbeats 3200000 in
theorem evidx_any (cb r : Nat) (s : ByteArray) (rA : Option Addr) (n rc B : Nat) (rows : List VRow) (w0 : World) (c o l k : Int)
    (h : RA w0 w0 r c o l k s (.slice none 0 0) []) (hcb : Blk w0 cb 82 #[.pointer (some ⟨r, 0, none⟩)]) (hcr : cb ≠ r) (hs : s.size ≤ 1048576) (hrw : IsRows rowCell 10 w0 B rA n rows) (hBr : B ≤ r) (hn : n ≤ 1048576)
    (hall : ∀ X ∈ rows, IsRows tagCell 4 w0 B X.tA X.row.tags.length X.row.tags ∧ X.row.tags.length ≤ 1048576 ∧ X.row.text.size ≤ 1048576 ∧ X.row.time.size ≤ 1048576) :
    Calls Tryz.prog 48 #[.slice rA n rc, .func (.func 28) #[] #[.pointer (some ⟨cb, 0, none⟩)]] w0 fun en w' => IdxP w0 w' r c o l k s (evGo (rows.map VRow.row) []) en := by
  have hB := h.rl
  have hl := hrw.1
  obtain ⟨R, hR⟩ : ∃ R, evGo (rows.map VRow.row) [] = R := ⟨_, rfl⟩
  rw [hR]
  have H0 : Hid (evGo ((rows.drop 0).map VRow.row) (([] : List VEv).map VEv.ev) = R) := Lib.hid (by rw [List.drop_zero]; exact hR)
  clear hR
  have HA := Lib.hid hall
  clear hall
  go_enter Tryz.func48, Tryz.ntmps48
  go_wp2_with fail
  go_loopw [8] (fun i wr => ∃ (j : Nat) (av : Value) (acc : List VEv), j ≤ n ∧ i = .int .i64 j ∧ acc.length ≤ 120 ∧ RA w0 wr r c o l k s av acc ∧ Hid (evGo ((rows.drop j).map VRow.row) (acc.map VEv.ev) = R)) (fun i _ => n - (intOf i).toNat)
  case atStart => exact ⟨0, _, [], by omega, rfl, by simp, h, H0⟩
  case round =>
    obtain ⟨j, av, acc, hj, rfl, hacc, hra, HR⟩ := hrel
    clear H0
    by_cases hlt : j < n
    case neg =>
      have hd : decide ((j : Int) < (n : Int)) = false := decide_eq_false (by omega)
      have hdn : decide (j < n) = false := decide_eq_false hlt
      have hR := HR.out
      rw [List.drop_of_length_le (by omega)] at hR
      simp only [List.map_nil, evGo] at hR
      subst hR
      clear HR
      go_wp2_with fail
      go_ret
      exact ⟨rfl, av, acc, rfl, hra⟩
    case pos =>
      have hd : decide ((j : Int) < (n : Int)) = true := decide_eq_true (by omega)
      have hdn : decide (j < n) = true := decide_eq_true hlt
      have hj0 : (0 : Int) ≤ j := by omega
      have hj1 : (j : Int) < n := by omega
      have wj : IntKind.i64.wrap ((j : Int) + 1) = (j : Int) + 1 := IntWalk.i64_in _ (by omega)
      have hrw1 := hrw.aw hra.aw (by omega) (by simp; omega)
      obtain ⟨b, off, rfl, hb, hcs⟩ := hrw1.2 (by omega)
      obtain ⟨X, hX⟩ : ∃ X, rows[j]? = some X := ⟨_, List.getElem?_eq_getElem (by omega)⟩
      obtain ⟨ht, hx1, hx2, hx3⟩ := HA.out X (List.mem_of_getElem? hX)
      have q0 : wr.cell? ⟨b, off + j * 10, none⟩ = some (.int .i64 (X.row.kind : Int)) := hcs j X 0 _ hX rfl
      have q1 : wr.cell? ⟨b, off + j * 10 + 1, none⟩ = some (.string X.row.name) := hcs j X 1 _ hX rfl
      have q2 : wr.cell? ⟨b, off + j * 10 + 2, none⟩ = some (.int .i64 (X.row.off : Int)) := hcs j X 2 _ hX rfl
      have q3 : wr.cell? ⟨b, off + j * 10 + 3, none⟩ = some (.slice X.tA X.row.tags.length X.tc) := hcs j X 3 _ hX rfl
      have q4 : wr.cell? ⟨b, off + j * 10 + 4, none⟩ = some (.slice X.fA X.row.fields.length X.fc) := hcs j X 4 _ hX rfl
      have q5 : wr.cell? ⟨b, off + j * 10 + 5, none⟩ = some (.string X.row.text) := hcs j X 5 _ hX rfl
      have q6 : wr.cell? ⟨b, off + j * 10 + 6, none⟩ = some (.int .i64 (X.row.pos : Int)) := hcs j X 6 _ hX rfl
      have q7 : wr.cell? ⟨b, off + j * 10 + 7, none⟩ = some (.bool X.row.timed) := hcs j X 7 _ hX rfl
      have q8 : wr.cell? ⟨b, off + j * 10 + 8, none⟩ = some (.string X.row.time) := hcs j X 8 _ hX rfl
      have q9 : wr.cell? ⟨b, off + j * 10 + 9, none⟩ = some (.int .i64 (X.row.when_ : Int)) := hcs j X 9 _ hX rfl
      have hR := HR.out
      rw [drop_at hX, List.map_cons, evGo, List.length_map] at hR
      have hcb1 := Blk.aw hcb hra.aw (by simpa using hcr)
      have kC := clo_any cb r c o l k s av acc X B w0 wr hra hcb1 hs hacc (ht.aw hra.aw (by omega) (by simp; omega)) hBr hx1 hx2 hx3
      have h120 : ∀ ev, evLineS X.row acc.length = .ok ev → acc.length + 1 ≤ 120 := fun ev he => by
        unfold evLineS at he
        split at he
        · cases he
        · omega
      clear hcs hX ht HR
      cases hE : evLineS X.row acc.length with
      | error y =>
        rw [hE] at hR kC
        simp only at hR
        subst hR
        simp only [CloP] at kC
        clear hE h120
        go_wp2_with (go_at_call 28; (with_reducible refine kC.mono ?_); rintro en w2 ⟨rfl, h2, hA2⟩)
        go_ret
        exact ⟨⟨j, rfl⟩, h2, hA2⟩
      | ok ev =>
        have h121 := h120 ev hE
        rw [hE] at hR kC
        simp only at hR
        simp only [CloP] at kC
        have HR := Lib.hid hR
        clear hE h120 hR
        go_wp2_with (go_at_call 28; (with_reducible refine kC.mono ?_); rintro en w2 ⟨rfl, av2, x2, hx2, h2⟩)
        exact ⟨⟨j + 1, av2, acc ++ [x2], by omega, rfl, by simp; omega, h2, Lib.hid (by rw [List.map_append, List.map_cons, List.map_nil, hx2]; exact HR.out)⟩, by (simp only [intOf]; omega)⟩
set_option maxHeartbeats 1600000 in
theorem evcon_any (cb r : Nat) (s : ByteArray) (rA : Option Addr) (n rc B : Nat) (rows : List VRow) (w0 : World) (c o l k : Int)
    (h : RA w0 w0 r c o l k s (.slice none 0 0) []) (hcb : Blk w0 cb 82 #[.pointer (some ⟨r, 0, none⟩)]) (hcr : cb ≠ r) (hs : s.size ≤ 1048576) (hrw : IsRows rowCell 10 w0 B rA n rows) (hBr : B ≤ r) (hn : n ≤ 1048576)
    (hall : ∀ X ∈ rows, IsRows tagCell 4 w0 B X.tA X.row.tags.length X.row.tags ∧ X.row.tags.length ≤ 1048576 ∧ X.row.text.size ≤ 1048576 ∧ X.row.time.size ≤ 1048576) :
    Calls Tryz.prog 27 #[.slice rA n rc, .func (.func 28) #[] #[.pointer (some ⟨cb, 0, none⟩)]] w0 fun en w' => match evGo (rows.map VRow.row) [] with
      | .error x => en = .returned (.bool true) ∧ (∃ av, Rf w' r x.1 x.2 s av) ∧ Aw [r] w0 w'
      | .ok evs => en = .returned (.bool false) ∧ ∃ av acc, acc.map VEv.ev = evs ∧ RA w0 w' r c o l k s av acc := by
  have kI := evidx_any cb r s rA n rc B rows w0 c o l k h hcb hcr hs hrw hBr hn hall
  clear hall
  cases hE : evGo (rows.map VRow.row) [] with
  | error y =>
    rw [hE] at kI
    simp only [IdxP] at kI
    simp only
    clear hE
    go_enter Tryz.func27, Tryz.ntmps27
    go_wp2_with (go_at_call 48; (with_reducible refine kI.mono ?_); rintro en w2 ⟨⟨j, rfl⟩, h2, hA2⟩; have dj : decide ((0 : Int) ≤ (j : Int)) = true := decide_eq_true (by omega))
    go_ret
    exact ⟨rfl, h2, hA2⟩
  | ok evs =>
    rw [hE] at kI
    simp only [IdxP] at kI
    simp only
    clear hE
    go_enter Tryz.func27, Tryz.ntmps27
    go_wp2_with (go_at_call 48; (with_reducible refine kI.mono ?_); rintro en w2 ⟨rfl, av2, acc2, hx2, h2⟩)
    go_ret
    exact ⟨rfl, av2, acc2, hx2, h2⟩
/-- Events that a call tells, with their labels. -/
def HasEvs (w : World) (B : Nat) (A : Option Addr) (n : Nat) (evs : List MEv) : Prop :=
  ∃ acc : List VEv, acc.map VEv.ev = evs ∧ IsRows evCell 8 w B A n acc ∧ ∀ x ∈ acc, IsRows labCell 2 w B x.A x.ev.labs.length x.ev.labs
theorem HasEvs.below {w w' : World} {B : Nat} {A : Option Addr} {n : Nat} {evs : List MEv} (h : HasEvs w B A n evs) (k : Below B w w') : HasEvs w' B A n evs := by
  obtain ⟨l, h1, h2, h3⟩ := h
  exact ⟨l, h1, h2.below k, fun x hx => (h3 x hx).below k⟩
theorem HasEvs.more {w : World} {B B' : Nat} {A : Option Addr} {n : Nat} {evs : List MEv} (h : HasEvs w B A n evs) (k : B ≤ B') : HasEvs w B' A n evs := by
  obtain ⟨l, h1, h2, h3⟩ := h
  exact ⟨l, h1, h2.more k, fun x hx => (h3 x hx).more k⟩
/-- What Read tells. -/
def ReadP (s : ByteArray) (w : World) : Except (Nat × Int) (List MEv) → Ending → Prop
  | .error x, en => en = .returned (.tuple #[.slice none 0 0, .agg #[.int .i64 (x.1 : Int), .int .i64 (fltO x.1 s x.2), .int .i64 (fltL x.1 s x.2), .int .i64 (fltC x.1 s x.2)]])
  | .ok evs, en => ∃ A n cap, en = .returned (.tuple #[.slice A n cap, .agg #[.int .i64 0, .int .i64 0, .int .i64 0, .int .i64 0]]) ∧ HasEvs w w.heap.size A n evs
set_option maxRecDepth 100000 in
set_option maxHeartbeats 6400000 in
theorem sread26_any (s : ByteArray) (w : World) (hs : s.size ≤ 1048575) :
    Calls Tryz.prog 15 #[.string s] w fun en w' => ReadP s w' (readS s) en ∧ Below w.heap.size w w' := by
  have hL : s.data.toList.length = s.size := by simp
  have hs5 : s.size ≤ 4611686018427387903 := by omega
  have k14 : ∀ W, Calls Tryz.prog 20 #[.int .i64 14, .string s, .int .i64 0] W fun e w' => e = .returned (.agg #[.int .i64 14, .int .i64 (fltO 14 s 0), .int .i64 (fltL 14 s 0), .int .i64 (fltC 14 s 0)]) ∧ Below W.heap.size W w' := fun W => spAt_any 14 s 0 W hs5
  have k11 : ∀ o W, Calls Tryz.prog 20 #[.int .i64 11, .string s, .int .i64 o] W fun e w' => e = .returned (.agg #[.int .i64 11, .int .i64 (fltO 11 s o), .int .i64 (fltL 11 s o), .int .i64 (fltC 11 s o)]) ∧ Below W.heap.size W w' := fun o W => spAt_any 11 s o W hs5
  have hF0 := Blk.new w 42 #[.int .i64 0, .int .i64 0, .int .i64 0, .int .i64 0]
  have hb0 : Below w.heap.size w (w.alloc (.cells #[.int .i64 0, .int .i64 0, .int .i64 0, .int .i64 0] 42)) := (Below.refl _ _).alloc (Nat.le_refl _) _
  obtain ⟨R, hR⟩ : ∃ R, readS s = R := ⟨_, rfl⟩
  rw [hR]
  unfold readS at hR
  by_cases h4 : 4000 < s.size
  case pos =>
    rw [if_pos h4] at hR
    subst hR
    have d4 : decide ((4000 : Int) < (s.size : Int)) = true := decide_eq_true (by omega)
    have d4n : decide (4000 < s.size) = true := decide_eq_true h4
    simp only [ReadP]
    go_enter Tryz.func15, Tryz.ntmps15
    go_wp2_with (go_at_call 20; (with_reducible refine (k14 _).mono ?_); rintro en w1 ⟨rfl, hb1⟩; have h1 := hF0.below hb1 (by simp); have c0 := (Blk.cell h1 0).trans rfl; have c1 := (Blk.cell h1 1).trans rfl; have c2 := (Blk.cell h1 2).trans rfl; have c3 := (Blk.cell h1 3).trans rfl; have f0 := Blk.frozen h1 0; have f1 := Blk.frozen h1 1; have f2 := Blk.frozen h1 2; have f3 := Blk.frozen h1 3)
    refine bodyPost_ret (v := .tuple #[.slice none 0 0, .agg #[.int .i64 14, .int .i64 (fltO 14 s 0), .int .i64 (fltL 14 s 0), .int .i64 (fltC 14 s 0)]]) (by simp [results, Tryz.results15, go_sem, c0, c1, c2, c3]) rfl ⟨rfl, ?_⟩
    exact bl_set (bl_set (bl_set (bl_set (bl_any hb0 hb1) (Nat.le_refl _) _) (Nat.le_refl _) _) (Nat.le_refl _) _) (Nat.le_refl _) _
  case neg =>
    rw [if_neg h4] at hR
    have d4 : decide ((4000 : Int) < (s.size : Int)) = false := decide_eq_false (by omega)
    have d4n : decide (4000 < s.size) = false := decide_eq_false h4
    have kRw := fun W => srows_any s W (by omega)
    have kB := fun W => sbad_any s W (by omega)
    obtain ⟨hok, hlen⟩ := statRows_ok s.data.toList
    rw [hL] at hlen
    generalize hbad : statBad s.data.toList = bad at *
    generalize statRows s.data.toList = Q at *
    obtain ⟨Q1, Qa, Qn⟩ := Q
    cases Qn
    case true =>
      simp only [if_true] at hR
      subst hR
      simp only [ReadP]
      clear hbad hok hlen
      have kRw' : ∀ W, Calls Tryz.prog 10 #[.string s] W fun e w' => (∃ A n c, e = .returned (.tuple #[.slice A n c, .bool false])) ∧ Below W.heap.size W w' := fun W => (kRw W).mono fun e w' ⟨⟨A, n, c, h1, _⟩, h3⟩ => ⟨⟨A, n, c, h1⟩, h3⟩
      clear kRw
      go_enter Tryz.func15, Tryz.ntmps15
      go_wp2_with (first
        | (go_at_call 10; (with_reducible refine (kRw' _).mono ?_); rintro en w1 ⟨⟨A, n, cc, rfl⟩, hb1⟩; have h1 := hF0.below hb1 (by simp))
        | (go_at_call 12; (with_reducible refine (kB _).mono ?_); rintro en w2 ⟨rfl, hb2⟩; have h2 := h1.below hb2 (Blk.lt h1))
        | (go_at_call 20; (with_reducible refine (k11 _ _).mono ?_); rintro en w3 ⟨rfl, hb3⟩; have h3 := h2.below hb3 (Blk.lt h2); have c0 := (Blk.cell h3 0).trans rfl; have c1 := (Blk.cell h3 1).trans rfl; have c2 := (Blk.cell h3 2).trans rfl; have c3 := (Blk.cell h3 3).trans rfl; have f0 := Blk.frozen h3 0; have f1 := Blk.frozen h3 1; have f2 := Blk.frozen h3 2; have f3 := Blk.frozen h3 3))
      refine bodyPost_ret (v := .tuple #[.slice none 0 0, .agg #[.int .i64 11, .int .i64 (fltO 11 s bad), .int .i64 (fltL 11 s bad), .int .i64 (fltC 11 s bad)]]) (by simp [results, Tryz.results15, go_sem, c0, c1, c2, c3]) rfl ⟨rfl, ?_⟩
      exact bl_set (bl_set (bl_set (bl_set (bl_any (bl_any (bl_any hb0 hb1) hb2) hb3) (Nat.le_refl _) _) (Nat.le_refl _) _) (Nat.le_refl _) _) (Nat.le_refl _) _
    case false =>
      simp only [Bool.false_eq_true, if_false] at hR
      have hmf : ∀ (fn : Fn) (first cap : Array Value) (w : World), (Instr.makeFunc fn first cap).run Tryz.prog w = .ok (.func fn first cap) w := fun _ _ _ _ => rfl
      clear hbad kB k11 k14
      have HO := Lib.hid hok
      clear hok
      go_enter Tryz.func15, Tryz.ntmps15
      go_upto_region 7 with (go_at_call 10; (with_reducible refine (kRw _).mono ?_); rintro en w1 ⟨⟨A, n, cc, rfl, hrows⟩, hb1⟩; have h1 := hF0.below hb1 (by simp))
      have hA2 : Aw [] w1 ((w1.alloc (.cells #[.int .i64 0, .int .i64 0, .int .i64 0, .int .i64 0, .string s, .slice none 0 0] 84)).alloc (.cells #[.pointer (some ⟨w1.heap.size, 0, none⟩)] 82)) := ((Aw.refl [] w1).alloc _).alloc _
      have hrd : Blk ((w1.alloc (.cells #[.int .i64 0, .int .i64 0, .int .i64 0, .int .i64 0, .string s, .slice none 0 0] 84)).alloc (.cells #[.pointer (some ⟨w1.heap.size, 0, none⟩)] 82)) w1.heap.size 84 #[.int .i64 0, .int .i64 0, .int .i64 0, .int .i64 0, .string s, .slice none 0 0] := Blk.alloc (Blk.new w1 _ _) _
      have hcb : Blk ((w1.alloc (.cells #[.int .i64 0, .int .i64 0, .int .i64 0, .int .i64 0, .string s, .slice none 0 0] 84)).alloc (.cells #[.pointer (some ⟨w1.heap.size, 0, none⟩)] 82)) (w1.heap.size + 1) 82 #[.pointer (some ⟨w1.heap.size, 0, none⟩)] := by
        have := Blk.new (w1.alloc (.cells #[.int .i64 0, .int .i64 0, .int .i64 0, .int .i64 0, .string s, .slice none 0 0] 84)) 82 #[.pointer (some ⟨w1.heap.size, 0, none⟩)]
        simpa using this
      have hx1 : w.heap.size < w1.heap.size := Blk.lt h1
      have h2 := Blk.aw h1 hA2 (by simp)
      generalize (w1.alloc (.cells #[.int .i64 0, .int .i64 0, .int .i64 0, .int .i64 0, .string s, .slice none 0 0] 84)).alloc (.cells #[.pointer (some ⟨w1.heap.size, 0, none⟩)] 82) = W0 at *
      generalize hr : w1.heap.size = r at *
      have hra : RA W0 W0 r 0 0 0 0 s (.slice none 0 0) [] := ⟨hrd, World.ownsRow_nil _ _ _ _, by simp, Aw.refl _ _, Blk.lt hrd⟩
      simp only [Bool.false_eq_true, if_false] at hrows
      obtain ⟨rows, hm, hr1, hr2⟩ := hrows
      have hrl := hr1.1
      have hml : rows.length = Q1.length := by rw [← hm]; simp
      have hr1' := hr1.aw hA2 (Nat.le_of_eq hr.symm) (by simp)
      have kC := evcon_any (r + 1) r s A n cc r rows W0 0 0 0 0 hra hcb (by omega) (by omega) hr1' (Nat.le_refl _) (by omega) (fun X hX => by
        have h5 := HO.out X.row (by rw [← hm]; exact List.mem_map.2 ⟨X, hX, rfl⟩)
        unfold RowOk at h5
        rw [hL] at h5
        exact ⟨(hr2 X hX).1.aw hA2 (Nat.le_of_eq hr.symm) (by simp), by omega, by omega, by omega⟩)
      rw [hm] at kC
      have hbW : Below w.heap.size w W0 := bl_any (bl_any hb0 hb1) (by rw [hr]; exact hA2.none_bel.mono (Nat.le_of_eq hr.symm))
      clear hr1 hr1' hr2 hrl hml hm HO hra hrd hlen kRw hL
      cases hE : evGo Q1 [] with
      | error y =>
        rw [hE] at hR kC
        try dsimp only at hR
        try dsimp only at kC
        subst hR
        clear hE
        go_wp2_with (first
          | (go_at_call 27; (with_reducible refine kC.mono ?_); rintro en w2 ⟨rfl, ⟨av, hf2⟩, hAx⟩; unfold Rf at hf2; have h3 := Blk.aw h2 hAx (by simp; omega); have hc3 := Blk.aw hcb hAx (by simp)))
        obtain ⟨⟨c0, c1, c2, c3, c4, c5⟩, _⟩ := hf2.facts
        have d0 := (Blk.cell hc3 0).trans rfl
        have e0 := (Blk.cell h3 0).trans rfl
        have e1 := (Blk.cell h3 1).trans rfl
        have e2 := (Blk.cell h3 2).trans rfl
        have e3 := (Blk.cell h3 3).trans rfl
        have f0 := Blk.frozen h3 0
        have f1 := Blk.frozen h3 1
        have f2 := Blk.frozen h3 2
        have f3 := Blk.frozen h3 3
        have hbl := hbW.trans (hAx.bel_of (B := w.heap.size) (by simp; omega) hbW.size)
        go_region
        all_goals
          go_wp2_with fail
          refine bodyPost_ret (v := .tuple #[.slice none 0 0, .agg #[.int .i64 (y.1 : Int), .int .i64 (fltO y.1 s y.2), .int .i64 (fltL y.1 s y.2), .int .i64 (fltC y.1 s y.2)]]) (by simp [results, Tryz.results15, go_sem, e0, e1, e2, e3]) rfl ⟨rfl, ?_⟩
          exact bl_set (bl_set (bl_set (bl_set hbl.drew (Nat.le_refl _) _) (Nat.le_refl _) _) (Nat.le_refl _) _) (Nat.le_refl _) _
      | ok evs =>
        rw [hE] at hR kC
        try dsimp only at hR
        try dsimp only at kC
        subst hR
        clear hE
        go_wp2_with (first
          | (go_at_call 27; (with_reducible refine kC.mono ?_); rintro en w2 ⟨rfl, av, acc, hmp, h5⟩; have h3 := Blk.aw h2 h5.aw (by simp; omega); have hc3 := Blk.aw hcb h5.aw (by simp); have d0 := (Blk.cell hc3 0).trans rfl; have d5 := h5.rr.facts.1.2.2.2.2.2; have e0 := (Blk.cell h3 0).trans rfl; have e1 := (Blk.cell h3 1).trans rfl; have e2 := (Blk.cell h3 2).trans rfl; have e3 := (Blk.cell h3 3).trans rfl; have f0 := Blk.frozen h3 0; have f1 := Blk.frozen h3 1; have f2 := Blk.frozen h3 2; have f3 := Blk.frozen h3 3))
        obtain ⟨A5, c5, rfl⟩ := own_form h5.own
        have kz := ((((Aw.refl [w.heap.size] w2).setCell (p := ⟨w.heap.size, 0, none⟩) (.inl (by simp)) (.int .i64 0)).setCell (p := ⟨w.heap.size, 1, none⟩) (.inl (by simp)) (.int .i64 0)).setCell (p := ⟨w.heap.size, 2, none⟩) (.inl (by simp)) (.int .i64 0)).setCell (p := ⟨w.heap.size, 3, none⟩) (.inl (by simp)) (.int .i64 0)
        have hw0 : w.heap.size < W0.heap.size := by have := h5.rl; omega
        have hbl := hbW.trans (h5.aw.bel_of (B := w.heap.size) (by simp; omega) hbW.size)
        refine bodyPost_ret (v := .tuple #[.slice A5 acc.length c5, .agg #[.int .i64 0, .int .i64 0, .int .i64 0, .int .i64 0]]) (by simp [results, Tryz.results15, go_sem, e0, e1, e2, e3]) rfl ⟨⟨A5, acc.length, c5, rfl, acc, hmp, own_rows2 evCell_len (own_aw h5.own kz (fun g hg hm => by have := (h5.own.lt g hg).1; simp at hm; omega)) rfl, fun x hx => ((h5.lab x hx).1.awNe kz (Nat.le_refl _) (fun b off hb hn _ hm => by have := ((h5.lab x hx).2 hn b off hb).1; simp at hm; omega)).more kz.size⟩, ?_⟩
        exact bl_set (bl_set (bl_set (bl_set hbl (Nat.le_refl _) _) (Nat.le_refl _) _) (Nat.le_refl _) _) (Nat.le_refl _) _
theorem kr1 : readS (ByteArray.mk #[97, 58, 43, 53, 124, 103, 10, 98, 58, 50, 124, 99, 124, 64, 48, 46, 53, 124, 35, 120, 58, 49, 44, 121, 58, 50, 10]) = .ok [⟨mkS [97], (sortL []).getD [], 3, (5, 0), (0, 0), mkS []⟩, ⟨mkS [98], (sortL [(mkS [120], mkS [49]), (mkS [121], mkS [50])]).getD [], 1, (2, 0), (5, 1), mkS []⟩] := by kernel_rfl
theorem kr2 : readS (ByteArray.mk #[97, 58, 45, 53, 124, 99, 10]) = .error (12, 2) := by kernel_rfl
theorem kr3 : readS (ByteArray.mk #[97, 58, 53, 124, 103, 124, 64, 48, 46, 53, 10]) = .error (13, 7) := by kernel_rfl
theorem kr4 : readS (ByteArray.mk #[117, 58, 106, 111, 101, 124, 115, 10, 116, 58, 49, 46, 53, 124, 109, 115, 10, 103, 58, 45, 51, 124, 103, 10]) = .ok [⟨mkS [117], (sortL []).getD [], 5, (0, 0), (0, 0), ⟨#[106, 111, 101]⟩⟩, ⟨mkS [116], (sortL []).getD [], 4, (15, 1), (1, 0), mkS []⟩, ⟨mkS [103], (sortL []).getD [], 3, (-3, 0), (0, 0), mkS []⟩] := by kernel_rfl
theorem kb1 : statBad (ByteArray.mk #[97, 58, 49, 124, 109, 10]).data.toList = 5 := by decide +kernel
theorem kb2 : statBad (ByteArray.mk #[]).data.toList = -1 := by decide +kernel
/-- What known looks at: the first text's events, the last one's. -/
theorem sl2 : ((sortL [(mkS [120], mkS [49]), (mkS [121], mkS [50])]).getD []).length = 2 := by
  rw [sortL_some (s := [(mkS [120], mkS [49]), (mkS [121], mkS [50])]) ⟨List.Perm.refl _, by simp [nmL, mkS]; decide⟩]
  rfl
theorem HasEvs.at_ {w : World} {B : Nat} {A : Option Addr} {n : Nat} {evs : List MEv} (h : HasEvs w B A n evs) (hn : 0 < n) : ∃ b off, A = some ⟨b, off, none⟩ ∧ b < B ∧ ∀ i ev, evs[i]? = some ev →
    (∃ lA lc, w.cell? ⟨b, off + (i * 8 + 1), none⟩ = some (.slice lA ev.labs.length lc)) ∧ w.cell? ⟨b, off + (i * 8), none⟩ = some (.string ev.name) ∧ w.cell? ⟨b, off + (i * 8 + 2), none⟩ = some (.int .i64 (ev.kind : Int)) ∧ w.cell? ⟨b, off + (i * 8 + 3), none⟩ = some (.int .i64 ev.val.1) ∧ w.cell? ⟨b, off + (i * 8 + 5), none⟩ = some (.int .i64 ev.rate.1) ∧ w.cell? ⟨b, off + (i * 8 + 6), none⟩ = some (.int .i64 (ev.rate.2 : Int)) ∧ w.cell? ⟨b, off + (i * 8 + 7), none⟩ = some (.string ev.mem_) := by
  obtain ⟨acc, rfl, h2, _⟩ := h
  obtain ⟨b, off, e, hb, hc⟩ := h2.2 hn
  refine ⟨b, off, e, hb, fun i ev hi => ?_⟩
  rw [List.getElem?_map] at hi
  cases hx : acc[i]? with
  | none => rw [hx] at hi; cases hi
  | some x =>
    rw [hx] at hi
    injection hi with hi
    subst hi
    exact ⟨⟨_, _, hc i x 1 _ hx rfl⟩, hc i x 0 _ hx rfl, hc i x 2 _ hx rfl, hc i x 3 _ hx rfl, hc i x 5 _ hx rfl, hc i x 6 _ hx rfl, hc i x 7 _ hx rfl⟩
theorem HasEvs.len {w : World} {B : Nat} {A : Option Addr} {n : Nat} {evs : List MEv} (h : HasEvs w B A n evs) : n = evs.length := by
  obtain ⟨acc, rfl, h2, _⟩ := h
  rw [List.length_map]; exact h2.1.symm
theorem eqDec (a0 a1 b0 b1 : Int) (w : World) : (binOp .eql 60 (.agg #[.int .i64 a0, .int .i64 a1]) (.agg #[.int .i64 b0, .int .i64 b1])).run Tryz.prog w = .ok (.bool (a0 == b0 && a1 == b1)) w := by
  cases h0 : (a0 == b0) <;> cases h1 : (a1 == b1) <;> simp only [beq_iff_eq, beq_eq_false_iff_ne] at h0 h1 <;> simp [go_sem, h0, h1]
set_option maxRecDepth 100000 in
set_option maxHeartbeats 6400000 in
theorem known26_any (w : World) :
    Calls Tryz.prog 9 #[] w fun e w' => e = .returned (.bool true) ∧ Below w.heap.size w w' := by
  have kR1 : ∀ W, Calls Tryz.prog 15 #[.string ⟨#[97, 58, 43, 53, 124, 103, 10, 98, 58, 50, 124, 99, 124, 64, 48, 46, 53, 124, 35, 120, 58, 49, 44, 121, 58, 50, 10]⟩] W fun en w' => (∃ A n cap, en = .returned (.tuple #[.slice A n cap, .agg #[.int .i64 0, .int .i64 0, .int .i64 0, .int .i64 0]]) ∧ HasEvs w' w'.heap.size A n [⟨mkS [97], (sortL []).getD [], 3, (5, 0), (0, 0), mkS []⟩, ⟨mkS [98], (sortL [(mkS [120], mkS [49]), (mkS [121], mkS [50])]).getD [], 1, (2, 0), (5, 1), mkS []⟩]) ∧ Below W.heap.size W w' := fun W => by
    have h := sread26_any ⟨#[97, 58, 43, 53, 124, 103, 10, 98, 58, 50, 124, 99, 124, 64, 48, 46, 53, 124, 35, 120, 58, 49, 44, 121, 58, 50, 10]⟩ W (by decide)
    rw [kr1] at h
    exact h
  have kR2 : ∀ W, Calls Tryz.prog 15 #[.string ⟨#[97, 58, 45, 53, 124, 99, 10]⟩] W fun en w' => (∃ l k, en = .returned (.tuple #[.slice none 0 0, .agg #[.int .i64 12, .int .i64 2, .int .i64 l, .int .i64 k]])) ∧ Below W.heap.size W w' := fun W => by
    have h := sread26_any ⟨#[97, 58, 45, 53, 124, 99, 10]⟩ W (by decide)
    rw [kr2] at h
    exact h.mono fun en w' ⟨h1, h2⟩ => ⟨⟨_, _, h1⟩, h2⟩
  have kR3 : ∀ W, Calls Tryz.prog 15 #[.string ⟨#[97, 58, 53, 124, 103, 124, 64, 48, 46, 53, 10]⟩] W fun en w' => (∃ l k, en = .returned (.tuple #[.slice none 0 0, .agg #[.int .i64 13, .int .i64 7, .int .i64 l, .int .i64 k]])) ∧ Below W.heap.size W w' := fun W => by
    have h := sread26_any ⟨#[97, 58, 53, 124, 103, 124, 64, 48, 46, 53, 10]⟩ W (by decide)
    rw [kr3] at h
    exact h.mono fun en w' ⟨h1, h2⟩ => ⟨⟨_, _, h1⟩, h2⟩
  have kR4 : ∀ W, Calls Tryz.prog 15 #[.string ⟨#[117, 58, 106, 111, 101, 124, 115, 10, 116, 58, 49, 46, 53, 124, 109, 115, 10, 103, 58, 45, 51, 124, 103, 10]⟩] W fun en w' => (∃ A n cap, en = .returned (.tuple #[.slice A n cap, .agg #[.int .i64 0, .int .i64 0, .int .i64 0, .int .i64 0]]) ∧ HasEvs w' w'.heap.size A n [⟨mkS [117], (sortL []).getD [], 5, (0, 0), (0, 0), ⟨#[106, 111, 101]⟩⟩, ⟨mkS [116], (sortL []).getD [], 4, (15, 1), (1, 0), mkS []⟩, ⟨mkS [103], (sortL []).getD [], 3, (-3, 0), (0, 0), mkS []⟩]) ∧ Below W.heap.size W w' := fun W => by
    have h := sread26_any ⟨#[117, 58, 106, 111, 101, 124, 115, 10, 116, 58, 49, 46, 53, 124, 109, 115, 10, 103, 58, 45, 51, 124, 103, 10]⟩ W (by decide)
    rw [kr4] at h
    exact h
  have kB1 : ∀ W, Calls Tryz.prog 12 #[.string ⟨#[97, 58, 49, 124, 109, 10]⟩] W fun e w' => e = .returned (.int .i64 5) ∧ Below W.heap.size W w' := fun W => by
    have h := sbad_any ⟨#[97, 58, 49, 124, 109, 10]⟩ W (by decide)
    rw [kb1] at h
    exact h
  have kB2 : ∀ W, Calls Tryz.prog 12 #[.string ⟨#[]⟩] W fun e w' => e = .returned (.int .i64 (-1)) ∧ Below W.heap.size W w' := fun W => by
    have h := sbad_any ⟨#[]⟩ W (by decide)
    rw [kb2] at h
    exact h
  have ef := fun a0 a1 a2 a3 b0 b1 b2 b3 w => eqFault a0 a1 a2 a3 b0 b1 b2 b3 w
  have ed := fun a0 a1 b0 b1 w => eqDec a0 a1 b0 b1 w
  go_enter Tryz.func9, Tryz.ntmps9
  go_upto_region 5 with (first
    | (go_at_call 15; (with_reducible refine (kR1 _).mono ?_); rintro en w1 ⟨⟨A1, n1, c1, rfl, hl1⟩, hb1⟩)
    | (go_at_call 15; (with_reducible refine (kR2 _).mono ?_); rintro en w2 ⟨⟨l2, k2, rfl⟩, hb2⟩)
    | (go_at_call 15; (with_reducible refine (kR3 _).mono ?_); rintro en w3 ⟨⟨l3, k3, rfl⟩, hb3⟩)
    | (go_at_call 15; (with_reducible refine (kR4 _).mono ?_); rintro en w4 ⟨⟨A4, n4, c4, rfl, hl4⟩, hb4⟩))
  have z1 : Blk (w1.alloc (.cells #[.int .i64 0, .int .i64 0, .int .i64 0, .int .i64 0] 42)) w1.heap.size 42 #[.int .i64 0, .int .i64 0, .int .i64 0, .int .i64 0] := Blk.new w1 _ _
  have z1' := z1.below hb2 (Blk.lt z1)
  have z2 : Blk (w2.alloc (.cells #[.int .i64 12, .int .i64 2, .int .i64 l2, .int .i64 k2] 42)) w2.heap.size 42 #[.int .i64 12, .int .i64 2, .int .i64 l2, .int .i64 k2] := Blk.new w2 _ _
  have z1b := z1'.alloc (.cells #[.int .i64 12, .int .i64 2, .int .i64 l2, .int .i64 k2] 42)
  have z1c := z1b.below hb3 (Blk.lt z1b)
  have z2c := z2.below hb3 (Blk.lt z2)
  have z3 : Blk (w3.alloc (.cells #[.int .i64 13, .int .i64 7, .int .i64 l3, .int .i64 k3] 42)) w3.heap.size 42 #[.int .i64 13, .int .i64 7, .int .i64 l3, .int .i64 k3] := Blk.new w3 _ _
  have z1d := z1c.alloc (.cells #[.int .i64 13, .int .i64 7, .int .i64 l3, .int .i64 k3] 42)
  have z2d := z2c.alloc (.cells #[.int .i64 13, .int .i64 7, .int .i64 l3, .int .i64 k3] 42)
  have z1e := (z1d.below hb4 (Blk.lt z1d)).alloc (.cells #[.int .i64 0, .int .i64 0, .int .i64 0, .int .i64 0] 42)
  have z2e := (z2d.below hb4 (Blk.lt z2d)).alloc (.cells #[.int .i64 0, .int .i64 0, .int .i64 0, .int .i64 0] 42)
  have z3e := (z3.below hb4 (Blk.lt z3)).alloc (.cells #[.int .i64 0, .int .i64 0, .int .i64 0, .int .i64 0] 42)
  have z4e : Blk (w4.alloc (.cells #[.int .i64 0, .int .i64 0, .int .i64 0, .int .i64 0] 42)) w4.heap.size 42 #[.int .i64 0, .int .i64 0, .int .i64 0, .int .i64 0] := Blk.new w4 _ _
  have k1 : Below w1.heap.size w1 (w4.alloc (.cells #[.int .i64 0, .int .i64 0, .int .i64 0, .int .i64 0] 42)) := bl_alloc (bl_any (bl_alloc (bl_any (bl_alloc (bl_any (bl_alloc (Below.refl _ _) (.cells #[.int .i64 0, .int .i64 0, .int .i64 0, .int .i64 0] 42)) hb2) (.cells #[.int .i64 12, .int .i64 2, .int .i64 l2, .int .i64 k2] 42)) hb3) (.cells #[.int .i64 13, .int .i64 7, .int .i64 l3, .int .i64 k3] 42)) hb4) (.cells #[.int .i64 0, .int .i64 0, .int .i64 0, .int .i64 0] 42)
  have hbl : Below w.heap.size w (w4.alloc (.cells #[.int .i64 0, .int .i64 0, .int .i64 0, .int .i64 0] 42)) := bl_any hb1 k1
  have hl1' := hl1.below k1
  have hl4' := hl4.below ((Below.refl _ w4).alloc (Nat.le_refl _) (.cells #[.int .i64 0, .int .i64 0, .int .i64 0, .int .i64 0] 42))
  obtain rfl : n1 = 2 := hl1.len
  obtain rfl : n4 = 3 := hl4.len
  obtain ⟨b1, o1, rfl, _, hc1⟩ := hl1'.at_ (by omega)
  obtain ⟨b4, o4, rfl, _, hc4⟩ := hl4'.at_ (by omega)
  obtain ⟨_, _, p2, p3, _⟩ := hc1 0 _ rfl
  obtain ⟨⟨lA, lc, q1⟩, _, _, _, q5, q6, _⟩ := hc1 1 _ rfl
  obtain ⟨_, _, _, _, _, _, r7⟩ := hc4 0 _ rfl
  obtain ⟨_, _, _, _, s5, s6, _⟩ := hc4 1 _ rfl
  obtain ⟨_, _, t2, _⟩ := hc4 2 _ rfl
  simp only [sl2] at q1
  clear hc1 hc4 hl1 hl4 hl1' hl4' k1 z1 z1' z1b z1c z1d z2 z2c z2d z3 hb1 hb2 hb3 hb4
  generalize w4.alloc (.cells #[.int .i64 0, .int .i64 0, .int .i64 0, .int .i64 0] 42) = WZ at *
  have c10 := (Blk.cell z1e 0).trans rfl
  have c11 := (Blk.cell z1e 1).trans rfl
  have c12 := (Blk.cell z1e 2).trans rfl
  have c13 := (Blk.cell z1e 3).trans rfl
  have c20 := (Blk.cell z2e 0).trans rfl
  have c21 := (Blk.cell z2e 1).trans rfl
  have c30 := (Blk.cell z3e 0).trans rfl
  have c31 := (Blk.cell z3e 1).trans rfl
  have c40 := (Blk.cell z4e 0).trans rfl
  have c41 := (Blk.cell z4e 1).trans rfl
  have c42 := (Blk.cell z4e 2).trans rfl
  have c43 := (Blk.cell z4e 3).trans rfl
  go_wp2_with (first
    | (go_at_call 12; (with_reducible refine (kB1 _).mono ?_); rintro en w5 ⟨rfl, hb5⟩)
    | (go_at_call 12; (with_reducible refine (kB2 _).mono ?_); rintro en w6 ⟨rfl, hb6⟩))
  go_ret
  exact ⟨rfl, bl_any (bl_any hbl hb5) hb6⟩
end Go.Proofs.YtpknjngjkdnpiaaGreatDoor
