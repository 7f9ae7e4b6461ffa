/-
  The law JudgeKeeps (f10): the walk.
-/
import Derived.Test.YtfcaebceklhbkaaDoorReads
import Derived.Test.YtfcaebceklhbkaaDoorFixed
import Derived.Test.YtfcaebceklhbkaaDoorPlayed
import Derived.Laws.OwnMore
import Derived.ArgAppend
namespace Go.Proofs.YtfcaebceklhbkaaDoor
open Go.RowKit
set_option linter.unusedVariables false

theorem runAt_kind (S : List Seen4) (x : Int) : ∀ j, ∀ f ∈ (runAt S x j).1, 1 ≤ f.k
  | 0 => by simp [runAt]
  | j + 1 => by
    intro f hf
    simp only [runAt, List.mem_append] at hf
    rcases hf with hf | hf
    · exact runAt_kind S x j f hf
    · split at hf
      · simp at hf
      · rename_i h
        simp only [List.mem_singleton] at hf
        subst hf
        show 1 ≤ runKind S j (runAt S x j).2
        unfold runKind at h ⊢
        split
        · omega
        · split
          · split <;> omega
          · rename_i h1 h2
            rw [if_neg h1, if_neg h2] at h
            exact absurd rfl h
theorem writAt_kind (S : List Seen4) : ∀ j, ∀ f ∈ writAt S j, 1 ≤ f.k
  | 0 => by simp [writAt]
  | j + 1 => by
    intro f hf
    simp only [writAt, List.mem_append, writTold] at hf
    rcases hf with hf | hf
    · exact writAt_kind S j f hf
    · split at hf
      · split at hf
        · simp at hf
        · simp only [List.mem_singleton] at hf
          subst hf
          show (1 : Int) ≤ 5
          omega
      · simp at hf
theorem wrtAt_kind (S : List Seen4) (T : List Itm) : ∀ j, ∀ f ∈ wrtAt S T j, 1 ≤ f.k
  | 0 => by simp [wrtAt]
  | j + 1 => by
    intro f hf
    simp only [wrtAt, List.mem_append, wrtTold] at hf
    rcases hf with hf | hf
    · exact wrtAt_kind S T j f hf
    · split at hf
      · simp at hf
      · simp only [List.mem_singleton] at hf
        subst hf
        show (1 : Int) ≤ 6
        omega
theorem inT_kind (R : Nat → List Seen4) (r : Nat) : ∀ i, ∀ f ∈ inT R r i, 1 ≤ f.k
  | 0 => by simp [inT]
  | i + 1 => by
    intro f hf
    simp only [inT, List.mem_append, tell] at hf
    rcases hf with hf | hf
    · exact inT_kind R r i f hf
    · split at hf
      · split at hf
        · simp at hf
        · simp only [List.mem_singleton] at hf
          subst hf
          show (1 : Int) ≤ 4
          omega
      · simp at hf
theorem samAt_kind (R : Nat → List Seen4) : ∀ r, ∀ f ∈ samAt R r, 1 ≤ f.k
  | 0 => by simp [samAt]
  | r + 1 => by
    intro f hf
    simp only [samAt, List.mem_append] at hf
    rcases hf with hf | hf
    · exact samAt_kind R r f hf
    · exact inT_kind R r _ f hf
theorem allAt_kind (R : Nat → List Seen4) (T : List Itm) : ∀ r, ∀ f ∈ allAt R T r, 1 ≤ f.k
  | 0 => by simp [allAt]
  | r + 1 => by
    intro f hf
    simp only [allAt, List.mem_append, List.mem_map, ownF] at hf
    rcases hf with hf | ⟨g, hg, rfl⟩
    · exact allAt_kind R T r f hf
    · show 1 ≤ g.k
      rcases hg with (hg | hg) | hg
      · exact runAt_kind _ _ _ g hg
      · exact writAt_kind _ _ g hg
      · exact wrtAt_kind _ _ _ g hg
theorem allF_kind (R : Nat → List Seen4) (nr : Nat) (T : List Itm) : ∀ f ∈ allF R nr T, 1 ≤ f.k := by
  intro f hf
  simp only [allF, List.mem_append] at hf
  rcases hf with hf | hf
  · exact allAt_kind R T nr f hf
  · exact samAt_kind R nr f hf
theorem allF_length (R : Nat → List Seen4) (nr : Nat) (T : List Itm) : (allF R nr T).length ≤ 4 * tot R nr := by
  have h1 := allAt_length R T nr
  have h2 := samAt_length R nr
  simp only [allF, List.length_append]
  omega
theorem fcells_get : ∀ (F : List Flt) (i : Nat), i < F.length → ∃ f ∈ F, (fcells F)[i * 5]? = some (.int .i64 f.k)
  | [], i, h => by simp at h
  | f :: F, 0, _ => ⟨f, by simp, by simp [fcells, Flt.cells]⟩
  | f :: F, i + 1, h => by
    obtain ⟨g, hg, e⟩ := fcells_get F i (by simpa using h)
    refine ⟨g, by simp [hg], ?_⟩
    unfold fcells at e ⊢
    rw [List.flatMap_cons, List.getElem?_append_right (by simp [Flt.cells]; omega), show (i + 1) * 5 - f.cells.length = i * 5 by simp [Flt.cells]; omega]
    exact e

/-- Two rows of the call's own: one may be written over and grown; the other stays. -/
structure KSt (w0 : World) (N e k : Nat) (va : Value) (na : Nat) (vb : Value) (nb : Nat) (ys : List Value) (wr : World) : Prop where
  row : ∃ xs, wr.ownsRow N e k va na xs
  own : wr.ownsRow N e k vb nb ys
  ne : vb.ownBlock = none ∨ vb.ownBlock ≠ va.ownBlock
  low : Below N w0 wr
  nw : N ≤ wr.heap.size
section
variable {w0 wr : World} {N e k na nb : Nat} {va vb : Value} {ys : List Value}
theorem KSt.stored {g cap : Nat} (h : KSt w0 N e k (.slice (some ⟨g, 0, none⟩) na cap) na vb nb ys wr) (j : Nat) (u : Value) : KSt w0 N e k (.slice (some ⟨g, 0, none⟩) na cap) na vb nb ys (wr.setCell ⟨g, j, none⟩ u) := by
  obtain ⟨xs, hx⟩ := h.row
  obtain ⟨h1, h2⟩ := hx.stored j u
  exact ⟨⟨_, h1⟩, h.own.kept h2 h.ne, h.ne, h.low.setCell ((hx.lt g rfl).1) _, Nat.le_trans h.nw h2.size⟩
theorem KSt.get {g cap : Nat} (h : KSt w0 N e k (.slice (some ⟨g, 0, none⟩) na cap) na vb nb ys wr) (j : Nat) (hj : j < na * k) : (∃ u, wr.cell? ⟨g, j, none⟩ = some u) ∧ wr.frozen? ⟨g, j, none⟩ = false := by
  obtain ⟨xs, hx⟩ := h.row
  refine ⟨?_, hx.frozenAt j⟩
  rw [hx.cellAt j hj]
  exact ⟨_, List.getElem?_eq_getElem (by rw [hx.1]; exact hj)⟩
theorem KSt.alloc (h : KSt w0 N e k va na vb nb ys wr) (o : Obj) : KSt w0 N e k va na vb nb ys (wr.alloc o) := by
  obtain ⟨xs, hx⟩ := h.row
  exact ⟨⟨xs, hx.alloc o⟩, h.own.alloc o, h.ne, h.low.alloc h.nw o, by have := h.nw; simp; omega⟩
theorem KSt.app (h : KSt w0 N e k va na vb nb ys wr) {o : Obj} {xs : List Value} {v' : Value} {w1 : World} (ha : Appended (wr.alloc o) N e k va na 1 xs v' w1) : KSt w0 N e k v' (na + 1) vb nb ys w1 := by
  obtain ⟨x0, hx⟩ := h.row
  obtain ⟨h1, hg, hsh⟩ := ha
  have hs := hg.size
  simp at hs
  refine ⟨⟨_, h1⟩, (h.own.alloc o).kept hg h.ne, ?_, (h.low.alloc h.nw o).grown hg (by have := h.nw; simp; omega) (fun q hq => (hx.lt q hq).1), by have := h.nw; omega⟩
  rcases h.ne with hn | hn
  · exact .inl hn
  · right
    intro e
    rcases hsh with ⟨_, _, h0, _⟩ | ⟨g, cap, rfl, _, hw | hw⟩
    · cases h0
    · apply hn; rw [hw]; exact e
    · have := (h.own.lt g e).2
      simp at hw
      omega
end

/-- A slice of numbers of the call's own, wherever in its block, that is written over and grown, while another one, laid between M2 and the heap's size at W0, and all below M stay. -/
structure XSt (W0 : World) (M M2 : Nat) (v : Value) (n : Nat) (w : World) : Prop where
  own : (v = .slice none 0 0 ∧ n = 0) ∨ ∃ g o c cur, v = .slice (some ⟨g, o, none⟩) n c ∧ M ≤ g ∧ (g < M2 ∨ W0.heap.size ≤ g) ∧ w.heap[g]? = some (.cells cur 2 (0, 0)) ∧ n ≤ c ∧ o + c ≤ cur.size
  rest : ∀ g, g < W0.heap.size → (g < M ∨ M2 ≤ g) → w.heap[g]? = W0.heap[g]?
  size : W0.heap.size ≤ w.heap.size
  os : w.os = W0.os
  tape : w.tape = W0.tape
  output : w.output = W0.output
section
variable {W0 w : World} {M M2 n : Nat} {v : Value}
theorem XSt.start {l : List Int} {w7 : World} (h : OwnNums M w7 v l) (hb : Below w7.heap.size w7 W0) : XSt W0 M w7.heap.size v l.length W0 := by
  refine ⟨?_, fun _ _ _ => rfl, Nat.le_refl _, rfl, rfl, rfl⟩
  rcases h with ⟨rfl, rfl⟩ | ⟨g, o, c, cur, rfl, hg, hb', hc, hs, hx⟩
  · exact .inl ⟨rfl, rfl⟩
  · have hlt := (Array.getElem?_eq_some_iff.1 hb').1
    exact .inr ⟨g, o, c, cur, rfl, hg, .inl hlt, (hb.block g hlt).trans hb', hc, hs⟩
theorem XSt.stored {g o c : Nat} (h : XSt W0 M M2 (.slice (some ⟨g, o, none⟩) n c) n w) (j : Nat) (u : Value) : XSt W0 M M2 (.slice (some ⟨g, o, none⟩) n c) n (w.setCell ⟨g, j, none⟩ u) := by
  rcases h.own with ⟨e, _⟩ | ⟨g', o', c', cur, e, h1, h2, h3, h4, h5⟩
  · cases e
  · cases e
    refine ⟨.inr ⟨g, o, c, cur.setIfInBounds j u, rfl, h1, h2, heap_setCell_same w g j cur 2 u h3, h4, by simpa using h5⟩, fun q hq hr => ?_, by simpa using h.size, h.os, h.tape, h.output⟩
    have hne : q ≠ g := by intro e; subst e; omega
    rw [Below.heap_setCell _ _ _ _ hne]
    exact h.rest q hq hr
theorem XSt.get {g o c : Nat} (h : XSt W0 M M2 (.slice (some ⟨g, o, none⟩) n c) n w) (j : Nat) (hj : j < n) : (∃ u, w.cell? ⟨g, o + j, none⟩ = some u) ∧ w.frozen? ⟨g, o + j, none⟩ = false := by
  rcases h.own with ⟨e, _⟩ | ⟨g', o', c', cur, e, h1, h2, h3, h4, h5⟩
  · cases e
  · cases e
    exact ⟨⟨_, (cell_of h3 _).trans (Array.getElem?_eq_getElem (by omega))⟩, free_of h3 _⟩
theorem XSt.low (h : XSt W0 M M2 v n w) (hM : M ≤ W0.heap.size) : Below M W0 w := ⟨h.os, h.tape, h.output, h.size, fun k hk => h.rest k (by omega) (.inl hk)⟩
theorem XSt.nums (h : XSt W0 M M2 v n w) {y : Value} {l : List Int} (hy : OwnNums M2 W0 y l) : Nums w y l := by
  refine (OwnNums.keep hy (Nat.le_refl _) fun g hg hlt => h.rest g hlt (.inr hg)).nums
theorem XSt.app (h : XSt W0 M M2 v n w) (hn : n ≤ 8000000) (hM : M ≤ W0.heap.size) (u : Int) :
    ∃ v' w', (Builtin.append_ #[22, 22] 22 #[v, .slice (some ⟨w.heap.size, 0, none⟩) 1 1]).run Tryd.prog (w.alloc (.cells #[.int .i64 u] 2)) = .ok v' w' ∧ XSt W0 M M2 v' (n + 1) w' := by
  obtain ⟨i, hi, hz, hsz, hby⟩ := info_parts info2
  have hsrc := src_one0 w #[.int .i64 u] 2 1 rfl (by intro x hx; simp at hx; subst hx; rfl)
  have hal : ∀ q, q < w.heap.size → (w.alloc (.cells #[.int .i64 u] 2)).heap[q]? = w.heap[q]? := fun q hq => Below.heap_alloc _ _ _ hq
  have hsize := h.size
  rcases h.own with ⟨rfl, rfl⟩ | ⟨g, o, c, cur, rfl, h1, h2, h3, h4, h5⟩
  · obtain ⟨v', w', hr, ha, hg, hf⟩ := run_append_row (P := Tryd.prog) (w.alloc (.cells #[.int .i64 u] 2)) M 22 22 2 i _ 1 8 Tryd.underlying22 hi hz hsz (by decide) hby rfl (.slice none 0 0) 0 [] (World.ownsRow_nil _ _ _ _) _ 1 _ hsrc (by unfold maxLen; omega) (by omega) (by simp; omega)
    refine ⟨v', w', hr, ?_, fun q hq hr => ?_, ?_, hg.os.trans h.os, hg.tape.trans h.tape, hg.output.trans h.output⟩
    · rcases hf with ⟨_, _, h0, _⟩ | ⟨g, cap, rfl, _, hw | hw⟩
      · cases h0
      · cases hw
      · rcases ha.2 with ⟨e, _⟩ | ⟨g', cap', cur, e, hb, hheap, hnc, hcm, hcs, _⟩
        · cases e
        · cases e
          simp at hw
          exact .inr ⟨g, 0, cap, cur, by simp, hb, .inr (by omega), hheap, by omega, by omega⟩
    · rw [hg.block q (by simp; omega) (by simp [Value.ownBlock]), hal q (by omega)]
      exact h.rest q hq hr
    · have := hg.size
      simp at this
      omega
  · have hlt := (Array.getElem?_eq_some_iff.1 h3).1
    obtain ⟨hl, hone, hx⟩ := hsrc
    rcases hx with ⟨_, h0⟩ | ⟨ad, c', e, hnews⟩
    · cases h0
    · cases e
      have h3' : (w.alloc (.cells #[.int .i64 u] 2)).heap[g]? = some (.cells cur 2 (0, 0)) := (hal g hlt).trans h3
      by_cases hroom : n + 1 ≤ c
      · have hr := run_append_room_cells (P := Tryd.prog) (w := w.alloc (.cells #[.int .i64 u] 2)) 22 22 2 i Tryd.underlying22 hi g o n c _ 1 1 [.int .i64 u] (by rw [hsz]; rfl) hnews hone hroom
          (fun j hj => by
            have hj0 : j = 0 := by simpa using hj
            subst hj0
            rw [cell_of h3', Array.getElem?_eq_getElem (by rw [hsz]; omega)]; rfl)
          (fun j hj => free_of h3' _)
        rw [hsz] at hr
        refine ⟨_, _, hr, .inr ⟨g, o, c, cur.setIfInBounds (o + n * 1) (.int .i64 u), rfl, h1, h2, ?_, hroom, by simpa using h5⟩, fun q hq hr => ?_, ?_, h.os, h.tape, h.output⟩
        · show ((w.alloc _).setCell ⟨g, o + n * 1, none⟩ (.int .i64 u)).heap[g]? = _
          exact heap_setCell_same _ g _ cur 2 _ h3'
        · have hne : q ≠ g := by intro e; subst e; omega
          show ((w.alloc _).setCell ⟨g, o + n * 1, none⟩ (.int .i64 u)).heap[q]? = _
          rw [Below.heap_setCell _ _ _ _ hne, hal q (by omega)]
          exact h.rest q hq hr
        · show _ ≤ ((w.alloc _).setCell ⟨g, o + n * 1, none⟩ (.int .i64 u)).heap.size
          simp
          omega
      · have hr := run_append_grow (P := Tryd.prog) (w := w.alloc (.cells #[.int .i64 u] 2)) 22 22 2 i _ Tryd.underlying22 hi hz ⟨g, o, none⟩ n c ((cur.toList.drop o).take n) (by rw [hsz]; simp; omega)
          (fun j x hj => by
            rw [addr_add, cell_of h3']
            rw [List.getElem?_take] at hj
            split at hj
            · rw [List.getElem?_drop] at hj
              simpa using hj
            · cases hj)
          _ 1 1 [.int .i64 u] (by rw [hsz]; rfl) hnews (by omega) (by omega) (growslice_fits (by omega) (by rw [hby]; omega))
        have hge := grownCap_ge (w.alloc (.cells #[.int .i64 u] 2)) (n + 1) c 2
        refine ⟨_, _, hr, .inr ⟨(w.alloc (.cells #[.int .i64 u] 2)).heap.size, 0, _, _, rfl, by simp; omega, .inr (by simp; omega), heap_alloc_new (w.alloc (.cells #[.int .i64 u] 2)).drew _, hge, ?_⟩, fun q hq hr => ?_, ?_, h.os, h.tape, h.output⟩
        · simp only [Array.size_append, List.size_toArray, size_zeroCells, List.length_take, List.length_drop, Array.length_toList, Value.cells, List.length_cons, List.length_nil]
          simp
          omega
        · rw [Below.heap_alloc _ _ _ (by show q < (w.alloc _).heap.size; simp; omega)]
          show (w.alloc _).heap[q]? = _
          rw [hal q (by omega)]
          exact h.rest q hq hr
        · show _ ≤ ((w.alloc _).drew.alloc _).heap.size
          simp
          have : (w.alloc (.cells #[.int .i64 u] 2)).drew.heap.size = w.heap.size + 1 := by show (w.alloc _).heap.size = _; simp
          omega
end

set_option maxRecDepth 100000 in
set_option maxHeartbeats 8000000 in
theorem keepsLaw_walk (z : Int) (hz : 0 ≤ z ∧ z < 256) (ro : Option Addr) (nr c : Nat) (A : Nat → Option Addr) (C : Nat → Nat) (R : Nat → List Seen4) (io : Option Addr) (ni ci : Nat) (T : List Itm) (v : Value) (s : List Int) (ok oa ob oc : Int) (w : World)
    (h : Readers w ro nr A C R) (hnr : nr ≤ 2000000) (htot : tot R nr ≤ 1000000) (h1 : ItemRow w io T) (hst : Small3 T) (hTn : T.length = ni) (hni : ni ≤ 1000000)
    (hs : Nums w v s) (hss : SrcOf w 1 v s.length (numV s)) (hsl : s.length ≤ 1900000) (ht : Tab w) :
    Calls Tryd.prog 10 #[.slice ro nr c, .slice io ni ci, .int .u8 z, v, opV ok oa ob oc] w fun e w' => e = .returned (.bool true) ∧ Below w.heap.size w w' := by
  obtain ⟨i0, hi0, hz0, hz1, hz2⟩ := info_parts info77
  have hFk := allF_kind R nr T
  have hFl := allF_length R nr T
  have hb0 : Below w.heap.size w (w.alloc (.cells #[.int .i64 ok, .int .i64 oa, .int .i64 ob, .int .i64 oc] 31)) := (Below.refl _ _).alloc (Nat.le_refl _) _
  have hop := heap_alloc_new w (.cells #[.int .i64 ok, .int .i64 oa, .int .i64 ob, .int .i64 oc] 31)
  have H32 : Hid (∀ W, Below w.heap.size w W → Calls Tryd.prog 32 #[.slice ro nr c, .slice io ni ci] W (DoneF 77 (allF R nr T) W)) :=
    Lib.hid (fun W hW => all_walk ro nr c A C R io ni ci T W (h.below hW) (by omega) (by omega) (h1.below hW) hst hTn (by omega))
  have HFX := Lib.hid (fixed_walk _ (ht.below hb0))
  have HS := Lib.hid hs
  have HSS := Lib.hid hss
  have HOP := Lib.hid hop
  have HB0 := Lib.hid hb0
  have HFK := Lib.hid hFk
  clear h h1 hst hTn hs hss ht hFk hop hb0
  generalize allF R nr T = F at *
  unfold opV
  go_enter Tryd.func10, Tryd.ntmps10
  go_wp2_with fail
  generalize w.alloc (.cells #[.int .i64 ok, .int .i64 oa, .int .i64 ob, .int .i64 oc] 31) = w1 at *
  generalize hN : w.heap.size = N at *
  have HN := Lib.hid hN
  clear hN
  refine HFX.out.mono ?_
  rintro e w2 ⟨rfl, hb2⟩
  have hNle : N ≤ w1.heap.size := by have := HN.out; have := HB0.out.size; omega
  have HB2 := Lib.hid (HB0.out.trans (hb2.mono hNle))
  have HOP2 := Lib.hid ((hb2.block N (by have := (Array.getElem?_eq_some_iff.1 HOP.out).1; omega)).trans HOP.out)
  have hN2 : N ≤ w2.heap.size := Nat.le_trans hNle hb2.size
  clear hb2
  go_wp2_with fail
  refine (H32.out w2 HB2.out).mono ?_
  rintro e w3 ⟨va, rfl, hra, hb3⟩
  have HB3 := Lib.hid (HB2.out.trans (hb3.mono hN2))
  go_wp2_with fail
  refine (H32.out w3 HB3.out).mono ?_
  rintro e w4 ⟨vb, rfl, hrb, hb4⟩
  have hlt2 : N < w2.heap.size := (Array.getElem?_eq_some_iff.1 HOP2.out).1
  have HK : Hid (KSt w2 w2.heap.size 77 5 va F.length vb F.length (fcells F) w4) := by
    refine Lib.hid ⟨⟨_, own_below hra hb4⟩, own_base hrb hb3.size, ?_, hb3.trans (hb4.mono hb3.size), Nat.le_trans hb3.size hb4.size⟩
    cases hv : vb.ownBlock with
    | none => exact .inl rfl
    | some g =>
      right
      intro e
      have h1 := (hrb.lt g hv).1
      have h2 := (hra.lt g e.symm).2
      omega
  have HBW2 := HB2
  clear hra hrb hb3 hb4 H32 HFX HB3
  obtain ⟨aa, ca, rfl⟩ : ∃ aa ca, va = .slice aa F.length ca := by
    obtain ⟨xs, hx⟩ := HK.out.row
    rcases hx.2 with ⟨e, h0⟩ | ⟨g, cap, _, e, _⟩
    · exact ⟨none, 0, by rw [e, h0]⟩
    · exact ⟨_, cap, e⟩
  obtain ⟨ab, cb, rfl⟩ : ∃ ab cb, vb = .slice ab F.length cb := by
    rcases HK.out.own.2 with ⟨e, h0⟩ | ⟨g, cap, _, e, _⟩
    · exact ⟨none, 0, by rw [e, h0]⟩
    · exact ⟨_, cap, e⟩
  generalize hM : w2.heap.size = M at *
  have HM := Lib.hid hM
  clear hM
  generalize hfl : F.length = fl at *
  have HFL := Lib.hid hfl
  clear hfl
  go_wp2_with fail
  go_loopw [13] (fun iv wr => ∃ i : Nat, i ≤ fl ∧ iv = .int .i64 i ∧ KSt w2 M 77 5 (.slice aa fl ca) fl (.slice ab fl cb) fl (fcells F) wr) (fun iv _ => fl - (intOf iv).toNat)
  case atStart => exact ⟨0, by omega, rfl, HK.out⟩
  case round =>
    obtain ⟨i, hi, rfl, hk⟩ := hrel
    by_cases hlt : i < fl
    · obtain ⟨g, rfl⟩ : ∃ g, aa = some ⟨g, 0, none⟩ := by
        obtain ⟨xs, hx⟩ := hk.row
        rcases hx.2 with ⟨e, h0⟩ | ⟨g, cap, _, e, _⟩
        · omega
        · cases e; exact ⟨g, rfl⟩
      have k0 := hk
      have k1 := k0.stored (i * 5) (.int .i64 (-1))
      have k2 := k1.stored (i * 5 + 1) (.int .i64 0)
      have k3 := k2.stored (i * 5 + 2) (.int .i64 0)
      have k4 := k3.stored (i * 5 + 3) (.int .i64 0)
      have k5 := k4.stored (i * 5 + 4) (.int .i64 0)
      have HK5 := Lib.hid k5
      obtain ⟨⟨u0, a0⟩, b0⟩ := k0.get (i * 5) (by omega)
      obtain ⟨⟨u1, a1⟩, b1⟩ := k1.get (i * 5 + 1) (by omega)
      obtain ⟨⟨u2, a2⟩, b2⟩ := k2.get (i * 5 + 2) (by omega)
      obtain ⟨⟨u3, a3⟩, b3⟩ := k3.get (i * 5 + 3) (by omega)
      obtain ⟨⟨u4, a4⟩, b4⟩ := k4.get (i * 5 + 4) (by omega)
      obtain ⟨⟨v1, c1⟩, d1⟩ := k0.get (i * 5 + 1) (by omega)
      obtain ⟨⟨v2, c2⟩, d2⟩ := k0.get (i * 5 + 2) (by omega)
      obtain ⟨⟨v3, c3⟩, d3⟩ := k0.get (i * 5 + 3) (by omega)
      obtain ⟨⟨v4, c4⟩, d4⟩ := k0.get (i * 5 + 4) (by omega)
      clear k0 k1 k2 k3 k4 k5 hk
      go_wp2_with fail
      go_roundw
      case rel => exact ⟨i + 1, by omega, by go_num, HK5.out⟩
      case measure => simp [intOf]; omega
    · obtain rfl : i = fl := by omega
      have HK1 := Lib.hid hk
      clear hk
      generalize wr = wx at *
      go_wp2_with fail
      go_loopw [11, 14] (fun av jv wr => ∃ j : Nat, j ≤ 8 ∧ jv = .int .i64 j ∧ KSt w2 M 77 5 av (i + j) (.slice ab i cb) i (fcells F) wr) (fun _ jv _ => 8 - (intOf jv).toNat)
      case atStart => exact ⟨0, by omega, rfl, HK1.out⟩
      case round =>
        obtain ⟨j, hj, rfl, hk⟩ := hrel
        by_cases hlt2 : j < 8
        · have HKJ := Lib.hid hk
          obtain ⟨xs, hx⟩ := hk.row
          have HOW := Lib.hid (hx.alloc (.cells (Flt.cells ⟨-2, 0, 0, 0, 0⟩).toArray 77))
          have HSX := Lib.hid (src_one0 wr (Flt.cells ⟨-2, 0, 0, 0, 0⟩).toArray 77 5 rfl (flt_one _))
          have HNW := Lib.hid hk.nw
          clear hk hx
          go_wp2_with (at_builtin; go_must (refine wpList_append_row rfl (.tmp 48) (.tmp 50) 58 rfl M 77 i0 _ 5 40 Tryd.underlying58 hi0 hz0 hz1 (by decide) hz2 rfl u11 (i + j) xs rfl HOW.out 1 (Flt.cells ⟨-2, 0, 0, 0, 0⟩) HSX.out ?l2 ?b2 ?n2 ?_); go_must (case l2 => (unfold maxLen; omega)); go_must (case b2 => omega); go_must (case n2 => (have := HNW.out; simp; omega)); intro v' w' ha; have HK9 := Lib.hid (KSt.app HKJ.out ha); clear ha)
          go_roundw
          case rel => exact ⟨j + 1, by omega, by go_num, HK9.out⟩
          case measure => simp [intOf]; omega
        · obtain rfl : j = 8 := by omega
          have HK2 := Lib.hid hk
          clear hk
          generalize wr = wy at *
          go_wp2_with fail
          go_loopw [15] (fun jv wr => ∃ j : Nat, j ≤ i ∧ jv = .int .i64 j ∧ Below wy.heap.size wy wr) (fun jv _ => i - (intOf jv).toNat)
          case atStart => exact ⟨0, by omega, rfl, Below.refl _ _⟩
          case round =>
            obtain ⟨j, hj, rfl, hlow⟩ := hrel
            by_cases hlt3 : j < i
            · have HL := Lib.hid hlow
              obtain ⟨g, rfl⟩ : ∃ g, ab = some ⟨g, 0, none⟩ := by
                rcases HK2.out.own.2 with ⟨e, h0⟩ | ⟨g, cap, _, e, _⟩
                · omega
                · cases e; exact ⟨g, rfl⟩
              obtain ⟨f, hfm, hfc⟩ := fcells_get F j (by rw [HFL.out]; exact hlt3)
              have hc := HK2.out.own.cellAt (j * 5) (by omega)
              rw [hfc] at hc
              have hc' := (hlow.cell (p := ⟨g, j * 5, none⟩) (World.block_lt_of_cell? wy _ hc)).trans hc
              have hk1 : ¬ f.k < 1 := by have := HFK.out f hfm; omega
              generalize f.k = fk at *
              clear hlow hc hfc hfm
              go_wp2_with fail
              go_roundw
              case rel => exact ⟨j + 1, by omega, by go_num, HL.out⟩
              case measure => simp [intOf]; omega
            · obtain rfl : j = i := by omega
              have hz7 : z.tmod 7 = z % 7 := by rw [Int.tmod_eq_emod_of_nonneg hz.1]
              have HB5 : Hid (Below N w wr) := by
                refine Lib.hid (HB2.out.trans ?_)
                have hlow2 : Below M w2 wr := HK2.out.low.trans (hlow.mono HK2.out.nw)
                exact hlow2.mono hN2
              have HL5 : Hid (Below M w2 wr) := Lib.hid (HK2.out.low.trans (hlow.mono HK2.out.nw))
              clear hlow
              generalize wr = w5 at *
              have hN5 : N ≤ w5.heap.size := by have := HN.out; have := HB5.out.size; omega
              obtain ⟨ao, vc, rfl⟩ := nums_len HS.out
              generalize hsn : s.length = n at *
              have HSN := Lib.hid hsn
              clear hsn
              obtain ⟨i2, hi2, hy0, hy1, hy2⟩ := info_parts info2
              obtain ⟨v1, w6, r1, o1, b1⟩ := copy_run 22 2 _ 1 8 Tryd.underlying22 info2 (by decide) rfl (HSS.out.below (w' := w5) (HB5.out.mono (by rw [HN.out]; exact Nat.le_refl _))) (by unfold maxLen; omega) (by omega)
              have hs77 := src_one0 w6 #[.int .i64 77] 2 1 rfl (by intro x hx; simp at hx; subst hx; rfl)
              obtain ⟨v2, w7, r2, ha2⟩ := run_append_row (P := Tryd.prog) (w6.alloc (.cells #[.int .i64 77] 2)) w5.heap.size 22 22 2 i2 _ 1 8 Tryd.underlying22 hi2 hy0 hy1 (by decide) hy2 rfl v1 n (numV s) (o1.alloc _) _ 1 _ hs77 (by unfold maxLen; omega) (by omega) (by have := b1.size; simp; omega)
              have hb6 : Below w5.heap.size w5 w7 := (b1.alloc b1.size _).grown ha2.2.1 (by have := b1.size; simp; omega) (fun k hk => ((o1.lt k hk).1))
              obtain ⟨gi, ci', rfl, hci⟩ : ∃ g cap, v2 = .slice (some ⟨g, 0, none⟩) (n + 1) cap ∧ n + 1 ≤ cap := by
                rcases ha2.2.2 with ⟨_, _, h0, _⟩ | ⟨g, cap, e, hc, _⟩
                · cases h0
                · exact ⟨g, cap, e, hc⟩
              have hrow := ha2.1
              have h77 := hrow.cellAt n (by omega)
              have hin : Nums w7 (.slice (some ⟨gi, 0, none⟩) n ci') s := by
                refine ⟨_, ci', by rw [HSN.out], .inr ⟨gi, 0, rfl, fun i hi => ?_⟩⟩
                have := hrow.cellAt i (by have := HSN.out; omega)
                rw [Nat.zero_add, this, List.getElem?_append_left (by simp [numV]; exact hi)]
                simp [numV, List.getD, hi]
              have hn77 : (numV s ++ [Value.int .i64 77])[n]? = some (.int .i64 77) := by
                rw [List.getElem?_append_right (by simp [numV, HSN.out])]
                simp [numV, HSN.out]
              replace h77 := h77.trans hn77
              have HR1 := Lib.hid r1
              have HR2 := Lib.hid r2
              have HB7 := Lib.hid (HB5.out.trans (hb6.mono hN5))
              have HIN := Lib.hid hin
              have H77 := Lib.hid h77
              have hM5 : M ≤ w5.heap.size := by have := HM.out; have := HL5.out.size; omega
              have hlow7 : Below M w2 w7 := HL5.out.trans (hb6.mono hM5)
              have HOP7 := Lib.hid ((hlow7.block N (by have := HM.out; omega)).trans HOP2.out)
              have HL7 := Lib.hid hlow7
              have hM7 : M ≤ w7.heap.size := Nat.le_trans hM5 hb6.size
              clear r1 r2 hin h77 hb6 hrow ha2 o1 b1 hs77 hn77 hlow7
              have H12 : Hid (∀ W v', Nums W v' s → Calls Tryd.prog 12 #[.int .i64 (z % 7), v', .agg #[.int .i64 ok, .int .i64 oa, .int .i64 ob, .int .i64 oc]] W fun e w' => ∃ v'', e = .returned (.tuple #[v'', .agg #[.bool (doF (z % 7) s ok oa ob).2.1, .int .i64 (doF (z % 7) s ok oa ob).2.2, .slice none 0 0]]) ∧ OwnNums W.heap.size w' v'' (doF (z % 7) s ok oa ob).1 ∧ Below W.heap.size W w') :=
                Lib.hid (fun W v' h => doOk_all (z % 7) v' s ok oa ob oc W h (by have := HSN.out; omega))
              have hxl := doF_length (z % 7) s ok oa ob
              rw [HSN.out] at hxl
              generalize doF (z % 7) s ok oa ob = x at *
              obtain ⟨xl, xo, xn⟩ := x
              simp only at H12 hxl
              have hn0 : (0 : Int) ≤ (n : Int) := by omega
              have hnc : (n : Int) ≤ (ci' : Int) := by omega
              have d0 := (cell_of HOP7.out 0).trans rfl
              have d1 := (cell_of HOP7.out 1).trans rfl
              have d2 := (cell_of HOP7.out 2).trans rfl
              have d3 := (cell_of HOP7.out 3).trans rfl
              have d0' : ∀ o1, (w7.alloc o1).cell? ⟨N, 0, none⟩ = some (.int .i64 ok) := fun o1 => (World.cell?_of_block (Below.heap_alloc _ _ _ (World.block_lt_of_cell? _ _ d0))).trans d0
              have d1' : ∀ o1, (w7.alloc o1).cell? ⟨N, 1, none⟩ = some (.int .i64 oa) := fun o1 => (World.cell?_of_block (Below.heap_alloc _ _ _ (World.block_lt_of_cell? _ _ d1))).trans d1
              have d2' : ∀ o1, (w7.alloc o1).cell? ⟨N, 2, none⟩ = some (.int .i64 ob) := fun o1 => (World.cell?_of_block (Below.heap_alloc _ _ _ (World.block_lt_of_cell? _ _ d2))).trans d2
              have d3' : ∀ o1, (w7.alloc o1).cell? ⟨N, 3, none⟩ = some (.int .i64 oc) := fun o1 => (World.cell?_of_block (Below.heap_alloc _ _ _ (World.block_lt_of_cell? _ _ d3))).trans d3
              go_wp2_with (first
                | (at_builtin; refine Lib.wpList_append_run _ rfl _ _ _ _ rfl _ _ rfl rfl _ _ HR1.out ?_)
                | (at_builtin; refine Lib.wpList_append_run _ rfl _ _ _ _ rfl _ _ rfl rfl _ _ HR2.out ?_))
              go_cut [18, 19] (fun y p wx => OwnNums w7.heap.size wx y xl ∧ AnsAt w7 xo xn p wx)
              case first =>
                go_region_with (first
                  | (go_at_call 12; refine (H12.out _ _ ?_).mono ?_; (first | exact HIN.out | exact HIN.out.below (((Below.refl _ _).alloc (Nat.le_refl _) _).drew)); rintro e w' ⟨v', rfl, hv', hb⟩; try (have hk := ans_kept hb; have k0 := (cell_of hk 0).trans rfl; have k1 := (cell_of hk 1).trans rfl; have k2 := (cell_of hk 2).trans rfl; have k3 := free_of hk 0; have k4 := free_of hk 1; have k5 := free_of hk 2; have HK := Lib.hid hk; clear hk)))
                all_goals (go_wp2_with fail; go_meet)
                all_goals (first | exact ⟨nextA hv' _, ansA hb⟩ | exact ⟨nextB hv', ansB hb⟩)
              case rest =>
                obtain ⟨hnx, q, rfl, hq, hqs, hb8⟩ := hcut
                clear d0 d1 d2 d3 d0' d1' d2' d3' hq
                have HX8 := Lib.hid hnx
                have HL8 := Lib.hid (HL7.out.trans (hb8.mono hM7))
                have HOP8 := Lib.hid ((HL8.out.block N (by have := HM.out; omega)).trans HOP2.out)
                have HBX : Hid (∀ W, Below w7.heap.size wc W → Nums W (.slice ao n vc) s ∧ W.heap[N]? = some (.cells #[.int .i64 ok, .int .i64 oa, .int .i64 ob, .int .i64 oc] 31 (0, 0)) ∧ Nums W (.slice (some ⟨gi, 0, none⟩) n ci') s ∧ W.cell? ⟨gi, n, none⟩ = some (.int .i64 77) ∧ Below N w W) :=
                  Lib.hid (fun W hW => by
                    have h7 : Below w7.heap.size w7 W := hb8.trans hW
                    have hM2 : Below M w2 W := HL7.out.trans (h7.mono hM7)
                    have hw : Below N w W := HB7.out.trans (h7.mono (by omega))
                    refine ⟨HS.out.below (hw.mono (by rw [HN.out]; exact Nat.le_refl _)), (hM2.block N (by have := HM.out; omega)).trans HOP2.out, HIN.out.below h7, ?_, hw⟩
                    exact (h7.cell (p := ⟨gi, n, none⟩) (World.block_lt_of_cell? _ _ H77.out)).trans H77.out)
                have hs8 : w7.heap.size ≤ wc.heap.size := hb8.size
                clear hnx hb8
                obtain ⟨hv8, hop8, _, _, _⟩ := HBX.out wc (Below.refl _ _)
                have d0 := (cell_of hop8 0).trans rfl
                have d1 := (cell_of hop8 1).trans rfl
                have d2 := (cell_of hop8 2).trans rfl
                have d3 := (cell_of hop8 3).trans rfl
                have HV8 := Lib.hid hv8
                clear hv8 hop8
                go_wp2_with fail
                refine (H12.out wc _ HV8.out).mono ?_
                rintro e w9 ⟨vy, rfl, hoy, hb9⟩
                have HY : Hid (OwnNums wc.heap.size (w9.alloc (.cells #[.bool xo, .int .i64 xn, .slice none 0 0] 26)) vy xl) := Lib.hid (hoy.keep (Nat.le_refl _) (fun g _ hg => Below.heap_alloc _ _ _ hg))
                have hbA : Below wc.heap.size wc (w9.alloc (.cells #[.bool xo, .int .i64 xn, .slice none 0 0] 26)) := hb9.alloc hb9.size _
                have HXS := Lib.hid (XSt.start HX8.out hbA)
                have HBA := Lib.hid hbA
                obtain ⟨ax, cx, rfl⟩ := nums_len HX8.out.nums
                generalize hxn : xl.length = xc at *
                have HXN := Lib.hid hxn
                clear hoy hb9 hbA d0 d1 d2 d3 hxn
                go_wp2_with fail
                generalize w9.alloc (.cells #[.bool xo, .int .i64 xn, .slice none 0 0] 26) = wA at *
                go_loopw [22] (fun iv wr => ∃ i : Nat, i ≤ xc ∧ iv = .int .i64 i ∧ XSt wA w7.heap.size wc.heap.size (.slice ax xc cx) xc wr) (fun iv _ => xc - (intOf iv).toNat)
                case atStart => exact ⟨0, by omega, rfl, HXS.out⟩
                case round =>
                  obtain ⟨i, hi, rfl, hk⟩ := hrel
                  by_cases hlt : i < xc
                  · obtain ⟨g, o, rfl⟩ : ∃ g o, ax = some ⟨g, o, none⟩ := by
                      rcases hk.own with ⟨e, h0⟩ | ⟨g, o, c, cur, e, _⟩
                      · omega
                      · cases e; exact ⟨g, o, rfl⟩
                    have HK5 := Lib.hid (hk.stored (o + i) (.int .i64 (-9)))
                    obtain ⟨⟨u0, a0⟩, b0⟩ := hk.get i hlt
                    clear hk
                    go_wp2_with fail
                    go_roundw
                    case rel => exact ⟨i + 1, by omega, by go_num, HK5.out⟩
                    case measure => simp [intOf]; omega
                  · obtain rfl : i = xc := by omega
                    have HK1 := Lib.hid hk
                    clear hk
                    generalize wr = wx at *
                    go_wp2_with fail
                    go_loopw [18, 23] (fun av jv wr => ∃ j : Nat, j ≤ 8 ∧ jv = .int .i64 j ∧ XSt wA w7.heap.size wc.heap.size av (i + j) wr) (fun _ jv _ => 8 - (intOf jv).toNat)
                    case atStart => exact ⟨0, by omega, rfl, HK1.out⟩
                    case round =>
                      obtain ⟨j, hj, rfl, hk⟩ := hrel
                      by_cases hlt2 : j < 8
                      · obtain ⟨v', w', hr, hx'⟩ := hk.app (by omega) (Nat.le_trans hs8 HBA.out.size) (-8)
                        have HR := Lib.hid hr
                        have HX9 := Lib.hid hx'
                        clear hk hr hx'
                        go_wp2_with (at_builtin; refine Lib.wpList_append_run _ rfl _ _ _ _ rfl _ _ rfl rfl _ _ HR.out ?_)
                        go_roundw
                        case rel => exact ⟨j + 1, by omega, by go_num, HX9.out⟩
                        case measure => simp [intOf]; omega
                      · obtain rfl : j = 8 := by omega
                        have hlowA : Below w7.heap.size wc wr := (HBA.out.mono hs8).trans (hk.low (Nat.le_trans hs8 HBA.out.size))
                        have HYR := Lib.hid (hk.nums HY.out)
                        obtain ⟨hvr, hopr, hinr, h77r, hbr⟩ := HBX.out wr hlowA
                        have HVR := Lib.hid hvr
                        have HINR := Lib.hid hinr
                        have HBR := Lib.hid hbr
                        have H77R := Lib.hid h77r
                        have d0 := (cell_of hopr 0).trans rfl
                        have d1 := (cell_of hopr 1).trans rfl
                        have d2 := (cell_of hopr 2).trans rfl
                        have d3 := (cell_of hopr 3).trans rfl
                        have hNr : N ≤ wr.heap.size := by have := hbr.size; have := HN.out; omega
                        clear hk hlowA hvr hopr hinr h77r hbr
                        generalize wr = wz at *
                        go_wp2_with fail
                        refine (H12.out wz _ HVR.out).mono ?_
                        rintro e wb ⟨vz, rfl, hoz, hbb⟩
                        have hbB : Below wz.heap.size wz (wb.alloc (.cells #[.bool xo, .int .i64 xn, .slice none 0 0] 26)) := hbb.alloc hbb.size _
                        have hzz : Nums (wb.alloc (.cells #[.bool xo, .int .i64 xn, .slice none 0 0] 26)) vz xl := (hoz.keep (Nat.le_refl _) (fun g _ hg => Below.heap_alloc _ _ _ hg)).nums
                        have hyy := HYR.out.below hbB
                        have hii := HINR.out.below hbB
                        have hvv := HVR.out.below hbB
                        have h77 := (hbB.cell (p := ⟨gi, n, none⟩) (World.block_lt_of_cell? _ _ H77R.out)).trans H77R.out
                        have H14a := Lib.hid (sameNums_walk vy vz xl _ hyy hzz (by have := HXN.out; omega))
                        have H14b := Lib.hid (fun W (hW : Below (wb.alloc (.cells #[.bool xo, .int .i64 xn, .slice none 0 0] 26)).heap.size (wb.alloc (.cells #[.bool xo, .int .i64 xn, .slice none 0 0] 26)) W) => sameNums_walk (.slice (some ⟨gi, 0, none⟩) n ci') (.slice ao n vc) s W (hii.below hW) (hvv.below hW) (by have := HSN.out; omega))
                        have HBB := Lib.hid (HBR.out.trans (hbB.mono hNr))
                        have H77B := Lib.hid h77
                        have hNB : N ≤ (wb.alloc (.cells #[.bool xo, .int .i64 xn, .slice none 0 0] 26)).heap.size := Nat.le_trans hNr hbB.size
                        clear hoz hbb hbB hzz hyy hii hvv h77 d0 d1 d2 d3
                        go_wp2_with fail
                        generalize wb.alloc (.cells #[.bool xo, .int .i64 xn, .slice none 0 0] 26) = wB at *
                        refine H14a.out.mono ?_
                        rintro e wC ⟨rfl, hbC⟩
                        have HBC := Lib.hid hbC
                        have H14c := Lib.hid (H14b.out wC hbC)
                        clear hbC
                        go_wp2_with fail
                        refine H14c.out.mono ?_
                        rintro e wD ⟨rfl, hbD⟩
                        have hBD : Below wB.heap.size wB wD := HBC.out.trans (hbD.mono HBC.out.size)
                        have h77D := (hBD.cell (p := ⟨gi, n, none⟩) (World.block_lt_of_cell? _ _ H77B.out)).trans H77B.out
                        have HBD := Lib.hid (HBB.out.trans (hBD.mono hNB))
                        clear hbD hBD
                        have hlen77 : (n : Int) < ((n + 1 : Nat) : Int) := by omega
                        go_wp2_with fail
                        go_ret
                        exact ⟨rfl, by rw [HN.out]; exact HBD.out⟩
end Go.Proofs.YtfcaebceklhbkaaDoor
