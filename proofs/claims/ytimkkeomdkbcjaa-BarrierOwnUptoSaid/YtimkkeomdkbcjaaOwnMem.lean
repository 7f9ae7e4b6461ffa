/-
  The memory of BarrierOwn from the copy of the array on: plain laws on worlds.
-/
import Derived.Test.YtimkkeomdkbcjaaOwnSum
namespace Go.Proofs.Ytimkkeomdkbcjaa
open Go.RowKit
set_option linter.unusedVariables false

/-- The array that is handed to New: behind the first source. -/
def Bs (r : Nat → Nat) (K : Nat) : List Value := (behL r K).drop 1

theorem Bs_length (r : Nat → Nat) (K : Nat) : (Bs r K).length = 2 * K - 1 := by simp [Bs, behL_length]
theorem behL_head (r : Nat → Nat) : ∀ {K : Nat}, 1 ≤ K → behL r K = ptrV (r 0) :: Bs r K
  | 1, _ => rfl
  | K + 2, _ => by
    have h : behL r (K + 2) = behL r (K + 1) ++ [ptrV (r (K + 1)), .nilIface] := rfl
    have ih := behL_head r (K := K + 1) (by omega)
    unfold Bs
    rw [h]
    unfold Bs at ih
    rw [ih]
    simp
theorem Bs_srcV (r : Nat → Nat) (K : Nat) : ∀ x ∈ Bs r K, SrcV x := fun x hx => behL_srcV r K x (List.mem_of_mem_drop hx)
theorem srcs_Bs (r : Nat → Nat) {K : Nat} (hK : 1 ≤ K) : srcs (ptrV (r 0) :: Bs r K) = (List.range K).map fun i => ptrV (r i) := by
  rw [← behL_head r hK, srcs_behL]

theorem OwnSt.draws {w0 wr : World} {N j : Nat} {r : Nat → Nat} {v : Nat → Value} {LL : Nat → List Int} {vo vb : Value} (h : OwnSt w0 N j r v LL vo vb wr) (m : Nat) : OwnSt w0 N j r v LL vo vb (wr.drewN m) :=
  ⟨h.own, h.beh, h.src, h.lst, h.small, h.inj, h.nr, ⟨h.low.os, h.low.tape, h.low.output, h.low.size, h.low.block⟩, h.nw⟩

theorem addr_add (b o i : Nat) : (⟨b, o, none⟩ : Addr).add i = ⟨b, o + i, none⟩ := by
  unfold Addr.add
  split
  · rename_i h; subst h; rfl
  · rfl

theorem src_drop {w : World} {gb n c : Nat} {x : Value} {xs : List Value} (hl : xs.length = n - 1) (h1 : ∀ u ∈ xs, u.oneCell' = true) (h : ∀ j u, (x :: xs)[j]? = some u → w.cell? ⟨gb, j, none⟩ = some u) :
    SrcOf w (.slice (some ⟨gb, 1, none⟩) (n - 1) c) (n - 1) xs := by
  refine ⟨hl, h1, .inr ⟨⟨gb, 1, none⟩, c, rfl, fun j u hu => ?_⟩⟩
  have := h (j + 1) u (by simpa using hu)
  rw [addr_add, Nat.add_comm]
  exact this

theorem SrcV.one {u : Value} (h : SrcV u) : u.oneCell' = true := by rcases h with rfl | ⟨r, rfl⟩ <;> rfl

/-- The array behind, its first place cut off, as New and append read it: in every world that is as this one at its block. -/
theorem beh_src {w : World} {N gb K c : Nat} {r : Nat → Nat} (hK : 1 ≤ K) (h : w.ownsRow N 32 1 (.slice (some ⟨gb, 0, none⟩) (2 * K) c) (2 * K) (behL r K)) (d : Nat) {W : World} (hW : W.heap[gb]? = w.heap[gb]?) :
    SrcOf W (.slice (some ⟨gb, 1, none⟩) (2 * K - 1) d) (2 * K - 1) (Bs r K) := by
  refine src_drop (x := ptrV (r 0)) (Bs_length r K) (fun u hu => (Bs_srcV r K u hu).one) ?_
  rw [← behL_head r hK]
  intro j u hu
  rw [World.cell?_of_block (w := w) (a := ⟨gb, j, none⟩) hW]
  have := h.cells (g := gb) rfl j u hu
  rwa [addr_add, Nat.zero_add] at this

/-- The copy has been made. -/
theorem keep_stage {w0 wo wA : World} {N K gb c10 q : Nat} {r : Nat → Nat} {v : Nat → Value} {LL : Nat → List Int} {vo v18 : Value} (hK : 1 ≤ K) (h : OwnSt w0 N K r v LL vo (.slice (some ⟨gb, 0, none⟩) (2 * K) c10) wo)
    (ha : Appended ((wo.drewN q).alloc (.cells #[] 32)) wo.heap.size 32 (.slice (some ⟨wo.heap.size, 0, none⟩) 0 0) 0 (2 * K - 1) ([] ++ Bs r K) v18 wA) :
    OwnSt w0 N K r v LL vo (.slice (some ⟨gb, 0, none⟩) (2 * K) c10) wA ∧ gb < wo.heap.size ∧ wo.heap.size ≤ wA.heap.size ∧
      ∃ gk ck, v18 = .slice (some ⟨gk, 0, none⟩) (2 * K - 1) ck ∧ wo.heap.size ≤ gk ∧ gk < wA.heap.size ∧ ∀ i u, (Bs r K)[i]? = some u → wA.cell? ⟨gk, i, none⟩ = some u := by
  obtain ⟨h1, h2, h3⟩ := ha
  have hs := h2.size
  simp at hs
  have hlow : Below wo.heap.size (wo.drewN q) wA := (((Below.refl _ (wo.drewN q)).alloc (Nat.le_refl _) _).grown h2 (by simp) (by simp [Value.ownBlock]))
  simp only [Nat.zero_add, List.nil_append] at h1
  obtain ⟨gk, ck, cur, rfl, hg, hc, hgg⟩ := own_shape h1 (by omega)
  obtain ⟨gb', _, _, e, _, _, hgb⟩ := own_shape h.beh (by omega)
  have e' : gb = gb' := by simpa using (Value.slice.inj e).1
  subst e'
  refine ⟨(h.draws q).below hlow, (Array.getElem?_eq_some_iff.1 hgb).1, by omega, gk, ck, rfl, hg, (Array.getElem?_eq_some_iff.1 hgg).1, fun i u hu => ?_⟩
  have := h1.cells (g := gk) rfl i u hu
  rwa [addr_add, Nat.zero_add] at this

/-- The round of the loop that writes the array over. -/
structure Over (wB : World) (gb : Nat) (B : List Value) (N i : Nat) (wr : World) : Prop where
  off : ∀ b, b < wB.heap.size → b ≠ gb → wr.heap[b]? = wB.heap[b]?
  low : Below N wB wr
  arr : ∃ cs, wr.heap[gb]? = some (.cells cs 32 (0, 0)) ∧ ∀ x u, i ≤ x → B[x]? = some u → cs[1 + x]? = some u

theorem Over.cell {wB wr : World} {gb N i : Nat} {B : List Value} {u : Value} (h : Over wB gb B N i wr) (hu : B[i]? = some u) : wr.cell? ⟨gb, 1 + i, none⟩ = some u ∧ wr.frozen? ⟨gb, 1 + i, none⟩ = false := by
  obtain ⟨cs, h1, h2⟩ := h.arr
  exact ⟨(cell_of h1 _).trans (h2 i u (Nat.le_refl _) hu), free_of h1 _⟩

theorem Over.step {wB wr : World} {gb N i : Nat} {B : List Value} (h : Over wB gb B N i wr) (hgb : N ≤ gb) (hgs : gb < wB.heap.size) (hN : N ≤ wB.heap.size) (m : Nat) (o1 o2 : Obj) (v : Value) :
    Over wB gb B N (i + 1) ((((wr.drewN m).alloc o1).alloc o2).setCell ⟨gb, 1 + i, none⟩ v) := by
  have hs := h.low.size
  have old : ∀ b, b < wB.heap.size → (((wr.drewN m).alloc o1).alloc o2).heap[b]? = wr.heap[b]? := by
    intro b hb
    rw [Below.heap_alloc _ _ _ (by simp; omega), Below.heap_alloc _ _ _ (by simp; omega)]; rfl
  refine ⟨?_, ?_, ?_⟩
  · intro b hb hne
    rw [set_off hne, old b hb]
    exact h.off b hb hne
  · have l0 : Below N wB (wr.drewN m) := ⟨h.low.os, h.low.tape, h.low.output, h.low.size, h.low.block⟩
    exact ((l0.alloc (by simp; omega) _).alloc (by simp; omega) _).setCell hgb _
  · obtain ⟨cs, h1, h2⟩ := h.arr
    refine ⟨_, set_at ((old gb hgs).trans h1) _ _, fun x u hx hu => ?_⟩
    have := h2 x u (by omega) hu
    rw [Array.getElem?_setIfInBounds_ne (by omega)]
    exact this

/-- From the memory behind the loop to the memory of a barrier over the sources, the row of the own sources kept. -/
def layK (N bb sb sa : Nat) (k cap : Nat) (r : Nat → Nat) (ao : Nat → Option Addr) (c : Nat → Nat) (L : Nat → List Int) (g9 : Nat) (cur9 : Array Value) : Lay :=
  { N, bb, sb, sa, sl := .slice (some ⟨sa, 0, none⟩) k cap, k, cap, r, ao, c, L, kb := some (g9, cur9) }

theorem memK {w' : World} {N B bb k : Nat} {v : Value} {r : Nat → Nat} {ao : Nat → Option Addr} {c : Nat → Nat} {L : Nat → List Int} {g9 : Nat} {cur9 : Array Value} (hk : 1 ≤ k) (hkk : k ≤ 1000000000000000)
    (hsrc : ∀ i, i < k → w'.heap[r i]? = some (.cells #[.slice (ao i) (L i).length (c i), .int .i64 0] 30 (0, 0)))
    (hlist : ∀ i, i < k → L i ≠ [] → ∃ g cs, ao i = some ⟨g, 0, none⟩ ∧ w'.heap[g]? = some (.cells cs 2 (0, 0)) ∧ ∀ j, j < (L i).length → cs[j]? = some (.int .i64 ((L i).getD j 0)))
    (hinj : ∀ i j, i < k → j < k → r i = r j → i = j) (hsmall : ∀ i, i < k → ∀ x ∈ L i, -9223372036854775808 ≤ x ∧ x ≤ 9223372036854775807) (hshort : ∀ i, i < k → (L i).length ≤ 1000000000000000)
    (hbb : N ≤ bb) (hb : w'.heap[bb]? = some (.cells #[v, .int .u32 0] 54 (0, 0))) (hown : w'.ownsRow B 32 1 v k ((List.range k).map fun i => ptrV (r i)))
    (hNr : ∀ i, i < k → N ≤ r i) (hNW : N ≤ w'.heap.size) (h9 : w'.heap[g9]? = some (.cells cur9 27 (0, 0))) :
    ∃ sa cap, Mem (layK N bb w'.heap.size sa k cap r ao c L g9 cur9) false (fun _ => 0) 0 (w'.alloc (.cells #[.int .i64 0] 37)) := by
  obtain ⟨sa, cap, cur, rfl, hsa, hcap, hcur⟩ := own_shape hown (by omega)
  have old : ∀ {j : Nat} {o : Obj}, w'.heap[j]? = some o → (w'.alloc (.cells #[.int .i64 0] 37)).heap[j]? = some o := by
    intro j o h
    rw [Below.heap_alloc _ _ _ (Array.getElem?_eq_some_iff.1 h).1]; exact h
  refine ⟨sa, cap, old hb, fun _ => rfl, heap_alloc_new w' _, fun _ => ⟨cur, old hcur, ?_⟩, fun i hi => old (hsrc i hi), ?_, hinj, hsmall, hshort, hkk, hcap, hbb, hNW, hNr, ?_⟩
  · intro i hi
    have hc := hown.cellAt i (by rw [Nat.mul_one]; exact hi)
    rw [cell_of hcur] at hc
    rw [hc]
    have hi' : i < k := hi
    simp [List.getElem?_range hi', ptrV, layK]
  · intro i hi hL
    obtain ⟨g, cs, e, h1, h2⟩ := hlist i hi hL
    exact ⟨g, cs, e, old h1, h2⟩
  · intro b cs e
    simp only [layK, Option.some.injEq, Prod.mk.injEq] at e
    obtain ⟨rfl, rfl⟩ := e
    exact old h9

/-- The row of a list of numbers: its header's parts. -/
theorem list_parts {w : World} {N : Nat} {v : Value} {zs : List Int} (h : w.ownsRow N 2 1 v zs.length (zs.map (Value.int .i64))) :
    ∃ p : Option Addr × Nat, v = .slice p.1 zs.length p.2 ∧ (zs ≠ [] → ∃ g cs, p.1 = some ⟨g, 0, none⟩ ∧ w.heap[g]? = some (.cells cs 2 (0, 0)) ∧ ∀ j, j < zs.length → cs[j]? = some (.int .i64 (zs.getD j 0))) := by
  rcases h.2 with ⟨rfl, h0⟩ | ⟨g, cap, cur, rfl, _, hgg, hc, hcm, hcs, htk⟩
  · exact ⟨(none, 0), by rw [h0], fun hne => absurd (List.eq_nil_of_length_eq_zero h0) hne⟩
  · refine ⟨(some ⟨g, 0, none⟩, cap), rfl, fun _ => ⟨g, cur, rfl, hgg, fun j hj => ?_⟩⟩
    have hcell := h.cellAt j (by omega)
    rw [cell_of hgg] at hcell
    rw [hcell]
    simp [List.getElem?_eq_getElem hj, List.getD_eq_getElem?_getD]

theorem choose_below {α : Type} [Inhabited α] {K : Nat} {P : Nat → α → Prop} (h : ∀ i, i < K → ∃ a, P i a) : ∃ f : Nat → α, ∀ i, i < K → P i (f i) := by
  refine ⟨fun i => if hi : i < K then Classical.choose (h i hi) else default, fun i hi => ?_⟩
  simp only [hi, dif_pos]
  exact Classical.choose_spec (h i hi)

/-- The barrier's memory, behind the loop. -/
theorem mem_stage {w0 wA wB wC : World} {N K gb g9 c9 c10 bb i : Nat} {r : Nat → Nat} {v : Nat → Value} {LL : Nat → List Int} {vb : Value} {B : List Value} {cur9 : Array Value} (hK : 1 ≤ K) (hK5 : K ≤ 5)
    (h : OwnSt w0 N K r v LL (.slice (some ⟨g9, 0, none⟩) K c9) (.slice (some ⟨gb, 0, none⟩) (2 * K) c10) wA) (h9 : wA.heap[g9]? = some (.cells cur9 27 (0, 0)))
    (hbb : wA.heap.size ≤ bb) (hb : wB.heap[bb]? = some (.cells #[vb, .int .u32 0] 54 (0, 0))) (hown : wB.ownsRow wA.heap.size 32 1 vb K ((List.range K).map fun i => ptrV (r i))) (hlow : Below wA.heap.size wA wB)
    (hO : Over wB gb B N i wC) :
    ∃ sa cap ao c, Mem (layK N bb wC.heap.size sa K cap r ao c LL g9 cur9) false (fun _ => 0) 0 (wC.alloc (.cells #[.int .i64 0] 37)) := by
  obtain ⟨gb', _, _, e, _, _, hgb⟩ := own_shape h.beh (by omega)
  have e' : gb = gb' := by simpa using (Value.slice.inj e).1
  subst e'
  have hgbA : gb < wA.heap.size := (Array.getElem?_eq_some_iff.1 hgb).1
  have hAB := hlow.size
  have hBC := hO.low.size
  -- an old block of another type is as it was
  have old : ∀ {b : Nat} {cs : Array Value} {T : TypeId}, wA.heap[b]? = some (.cells cs T (0, 0)) → T ≠ 32 → wC.heap[b]? = some (.cells cs T (0, 0)) := by
    intro b cs T hb hT
    have hlt := (Array.getElem?_eq_some_iff.1 hb).1
    rw [hO.off b (by omega) (ne_of hb hgb hT), hlow.block b hlt, hb]
  have own' : ∀ {n : Nat} {u : Value} {xs : List Value}, wB.ownsRow wA.heap.size 32 1 u n xs → wC.ownsRow wA.heap.size 32 1 u n xs := by
    intro n u xs ho
    refine ⟨ho.1, ?_⟩
    rcases ho.2 with hn | ⟨g, cap, cur, rfl, h1, h2, h3⟩
    · exact .inl hn
    · exact .inr ⟨g, cap, cur, rfl, h1, by rw [hO.off g (Array.getElem?_eq_some_iff.1 h2).1 (by omega), h2], h3⟩
  obtain ⟨f, hf⟩ := choose_below (fun i hi => list_parts (h.lst i hi))
  have hnw := h.nw
  obtain ⟨sa, cap, hM⟩ := memK (w' := wC) (N := N) (B := wA.heap.size) (bb := bb) (k := K) (v := vb) (r := r) (ao := fun i => (f i).1) (c := fun i => (f i).2) (L := LL) (g9 := g9) (cur9 := cur9) hK (by omega)
    (fun i hi => by have := old (h.src i hi) (by decide); rw [(hf i hi).1] at this; exact this)
    (fun i hi hne => by
      obtain ⟨g, cs, e1, e2, e3⟩ := (hf i hi).2 hne
      exact ⟨g, cs, e1, old e2 (by decide), e3⟩)
    h.inj (fun i hi x hx => by have := (h.small i hi).2 x hx; omega) (fun i hi => by have := (h.small i hi).1; omega) (by omega)
    (by rw [hO.off bb (Array.getElem?_eq_some_iff.1 hb).1 (by omega)]; exact hb) (own' hown) h.nr (by omega) (old h9 (by decide))
  exact ⟨sa, cap, _, _, hM⟩

theorem sumN_le (a : Nat → Nat) {j k : Nat} (h : j ≤ k) : sumN a j ≤ sumN a k := by
  induction k with
  | zero => obtain rfl : j = 0 := by omega
            exact Nat.le_refl _
  | succ k ih =>
    by_cases e : j = k + 1
    · subst e; exact Nat.le_refl _
    · have := ih (by omega)
      simp only [sumN]; omega
theorem new_stage {w w' : World} {N gb K c d : Nat} {r : Nat → Nat} (hK : 1 ≤ K) (hK5 : K ≤ 5) (h : w.ownsRow N 32 1 (.slice (some ⟨gb, 0, none⟩) (2 * K) c) (2 * K) (behL r K)) :
    Calls Try.prog 10 #[.iface 27 (.pointer (some ⟨r 0, 0, none⟩)), .slice (some ⟨gb, 1, none⟩) (2 * K - 1) d] w fun e w' => ∃ bb vb, e = .returned (.pointer (some ⟨bb, 0, none⟩)) ∧ w.heap.size ≤ bb ∧
      w'.heap[bb]? = some (.cells #[vb, .int .u32 0] 54 (0, 0)) ∧ w'.ownsRow w.heap.size 32 1 vb K ((List.range K).map fun i => ptrV (r i)) ∧ Below w.heap.size w w' := by
  have hs := beh_src (d := d) hK h (W := w) rfl
  rw [← Bs_length r K] at hs
  refine (new_src (r 0) _ (Bs r K) w (by rw [Bs_length] at hs ⊢; exact hs) (Bs_srcV r K) (by rw [Bs_length]; omega)).mono ?_
  rintro e w' ⟨bb, vb, h1, h2, h3, h4, h5⟩
  refine ⟨bb, vb, h1, h2, h3, ?_, h5⟩
  have e : srcs (.iface 27 (.pointer (some ⟨r 0, 0, none⟩)) :: Bs r K) = (List.range K).map fun i => ptrV (r i) := srcs_Bs r hK
  rw [e] at h4
  simpa using h4

theorem Over.keep {wA wB wr : World} {gb gk M N i j : Nat} {B : List Value} {u : Value} (h : Over wB gb B N j wr) (hlow : Below wA.heap.size wA wB) (hk : gk < wA.heap.size) (hne : gk ≠ gb) (hu : wA.cell? ⟨gk, i, none⟩ = some u) : wr.cell? ⟨gk, i, none⟩ = some u := by
  have := hlow.size
  rw [World.cell?_of_block (w := wB) (a := ⟨gk, i, none⟩) (h.off gk (by omega) hne), hlow.cell (p := ⟨gk, i, none⟩) hk, hu]

theorem Over.step0 {wB wr : World} {gb N i : Nat} {B : List Value} (h : Over wB gb B N i wr) (hgb : N ≤ gb) (hgs : gb < wB.heap.size) (hN : N ≤ wB.heap.size) (o1 o2 : Obj) (v : Value) :
    Over wB gb B N (i + 1) (((wr.alloc o1).alloc o2).setCell ⟨gb, 1 + i, none⟩ v) := h.step hgb hgs hN 0 o1 o2 v
theorem over_start {wA wB : World} {N gb K c : Nat} {r : Nat → Nat} (hK : 1 ≤ K) (h : wA.ownsRow N 32 1 (.slice (some ⟨gb, 0, none⟩) (2 * K) c) (2 * K) (behL r K)) (hlow : Below wA.heap.size wA wB) (hN : N ≤ wA.heap.size) : Over wB gb (Bs r K) N 0 wB := by
  obtain ⟨gb', _, cs, e, _, _, hgb⟩ := own_shape h (by omega)
  have e' : gb = gb' := by simpa using (Value.slice.inj e).1
  subst e'
  refine ⟨fun _ _ _ => rfl, Below.refl _ _, cs, (hlow.block gb (Array.getElem?_eq_some_iff.1 hgb).1).trans hgb, fun x u _ hu => ?_⟩
  have := h.cells (g := gb) rfl (x + 1) u (by rw [behL_head r hK]; simpa using hu)
  rw [addr_add, cell_of hgb] at this
  rw [show 1 + x = 0 + (x + 1) by omega]
  exact this

theorem Over.cell2 {wB wr : World} {gb N i : Nat} {B : List Value} {u : Value} (h : Over wB gb B N i wr) (hgs : gb < wB.heap.size) (hu : B[i]? = some u) (m : Nat) (o1 o2 : Obj) :
    (((wr.drewN m).alloc o1).alloc o2).cell? ⟨gb, 1 + i, none⟩ = some u ∧ (((wr.drewN m).alloc o1).alloc o2).frozen? ⟨gb, 1 + i, none⟩ = false := by
  have hs := h.low.size
  have e : (((wr.drewN m).alloc o1).alloc o2).heap[gb]? = wr.heap[gb]? := by
    rw [Below.heap_alloc _ _ _ (by simp; omega), Below.heap_alloc _ _ _ (by simp; omega)]; rfl
  obtain ⟨cs, h1, h2⟩ := h.arr
  exact ⟨(cell_of (e.trans h1) _).trans (h2 i u (Nat.le_refl _) hu), free_of (e.trans h1) _⟩
theorem Over.cell20 {wB wr : World} {gb N i : Nat} {B : List Value} {u : Value} (h : Over wB gb B N i wr) (hgs : gb < wB.heap.size) (hu : B[i]? = some u) (o1 o2 : Obj) :
    ((wr.alloc o1).alloc o2).cell? ⟨gb, 1 + i, none⟩ = some u ∧ ((wr.alloc o1).alloc o2).frozen? ⟨gb, 1 + i, none⟩ = false := h.cell2 hgs hu 0 o1 o2
theorem iface32 : ∃ ms, Try.prog.underlying 32 = some (.interface ms) := by
  have h : (match Try.prog.underlying 32 with | some (.interface _) => true | _ => false) = true := by kernel_rfl
  revert h
  cases Try.prog.underlying 32 with
  | none => intro h; cases h
  | some d => cases d <;> intro h <;> first | (cases h; done) | exact ⟨_, rfl⟩
theorem info27c : (Try.prog.info? 27).map (fun i => i.comparable) = some true := by kernel_rfl
theorem info30s : (Try.prog.info? 30).isSome = true := by kernel_rfl

theorem equal_src (q : Nat) (w : World) : (Op.equal 32 (ptrV q) (ptrV q)).run Try.prog w = .ok true w := by
  obtain ⟨ms, h32⟩ := iface32
  obtain ⟨i27, h27⟩ : ∃ i, Try.prog.info? 27 = some i ∧ i.comparable = true := by
    have := info27c
    cases e : Try.prog.info? 27 with
    | none => rw [e] at this; cases this
    | some i => rw [e] at this; exact ⟨i, rfl, by simpa using this⟩
  obtain ⟨i30, h30⟩ := Option.isSome_iff_exists.1 info30s
  have := run_equalIn_iface_ptr_same (P := Try.prog) w 9998 ⟨q, 0, none⟩ h32 Try.underlying27 h27.1 h27.2 h30
  exact this
theorem neq_src (q : Nat) (w : World) : (binOp .neq 32 (.iface 27 (.pointer (some ⟨q, 0, none⟩))) (.iface 27 (.pointer (some ⟨q, 0, none⟩)))).run Try.prog w = .ok (.bool false) w := by
  have := equal_src q w
  simp only [binOp]
  simp only [ptrV] at this
  simp [this]
end Go.Proofs.Ytimkkeomdkbcjaa
