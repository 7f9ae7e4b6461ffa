/-
  The chapter's examples (waits) come to true.
-/
import Derived.Test.YtimkkeomdkbcjaaNew
namespace Go.Proofs.Ytimkkeomdkbcjaa
open Go.RowKit
set_option linter.unusedVariables false

theorem told_one (x : Int) (a : Nat) : told [x] a = x := by
  unfold told
  rw [if_neg (by simp)]
  have : min a [x].length - 1 = 0 := by simp; omega
  rw [this]; rfl

theorem one_cell (x : Int) : ∀ j, j < [x].length → (#[Value.int .i64 x] : Array Value)[j]? = some (.int .i64 ([x].getD j 0)) := by
  intro j hj
  obtain rfl : j = 0 := by simp at hj; omega
  rfl

/-- From what New leaves, and a counter of steps, to the memory of a barrier over two sources of one number each. -/
def lay2 (N bb sb sa cap r1 r2 g1 g2 : Nat) (x y : Int) : Lay :=
  { N, bb, sb, sa, sl := .slice (some ⟨sa, 0, none⟩) 2 cap, k := 2, cap, r := fun i => if i = 0 then r1 else r2, ao := fun i => some ⟨if i = 0 then g1 else g2, 0, none⟩, c := fun _ => 1, L := fun i => if i = 0 then [x] else [y] }

theorem next2 (N bb sb sa cap r1 r2 g1 g2 : Nat) (x y : Int) (a : Nat → Nat) (i : Nat) : next (lay2 N bb sb sa cap r1 r2 g1 g2 x y) a i = if i = 0 then x else y := by
  simp only [next, lay2]
  split <;> exact told_one _ _

theorem mem2 {W w' : World} {N bb : Nat} {v : Value} {r1 r2 g1 g2 : Nat} {x y : Int}
    (h1 : W.heap[r1]? = some (.cells #[.slice (some ⟨g1, 0, none⟩) 1 1, .int .i64 0] 30 (0, 0))) (h2 : W.heap[r2]? = some (.cells #[.slice (some ⟨g2, 0, none⟩) 1 1, .int .i64 0] 30 (0, 0)))
    (k1 : W.heap[g1]? = some (.cells #[.int .i64 x] 2 (0, 0))) (k2 : W.heap[g2]? = some (.cells #[.int .i64 y] 2 (0, 0))) (hne : r1 ≠ r2)
    (hx : -9223372036854775808 ≤ x ∧ x ≤ 9223372036854775807) (hy : -9223372036854775808 ≤ y ∧ y ≤ 9223372036854775807)
    (hbb : W.heap.size ≤ bb) (hb : w'.heap[bb]? = some (.cells #[v, .int .u32 0] 54 (0, 0))) (hown : w'.ownsRow W.heap.size 32 1 v 2 [.iface 27 (.pointer (some ⟨r1, 0, none⟩)), .iface 27 (.pointer (some ⟨r2, 0, none⟩))])
    (hlow : Below W.heap.size W w') (hN1 : N ≤ r1) (hN2 : N ≤ r2) (hNW : N ≤ W.heap.size) :
    ∃ sa cap, Mem (lay2 N bb w'.heap.size sa cap r1 r2 g1 g2 x y) false (fun _ => 0) 0 (w'.alloc (.cells #[.int .i64 0] 37)) := by
  obtain ⟨sa, cap, cur, rfl, hsa, hcap, hcur⟩ := own_shape hown (by omega)
  have old : ∀ {k : Nat} {o : Obj}, w'.heap[k]? = some o → (w'.alloc (.cells #[.int .i64 0] 37)).heap[k]? = some o := by
    intro k o h
    rw [Below.heap_alloc _ _ _ (Array.getElem?_eq_some_iff.1 h).1]; exact h
  have older : ∀ {k : Nat} {o : Obj}, W.heap[k]? = some o → (w'.alloc (.cells #[.int .i64 0] 37)).heap[k]? = some o := by
    intro k o h
    exact old ((hlow.block k (Array.getElem?_eq_some_iff.1 h).1).trans h)
  refine ⟨sa, cap, old hb, fun _ => rfl, heap_alloc_new w' _, fun _ => ⟨cur, old hcur, ?_⟩, ?_, ?_, ?_, ?_, ?_, by simp [lay2], hcap, ?_, ?_, ?_, fun _ _ h => by simp [lay2] at h⟩
  · intro i hi
    have hc := hown.cellAt i (by simpa [lay2] using hi)
    rw [cell_of hcur] at hc
    rw [hc]
    match i, hi with
    | 0, _ => rfl
    | 1, _ => rfl
    | i + 2, hi => exact absurd hi (by simp [lay2])
  · intro i hi
    match i, hi with
    | 0, _ => exact older h1
    | 1, _ => exact older h2
    | i + 2, hi => exact absurd hi (by simp [lay2])
  · intro i hi _
    match i, hi with
    | 0, _ => exact ⟨g1, _, rfl, older k1, one_cell x⟩
    | 1, _ => exact ⟨g2, _, rfl, older k2, one_cell y⟩
    | i + 2, hi => exact absurd hi (by simp [lay2])
  · intro i j hi hj he
    match i, j, hi, hj with
    | 0, 0, _, _ => rfl
    | 1, 1, _, _ => rfl
    | 0, 1, _, _ => exact absurd he hne
    | 1, 0, _, _ => exact absurd he.symm hne
    | i + 2, _, hi, _ => exact absurd hi (by simp [lay2])
    | _, j + 2, _, hj => exact absurd hj (by simp [lay2])
  · intro i hi z hz
    match i, hi with
    | 0, _ => simp [lay2] at hz; subst hz; exact hx
    | 1, _ => simp [lay2] at hz; subst hz; exact hy
    | i + 2, hi => exact absurd hi (by simp [lay2])
  · intro i hi
    simp only [lay2]
    split <;> simp
  · exact Nat.le_trans hNW hbb
  · exact Nat.le_trans hNW hlow.size
  · intro i hi
    simp only [lay2]
    split
    · exact hN1
    · exact hN2

theorem new_two (r2 b : Nat) (W : World) (hb : b = W.heap.size) : SrcOf (W.alloc (.cells #[.nilIface, .iface 27 (.pointer (some ⟨r2, 0, none⟩))] 32)) (.slice (some ⟨b, 0, none⟩) 2 2) 2 [.nilIface, .iface 27 (.pointer (some ⟨r2, 0, none⟩))] := by
  subst hb
  exact ⟨rfl, by intro u hu; simp at hu; rcases hu with rfl | rfl <;> rfl, .inr ⟨⟨W.heap.size, 0, none⟩, 2, rfl, cell_two_new _ _ _ _⟩⟩
theorem srcV_two (r2 : Nat) : ∀ x ∈ [Value.nilIface, .iface 27 (.pointer (some ⟨r2, 0, none⟩))], SrcV x := by
  intro x hx
  simp at hx
  rcases hx with rfl | rfl
  · exact .inl rfl
  · exact .inr ⟨_, rfl⟩

/-- The world in which New is called. -/
def W5 (w : World) : World :=
  ((((w.alloc (.cells #[.int .i64 5] 2)).alloc (.cells #[.slice (some ⟨w.heap.size, 0, none⟩) 1 1, .int .i64 0] 30)).alloc (.cells #[.int .i64 3] 2)).alloc
    (.cells #[.slice (some ⟨w.heap.size + 1 + 1, 0, none⟩) 1 1, .int .i64 0] 30)).alloc (.cells #[.nilIface, .iface 27 (.pointer (some ⟨w.heap.size + 1 + 1 + 1, 0, none⟩))] 32)

theorem get_push {w : World} {o : Obj} {k : Nat} {x : Obj} (h : w.heap[k]? = some x) : (w.alloc o).heap[k]? = some x := by
  rw [Below.heap_alloc _ _ _ (Array.getElem?_eq_some_iff.1 h).1]; exact h
theorem get_new {w : World} {o : Obj} {k : Nat} (h : k = w.heap.size) : (w.alloc o).heap[k]? = some o := by subst h; exact heap_alloc_new w o

theorem W5_facts (w : World) : (W5 w).heap.size = w.heap.size + 5 ∧ (W5 w).heap[w.heap.size + 1]? = some (.cells #[.slice (some ⟨w.heap.size, 0, none⟩) 1 1, .int .i64 0] 30 (0, 0)) ∧
    (W5 w).heap[w.heap.size + 1 + 1 + 1]? = some (.cells #[.slice (some ⟨w.heap.size + 1 + 1, 0, none⟩) 1 1, .int .i64 0] 30 (0, 0)) ∧ (W5 w).heap[w.heap.size]? = some (.cells #[.int .i64 5] 2 (0, 0)) ∧
    (W5 w).heap[w.heap.size + 1 + 1]? = some (.cells #[.int .i64 3] 2 (0, 0)) ∧ Below w.heap.size w (W5 w) := by
  refine ⟨by simp [W5], ?_, ?_, ?_, ?_, ?_⟩
  · exact get_push (get_push (get_push (get_new (by simp))))
  · exact get_push (get_new (by simp))
  · exact get_push (get_push (get_push (get_push (get_new rfl))))
  · exact get_push (get_push (get_new (by simp)))
  · exact (((((Below.refl _ _).alloc (Nat.le_refl _) _).alloc (by simp) _).alloc (by simp; omega) _).alloc (by simp; omega) _).alloc (by simp; omega) _

set_option maxRecDepth 100000 in
set_option maxHeartbeats 1000000 in
theorem waits_true (w : World) : Calls Try.prog 9 #[] w fun e w' => e = .returned (.bool true) ∧ Below w.heap.size w w' := by
  obtain ⟨f0, f1, f2, f3, f4, f5⟩ := W5_facts w
  have CN : Calls Try.prog 10 #[.iface 27 (.pointer (some ⟨w.heap.size + 1, 0, none⟩)), .slice (some ⟨w.heap.size + 1 + 1 + 1 + 1, 0, none⟩) 2 2] (W5 w) (DoneNew [.iface 27 (.pointer (some ⟨w.heap.size + 1, 0, none⟩)), .iface 27 (.pointer (some ⟨w.heap.size + 1 + 1 + 1, 0, none⟩))] (W5 w)) :=
    new_src _ _ [.nilIface, .iface 27 (.pointer (some ⟨w.heap.size + 1 + 1 + 1, 0, none⟩))] (W5 w) (new_two _ _ _ (by simp)) (srcV_two _) (by simp)
  have F0 := Lib.hid f0
  have F5 := Lib.hid f5
  have HM : Hid (∀ bb v w1, (W5 w).heap.size ≤ bb → w1.heap[bb]? = some (.cells #[v, .int .u32 0] 54 (0, 0)) → w1.ownsRow (W5 w).heap.size 32 1 v 2 [.iface 27 (.pointer (some ⟨w.heap.size + 1, 0, none⟩)), .iface 27 (.pointer (some ⟨w.heap.size + 1 + 1 + 1, 0, none⟩))] → Below (W5 w).heap.size (W5 w) w1 →
      ∃ sa cap, Mem (lay2 w.heap.size bb w1.heap.size sa cap (w.heap.size + 1) (w.heap.size + 1 + 1 + 1) w.heap.size (w.heap.size + 1 + 1) 5 3) false (fun _ => 0) 0 (w1.alloc (.cells #[.int .i64 0] 37))) :=
    fun bb v w1 h1 h2 h3 h4 => mem2 f1 f2 f3 f4 (by omega) (by omega) (by omega) h1 h2 h3 h4 (by omega) (by omega) (by omega)
  clear f0 f1 f2 f3 f4 f5
  go_enter Try.func9, Try.ntmps9
  go_wp2_with fail
  refine CN.mono ?_
  rintro e w1 ⟨bb, v, rfl, hbb, hb, hown, hlow⟩
  obtain ⟨sa, cap, hM⟩ := HM.out bb v w1 hbb hb hown hlow
  have HLow := Lib.hid (show Below w.heap.size w w1 from F5.out.trans (hlow.mono (by rw [F0.out]; omega)))
  clear hbb hb hown hlow HM CN
  generalize hY : lay2 w.heap.size bb w1.heap.size sa cap (w.heap.size + 1) (w.heap.size + 1 + 1 + 1) w.heap.size (w.heap.size + 1 + 1) 5 3 = Y at hM
  have hn : ∀ (a : Nat → Nat) (i : Nat), next Y a i = if i = 0 then 5 else 3 := by intro a i; rw [← hY]; exact next2 _ _ _ _ _ _ _ _ _ _ _ a i
  have hk : Y.k = 2 := by rw [← hY]; rfl
  have hbbY : Y.bb = bb := by rw [← hY]; rfl
  have hsv : sv Y true = .iface 35 (.pointer (some ⟨w1.heap.size, 0, none⟩)) := by rw [← hY]; rfl
  have hN : Y.N = w.heap.size := by rw [← hY]; rfl
  have hsb : Y.sb = w1.heap.size := by rw [← hY]; rfl
  clear hY
  have L1 : ∀ a : Nat → Nat, lim (next Y a) (Y.k - 1) = 3 := by intro a; rw [hk]; simp [lim, hn]
  have R1 : ∀ a : Nat → Nat, waitR Y false 3 (clamp 1) 0 0 a = (3, 0, bump a Y.k, 3, 1) := by
    intro a
    have : clamp 1 = 0 + 1 := rfl
    rw [this, waitR, L1, if_pos (by omega), hk]; rfl
  have R2 : ∀ a : Nat → Nat, leanR Y 3 (clamp 1) 0 0 0 a = (0, 4, upd a 0, 1) := by
    intro a
    have : clamp 1 = 0 + 1 := rfl
    rw [this, leanR, hn, if_neg (by simp), if_neg (by rw [hk]; simp)]
    rfl
  have R3 : ∀ a : Nat → Nat, leanR Y 3 (clamp 2) 0 0 0 a = (3, 0, upd (upd a 0) 1, 2) := by
    intro a
    have : clamp 2 = 0 + 1 + 1 := rfl
    rw [this, leanR, hn, if_neg (by simp), if_neg (by rw [hk]; simp), leanR, hn, if_neg (by simp), if_pos (by rw [hk])]
    rfl
  have R4 : ∀ a : Nat → Nat, ∃ a', waitR Y true 4 (clamp 2) 0 0 a = (0, 4, a', 5, 2) := by
    intro a
    have : clamp 2 = 0 + 1 + 1 := rfl
    rw [this, waitR, L1, if_neg (by omega), waitR, L1, if_neg (by omega), waitR, hk]
    exact ⟨_, rfl⟩
  have C1 := limitM hM true (by omega) (fun _ => by omega) (by omega)
  rw [hsv, hbbY, L1] at C1
  have HD := Lib.hid hM
  have HR1 := Lib.hid R1
  have HR2 := Lib.hid R2
  have HR3 := Lib.hid R3
  have HR4 := Lib.hid R4
  have HK := Lib.hid hk
  have HBB := Lib.hid hbbY
  have HSV := Lib.hid hsv
  have HNN := Lib.hid hN
  have HC1 := Lib.hid C1
  have HSB : Hid (Y.sb = w1.heap.size) := hsb
  have A0 : ∀ i, (fun _ : Nat => (0 : Nat)) i ≤ (fun _ : Nat => (0 : Nat)) i + 0 := fun _ => by simp
  have A1 := bump_le (k := 2) A0
  have A2 := bump_le (k := 2) A1
  have A3 := upd_le (j := 0) A2
  have A4 := upd_le (j := 1) (upd_le (j := 0) A3)
  have H1 := Lib.hid A1
  have H2 := Lib.hid A2
  have H3 := Lib.hid A3
  have H4 := Lib.hid A4
  clear hM R1 R2 R3 R4 hk hbbY hsv hN C1 L1 hn hsb A0 A1 A2 A3 A4
  go_wp2_with fail
  refine HC1.out.mono ?_
  rintro e w2 ⟨rfl, hM1, hB1⟩
  have HB1 := Lib.hid hB1
  rw [HK.out] at hM1
  have hs : w2.cell? ⟨w1.heap.size, 0, none⟩ = some (.int .i64 2) := by rw [← HSB.out, cell_of hM1.steps]; rfl
  have C2 := wait_eager hM1 true (by rw [HK.out]; omega) (by rw [HK.out]; omega) 3 1 (fun i => by have := H1.out i; (try simp only at this ⊢); omega) (by simp [inc])
  rw [HSV.out, HBB.out, HR1.out, HK.out] at C2
  have HC2 := Lib.hid C2
  clear C2 hM1 hB1
  go_wp2_with fail
  refine HC2.out.mono ?_
  rintro e w3 ⟨rfl, hM2, hB2⟩
  have HB2 := Lib.hid hB2
  have C3 := wait_lean hM2 true (by rw [HK.out]; omega) 3 1 (fun i => by have := H2.out i; (try simp only at this ⊢); omega) (by simp [inc])
  rw [HSV.out, HBB.out, HR2.out] at C3
  have HC3 := Lib.hid C3
  clear C3 hM2 hB2
  go_wp2_with fail
  refine HC3.out.mono ?_
  rintro e w4 ⟨rfl, hM3, hB3⟩
  have HB3 := Lib.hid hB3
  have C4 := wait_lean hM3 true (by rw [HK.out]; omega) 3 2 (fun i => by have := H3.out i; (try simp only at this ⊢); omega) (by simp [inc])
  rw [HSV.out, HBB.out, HR3.out] at C4
  have HC4 := Lib.hid C4
  clear C4 hM3 hB3
  go_wp2_with fail
  refine HC4.out.mono ?_
  rintro e w5 ⟨rfl, hM4, hB4⟩
  have HB4 := Lib.hid hB4
  have C5 := wait_rare hM4 true (by rw [HK.out]; omega) (by rw [HK.out]; omega) 4 2 (fun i => by have := H4.out i; (try simp only at this ⊢); omega) (by simp [inc])
  obtain ⟨a5, hr⟩ := HR4.out (upd (upd (upd (bump (bump (fun _ => 0) 2) 2) 0) 0) 1)
  simp only at C5
  rw [HSV.out, HBB.out, hr] at C5
  have HC5 := Lib.hid C5
  clear C5 hM4 hB4 hr
  go_wp2_with fail
  refine HC5.out.mono ?_
  rintro e w6 ⟨rfl, hM5, hB5⟩
  have HB5 := Lib.hid hB5
  have hs6 : w6.cell? ⟨w1.heap.size, 0, none⟩ = some (.int .i64 16) := by rw [← HSB.out, cell_of hM5.steps]; rfl
  clear hM5 hB5
  go_wp2
  go_ret
  have low : Below w.heap.size w1 (w1.alloc (.cells #[.int .i64 0] 37)) := (Below.refl _ _).alloc HLow.out.size _
  have b1 := HB1.out; have b2 := HB2.out; have b3 := HB3.out; have b4 := HB4.out; have b5 := HB5.out
  rw [HNN.out] at b1 b2 b3 b4 b5
  exact ⟨rfl, (((((HLow.out.trans low).trans b1).trans b2).trans b3).trans b4).trans b5⟩
end Go.Proofs.Ytimkkeomdkbcjaa
