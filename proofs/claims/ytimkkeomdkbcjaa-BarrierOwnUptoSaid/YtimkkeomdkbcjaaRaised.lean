/-
  A wait while the alarm is raised ends at its first look. And a wait for more than any source tells comes to nothing.
-/
import Derived.Test.YtimkkeomdkbcjaaWait2
import Derived.Test.YtimkkeomdkbcjaaNew
namespace Go.Proofs.Ytimkkeomdkbcjaa
open Go.RowKit
set_option linter.unusedVariables false
variable {Y : Lay} {al : Bool} {a : Nat → Nat} {n : Nat} {w : World}

theorem lean_raised (h : Mem Y true a n w) (q : Bool) (Q T : Int) (hT : 1 ≤ T) (hT2 : T ≤ 1024) (hn : n ≤ 1000000) :
    Calls Try.prog 22 #[.pointer (some ⟨Y.bb, 0, none⟩), sv Y q, .int .i64 Q, .int .i64 T] w (DoneE Y 0 5 true a (n + inc q) w) := by
  have HA := Lib.hid (alerted h q (by omega))
  clear h
  generalize sv Y q = s at *
  go_enter Try.func22, Try.ntmps22
  go_wp2
  refine wp_loop_rounds 1 ?_
  rw [rounds_succ]
  go_wp2_with fail
  refine HA.out.mono ?_
  rintro e w1 ⟨rfl, h1, hb1⟩
  have H1 := Lib.hid h1
  clear h1
  go_wp2
  go_ret2
  exact ⟨rfl, H1.out, hb1⟩

set_option maxRecDepth 100000 in
set_option maxHeartbeats 1000000 in
theorem wait_raised (h : Mem Y true a n w) (q : Bool) (hk : 1 ≤ Y.k) (Q tries way : Int) (hw : way = 1 ∨ way = 2 ∨ way = 3) (hn : n ≤ 1000000) :
    Calls Try.prog 11 #[.pointer (some ⟨Y.bb, 0, none⟩), sv Y q, .int .i64 Q, .int .i64 tries, .int .i64 way] w (DoneE Y 0 5 true a (n + inc q) w) := by
  have hkk := h.kk
  have hbar := bar_cell h (by omega)
  have hk0 : ((Y.k : Int) == 0) = false := by rw [beq_eq_false_iff_ne]; omega
  have HA := Lib.hid (alerted h q (by omega))
  have HL := Lib.hid (fun (T : Int) (h1 : 1 ≤ T) (h2 : T ≤ 1024) => lean_raised h q Q T h1 h2 hn)
  clear h
  generalize sv Y q = s at *
  have hcl : tries < 1 ∨ (1 ≤ tries ∧ tries ≤ 1024) ∨ 1024 < tries := by omega
  rcases hw with rfl | rfl | rfl
  · rcases hcl with c1 | ⟨c1, c2⟩ | c1
    all_goals
      go_enter Try.func11, Try.ntmps11
      go_wp2
      refine wp_loop_rounds 1 ?_
      rw [rounds_succ]
      go_wp2_with fail
      refine HA.out.mono ?_
      rintro e w1 ⟨rfl, h1, hb1⟩
      have H1 := Lib.hid h1
      clear h1
      go_wp2
      go_ret2
      exact ⟨rfl, H1.out, hb1⟩
  · rcases hcl with c1 | ⟨c1, c2⟩ | c1
    all_goals
      go_enter Try.func11, Try.ntmps11
      go_wp2_with (go_at_call 22; refine (HL.out _ (by omega) (by omega)).mono ?_; rintro e w1 ⟨rfl, h1, hb1⟩; have H1 := Lib.hid h1; clear h1)
      go_ret2
      exact ⟨rfl, H1.out, hb1⟩
  · rcases hcl with c1 | ⟨c1, c2⟩ | c1
    all_goals
      go_enter Try.func11, Try.ntmps11
      go_wp2
      refine wp_loop_rounds 1 ?_
      rw [rounds_succ]
      go_wp2_with fail
      refine HA.out.mono ?_
      rintro e w1 ⟨rfl, h1, hb1⟩
      have H1 := Lib.hid h1
      clear h1
      go_wp2
      go_ret2
      exact ⟨rfl, H1.out, hb1⟩

theorem lim_lt {f : Nat → Int} {Q : Int} (h : ∀ i, f i < Q) : ∀ j, lim f j < Q
  | 0 => h 0
  | j + 1 => by simp only [lim]; split; exact h _; exact lim_lt h j

theorem waitR_empty (rare : Bool) {Q : Int} (h : ∀ a i, next Y a i < Q) : ∀ t i s a, (waitR Y rare Q t i s a).2.1 = 4
  | 0, _, _, _ => rfl
  | t + 1, i, s, a => by
    have := lim_lt (h a) (Y.k - 1)
    rw [waitR, if_neg (by omega)]
    exact waitR_empty rare h t _ _ _
theorem leanR_empty {Q : Int} (h : ∀ a i, next Y a i < Q) : ∀ t i j m a, (leanR Y Q t i j m a).2.1 = 4
  | 0, _, _, _, _ => rfl
  | t + 1, i, j, m, a => by
    rw [leanR, if_pos (h a j)]
    exact leanR_empty h t _ _ _ _

/-- A wait for more than any source tells comes to nothing, the alarm not raised. -/
theorem wait_empty_any (h : Mem Y false a n w) (q : Bool) (hk : 1 ≤ Y.k) (hk6 : Y.k ≤ 100000) (Q tries way : Int) (hw : way = 1 ∨ way = 2 ∨ way = 3) (ha : ∀ i, a i ≤ 1000000) (hn : n ≤ 1000000) (hQ : ∀ a i, next Y a i < Q) :
    Calls Try.prog 11 #[.pointer (some ⟨Y.bb, 0, none⟩), sv Y q, .int .i64 Q, .int .i64 tries, .int .i64 way] w fun e w' => ∃ x, e = .returned (.tuple #[.int .i64 x, .int .i64 4]) ∧ Below Y.N w w' := by
  rcases hw with rfl | rfl | rfl
  · refine (wait_eager h q hk hk6 Q tries ha hn).mono ?_
    rintro e w' ⟨rfl, _, hb⟩
    exact ⟨_, by rw [waitR_empty false hQ], hb⟩
  · refine (wait_lean h q hk Q tries ha hn).mono ?_
    rintro e w' ⟨rfl, _, hb⟩
    exact ⟨_, by rw [leanR_empty hQ], hb⟩
  · refine (wait_rare h q hk hk6 Q tries ha hn).mono ?_
    rintro e w' ⟨rfl, _, hb⟩
    exact ⟨_, by rw [waitR_empty true hQ], hb⟩

/-- The source's value in the barrier's array. -/
def ptrV (r : Nat) : Value := .iface 27 (.pointer (some ⟨r, 0, none⟩))

/-- The layout of a barrier behind New. -/
def layN (N bb sb sa : Nat) (k cap : Nat) (r : Nat → Nat) (ao : Nat → Option Addr) (c : Nat → Nat) (L : Nat → List Int) : Lay :=
  { N, bb, sb, sa, sl := .slice (some ⟨sa, 0, none⟩) k cap, k, cap, r, ao, c, L }

/-- From what New leaves, and a counter of steps laid behind it, to the memory of a barrier over k sources. -/
theorem memN {W w' : World} {N bb k : Nat} {v : Value} {r : Nat → Nat} {ao : Nat → Option Addr} {c : Nat → Nat} {L : Nat → List Int} (hk : 1 ≤ k) (hkk : k ≤ 1000000000000000)
    (hsrc : ∀ i, i < k → W.heap[r i]? = some (.cells #[.slice (ao i) (L i).length (c i), .int .i64 0] 30 (0, 0)))
    (hlist : ∀ i, i < k → L i ≠ [] → ∃ g cs, ao i = some ⟨g, 0, none⟩ ∧ W.heap[g]? = some (.cells cs 2 (0, 0)) ∧ ∀ j, j < (L i).length → cs[j]? = some (.int .i64 ((L i).getD j 0)))
    (hinj : ∀ i j, i < k → j < k → r i = r j → i = j) (hsmall : ∀ i, i < k → ∀ x ∈ L i, -9223372036854775808 ≤ x ∧ x ≤ 9223372036854775807) (hshort : ∀ i, i < k → (L i).length ≤ 1000000000000000)
    (hbb : W.heap.size ≤ bb) (hb : w'.heap[bb]? = some (.cells #[v, .int .u32 0] 54 (0, 0))) (hown : w'.ownsRow W.heap.size 32 1 v ((List.range k).map fun i => ptrV (r i)).length ((List.range k).map fun i => ptrV (r i)))
    (hlow : Below W.heap.size W w') (hNr : ∀ i, i < k → N ≤ r i) (hNW : N ≤ W.heap.size) :
    ∃ sa cap, Mem (layN N bb w'.heap.size sa k cap r ao c L) false (fun _ => 0) 0 (w'.alloc (.cells #[.int .i64 0] 37)) := by
  have hlen : ((List.range k).map fun i => ptrV (r i)).length = k := by simp
  rw [hlen] at hown
  obtain ⟨sa, cap, cur, rfl, hsa, hcap, hcur⟩ := own_shape hown (by omega)
  have old : ∀ {j : Nat} {o : Obj}, w'.heap[j]? = some o → (w'.alloc (.cells #[.int .i64 0] 37)).heap[j]? = some o := by
    intro j o h
    rw [Below.heap_alloc _ _ _ (Array.getElem?_eq_some_iff.1 h).1]; exact h
  have older : ∀ {j : Nat} {o : Obj}, W.heap[j]? = some o → (w'.alloc (.cells #[.int .i64 0] 37)).heap[j]? = some o := by
    intro j o h
    exact old ((hlow.block j (Array.getElem?_eq_some_iff.1 h).1).trans h)
  refine ⟨sa, cap, old hb, fun _ => rfl, heap_alloc_new w' _, fun _ => ⟨cur, old hcur, ?_⟩, fun i hi => older (hsrc i hi), ?_, hinj, hsmall, hshort, hkk, hcap, Nat.le_trans hNW hbb, Nat.le_trans hNW hlow.size, hNr, fun _ _ h => by cases h⟩
  · intro i hi
    have hc := hown.cellAt i (by rw [Nat.mul_one]; exact hi)
    rw [cell_of hcur] at hc
    rw [hc]
    have hi' : i < k := hi
    simp [List.getElem?_range hi', ptrV, layN]
  · intro i hi hL
    obtain ⟨g, cs, e, h1, h2⟩ := hlist i hi hL
    exact ⟨g, cs, e, older h1, h2⟩
end Go.Proofs.Ytimkkeomdkbcjaa
