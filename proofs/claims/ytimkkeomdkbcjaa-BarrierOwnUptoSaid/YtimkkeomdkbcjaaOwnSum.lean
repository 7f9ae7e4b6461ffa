/-
  BarrierOwn: the sums of a source's list, the rows that came in, the builtin min: plain laws.
-/
import Derived.Test.YtimkkeomdkbcjaaOwnSt
import Derived.Test.YtimkkeomdkbcjaaAlarm
namespace Go.Proofs.Ytimkkeomdkbcjaa
open Go.RowKit
set_option linter.unusedVariables false

/-- WHAT THE WALK IS TOLD OF A SLICE OF SLICES OF BYTES THAT CAME IN. -/
def BytesRows (w : World) (ao : Option Addr) (len : Nat) (A : Nat → Option Addr) (L C : Nat → Nat) (Z : Nat → List Int) : Prop :=
  (len = 0 ∨ ∃ g o, ao = some ⟨g, o, none⟩ ∧ ∀ i, i < len → w.cell? ⟨g, o + i, none⟩ = some (.slice (A i) (L i) (C i))) ∧ ∀ i, i < len → L i ≤ 1048576 ∧ Bytes w (A i) (L i) (Z i)

theorem Bytes.below {w w' : World} {ao : Option Addr} {len : Nat} {zs : List Int} (h : Bytes w ao len zs) (hb : Below w.heap.size w w') : Bytes w' ao len zs := by
  refine ⟨h.1, h.2.1, ?_⟩
  rcases h.2.2 with h0 | ⟨g, o, e, hc⟩
  · exact .inl h0
  · exact .inr ⟨g, o, e, fun i hi => (hb.cell (p := ⟨g, o + i, none⟩) (World.block_lt_of_cell? w _ (hc i hi))).trans (hc i hi)⟩

theorem BytesRows.below {w w' : World} {ao : Option Addr} {len : Nat} {A : Nat → Option Addr} {L C : Nat → Nat} {Z : Nat → List Int} (h : BytesRows w ao len A L C Z) (hb : Below w.heap.size w w') : BytesRows w' ao len A L C Z := by
  refine ⟨?_, fun i hi => ⟨(h.2 i hi).1, (h.2 i hi).2.below hb⟩⟩
  rcases h.1 with h0 | ⟨g, o, e, hc⟩
  · exact .inl h0
  · exact .inr ⟨g, o, e, fun i hi => (hb.cell (p := ⟨g, o + i, none⟩) (World.block_lt_of_cell? w _ (hc i hi))).trans (hc i hi)⟩

def acc (zs : List Int) : Nat → Int
  | 0 => 0
  | j + 1 => acc zs j + zs.getD j 0 % 8
def accs (zs : List Int) (j : Nat) : List Int := (List.range j).map fun i => acc zs (i + 1)

theorem accs_length (zs : List Int) (j : Nat) : (accs zs j).length = j := by simp [accs]
theorem accs_succ (zs : List Int) (j : Nat) : accs zs (j + 1) = accs zs j ++ [acc zs (j + 1)] := by simp [accs, List.range_succ]
theorem acc_bound (zs : List Int) : ∀ j, 0 ≤ acc zs j ∧ acc zs j ≤ 7 * j
  | 0 => by simp [acc]
  | j + 1 => by
    have := acc_bound zs j
    simp only [acc]
    omega
theorem accs_bound {zs : List Int} {j : Nat} (hj : j ≤ 1048576) : ∀ x ∈ accs zs j, 0 ≤ x ∧ x ≤ 100000000 := by
  intro x hx
  simp only [accs, List.mem_map, List.mem_range] at hx
  obtain ⟨i, hi, rfl⟩ := hx
  have := acc_bound zs (i + 1)
  omega

theorem wpList_min {P : Program} {w : World} {ops : Array Oper} {rest : List Oper} {o : Oper} {a : Act} {Q : Exit → Act → World → Prop} (hgd : o.guard = none) (s x : Operand) (t u : TypeId)
    (ho : o.op = .call { callee := .builtin .min, args := #[s, x], argTypes := #[t, u] }) (m n r : Int)
    (hs : a.eval s = .int .i64 m) (hx : a.eval x = .int .i64 n) (hr : min m n = r)
    (h : wpList P ops Q rest (a.put o.dst (.int .i64 r)) w) : wpList P ops Q (o :: rest) a w := by
  refine wpList_plain hgd fun _ hK => ?_
  unfold Oper.wp execOp
  have e : (if n < m then n else m) = r := by rw [← hr]; split <;> omega
  simp [ho, resolve, invoke, builtin, Sem.run_pure, List.map_toArray, List.map_cons, List.map_nil, hs, hx, Builtin.min_, Builtin.min2]
  rw [e]
  exact hK _ _ h

theorem wpList_max {P : Program} {w : World} {ops : Array Oper} {rest : List Oper} {o : Oper} {a : Act} {Q : Exit → Act → World → Prop} (hgd : o.guard = none) (s x : Operand) (t u : TypeId)
    (ho : o.op = .call { callee := .builtin .max, args := #[s, x], argTypes := #[t, u] }) (m n r : Int)
    (hs : a.eval s = .int .i64 m) (hx : a.eval x = .int .i64 n) (hr : max m n = r)
    (h : wpList P ops Q rest (a.put o.dst (.int .i64 r)) w) : wpList P ops Q (o :: rest) a w := by
  refine wpList_plain hgd fun _ hK => ?_
  unfold Oper.wp execOp
  have e : (if m < n then n else m) = r := by rw [← hr]; split <;> omega
  simp [ho, resolve, invoke, builtin, Sem.run_pure, List.map_toArray, List.map_cons, List.map_nil, hs, hx, Builtin.max_, Builtin.max2]
  rw [e]
  exact hK _ _ h
theorem cells_new (w : World) (xs : Array Value) (T : TypeId) (j : Nat) (u : Value) (h : xs.toList[j]? = some u) : (w.alloc (.cells xs T)).cell? ((⟨w.heap.size, 0, none⟩ : Addr).add j) = some u := by
  have h1 := heap_alloc_new w (.cells xs T)
  have h2 : (w.alloc (.cells xs T)).cell? ⟨w.heap.size, j, none⟩ = xs[j]? := cell_of h1 j
  have e : (⟨w.heap.size, 0, none⟩ : Addr).add j = ⟨w.heap.size, j, none⟩ := by simp [Addr.add]; try (intro h; exact h.symm)
  rw [e, h2]
  simpa using h

theorem own_base {w : World} {B N e n : Nat} {v : Value} {xs : List Value} (h : w.ownsRow B e 1 v n xs) (hb : N ≤ B) : w.ownsRow N e 1 v n xs := by
  refine ⟨h.1, ?_⟩
  rcases h.2 with hn | ⟨g, cap, cur, rfl, h1, h2, h3⟩
  · exact .inl hn
  · exact .inr ⟨g, cap, cur, rfl, by omega, h2, h3⟩

theorem OwnSt.beh1 {w0 wr w2 : World} {N j n : Nat} {r : Nat → Nat} {v : Nat → Value} {LL : Nat → List Int} {vo vb vo' : Value} {ys : List Value} {cs : Array Value} {T : TypeId} (h : OwnSt w0 N j r v LL vo vb wr)
    (ha : Appended (wr.alloc (.cells cs T)) N 27 vo j n ys vo' w2) : w2.ownsRow N 32 1 vb (2 * j) (behL r j) ∧ N ≤ w2.heap.size := by
  refine ⟨own_appended (m := 0) (v' := vb) h.beh h.own (by decide) ha.2.1, ?_⟩
  have := ha.2.1.size
  have := h.nw
  simp at *
  omega

/-- The round's end. -/
theorem OwnSt.round {w0 wo wr w2 w3 : World} {N j : Nat} {r : Nat → Nat} {v : Nat → Value} {LL : Nat → List Int} {vo vb vo' vb' vR : Value} {zs : List Int} (h : OwnSt w0 N j r v LL vo vb wo)
    {l : Nat} (hl : l ≤ 1048576) (hR : Ris wo wo.heap.size wo.heap.size (accs zs l) vR wr)
    (h1 : Appended (wr.alloc (.cells #[.pointer (some ⟨wo.heap.size, 0, none⟩)] 27)) N 27 vo j 1 (ptrs r j ++ [.pointer (some ⟨wo.heap.size, 0, none⟩)]) vo' w2)
    (h2 : Appended (w2.alloc (.cells #[ptrV wo.heap.size, .nilIface] 32)) N 32 vb (2 * j) 2 (behL r j ++ [ptrV wo.heap.size, .nilIface]) vb' w3) :
    ∃ r' v' LL', OwnSt w0 N (j + 1) r' v' LL' vo' vb' w3 :=
  ⟨_, _, _, (h.below hR.low).add hR.blk (own_base hR.own h.nw) ⟨by rw [accs_length]; omega, accs_bound hl⟩ (fun i hi => Nat.ne_of_lt (Array.getElem?_eq_some_iff.1 (h.src i hi)).1) h.nw h1 h2⟩
/-- What is owned is a slice. -/
theorem own_slice {w : World} {B e n : Nat} {v : Value} {xs : List Value} (h : w.ownsRow B e 1 v n xs) : ∃ ao c, v = .slice ao n c := by
  rcases h.2 with ⟨rfl, rfl⟩ | ⟨g, cap, cur, rfl, _⟩
  · exact ⟨_, _, rfl⟩
  · exact ⟨_, _, rfl⟩

/-- What is owned can be appended. -/
theorem own_src {w : World} {B e n : Nat} {v : Value} {xs : List Value} (h : w.ownsRow B e 1 v n xs) (h1 : ∀ u ∈ xs, u.oneCell' = true) : SrcOf w v n xs := by
  have hl := h.1
  refine ⟨by omega, h1, ?_⟩
  rcases h.2 with ⟨rfl, rfl⟩ | ⟨g, cap, cur, rfl, _⟩
  · exact .inl ⟨rfl, rfl⟩
  · exact .inr ⟨⟨g, 0, none⟩, cap, rfl, fun j u hu => h.cells (g := g) rfl j u hu⟩

theorem wait_empty' (b : Nat) (ao : Option Addr) (c : Nat) (s : Value) (Q tries way : Int) (h1 : 1 ≤ way) (h3 : way ≤ 3) (w : World) (hc : w.cell? ⟨b, 0, none⟩ = some (.slice ao 0 c)) :
    Calls Try.prog 11 #[.pointer (some ⟨b, 0, none⟩), s, .int .i64 Q, .int .i64 tries, .int .i64 way] w fun e w' => e = .returned (.tuple #[.int .i64 0, .int .i64 6]) ∧ w = w' := by
  go_enter Try.func11, Try.ntmps11
  go_wp2
  go_ret2
  exact ⟨rfl, rfl⟩
theorem limit_empty' (b : Nat) (ao : Option Addr) (c : Nat) (s : Value) (w : World) (hc : w.cell? ⟨b, 0, none⟩ = some (.slice ao 0 c)) : Calls Try.prog 12 #[.pointer (some ⟨b, 0, none⟩), s] w fun e w' => e = .returned (.int .i64 (-1)) ∧ w = w' := by
  go_enter Try.func12, Try.ntmps12
  go_wp2
  go_ret
  exact ⟨rfl, rfl⟩
theorem own_src0 {w : World} {B e : Nat} {v : Value} {xs : List Value} (h : w.ownsRow B e 1 v 0 xs) (W : World) : SrcOf W v 0 [] := by
  refine ⟨rfl, by simp, ?_⟩
  rcases h.2 with ⟨rfl, _⟩ | ⟨g, cap, cur, rfl, _⟩
  · exact .inl ⟨rfl, rfl⟩
  · exact .inr ⟨⟨g, 0, none⟩, cap, rfl, by simp⟩
theorem own_lit0 (w : World) {N : Nat} (hN : N ≤ w.heap.size) : (w.alloc (.cells #[] 32)).ownsRow N 32 1 (.slice (some ⟨w.heap.size, 0, none⟩) 0 0) 0 [] := by
  have := World.ownsRow_lit (base := N) (e := 32) (size := 1) w #[] 0 (by omega) (by decide) rfl
  simpa using this
end Go.Proofs.Ytimkkeomdkbcjaa
