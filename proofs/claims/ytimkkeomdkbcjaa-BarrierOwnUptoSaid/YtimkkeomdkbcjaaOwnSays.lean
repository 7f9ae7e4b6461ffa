/-
  BarrierOwn: what a wait's answers say of loads, tries and steps; the cells that the last loop reads.
-/
import Derived.Test.YtimkkeomdkbcjaaOwnMem
namespace Go.Proofs.Ytimkkeomdkbcjaa
open Go.RowKit
set_option linter.unusedVariables false
variable {Y : Lay} {w : World}

def WaitSays (K : Nat) (Q tries way x c : Int) (S n : Nat) : Prop :=
  ((c = 0 ∧ Q ≤ x) ∨ (c = 4 ∧ x = 0)) ∧ S ≤ 1000000 ∧ n ≤ 100000000 ∧
  (way = 1 → ∃ d : Nat, 1 ≤ d ∧ d ≤ clamp tries ∧ S = K * d ∧ n = S + d ∧ (c ≠ 0 → d = clamp tries)) ∧
  (way = 2 → n = 2 * S ∧ S ≤ clamp tries ∧ (c ≠ 0 → S = clamp tries)) ∧
  (way = 3 → ∃ d : Nat, 1 ≤ d ∧ d ≤ clamp tries ∧ S = K * d ∧ n = S + (d + 7) / 8 ∧ (c ≠ 0 → d = clamp tries))

theorem clamp_rng (t : Int) : 1 ≤ clamp t ∧ clamp t ≤ 1024 := by
  unfold clamp
  split
  · omega
  · split <;> omega
theorem clamp_int (t : Int) : min (max t 1) 1024 = (clamp t : Int) := by
  unfold clamp
  split
  · omega
  · split <;> omega

theorem sumN_zero (k : Nat) : sumN (fun _ => 0) k = 0 := by
  induction k with
  | zero => rfl
  | succ k ih => simp [sumN, ih]

theorem wait_says (h : Mem Y false (fun _ => 0) 0 w) (hk : 1 ≤ Y.k) (hk5 : Y.k ≤ 5) (Q tries way : Int) (hw : way = 1 ∨ way = 2 ∨ way = 3) :
    Calls Try.prog 11 #[.pointer (some ⟨Y.bb, 0, none⟩), sv Y true, .int .i64 Q, .int .i64 tries, .int .i64 way] w fun e w' =>
      ∃ (x c : Int) (a : Nat → Nat) (n : Nat), e = .returned (.tuple #[.int .i64 x, .int .i64 c]) ∧ Mem Y false a n w' ∧ Below Y.N w w' ∧ WaitSays Y.k Q tries way x c (sumN a Y.k) n := by
  have hcl := clamp_rng tries
  have hsz : ∀ d : Nat, d ≤ clamp tries → Y.k * d ≤ 5120 := fun d hd => Nat.le_trans (Nat.mul_le_mul hk5 (show d ≤ 1024 by omega)) (by decide)
  rcases hw with rfl | rfl | rfl
  · refine (wait_eager h true hk (by omega) Q tries (by simp) (by omega)).mono ?_
    rintro e w' ⟨rfl, hM, hb⟩
    obtain ⟨d, h1, _, h3, h4, h5⟩ := waitR_spec (Y := Y) false Q (clamp tries) 0 0 (fun _ => 0)
    have hS : sumN (waitR Y false Q (clamp tries) 0 0 (fun _ => 0)).2.2.1 Y.k = Y.k * d := sumN_const (fun x hx => by rw [h3 x hx]; omega)
    rw [looks_eager] at h4
    have := hsz d h1
    have hc : d * Y.k = Y.k * d := Nat.mul_comm _ _
    refine ⟨_, _, _, _, rfl, hM, hb, ?_, by rw [hS]; omega, by rw [h4]; simp only [inc, if_true]; omega, fun _ => ⟨d, ?_, h1, hS, ?_, ?_⟩, fun h => by omega, fun h => by omega⟩
    · rcases h5 with ⟨_, h6, h7⟩ | ⟨_, h6, h7⟩
      · exact .inl ⟨h6, h7⟩
      · exact .inr ⟨h6, h7⟩
    · rcases h5 with ⟨h6, _⟩ | ⟨h6, _⟩ <;> omega
    · rw [h4, hS]; simp only [inc, if_true]; omega
    · intro hc0
      rcases h5 with ⟨_, h6, _⟩ | ⟨h6, _⟩
      · exact absurd h6 hc0
      · exact h6
  · refine (wait_lean h true hk Q tries (by simp) (by omega)).mono ?_
    rintro e w' ⟨rfl, hM, hb⟩
    obtain ⟨c, h1, h2, h3, _, h5⟩ := leanR_spec (Y := Y) Q (clamp tries) 0 0 0 (fun _ => 0) (by omega) (.inl rfl)
    rw [sumN_zero] at h3
    refine ⟨_, _, _, _, rfl, hM, hb, ?_, by rw [h3]; omega, by rw [h2]; simp only [inc, if_true]; omega, fun h => by omega, fun _ => ⟨?_, by rw [h3]; omega, ?_⟩, fun h => by omega⟩
    · rcases h5 with ⟨h6, h7⟩ | ⟨_, h6, h7⟩
      · exact .inl ⟨h6, h7⟩
      · exact .inr ⟨h6, h7⟩
    · rw [h2, h3]; simp only [inc, if_true]; omega
    · intro hc0
      rcases h5 with ⟨h6, _⟩ | ⟨h6, _⟩
      · exact absurd h6 hc0
      · rw [h3]; omega
  · refine (wait_rare h true hk (by omega) Q tries (by simp) (by omega)).mono ?_
    rintro e w' ⟨rfl, hM, hb⟩
    obtain ⟨d, h1, _, h3, h4, h5⟩ := waitR_spec (Y := Y) true Q (clamp tries) 0 0 (fun _ => 0)
    have hS : sumN (waitR Y true Q (clamp tries) 0 0 (fun _ => 0)).2.2.1 Y.k = Y.k * d := sumN_const (fun x hx => by rw [h3 x hx]; omega)
    rw [looks_rare] at h4
    have := hsz d h1
    have hc : d * Y.k = Y.k * d := Nat.mul_comm _ _
    refine ⟨_, _, _, _, rfl, hM, hb, ?_, by rw [hS]; omega, by rw [h4]; simp only [inc, if_true]; omega, fun h => by omega, fun h => by omega, fun _ => ⟨d, ?_, h1, hS, ?_, ?_⟩⟩
    · rcases h5 with ⟨_, h6, h7⟩ | ⟨_, h6, h7⟩
      · exact .inl ⟨h6, h7⟩
      · exact .inr ⟨h6, h7⟩
    · rcases h5 with ⟨h6, _⟩ | ⟨h6, _⟩ <;> omega
    · rw [h4, hS]; simp only [inc, if_true]; omega
    · intro hc0
      rcases h5 with ⟨_, h6, _⟩ | ⟨h6, _⟩
      · exact absurd h6 hc0
      · exact h6

/-- What the last loop reads. -/
theorem memK_cells {N bb sb sa k cap g9 n : Nat} {r c : Nat → Nat} {ao : Nat → Option Addr} {L : Nat → List Int} {cur9 : Array Value} {al : Bool} {a : Nat → Nat} (h : Mem (layK N bb sb sa k cap r ao c L g9 cur9) al a n w)
    (h9 : ∀ x, x < k → cur9[x]? = some (.pointer (some ⟨r x, 0, none⟩))) :
    (∀ x, x < k → w.cell? ⟨g9, x, none⟩ = some (.pointer (some ⟨r x, 0, none⟩)) ∧ w.cell? ⟨r x, 1, none⟩ = some (.int .i64 (a x))) ∧ w.cell? ⟨sb, 0, none⟩ = some (.int .i64 n) := by
  refine ⟨fun x hx => ⟨?_, ?_⟩, ?_⟩
  · rw [cell_of (h.kept g9 cur9 rfl)]; exact h9 x hx
  · exact (cell_of (h.src x hx) 1).trans rfl
  · exact (cell_of h.steps 0).trans rfl
theorem layK_k (N bb sb sa k cap : Nat) (r c : Nat → Nat) (ao : Nat → Option Addr) (L : Nat → List Int) (g9 : Nat) (cur9 : Array Value) : (layK N bb sb sa k cap r ao c L g9 cur9).k = k := rfl

theorem own9 {w : World} {N K g9 c9 : Nat} {r : Nat → Nat} {cur : Array Value} (h : w.ownsRow N 27 1 (.slice (some ⟨g9, 0, none⟩) K c9) K (ptrs r K)) (hg : w.heap[g9]? = some (.cells cur 27 (0, 0))) : ∀ x, x < K → cur[x]? = some (.pointer (some ⟨r x, 0, none⟩)) := by
  intro x hx
  have := h.cells (g := g9) rfl x (.pointer (some ⟨r x, 0, none⟩)) (by simp [ptrs, List.getElem?_range hx])
  rwa [addr_add, cell_of hg, Nat.zero_add] at this
/-- What a wait says, whatever its way. -/
def Says (K : Nat) (Q tries way x c : Int) (S n : Nat) : Prop :=
  ((way < 1 ∨ 3 < way) ∧ x = 0 ∧ c = 2 ∧ S = 0 ∧ n = 0) ∨ ((way = 1 ∨ way = 2 ∨ way = 3) ∧ WaitSays K Q tries way x c S n)

theorem Says.small {K : Nat} {Q tries way x c : Int} {S n : Nat} (h : Says K Q tries way x c S n) : S ≤ 1000000 ∧ n ≤ 100000000 := by
  rcases h with ⟨_, _, _, h1, h2⟩ | ⟨_, _, h1, h2, _⟩ <;> omega

theorem says_any {W : World} {N bb sb sa K cap g9 : Nat} {r c : Nat → Nat} {ao : Nat → Option Addr} {L : Nat → List Int} {cur9 : Array Value} (hK : 1 ≤ K) (hK5 : K ≤ 5) (h : Mem (layK N bb sb sa K cap r ao c L g9 cur9) false (fun _ => 0) 0 W)
    (h9 : ∀ x, x < K → cur9[x]? = some (.pointer (some ⟨r x, 0, none⟩))) (Q tries way : Int) :
    Calls Try.prog 11 #[.pointer (some ⟨bb, 0, none⟩), .iface 35 (.pointer (some ⟨sb, 0, none⟩)), .int .i64 Q, .int .i64 tries, .int .i64 way] W fun e w' =>
      ∃ (x c : Int) (a : Nat → Nat) (n : Nat), e = .returned (.tuple #[.int .i64 x, .int .i64 c]) ∧ (∀ x, x < K → w'.cell? ⟨g9, x, none⟩ = some (.pointer (some ⟨r x, 0, none⟩)) ∧ w'.cell? ⟨r x, 1, none⟩ = some (.int .i64 (a x))) ∧
        w'.cell? ⟨sb, 0, none⟩ = some (.int .i64 n) ∧ Below N W w' ∧ Says K Q tries way x c (sumN a K) n := by
  by_cases hw : way < 1 ∨ 3 < way
  · refine (wait_kind _ _ Q tries way hw W).mono ?_
    rintro e w' ⟨rfl, rfl⟩
    obtain ⟨h1, h2⟩ := memK_cells h h9
    exact ⟨_, _, fun _ => 0, 0, rfl, h1, h2, Below.refl _ _, .inl ⟨hw, rfl, rfl, sumN_zero K, rfl⟩⟩
  · refine (wait_says h hK hK5 Q tries way (by omega)).mono ?_
    rintro e w' ⟨x, c, a, n, rfl, hM, hB, hS⟩
    obtain ⟨h1, h2⟩ := memK_cells hM h9
    exact ⟨_, _, a, n, rfl, h1, h2, hB, .inr ⟨by omega, hS⟩⟩
end Go.Proofs.Ytimkkeomdkbcjaa
