/-
  The contract of the barrier's Limit over sources of the statement's own: the least of the numbers that the sources tell, each loaded once.
-/
import Derived.Test.YtimkkeomdkbcjaaLoad
namespace Go.Proofs.Ytimkkeomdkbcjaa
open Go.RowKit
set_option linter.unusedVariables false
variable {Y : Lay} {al : Bool} {a : Nat → Nat} {n : Nat} {w : World}

/-- The least of f 0 .. f j. -/
def lim (f : Nat → Int) : Nat → Int
  | 0 => f 0
  | j + 1 => if f (j + 1) < lim f j then f (j + 1) else lim f j
/-- The first j sources have been loaded once more. -/
def bump (a : Nat → Nat) (j : Nat) : Nat → Nat := fun i => if i < j then a i + 1 else a i
/-- What source i tells next. -/
def next (Y : Lay) (a : Nat → Nat) (i : Nat) : Int := told (Y.L i) (a i + 1)

theorem bump_succ (a : Nat → Nat) (j : Nat) : (fun i => if i = j then bump a j j + 1 else bump a j i) = bump a (j + 1) := by
  funext i
  simp only [bump, Nat.lt_irrefl, if_false]
  by_cases e : i = j
  · subst e; simp
  · simp only [e, if_false]
    by_cases l : i < j
    · simp [l, show i < j + 1 by omega]
    · simp [l, show ¬ i < j + 1 by omega]
theorem bump_at (a : Nat → Nat) (j : Nat) : bump a j j = a j := by simp [bump]
theorem bump_zero (a : Nat → Nat) : bump a 0 = a := by funext i; simp [bump]

theorem arr_cell (h : Mem Y al a n w) {i : Nat} (hi : i < Y.k) : w.cell? ⟨Y.sa, i, none⟩ = some (.iface 27 (.pointer (some ⟨Y.r i, 0, none⟩))) := by
  obtain ⟨cs, h1, h2⟩ := h.arr (by omega)
  rw [cell_of h1, h2 i hi]
theorem bar_cell (h : Mem Y al a n w) (hk : 0 < Y.k) : w.cell? ⟨Y.bb, 0, none⟩ = some (.slice (some ⟨Y.sa, 0, none⟩) Y.k Y.cap) := by rw [cell_of h.bar, ← h.sl hk]; rfl

/-- One source is asked, behind j others. -/
theorem load_next {j : Nat} (h : Mem Y al (bump a j) n w) (q : Bool) (hj : j < Y.k) (ha : a j ≤ 1000000000000000) (hn : n ≤ 1000000000000000) :
    Calls Try.prog 87 #[.pointer (some ⟨Y.r j, 0, none⟩), sv Y q] w (Done Y (.int .i64 (next Y a j)) al (bump a (j + 1)) (n + inc q) w) := by
  have := loadM h q hj (by rw [bump_at]; exact ha) hn
  rw [bump_at] at this
  rw [← bump_succ, bump_at]
  exact this

theorem limit_one (h : Mem Y al a n w) (q : Bool) (hk : Y.k = 1) (ha : a 0 ≤ 1000000000000000) (hn : n ≤ 1000000000000000) :
    Calls Try.prog 12 #[.pointer (some ⟨Y.bb, 0, none⟩), sv Y q] w (Done Y (.int .i64 (lim (next Y a) 0)) al (bump a 1) (n + inc q) w) := by
  have hb := bar_cell h (by omega)
  have hs := arr_cell h (i := 0) (by omega)
  have hc := h.kc
  have L0 := Lib.hid (load_next (j := 0) ((bump_zero a).symm ▸ h) q (by omega) ha hn)
  have HK := Lib.hid hk
  rw [hk] at hb hc
  have hm := method_rising
  clear h hk
  generalize sv Y q = s at *
  show Calls _ _ _ _ (Done Y (.int .i64 (next Y a 0)) _ _ _ _)
  by_cases hc1 : Y.cap = 1
  · have HC := Lib.hid hc1
    rw [hc1] at hb
    clear hc1 hc
    go_enter Try.func12, Try.ntmps12
    go_wp2_with (go_at_call 87; refine L0.out.mono ?_; rintro e w1 ⟨rfl, h1, hb1⟩; have hb' := bar_cell h1 (by rw [HK.out]; omega); rw [HK.out, HC.out] at hb'; have H1 := Lib.hid h1; clear h1)
    refine wp_loop_rounds 1 ?_
    rw [rounds_succ]
    go_wp2
    go_ret
    exact ⟨rfl, H1.out, hb1⟩
  · have hc2 : 2 ≤ Y.cap := by omega
    generalize hg : Y.cap = cap at *
    have HC := Lib.hid hg
    clear hc1 hc hg
    go_enter Try.func12, Try.ntmps12
    go_wp2_with (go_at_call 87; refine L0.out.mono ?_; rintro e w1 ⟨rfl, h1, hb1⟩; have hb' := bar_cell h1 (by rw [HK.out]; omega); rw [HK.out, HC.out] at hb'; have H1 := Lib.hid h1; clear h1)
    refine wp_loop_rounds 1 ?_
    rw [rounds_succ]
    go_wp2
    go_ret
    exact ⟨rfl, H1.out, hb1⟩

theorem lim_min (f : Nat → Int) (j : Nat) : (if f (j + 1) < lim f j then f (j + 1) else lim f j) = lim f (j + 1) := rfl

set_option maxHeartbeats 1000000 in
theorem limit_many (h : Mem Y al a n w) (q : Bool) (hk : 2 ≤ Y.k) (ha : ∀ i, i < Y.k → a i ≤ 1000000000000000) (hn : n + Y.k ≤ 1000000000000000) :
    Calls Try.prog 12 #[.pointer (some ⟨Y.bb, 0, none⟩), sv Y q] w (Done Y (.int .i64 (lim (next Y a) (Y.k - 1))) al (bump a Y.k) (n + Y.k * inc q) w) := by
  have hb := bar_cell h (by omega)
  have hs := arr_cell h (i := 0) (by omega)
  have hc := h.kc
  have hkk := h.kk
  have L0 := Lib.hid (load_next (j := 0) ((bump_zero a).symm ▸ h) q (by omega) (ha 0 (by omega)) (by omega))
  have hm := method_rising
  have HN : Hid (∀ (j : Nat) (m : Nat) (w' : World), j < Y.k → m ≤ 1000000000000000 → Mem Y al (bump a j) m w' → Calls Try.prog 87 #[.pointer (some ⟨Y.r j, 0, none⟩), sv Y q] w' (Done Y (.int .i64 (next Y a j)) al (bump a (j + 1)) (m + inc q) w')) :=
    fun j m w' hj hm h' => load_next h' q hj (ha j hj) hm
  have hi : inc q ≤ 1 := by cases q <;> simp [inc]
  have HI := Lib.hid hi
  have HA := Lib.hid ha
  clear h ha hi
  generalize hsv : sv Y q = s at *
  clear hsv
  generalize hf : next Y a = f at *
  generalize hin : inc q = d at *
  clear hin hf
  generalize hkg : Y.k = k at *
  have HK := Lib.hid hkg
  clear hkg
  have hc2 : 2 ≤ Y.cap := by omega
  generalize hg : Y.cap = cap at *
  have HC := Lib.hid hg
  clear hg
  go_enter Try.func12, Try.ntmps12
  go_wp2_with (go_at_call 87; refine L0.out.mono ?_; rintro e w1 ⟨rfl, h1, hb1⟩; have hb' := bar_cell h1 (by rw [HK.out]; omega); rw [HK.out, HC.out] at hb'; have H1 := Lib.hid h1; clear h1)
  have hb2 := Lib.hid hb1
  clear hb1
  go_loopw [5, 32] (fun v i wr => ∃ j : Nat, j ≤ k - 1 ∧ i = .int .i64 j ∧ v = .int .i64 (lim f j) ∧ Mem Y al (bump a (j + 1)) (n + (j + 1) * d) wr ∧ Below Y.N w wr) (fun _ i _ => k - (intOf i).toNat)
  case atStart => exact ⟨0, by omega, rfl, rfl, by rw [Nat.zero_add, Nat.one_mul]; exact H1.out, hb2.out⟩
  case round =>
    obtain ⟨j, hj, rfl, rfl, hM, hB⟩ := hrel
    have H3 := Lib.hid hM
    have B3 := Lib.hid hB
    clear hM hB
    by_cases hlt : j < k - 1
    · have hcell : wr.cell? ⟨Y.sa, 1 + j, none⟩ = some (.iface 27 (.pointer (some ⟨Y.r (j + 1), 0, none⟩))) := by
        rw [Nat.add_comm 1 j]; exact arr_cell H3.out (i := j + 1) (by rw [HK.out]; omega)
      have hmul : (j + 1) * d ≤ j + 1 := by
        have := Nat.mul_le_mul_left (j + 1) HI.out
        omega
      have LN := Lib.hid (HN.out (j + 1) _ wr (by omega) (by omega) H3.out)
      have HE := Lib.hid (lim_min f j)
      go_wp2_with (go_at_call 87; refine LN.out.mono ?_; rintro e w2 ⟨rfl, h2, hb3⟩; have H4 := Lib.hid h2; have B4 := Lib.hid hb3; clear h2 hb3)
      all_goals
        go_roundw
        case rel => exact ⟨j + 1, by omega, by go_num, by rw [← HE.out], by have := H4.out; rw [show n + (j + 1 + 1) * d = n + (j + 1) * d + d by rw [Nat.succ_mul (j + 1)]; omega]; exact this, B3.out.trans B4.out⟩
        case measure => simp [intOf]; omega
    · obtain rfl : j = k - 1 := by omega
      go_wp2
      go_ret
      refine ⟨rfl, ?_, B3.out⟩
      have := H3.out
      rw [show k - 1 + 1 = k by omega] at this
      exact this
end Go.Proofs.Ytimkkeomdkbcjaa
