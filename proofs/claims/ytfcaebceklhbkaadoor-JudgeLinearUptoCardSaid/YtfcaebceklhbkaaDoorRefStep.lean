/-
  The contract of the document's search.on.
-/
import Derived.Test.YtfcaebceklhbkaaDoorRefOn
import Derived.Deep.DeepCutAuto
import Derived.Deep.LoopGhost
namespace Go.Proofs.YtfcaebceklhbkaaDoor
open Go.RowKit
set_option linter.unusedVariables false

/-- What the search stands on. -/
structure RIn (w0 : World) (sb nb : Nat) (o : Int) (ao : Option Addr) (n co : Nat) (S : List Cl) (r : Nat) (W : World) (V : Nat → Value) (D : Nat → List (Value × List Int)) (d : Nat) (v : Value) (s : List Int) : Prop where
  low : Below w0.heap.size w0 W
  st : QSt w0.heap.size sb nb n o (.slice ao n co) S V D W
  left : pc n d + r = n
  dlt : d < 2 ^ n
  ok : StK w0.heap.size W v s
  len : s.length + r ≤ 3000000
  bound : ∀ e, e < 2 ^ n → pc n d ≤ pc n e → (D e).length + 12 ^ (pc n e - pc n d) ≤ 12 ^ pc n e
/-- How much longer the rows may be. -/
def grw (n d e : Nat) : Nat := if pc n d ≤ pc n e then 12 ^ (pc n e - pc n d) else 0
/-- What the search leaves. -/
def ROut (w0 : World) (sb nb : Nat) (o : Int) (ao : Option Addr) (n co : Nat) (S : List Cl) (r : Nat) (W : World) (D : Nat → List (Value × List Int)) (d : Nat) (s : List Int) (e : Ending) (w' : World) : Prop :=
  ∃ V' D', FK w0.heap.size W w' ∧ QSt w0.heap.size sb nb n o (.slice ao n co) S V' D' w' ∧ (∀ e, e < 2 ^ n → (D' e).length ≤ (D e).length + grw n d e) ∧
    match srch o S r d s with
    | some l => ∃ lv, e = .returned (.tuple #[lv, .bool true]) ∧ w'.ownsRow W.heap.size 3 1 lv l.length (ordV l)
    | none => e = .returned (.tuple #[.slice none 0 0, .bool false])

/-- Ahead of the k-th round. -/
structure RLp (N sb nb n : Nat) (o : Int) (cv : Value) (S : List Cl) (W : World) (D : Nat → List (Value × List Int)) (r d : Nat) (s : List Int) (k : Nat) (V' : Nat → Value) (D' : Nat → List (Value × List Int)) (wr : World) : Prop where
  fk : FK N W wr
  st : QSt N sb nb n o cv S V' D' wr
  none' : upTo o S r d s k = none
  grow : ∀ e, e < 2 ^ n → (D' e).length ≤ (D e).length + (if pc n d < pc n e then k * 12 ^ (pc n e - pc n d - 1) else 0)
theorem RLp.next {N sb nb n : Nat} {o : Int} {cv : Value} {S : List Cl} {W : World} {D : Nat → List (Value × List Int)} {r d : Nat} {s : List Int} {k : Nat} {V' : Nat → Value} {D' : Nat → List (Value × List Int)} {wr wr' : World}
    (h : RLp N sb nb n o cv S W D r d s k V' D' wr) (hN : N ≤ wr.heap.size) (hb : Below wr.heap.size wr wr') (hs : stepF o S r d s k = none) : RLp N sb nb n o cv S W D r d s (k + 1) V' D' wr' := by
  refine ⟨h.fk.trans (FK.below hb hN), h.st.below hb, by rw [upTo_succ h.none', hs], fun e he => ?_⟩
  have := h.grow e he
  split at this
  · rename_i hc
    rw [if_pos hc, Nat.add_mul]
    omega
  · rename_i hc
    rw [if_neg hc]
    exact this
/-- The call within the k-th round. -/
theorem RLp.go {w0 : World} {sb nb n co : Nat} {o : Int} {ao : Option Addr} {S : List Cl} {W : World} {V D : _} {r d : Nat} {v : Value} {s : List Int} {k : Nat} {V' : Nat → Value} {D' : Nat → List (Value × List Int)} {wr : World}
    (hin : RIn w0 sb nb o ao n co S (r + 1) W V D d v s) (h : RLp w0.heap.size sb nb n o (.slice ao n co) S W D r d s k V' D' wr) (hk : k < n) (hn : n ≤ 12) (hb : d.testBit k = false) {v' : Value} {s' : List Int} (hv : StK w0.heap.size wr v' s') (hs : s'.length ≤ s.length + 1) :
    RIn w0 sb nb o ao n co S r wr V' D' (d ||| 1 <<< k) v' s' := by
  have hpc := pc_step hk hb
  have hlt : d ||| 1 <<< k < 2 ^ n := Nat.or_lt_two_pow hin.dlt (by rw [Nat.one_shiftLeft]; exact Nat.pow_lt_pow_right (by omega) hk)
  refine ⟨hin.low.trans (h.fk.1.mono (Nat.le_refl _)), h.st, by have := hin.left; omega, hlt, hv, by have := hin.len; omega, fun e he hpe => ?_⟩
  rw [hpc] at hpe ⊢
  have h1 := h.grow e he
  have h2 := hin.bound e he (by omega)
  rw [if_pos (by omega)] at h1
  have e1 : pc n e - (pc n d + 1) = pc n e - pc n d - 1 := by omega
  have e2 : 12 ^ (pc n e - pc n d) = 12 ^ (pc n e - pc n d - 1) * 12 := by rw [← Nat.pow_succ]; congr 1; omega
  rw [e1]
  have h3 : k * 12 ^ (pc n e - pc n d - 1) + 12 ^ (pc n e - pc n d - 1) ≤ 12 ^ (pc n e - pc n d) := by
    rw [e2, Nat.mul_comm _ 12, ← Nat.succ_mul]
    exact Nat.mul_le_mul_right _ (by omega)
  omega
theorem grw_step {n d k e : Nat} (hk : k < n) (hb : d.testBit k = false) : grw n (d ||| 1 <<< k) e = if pc n d < pc n e then 12 ^ (pc n e - pc n d - 1) else 0 := by
  unfold grw
  rw [pc_step hk hb]
  by_cases h : pc n d < pc n e
  · rw [if_pos (by omega), if_pos h, show pc n e - (pc n d + 1) = pc n e - pc n d - 1 by omega]
  · rw [if_neg (by omega), if_neg h]
/-- Behind a call that has found none. -/
theorem RLp.back {w0 : World} {sb nb n co : Nat} {o : Int} {ao : Option Addr} {S : List Cl} {W : World} {D : Nat → List (Value × List Int)} {r d : Nat} {s : List Int} {k : Nat} {V' V2 : Nat → Value} {D' D2 : Nat → List (Value × List Int)} {wr w2 : World}
    (h : RLp w0.heap.size sb nb n o (.slice ao n co) S W D r d s k V' D' wr) (hk : k < n) (hb : d.testBit k = false) (hf : FK w0.heap.size wr w2) (hq : QSt w0.heap.size sb nb n o (.slice ao n co) S V2 D2 w2)
    (hg : ∀ e, e < 2 ^ n → (D2 e).length ≤ (D' e).length + grw n (d ||| 1 <<< k) e) (hs : stepF o S r d s k = none) : RLp w0.heap.size sb nb n o (.slice ao n co) S W D r d s (k + 1) V2 D2 w2 := by
  refine ⟨h.fk.trans hf, hq, by rw [upTo_succ h.none', hs], fun e he => ?_⟩
  have h1 := h.grow e he
  have h2 := hg e he
  rw [grw_step hk hb] at h2
  by_cases hc : pc n d < pc n e
  · rw [if_pos hc] at h1 h2 ⊢
    rw [Nat.add_mul]
    omega
  · rw [if_neg hc] at h1 h2 ⊢
    omega
/-- Behind a call that has found one. -/
theorem RLp.found {w0 : World} {sb nb n co : Nat} {o : Int} {ao : Option Addr} {S : List Cl} {W : World} {D : Nat → List (Value × List Int)} {r d : Nat} {s : List Int} {k : Nat} {V' : Nat → Value} {D' D2 : Nat → List (Value × List Int)} {wr : World}
    (h : RLp w0.heap.size sb nb n o (.slice ao n co) S W D r d s k V' D' wr) (hk : k < n) (hn : n ≤ 12) (hb : d.testBit k = false) (hg : ∀ e, e < 2 ^ n → (D2 e).length ≤ (D' e).length + grw n (d ||| 1 <<< k) e) : ∀ e, e < 2 ^ n → (D2 e).length ≤ (D e).length + grw n d e := by
  intro e he
  have h1 := h.grow e he
  have h2 := hg e he
  rw [grw_step hk hb] at h2
  unfold grw
  by_cases hc : pc n d < pc n e
  · rw [if_pos hc] at h1 h2
    rw [if_pos (by omega)]
    have e2 : 12 ^ (pc n e - pc n d) = 12 ^ (pc n e - pc n d - 1) * 12 := by rw [← Nat.pow_succ]; congr 1; omega
    have h3 : k * 12 ^ (pc n e - pc n d - 1) + 12 ^ (pc n e - pc n d - 1) ≤ 12 ^ (pc n e - pc n d) := by
      rw [e2, Nat.mul_comm _ 12, ← Nat.succ_mul]
      exact Nat.mul_le_mul_right _ (by omega)
    omega
  · rw [if_neg hc] at h1 h2
    omega
/-- At the end of all rounds: what is dead is laid. -/
theorem RLp.last {w0 : World} {sb nb n co : Nat} {o : Int} {ao : Option Addr} {S : List Cl} {W : World} {V D : _} {r d : Nat} {v : Value} {s : List Int} {V' : Nat → Value} {D' : Nat → List (Value × List Int)} {wr : World}
    (hin : RIn w0 sb nb o ao n co S (r + 1) W V D d v s) (h : RLp w0.heap.size sb nb n o (.slice ao n co) S W D r d s n V' D' wr) (hn : n ≤ 12) (hSn : S.length = n) :
    srch o S (r + 1) d s = none ∧ (D' d).length + 1 ≤ 12 ^ 11 ∧ ∀ e, e < 2 ^ n → ((if e = d then D' d ++ [(v, s)] else D' e) : List (Value × List Int)).length ≤ (D e).length + grw n d e := by
  refine ⟨by rw [srch_succ, hSn]; exact h.none', ?_, fun e he => ?_⟩
  · have h1 := h.grow d hin.dlt
    rw [if_neg (by omega)] at h1
    have h2 := hin.bound d hin.dlt (Nat.le_refl _)
    have h3 : 12 ^ pc n d ≤ 12 ^ 11 := Nat.pow_le_pow_right (by omega) (by have := hin.left; omega)
    rw [Nat.sub_self, Nat.pow_zero] at h2
    omega
  · have h1 := h.grow e he
    unfold grw
    by_cases hc : pc n d < pc n e
    · rw [if_pos hc] at h1
      have hne : e ≠ d := by intro x; subst x; omega
      rw [if_neg hne, if_pos (by omega)]
      have e2 : 12 ^ (pc n e - pc n d) = 12 ^ (pc n e - pc n d - 1) * 12 := by rw [← Nat.pow_succ]; congr 1; omega
      have h3 : n * 12 ^ (pc n e - pc n d - 1) ≤ 12 ^ (pc n e - pc n d) := by
        rw [e2, Nat.mul_comm _ 12]
        exact Nat.mul_le_mul_right _ hn
      omega
    · rw [if_neg hc] at h1
      by_cases hed : e = d
      · subst hed
        rw [if_pos rfl, if_pos (Nat.le_refl _)]
        simp
        omega
      · rw [if_neg hed]
        omega
theorem info22 : (Tryd.prog.info? 22).map (fun i => (i.zero, i.size, i.bytes)) = some (some (.slice none 0 0), 1, 24) := by kernel_rfl

set_option maxRecDepth 100000 in
set_option maxHeartbeats 8000000 in
theorem refOn_last (w0 : World) (sb nb : Nat) (o : Int) (ao : Option Addr) (n co : Nat) (S : List Cl) (W : World) (V : Nat → Value) (D : Nat → List (Value × List Int)) (d : Nat) (v : Value) (s : List Int) (h : RIn w0 sb nb o ao n co S 0 W V D d v s) (hn : n ≤ 12) :
    Calls Tryd.prog 49 #[.pointer (some ⟨sb, 0, none⟩), .int .i64 d, v, .int .i64 (pc n d : Nat)] W (ROut w0 sb nb o ao n co S 0 W D d s) := by
  have HIN := Lib.hid h
  have s1 := (cell_of h.st.sbk 1).trans rfl
  have hpc : pc n d = n := by have := h.left; omega
  rw [hpc]
  clear h hpc
  go_enter Tryd.func49, Tryd.ntmps49
  go_wp2_with fail
  go_ret2
  refine ⟨V, D, FK.refl _ _, HIN.out.st, fun e he => by omega, ?_⟩
  show ∃ lv, _
  exact ⟨_, rfl, World.ownsRow_nil _ _ _ _⟩
end Go.Proofs.YtfcaebceklhbkaaDoor
