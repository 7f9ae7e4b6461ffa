/-
  Merged out of: Simu1 Simu2 RefM RefQ RefT RefN. No condition of its own.
-/
import Derived.Test.YtimkkeomdkbcjaaPlaysP34
import Derived.Test.YtimkkeomdkbcjaaPlaysP23
import Derived.Test.YtimkkeomdkbcjaaPlaysP33
set_option linter.unusedVariables false
set_option linter.unusedSimpArgs false
/-
  THE PLAIN LAW of one thread: a step of the document's machine is the thread's step. No program in sight; no condition of its own.
-/
namespace Go.Proofs.Ytimkkeomdkbcjaa
open Go.ConcN renaming upd → updN
open Go.ConcN (upd_ne upd_same)
def stepB (k : Nat) (ws : List Int) (al : Bool) (t : RT) : RT × List Int × Bool :=
  if t.pc = 10 then (if al = true then endT { t with pc := 11 } (false, 5) else { t with pc := 11 }, ws, al)
  else if t.pc = 11 then (waitM t (ws.getD t.n1.toNat 0) (decide (t.n1.toNat + 1 = k)), ws, al)
  else if t.pc = 20 then (if t.n1.toNat + 1 = k then endT { t with n2 := srcN2 t (ws.getD t.n1.toNat 0), n1 := t.n1 + 1 } (true, srcN2 t (ws.getD t.n1.toNat 0)) else { t with n2 := srcN2 t (ws.getD t.n1.toNat 0), n1 := t.n1 + 1 }, ws, al)
  else if t.pc = 30 then (endT t (!al, 0), ws, true)
  else if t.pc = 40 then (endT t (al, 0), ws, false)
  else if t.pc = 50 then (endT t (al, 0), ws, al)
  else if t.pc = 60 then (endT t (true, 0), ws.set (opR t.ops t.i).a.toNat (opR t.ops t.i).b, al)
  else (endT t (true, addW (ws.getD (opR t.ops t.i).a.toNat 0) (opR t.ops t.i).b), ws.set (opR t.ops t.i).a.toNat (addW (ws.getD (opR t.ops t.i).a.toNat 0) (opR t.ops t.i).b), al)
structure StandsR (k : Nat) (t : RT) : Prop where
  n0 : 0 ≤ t.n0 ∧ t.n0 ≤ 1024
  st : ((t.pc = 10 ∨ t.pc = 11) ∧ (1 ≤ (opR t.ops t.i).c ∧ (opR t.ops t.i).c ≤ 3) ∧ t.n0 < triesR (opR t.ops t.i).b ∧ (0 ≤ t.n1 ∧ t.n1 < k) ∧ (t.pc = 10 → (opR t.ops t.i).c ≠ 2 → t.n1 = 0)) ∨
    (t.pc = 20 ∧ 0 ≤ t.n1 ∧ t.n1 < k) ∨ t.pc = 30 ∨ t.pc = 40 ∨ t.pc = 50 ∨ ((t.pc = 60 ∨ t.pc = 70) ∧ 0 ≤ (opR t.ops t.i).a ∧ (opR t.ops t.i).a < k)
theorem src_lean {t : RT} (h : 0 ≤ t.n1) (v : Int) : leanN t.n1.toNat t.n2 v = srcN2 t v := by
  unfold leanN srcN2
  by_cases hc : t.n1 = 0 ∨ v < t.n2
  · rw [if_pos hc, if_pos (by omega)]
  · rw [if_neg hc, if_neg (by omega)]
theorem src_min {t : RT} (h : 0 ≤ t.n1) (v : Int) : (if t.n1.toNat = 0 then v else min t.n2 v) = srcN2 t v := by
  unfold srcN2
  by_cases hc : t.n1 = 0
  · rw [if_pos (by omega), if_pos (.inl hc)]
  · rw [if_neg (by omega)]
    by_cases hv : v < t.n2
    · rw [if_pos (.inr hv)]; omega
    · rw [if_neg (by omega)]; omega
theorem set_fun {ws : List Int} {a : Nat} (h : a < ws.length) (x : Int) : (fun j => (ws.set a x).getD j 0) = updN (fun j => ws.getD j 0) a x := by
  funext j
  simp only [List.getD_eq_getElem?_getD]
  by_cases e : j = a
  · subst e
    rw [upd_same, List.getElem?_set_self h]
    rfl
  · rw [upd_ne _ _ e, List.getElem?_set_ne (fun z => e z.symm)]
section
variable {k i : Nat} {t : RT} {m : BM}
theorem wait_no (hk : m.an i = t.ans) (e : Int) (he : e ≠ 0) : waitW k i t 0 e m = (bM m i (beginT k (endT t (false, e))), coT k i (beginT k (endT t (false, e)))) := by
  unfold waitW waitK
  rw [if_neg he]
  exact tell_end hk _
theorem wait_yes (hk : m.an i = t.ans) (n : Int) : waitW k i t n 0 m = (bM m i (beginT k (endT t (true, n))), coT k i (beginT k (endT t (true, n)))) := by
  unfold waitW waitK
  rw [if_pos rfl]
  exact tell_end hk _
theorem over_lean (hi : t.i < t.ops.length) (ha : m.an i = t.ans) (h0 : 0 ≤ t.n0) (hT : t.n0 < triesR (opR t.ops t.i).b) (c2 : (opR t.ops t.i).c = 2) :
    leanL (waitW k i t) k (opR t.ops t.i).a (leftT t) t.n1.toNat t.n2 m = (bM m i (beginT k (overT t)), coT k i (beginT k (overT t))) := by
  unfold overT
  by_cases he : t.n0 + 1 = triesR (opR t.ops t.i).b
  · rw [if_pos he]
    have hl : leftT t = 0 := by unfold leftT; omega
    rw [hl]
    exact wait_no (t := { t with n0 := t.n0 + 1 }) ha 4 (by decide)
  · rw [if_neg he, if_pos c2, if_neg (by omega)]
    obtain ⟨r, hr⟩ : ∃ r, leftT t = r + 1 := ⟨leftT t - 1, by unfold leftT; omega⟩
    rw [hr]
    unfold leanL
    refine stand_eq (t := { t with n0 := t.n0 + 1, n1 := t.n1, pc := 10 }) hi (by simp) ha ?_
    unfold resF
    rw [if_pos rfl, if_pos c2]
    have hl : leftT { t with n0 := t.n0 + 1, n1 := t.n1, pc := 10 } = r := by
      show (triesR (opR t.ops t.i).b).toNat - 1 - (t.n0 + 1).toNat = r
      unfold leftT at hr
      omega
    unfold leanS
    rw [hl]
    rfl
theorem over_eager (hi : t.i < t.ops.length) (hk : 0 < k) (ha : m.an i = t.ans) (h0 : 0 ≤ t.n0) (hT : t.n0 < triesR (opR t.ops t.i).b) (c2 : (opR t.ops t.i).c ≠ 2) (c3 : 1 ≤ (opR t.ops t.i).c ∧ (opR t.ops t.i).c ≤ 3) :
    eagN k i t m = (bM m i (beginT k (overT t)), coT k i (beginT k (overT t))) := by
  unfold overT
  by_cases he : t.n0 + 1 = triesR (opR t.ops t.i).b
  · rw [if_pos he]
    have hl : leftT t = 0 := by unfold leftT; omega
    unfold eagN
    rw [hl]
    exact wait_no (t := { t with n0 := t.n0 + 1 }) ha 4 (by decide)
  · rw [if_neg he, if_neg c2]
    obtain ⟨r, hr⟩ : ∃ r, leftT t = r + 1 := ⟨leftT t - 1, by unfold leftT; omega⟩
    have hl : ∀ p : Int, leftT { t with n0 := t.n0 + 1, n1 := 0, pc := p } = r := fun p => by
      show (triesR (opR t.ops t.i).b).toNat - 1 - (t.n0 + 1).toNat = r
      unfold leftT at hr
      omega
    have hn : (t.n0 + 1).toNat = t.n0.toNat + 1 := by omega
    unfold eagN
    rw [hr]
    unfold eagerL
    by_cases hc : (opR t.ops t.i).c = 3 ∧ (t.n0 + 1) % 8 ≠ 0
    · rw [if_pos hc, if_neg (by
        rintro (z | z)
        · have : (opR t.ops t.i).c = 1 := by simpa using z
          omega
        · omega)]
      unfold limF
      rw [if_neg (by omega)]
      refine stand_eq (t := { t with n0 := t.n0 + 1, n1 := 0, pc := 11 }) hi (show (11 : Int) ≠ 0 by decide) ha ?_
      unfold resF
      rw [if_neg (show ¬ (11 : Int) = 10 by decide), if_pos rfl, if_neg c2]
      unfold eagN
      rw [hl]
      simp only [hn]
      rfl
    · rw [if_neg hc, if_pos (by
        by_cases z : (t.n0 + 1) % 8 = 0
        · exact .inr (by omega)
        · refine .inl ?_
          have : (opR t.ops t.i).c = 1 := by omega
          rw [this]; rfl)]
      refine stand_eq (t := { t with n0 := t.n0 + 1, n1 := 0, pc := 10 }) hi (show (10 : Int) ≠ 0 by decide) ha ?_
      unfold resF
      rw [if_pos rfl, if_neg c2]
      unfold eagN
      rw [hl]
      simp only [hn]
      rfl
end
set_option maxHeartbeats 1000000 in
theorem sim_step {k i : Nat} {t : RT} {ws : List Int} {al : Bool} {an : Nat → List (Bool × Int)} (hk : k ≤ ws.length) (hi : t.i < t.ops.length) (hs : StandsR k t) (ha : an i = t.ans) :
    resF k i t ⟨fun j => ws.getD j 0, al, an⟩ = (⟨fun j => (stepB k ws al t).2.1.getD j 0, (stepB k ws al t).2.2, updN an i (beginT k (stepB k ws al t).1).ans⟩, coT k i (beginT k (stepB k ws al t).1)) := by
  obtain ⟨⟨h0, h0'⟩, hst⟩ := hs
  rcases hst with ⟨hpc, hc3, hT, ⟨n1a, n1b⟩, hz⟩ | ⟨hpc, n1a, n1b⟩ | hpc | hpc | hpc | ⟨hpc, a0, a1⟩
  · rcases hpc with hpc | hpc
    · -- the alert
      have e : stepB k ws al t = (if al = true then endT { t with pc := 11 } (false, 5) else { t with pc := 11 }, ws, al) := by unfold stepB; rw [if_pos hpc]
      rw [e]
      unfold resF
      rw [if_pos hpc]
      cases al with
      | true =>
        rw [if_pos rfl]
        by_cases c2 : (opR t.ops t.i).c = 2
        · rw [if_pos c2]
          exact wait_no (t := t) (m := ⟨fun j => ws.getD j 0, true, an⟩) ha 5 (by decide)
        · rw [if_neg c2]
          exact wait_no (t := t) (m := ⟨fun j => ws.getD j 0, true, an⟩) ha 5 (by decide)
      | false =>
        rw [if_neg (show ¬ (false = true) by decide)]
        by_cases c2 : (opR t.ops t.i).c = 2
        · rw [if_pos c2]
          refine stand_eq (t := { t with pc := 11 }) (m := ⟨fun j => ws.getD j 0, false, an⟩) hi (show (11 : Int) ≠ 0 by decide) ha ?_
          unfold resF
          rw [if_neg (show ¬ (11 : Int) = 10 by decide), if_pos rfl, if_pos c2]
          rfl
        · rw [if_neg c2]
          show limF k (eagerG (waitW k i t) (opR t.ops t.i).a (eagN k i t)) _ = _
          unfold limF
          rw [if_neg (by omega)]
          refine stand_eq (t := { t with pc := 11 }) (m := ⟨fun j => ws.getD j 0, false, an⟩) hi (show (11 : Int) ≠ 0 by decide) ha ?_
          unfold resF
          rw [if_neg (show ¬ (11 : Int) = 10 by decide), if_pos rfl, if_neg c2]
          simp only [hz hpc c2]
          rfl
    · -- a source
      have hp0 : ¬ t.pc = 10 := by omega
      have e : stepB k ws al t = (waitM t (ws.getD t.n1.toNat 0) (decide (t.n1.toNat + 1 = k)), ws, al) := by unfold stepB; rw [if_neg hp0, if_pos hpc]
      rw [e]
      unfold resF
      rw [if_neg hp0, if_pos hpc]
      have hn1 : (t.n1 + 1).toNat = t.n1.toNat + 1 := by omega
      by_cases c2 : (opR t.ops t.i).c = 2
      · rw [if_pos c2]
        unfold leanS waitM
        simp only
        rw [if_pos c2]
        unfold leanV
        by_cases hv : ws.getD t.n1.toNat 0 < (opR t.ops t.i).a
        · rw [if_pos hv, if_pos hv]
          exact over_lean (t := t) (m := ⟨fun j => ws.getD j 0, al, an⟩) hi ha h0 hT c2
        · rw [if_neg hv, if_neg hv, src_lean n1a]
          by_cases hl : t.n1.toNat + 1 = k
          · rw [if_pos hl, if_pos (decide_eq_true hl)]
            exact wait_yes (t := { t with n2 := srcN2 t (ws.getD t.n1.toNat 0) }) (m := ⟨fun j => ws.getD j 0, al, an⟩) ha _
          · rw [if_neg hl, if_neg (by simpa using hl)]
            have := over_lean (k := k) (i := i) (t := { t with n2 := srcN2 t (ws.getD t.n1.toNat 0), n1 := t.n1 + 1 }) (m := ⟨fun j => ws.getD j 0, al, an⟩) hi ha h0 hT c2
            simp only [hn1] at this
            exact this
      · rw [if_neg c2]
        unfold limR waitM
        simp only
        rw [if_neg c2, src_min n1a]
        by_cases hl : t.n1.toNat + 1 = k
        · rw [if_pos (decide_eq_true hl), show k - 1 - t.n1.toNat = 0 by omega]
          unfold limL eagerG
          by_cases hq : (opR t.ops t.i).a ≤ srcN2 t (ws.getD t.n1.toNat 0)
          · rw [if_pos hq, if_pos hq]
            exact wait_yes (t := { t with n2 := srcN2 t (ws.getD t.n1.toNat 0), n1 := t.n1 + 1 }) (m := ⟨fun j => ws.getD j 0, al, an⟩) ha _
          · rw [if_neg hq, if_neg hq]
            exact over_eager (k := k) (i := i) (t := { t with n2 := srcN2 t (ws.getD t.n1.toNat 0), n1 := t.n1 + 1 }) (m := ⟨fun j => ws.getD j 0, al, an⟩) hi (by omega) ha h0 hT c2 hc3
        · rw [if_neg (by simpa using hl), show k - 1 - t.n1.toNat = (k - 1 - (t.n1.toNat + 1)) + 1 by omega]
          unfold limL
          refine stand_eq (t := { t with n2 := srcN2 t (ws.getD t.n1.toNat 0), n1 := t.n1 + 1 }) (m := ⟨fun j => ws.getD j 0, al, an⟩) hi (show t.pc ≠ 0 by omega) ha ?_
          unfold resF
          rw [if_neg hp0, if_pos hpc, if_neg c2]
          simp only [hn1]
          rfl
  · have hp0 : ¬ t.pc = 10 := by omega
    have hp1 : ¬ t.pc = 11 := by omega
    have e : stepB k ws al t = (if t.n1.toNat + 1 = k then endT { t with n2 := srcN2 t (ws.getD t.n1.toNat 0), n1 := t.n1 + 1 } (true, srcN2 t (ws.getD t.n1.toNat 0)) else { t with n2 := srcN2 t (ws.getD t.n1.toNat 0), n1 := t.n1 + 1 }, ws, al) := by unfold stepB; rw [if_neg hp0, if_neg hp1, if_pos hpc]
    rw [e]
    unfold resF
    rw [if_neg hp0, if_neg hp1, if_pos hpc]
    have hn1 : (t.n1 + 1).toNat = t.n1.toNat + 1 := by omega
    unfold limR
    simp only
    rw [src_min n1a]
    by_cases hl : t.n1.toNat + 1 = k
    · rw [if_pos hl, show k - 1 - t.n1.toNat = 0 by omega]
      unfold limL
      exact tell_end (t := { t with n2 := srcN2 t (ws.getD t.n1.toNat 0), n1 := t.n1 + 1 }) (m := ⟨fun j => ws.getD j 0, al, an⟩) ha _
    · rw [if_neg hl, show k - 1 - t.n1.toNat = (k - 1 - (t.n1.toNat + 1)) + 1 by omega]
      unfold limL
      refine stand_eq (t := { t with n2 := srcN2 t (ws.getD t.n1.toNat 0), n1 := t.n1 + 1 }) (m := ⟨fun j => ws.getD j 0, al, an⟩) hi (show t.pc ≠ 0 by omega) ha ?_
      unfold resF
      rw [if_neg hp0, if_neg hp1, if_pos hpc]
      simp only [hn1]
      rfl
  · have e : stepB k ws al t = (endT t (!al, 0), ws, true) := by unfold stepB; rw [if_neg (by omega), if_neg (by omega), if_neg (by omega), if_pos hpc]
    rw [e]
    unfold resF
    rw [if_neg (by omega), if_neg (by omega), if_neg (by omega), if_pos hpc]
    exact tell_end (t := t) (m := ⟨fun j => ws.getD j 0, true, an⟩) ha _
  · have e : stepB k ws al t = (endT t (al, 0), ws, false) := by unfold stepB; rw [if_neg (by omega), if_neg (by omega), if_neg (by omega), if_neg (by omega), if_pos hpc]
    rw [e]
    unfold resF
    rw [if_neg (by omega), if_neg (by omega), if_neg (by omega), if_neg (by omega), if_pos hpc]
    exact tell_end (t := t) (m := ⟨fun j => ws.getD j 0, false, an⟩) ha _
  · have e : stepB k ws al t = (endT t (al, 0), ws, al) := by unfold stepB; rw [if_neg (by omega), if_neg (by omega), if_neg (by omega), if_neg (by omega), if_neg (by omega), if_pos hpc]
    rw [e]
    unfold resF
    rw [if_neg (by omega), if_neg (by omega), if_neg (by omega), if_neg (by omega), if_neg (by omega), if_pos hpc]
    exact tell_end (t := t) (m := ⟨fun j => ws.getD j 0, al, an⟩) ha _
  · have hat : (opR t.ops t.i).a.toNat < ws.length := by omega
    rcases hpc with hpc | hpc
    · have e : stepB k ws al t = (endT t (true, 0), ws.set (opR t.ops t.i).a.toNat (opR t.ops t.i).b, al) := by unfold stepB; rw [if_neg (by omega), if_neg (by omega), if_neg (by omega), if_neg (by omega), if_neg (by omega), if_neg (by omega), if_pos hpc]
      rw [e]
      unfold resF
      rw [if_neg (by omega), if_neg (by omega), if_neg (by omega), if_neg (by omega), if_neg (by omega), if_neg (by omega), if_pos hpc]
      simp only
      rw [set_fun hat]
      exact tell_end (t := t) (m := ⟨updN (fun j => ws.getD j 0) (opR t.ops t.i).a.toNat (opR t.ops t.i).b, al, an⟩) ha _
    · have e : stepB k ws al t = (endT t (true, addW (ws.getD (opR t.ops t.i).a.toNat 0) (opR t.ops t.i).b), ws.set (opR t.ops t.i).a.toNat (addW (ws.getD (opR t.ops t.i).a.toNat 0) (opR t.ops t.i).b), al) := by unfold stepB; rw [if_neg (by omega), if_neg (by omega), if_neg (by omega), if_neg (by omega), if_neg (by omega), if_neg (by omega), if_neg (by omega)]
      rw [e]
      unfold resF
      rw [if_neg (by omega), if_neg (by omega), if_neg (by omega), if_neg (by omega), if_neg (by omega), if_neg (by omega), if_neg (by omega)]
      simp only
      rw [set_fun hat]
      exact tell_end (t := t) (m := ⟨updN (fun j => ws.getD j 0) (opR t.ops t.i).a.toNat (addW (ws.getD (opR t.ops t.i).a.toNat 0) (opR t.ops t.i).b), al, an⟩) ha _
structure RI (k : Nat) (t : RT) : Prop where
  ops : t.ops.length ≤ 65536
  i : t.i ≤ t.ops.length
  ans : t.ans.length = t.i
  ended : t.ended = decide (t.ops.length ≤ t.i)
  st : t.i < t.ops.length → StandsR k t
structure RB0 (k : Nat) (t : RT) : Prop where
  ops : t.ops.length ≤ 65536
  i : t.i ≤ t.ops.length
  ans : t.ans.length = t.i
  st : t.pc = 0 ∨ (t.i < t.ops.length ∧ StandsR k t)
theorem RI.not_fin {k : Nat} {t : RT} (h : RI k t) (he : t.ended = false) : t.i < t.ops.length := by
  have := h.ended
  rw [he] at this
  have := of_decide_eq_false this.symm
  omega
theorem ri_stop {k : Nat} {t : RT} (h : RB0 k t) (hn : ¬ (t.pc = 0 ∧ t.i < t.ops.length)) : RI k (beginT k t) := by
  rw [beginT_stop hn]
  refine ⟨h.ops, h.i, h.ans, rfl, fun hi => ?_⟩
  rcases h.st with z | z
  · exact absurd ⟨z, hi⟩ hn
  · exact ⟨z.2.n0, z.2.st⟩
theorem ri_begin (k : Nat) : ∀ (d : Nat) (t : RT), t.ops.length - t.i = d → RB0 k t → RI k (beginT k t)
  | 0, t, hd, h => ri_stop h (fun z => by omega)
  | d + 1, t, hd, h => by
    by_cases hp : t.pc = 0
    · have hi : t.i < t.ops.length := by omega
      rw [beginT_step ⟨hp, hi⟩]
      have ho := begin1_ops k t
      rcases begin1_i k t with ⟨a, b, c⟩ | ⟨a, b, c⟩
      · exact ri_begin k d _ (by rw [ho, a]; omega) ⟨by rw [ho]; exact h.ops, by rw [ho, a]; omega, by rw [c, a, h.ans], .inl b⟩
      · refine ri_stop ⟨by rw [ho]; exact h.ops, by rw [ho, a]; omega, by rw [c, a, h.ans], .inr ⟨by rw [ho, a]; exact hi, ?_⟩⟩ (fun z => b z.1)
        have hT := tries_pos (opR t.ops t.i).b
        revert b
        unfold begin1
        generalize ho : opR t.ops t.i = o at *
        split
        · intro b; exact absurd rfl b
        · split
          · intro b; exact absurd rfl b
          · split
            · intro b; exact absurd rfl b
            · split
              · rename_i q1 q2 q3 q4
                intro _
                refine ⟨⟨Int.le_refl _, show (0 : Int) ≤ 1024 by decide⟩, ?_⟩
                simp only [ho]
                rcases q4 with ⟨q4, q5⟩
                by_cases z1 : o.kind = 1
                · refine .inl ⟨.inl (by omega), ?_, by omega, ?_, fun _ _ => trivial⟩
                  · have : ¬ (o.c < 1 ∨ 3 < o.c) := fun z => q1 ⟨z1, z⟩
                    omega
                  · have : ¬ k = 0 := fun z => q2 ⟨z1, z⟩
                    omega
                · by_cases z2 : o.kind = 2
                  · refine .inr (.inl ⟨by omega, ?_⟩)
                    have : ¬ k = 0 := fun z => q3 ⟨z2, z⟩
                    omega
                  · refine .inr (.inr ?_)
                    have z3 : o.kind = 3 ∨ o.kind = 4 ∨ o.kind = 5 := by omega
                    rcases z3 with z3 | z3 | z3
                    · exact .inl (by omega)
                    · exact .inr (.inl (by omega))
                    · exact .inr (.inr (.inl (by omega)))
              · split
                · rename_i q1 q2 q3 q4 q5
                  intro _
                  refine ⟨⟨Int.le_refl _, show (0 : Int) ≤ 1024 by decide⟩, ?_⟩
                  simp only [ho]
                  exact .inr (.inr (.inr (.inr (.inr ⟨by rcases q5.1 with z | z <;> omega, q5.2⟩))))
                · intro b; exact absurd rfl b
    · exact ri_stop h (fun z => hp z.1)
theorem rb_end {k : Nat} {t : RT} (hi : t.i < t.ops.length) (ho : t.ops.length ≤ 65536) (ha : t.ans.length = t.i) (r : Bool × Int) : RB0 k (endT t r) :=
  ⟨ho, hi, by show (t.ans ++ [r]).length = t.i + 1; simp [ha], .inl rfl⟩
theorem rb_over {k : Nat} {t : RT} (hi : t.i < t.ops.length) (ho : t.ops.length ≤ 65536) (ha : t.ans.length = t.i) (h0 : 0 ≤ t.n0) (hT : t.n0 < triesR (opR t.ops t.i).b) (hc : 1 ≤ (opR t.ops t.i).c ∧ (opR t.ops t.i).c ≤ 3) (hk : 0 < k)
    (hn : (opR t.ops t.i).c = 2 → 0 ≤ t.n1 ∧ t.n1 < k) : RB0 k (overT t) := by
  have hT1 := tries_pos (opR t.ops t.i).b
  unfold overT
  split
  · exact rb_end (t := { t with n0 := t.n0 + 1 }) hi ho ha _
  · rename_i hne
    refine ⟨ho, Nat.le_of_lt hi, ha, .inr ⟨hi, ⟨show 0 ≤ t.n0 + 1 by omega, show t.n0 + 1 ≤ 1024 by omega⟩, .inl ⟨?_, hc, show t.n0 + 1 < triesR (opR t.ops t.i).b by omega, ?_, fun _ q => ?_⟩⟩⟩
    · show (if _ then (11 : Int) else 10) = 10 ∨ (if _ then (11 : Int) else 10) = 11
      split
      · exact .inr rfl
      · exact .inl rfl
    · show 0 ≤ (if (opR t.ops t.i).c = 2 then t.n1 else 0) ∧ (if (opR t.ops t.i).c = 2 then t.n1 else 0) < (k : Int)
      split
      · rename_i c2; exact hn c2
      · omega
    · show (if (opR t.ops t.i).c = 2 then t.n1 else 0) = 0
      exact if_neg q
theorem rb_step {k : Nat} {t : RT} {ws : List Int} {al : Bool} (hk : k ≤ ws.length) (hi : t.i < t.ops.length) (h : RI k t) : RB0 k (stepB k ws al t).1 ∧ k ≤ (stepB k ws al t).2.1.length := by
  have hs := h.st hi
  have ho := h.ops
  have ha := h.ans
  obtain ⟨⟨h0, h0'⟩, hst⟩ := hs
  rcases hst with ⟨hpc, hc3, hT, ⟨n1a, n1b⟩, hz⟩ | ⟨hpc, n1a, n1b⟩ | hpc | hpc | hpc | ⟨hpc, a0, a1⟩
  · rcases hpc with hpc | hpc
    · unfold stepB
      rw [if_pos hpc]
      refine ⟨?_, hk⟩
      simp only
      split
      · exact rb_end (t := { t with pc := 11 }) hi ho ha _
      · exact ⟨ho, Nat.le_of_lt hi, ha, .inr ⟨hi, ⟨h0, h0'⟩, .inl ⟨.inr rfl, hc3, hT, ⟨n1a, n1b⟩, fun z => absurd z (show ¬ (11 : Int) = 10 by decide)⟩⟩⟩
    · unfold stepB
      rw [if_neg (by omega), if_pos hpc]
      refine ⟨?_, hk⟩
      simp only
      unfold waitM
      by_cases c2 : (opR t.ops t.i).c = 2
      · rw [if_pos c2]
        split
        · exact rb_over hi ho ha h0 hT hc3 (by omega) (fun _ => ⟨n1a, n1b⟩)
        · split
          · exact rb_end (t := { t with n2 := srcN2 t (ws.getD t.n1.toNat 0) }) hi ho ha _
          · rename_i hl
            have hl' : ¬ t.n1.toNat + 1 = k := by simpa using hl
            exact rb_over (t := { t with n2 := _, n1 := t.n1 + 1 }) hi ho ha h0 hT hc3 (by omega) (fun _ => ⟨show 0 ≤ t.n1 + 1 by omega, show t.n1 + 1 < (k : Int) by omega⟩)
      · rw [if_neg c2]
        split
        · split
          · exact rb_end (t := { t with n2 := _, n1 := t.n1 + 1 }) hi ho ha _
          · exact rb_over (t := { t with n2 := _, n1 := t.n1 + 1 }) hi ho ha h0 hT hc3 (by omega) (fun z => absurd z c2)
        · rename_i hl
          have hl' : ¬ t.n1.toNat + 1 = k := by simpa using hl
          exact ⟨ho, Nat.le_of_lt hi, ha, .inr ⟨hi, ⟨h0, h0'⟩, .inl ⟨.inr hpc, hc3, hT, ⟨show 0 ≤ t.n1 + 1 by omega, show t.n1 + 1 < (k : Int) by omega⟩, fun z => absurd (show t.pc = 10 from z) (by omega)⟩⟩⟩
  · unfold stepB
    rw [if_neg (by omega), if_neg (by omega), if_pos hpc]
    refine ⟨?_, hk⟩
    simp only
    split
    · exact rb_end (t := { t with n2 := _, n1 := t.n1 + 1 }) hi ho ha _
    · rename_i hl
      exact ⟨ho, Nat.le_of_lt hi, ha, .inr ⟨hi, ⟨h0, h0'⟩, .inr (.inl ⟨hpc, show 0 ≤ t.n1 + 1 by omega, show t.n1 + 1 < (k : Int) by omega⟩)⟩⟩
  · unfold stepB
    rw [if_neg (by omega), if_neg (by omega), if_neg (by omega), if_pos hpc]
    exact ⟨rb_end hi ho ha _, hk⟩
  · unfold stepB
    rw [if_neg (by omega), if_neg (by omega), if_neg (by omega), if_neg (by omega), if_pos hpc]
    exact ⟨rb_end hi ho ha _, hk⟩
  · unfold stepB
    rw [if_neg (by omega), if_neg (by omega), if_neg (by omega), if_neg (by omega), if_neg (by omega), if_pos hpc]
    exact ⟨rb_end hi ho ha _, hk⟩
  · unfold stepB
    rw [if_neg (by omega), if_neg (by omega), if_neg (by omega), if_neg (by omega), if_neg (by omega), if_neg (by omega)]
    split
    · exact ⟨rb_end hi ho ha _, by simpa using hk⟩
    · exact ⟨rb_end hi ho ha _, by simpa using hk⟩
theorem step_take {k : Nat} {t : RT} {ws : List Int} {al : Bool} (hk : k ≤ ws.length) (hs : StandsR k t) : stepB k (ws.take k) al t = ((stepB k ws al t).1, (stepB k ws al t).2.1.take k, (stepB k ws al t).2.2) := by
  have hg : ∀ j, j < k → (ws.take k).getD j 0 = ws.getD j 0 := fun j hj => by
    rw [List.getD_eq_getElem?_getD, List.getD_eq_getElem?_getD, List.getElem?_take_of_lt hj]
  obtain ⟨⟨h0, h0'⟩, hst⟩ := hs
  have ht : ∀ (a : Nat) (x : Int), (ws.set a x).take k = (ws.take k).set a x := fun a x => List.take_set
  rcases hst with ⟨hpc, hc3, hT, ⟨n1a, n1b⟩, hz⟩ | ⟨hpc, n1a, n1b⟩ | hpc | hpc | hpc | ⟨hpc, a0, a1⟩
  · rcases hpc with hpc | hpc
    · unfold stepB
      simp only [hpc, Int.reduceEq, if_true, if_false, reduceIte]
    · unfold stepB
      simp only [hpc, Int.reduceEq, if_true, if_false, reduceIte, hg _ (show t.n1.toNat < k by omega)]
  · unfold stepB
    simp only [hpc, Int.reduceEq, if_true, if_false, reduceIte, hg _ (show t.n1.toNat < k by omega)]
  · unfold stepB
    simp only [hpc, Int.reduceEq, if_true, if_false, reduceIte]
  · unfold stepB
    simp only [hpc, Int.reduceEq, if_true, if_false, reduceIte]
  · unfold stepB
    simp only [hpc, Int.reduceEq, if_true, if_false, reduceIte]
  · rcases hpc with hpc | hpc
    · unfold stepB
      simp only [hpc, Int.reduceEq, if_true, if_false, reduceIte, ht]
    · unfold stepB
      simp only [hpc, Int.reduceEq, if_true, if_false, reduceIte, ht, hg _ (show (opR t.ops t.i).a.toNat < k by omega)]
end Go.Proofs.Ytimkkeomdkbcjaa

/-
  THE PLAIN LAW of the whole machine: it plays what the threads play. No program in sight; no condition of its own.
-/
namespace Go.Proofs.Ytimkkeomdkbcjaa
open Go.ConcN renaming upd → updN
open Go.ConcN (upd_ne upd_same)
structure MS where
  ws : List Int
  al : Bool
  T : Nat → RT
def gOf (k n : Nat) (S : MS) (ord : List Int) : GSt BM := ⟨⟨fun j => S.ws.getD j 0, S.al, fun i => (S.T i).ans⟩, fun i => if i < n then coT k i (S.T i) else .fin, ord⟩
def stepMS (k : Nat) (S : MS) (i : Nat) : MS := ⟨(stepB k S.ws S.al (S.T i)).2.1, (stepB k S.ws S.al (S.T i)).2.2, updN S.T i (beginT k (stepB k S.ws S.al (S.T i)).1)⟩
structure MI (k n : Nat) (S : MS) : Prop where
  ws : k ≤ S.ws.length
  th : ∀ i, i < n → RI k (S.T i)
section
variable {k n mo : Nat} {S : MS} {ord : List Int}
theorem g_step (h : MI k n S) {i : Nat} (hi : i < n) (he : (S.T i).ended = false) (hm : ord.length ≠ mo) : stepO n mo (gOf k n S ord) i = gOf k n (stepMS k S i) (ord ++ [(i : Int)]) ∧ MI k n (stepMS k S i) := by
  have hR := h.th i hi
  have hlt := hR.not_fin he
  have hb := rb_step (al := S.al) h.ws hlt hR
  refine ⟨?_, hb.2, fun j hj => ?_⟩
  · unfold stepO
    rw [if_pos ⟨by omega, by omega, hm⟩, Int.toNat_natCast]
    have hc : (gOf k n S ord).co i = coF (resF k i (S.T i)) := by
      show (if i < n then coT k i (S.T i) else .fin) = _
      rw [if_pos hi]
      unfold coT
      rw [if_neg (by omega)]
    rw [hc]
    have hs := sim_step (al := S.al) (an := fun i => (S.T i).ans) h.ws hlt (hR.st hlt) rfl
    unfold coF
    simp only
    have hs' : resF k i (S.T i) (gOf k n S ord).m = _ := hs
    rw [hs']
    unfold gOf stepMS
    simp only
    congr 1
    · congr 1
      funext j
      by_cases e : j = i
      · subst e; rw [upd_same, upd_same]
      · rw [upd_ne _ _ e, upd_ne _ _ e]
    · funext j
      by_cases e : j = i
      · subst e; rw [upd_same, upd_same, if_pos hi]
      · rw [upd_ne _ _ e, upd_ne _ _ e]
  · show RI k (updN S.T i (beginT k (stepB k S.ws S.al (S.T i)).1) j)
    by_cases e : j = i
    · subst e; rw [upd_same]; exact ri_begin k _ _ rfl hb.1
    · rw [upd_ne _ _ e]; exact h.th j hj
def SkipE (n : Nat) (E : Nat → Bool) (i : Int) : Prop := i < 0 ∨ (n : Int) ≤ i ∨ E i.toNat = true
theorem g_fin (h : MI k n S) {i : Nat} (hi : i < n) : ((gOf k n S ord).co i).isFin = (S.T i).ended := by
  show (if i < n then coT k i (S.T i) else .fin).isFin = _
  rw [if_pos hi, (h.th i hi).ended]
  unfold coT
  split
  · rename_i q; rw [decide_eq_true q]; rfl
  · rename_i q; rw [decide_eq_false q]; rfl
theorem g_skip (h : MI k n S) {i : Int} (hs : SkipE n (fun i => (S.T i).ended) i) : SkipO n (gOf k n S ord).co i := by
  rcases Int.lt_or_le i 0 with a | a
  · exact .inl a
  · rcases Int.lt_or_le i n with b | b
    · refine .inr (.inr ?_)
      rw [g_fin h (by omega)]
      rcases hs with z | z | z
      · omega
      · omega
      · exact z
    · exact .inr (.inl b)
theorem leftO_all {M : Type} {co : Nat → Co M} : ∀ k, (∀ j, j < k → (co j).isFin = true) → leftO co k = 0
  | 0, _ => rfl
  | k + 1, h => by unfold leftO; rw [leftO_all k fun j hj => h j (by omega), h k (by omega)]; rfl
theorem g_left (h : MI k n S) (ha : ∀ i, i < n → (S.T i).ended = true) : leftO (gOf k n S ord).co n = 0 := leftO_all n fun j hj => by rw [g_fin h hj]; exact ha j hj
theorem g_some (h : MI k n S) {i : Nat} (hi : i < n) (ha : (S.T i).ended = false) : 0 < leftO (gOf k n S ord).co n := by
  rcases Nat.eq_zero_or_pos (leftO (gOf k n S ord).co n) with e | e
  · have := leftO_zero n e i hi
    rw [g_fin h hi, ha] at this
    cases this
  · exact e
def startS (k n : Nat) (ws : List Int) (L : Nat → List OpD) (j : Nat) : MS := ⟨ws, false, fun i => if i < j then beginT k (newT (L i)) else if i < n then newT (L i) else newT []⟩
theorem g_start (ws : List Int) (L : Nat → List OpD) : ∀ j, j ≤ n → startO (fun i => opsT k i (L i)) ⟨fun j => ws.getD j 0, false, fun _ => []⟩ j = ((gOf k j (startS k n ws L j) []).m, (gOf k j (startS k n ws L j) []).co)
  | 0, _ => by
    unfold startO gOf startS
    simp only
    congr 1
    congr 1
    funext i
    rw [if_neg (by omega)]
    split <;> rfl
  | j + 1, hj => by
    unfold startO
    rw [g_start ws L j (by omega)]
    simp only
    have ha : (gOf k j (startS k n ws L j) []).m.an j = (newT (L j)).ans := by
      show (if j < j then beginT k (newT (L j)) else if j < n then newT (L j) else newT []).ans = _
      rw [if_neg (by omega), if_pos (by omega)]
    have h := sim_begin k j _ (newT (L j)) (gOf k j (startS k n ws L j) []).m rfl rfl ha
    have e0 : (newT (L j)).ops.drop (newT (L j)).i = L j := rfl
    rw [e0] at h
    rw [h]
    simp only
    unfold gOf startS bM
    simp only
    congr 1
    · congr 1
      funext i
      by_cases e : i = j
      · subst e; rw [upd_same, if_pos (by omega)]
      · rw [upd_ne _ _ e]
        by_cases q : i < j
        · rw [if_pos q, if_pos (by omega)]
        · rw [if_neg q, if_neg (show ¬ i < j + 1 by omega)]
    · funext i
      by_cases e : i = j
      · subst e; rw [upd_same, if_pos (by omega), if_pos (by omega)]
      · rw [upd_ne _ _ e]
        by_cases q : i < j
        · rw [if_pos q, if_pos q, if_pos (by omega), if_pos (by omega)]
        · rw [if_neg q, if_neg (show ¬ i < j + 1 by omega)]
theorem mi_start {ws : List Int} {L : Nat → List OpD} (hk : k ≤ ws.length) (hL : ∀ i, i < n → (L i).length ≤ 65536) : MI k n (startS k n ws L n) := by
  refine ⟨hk, fun i hi => ?_⟩
  show RI k (if i < n then beginT k (newT (L i)) else if i < n then newT (L i) else newT [])
  rw [if_pos hi]
  exact ri_begin k _ _ rfl ⟨hL i hi, Nat.zero_le _, rfl, .inl rfl⟩
def PickOk (n : Nat) (E : Nat → Bool) (u : TU) (r : Int) (u' : TU) : Prop :=
  ((∀ i, i < n → E i = true) ∧ r = -1 ∧ u' = u) ∨
  ((∃ i, i < n ∧ E i = false) ∧ u.most ≤ u.ord.length ∧ r = -1 ∧ u' = { u with stuck := true }) ∨
  ((u.ord.length : Int) < u.most ∧ ∃ t : Nat, t < n ∧ E t = false ∧ r = t ∧
    ((∃ p, u.pos ≤ p ∧ p < u.sch.length ∧ u.sch.getD p 0 = t ∧ (∀ q, u.pos ≤ q → q < p → SkipE n E (u.sch.getD q 0)) ∧ u' = { u with pos := p + 1, ord := u.ord ++ [(t : Int)] }) ∨
     ((∀ q, u.pos ≤ q → q < u.sch.length → SkipE n E (u.sch.getD q 0)) ∧ ∃ d, t = (u.rnd + d) % n ∧ (∀ e, e < d → E ((u.rnd + e) % n) = true) ∧ u' = { u with pos := u.sch.length, rnd := (t + 1) % n, ord := u.ord ++ [(t : Int)] })))
structure RunI (k n mo : Nat) (G : GSt BM) (sc : List Int) (S : MS) (u : TU) : Prop where
  mi : MI k n S
  sch : u.sch = sc
  most : u.most = mo
  pos : u.pos ≤ sc.length
  rnd : 0 < n → u.rnd < n
  ord : u.ord.length ≤ mo
  stuck : u.stuck = false
  eq : G = restO n mo (gOf k n S u.ord) (sc.drop u.pos) u.rnd
theorem mem_drop {sch : List Int} {a : Nat} {x : Int} (h : x ∈ sch.drop a) : ∃ q, a ≤ q ∧ q < sch.length ∧ sch.getD q 0 = x := by
  obtain ⟨j, hj, e⟩ := List.getElem_of_mem h
  rw [List.length_drop] at hj
  refine ⟨a + j, by omega, by omega, ?_⟩
  rw [List.getElem_drop] at e
  rw [List.getD_eq_getElem?_getD, List.getElem?_eq_getElem (by omega)]
  exact e
theorem mem_take_drop {sch : List Int} {a p : Nat} {x : Int} (h : x ∈ (sch.drop a).take (p - a)) : ∃ q, a ≤ q ∧ q < p ∧ sch.getD q 0 = x := by
  obtain ⟨j, hj, e⟩ := List.getElem_of_mem h
  rw [List.length_take, List.length_drop] at hj
  refine ⟨a + j, by omega, by omega, ?_⟩
  rw [List.getElem_take, List.getElem_drop] at e
  rw [List.getD_eq_getElem?_getD, List.getElem?_eq_getElem (by omega)]
  exact e
theorem run_next {G : GSt BM} {sch : List Int} {u u' : TU} {r : Int} (h : RunI k n mo G sch S u) (hp : PickOk n (fun i => (S.T i).ended) u r u') (hr : 0 ≤ r) :
    r.toNat < n ∧ (S.T r.toNat).ended = false ∧ RunI k n mo G sch (stepMS k S r.toNat) u' ∧ u'.ord.length = u.ord.length + 1 := by
  rcases hp with ⟨_, z, _⟩ | ⟨_, _, z, _⟩ | ⟨hm, t, ht, hE, rfl, hp⟩
  · omega
  · omega
  · rw [Int.toNat_natCast]
    have hmo : u.ord.length < mo := by have := h.most; omega
    obtain ⟨g1, g2⟩ := g_step (ord := u.ord) (mo := mo) h.mi ht hE (by omega)
    have hs := h.sch
    rcases hp with ⟨p, p1, p2, p3, p4, rfl⟩ | ⟨q1, d, rfl, q3, rfl⟩
    · refine ⟨ht, hE, ⟨g2, hs, h.most, ?_, h.rnd, by simp; omega, h.stuck, ?_⟩, by simp⟩
      · show p + 1 ≤ sch.length
        rw [← hs]; exact p2
      · rw [h.eq]
        rw [hs] at p2 p3 p4
        have e : sch.drop u.pos = (sch.drop u.pos).take (p - u.pos) ++ (t : Int) :: sch.drop (p + 1) := by
          have e1 : sch.drop p = (t : Int) :: sch.drop (p + 1) := by
            rw [List.drop_eq_getElem_cons p2]
            congr 1
            rw [← p3, List.getD_eq_getElem?_getD, List.getElem?_eq_getElem p2]
            rfl
          rw [← e1]
          conv => lhs; rw [← List.take_append_drop (p - u.pos) (sch.drop u.pos)]
          congr 1
          rw [List.drop_drop]
          congr 1
          omega
        rw [e, rest_sched (fun j hj => by
          obtain ⟨q, a, b, c⟩ := mem_take_drop hj
          rw [← c]
          exact g_skip h.mi (p4 q a b)), g1]
    · have hn : 0 < n := by omega
      refine ⟨ht, hE, ⟨g2, hs, h.most, ?_, fun _ => Nat.mod_lt _ hn, by simp; omega, h.stuck, ?_⟩, by simp⟩
      · show u.sch.length ≤ sch.length
        rw [hs]; exact Nat.le_refl _
      · rw [h.eq]
        rw [hs] at q1
        rw [rest_skip (fun j hj => by
          obtain ⟨q, a, b, c⟩ := mem_drop hj
          rw [← c]
          exact g_skip h.mi (q1 q a b)), rest_round (s := gOf k n S u.ord) (by show u.ord.length ≤ mo; omega) d u.rnd (h.rnd hn) (fun e he => g_skip h.mi (.inr (.inr (by rw [Int.toNat_natCast]; exact q3 e he)))), g1]
        simp only [hs]
        rw [List.drop_length]
theorem run_end {G : GSt BM} {sch : List Int} {u u' : TU} {r : Int} (h : RunI k n mo G sch S u) (hp : PickOk n (fun i => (S.T i).ended) u r u') (hr : r < 0) :
    G = gOf k n S u.ord ∧ u'.ord = u.ord ∧ u'.stuck = decide (0 < leftO G.co n) := by
  rcases hp with ⟨ha, _, rfl⟩ | ⟨⟨i, hi, hE⟩, hm, _, rfl⟩ | ⟨_, t, _, _, z, _⟩
  · have e : G = gOf k n S u'.ord := by rw [h.eq, rest_over (g_left h.mi ha)]
    refine ⟨e, rfl, ?_⟩
    rw [e, g_left h.mi ha, h.stuck]
    rfl
  · have e : G = gOf k n S u.ord := by rw [h.eq, rest_full (by show u.ord.length = mo; have := h.most; have := h.ord; omega)]
    refine ⟨e, rfl, ?_⟩
    rw [e, decide_eq_true (g_some h.mi hi hE)]
  · omega
theorem run_start {ws sch : List Int} {L : Nat → List OpD} (hk : k ≤ ws.length) (hL : ∀ i, i < n → (L i).length ≤ 65536) :
    RunI k n mo (playO n mo (fun i => opsT k i (L i)) ⟨fun j => ws.getD j 0, false, fun _ => []⟩ sch) sch (startS k n ws L n) ⟨sch, 0, 0, mo, [], false⟩ := by
  refine ⟨mi_start hk hL, rfl, rfl, Nat.zero_le _, fun h => h, Nat.zero_le _, rfl, ?_⟩
  unfold playO
  rw [g_start (n := n) ws L n (Nat.le_refl _)]
  exact rest_start (s := gOf k n (startS k n ws L n) []) (Nat.zero_le _) sch
end
end Go.Proofs.Ytimkkeomdkbcjaa

/-
  The document's machine: its whole memory, and what stays of it. No condition of its own.
-/
namespace Go.Proofs.Ytimkkeomdkbcjaa
open Go.Conc Go.RowKit
open Go.ConcN renaming upd → updN
open Go.ConcN (upd_ne upd_same)
def KeptX (X : List TypeId) (w w' : World) : Prop := ∀ (b : Nat) (cs : Array Value) (e : TypeId), w.heap[b]? = some (Obj.cells cs e (0, 0)) → e ∉ X → w'.heap[b]? = some (Obj.cells cs e (0, 0))
section
variable {X Y : List TypeId} {w w' w'' : World}
theorem KeptX.row (h : KeptX X w w') {B e sz n : Nat} {v : Value} {xs : List Value} (hr : w.ownsRow B e sz v n xs) (he : e ∉ X) : w'.ownsRow B e sz v n xs :=
  ownsRow_keep hr fun g o hg hh => by
    obtain ⟨cc, hcc⟩ := ownsRow_type hr hg
    rw [← hh, hcc]
    exact h _ _ _ hcc he
theorem KeptX.refl : KeptX X w w := fun _ _ _ h _ => h
theorem KeptX.trans (h : KeptX X w w') (k : KeptX X w' w'') : KeptX X w w'' := fun b cs e hb he => k b cs e (h b cs e hb he) he
theorem KeptX.mono (h : KeptX X w w') (hs : ∀ e, e ∈ X → e ∈ Y) : KeptX Y w w' := fun b cs e hb he => h b cs e hb fun z => he (hs e z)
theorem KeptX.drew (h : KeptX X w w') : KeptX X w w'.drew := h
theorem KeptX.alloc (h : KeptX X w w') (o : Obj) : KeptX X w (w'.alloc o) := fun b cs e hb he => by
  have hb' := h b cs e hb he
  exact (Below.heap_alloc _ _ _ (Array.getElem?_eq_some_iff.1 hb').1).trans hb'
theorem KeptX.put (h : KeptX X w w') {g c : Nat} {cs0 : Array Value} {e0 : TypeId} (hg : w'.heap[g]? = some (.cells cs0 e0 (0, 0))) (he0 : e0 ∈ X) (v : Value) : KeptX X w (w'.setCell ⟨g, c, none⟩ v) := fun b cs e hb he => by
  have hb' := h b cs e hb he
  rw [Below.heap_setCell _ _ _ _ (fun z => by
    rw [z, hg] at hb'
    simp at hb'
    exact he (hb'.2 ▸ he0))]
  exact hb'
theorem KeptX.below {N : Nat} (h : Below w.heap.size w w') : KeptX X w w' := fun b cs e hb he => (h.block b (Array.getElem?_eq_some_iff.1 hb).1).trans hb
end
section
variable {base j tb : Nat} {ow ow' : Nat → Nat} {vo va va' : Value} {t t' : RT} {w w' : World}
theorem ThS.keptX (ht : ThB base ow j tb vo va t w) (h : ThS base ow j tb vo va w ow' va' t' w') : KeptX [116, 97] w w' := fun b cs e hb he => h.other ht hb (fun z => he (by rw [z]; exact List.mem_cons_self ..)) (fun z => he (by rw [z]; simp))
theorem ownsRow_lo {w : World} {B e sz n : Nat} {v : Value} {xs : List Value} (h : w.ownsRow B e sz v n xs) {g : Nat} (hg : v.ownBlock = some g) : B ≤ g := by
  rcases h.2 with ⟨rfl, _⟩ | ⟨g', cap, cur, rfl, q1, q2, q3⟩
  · cases hg
  · cases hg
    exact q1
theorem ThS.below (ht : ThB base ow j tb vo va t w) (h : ThS base ow j tb vo va w ow' va' t' w') {w0 : World} (hb : Below base w0 w) (hs : base ≤ w.heap.size) : Below base w0 w' :=
  ⟨h.os.trans hb.os, h.tape.trans hb.tape, h.output.trans hb.output, Nat.le_trans hb.size h.size, fun b hlt => (h.keep b (by omega) (fun z => by have := ht.lo; omega) (fun z => by have := ownsRow_lo ht.rowA z; omega)).trans (hb.block b hlt)⟩
theorem ThB.kept (h : ThB base ow j tb vo va t w) {X : List TypeId} (k : KeptX X w w') (h1 : 116 ∉ X) (h2 : 94 ∉ X) (h3 : 97 ∉ X) : ThB base ow j tb vo va t w' :=
  ⟨k _ _ _ h.blk h1, h.lo, k.row h.rowO h2, k.row h.rowA h3, h.ow⟩
end
structure RMem (w0 : World) (N mb n : Nat) (vw vth : Value) (tb : Nat → Nat) (vo va : Nat → Value) (ow : Nat → Nat) (ws : List Int) (al : Bool) (T : Nat → RT) (w : World) : Prop where
  mv : MV N mb vw vth ws al w
  lo : N ≤ mb
  row : w.ownsRow N 87 1 vth n ((List.range n).map fun i => .pointer (some ⟨tb i, 0, none⟩))
  th : ∀ i, i < n → ThB N ow i (tb i) (vo i) (va i) (T i) w
  inj : ∀ i k, i < n → k < n → tb i = tb k → i = k
  low : Below N w0 w
  nw : w0.heap.size = N
section
variable {w0 w w' : World} {N mb n : Nat} {vw vth : Value} {tb : Nat → Nat} {vo va : Nat → Value} {ow : Nat → Nat} {ws : List Int} {al : Bool} {T : Nat → RT}
theorem RMem.size (h : RMem w0 N mb n vw vth tb vo va ow ws al T w) : N ≤ w.heap.size := by have := h.low.size; have := h.nw; omega
theorem RMem.kept (h : RMem w0 N mb n vw vth tb vo va ow ws al T w) {X : List TypeId} (k : KeptX X w w') (hX : 85 ∉ X ∧ 2 ∉ X ∧ 87 ∉ X ∧ 116 ∉ X ∧ 94 ∉ X ∧ 97 ∉ X) (hb : Below N w0 w') : RMem w0 N mb n vw vth tb vo va ow ws al T w' :=
  ⟨⟨k _ _ _ h.mv.blk hX.1, k.row h.mv.rowW hX.2.1⟩, h.lo, k.row h.row hX.2.2.1, fun i hi => (h.th i hi).kept k hX.2.2.2.1 hX.2.2.2.2.1 hX.2.2.2.2.2, h.inj, hb, h.nw⟩
theorem RMem.step (h : RMem w0 N mb n vw vth tb vo va ow ws al T w) {j : Nat} (hj : j < n) {ow' : Nat → Nat} {va' : Value} {t' : RT} (k : ThS N ow j (tb j) (vo j) (va j) w ow' va' t' w') :
    RMem w0 N mb n vw vth tb vo (updN va j va') ow' ws al (updN T j t') w' := by
  have ht := h.th j hj
  refine ⟨h.mv.thS ht k, h.lo, k.rowOther ht h.row (by decide) (by decide), fun i hi => ?_, h.inj, k.below ht h.low h.size, h.nw⟩
  by_cases e : i = j
  · subst e
    rw [upd_same, upd_same]
    exact k.th
  · rw [upd_ne _ _ e, upd_ne _ _ e]
    have hi' := h.th i hi
    have ltb := (Array.getElem?_eq_some_iff.1 hi'.blk).1
    refine ⟨(k.keep _ ltb (fun z => e (h.inj i j hi hj z)) (fun z => ?_)).trans hi'.blk, hi'.lo, k.rowOther ht hi'.rowO (by decide) (by decide), ownsRow_keep hi'.rowA fun g o hg hh => ?_, fun g hg => ?_⟩
    · obtain ⟨cc, hcc⟩ := ownsRow_type ht.rowA z
      rw [hi'.blk] at hcc
      simp at hcc
    · obtain ⟨cc, hcc⟩ := ownsRow_type hi'.rowA hg
      refine (k.keep g (Array.getElem?_eq_some_iff.1 hcc).1 (fun z => ?_) (fun z => ?_)).trans hh
      · rw [z, ht.blk] at hcc
        simp at hcc
      · have a := ht.ow g z
        have b := hi'.ow g hg
        omega
    · obtain ⟨cc, hcc⟩ := ownsRow_type hi'.rowA hg
      exact (k.own g (Array.getElem?_eq_some_iff.1 hcc).1).trans (hi'.ow g hg)
theorem TuB.kept {base ub : Nat} {vs vo : Value} {u : TU} (h : TuB base ub vs vo u w) {X : List TypeId} (k : KeptX X w w') (h1 : 120 ∉ X) (h2 : 3 ∉ X) : TuB base ub vs vo u w' :=
  ⟨k _ _ _ h.blk h1, h.lo, k.row h.rowS h2, k.row h.rowO h2, h.ne⟩
end
end Go.Proofs.Ytimkkeomdkbcjaa

/-
  The document's machine: its whole memory, as a step changes it. No condition of its own.
-/
namespace Go.Proofs.Ytimkkeomdkbcjaa
open Go.Conc Go.RowKit
open Go.ConcN renaming upd → updN
open Go.ConcN (upd_ne upd_same)
section
variable {w0 w w' : World} {N mb n : Nat} {vw vth : Value} {tb : Nat → Nat} {vo va : Nat → Value} {ow : Nat → Nat} {ws : List Int} {al : Bool} {T : Nat → RT}
theorem RMem.same (h : RMem w0 N mb n vw vth tb vo va ow ws al T w) {j : Nat} (hj : j < n) (k : ThS N ow j (tb j) (vo j) (va j) w ow (va j) (T j) w') : RMem w0 N mb n vw vth tb vo va ow ws al T w' := by
  have := h.step hj k
  rw [updN_self, updN_self] at this
  exact this
theorem RMem.alert (h : RMem w0 N mb n vw vth tb vo va ow ws al T w) (b : Bool) : RMem w0 N mb n vw vth tb vo va ow ws b T (w.setCell ⟨mb, 1, none⟩ (.bool b)) ∧ KeptX [85] w (w.setCell ⟨mb, 1, none⟩ (.bool b)) := by
  have k : KeptX [85] w (w.setCell ⟨mb, 1, none⟩ (.bool b)) := KeptX.refl.put h.mv.blk (by simp) _
  have hs := storedAt h.mv.blk 1 (.bool b)
  simp only [List.setIfInBounds_toArray, List.set_cons_zero, List.set_cons_succ] at hs
  exact ⟨⟨⟨hs, k.row h.mv.rowW (by simp)⟩, h.lo, k.row h.row (by simp), fun i hi => (h.th i hi).kept k (by simp) (by simp) (by simp), h.inj, h.low.setCell (p := ⟨mb, 1, none⟩) h.lo _, h.nw⟩, k⟩
theorem RMem.word (h : RMem w0 N mb n vw vth tb vo va ow ws al T w) {g cap a : Nat} (hv : vw = .slice (some ⟨g, 0, none⟩) ws.length cap) (ha : a < ws.length) (x : Int) :
    RMem w0 N mb n vw vth tb vo va ow (ws.set a x) al T (w.setCell ⟨g, a, none⟩ (.int .i64 x)) ∧ KeptX [2] w (w.setCell ⟨g, a, none⟩ (.int .i64 x)) := by
  obtain ⟨r1, r2⟩ := h.mv.rowW
  rcases r2 with ⟨_, z⟩ | ⟨g', cap', cur, e, q1, q2, q3, q4, q5, q6⟩
  · omega
  · rw [hv] at e
    injection e with e1 e2 e3
    injection e1 with e1
    injection e1 with e1
    subst e1 e3
    have k : KeptX [2] w (w.setCell ⟨g, a, none⟩ (.int .i64 x)) := KeptX.refl.put q2 (by simp) _
    have hs := storedAt q2 a (.int .i64 x)
    refine ⟨⟨⟨k _ _ _ h.mv.blk (by simp), ?_⟩, h.lo, k.row h.row (by simp), fun i hi => (h.th i hi).kept k (by simp) (by simp) (by simp), h.inj, h.low.setCell (p := ⟨g, a, none⟩) q1 _, h.nw⟩, k⟩
    refine ⟨by simp [intsL], .inr ⟨g, cap, _, ?_, q1, hs, ?_, q4, ?_, ?_⟩⟩
    · rw [hv, List.length_set]
    · rw [List.length_set]; exact q3
    · rw [Array.size_setIfInBounds]; exact q5
    · rw [List.length_set, Array.toList_setIfInBounds, List.take_set, q6]
      simp [intsL, List.map_set]
theorem RMem.drewM (h : RMem w0 N mb n vw vth tb vo va ow ws al T w) : RMem w0 N mb n vw vth tb vo va ow ws al T w.drew := h.kept (X := []) KeptX.refl.drew (by simp) h.low.drew
theorem step_fin {k j : Nat} {wa w9 : World} {ws' : List Int} {al' : Bool} {t1 : RT} {ow9 : Nat → Nat} {va9 : Value} (Ra : RMem w0 N mb n vw vth tb vo va ow ws' al' T wa) (hj : j < n) (K : KeptX [116, 97, 85, 2] w wa)
    (hsb : stepB k ws al (T j) = (t1, ws', al')) (G9 : ThS N ow j (tb j) (vo j) (va j) wa ow9 va9 (beginT k t1) w9) :
    ∃ ow' va', RMem w0 N mb n vw vth tb vo va' ow' (stepMS k ⟨ws, al, T⟩ j).ws (stepMS k ⟨ws, al, T⟩ j).al (stepMS k ⟨ws, al, T⟩ j).T w9 ∧ KeptX [116, 97, 85, 2] w w9 := by
  refine ⟨ow9, updN va j va9, ?_, K.trans ((ThS.keptX (Ra.th j hj) G9).mono (by simp))⟩
  unfold stepMS
  simp only [hsb]
  exact Ra.step hj G9
end
def BeginC : Prop := ∀ (base mb j tb : Nat) (ow : Nat → Nat) (vw vth vo va : Value) (ws : List Int) (al : Bool) (t : RT) (w : World), MV base mb vw vth ws al w → ThB base ow j tb vo va t w → base ≤ w.heap.size → t.ops.length ≤ 65536 → t.i ≤ t.ops.length → t.ans.length ≤ t.i → ws.length ≤ 100000 →
    Calls Try.prog 33 #[.pointer (some ⟨mb, 0, none⟩), .pointer (some ⟨tb, 0, none⟩)] w (DoneEnd base ow j tb vo va (beginT ws.length t) w)
def DoneStep (w0 : World) (N mb n : Nat) (vw vth : Value) (tb : Nat → Nat) (vo : Nat → Value) (S' : MS) (w : World) (e : Ending) (w' : World) : Prop :=
  e = .returned (.tuple #[]) ∧ ∃ ow' va', RMem w0 N mb n vw vth tb vo va' ow' S'.ws S'.al S'.T w' ∧ KeptX [116, 97, 85, 2] w w'
end Go.Proofs.Ytimkkeomdkbcjaa

/-
  The document's machine: its memory as it is laid, and what a trace of it tells. No condition of its own.
-/
namespace Go.Proofs.Ytimkkeomdkbcjaa
open Go.Conc Go.RowKit
open Go.ConcN renaming upd → updN
open Go.ConcN (upd_ne upd_same)
def opsLL (LL : List (List OpD)) (i : Nat) : List OpD := (LL.getD i []).take 65536
theorem opsLL_len (LL : List (List OpD)) (i : Nat) : (opsLL LL i).length ≤ 65536 := by unfold opsLL; simp; omega
def T0 (LL : List (List OpD)) (n i : Nat) : RT := if i < n then newT (opsLL LL i) else newT []
section
variable {w0 w w2 : World} {N mb n : Nat} {vw vth : Value} {tb : Nat → Nat} {vo va : Nat → Value} {ow : Nat → Nat} {ws : List Int} {al : Bool} {T : Nat → RT}
theorem RMem.start {LL : List (List OpD)} {v : Value} (h : ThA w0 N LL tb vo n v w) (hN : w0.heap.size = N) :
    RMem w0 N w.heap.size n (.slice none 0 0) v tb vo (fun _ => .slice none 0 0) (fun _ => 0) [] false (T0 LL n) (w.alloc (.cells #[.slice none 0 0, .bool false, v] 85)) := by
  refine ⟨⟨heap_alloc_new w _, World.ownsRow_nil _ _ _ _⟩, h.nw, h.row.alloc _, fun i hi => ?_, h.inj, h.low.alloc h.nw _, hN⟩
  obtain ⟨a, b, c⟩ := h.th i hi
  have e : T0 LL n i = newT (opsLL LL i) := if_pos hi
  rw [e]
  exact ⟨(Below.heap_alloc _ _ _ (Array.getElem?_eq_some_iff.1 a).1).trans a, c, b.alloc _, World.ownsRow_nil _ _ _ _, fun g hg => by cases hg⟩
theorem RMem.more (h : RMem w0 N mb n vw vth tb vo va ow ws al T w) {x : Int} {v' : Value} (hA : Appended (w.alloc (.cells #[.int .i64 x] 2)) N 2 vw ws.length 1 (intsL ws ++ [.int .i64 x]) v' w2) :
    w2.heap[mb]? = some (.cells #[vw, .bool al, vth] 85 (0, 0)) ∧ RMem w0 N mb n v' vth tb vo va ow (ws ++ [x]) al T (w2.setCell ⟨mb, 0, none⟩ v') := by
  obtain ⟨ho, hg, hsh⟩ := hA
  have h2 := h.mv.rowW.alloc (.cells #[.int .i64 x] 2)
  have hsz : N ≤ (w.alloc (.cells #[.int .i64 x] 2)).heap.size := by have := h.size; simp; omega
  have kp : KeptX [2] w w2 := fun b cs e hbb he => by
    have hb' : (w.alloc (.cells #[.int .i64 x] 2)).heap[b]? = some (.cells cs e (0, 0)) := (Below.heap_alloc _ _ _ (Array.getElem?_eq_some_iff.1 hbb).1).trans hbb
    refine (hg.block b (Array.getElem?_eq_some_iff.1 hb').1 fun z => ?_).trans hb'
    obtain ⟨cc, hcc⟩ := ownsRow_type h2 z.symm
    rw [hb'] at hcc
    simp at hcc
    exact he (by rw [hcc.2]; simp)
  have hB := kp _ _ _ h.mv.blk (by simp)
  have hs := storedAt hB 0 v'
  simp only [List.setIfInBounds_toArray, List.set_cons_zero] at hs
  have k2 : KeptX [2, 85] w (w2.setCell ⟨mb, 0, none⟩ v') := (kp.mono (Y := [2, 85]) (by simp)).put hB (by simp) v'
  refine ⟨hB, ⟨⟨hs, ownsRow_set (by rw [List.length_append, intsL_snoc]; exact ho) hB (by decide)⟩, h.lo, k2.row h.row (by simp), fun i hi => (h.th i hi).kept k2 (by simp) (by simp) (by simp), h.inj, ?_, h.nw⟩⟩
  exact (grown_below h2 (h.low.alloc h.size _) hsz hg).setCell (p := ⟨mb, 0, none⟩) h.lo v'
end
theorem tr_in {w0 w w' : World} {N mb n : Nat} {vw vth : Value} {tb : Nat → Nat} {vo va : Nat → Value} {ow : Nat → Nat} {ws : List Int} {al : Bool} {T : Nat → RT} (h : RMem w0 N mb n vw vth tb vo va ow ws al T w)
    {base B1 B2 ub : Nat} {vs vord v75 vst : Value} {u : TU} (hU : TuB base ub vs vord u w) (hk : KeptX [63] w w') (hr : w'.ownsRow B1 75 1 v75 n ((List.range n).map va)) {xs : List Int} (hst : w'.ownsRow B2 2 1 vst xs.length (intsL xs)) (st : Bool) :
    TrIn w' (.agg #[v75, vord, vst, .bool st]) ⟨(List.range n).map fun i => (T i).ans, u.ord, xs, st⟩ := by
  refine ⟨v75, vord, vst, rfl, ?_, intsAt_row (hk.row hU.rowO (by simp)), intsAt_row hst⟩
  obtain ⟨p, cap, e1, _, q⟩ := row_cells hr
  refine ⟨p, cap, by rw [e1]; simp, fun hne => ?_⟩
  have hn : 0 < n := by
    rcases Nat.eq_zero_or_pos n with z | z
    · subst z; exact absurd rfl hne
    · exact z
  obtain ⟨g, c, e2, _, hg, hc⟩ := q hn
  refine ⟨g, 0, e2, fun i l hi => ?_⟩
  have hlt : i < n := by
    have := (List.getElem?_eq_some_iff.1 hi).1
    simpa using this
  obtain rfl : (T i).ans = l := by simpa [hlt] using hi
  refine ⟨va i, ?_, ansIn_row (lo := N) (own := fun _ => .sh) ⟨hk.row (h.th i hlt).rowA (by simp), fun _ _ => rfl⟩⟩
  rw [Nat.zero_add, cellAt hg, hc i hlt]
  simp [hlt]
theorem tr_eq {k n : Nat} {ws : List Int} {LL : List (List OpD)} {sch : List Int} {most : Int} {S : MS} {ord : List Int} (hk : min ws.length 65 = k) (hn : min LL.length 64 = n) (hG : gameB k ws LL sch most = gOf k n S ord) (hl : k ≤ S.ws.length) :
    trB ws LL sch most = ⟨(List.range n).map fun i => (S.T i).ans, ord, S.ws.take k ++ [bit S.al], decide (0 < leftO (gameB k ws LL sch most).co n)⟩ := by
  have e : wordsL k (gOf k n S ord).m = S.ws.take k := by
    apply List.ext_getElem?
    intro i
    unfold wordsL
    by_cases hi : i < k
    · rw [List.getElem?_take_of_lt hi]
      simp only [List.getElem?_map, List.getElem?_range hi, Option.map_some]
      show some (S.ws.getD i 0) = _
      rw [List.getD_eq_getElem?_getD, List.getElem?_eq_getElem (by omega)]
      rfl
    · rw [List.getElem?_eq_none (by simp; omega), List.getElem?_eq_none (by simp; omega)]
  unfold trB
  rw [hk, hn]
  rw [hG, e]
  rfl
def lenAt (w : World) (b c : Nat) : Nat := match w.cell? ⟨b, c, none⟩ with
  | some (.slice _ n _) => n
  | _ => 0
theorem lenAt_tu {base ub : Nat} {vs vo : Value} {u : TU} {w : World} (h : TuB base ub vs vo u w) : lenAt w ub 4 = u.ord.length := by
  obtain ⟨p, c, e⟩ := slice_of h.rowO
  unfold lenAt
  rw [cellAt h.blk 4]
  simp [tuC, e]
end Go.Proofs.Ytimkkeomdkbcjaa

/-
  The document's machine: whose turn it is; the turn's memory as it changes. No condition of its own.
-/
namespace Go.Proofs.Ytimkkeomdkbcjaa
open Go.Conc Go.RowKit
open Go.ConcN renaming upd → updN
open Go.ConcN (upd_ne upd_same)
structure PkS (base ub : Nat) (vs vo : Value) (u : TU) (w w' : World) : Prop where
  tu : TuB base ub vs vo u w'
  kept : KeptX [120, 3] w w'
  low : Below base w w'
section
variable {base ub : Nat} {vs vo v' : Value} {u u' : TU} {w w' w1 w2 : World}
theorem PkS.refl (h : TuB base ub vs vo u w) : PkS base ub vs vo u w w := ⟨h, KeptX.refl, Below.refl _ _⟩
theorem PkS.drew (h : PkS base ub vs vo u w w') : PkS base ub vs vo u w w'.drew := ⟨⟨h.tu.blk, h.tu.lo, h.tu.rowS, h.tu.rowO, h.tu.ne⟩, h.kept.drew, h.low.drew⟩
theorem PkS.cell (h : PkS base ub vs vo u w w') (k : Nat) : w'.cell? ⟨ub, k, none⟩ = (tuC vs vo u)[k]? := by
  rw [cellAt h.tu.blk k]
  simp
theorem PkS.free (h : PkS base ub vs vo u w w') (k : Nat) : w'.frozen? ⟨ub, k, none⟩ = false := freeAt h.tu.blk k
theorem PkS.put (h : PkS base ub vs vo u w w') (c : Nat) (v : Value) (hc : (tuC vs vo u).set c v = tuC vs vo u') (hs : u'.sch = u.sch) (ho : u'.ord = u.ord) : PkS base ub vs vo u' w (w'.setCell ⟨ub, c, none⟩ v) := by
  have hb := storedAt h.tu.blk c v
  have e : ((tuC vs vo u).toArray.setIfInBounds c v) = (tuC vs vo u').toArray := by rw [List.setIfInBounds_toArray, hc]
  rw [e] at hb
  refine ⟨⟨hb, h.tu.lo, ?_, ?_, h.tu.ne⟩, h.kept.put h.tu.blk (by simp) v, h.low.setCell (p := ⟨ub, c, none⟩) h.tu.lo v⟩
  · rw [hs]; exact ownsRow_set h.tu.rowS h.tu.blk (by decide)
  · rw [ho]; exact ownsRow_set h.tu.rowO h.tu.blk (by decide)
theorem PkS.more (h : PkS base ub vs vo u w w1) (hb : base ≤ w.heap.size) (x : Int) (hA : Appended (w1.alloc (.cells #[.int .i64 x] 3)) base 3 vo u.ord.length 1 (intsL u.ord ++ [.int .i64 x]) v' w2) :
    w2.heap[ub]? = some (.cells (tuC vs vo u).toArray 120 (0, 0)) ∧ PkS base ub vs v' { u with ord := u.ord ++ [x] } w (w2.setCell ⟨ub, 4, none⟩ v') := by
  obtain ⟨ho, hg, hsh⟩ := hA
  have h2 := h.tu.rowO.alloc (.cells #[.int .i64 x] 3)
  have hsz : base ≤ (w1.alloc (.cells #[.int .i64 x] 3)).heap.size := by have := h.low.size; simp; omega
  have kp : ∀ {b : Nat} {cs : Array Value} {e : TypeId}, w1.heap[b]? = some (.cells cs e (0, 0)) → e ≠ 3 → w2.heap[b]? = some (.cells cs e (0, 0)) := fun {b cs e} hbb he => by
    have hb' : (w1.alloc (.cells #[.int .i64 x] 3)).heap[b]? = some (.cells cs e (0, 0)) := (Below.heap_alloc _ _ _ (Array.getElem?_eq_some_iff.1 hbb).1).trans hbb
    refine (hg.block b (Array.getElem?_eq_some_iff.1 hb').1 fun z => ?_).trans hb'
    obtain ⟨cc, hcc⟩ := ownsRow_type h2 z.symm
    rw [hb'] at hcc
    simp at hcc
    exact he hcc.2
  have hB := kp h.tu.blk (by decide)
  have hs := storedAt hB 4 v'
  have e : ((tuC vs vo u).toArray.setIfInBounds 4 v') = (tuC vs v' { u with ord := u.ord ++ [x] }).toArray := by rw [List.setIfInBounds_toArray]; rfl
  rw [e] at hs
  have rS : w2.ownsRow base 3 1 vs u.sch.length (intsL u.sch) := ownsRow_keep (h.tu.rowS.alloc (.cells #[.int .i64 x] 3)) fun g o hgo hh => by
    refine (hg.block g (Array.getElem?_eq_some_iff.1 hh).1 fun z => ?_).trans hh
    exact h.tu.ne g hgo z.symm
  have hlt : ∀ g, vs.ownBlock = some g → g < w1.heap.size := fun g hg => by
    obtain ⟨cc, hcc⟩ := ownsRow_type h.tu.rowS hg
    exact (Array.getElem?_eq_some_iff.1 hcc).1
  refine ⟨hB, ⟨hs, h.tu.lo, ownsRow_set rS hB (by decide), ownsRow_set ?_ hB (by decide), fun g hgs z => ?_⟩, ?_, ?_⟩
  · show w2.ownsRow base 3 1 v' (u.ord ++ [x]).length (intsL (u.ord ++ [x]))
    rw [List.length_append, intsL_snoc]
    exact ho
  · rcases hsh with ⟨rfl, _⟩ | ⟨g', cap, rfl, _, q | q⟩
    · cases z
    · have e : g' = g := by simpa [Value.ownBlock] using z
      subst e
      exact h.tu.ne g' hgs q
    · have e : g' = g := by simpa [Value.ownBlock] using z
      subst e
      have := hlt g' hgs
      simp at q
      omega
  · have hk : KeptX [120, 3] w w2 := fun b cs e hbb he => kp (h.kept b cs e hbb he) (fun z => he (by rw [z]; simp))
    exact hk.put hB (by simp) v'
  · exact (grown_below h2 (h.low.alloc (by have := h.low.size; omega) _) hsz hg).setCell (p := ⟨ub, 4, none⟩) h.tu.lo v'
end
def DonePick (base ub n : Nat) (vs : Value) (E : Nat → Bool) (u : TU) (w : World) (e : Ending) (w' : World) : Prop :=
  ∃ r u' vo', e = .returned (.int .i64 r) ∧ PickOk n E u r u' ∧ PkS base ub vs vo' u' w w'
end Go.Proofs.Ytimkkeomdkbcjaa
