/-
  The contract of a source's Load (rising.Load), over the memory of a barrier, with and without a stepper.
-/
import Derived.Test.YtimkkeomdkbcjaaFlags
namespace Go.Proofs.Ytimkkeomdkbcjaa
open Go.RowKit
set_option linter.unusedVariables false
variable {Y : Lay} {al : Bool} {a : Nat → Nat} {n : Nat} {w : World}

theorem StepM (h : Mem Y al a n w) (hn : n ≤ 1000000000000000) : Calls Try.prog 88 #[.pointer (some ⟨Y.sb, 0, none⟩)] w (Done Y (.tuple #[]) al a (n + 1) w) := by
  have hc : w.cell? ⟨Y.sb, 0, none⟩ = some (.int .i64 (n : Int)) := by rw [cell_of h.steps]; rfl
  have hb : n ≤ 1000000000000000 := hn
  have s1 : Calls Try.prog 88 #[.pointer (some ⟨Y.sb, 0, none⟩)] w fun e w' => e = .returned (.tuple #[]) ∧ w.setCell ⟨Y.sb, 0, none⟩ (.int .i64 (n + 1)) = w' := by
    have hf := free_of h.steps 0
    go_enter Try.func88, Try.ntmps88
    go_wp2
    go_end0
    exact ⟨rfl, rfl⟩
  exact s1.mono fun e w' ⟨he, hw⟩ => by subst hw; exact ⟨he, h.step, (Below.refl _ _).setCell h.ns _⟩

theorem load_nil (h : Mem Y al a n w) {i : Nat} (hi : i < Y.k) (ha : a i ≤ 1000000000000000) :
    Calls Try.prog 87 #[.pointer (some ⟨Y.r i, 0, none⟩), .nilIface] w (Done Y (.int .i64 (told (Y.L i) (a i + 1))) al (fun j => if j = i then a i + 1 else a j) n w) := by
  generalize hA : a i = A at *
  generalize hT : told (Y.L i) (A + 1) = T
  have HA := Lib.hid hA
  have HT := Lib.hid hT
  clear hA hT
  by_cases hL : Y.L i = []
  · have hs := h.src i hi
    have h0 := cell_of hs 0
    have h1 := cell_of hs 1
    have hf := free_of hs 1
    simp only [List.getElem?_toArray, List.getElem?_cons_succ, List.getElem?_cons_zero] at h0 h1
    rw [HA.out] at h1
    have hlen : (Y.L i).length ≤ 1000000000000000 := h.short i hi
    have hl : (Y.L i).length = 0 := by rw [hL]; rfl
    have E1 : T = 0 := by rw [← HT.out]; simp [told, hL]
    rw [hl] at h0
    have HM := Lib.hid h
    have HE := Lib.hid E1
    clear hL h hs hl hlen E1
    have M2 := Lib.hid (HM.out.load hi)
    go_enter Try.func87, Try.ntmps87
    go_wp2
    go_ret
    exact ⟨by rw [HE.out]; rfl, HA.out ▸ M2.out, (Below.refl _ _).setCell (HM.out.nr i hi) _⟩
  · obtain ⟨g, cs, e, hg, hcs⟩ := h.list i hi hL
    have hs := h.src i hi
    have h0 := cell_of hs 0
    have h1 := cell_of hs 1
    have hf := free_of hs 1
    simp only [List.getElem?_toArray, List.getElem?_cons_succ, List.getElem?_cons_zero] at h0 h1
    rw [HA.out] at h1
    have hlen : (Y.L i).length ≤ 1000000000000000 := h.short i hi
    rw [e] at h0
    have hpos : 0 < (Y.L i).length := by cases hx : Y.L i with | nil => exact absurd hx hL | cons _ _ => simp
    generalize hl : (Y.L i).length = len at *
    have HM := Lib.hid h
    have Hg := Lib.hid hg
    have Hcs := Lib.hid hcs
    have Hl := Lib.hid hl
    have HL := Lib.hid hL
    have He := Lib.hid e
    clear hg hcs hl hL h e hs
    have M2 := Lib.hid (HM.out.load hi)
    by_cases hlt : (len : Int) < (A : Int) + 1
    · have E1 : T = (Y.L i).getD (len - 1) 0 := by
        rw [← HT.out, (told_mem HL.out (A + 1) (by omega)).2, Hl.out]; congr 1; omega
      have hc : (w.setCell ⟨Y.r i, 1, none⟩ (.int .i64 ((A : Int) + 1))).cell? ⟨g, len - 1, none⟩ = some (.int .i64 T) := by
        rw [cell_of (c := cs) (t := 2) ((set_off (ne_of Hg.out (HM.out.src i hi) (by decide)) _ _).trans Hg.out), Hcs.out _ (by omega), E1]
      clear E1
      go_enter Try.func87, Try.ntmps87
      go_wp2
      go_quiet (fail)
      go_wp2
      go_ret
      exact ⟨rfl, HA.out ▸ M2.out.draws _, below_drewN ((Below.refl _ _).setCell (HM.out.nr i hi) _) _⟩
    · have E1 : T = (Y.L i).getD A 0 := by
        rw [← HT.out, (told_mem HL.out (A + 1) (by omega)).2, Hl.out]; congr 1; omega
      have hc : (w.setCell ⟨Y.r i, 1, none⟩ (.int .i64 ((A : Int) + 1))).cell? ⟨g, A, none⟩ = some (.int .i64 T) := by
        rw [cell_of (c := cs) (t := 2) ((set_off (ne_of Hg.out (HM.out.src i hi) (by decide)) _ _).trans Hg.out), Hcs.out _ (by omega), E1]
      clear E1
      go_enter Try.func87, Try.ntmps87
      go_wp2
      go_quiet (fail)
      go_wp2
      go_ret
      exact ⟨rfl, HA.out ▸ M2.out.draws _, below_drewN ((Below.refl _ _).setCell (HM.out.nr i hi) _) _⟩

theorem load_steps (h : Mem Y al a n w) {i : Nat} (hi : i < Y.k) (ha : a i ≤ 1000000000000000) (hn : n ≤ 1000000000000000) :
    Calls Try.prog 87 #[.pointer (some ⟨Y.r i, 0, none⟩), .iface 35 (.pointer (some ⟨Y.sb, 0, none⟩))] w (Done Y (.int .i64 (told (Y.L i) (a i + 1))) al (fun j => if j = i then a i + 1 else a j) (n + 1) w) := by
  generalize hA : a i = A at *
  generalize hT : told (Y.L i) (A + 1) = T
  have HA := Lib.hid hA
  have HT := Lib.hid hT
  clear hA hT
  have SM := Lib.hid (StepM h hn)
  have hm := method_steps
  have hmn := h.steps
  clear h hmn
  go_enter Try.func87, Try.ntmps87
  go_wp2_with fail
  refine SM.out.mono ?_
  rintro e w1 ⟨rfl, h, hb1⟩
  have HB := Lib.hid hb1
  clear hb1 SM
  by_cases hL : Y.L i = []
  · have hs := h.src i hi
    have h0 := cell_of hs 0
    have h1 := cell_of hs 1
    have hf := free_of hs 1
    simp only [List.getElem?_toArray, List.getElem?_cons_succ, List.getElem?_cons_zero] at h0 h1
    rw [HA.out] at h1
    have hlen : (Y.L i).length ≤ 1000000000000000 := h.short i hi
    have hl : (Y.L i).length = 0 := by rw [hL]; rfl
    have E1 : T = 0 := by rw [← HT.out]; simp [told, hL]
    rw [hl] at h0
    have HM := Lib.hid h
    have HE := Lib.hid E1
    clear hL h hs hl hlen E1
    have M2 := Lib.hid (HM.out.load hi)
    go_wp2
    go_ret
    exact ⟨by rw [HE.out]; rfl, HA.out ▸ M2.out, HB.out.setCell (HM.out.nr i hi) _⟩
  · obtain ⟨g, cs, e, hg, hcs⟩ := h.list i hi hL
    have hs := h.src i hi
    have h0 := cell_of hs 0
    have h1 := cell_of hs 1
    have hf := free_of hs 1
    simp only [List.getElem?_toArray, List.getElem?_cons_succ, List.getElem?_cons_zero] at h0 h1
    rw [HA.out] at h1
    have hlen : (Y.L i).length ≤ 1000000000000000 := h.short i hi
    rw [e] at h0
    have hpos : 0 < (Y.L i).length := by cases hx : Y.L i with | nil => exact absurd hx hL | cons _ _ => simp
    generalize hl : (Y.L i).length = len at *
    have HM := Lib.hid h
    have Hg := Lib.hid hg
    have Hcs := Lib.hid hcs
    have Hl := Lib.hid hl
    have HL := Lib.hid hL
    have He := Lib.hid e
    clear hg hcs hl hL h e hs
    have M2 := Lib.hid (HM.out.load hi)
    by_cases hlt : (len : Int) < (A : Int) + 1
    · have E1 : T = (Y.L i).getD (len - 1) 0 := by
        rw [← HT.out, (told_mem HL.out (A + 1) (by omega)).2, Hl.out]; congr 1; omega
      have hc : (w1.setCell ⟨Y.r i, 1, none⟩ (.int .i64 ((A : Int) + 1))).cell? ⟨g, len - 1, none⟩ = some (.int .i64 T) := by
        rw [cell_of (c := cs) (t := 2) ((set_off (ne_of Hg.out (HM.out.src i hi) (by decide)) _ _).trans Hg.out), Hcs.out _ (by omega), E1]
      clear E1
      go_wp2
      go_quiet (fail)
      go_wp2
      go_ret
      exact ⟨rfl, HA.out ▸ M2.out.draws _, below_drewN (HB.out.setCell (HM.out.nr i hi) _) _⟩
    · have E1 : T = (Y.L i).getD A 0 := by
        rw [← HT.out, (told_mem HL.out (A + 1) (by omega)).2, Hl.out]; congr 1; omega
      have hc : (w1.setCell ⟨Y.r i, 1, none⟩ (.int .i64 ((A : Int) + 1))).cell? ⟨g, A, none⟩ = some (.int .i64 T) := by
        rw [cell_of (c := cs) (t := 2) ((set_off (ne_of Hg.out (HM.out.src i hi) (by decide)) _ _).trans Hg.out), Hcs.out _ (by omega), E1]
      clear E1
      go_wp2
      go_quiet (fail)
      go_wp2
      go_ret
      exact ⟨rfl, HA.out ▸ M2.out.draws _, below_drewN (HB.out.setCell (HM.out.nr i hi) _) _⟩

theorem loadM (h : Mem Y al a n w) (q : Bool) {i : Nat} (hi : i < Y.k) (ha : a i ≤ 1000000000000000) (hn : n ≤ 1000000000000000) :
    Calls Try.prog 87 #[.pointer (some ⟨Y.r i, 0, none⟩), sv Y q] w (Done Y (.int .i64 (told (Y.L i) (a i + 1))) al (fun j => if j = i then a i + 1 else a j) (n + inc q) w) := by
  cases q
  · exact load_nil h hi ha
  · exact load_steps h hi ha hn
end Go.Proofs.Ytimkkeomdkbcjaa
