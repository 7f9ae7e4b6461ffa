/-
  Merged out of: Fen0 Fen1 Fen2 Fen3 Fen4. No condition of its own.
-/
import Derived.Test.YtimkkeomdkbcjaaPlaysP11
import Derived.CallsIn
import Derived.TacticsIn
import Derived.TacticsInMore
import Derived.BigFrameIn
import Derived.BigRegionIn
import Derived.LoopIn
import Derived.LoopNIn
set_option linter.unusedVariables false
set_option linter.unusedSimpArgs false
/-
  The fenced twin of Calls: which functions are entered. No condition of its own.
-/
namespace Go.Proofs.Ytimkkeomdkbcjaa.FF
open Go.RowKit
abbrev waitsL : List FuncId := [9, 10, 11, 12, 13, 22, 23, 39, 40, 52, 54, 87, 88]
variable {P : Program} {f : FuncId} {fn : Func}
theorem step_nil (w : World) :
    CallsIn (Fence.list [9, 10, 11, 12, 13, 22, 23, 39, 40, 52, 54, 87, 88] none) 0 Try.prog 39 #[.nilIface] w fun e w' => e = .returned (.tuple #[]) ∧ w = w' := by
  gi_enter Try.func39, Try.ntmps39
  gi_wp2
  go_end0
  exact ⟨rfl, rfl⟩
theorem b32_any (x : Bool) (w : World) : CallsIn (Fence.list [9, 10, 11, 12, 13, 22, 23, 39, 40, 52, 54, 87, 88] none) 0 Try.prog 54 #[.bool x] w fun e w' => e = .returned (.int .u32 (if x then 1 else 0)) ∧ w = w' := by
  cases x
  all_goals
    gi_enter Try.func54, Try.ntmps54
    gi_wp2
    go_ret
    exact ⟨rfl, rfl⟩
theorem boolLoad (b off : Nat) (x : Bool) (w : World) (hc : w.cell? ⟨b, off, none⟩ = some (.int .u32 (bit x))) :
    CallsIn (Fence.list [9, 10, 11, 12, 13, 22, 23, 39, 40, 52, 54, 87, 88] none) 0 Try.prog 40 #[.pointer (some ⟨b, off, none⟩)] w fun e w' => e = .returned (.bool x) ∧ w = w' := by
  have hl := load32 hc
  have hi := Try.func52
  cases x <;> simp only [bit, Bool.false_eq_true, if_true, if_false] at hc hl
  all_goals
    gi_enter Try.func40, Try.ntmps40
    gi_wp2
    go_ret
    exact ⟨rfl, rfl⟩
end Go.Proofs.Ytimkkeomdkbcjaa.FF

/-
  The fenced twin of Flags: which functions are entered. No condition of its own.
-/
namespace Go.Proofs.Ytimkkeomdkbcjaa.FF
open Go.RowKit
variable {Y : Lay} {al : Bool} {a : Nat → Nat} {n : Nat} {w : World}
theorem stepM (h : Mem Y al a n w) (q : Bool) (hn : n ≤ 1000000000000000) : CallsIn (Fence.list [9, 10, 11, 12, 13, 22, 23, 39, 40, 52, 54, 87, 88] none) 0 Try.prog 39 #[sv Y q] w (Done Y (.tuple #[]) al a (n + inc q) w) := by
  cases q
  · exact (step_nil w).mono fun e w' ⟨he, hw⟩ => by subst hw; exact ⟨he, h, Below.refl _ _⟩
  · have hc : w.cell? ⟨Y.sb, 0, none⟩ = some (.int .i64 (n : Int)) := by rw [cell_of h.steps]; rfl
    have hb : n ≤ 1000000000000000 := hn
    have hm := method_steps
    have s1 : CallsIn (Fence.list [9, 10, 11, 12, 13, 22, 23, 39, 40, 52, 54, 87, 88] none) 0 Try.prog 88 #[.pointer (some ⟨Y.sb, 0, none⟩)] w fun e w' => e = .returned (.tuple #[]) ∧ w.setCell ⟨Y.sb, 0, none⟩ (.int .i64 (n + 1)) = w' := by
      have hf := free_of h.steps 0
      gi_enter Try.func88, Try.ntmps88
      gi_wp2
      go_end0
      exact ⟨rfl, rfl⟩
    have s2 : CallsIn (Fence.list [9, 10, 11, 12, 13, 22, 23, 39, 40, 52, 54, 87, 88] none) 0 Try.prog 39 #[.iface 35 (.pointer (some ⟨Y.sb, 0, none⟩))] w fun e w' => e = .returned (.tuple #[]) ∧ w.setCell ⟨Y.sb, 0, none⟩ (.int .i64 (n + 1)) = w' := by
      clear hc hb
      gi_enter Try.func39, Try.ntmps39
      gi_wp2_with (gi_at_call 88; refine s1.mono ?_; rintro e w' ⟨rfl, rfl⟩)
      go_end0
      exact ⟨rfl, rfl⟩
    exact s2.mono fun e w' ⟨he, hw⟩ => by subst hw; exact ⟨he, h.step, (Below.refl _ _).setCell h.ns _⟩
theorem flagLoad (h : Mem Y al a n w) (q : Bool) (hn : n ≤ 1000000000000000) : CallsIn (Fence.list [9, 10, 11, 12, 13, 22, 23, 39, 40, 52, 54, 87, 88] none) 0 Try.prog 23 #[.pointer (some ⟨Y.bb, 1, none⟩), sv Y q] w (Done Y (.bool al) al a (n + inc q) w) := by
  have S := Lib.hid (fun (w : World) (h : Mem Y al a n w) => stepM h q hn)
  have H := Lib.hid h
  clear h
  generalize hsv : sv Y q = s at S ⊢
  gi_enter Try.func23, Try.ntmps23
  gi_wp2_with (first | (gi_at_call 39; refine (S.out _ H.out).mono ?_; rintro e w1 ⟨rfl, h1, hb1⟩; have hc := cell_of h1.bar 1; simp only [List.getElem?_toArray, List.getElem?_cons_succ, List.getElem?_cons_zero] at hc) | (gi_at_call 40; refine (boolLoad _ _ al _ (by assumption)).mono ?_; rintro e w2 ⟨rfl, rfl⟩))
  go_ret
  exact ⟨rfl, by assumption, by assumption⟩
theorem alerted (h : Mem Y al a n w) (q : Bool) (hn : n ≤ 1000000000000000) : CallsIn (Fence.list [9, 10, 11, 12, 13, 22, 23, 39, 40, 52, 54, 87, 88] none) 0 Try.prog 13 #[.pointer (some ⟨Y.bb, 0, none⟩), sv Y q] w (Done Y (.bool al) al a (n + inc q) w) := by
  have S := Lib.hid (flagLoad h q hn)
  clear h
  generalize hsv : sv Y q = s at S ⊢
  gi_enter Try.func13, Try.ntmps13
  gi_wp2_with (gi_at_call 23; refine (S.out).mono ?_; rintro e w1 ⟨rfl, h1, hb1⟩; have H1 := Lib.hid h1; clear h1)
  go_ret
  exact ⟨rfl, H1.out, by assumption⟩
end Go.Proofs.Ytimkkeomdkbcjaa.FF

/-
  The fenced twin of Load: which functions are entered. No condition of its own.
-/
namespace Go.Proofs.Ytimkkeomdkbcjaa.FF
open Go.RowKit
variable {Y : Lay} {al : Bool} {a : Nat → Nat} {n : Nat} {w : World}
theorem StepM (h : Mem Y al a n w) (hn : n ≤ 1000000000000000) : CallsIn (Fence.list [9, 10, 11, 12, 13, 22, 23, 39, 40, 52, 54, 87, 88] none) 0 Try.prog 88 #[.pointer (some ⟨Y.sb, 0, none⟩)] w (Done Y (.tuple #[]) al a (n + 1) w) := by
  have hc : w.cell? ⟨Y.sb, 0, none⟩ = some (.int .i64 (n : Int)) := by rw [cell_of h.steps]; rfl
  have hb : n ≤ 1000000000000000 := hn
  have s1 : CallsIn (Fence.list [9, 10, 11, 12, 13, 22, 23, 39, 40, 52, 54, 87, 88] none) 0 Try.prog 88 #[.pointer (some ⟨Y.sb, 0, none⟩)] w fun e w' => e = .returned (.tuple #[]) ∧ w.setCell ⟨Y.sb, 0, none⟩ (.int .i64 (n + 1)) = w' := by
    have hf := free_of h.steps 0
    gi_enter Try.func88, Try.ntmps88
    gi_wp2
    go_end0
    exact ⟨rfl, rfl⟩
  exact s1.mono fun e w' ⟨he, hw⟩ => by subst hw; exact ⟨he, h.step, (Below.refl _ _).setCell h.ns _⟩
theorem load_nil (h : Mem Y al a n w) {i : Nat} (hi : i < Y.k) (ha : a i ≤ 1000000000000000) :
    CallsIn (Fence.list [9, 10, 11, 12, 13, 22, 23, 39, 40, 52, 54, 87, 88] none) 0 Try.prog 87 #[.pointer (some ⟨Y.r i, 0, none⟩), .nilIface] w (Done Y (.int .i64 (told (Y.L i) (a i + 1))) al (fun j => if j = i then a i + 1 else a j) n w) := by
  generalize hA : a i = A at *
  generalize hT : told (Y.L i) (A + 1) = T
  have HA := Lib.hid hA
  have HT := Lib.hid hT
  clear hA hT
  by_cases hL : Y.L i = []
  · have hs := h.src i hi
    have h0 := cell_of hs 0
    have h1 := cell_of hs 1
    have hf := free_of hs 1
    simp only [List.getElem?_toArray, List.getElem?_cons_succ, List.getElem?_cons_zero] at h0 h1
    rw [HA.out] at h1
    have hlen : (Y.L i).length ≤ 1000000000000000 := h.short i hi
    have hl : (Y.L i).length = 0 := by rw [hL]; rfl
    have E1 : T = 0 := by rw [← HT.out]; simp [told, hL]
    rw [hl] at h0
    have HM := Lib.hid h
    have HE := Lib.hid E1
    clear hL h hs hl hlen E1
    have M2 := Lib.hid (HM.out.load hi)
    gi_enter Try.func87, Try.ntmps87
    gi_wp2
    go_ret
    exact ⟨by rw [HE.out]; rfl, HA.out ▸ M2.out, (Below.refl _ _).setCell (HM.out.nr i hi) _⟩
  · obtain ⟨g, cs, e, hg, hcs⟩ := h.list i hi hL
    have hs := h.src i hi
    have h0 := cell_of hs 0
    have h1 := cell_of hs 1
    have hf := free_of hs 1
    simp only [List.getElem?_toArray, List.getElem?_cons_succ, List.getElem?_cons_zero] at h0 h1
    rw [HA.out] at h1
    have hlen : (Y.L i).length ≤ 1000000000000000 := h.short i hi
    rw [e] at h0
    have hpos : 0 < (Y.L i).length := by cases hx : Y.L i with | nil => exact absurd hx hL | cons _ _ => simp
    generalize hl : (Y.L i).length = len at *
    have HM := Lib.hid h
    have Hg := Lib.hid hg
    have Hcs := Lib.hid hcs
    have Hl := Lib.hid hl
    have HL := Lib.hid hL
    have He := Lib.hid e
    clear hg hcs hl hL h e hs
    have M2 := Lib.hid (HM.out.load hi)
    by_cases hlt : (len : Int) < (A : Int) + 1
    · have E1 : T = (Y.L i).getD (len - 1) 0 := by
        rw [← HT.out, (told_mem HL.out (A + 1) (by omega)).2, Hl.out]; congr 1; omega
      have hc : (w.setCell ⟨Y.r i, 1, none⟩ (.int .i64 ((A : Int) + 1))).cell? ⟨g, len - 1, none⟩ = some (.int .i64 T) := by
        rw [cell_of (c := cs) (t := 2) ((set_off (ne_of Hg.out (HM.out.src i hi) (by decide)) _ _).trans Hg.out), Hcs.out _ (by omega), E1]
      clear E1
      gi_enter Try.func87, Try.ntmps87
      gi_wp2
      gi_region
      gi_wp2
      go_ret
      exact ⟨rfl, HA.out ▸ M2.out.draws _, below_drewN ((Below.refl _ _).setCell (HM.out.nr i hi) _) _⟩
    · have E1 : T = (Y.L i).getD A 0 := by
        rw [← HT.out, (told_mem HL.out (A + 1) (by omega)).2, Hl.out]; congr 1; omega
      have hc : (w.setCell ⟨Y.r i, 1, none⟩ (.int .i64 ((A : Int) + 1))).cell? ⟨g, A, none⟩ = some (.int .i64 T) := by
        rw [cell_of (c := cs) (t := 2) ((set_off (ne_of Hg.out (HM.out.src i hi) (by decide)) _ _).trans Hg.out), Hcs.out _ (by omega), E1]
      clear E1
      gi_enter Try.func87, Try.ntmps87
      gi_wp2
      gi_region
      gi_wp2
      go_ret
      exact ⟨rfl, HA.out ▸ M2.out.draws _, below_drewN ((Below.refl _ _).setCell (HM.out.nr i hi) _) _⟩
theorem load_steps (h : Mem Y al a n w) {i : Nat} (hi : i < Y.k) (ha : a i ≤ 1000000000000000) (hn : n ≤ 1000000000000000) :
    CallsIn (Fence.list [9, 10, 11, 12, 13, 22, 23, 39, 40, 52, 54, 87, 88] none) 0 Try.prog 87 #[.pointer (some ⟨Y.r i, 0, none⟩), .iface 35 (.pointer (some ⟨Y.sb, 0, none⟩))] w (Done Y (.int .i64 (told (Y.L i) (a i + 1))) al (fun j => if j = i then a i + 1 else a j) (n + 1) w) := by
  generalize hA : a i = A at *
  generalize hT : told (Y.L i) (A + 1) = T
  have HA := Lib.hid hA
  have HT := Lib.hid hT
  clear hA hT
  have SM := Lib.hid (StepM h hn)
  have hm := method_steps
  have hmn := h.steps
  clear h hmn
  gi_enter Try.func87, Try.ntmps87
  gi_wp2_with fail
  refine SM.out.mono ?_
  rintro e w1 ⟨rfl, h, hb1⟩
  have HB := Lib.hid hb1
  clear hb1 SM
  by_cases hL : Y.L i = []
  · have hs := h.src i hi
    have h0 := cell_of hs 0
    have h1 := cell_of hs 1
    have hf := free_of hs 1
    simp only [List.getElem?_toArray, List.getElem?_cons_succ, List.getElem?_cons_zero] at h0 h1
    rw [HA.out] at h1
    have hlen : (Y.L i).length ≤ 1000000000000000 := h.short i hi
    have hl : (Y.L i).length = 0 := by rw [hL]; rfl
    have E1 : T = 0 := by rw [← HT.out]; simp [told, hL]
    rw [hl] at h0
    have HM := Lib.hid h
    have HE := Lib.hid E1
    clear hL h hs hl hlen E1
    have M2 := Lib.hid (HM.out.load hi)
    gi_wp2
    go_ret
    exact ⟨by rw [HE.out]; rfl, HA.out ▸ M2.out, HB.out.setCell (HM.out.nr i hi) _⟩
  · obtain ⟨g, cs, e, hg, hcs⟩ := h.list i hi hL
    have hs := h.src i hi
    have h0 := cell_of hs 0
    have h1 := cell_of hs 1
    have hf := free_of hs 1
    simp only [List.getElem?_toArray, List.getElem?_cons_succ, List.getElem?_cons_zero] at h0 h1
    rw [HA.out] at h1
    have hlen : (Y.L i).length ≤ 1000000000000000 := h.short i hi
    rw [e] at h0
    have hpos : 0 < (Y.L i).length := by cases hx : Y.L i with | nil => exact absurd hx hL | cons _ _ => simp
    generalize hl : (Y.L i).length = len at *
    have HM := Lib.hid h
    have Hg := Lib.hid hg
    have Hcs := Lib.hid hcs
    have Hl := Lib.hid hl
    have HL := Lib.hid hL
    have He := Lib.hid e
    clear hg hcs hl hL h e hs
    have M2 := Lib.hid (HM.out.load hi)
    by_cases hlt : (len : Int) < (A : Int) + 1
    · have E1 : T = (Y.L i).getD (len - 1) 0 := by
        rw [← HT.out, (told_mem HL.out (A + 1) (by omega)).2, Hl.out]; congr 1; omega
      have hc : (w1.setCell ⟨Y.r i, 1, none⟩ (.int .i64 ((A : Int) + 1))).cell? ⟨g, len - 1, none⟩ = some (.int .i64 T) := by
        rw [cell_of (c := cs) (t := 2) ((set_off (ne_of Hg.out (HM.out.src i hi) (by decide)) _ _).trans Hg.out), Hcs.out _ (by omega), E1]
      clear E1
      gi_wp2
      gi_region
      gi_wp2
      go_ret
      exact ⟨rfl, HA.out ▸ M2.out.draws _, below_drewN (HB.out.setCell (HM.out.nr i hi) _) _⟩
    · have E1 : T = (Y.L i).getD A 0 := by
        rw [← HT.out, (told_mem HL.out (A + 1) (by omega)).2, Hl.out]; congr 1; omega
      have hc : (w1.setCell ⟨Y.r i, 1, none⟩ (.int .i64 ((A : Int) + 1))).cell? ⟨g, A, none⟩ = some (.int .i64 T) := by
        rw [cell_of (c := cs) (t := 2) ((set_off (ne_of Hg.out (HM.out.src i hi) (by decide)) _ _).trans Hg.out), Hcs.out _ (by omega), E1]
      clear E1
      gi_wp2
      gi_region
      gi_wp2
      go_ret
      exact ⟨rfl, HA.out ▸ M2.out.draws _, below_drewN (HB.out.setCell (HM.out.nr i hi) _) _⟩
theorem loadM (h : Mem Y al a n w) (q : Bool) {i : Nat} (hi : i < Y.k) (ha : a i ≤ 1000000000000000) (hn : n ≤ 1000000000000000) :
    CallsIn (Fence.list [9, 10, 11, 12, 13, 22, 23, 39, 40, 52, 54, 87, 88] none) 0 Try.prog 87 #[.pointer (some ⟨Y.r i, 0, none⟩), sv Y q] w (Done Y (.int .i64 (told (Y.L i) (a i + 1))) al (fun j => if j = i then a i + 1 else a j) (n + inc q) w) := by
  cases q
  · exact load_nil h hi ha
  · exact load_steps h hi ha hn
end Go.Proofs.Ytimkkeomdkbcjaa.FF

/-
  The fenced twin of Limit: which functions are entered. No condition of its own.
-/
namespace Go.Proofs.Ytimkkeomdkbcjaa.FF
open Go.RowKit
variable {Y : Lay} {al : Bool} {a : Nat → Nat} {n : Nat} {w : World}
theorem load_next {j : Nat} (h : Mem Y al (bump a j) n w) (q : Bool) (hj : j < Y.k) (ha : a j ≤ 1000000000000000) (hn : n ≤ 1000000000000000) :
    CallsIn (Fence.list [9, 10, 11, 12, 13, 22, 23, 39, 40, 52, 54, 87, 88] none) 0 Try.prog 87 #[.pointer (some ⟨Y.r j, 0, none⟩), sv Y q] w (Done Y (.int .i64 (next Y a j)) al (bump a (j + 1)) (n + inc q) w) := by
  have := loadM h q hj (by rw [bump_at]; exact ha) hn
  rw [bump_at] at this
  rw [← bump_succ, bump_at]
  exact this
theorem limit_one (h : Mem Y al a n w) (q : Bool) (hk : Y.k = 1) (ha : a 0 ≤ 1000000000000000) (hn : n ≤ 1000000000000000) :
    CallsIn (Fence.list [9, 10, 11, 12, 13, 22, 23, 39, 40, 52, 54, 87, 88] none) 0 Try.prog 12 #[.pointer (some ⟨Y.bb, 0, none⟩), sv Y q] w (Done Y (.int .i64 (lim (next Y a) 0)) al (bump a 1) (n + inc q) w) := by
  have hb := bar_cell h (by omega)
  have hs := arr_cell h (i := 0) (by omega)
  have hc := h.kc
  have L0 := Lib.hid (load_next (j := 0) ((bump_zero a).symm ▸ h) q (by omega) ha hn)
  have HK := Lib.hid hk
  rw [hk] at hb hc
  have hm := method_rising
  clear h hk
  generalize sv Y q = s at *
  show CallsIn (Fence.list [9, 10, 11, 12, 13, 22, 23, 39, 40, 52, 54, 87, 88] none) 0 _ _ _ _ (Done Y (.int .i64 (next Y a 0)) _ _ _ _)
  by_cases hc1 : Y.cap = 1
  · have HC := Lib.hid hc1
    rw [hc1] at hb
    clear hc1 hc
    gi_enter Try.func12, Try.ntmps12
    gi_wp2_with (gi_at_call 87; refine L0.out.mono ?_; rintro e w1 ⟨rfl, h1, hb1⟩; have hb' := bar_cell h1 (by rw [HK.out]; omega); rw [HK.out, HC.out] at hb'; have H1 := Lib.hid h1; clear h1)
    refine wpIn_loop_rounds 1 ?_
    rw [roundsIn_succ]
    gi_wp2
    go_ret
    exact ⟨rfl, H1.out, hb1⟩
  · have hc2 : 2 ≤ Y.cap := by omega
    generalize hg : Y.cap = cap at *
    have HC := Lib.hid hg
    clear hc1 hc hg
    gi_enter Try.func12, Try.ntmps12
    gi_wp2_with (gi_at_call 87; refine L0.out.mono ?_; rintro e w1 ⟨rfl, h1, hb1⟩; have hb' := bar_cell h1 (by rw [HK.out]; omega); rw [HK.out, HC.out] at hb'; have H1 := Lib.hid h1; clear h1)
    refine wpIn_loop_rounds 1 ?_
    rw [roundsIn_succ]
    gi_wp2
    go_ret
    exact ⟨rfl, H1.out, hb1⟩
set_option maxHeartbeats 1000000 in
theorem limit_many (h : Mem Y al a n w) (q : Bool) (hk : 2 ≤ Y.k) (ha : ∀ i, i < Y.k → a i ≤ 1000000000000000) (hn : n + Y.k ≤ 1000000000000000) :
    CallsIn (Fence.list [9, 10, 11, 12, 13, 22, 23, 39, 40, 52, 54, 87, 88] none) 0 Try.prog 12 #[.pointer (some ⟨Y.bb, 0, none⟩), sv Y q] w (Done Y (.int .i64 (lim (next Y a) (Y.k - 1))) al (bump a Y.k) (n + Y.k * inc q) w) := by
  have hb := bar_cell h (by omega)
  have hs := arr_cell h (i := 0) (by omega)
  have hc := h.kc
  have hkk := h.kk
  have L0 := Lib.hid (load_next (j := 0) ((bump_zero a).symm ▸ h) q (by omega) (ha 0 (by omega)) (by omega))
  have hm := method_rising
  have HN : Hid (∀ (j : Nat) (m : Nat) (w' : World), j < Y.k → m ≤ 1000000000000000 → Mem Y al (bump a j) m w' → CallsIn (Fence.list [9, 10, 11, 12, 13, 22, 23, 39, 40, 52, 54, 87, 88] none) 0 Try.prog 87 #[.pointer (some ⟨Y.r j, 0, none⟩), sv Y q] w' (Done Y (.int .i64 (next Y a j)) al (bump a (j + 1)) (m + inc q) w')) :=
    fun j m w' hj hm h' => load_next h' q hj (ha j hj) hm
  have hi : inc q ≤ 1 := by cases q <;> simp [inc]
  have HI := Lib.hid hi
  have HA := Lib.hid ha
  clear h ha hi
  generalize hsv : sv Y q = s at *
  clear hsv
  generalize hf : next Y a = f at *
  generalize hin : inc q = d at *
  clear hin hf
  generalize hkg : Y.k = k at *
  have HK := Lib.hid hkg
  clear hkg
  have hc2 : 2 ≤ Y.cap := by omega
  generalize hg : Y.cap = cap at *
  have HC := Lib.hid hg
  clear hg
  gi_enter Try.func12, Try.ntmps12
  gi_wp2_with (gi_at_call 87; refine L0.out.mono ?_; rintro e w1 ⟨rfl, h1, hb1⟩; have hb' := bar_cell h1 (by rw [HK.out]; omega); rw [HK.out, HC.out] at hb'; have H1 := Lib.hid h1; clear h1)
  have hb2 := Lib.hid hb1
  clear hb1
  gi_loopw [5, 32] (fun v i wr => ∃ j : Nat, j ≤ k - 1 ∧ i = .int .i64 j ∧ v = .int .i64 (lim f j) ∧ Mem Y al (bump a (j + 1)) (n + (j + 1) * d) wr ∧ Below Y.N w wr) (fun _ i _ => k - (intOf i).toNat)
  case atStart => exact ⟨0, by omega, rfl, rfl, by rw [Nat.zero_add, Nat.one_mul]; exact H1.out, hb2.out⟩
  case round =>
    obtain ⟨j, hj, rfl, rfl, hM, hB⟩ := hrel
    have H3 := Lib.hid hM
    have B3 := Lib.hid hB
    clear hM hB
    by_cases hlt : j < k - 1
    · have hcell : wr.cell? ⟨Y.sa, 1 + j, none⟩ = some (.iface 27 (.pointer (some ⟨Y.r (j + 1), 0, none⟩))) := by
        rw [Nat.add_comm 1 j]; exact arr_cell H3.out (i := j + 1) (by rw [HK.out]; omega)
      have hmul : (j + 1) * d ≤ j + 1 := by
        have := Nat.mul_le_mul_left (j + 1) HI.out
        omega
      have LN := Lib.hid (HN.out (j + 1) _ wr (by omega) (by omega) H3.out)
      have HE := Lib.hid (lim_min f j)
      gi_wp2_with (gi_at_call 87; refine LN.out.mono ?_; rintro e w2 ⟨rfl, h2, hb3⟩; have H4 := Lib.hid h2; have B4 := Lib.hid hb3; clear h2 hb3)
      all_goals
        go_roundw
        case rel => exact ⟨j + 1, by omega, by go_num, by rw [← HE.out], by have := H4.out; rw [show n + (j + 1 + 1) * d = n + (j + 1) * d + d by rw [Nat.succ_mul (j + 1)]; omega]; exact this, B3.out.trans B4.out⟩
        case measure => simp [intOf]; omega
    · obtain rfl : j = k - 1 := by omega
      gi_wp2
      go_ret
      refine ⟨rfl, ?_, B3.out⟩
      have := H3.out
      rw [show k - 1 + 1 = k by omega] at this
      exact this
end Go.Proofs.Ytimkkeomdkbcjaa.FF

/-
  The fenced twin of Lean: which functions are entered. No condition of its own.
-/
namespace Go.Proofs.Ytimkkeomdkbcjaa.FF
open Go.RowKit
variable {Y : Lay} {al : Bool} {a : Nat → Nat} {n : Nat} {w : World}
set_option maxHeartbeats 2000000 in
theorem lean_any (h : Mem Y false a n w) (q : Bool) (hk : 1 ≤ Y.k) (Q : Int) (T : Nat) (hT : T ≤ 1024) (ha : ∀ i, a i ≤ 1000000) (hn : n ≤ 1000000) :
    CallsIn (Fence.list [9, 10, 11, 12, 13, 22, 23, 39, 40, 52, 54, 87, 88] none) 0 Try.prog 22 #[.pointer (some ⟨Y.bb, 0, none⟩), sv Y q, .int .i64 Q, .int .i64 T] w (DoneL Y (leanR Y Q T 0 0 0 a) false n (inc q) w) := by
  have hm := method_rising
  have hi : inc q ≤ 1 := by cases q <;> simp [inc]
  have hkk := h.kk
  have HL : Hid (∀ (b : Nat → Nat) (j m : Nat) (w' : World), j < Y.k → b j ≤ 1000000000 → m ≤ 1000000000 → Mem Y false b m w' → CallsIn (Fence.list [9, 10, 11, 12, 13, 22, 23, 39, 40, 52, 54, 87, 88] none) 0 Try.prog 87 #[.pointer (some ⟨Y.r j, 0, none⟩), sv Y q] w' (Done Y (.int .i64 (next Y b j)) false (upd b j) (m + inc q) w')) :=
    fun b j m w' hj hb hm h' => loadM h' q hj (by omega) (by omega)
  have HA : Hid (∀ (b : Nat → Nat) (m : Nat) (w' : World), m ≤ 1000000000 → Mem Y false b m w' → CallsIn (Fence.list [9, 10, 11, 12, 13, 22, 23, 39, 40, 52, 54, 87, 88] none) 0 Try.prog 13 #[.pointer (some ⟨Y.bb, 0, none⟩), sv Y q] w' (Done Y (.bool false) false b (m + inc q) w')) :=
    fun b m w' hm h' => alerted h' q (by omega)
  have H0 := Lib.hid h
  have Ha := Lib.hid ha
  have HI := Lib.hid hi
  clear h ha hi
  generalize hR : leanR Y Q T 0 0 0 a = R
  have HR := Lib.hid hR
  clear hR
  generalize sv Y q = s at *
  generalize inc q = d at *
  gi_enter Try.func22, Try.ntmps22
  gi_wp2
  gi_loopw [10, 11, 14] (fun jv mv iv wr => ∃ (i j : Nat) (m : Int) (b : Nat → Nat), i ≤ T ∧ j < Y.k ∧ iv = .int .i64 i ∧ jv = .int .i64 j ∧ mv = .int .i64 m ∧ Hid (leanR Y Q (T - i) i j m b = R) ∧ Hid (∀ x, b x ≤ a x + i) ∧ Mem Y false b (n + 2 * i * d) wr ∧ Below Y.N w wr) (fun _ _ i _ => T - (intOf i).toNat)
  case atStart => exact ⟨0, 0, 0, a, by omega, by omega, rfl, rfl, rfl, HR, fun x => by omega, by simpa using H0.out, Below.refl _ _⟩
  case round =>
    obtain ⟨i, j, m, b, hi, hj, rfl, rfl, rfl, HE, Hb, hM, hB⟩ := hrel
    have H3 := Lib.hid hM
    have B3 := Lib.hid hB
    clear hM hB
    by_cases hlt : i < T
    · have hd : 2 * i * d ≤ 2 * i := by have := Nat.mul_le_mul_left (2 * i) HI.out; omega
      have hbar := bar_cell H3.out (by omega)
      have hmul : n + 2 * i * d + d + d = n + 2 * (i + 1) * d := by
        have : 2 * (i + 1) * d = 2 * i * d + 2 * d := by rw [Nat.mul_add, Nat.add_mul]
        omega
      have HMul := Lib.hid hmul
      have hd1 := HI.out
      have Hd := Lib.hid hd
      have Hd1 := Lib.hid hd1
      have CA := Lib.hid (HA.out b (n + 2 * i * d) wr (by have := HI.out; omega) H3.out)
      have hbj : b j ≤ 1000000000 := by have := Hb.out j; have := Ha.out j; omega
      have CL : Hid (∀ w', Mem Y false b (n + 2 * i * d + d) w' → CallsIn (Fence.list [9, 10, 11, 12, 13, 22, 23, 39, 40, 52, 54, 87, 88] none) 0 Try.prog 87 #[.pointer (some ⟨Y.r j, 0, none⟩), s] w' (Done Y (.int .i64 (next Y b j)) false (upd b j) (n + 2 * i * d + d + d) w')) :=
        fun w' h' => HL.out b j _ w' hj hbj (by have := HI.out; omega) h'
      have HS : Hid (leanR Y Q (T - i - 1 + 1) i j m b = R) := by have := HE.out; rwa [show T - i - 1 + 1 = T - i by omega]
      clear hmul hd hd1 hbj
      generalize hv : next Y b j = v at *
      have HV := Lib.hid hv
      clear hv
      gi_wp2_with fail
      refine CA.out.mono ?_
      rintro e w1 ⟨rfl, h1, hb1⟩
      have hc1 := bar_cell h1 (by omega)
      have hs1 := arr_cell h1 (i := j) hj
      have H4 := Lib.hid h1
      have B4 := Lib.hid hb1
      clear h1 hb1
      gi_wp2_with fail
      refine (CL.out _ H4.out).mono ?_
      rintro e w2 ⟨rfl, h2, hb2⟩
      have hc2 := bar_cell h2 (by omega)
      have H5 := Lib.hid h2
      have B5 := Lib.hid hb2
      clear h2 hb2
      by_cases hvq : v < Q
      · gi_wp2
        go_roundw
        case rel =>
          refine ⟨i + 1, j, m, upd b j, by omega, hj, by go_num, rfl, rfl, ?_, upd_le Hb.out, HMul.out ▸ H5.out, (B3.out.trans B4.out).trans B5.out⟩
          have := HS.out
          rw [leanR, HV.out, if_pos hvq] at this
          rwa [show T - (i + 1) = T - i - 1 by omega]
        case measure => simp [intOf]; omega
      · have hvQ : Q ≤ v := by omega
        by_cases hj0 : j = 0
        · have hj1 : ((j : Int) == 0) = true := by rw [beq_iff_eq]; omega
          have HM : (if j = 0 ∨ v < m then v else m) = v := if_pos (.inl hj0)
          have HJ0 := Lib.hid hj0
          clear hj0
          have HM' := Lib.hid HM
          clear HM
          by_cases hl : j + 1 = Y.k
          · have hl1 : ((j : Int) + 1 == (Y.k : Int)) = true := by rw [beq_iff_eq]; omega
            have HL1 := Lib.hid hl
            clear hl
            have HF : R = (v, 0, upd b j, i + 1) := by
              have := HS.out
              rw [leanR, HV.out, if_neg (show ¬ v < Q by omega), if_pos HL1.out, HM'.out] at this
              exact this.symm
            have HF' := Lib.hid HF
            clear HF
            gi_wp2
            go_ret2
            rw [HF'.out]
            exact ⟨rfl, HMul.out ▸ H5.out, (B3.out.trans B4.out).trans B5.out⟩
          · have hl1 : ((j : Int) + 1 == (Y.k : Int)) = false := by rw [beq_eq_false_iff_ne]; omega
            have hjk : j + 1 < Y.k := by omega
            gi_wp2
            go_roundw
            case rel =>
              refine ⟨i + 1, j + 1, v, upd b j, by omega, hjk, by go_num, by go_num, rfl, ?_, upd_le Hb.out, HMul.out ▸ H5.out, (B3.out.trans B4.out).trans B5.out⟩
              have := HS.out
              rw [leanR, HV.out, if_neg (show ¬ v < Q by omega), if_neg hl, HM'.out] at this
              rwa [show T - (i + 1) = T - i - 1 by omega]
            case measure => simp [intOf]; omega
        · have hj1 : ((j : Int) == 0) = false := by rw [beq_eq_false_iff_ne]; omega
          by_cases hvm : v < m
          · have _hx := hvm
            have HM : (if j = 0 ∨ v < m then v else m) = v := if_pos (.inr hvm)
            have HM' := Lib.hid HM
            clear HM
            by_cases hl : j + 1 = Y.k
            · have hl1 : ((j : Int) + 1 == (Y.k : Int)) = true := by rw [beq_iff_eq]; omega
              have HL1 := Lib.hid hl
              clear hl
              have HF : R = (v, 0, upd b j, i + 1) := by
                have := HS.out
                rw [leanR, HV.out, if_neg (show ¬ v < Q by omega), if_pos HL1.out, HM'.out] at this
                exact this.symm
              have HF' := Lib.hid HF
              clear HF
              gi_wp2
              go_ret2
              rw [HF'.out]
              exact ⟨rfl, HMul.out ▸ H5.out, (B3.out.trans B4.out).trans B5.out⟩
            · have hl1 : ((j : Int) + 1 == (Y.k : Int)) = false := by rw [beq_eq_false_iff_ne]; omega
              have hjk : j + 1 < Y.k := by omega
              gi_wp2
              go_roundw
              case rel =>
                refine ⟨i + 1, j + 1, v, upd b j, by omega, hjk, by go_num, by go_num, rfl, ?_, upd_le Hb.out, HMul.out ▸ H5.out, (B3.out.trans B4.out).trans B5.out⟩
                have := HS.out
                rw [leanR, HV.out, if_neg (show ¬ v < Q by omega), if_neg hl, HM'.out] at this
                rwa [show T - (i + 1) = T - i - 1 by omega]
              case measure => simp [intOf]; omega
          · have hvm2 : m ≤ v := by omega
            have HM : (if j = 0 ∨ v < m then v else m) = m := if_neg (by rintro (h | h); exact hj0 h; exact hvm h)
            have HM' := Lib.hid HM
            clear HM
            by_cases hl : j + 1 = Y.k
            · have hl1 : ((j : Int) + 1 == (Y.k : Int)) = true := by rw [beq_iff_eq]; omega
              have HL1 := Lib.hid hl
              clear hl
              have HF : R = (m, 0, upd b j, i + 1) := by
                have := HS.out
                rw [leanR, HV.out, if_neg (show ¬ v < Q by omega), if_pos HL1.out, HM'.out] at this
                exact this.symm
              have HF' := Lib.hid HF
              clear HF
              gi_wp2
              go_ret2
              rw [HF'.out]
              exact ⟨rfl, HMul.out ▸ H5.out, (B3.out.trans B4.out).trans B5.out⟩
            · have hl1 : ((j : Int) + 1 == (Y.k : Int)) = false := by rw [beq_eq_false_iff_ne]; omega
              have hjk : j + 1 < Y.k := by omega
              gi_wp2
              go_roundw
              case rel =>
                refine ⟨i + 1, j + 1, m, upd b j, by omega, hjk, by go_num, by go_num, rfl, ?_, upd_le Hb.out, HMul.out ▸ H5.out, (B3.out.trans B4.out).trans B5.out⟩
                have := HS.out
                rw [leanR, HV.out, if_neg (show ¬ v < Q by omega), if_neg hl, HM'.out] at this
                rwa [show T - (i + 1) = T - i - 1 by omega]
              case measure => simp [intOf]; omega
    · obtain rfl : i = T := by omega
      have HF : R = (0, 4, b, i) := by
        have := HE.out
        rw [Nat.sub_self, leanR] at this
        exact this.symm
      have HF' := Lib.hid HF
      clear HF
      gi_wp2
      go_ret2
      rw [HF'.out]
      exact ⟨rfl, H3.out, B3.out⟩
end Go.Proofs.Ytimkkeomdkbcjaa.FF
