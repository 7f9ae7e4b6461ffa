/-
  Contracts of the flag's and the barrier's alarm functions, and of a source's Load, over the memory of a barrier (Mem).
-/
import Derived.Test.YtimkkeomdkbcjaaMem
import Derived.Deep.RegionWith
namespace Go.Proofs.Ytimkkeomdkbcjaa
open Go.RowKit
set_option linter.unusedVariables false

theorem b32_bit (x : Bool) (w : World) : Calls Try.prog 54 #[.bool x] w fun e w' => e = .returned (.int .u32 (bit x)) ∧ w = w' := b32_any x w
theorem bit_ne (x : Bool) : (bit x != 0) = x := by cases x <;> rfl

theorem boolSwap (b off : Nat) (x y : Bool) (w : World) (hc : w.cell? ⟨b, off, none⟩ = some (.int .u32 (bit x))) (hf : w.frozen? ⟨b, off, none⟩ = false) :
    Calls Try.prog 41 #[.pointer (some ⟨b, off, none⟩), .bool y] w fun e w' => e = .returned (.bool x) ∧ (w.setCell ⟨b, off, none⟩ (.int .u32 (bit y))).drew = w' := by
  have hl := swap32 (y := bit y) (w := w.drew) (a := ⟨b, off, none⟩) (x := bit x) hc hf
  have hx := bit_ne x
  go_enter Try.func41, Try.ntmps41
  go_wp2
  go_region_with (go_at_call 54; refine (b32_bit _ _).mono ?_; rintro e w' ⟨rfl, rfl⟩)
  go_wp2
  go_ret
  exact ⟨rfl, rfl⟩

variable {Y : Lay} {al : Bool} {a : Nat → Nat} {n : Nat} {w : World}

/-- 'it returned v, and the memory is so' -/
def Done (Y : Lay) (v : Value) (al : Bool) (a : Nat → Nat) (n : Nat) (w : World) (e : Ending) (w' : World) : Prop := e = .returned v ∧ Mem Y al a n w' ∧ Below Y.N w w'

theorem stepM (h : Mem Y al a n w) (q : Bool) (hn : n ≤ 1000000000000000) : Calls Try.prog 39 #[sv Y q] w (Done Y (.tuple #[]) al a (n + inc q) w) := by
  cases q
  · exact (step_nil w).mono fun e w' ⟨he, hw⟩ => by subst hw; exact ⟨he, h, Below.refl _ _⟩
  · have hc : w.cell? ⟨Y.sb, 0, none⟩ = some (.int .i64 (n : Int)) := by rw [cell_of h.steps]; rfl
    have hb : n ≤ 1000000000000000 := hn
    have hm := method_steps
    have s1 : Calls Try.prog 88 #[.pointer (some ⟨Y.sb, 0, none⟩)] w fun e w' => e = .returned (.tuple #[]) ∧ w.setCell ⟨Y.sb, 0, none⟩ (.int .i64 (n + 1)) = w' := by
      have hf := free_of h.steps 0
      go_enter Try.func88, Try.ntmps88
      go_wp2
      go_end0
      exact ⟨rfl, rfl⟩
    have s2 : Calls Try.prog 39 #[.iface 35 (.pointer (some ⟨Y.sb, 0, none⟩))] w fun e w' => e = .returned (.tuple #[]) ∧ w.setCell ⟨Y.sb, 0, none⟩ (.int .i64 (n + 1)) = w' := by
      clear hc hb
      go_enter Try.func39, Try.ntmps39
      go_wp2_with (go_at_call 88; refine s1.mono ?_; rintro e w' ⟨rfl, rfl⟩)
      go_end0
      exact ⟨rfl, rfl⟩
    exact s2.mono fun e w' ⟨he, hw⟩ => by subst hw; exact ⟨he, h.step, (Below.refl _ _).setCell h.ns _⟩

theorem flagLoad (h : Mem Y al a n w) (q : Bool) (hn : n ≤ 1000000000000000) : Calls Try.prog 23 #[.pointer (some ⟨Y.bb, 1, none⟩), sv Y q] w (Done Y (.bool al) al a (n + inc q) w) := by
  have S := Lib.hid (fun (w : World) (h : Mem Y al a n w) => stepM h q hn)
  have H := Lib.hid h
  clear h
  generalize hsv : sv Y q = s at S ⊢
  go_enter Try.func23, Try.ntmps23
  go_wp2_with (first | (go_at_call 39; refine (S.out _ H.out).mono ?_; rintro e w1 ⟨rfl, h1, hb1⟩; have hc := cell_of h1.bar 1; simp only [List.getElem?_toArray, List.getElem?_cons_succ, List.getElem?_cons_zero] at hc) | (go_at_call 40; refine (boolLoad _ _ al _ (by assumption)).mono ?_; rintro e w2 ⟨rfl, rfl⟩))
  go_ret
  exact ⟨rfl, by assumption, by assumption⟩

theorem flagSet (h : Mem Y al a n w) (q : Bool) (hn : n ≤ 1000000000000000) : Calls Try.prog 24 #[.pointer (some ⟨Y.bb, 1, none⟩), sv Y q] w (Done Y (.bool (!al)) true a (n + inc q) w) := by
  have S := Lib.hid (fun (w : World) (h : Mem Y al a n w) => stepM h q hn)
  have H := Lib.hid h
  clear h
  generalize hsv : sv Y q = s at S ⊢
  have hnot : ∀ (x : Bool) (w : World), (Op.unary .not (.bool x)).run Try.prog w = .ok (.bool (!x)) w := fun _ _ => rfl
  go_enter Try.func24, Try.ntmps24
  go_wp2_with fail
  refine (S.out _ H.out).mono ?_
  rintro e w1 ⟨rfl, h1, hb1⟩
  have hc := cell_of h1.bar 1
  have hf := free_of h1.bar 1
  simp only [List.getElem?_toArray, List.getElem?_cons_succ, List.getElem?_cons_zero] at hc
  have H1 := Lib.hid h1
  clear h1
  go_wp2_with fail
  refine (boolSwap _ _ al true _ hc hf).mono ?_
  rintro e w2 ⟨rfl, rfl⟩
  go_wp2_with fail
  go_ret
  exact ⟨rfl, (H1.out.flag true).drew, (hb1.setCell H1.out.nb _).drew⟩

theorem flagClear (h : Mem Y al a n w) (q : Bool) (hn : n ≤ 1000000000000000) : Calls Try.prog 25 #[.pointer (some ⟨Y.bb, 1, none⟩), sv Y q] w (Done Y (.bool al) false a (n + inc q) w) := by
  have S := Lib.hid (fun (w : World) (h : Mem Y al a n w) => stepM h q hn)
  have H := Lib.hid h
  clear h
  generalize hsv : sv Y q = s at S ⊢
  go_enter Try.func25, Try.ntmps25
  go_wp2_with fail
  refine (S.out _ H.out).mono ?_
  rintro e w1 ⟨rfl, h1, hb1⟩
  have hc := cell_of h1.bar 1
  have hf := free_of h1.bar 1
  simp only [List.getElem?_toArray, List.getElem?_cons_succ, List.getElem?_cons_zero] at hc
  have H1 := Lib.hid h1
  clear h1
  go_wp2_with fail
  refine (boolSwap _ _ al false _ hc hf).mono ?_
  rintro e w2 ⟨rfl, rfl⟩
  go_wp2_with fail
  go_ret
  exact ⟨rfl, (H1.out.flag false).drew, (hb1.setCell H1.out.nb _).drew⟩

theorem alerted (h : Mem Y al a n w) (q : Bool) (hn : n ≤ 1000000000000000) : Calls Try.prog 13 #[.pointer (some ⟨Y.bb, 0, none⟩), sv Y q] w (Done Y (.bool al) al a (n + inc q) w) := by
  have S := Lib.hid (flagLoad h q hn)
  clear h
  generalize hsv : sv Y q = s at S ⊢
  go_enter Try.func13, Try.ntmps13
  go_wp2_with (go_at_call 23; refine (S.out).mono ?_; rintro e w1 ⟨rfl, h1, hb1⟩; have H1 := Lib.hid h1; clear h1)
  go_ret
  exact ⟨rfl, H1.out, by assumption⟩

theorem alertM (h : Mem Y al a n w) (q : Bool) (hn : n ≤ 1000000000000000) : Calls Try.prog 14 #[.pointer (some ⟨Y.bb, 0, none⟩), sv Y q] w (Done Y (.bool (!al)) true a (n + inc q) w) := by
  have S := Lib.hid (flagSet h q hn)
  clear h
  generalize hsv : sv Y q = s at S ⊢
  go_enter Try.func14, Try.ntmps14
  go_wp2_with (go_at_call 24; refine (S.out).mono ?_; rintro e w1 ⟨rfl, h1, hb1⟩; have H1 := Lib.hid h1; clear h1)
  go_ret
  exact ⟨rfl, H1.out, by assumption⟩

theorem clearM (h : Mem Y al a n w) (q : Bool) (hn : n ≤ 1000000000000000) : Calls Try.prog 15 #[.pointer (some ⟨Y.bb, 0, none⟩), sv Y q] w (Done Y (.bool al) false a (n + inc q) w) := by
  have S := Lib.hid (flagClear h q hn)
  clear h
  generalize hsv : sv Y q = s at S ⊢
  go_enter Try.func15, Try.ntmps15
  go_wp2_with (go_at_call 25; refine (S.out).mono ?_; rintro e w1 ⟨rfl, h1, hb1⟩; have H1 := Lib.hid h1; clear h1)
  go_ret
  exact ⟨rfl, H1.out, by assumption⟩
end Go.Proofs.Ytimkkeomdkbcjaa
