/-
  The document's example, read and printed. What is read fits. No program in sight.
-/
import Derived.Test.YtdmhlhoimaeacaaDoorS6
import Derived.Test.YtdmhlhoimaeacaaDoorPrint1
namespace Go.Proofs.YtdmhlhoimaeacaaDoor
open Go.Lib PL
set_option linter.unusedVariables false

def exT : Word := [35, 32, 116, 119, 111, 32, 119, 114, 105, 116, 101, 114, 115, 44, 32, 111, 110, 101, 32, 114, 101, 97, 100, 101, 114, 10, 116, 111, 112, 105, 99, 32, 55, 32, 52, 10, 115, 99, 104, 101, 100, 117, 108, 101, 32, 48, 42, 51, 32, 49, 32, 49, 32, 50, 10, 116, 104, 114, 101, 97, 100, 32, 97, 10, 32, 32, 112, 117, 98, 108, 105, 115, 104, 32, 55, 32, 49, 48, 32, 50, 32, 120, 50, 10, 116, 104, 114, 101, 97, 100, 32, 98, 10, 32, 32, 115, 117, 98, 115, 99, 114, 105, 98, 101, 32, 55, 32, 97, 108, 108, 10, 32, 32, 112, 111, 108, 108, 32, 48, 32, 57, 32, 120, 51, 10, 32, 32, 101, 110, 100, 32, 48, 10]
def exF : Word := [116, 111, 112, 105, 99, 32, 55, 32, 52, 10, 115, 99, 104, 101, 100, 117, 108, 101, 32, 48, 42, 51, 32, 49, 42, 50, 32, 50, 10, 116, 104, 114, 101, 97, 100, 32, 97, 10, 32, 32, 112, 117, 98, 108, 105, 115, 104, 32, 55, 32, 49, 48, 32, 50, 32, 120, 50, 10, 116, 104, 114, 101, 97, 100, 32, 98, 10, 32, 32, 115, 117, 98, 115, 99, 114, 105, 98, 101, 32, 55, 32, 97, 108, 108, 10, 32, 32, 112, 111, 108, 108, 32, 48, 32, 57, 32, 120, 51, 10, 32, 32, 101, 110, 100, 32, 48, 10]
def exM : Word := [109, 111, 115, 116, 32, 53, 10, 109, 111, 115, 116, 32, 54, 10]
def exS : Scr := ⟨[⟨7, 4⟩], [⟨[97], [⟨3, 7, 10, 2⟩, ⟨3, 7, 10, 2⟩]⟩, ⟨[98], [⟨4, 7, 0, 0⟩, ⟨6, 0, 9, 0⟩, ⟨6, 0, 9, 0⟩, ⟨6, 0, 9, 0⟩, ⟨7, 0, 0, 0⟩]⟩], [0, 0, 0, 1, 1, 2], 0⟩
theorem ex_parse : parseF exT = (0, 0, exS) := by decide +kernel
theorem ex_most : parseF exM = (7, 2, Scr.empty) := by decide +kernel
theorem ex_check : checkF exS = 0 := by decide +kernel
theorem ex_print : printF exS = exF := by decide +kernel
/-! What is good fits. -/
theorem says_kind {o : Opn} (h : saysF o = true) : 1 ≤ o.k ∧ o.k ≤ 7 := by
  by_cases h4 : o.k = 4
  · omega
  · unfold saysF tellF at h
    rw [if_neg h4] at h
    cases hf : formsF.find? (fun g => g.kind = o.k) with
    | none =>
      have hf' : (formsF.find? fun f => decide (f.kind = o.k)) = none := hf
      rw [hf'] at h
      cases h
    | some f =>
      obtain ⟨h1, h2⟩ := find_kind hf
      rw [← h1]
      simp only [formsF, List.mem_cons, List.not_mem_nil, or_false] at h2
      rcases h2 with rfl | rfl | rfl | rfl | rfl | rfl <;> decide
theorem good_nums {S : Scr} (h : GoodScr S) : Nums S := by
  refine ⟨fun t ht => ?_, fun n hn => ?_, fun t ht o ho => ?_, ?_⟩
  · obtain ⟨h1, h2, h3⟩ := h.tops t ht
    exact ⟨h1, by unfold In64; omega⟩
  · have := h.sch n hn
    unfold In64; omega
  · obtain ⟨h1, h2⟩ := (h.thrs t ht).ops o ho
    have := says_kind h2
    exact ⟨by unfold In64; omega, h1.1, h1.2.1, h1.2.2⟩
  · have := h.most
    unfold In64; omega
theorem good_small {S : Scr} (h : GoodScr S) : SmallS S := by
  refine ⟨by have := h.topsL; omega, by have := h.thrsL; omega, by have := h.schL; omega, fun t ht => by have := (h.thrs t ht).len; omega, fun t ht => ?_⟩
  have := (h.thrs t ht).name
  unfold nameF at this
  simp only [Bool.and_eq_true, decide_eq_true_eq] at this
  omega
theorem good_of_nums {S : Scr} (h : checkF S = 0) (hN : Nums S) : GoodScr S := good_of_check h (fun t ht => (hN.tops t ht).1) (fun t ht o ho => (hN.ops t ht o ho).2)
theorem parse_good' (t : Word) : GoodScr (parseF t).2.2 := by
  rcases parse_good_or t with ⟨h, _⟩ | ⟨_, _, _, h⟩
  · exact h
  · rw [h]; exact good_empty
end Go.Proofs.YtdmhlhoimaeacaaDoor
