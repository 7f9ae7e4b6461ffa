/-
  The contract of the document's earliest.
-/
import Derived.Test.YtfcaebceklhbkaaDoorFirsts
namespace Go.Proofs.YtfcaebceklhbkaaDoor
open Go.RowKit
set_option linter.unusedVariables false

theorem set_at {w : World} {b : Nat} {c : Array Value} {t : TypeId} (h : w.heap[b]? = some (.cells c t (0, 0))) (i : Nat) (v : Value) :
    (w.setCell ⟨b, i, none⟩ v).heap[b]? = some (.cells (c.setIfInBounds i v) t (0, 0)) := by
  simp [World.setCell, Array.getElem?_modify, h]

theorem results_tmp_cell {fn : Func} {p u : Tmp} {ty : TypeId} (h : fn.results = #[.tmp u, .cell p ty]) (tmps : Array Value) (P : Program) (w : World) (v : Value) (x : Addr) (hp : tmps.getD p undef = .pointer (some x)) (hl : (loadVar ty x).run P w = .ok v w) :
    (results fn tmps).run P w = .ok (.tuple #[tmps.getD u undef, v]) w := by
  simp only [results, h]
  have hp' : tmps[p]?.getD undef = .pointer (some x) := by simpa using hp
  simp [Result.andThen, hp', asAddr, hl]
theorem load_item (w : World) (N : Nat) (a b d : Int) (h0 : w.cell? ⟨N, 0, none⟩ = some (.int .i64 a)) (h1 : w.cell? ⟨N, 1, none⟩ = some (.int .i64 b)) (h2 : w.cell? ⟨N, 2, none⟩ = some (.int .i64 d)) :
    (loadVar 73 ⟨N, 0, none⟩).run Tryd.prog w = .ok (.agg #[.int .i64 a, .int .i64 b, .int .i64 d]) w := by
  simp [loadVar, go_sem, h0, h1, h2]

set_option maxRecDepth 100000 in
set_option maxHeartbeats 600000000000 in
theorem earliest_walk (ro : Option Addr) (nr c : Nat) (A : Nat → Option Addr) (C : Nat → Nat) (R : Nat → List Seen4) (q : Int) (r0 : Nat) (s0 : Seen4) (w : World) (h : Readers w ro nr A C R) (hnr : nr ≤ 300000000000) (hlen : ∀ r, r < nr → (R r).length ≤ 300000000000) (he : er R q nr = some (r0, s0)) :
    Calls Tryd.prog 54 #[.slice ro nr c, .int .i64 q] w fun e w' => e = .returned (.tuple #[.int .i64 r0, .agg #[.int .i64 s0.a, .int .i64 s0.b, .int .i64 s0.d]]) ∧ Below w.heap.size w w' := by
  have HE := Lib.hid he
  have HLN := Lib.hid hlen
  have HB : Hid (Below w.heap.size w (w.alloc (.cells #[.int .i64 0, .int .i64 0, .int .i64 0] 73))) := (Below.refl _ _).alloc (Nat.le_refl _) _
  have HRD := Lib.hid (h.below HB.out)
  clear h he hlen
  go_enter Tryd.func54, Tryd.ntmps54
  go_wp2_with fail
  have hbl : (w.alloc (.cells #[.int .i64 0, .int .i64 0, .int .i64 0] 73)).heap[w.heap.size]? = some (.cells #[.int .i64 0, .int .i64 0, .int .i64 0] 73 (0, 0)) := heap_alloc_new w _
  generalize w.alloc (.cells #[.int .i64 0, .int .i64 0, .int .i64 0] 73) = w1 at *
  have HBL := Lib.hid hbl
  clear hbl
  generalize hN : w.heap.size = N at *
  have HN := Lib.hid hN
  clear hN
  go_loopw [6] (fun rv wr => ∃ r : Nat, r ≤ nr ∧ rv = .int .i64 r ∧ er R q r = none ∧ wr = w1) (fun rv _ => nr - (intOf rv).toNat)
  case atStart => exact ⟨0, by omega, rfl, rfl, by first | rfl | trivial⟩
  case round =>
    obtain ⟨r, hr, rfl, her, rfl⟩ := hrel
    have HER := Lib.hid her
    clear her
    by_cases hlt : r < nr
    · obtain ⟨g, o, rfl, hc⟩ : ∃ g o, ro = some ⟨g, o, none⟩ ∧ wr.cell? ⟨g, o + r, none⟩ = some (.slice (A r) (R r).length (C r)) := by
        rcases HRD.out.1 with h | ⟨g, o, h1, h2⟩
        · omega
        · exact ⟨g, o, h1, h2 r hlt⟩
      have HS := Lib.hid (HRD.out.2 r hlt).1
      have hl := HLN.out r hlt
      have HF := Lib.hid (cur_full R q r)
      have HC0 : Hid (cur R q r 0 = none) := (cur_zero R q r).trans HER.out
      generalize hLn : (R r).length = ln at *
      generalize A r = ar at *
      generalize C r = cr at *
      have HLn := Lib.hid hLn
      clear hLn
      go_wp2_with fail
      go_loopw [7] (fun iv wq => ∃ i : Nat, i ≤ ln ∧ iv = .int .i64 i ∧ cur R q r i = none ∧ wq = wr) (fun iv _ => ln - (intOf iv).toNat)
      case atStart => exact ⟨0, by omega, rfl, HC0.out, by first | rfl | trivial⟩
      case round =>
        obtain ⟨i, hi, rfl, hcu, rfl⟩ := hrel
        have HCU := Lib.hid hcu
        clear hcu
        by_cases hil : i < ln
        · obtain ⟨g2, o2, rfl, hc2⟩ : ∃ g o, ar = some ⟨g, o, none⟩ ∧ ∀ i, i < ln → wr.cell? ⟨g, o + i * 4, none⟩ = some (.int .i64 ((R r).getD i default).q) ∧ wr.cell? ⟨g, o + i * 4 + 1, none⟩ = some (.int .i64 ((R r).getD i default).a) ∧
              wr.cell? ⟨g, o + i * 4 + 2, none⟩ = some (.int .i64 ((R r).getD i default).b) ∧ wr.cell? ⟨g, o + i * 4 + 3, none⟩ = some (.int .i64 ((R r).getD i default).d) := by
            rcases HS.out with h | ⟨g, o, h1, h2⟩
            · have := HLn.out; rw [h] at this; simp at this; omega
            · exact ⟨g, o, h1, by rw [← HLn.out]; exact h2⟩
          obtain ⟨d1, d2, d3, d4⟩ := hc2 i hil
          clear hc2
          have hcs := cur_succ R q r i
          rw [HCU.out] at hcs
          simp only at hcs
          by_cases hqq : ((R r).getD i default).q = q
          · rw [if_pos hqq] at hcs
            have hx := er_cur hcs (by rw [HLn.out]; omega) hlt
            rw [HE.out] at hx
            simp only [Option.some.injEq, Prod.mk.injEq] at hx
            obtain ⟨rfl, rfl⟩ := hx
            clear hcs
            have hq1 := hqq
            generalize ((R r0).getD i default).q = q' at *
            subst hqq
            generalize ha : ((R r0).getD i default).a = a at *
            generalize hb : ((R r0).getD i default).b = b at *
            generalize hd : ((R r0).getD i default).d = d at *
            have HA := Lib.hid ha
            have HBB := Lib.hid hb
            have HDD := Lib.hid hd
            clear ha hb hd
            have hcl0 : wr.cell? ⟨N, 0, none⟩ = some (.int .i64 0) := by rw [cell_of HBL.out]; rfl
            have hcl1 : wr.cell? ⟨N, 1, none⟩ = some (.int .i64 0) := by rw [cell_of HBL.out]; rfl
            have hcl2 : wr.cell? ⟨N, 2, none⟩ = some (.int .i64 0) := by rw [cell_of HBL.out]; rfl
            have hf0 := free_of HBL.out 0
            have hf1 := free_of HBL.out 1
            have hf2 := free_of HBL.out 2
            clear hq1
            go_wp2_with fail
            go_region
            go_wp2_with fail
            have HL3 : Hid (Below N w (((wr.setCell ⟨N, 0, none⟩ (.int .i64 a)).setCell ⟨N, 1, none⟩ (.int .i64 b)).setCell ⟨N, 2, none⟩ (.int .i64 d)).drew) := (((HB.out.setCell (Nat.le_refl _) _).setCell (Nat.le_refl _) _).setCell (Nat.le_refl _) _).drew
            have hb3 : (((wr.setCell ⟨N, 0, none⟩ (.int .i64 a)).setCell ⟨N, 1, none⟩ (.int .i64 b)).setCell ⟨N, 2, none⟩ (.int .i64 d)).drew.heap[N]? = some (.cells #[.int .i64 a, .int .i64 b, .int .i64 d] 73 (0, 0)) := by
              have e1 := set_at HBL.out 0 (.int .i64 a)
              have e2 := set_at e1 1 (.int .i64 b)
              have e3 := set_at e2 2 (.int .i64 d)
              have e4 : #[Value.int .i64 a, .int .i64 b, .int .i64 d] = (((#[Value.int .i64 0, .int .i64 0, .int .i64 0] : Array Value).setIfInBounds 0 (.int .i64 a)).setIfInBounds 1 (.int .i64 b)).setIfInBounds 2 (.int .i64 d) := rfl
              rw [e4]
              exact e3
            generalize (((wr.setCell ⟨N, 0, none⟩ (.int .i64 a)).setCell ⟨N, 1, none⟩ (.int .i64 b)).setCell ⟨N, 2, none⟩ (.int .i64 d)).drew = w3 at *
            have h0 : w3.cell? ⟨N, 0, none⟩ = some (.int .i64 a) := by rw [cell_of hb3]; rfl
            have h1 : w3.cell? ⟨N, 1, none⟩ = some (.int .i64 b) := by rw [cell_of hb3]; rfl
            have h2 : w3.cell? ⟨N, 2, none⟩ = some (.int .i64 d) := by rw [cell_of hb3]; rfl
            clear hb3
            try simp only [Exit.inBlock, Exit.then]
            refine bodyPost_ret (v := .tuple #[.int .i64 r0, .agg #[.int .i64 a, .int .i64 b, .int .i64 d]]) ?_ rfl ⟨by rw [HA.out, HBB.out, HDD.out], by rw [HN.out]; exact HL3.out⟩
            refine results_tmp_cell (fn := Tryd.f54) (u := 4) (p := 5) (ty := 73) rfl _ _ w3 _ ⟨N, 0, none⟩ ?_ (load_item w3 N a b d h0 h1 h2)
            rfl
          · rw [if_neg hqq] at hcs
            have HCS := Lib.hid hcs
            have hqe : (((R r).getD i default).q == q) = false := by rw [beq_eq_false_iff_ne]; exact hqq
            clear hcs hqq
            generalize ((R r).getD i default).q = q' at *
            go_wp2_with fail
            go_roundw
            case rel => exact ⟨i + 1, by omega, by go_num, HCS.out, by first | rfl | trivial⟩
            case measure => simp [intOf]; omega
        · obtain rfl : i = ln := by omega
          go_wp2_with fail
          go_roundw
          case rel => exact ⟨r + 1, by omega, by go_num, by rw [← HF.out]; exact HCU.out, by first | rfl | trivial⟩
          case measure => simp [intOf]; omega
    · obtain rfl : r = nr := by omega
      have := HE.out
      rw [HER.out] at this
      cases this
end Go.Proofs.YtfcaebceklhbkaaDoor
