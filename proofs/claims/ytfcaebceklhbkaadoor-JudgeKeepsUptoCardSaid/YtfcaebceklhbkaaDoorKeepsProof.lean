/-
  The law JudgeKeeps returns true, and leaves its arguments, where they are of bulk at most 1048576; the tables as the program's text lays them.
-/
import Derived.Test.YtfcaebceklhbkaaDoorG5
import Derived.Test.YtfcaebceklhbkaaDoorKeeps
import Derived.SevenTiedAt
namespace Go.Proofs.YtfcaebceklhbkaaDoor.judgeKeeps
open Go.ChangeShapes Go.WideShapes Go.ChangeAt Go.RowKit
set_option linter.unusedVariables false

theorem laid_met (os : Os) : laidMet Tryd.prog laidL ((laidWorld os).forCall (fun _ _ => 0) ⟨#[], #[.slice none 0 0, .slice none 0 0, .int .u8 0, .slice none 0 0, .agg #[.int .i64 0, .int .i64 0, .int .i64 0, .int .i64 0]], []⟩).memory :=
  laidMet_of_run' 8 (by kernel_rfl) (by kernel_rfl)
theorem reads (os : Os) {H : Type} (enc : TypeId × Value → H) : ∃ places, DataW.whole enc Tryd.prog ((laidWorld os).forCall (fun _ _ => 0) ⟨#[], #[.slice none 0 0, .slice none 0 0, .int .u8 0, .slice none 0 0, .agg #[.int .i64 0, .int .i64 0, .int .i64 0, .int .i64 0]], []⟩).memory Tryd.f10.params.toList Rows.judgeKeepsSpec.vars false #[Value.slice none 0 0, .slice none 0 0, .int .u8 0, .slice none 0 0, .agg #[.int .i64 0, .int .i64 0, .int .i64 0, .int .i64 0]].toList 8 = some ([.nil, .nil, .lit (.int .u8 0), .nil, .agg [.lit (.int .i64 0), .lit (.int .i64 0), .lit (.int .i64 0), .lit (.int .i64 0)]], [], places) :=
  ⟨[], by kernel_rfl⟩

set_option maxRecDepth 100000 in
theorem lifted (os : Os) (started : os.Started) (H : Type) (enc : TypeId × Value → H) (F : Stop.Interp) :
    ReturnsInHanded {} Tryd.checked os 10 .any ((Rows.OpenSpec.upto Rows.judgeKeepsSpec).preRow enc Tryd.prog Tryd.f10 [] false laidL) (((Rows.OpenSpec.upto Rows.judgeKeepsSpec).at F).post enc Tryd.prog Tryd.f10 false true false false) := by
  obtain ⟨places, hx⟩ := reads os enc
  refine law_laid F started (by kernel_rfl) Tryd.func10
    (witness_row_at (enc := enc) (C := Tryd.checked) false (laidWorld os) #[.slice none 0 0, .slice none 0 0, .int .u8 0, .slice none 0 0, .agg #[.int .i64 0, .int .i64 0, .int .i64 0, .int .i64 0]] rfl (by kernel_rfl) (by kernel_rfl) (by kernel_rfl)
      (OpenSpec.preRow_of_cond 8 hx (by kernel_rfl) (fun k hk => by cases hk; kernel_rfl) (by kernel_rfl) (laid_met os)))
    ?_ (by kernel_rfl) rfl ?_ ?_
  · intro t ht
    rw [Tryd.params10] at ht
    simp at ht
    rcases ht with rfl | rfl | rfl | rfl | rfl
    · exact ⟨by kernel_rfl, of_decide_eq_true (by kernel_rfl)⟩
    · exact ⟨by kernel_rfl, of_decide_eq_true (by kernel_rfl)⟩
    · exact ⟨by kernel_rfl, of_decide_eq_true (by kernel_rfl)⟩
    · exact ⟨by kernel_rfl, of_decide_eq_true (by kernel_rfl)⟩
    · exact ⟨by kernel_rfl, of_decide_eq_true (by kernel_rfl)⟩
  · intro ds hds
    rw [Tryd.params10] at hds
    obtain ⟨d1, d2, d3, d4, d5, rfl⟩ := len5 hds
    rfl
  · intro W base args ds p hval0 hA0 hk ht
    have hval : ∀ (j : Nat) t v, Tryd.f10.params[j]? = some t → args[j]? = some v → Value.okWide Tryd.prog W .any base t v := hval0
    have hA : DataW.TrodAll enc Tryd.prog W 0 (fun _ => true) true Tryd.f10.params.toList args.toList ds p := hA0
    rw [Tryd.params10] at hA hval
    obtain ⟨v0, vs0, d0, ds0, p0, q0, hargs, rfl, rfl, h0, r0⟩ := trodAll_cons hA
    obtain ⟨v1, vs1, d1, ds1, p1, q1, rfl, rfl, rfl, h1, r1⟩ := trodAll_cons r0
    obtain ⟨v2, vs2, d2, ds2, p2, q2, rfl, rfl, rfl, h2, r2⟩ := trodAll_cons r1
    obtain ⟨v3, vs3, d3, ds3, p3, q3, rfl, rfl, rfl, h3, r3⟩ := trodAll_cons r2
    obtain ⟨v4, vs4, d4, ds4, p4, q4, rfl, rfl, rfl, h4, r4⟩ := trodAll_cons r3
    obtain ⟨rfl, rfl, rfl⟩ := trodAll_nil r4
    obtain rfl : args = #[v0, v1, v2, v3, v4] := by cases args; simp_all
    obtain ⟨a0, len0, cap0, rfl⟩ := okWide_slice Tryd.underlying54 (hval 0 54 v0 rfl rfl)
    obtain ⟨a1, len1, cap1, rfl⟩ := okWide_slice Tryd.underlying55 (hval 1 55 v1 rfl rfl)
    obtain ⟨z, rfl, rfl, rfl, w2⟩ := open_int Tryd.underlying5 (hval 2 5 v2 rfl rfl) h2
    obtain ⟨a3, len3, cap3, rfl⟩ := okWide_slice Tryd.underlying22 (hval 3 22 v3 rfl rfl)
    obtain ⟨cs, rfl, hcs⟩ := okWide_struct Tryd.underlying31 (hval 4 31 v4 rfl rfl)
    obtain ⟨f0, g0⟩ := h0
    obtain ⟨f1, g1⟩ := h1
    obtain ⟨f3, g3⟩ := h3
    obtain ⟨f4, g4⟩ := h4
    simp only [Value.cells] at g0 g1 g3 g4
    obtain ⟨A, C, R, hR, hb0⟩ := open_readers g0
    obtain ⟨T, hTn, hI, hst, hb1⟩ := open_items g1
    obtain ⟨s, hl, hN, hS, hs64, hb3⟩ := open_nums Tryd.underlying22 Tryd.underlying2 cells2 g3
    obtain ⟨k, a, b, c, e4, x0, x1, x2, x3, hb4⟩ := op_one g4
    obtain rfl : cs = #[.int .i64 k, .int .i64 a, .int .i64 b, .int .i64 c] := by
      rw [← Array.toArray_toList (xs := cs), e4]
    simp only [Rows.uptoBulkAll] at hk
    have hz : 0 ≤ z ∧ z < 256 := by
      have m0 : IntKind.u8.min = 0 := rfl
      have m1 : IntKind.u8.max = 255 := rfl
      simp only [Lit.wf, Bool.and_eq_true, decide_eq_true_eq] at w2
      omega
    exact keepsLaw_walk z hz a0 len0 cap0 A C R a1 len1 cap1 T (.slice a3 len3 cap3) s k a b c W hR (by omega) (by omega) hI hst hTn (by omega) hN hS (by omega) ht

theorem saidUpto : Rows.JudgeKeepsUptoSaid :=
  OpenClaim.holds_of_cond 10 Tryd.f10 rfl rfl rfl rfl rfl rfl rfl ⟨rfl, rfl, rfl, rfl, rfl⟩ rfl rfl rfl rfl rfl (by kernel_rfl) Tryd.func10 (by kernel_rfl)
    (of_decide_eq_true (by kernel_rfl)) (by unfold Func.isWrapper; first | (rw [if_pos (by decide +kernel)]; kernel_rfl) | (rw [if_neg (by decide +kernel)]; exact ⟨rfl, rfl⟩))
    (fun os started H enc _ F => by rw [OpenClaim.pre_eq_preRow]; exact lifted os started H enc F)

theorem plain (f : FuncId) (fn : Func) (hf : Tryd.pinned.checked.prog.funcNamed "carillon/carillonlaw20.JudgeKeeps" = some f) (hfn : Tryd.pinned.checked.prog.funcs[f]? = some fn) :
    false = Tryd.pinned.checked.prog.looks [] ∧ ∀ (j : Nat) t, fn.params[j]? = some t → Tryd.pinned.checked.prog.wantsStandIn t = false := by
  obtain rfl : f = 10 := Option.some.inj ((show Tryd.prog.funcNamed "carillon/carillonlaw20.JudgeKeeps" = some 10 by kernel_rfl).symm.trans hf) |>.symm
  obtain rfl : fn = Tryd.f10 := (Option.some.inj (Tryd.func10.symm.trans hfn)).symm
  refine ⟨by kernel_rfl, fun j t ht => ?_⟩
  rw [Tryd.params10] at ht
  have hm : t ∈ [54, 55, 5, 22, 31] := by simpa using Array.mem_of_getElem? ht
  have hall : ([54, 55, 5, 22, 31].all fun u => !Tryd.prog.wantsStandIn u) = true := by kernel_rfl
  exact (show Tryd.prog.wantsStandIn t = false by simpa using List.all_eq_true.1 hall t hm)

/-- The statement. -/
theorem proved : Rows.JudgeKeepsUptoCardSaid :=
  Claim7.holds_tied_plain_at .later [] _ _ _ _ saidUpto (fun _ h => by cases h) (by kernel_rfl) (fun _ h => by cases h) judgeKeepsUpto_row_tie rfl ⟨rfl, rfl⟩ (by kernel_rfl) rfl plain (by kernel_rfl)
#print axioms proved
end Go.Proofs.YtfcaebceklhbkaaDoor.judgeKeeps
