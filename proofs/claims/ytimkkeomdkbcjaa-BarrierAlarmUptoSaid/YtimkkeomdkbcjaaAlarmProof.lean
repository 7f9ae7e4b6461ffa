/-
  The law BarrierAlarm returns true, and leaves its arguments, where they are of bulk at most 1048576.
-/
import Derived.Test.YtimkkeomdkbcjaaAlarm
import Derived.Test.YtimkkeomdkbcjaaUpto
import Derived.Test.YtimkkeomdkbcjaaBulk
namespace Go.Proofs.Ytimkkeomdkbcjaa.barrierAlarm
open Go.ChangeShapes Go.WideShapes Go.ChangeAt Go.RowKit
set_option linter.unusedVariables false

theorem own : ownKnob Try.prog.godebug = none := by kernel_rfl
theorem laidOut : laidOutB Try.prog = true := by kernel_rfl

/-- A slice of bytes, opened. -/
theorem bytes_open {H : Type} {enc : TypeId × Value → H} {W : World} {ao : Option Addr} {len cap : Nat} {d : DataW H} {p : List MemPlace} {sp : Nat → Bool} {held : Bool}
    (h : DataW.Trod enc Try.prog W 0 sp held 26 (.slice ao len cap) d p) (hsp : ∀ b, sp b = true) : ∃ zs, Bytes W ao len zs ∧ len + 1 ≤ Rows.uptoBulk d := by
  obtain ⟨fuel, hf⟩ := h
  rcases open_ints Try.underlying26 Try.underlying5 (by kernel_rfl) hf with ⟨hcs, hd⟩ | ⟨x, l, c, zs, hcs, hd, hl, hm, hz, hx, hcell, hwz⟩
  · simp [Value.cells] at hcs
    obtain ⟨rfl, rfl, rfl⟩ := hcs
    refine ⟨[], ⟨rfl, by simp, .inl rfl⟩, ?_⟩
    have := bulks.one_le d
    omega
  · simp [Value.cells] at hcs
    obtain ⟨rfl, rfl, rfl⟩ := hcs
    rw [hsp, if_pos rfl] at hz
    simp only [Prod.mk.injEq] at hx
    obtain ⟨rfl, rfl⟩ := hx
    refine ⟨zs.take len, ⟨by rw [List.length_take]; omega, ?_, ?_⟩, ?_⟩
    · intro z hzm
      have hw := hwz z (List.mem_of_mem_take hzm)
      have h0 : IntKind.u8.min = 0 := rfl
      have h1 : IntKind.u8.max = 255 := rfl
      simp only [Lit.wf, Bool.and_eq_true, decide_eq_true_eq] at hw
      omega
    · by_cases h0 : len = 0
      · exact .inl h0
      · right
        have hs : x.spot = none := by
          have h1 := hcell 0 (by omega)
          cases hx : x.spot with
          | none => rfl
          | some y =>
            unfold World.cell? at h1
            split at h1
            · simp [Addr.add, hx] at h1
            · cases h1
        refine ⟨x.block, x.off, by cases x; simp at hs; rw [hs], fun i hi => ?_⟩
        have h1 := hcell i (by omega)
        have h2 : x.add i = ⟨x.block, x.off + i, none⟩ := by cases x; simp at hs; simp [Addr.add, hs]
        rw [h2] at h1
        rw [h1]
        simp [List.getD_eq_getElem?_getD, hi]
    · have := bulks.slice_le (H := H) (lits .u8 (zs.take len)) (lits .u8 (zs.drop len))
      simp only [lits, List.length_map, List.length_take] at this ⊢
      omega

set_option maxRecDepth 100000 in
theorem lifted (os : Os) (started : os.Started) (H : Type) (enc : TypeId × Value → H) (F : Stop.Interp) :
    ReturnsInLeavingWide {} Try.checked os 5 .any ((Rows.OpenSpec.upto Rows.barrierAlarmSpec).pre6 enc Try.prog Try.f5 Rows.barrierAlarmUptoRow.domain false) (((Rows.OpenSpec.upto Rows.barrierAlarmSpec).at F).post enc Try.prog Try.f5 false true false false) := by
  refine law_leaving_upto (C := Try.checked) (tb := 4) F own started (by kernel_rfl) Try.func5
    (OpenSpec.witness (enc := enc) (C := Try.checked) (s := Rows.OpenSpec.upto Rows.barrierAlarmSpec) (k := Rows.uptoSmall) rfl false ⟨#[], #[.slice none 0 0, .int .i64 0, .int .u8 0], []⟩ 8 (by kernel_rfl) (by kernel_rfl) (by kernel_rfl)
      (x := ([.nil, .lit (.int .i64 0), .lit (.int .u8 0)], [], [])) (by kernel_rfl) rfl (by kernel_rfl))
    laidOut ?_ (by kernel_rfl) Try.underlying4 rfl ?_ ?_
  · intro t ht
    rw [Try.params5] at ht
    simp at ht
    rcases ht with rfl | rfl | rfl
    · exact ⟨by kernel_rfl, of_decide_eq_true (by kernel_rfl)⟩
    · exact ⟨by kernel_rfl, of_decide_eq_true (by kernel_rfl)⟩
    · exact ⟨by kernel_rfl, of_decide_eq_true (by kernel_rfl)⟩
  · intro ds hds
    rw [Try.params5] at hds
    match ds, hds with
    | [d1, d2, d3], _ => rfl
  · intro W base args ds p hval0 hA0 hk
    have hval : ∀ (j : Nat) t v, Try.f5.params[j]? = some t → args[j]? = some v → Value.okWide Try.prog W .any base t v := hval0
    have hA : DataW.TrodAll enc Try.prog W 0 (fun _ => true) true Try.f5.params.toList args.toList ds p := hA0
    rw [Try.params5] at hA hval
    obtain ⟨v0, vs0, d0, ds0, p0, q0, hargs, rfl, rfl, h0, r0⟩ := trodAll_cons hA
    obtain ⟨v1, vs1, d1, ds1, p1, q1, rfl, rfl, rfl, h1, r1⟩ := trodAll_cons r0
    obtain ⟨v2, vs2, d2, ds2, p2, q2, rfl, rfl, rfl, h2, r2⟩ := trodAll_cons r1
    obtain ⟨rfl, rfl, rfl⟩ := trodAll_nil r2
    obtain rfl : args = #[v0, v1, v2] := by cases args; simp_all
    obtain ⟨a0, len0, cap0, rfl⟩ := okWide_slice Try.underlying26 (hval 0 26 v0 rfl rfl)
    obtain ⟨zs, hB, hlen⟩ := bytes_open h0 (fun _ => rfl)
    obtain ⟨a1, rfl, rfl, rfl, w1⟩ := open_int Try.underlying3 (hval 1 3 v1 rfl rfl) h1
    obtain ⟨a2, rfl, rfl, rfl, w2⟩ := open_int Try.underlying5 (hval 2 5 v2 rfl rfl) h2
    have hbk : Rows.uptoBulk d0 ≤ 1048576 := by
      simp only [Rows.uptoBulkAll] at hk
      omega
    have hy : 0 ≤ a2 ∧ a2 ≤ 255 := by
      have hmin : IntKind.u8.min = 0 := rfl
      have hmax : IntKind.u8.max = 255 := rfl
      simp only [Lit.wf, Bool.and_eq_true, decide_eq_true_eq] at w2
      omega
    exact alarm_walk a0 len0 cap0 zs a1 a2 W hB (by omega) hy

/-- The statement. -/
theorem proved : Rows.BarrierAlarmUptoSaid :=
  holds_of_cond_leaving 5 Try.f5 rfl rfl rfl rfl rfl rfl rfl ⟨rfl, rfl, rfl, rfl, rfl⟩ rfl rfl rfl rfl rfl (by kernel_rfl) Try.func5 (by kernel_rfl)
    (of_decide_eq_true (by kernel_rfl)) (by unfold Func.isWrapper; first | (rw [if_pos (by decide +kernel)]; kernel_rfl) | (rw [if_neg (by decide +kernel)]; exact ⟨rfl, rfl⟩))
    (fun os started H enc _ F => lifted os started H enc F)
#print axioms proved
end Go.Proofs.Ytimkkeomdkbcjaa.barrierAlarm
