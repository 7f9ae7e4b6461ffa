/-
  The law BarrierOwn returns true, and leaves its arguments, where they are of bulk at most 1048576.
-/
import Derived.Test.YtimkkeomdkbcjaaOwnWalk
import Derived.Test.YtimkkeomdkbcjaaUpto
import Derived.Test.YtimkkeomdkbcjaaBulk
import Derived.Deep.Matrix
namespace Go.Proofs.Ytimkkeomdkbcjaa.barrierOwn
open Go.ChangeShapes Go.WideShapes Go.ChangeAt Go.RowKit Go.Deep
set_option linter.unusedVariables false

theorem own : ownKnob Try.prog.godebug = none := by kernel_rfl
theorem laidOut : laidOutB Try.prog = true := by kernel_rfl

theorem plain_addr {w : World} {x : Addr} {v : Value} {i : Nat} (h : w.cell? (x.add i) = some v) : x.spot = none → x.add i = ⟨x.block, x.off + i, none⟩ := by
  intro hs
  cases x
  simp at hs
  subst hs
  exact addr_add _ _ _
theorem spot_none {w : World} {x : Addr} {v : Value} (h : w.cell? (x.add 0) = some v) : x.spot = none := by
  cases hx : x.spot with
  | none => rfl
  | some y =>
    unfold World.cell? at h
    split at h
    · simp [Addr.add, hx] at h
    · cases h

theorem wf_u8 {z : Int} (h : (Lit.int .u8 z).wf = true) : 0 ≤ z ∧ z ≤ 255 := by
  have h0 : IntKind.u8.min = 0 := rfl
  have h1 : IntKind.u8.max = 255 := rfl
  simp only [Lit.wf, Bool.and_eq_true, decide_eq_true_eq] at h
  omega

/-- A slice of slices of bytes, opened. -/
theorem rows_open {H : Type} {enc : TypeId × Value → H} {W : World} {ao : Option Addr} {len cap : Nat} {d : DataW H} {p : List MemPlace} {held : Bool}
    (h : DataW.Trod enc Try.prog W 0 (fun _ => true) held 23 (.slice ao len cap) d p) (hk : Rows.uptoBulk d ≤ 1048576) : len ≤ cap ∧ len + 1 ≤ Rows.uptoBulk d ∧ ∃ A L C Z, BytesRows W ao len A L C Z := by
  obtain ⟨fuel, hf⟩ := h
  rcases open_int_rows Try.underlying23 Try.underlying26 Try.underlying5 (by kernel_rfl) (by kernel_rfl) hf with ⟨hcs, hd⟩ | ⟨a, l, c, A, L, C, Z, hcs, _, hlc, _, hd, hrow⟩
  · simp [Value.cells] at hcs
    obtain ⟨rfl, rfl, rfl⟩ := hcs
    have := bulks.one_le d
    exact ⟨Nat.le_refl _, by omega, fun _ => none, fun _ => 0, fun _ => 0, fun _ => [], .inl rfl, fun i hi => absurd hi (by omega)⟩
  · simp [Value.cells] at hcs
    obtain ⟨rfl, rfl, rfl⟩ := hcs
    simp only [Prod.mk.injEq] at hd
    obtain ⟨rfl, _⟩ := hd
    refine ⟨hlc, ?_, A, L, C, fun i => (Z i).take (L i), ?_, ?_⟩
    · have := bulks.slice_le ((List.range len).map fun r => intRow (H := H) .u8 (A r) (L r) (Z r)) ((List.range (cap - len)).map fun j => intRow .u8 (A (len + j)) (L (len + j)) (Z (len + j)))
      simp only [List.length_map, List.length_range] at this
      omega
    · by_cases h0 : len = 0
      · exact .inl h0
      · right
        have hs := spot_none (hrow 0 (by omega)).1
        refine ⟨a.block, a.off, by cases a; simp at hs; rw [hs], fun i hi => ?_⟩
        have h1 := (hrow i (by omega)).1
        rwa [plain_addr h1 hs] at h1
    · intro i hi
      obtain ⟨_, hLC, _, hZ, hwf, hnone, hsome⟩ := hrow i (by omega)
      have hmem : intRow (H := H) .u8 (A i) (L i) (Z i) ∈ (List.range len).map fun r => intRow .u8 (A r) (L r) (Z r) := List.mem_map.2 ⟨i, List.mem_range.2 hi, rfl⟩
      have hb1 := bulks.part_le hmem
      have hb2 := bulks.slice_elems ((List.range len).map fun r => intRow (H := H) .u8 (A r) (L r) (Z r)) ((List.range (cap - len)).map fun j => intRow .u8 (A (len + j)) (L (len + j)) (Z (len + j)))
      have hb3 : Rows.uptoBulk (intRow (H := H) .u8 (A i) (L i) (Z i)) ≤ 1048576 := by omega
      clear hb1 hb2 hmem
      have hL : L i ≤ 1048576 := by
        cases hA : A i with
        | none => have := hnone hA; omega
        | some a' =>
          rw [hA] at hb3
          have := bulks.slice_le (lits (H := H) .u8 ((Z i).take (L i))) (lits .u8 ((Z i).drop (L i)))
          simp only [intRow, lits, List.length_map, List.length_take] at this hb3
          omega
      refine ⟨hL, by rw [List.length_take]; omega, fun z hz => wf_u8 (hwf z (List.mem_of_mem_take hz)), ?_⟩
      by_cases h0 : L i = 0
      · exact .inl h0
      · right
        cases hA : A i with
        | none => have := hnone hA; omega
        | some a' =>
          have hc := (hsome a' hA).2
          have hs := spot_none (hc 0 (by omega))
          refine ⟨a'.block, a'.off, by cases a'; simp at hs; rw [hs], fun x hx => ?_⟩
          have h1 := hc x (by omega)
          rw [plain_addr h1 hs] at h1
          rw [h1]
          simp [List.getD_eq_getElem?_getD, hx]

set_option maxRecDepth 100000 in
theorem lifted (os : Os) (started : os.Started) (H : Type) (enc : TypeId × Value → H) (F : Stop.Interp) :
    ReturnsInLeavingWide {} Try.checked os 4 .any ((Rows.OpenSpec.upto Rows.barrierOwnSpec).pre6 enc Try.prog Try.f4 Rows.barrierOwnUptoRow.domain false) (((Rows.OpenSpec.upto Rows.barrierOwnSpec).at F).post enc Try.prog Try.f4 false true false false) := by
  refine law_leaving_upto (C := Try.checked) (tb := 4) F own started (by kernel_rfl) Try.func4
    (OpenSpec.witness (enc := enc) (C := Try.checked) (s := Rows.OpenSpec.upto Rows.barrierOwnSpec) (k := Rows.uptoSmall) rfl false ⟨#[], #[.slice none 0 0, .int .i64 0, .int .i64 0, .int .i64 0], []⟩ 8 (by kernel_rfl) (by kernel_rfl) (by kernel_rfl)
      (x := ([.nil, .lit (.int .i64 0), .lit (.int .i64 0), .lit (.int .i64 0)], [], [])) (by kernel_rfl) rfl (by kernel_rfl))
    laidOut ?_ (by kernel_rfl) Try.underlying4 rfl ?_ ?_
  · intro t ht
    rw [Try.params4] at ht
    simp at ht
    rcases ht with rfl | rfl | rfl
    · exact ⟨by kernel_rfl, of_decide_eq_true (by kernel_rfl)⟩
    · exact ⟨by kernel_rfl, of_decide_eq_true (by kernel_rfl)⟩
    · exact ⟨by kernel_rfl, of_decide_eq_true (by kernel_rfl)⟩
  · intro ds hds
    rw [Try.params4] at hds
    match ds, hds with
    | [d1, d2, d3, d4], _ => rfl
  · intro W base args ds p hval0 hA0 hk
    have hval : ∀ (j : Nat) t v, Try.f4.params[j]? = some t → args[j]? = some v → Value.okWide Try.prog W .any base t v := hval0
    have hA : DataW.TrodAll enc Try.prog W 0 (fun _ => true) true Try.f4.params.toList args.toList ds p := hA0
    rw [Try.params4] at hA hval
    obtain ⟨v0, vs0, d0, ds0, p0, q0, hargs, rfl, rfl, h0, r0⟩ := trodAll_cons hA
    obtain ⟨v1, vs1, d1, ds1, p1, q1, rfl, rfl, rfl, h1, r1⟩ := trodAll_cons r0
    obtain ⟨v2, vs2, d2, ds2, p2, q2, rfl, rfl, rfl, h2, r2⟩ := trodAll_cons r1
    obtain ⟨v3, vs3, d3, ds3, p3, q3, rfl, rfl, rfl, h3, r3⟩ := trodAll_cons r2
    obtain ⟨rfl, rfl, rfl⟩ := trodAll_nil r3
    obtain rfl : args = #[v0, v1, v2, v3] := by cases args; simp_all
    obtain ⟨a0, len0, cap0, rfl⟩ := okWide_slice Try.underlying23 (hval 0 23 v0 rfl rfl)
    have hbk : Rows.uptoBulk d0 ≤ 1048576 := by
      simp only [Rows.uptoBulkAll] at hk
      omega
    obtain ⟨hcap, hlen, A, L, C, Z, hB⟩ := rows_open h0 hbk
    obtain ⟨a1, rfl, rfl, rfl, w1⟩ := open_int Try.underlying2 (hval 1 2 v1 rfl rfl) h1
    obtain ⟨a2, rfl, rfl, rfl, w2⟩ := open_int Try.underlying3 (hval 2 3 v2 rfl rfl) h2
    obtain ⟨a3, rfl, rfl, rfl, w3⟩ := open_int Try.underlying3 (hval 3 3 v3 rfl rfl) h3
    exact own_walk a0 len0 cap0 A L C Z a1 a2 a3 W hB (by omega) hcap

/-- The statement. -/
theorem proved : Rows.BarrierOwnUptoSaid :=
  holds_of_cond_leaving 4 Try.f4 rfl rfl rfl rfl rfl rfl rfl ⟨rfl, rfl, rfl, rfl, rfl⟩ rfl rfl rfl rfl rfl (by kernel_rfl) Try.func4 (by kernel_rfl)
    (of_decide_eq_true (by kernel_rfl)) (by unfold Func.isWrapper; first | (rw [if_pos (by decide +kernel)]; kernel_rfl) | (rw [if_neg (by decide +kernel)]; exact ⟨rfl, rfl⟩))
    (fun os started H enc _ F => lifted os started H enc F)
#print axioms proved
end Go.Proofs.Ytimkkeomdkbcjaa.barrierOwn
