/-
  The contract of judge.Same.
-/
import Derived.Test.YtfcaebceklhbkaaDoorRefSame
namespace Go.Proofs.YtfcaebceklhbkaaDoor
open Go.RowKit Go.Maps
set_option linter.unusedVariables false

/-- A sight, as a value and as a datum. -/
def sightV (r a b d : Int) : Value := .agg #[.int .i64 r, .int .i64 a, .int .i64 b, .int .i64 d]
def sightD (r a b d : Int) : DataW Unit := .agg [.lit (.int .i64 r), .lit (.int .i64 a), .lit (.int .i64 b), .lit (.int .i64 d)]
def sightR : RdM := fun v => match v with
  | .agg ⟨[.int .i64 r, .int .i64 a, .int .i64 b, .int .i64 d]⟩ => some (sightD r a b d, [])
  | _ => none
theorem sightR_mk (r a b d : Int) : sightR (sightV r a b d) = some (sightD r a b d, []) := rfl
theorem sightR_inv {v : Value} {r a b d : Int} {ps : List MemPlace} (h : sightR v = some (sightD r a b d, ps)) : v = sightV r a b d := by
  unfold sightR at h
  split at h
  · simp only [sightD, Option.some.injEq, Prod.mk.injEq, DataW.agg.injEq, List.cons.injEq, DataW.lit.injEq, Lit.int.injEq] at h
    obtain ⟨⟨⟨_, rfl⟩, ⟨_, rfl⟩, ⟨_, rfl⟩, ⟨_, rfl⟩, _⟩, _⟩ := h
    rfl
  · cases h
theorem zero_sight (w : World) : (zeroValue 113).run Tryd.prog w = .ok (sightV 0 0 0 0) w := by kernel_rfl

theorem wpList_look_sight {w : World} {ops : Array Oper} {rest : List Oper} {o : Oper} {a : Act} {Q : Exit → Act → World → Prop}
    (hg : o.guard = none) (m x : Operand) (t : TypeId) (hop : o.op = Op.lookup t m x true)
    (k e : TypeId) (K : Keyed Tryd.prog k) (ht : Tryd.prog.underlying t = some (.map k e)) (hz : (zeroValue e).run Tryd.prog w = .ok (sightV 0 0 0 0) w) (b n : Nat) (f : Lit → Option (DataW Unit))
    (hm : a.eval m = .map (some b)) (hown : MapF w k sightR b n f) (key : Value) (kl : Lit) (hx : a.eval x = key) (hkey : keyOf Tryd.prog k key = some kl)
    (r0 a0 b0 d0 : Int) (ok : Bool) (hf : (f kl = none ∧ r0 = 0 ∧ a0 = 0 ∧ b0 = 0 ∧ d0 = 0 ∧ ok = false) ∨ (f kl = some (sightD r0 a0 b0 d0) ∧ ok = true))
    (hK : wpList Tryd.prog ops Q rest (a.put o.dst (.tuple #[.agg #[.int .i64 r0, .int .i64 a0, .int .i64 b0, .int .i64 d0], .bool ok])) w) :
    wpList Tryd.prog ops Q (o :: rest) a w := by
  obtain ⟨D, h1, h2⟩ := hown
  refine wpList_lookup_own_ok w hg m x t hop k e K ht sightR hz (sightD 0 0 0 0) [] (sightR_mk 0 0 0 0) b n D hm h1 key kl hx hkey ?_
  intro v ps hv
  rw [(h2 kl).2] at hv
  rw [(h2 kl).1]
  rcases hf with ⟨h, rfl, rfl, rfl, rfl, rfl⟩ | ⟨h, rfl⟩
  · rw [h] at hv ⊢
    rw [sightR_inv hv]
    exact hK
  · rw [h] at hv ⊢
    rw [sightR_inv hv]
    exact hK

/-- The map of judge.Same, as a function. -/
def curF (R : Nat → List Seen4) (r i : Nat) : Lit → Option (DataW Unit)
  | .int .i64 q => (cur R q r i).map fun x => sightD x.1 x.2.a x.2.b x.2.d
  | _ => none

theorem curF_put (R : Nat → List Seen4) (r i : Nat) (h : cur R ((R r).getD i default).q r i = none) :
    putF (curF R r i) (.int .i64 ((R r).getD i default).q) (sightD r ((R r).getD i default).a ((R r).getD i default).b ((R r).getD i default).d) = curF R r (i + 1) := by
  funext kl
  unfold putF
  by_cases e : kl = .int .i64 ((R r).getD i default).q
  · rw [if_pos e, e]
    simp only [curF, cur_succ, h, if_true, Option.map_some]
  · rw [if_neg e]
    cases kl with
    | int q x =>
      cases q <;> try rfl
      have hx : ((R r).getD i default).q ≠ x := fun h => e (by rw [h])
      simp only [curF, cur_succ, if_neg hx]
      cases cur R x r i <;> rfl
    | _ => rfl
theorem curF_stay (R : Nat → List Seen4) (r i : Nat) {y : Nat × Seen4} (h : cur R ((R r).getD i default).q r i = some y) : curF R r i = curF R r (i + 1) := by
  funext kl
  cases kl with
  | int q x =>
    cases q <;> try rfl
    simp only [curF, cur_succ]
    cases hx : cur R x r i with
    | some z => rfl
    | none =>
      have : ((R r).getD i default).q ≠ x := fun e => by rw [e, hx] at h; cases h
      simp only [if_neg this]
  | _ => rfl
theorem curF_next (R : Nat → List Seen4) (r : Nat) : curF R r (R r).length = curF R (r + 1) 0 := by
  funext kl
  cases kl with
  | int q x =>
    cases q <;> try rfl
    simp only [curF, cur_full, cur_zero]
  | _ => rfl
theorem WSt.up {w0 wr : World} {N e5 kt j j' : Nat} {R : RdM} {l : List Flt} {f : Lit → Option (DataW Unit)} {v : Value} (h : WSt w0 N e5 kt R j l f v wr) (hj : j ≤ j') : WSt w0 N e5 kt R j' l f v wr := by
  obtain ⟨D, h1, h2⟩ := h.map
  exact ⟨h.row, ⟨D, h1.mono hj, h2⟩, h.low, h.nw⟩

set_option maxRecDepth 100000 in
set_option maxHeartbeats 600000000000 in
theorem judgeSame_walk (ro : Option Addr) (nr c : Nat) (A : Nat → Option Addr) (C : Nat → Nat) (R : Nat → List Seen4) (w : World) (h : Readers w ro nr A C R) (hnr : nr ≤ 300000000000) (htot : tot R nr ≤ 300000000000) :
    Calls Tryd.prog 30 #[.slice ro nr c] w (DoneF 77 (samAt R nr) w) := by
  obtain ⟨i0, hi0, hz0, hz1, hz2⟩ := info_parts info77
  have H0 := Lib.hid h
  have hlen0 : ∀ r, r < nr → (R r).length ≤ 300000000000 := fun r hr => by
    have := tot_le R (show r + 1 ≤ nr by omega)
    simp only [tot] at this
    omega
  have HLN := Lib.hid hlen0
  have HTT := Lib.hid htot
  clear h hlen0 htot
  have HST0 : Hid (WSt w w.heap.size 77 2 sightR 0 [] (curF R 0 0) (.slice none 0 0) (w.alloc (.map #[] 0))) := by
    refine ⟨World.ownsRow_nil _ _ _ _, ?_, (Below.refl _ _).alloc (Nat.le_refl _) _, by simp⟩
    have := mapF_new w 2 sightR
    have e : curF R 0 0 = fun _ => none := by
      funext kl
      cases kl with
      | int q x => cases q <;> rfl
      | _ => rfl
    rw [e]
    exact this
  have hmk := run_makeMap (P := Tryd.prog) 111 w
  generalize hN : w.heap.size = N at *
  have HN := Lib.hid hN
  clear hN
  go_enter Tryd.func30, Tryd.ntmps30
  go_wp2_with fail
  clear hmk
  go_loopw [3, 14] (fun v rv wr => ∃ r : Nat, r ≤ nr ∧ rv = .int .i64 r ∧ WSt w N 77 2 sightR (tot R r) (samAt R r) (curF R r 0) v wr) (fun _ rv _ => nr - (intOf rv).toNat)
  case atStart => exact ⟨0, by omega, rfl, HST0.out⟩
  case round =>
    obtain ⟨r, hr, rfl, hR⟩ := hrel
    have HR := Lib.hid hR
    clear hR
    by_cases hlt : r < nr
    · have HSL := Lib.hid (samAt_length R r)
      have HT1 := Lib.hid (tot_le R (show r + 1 ≤ nr by omega))
      have hl := HLN.out r hlt
      have HSM : Hid (samAt R (r + 1) = samAt R r ++ inT R r (R r).length) := rfl
      have HTS : Hid (tot R (r + 1) = tot R r + (R r).length) := rfl
      have HNX := Lib.hid (curF_next R r)
      have hrd := H0.out.below (HR.out.low.mono (by have := HN.out; omega))
      obtain ⟨g, o, rfl, hc⟩ : ∃ g o, ro = some ⟨g, o, none⟩ ∧ wr.cell? ⟨g, o + r, none⟩ = some (.slice (A r) (R r).length (C r)) := by
        rcases hrd.1 with h | ⟨g, o, h1, h2⟩
        · omega
        · exact ⟨g, o, h1, h2 r hlt⟩
      clear hrd
      have HSR := Lib.hid (H0.out.2 r hlt)
      generalize hLn : (R r).length = ln at *
      have HLN2 := Lib.hid hLn
      clear hLn
      have HR1 : Hid (WSt w N 77 2 sightR (tot R r + 0) (samAt R r ++ inT R r 0) (curF R r 0) u3 wr) := by
        have := HR.out
        rw [show inT R r 0 = [] from rfl, List.append_nil]
        exact this
      clear HR
      generalize A r = ar at *
      generalize C r = cr at *
      go_wp2_with fail
      go_loopw [3, 21] (fun v iv wq => ∃ i : Nat, i ≤ ln ∧ iv = .int .i64 i ∧ WSt w N 77 2 sightR (tot R r + i) (samAt R r ++ inT R r i) (curF R r i) v wq) (fun _ iv _ => ln - (intOf iv).toNat)
      case atStart => exact ⟨0, by omega, rfl, HR1.out⟩
      case round =>
        obtain ⟨i, hi, rfl, hR⟩ := hrel
        have HR := Lib.hid hR
        clear hR
        have hlen : (samAt R r ++ inT R r i).length ≤ 300000000000 ∧ tot R r + i ≤ 300000000000 := by
          have h1 := HSL.out
          have h2 := inT_length R r i
          have h3 := HT1.out
          have h4 := HTT.out
          have h5 := HLN2.out
          simp only [tot, List.length_append] at *
          omega
        obtain ⟨hlen, hmax⟩ := hlen
        by_cases hil : i < ln
        · have hrow := HSR.out.1.below (HR.out.low.mono (by have := HN.out; omega))
          obtain ⟨g2, o2, rfl, hc2⟩ : ∃ g o, ar = some ⟨g, o, none⟩ ∧ ∀ i, i < ln → wr.cell? ⟨g, o + i * 4, none⟩ = some (.int .i64 ((R r).getD i default).q) ∧ wr.cell? ⟨g, o + i * 4 + 1, none⟩ = some (.int .i64 ((R r).getD i default).a) ∧
              wr.cell? ⟨g, o + i * 4 + 2, none⟩ = some (.int .i64 ((R r).getD i default).b) ∧ wr.cell? ⟨g, o + i * 4 + 3, none⟩ = some (.int .i64 ((R r).getD i default).d) := by
            rcases hrow with h | ⟨g, o, h1, h2⟩
            · have := HLN2.out; rw [h] at this; simp at this; omega
            · exact ⟨g, o, h1, by rw [← HLN2.out]; exact h2⟩
          obtain ⟨d1, d2, d3, d4⟩ := hc2 i hil
          clear hc2 hrow
          have HKEY := Lib.hid (key_i64 _ (HSR.out.2 i (by rw [HLN2.out]; exact hil)).1.wf)
          have HIN : Hid (inT R r (i + 1) = inT R r i ++ tell (cur R ((R r).getD i default).q r i) r i ((R r).getD i default)) := rfl
          have HCF : Hid (curF R r i (.int .i64 ((R r).getD i default).q) = (cur R ((R r).getD i default).q r i).map fun x => sightD x.1 x.2.a x.2.b x.2.d) := rfl
          have HPUT := Lib.hid (curF_put R r i)
          have HSTAY := Lib.hid (fun y => curF_stay R r i (y := y))
          generalize (R r).getD i default = s at *
          obtain ⟨q, a, b, d⟩ := s
          simp only at d1 d2 d3 d4 HKEY HCF HPUT HSTAY HIN
          have HRA := Lib.hid (HR.out.alloc (.cells #[.int .i64 q, .int .i64 a, .int .i64 b, .int .i64 d] 75))
          have HMA := Lib.hid HRA.out.map
          cases hcu : cur R q r i with
          | none =>
            have HLK : Hid ((curF R r i (.int .i64 q) = none ∧ (0 : Int) = 0 ∧ (0 : Int) = 0 ∧ (0 : Int) = 0 ∧ (0 : Int) = 0 ∧ false = false) ∨ (curF R r i (.int .i64 q) = some (sightD 0 0 0 0) ∧ false = true)) := .inl ⟨by rw [hid_eq HCF, hcu]; rfl, rfl, rfl, rfl, rfl, rfl⟩
            have HI2 := Lib.hid (show inT R r (i + 1) = inT R r i from by rw [hid_eq HIN, hcu]; simp [tell])
            have HPU := Lib.hid (HPUT.out hcu)
            have HRB := Lib.hid (HRA.out.alloc (.cells #[.int .i64 0, .int .i64 0, .int .i64 0, .int .i64 0] 113))
            have HMB := Lib.hid HRB.out.map
            clear HIN HCF HPUT HSTAY hcu
            go_wp2_with (first | (at_lookup; go_must (refine wpList_look_sight rfl _ _ 111 rfl 2 113 keyed_i64 Tryd.underlying111 (zero_sight _) N (tot R r + i) (curF R r i) rfl HMA.out _ (.int .i64 q) rfl HKEY.out 0 0 0 0 false HLK.out ?_)) | (at_mapUpdate; go_must (refine wpList_put rfl _ _ _ 111 rfl 2 113 keyed_i64 Tryd.underlying111 sightR N (tot R r + i) (curF R r i) rfl HMB.out (by unfold maxLen; omega) _ _ (.int .i64 q) rfl rfl HKEY.out (sightD r a b d) [] (sightR_mk r a b d) ?_); intro w4 hm4 hg4; have HM4 := Lib.hid hm4; have HG4 := Lib.hid hg4; clear hm4 hg4))
            go_roundw
            case rel => exact ⟨i + 1, by omega, by go_num, by rw [HI2.out, ← HPU.out]; exact HRB.out.put HM4.out HG4.out⟩
            case measure => simp [intOf]; omega
          | some y =>
            obtain ⟨r0, q0, a0, b0, d0⟩ := y
            have HLK : Hid ((curF R r i (.int .i64 q) = none ∧ (r0 : Int) = 0 ∧ a0 = 0 ∧ b0 = 0 ∧ d0 = 0 ∧ true = false) ∨ (curF R r i (.int .i64 q) = some (sightD r0 a0 b0 d0) ∧ true = true)) := .inr ⟨by rw [hid_eq HCF, hcu]; rfl, rfl⟩
            have HST := Lib.hid (HSTAY.out _ hcu)
            have HI1 := Lib.hid (show inT R r (i + 1) = inT R r i ++ (if eqItem a0 b0 d0 a b d = true then [] else [⟨4, r, i, q, r0⟩]) from by rw [hid_eq HIN, hcu]; rfl)
            have HRB := Lib.hid (HRA.out.alloc (.cells #[.int .i64 r0, .int .i64 a0, .int .i64 b0, .int .i64 d0] 113))
            have hne := neq_item a0 b0 d0 a b d
            have hbx : ((wr.alloc (.cells #[.int .i64 q, .int .i64 a, .int .i64 b, .int .i64 d] 75)).alloc (.cells #[.int .i64 r0, .int .i64 a0, .int .i64 b0, .int .i64 d0] 113)).heap[wr.heap.size]? = some (.cells #[.int .i64 q, .int .i64 a, .int .i64 b, .int .i64 d] 75 (0, 0)) := by
              rw [Below.heap_alloc _ _ _ (by simp)]
              exact heap_alloc_new wr _
            have x0 := (cell_of hbx 0).trans rfl
            have x1 := (cell_of hbx 1).trans rfl
            have x2 := (cell_of hbx 2).trans rfl
            have x3 := (cell_of hbx 3).trans rfl
            clear HIN HCF HPUT HSTAY hcu hbx
            cases hbb : eqItem a0 b0 d0 a b d with
            | true =>
              rw [hbb] at hne
              have HI2 := Lib.hid (show inT R r (i + 1) = inT R r i from by rw [hid_eq HI1, hbb]; simp)
              clear HI1 hbb
              go_wp2_with (at_lookup; go_must (refine wpList_look_sight rfl _ _ 111 rfl 2 113 keyed_i64 Tryd.underlying111 (zero_sight _) N (tot R r + i) (curF R r i) rfl HMA.out _ (.int .i64 q) rfl HKEY.out r0 a0 b0 d0 true HLK.out ?_))
              go_roundw
              case rel => exact ⟨i + 1, by omega, by go_num, by rw [HI2.out, ← HST.out]; exact HRB.out.up (by omega)⟩
              case measure => simp [intOf]; omega
            | false =>
              rw [hbb] at hne
              have HI2 := Lib.hid (show samAt R r ++ inT R r (i + 1) = (samAt R r ++ inT R r i) ++ [⟨4, r, i, q, r0⟩] from by rw [hid_eq HI1, hbb]; simp)
              clear HI1 hbb
              generalize samAt R r ++ inT R r i = l at *
              have HSX := Lib.hid (src_at ((wr.alloc (.cells #[.int .i64 q, .int .i64 a, .int .i64 b, .int .i64 d] 75)).alloc (.cells #[.int .i64 r0, .int .i64 a0, .int .i64 b0, .int .i64 d0] 113)) (wr.heap.size + 1 + 1) (by simp) (Flt.cells ⟨4, r, i, q, r0⟩).toArray 77 5 rfl (flt_one _))
              have HOW := Lib.hid (HRB.out.row.alloc (.cells (Flt.cells ⟨4, r, i, q, r0⟩).toArray 77))
              have HAP := Lib.hid (fun v' w' ha => HRB.out.app (o := .cells (Flt.cells ⟨4, r, i, q, r0⟩).toArray 77) (x := ⟨4, r, i, q, r0⟩) (v' := v') (w1 := w') ha)
              have hNW := HR.out.nw
              go_wp2_with (first | (at_lookup; go_must (refine wpList_look_sight rfl _ _ 111 rfl 2 113 keyed_i64 Tryd.underlying111 (zero_sight _) N (tot R r + i) (curF R r i) rfl HMA.out _ (.int .i64 q) rfl HKEY.out r0 a0 b0 d0 true HLK.out ?_)) | (at_builtin; go_must (refine wpList_append_row rfl (.tmp 47) (.tmp 55) 58 rfl (N + 1) 77 i0 _ 5 40 Tryd.underlying58 hi0 hz0 hz1 (by decide) hz2 rfl u3 l.length (fcells l) rfl HOW.out 1 (Flt.cells ⟨4, r, i, q, r0⟩) HSX.out ?l2 ?b2 ?n2 ?_); go_must (case l2 => (unfold maxLen; omega)); go_must (case b2 => omega); go_must (case n2 => (simp; omega)); intro v' w' ha; have HA := Lib.hid (HAP.out _ _ ha); clear ha))
              go_roundw
              case rel => exact ⟨i + 1, by omega, by go_num, by rw [HI2.out, ← HST.out]; exact HA.out.up (by omega)⟩
              case measure => simp [intOf]; omega
        · obtain rfl : i = ln := by omega
          go_wp2_with fail
          go_roundw
          case rel => exact ⟨r + 1, by omega, by go_num, by rw [HSM.out, HTS.out, ← HNX.out]; exact HR.out⟩
          case measure => simp [intOf]; omega
    · obtain rfl : r = nr := by omega
      go_wp2_with fail
      go_ret
      exact ⟨_, rfl, by rw [HN.out]; exact own_base HR.out.row (by omega), by rw [HN.out]; exact HR.out.low⟩
end Go.Proofs.YtfcaebceklhbkaaDoor
