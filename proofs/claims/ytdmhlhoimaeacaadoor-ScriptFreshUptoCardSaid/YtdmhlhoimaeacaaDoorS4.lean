/-
  Merged out of: RefAft RefSub RefTold RefTimes RefWords RefLines RefKeep.
-/
import Derived.Test.YtdmhlhoimaeacaaDoorS2
import Derived.Test.YtdmhlhoimaeacaaDoorS3
/-
  The reference: what stands behind a star (f72), a subscription's words (f86).
-/
namespace Go.Proofs.YtdmhlhoimaeacaaDoor
open Go.RowKit Go.Maps
set_option linter.unusedVariables false

theorem star_skip : ∀ (l : Word) (i : Nat), (∀ c ∈ l.take i, c ≠ 42) → beforeStar l = l.take i ++ beforeStar (l.drop i) ∧ behindStar l = behindStar (l.drop i)
  | l, 0, _ => by simp
  | [], i + 1, _ => by simp
  | c :: r, i + 1, h => by
    have hc : ¬ c = 42 := h c (by simp)
    obtain ⟨h1, h2⟩ := star_skip r i (fun d hd => h d (by simp [hd]))
    constructor
    · show beforeStar (c :: r) = _
      rw [beforeStar, if_neg hc, h1]
      simp
    · show behindStar (c :: r) = _
      rw [behindStar, if_neg hc, h2]
      simp
theorem ext_mk (x : Word) (a b : Nat) : (ByteArray.mk x.toArray).extract a b = ⟨((x.drop a).take (b - a)).toArray⟩ := by
  apply ByteArray.ext
  apply Array.toList_inj.1
  simp
theorem star_at {l : Word} {i : Nat} (hi : i < l.length) (h : ∀ c ∈ l.take i, c ≠ 42) (he : l[i] = 42) : beforeStar l = l.take i ∧ behindStar l = some (l.drop (i + 1)) := by
  obtain ⟨h1, h2⟩ := star_skip l i h
  rw [h1, h2, List.drop_eq_getElem_cons hi, he]
  simp [beforeStar, behindStar]
theorem star_none {l : Word} (h : ∀ c ∈ l, c ≠ 42) : beforeStar l = l ∧ behindStar l = none := by
  obtain ⟨h1, h2⟩ := star_skip l l.length (by rw [List.take_length]; exact h)
  rw [h1, h2]
  simp [beforeStar, behindStar]

set_option maxRecDepth 100000 in
set_option maxHeartbeats 4000000 in
theorem after_walk (x : Word) (w : World) (hx : x.length ≤ 4000000000) :
    Calls Tryd.prog 72 #[.string ⟨x.toArray⟩, .int .u8 42] w fun e w' => e = .returned (.tuple #[.string ⟨(beforeStar x).toArray⟩, .string ⟨((behindStar x).getD []).toArray⟩, .bool (behindStar x).isSome]) ∧ Below w.heap.size w w' := by
  have hsz : (ByteArray.mk x.toArray).size = x.length := size_mk x
  have HSA := Lib.hid (fun i hi h he => star_at (l := x) (i := i) hi h he)
  have HSN := Lib.hid (fun h => star_none (l := x) h)
  have HX1 := Lib.hid (fun a b => ext_mk x a b)
  generalize beforeStar x = bx at *
  generalize behindStar x = hx2 at *
  go_enter Tryd.func72, Tryd.ntmps72
  go_wp2_with fail
  go_loop [7] (fun iv => ∃ i : Nat, i ≤ x.length ∧ iv = .int .i64 i ∧ ∀ c ∈ x.take i, c ≠ 42) (fun iv => x.length - (intOf iv).toNat)
  case atStart => exact ⟨0, Nat.zero_le _, rfl, fun c hc => by simp at hc⟩
  case round =>
    obtain ⟨i, hi, rfl, hno⟩ := hrel
    have HNO := Lib.hid hno
    clear hno
    by_cases hin : i < x.length
    · have hix : (ByteArray.mk x.toArray)[i]'(by rw [hsz]; exact hin) = x[i] := by simp [ByteArray.getElem_eq_getElem_data]
      have hszi : i < (ByteArray.mk x.toArray).size := by rw [hsz]; exact hin
      by_cases hc : x[i].toNat = 42
      · have hb : ((((ByteArray.mk x.toArray)[i]'hszi).toNat : Int) == 42) = true := by rw [hix, beq_iff_eq]; omega
        have HSI := Lib.hid (HSA.out i hin HNO.out ((u8_eq _ 42 (by omega)).2 hc))
        have hi1 : (0 : Int) ≤ (i : Int) + 1 := by omega
        have hi2 : ((i : Int) + 1).toNat = i + 1 := by omega
        go_upto_region 5 with fail
        go_region
        all_goals
          go_wp2_with fail
          refine bodyPost_ret (v := .tuple #[.string ⟨bx.toArray⟩, .string ⟨(hx2.getD []).toArray⟩, .bool hx2.isSome]) ?_ rfl ⟨rfl, (Below.refl _ _).drew⟩
          obtain ⟨h1, h2⟩ := HSI.out
          have e1 := HX1.out 0 i
          have e2 := HX1.out (i + 1) x.length
          rw [List.take_of_length_le (by simp)] at e2
          rw [h1, h2]
          simp [results, Tryd.results72, go_sem, e1, e2]
      · have hb : ((((ByteArray.mk x.toArray)[i]'hszi).toNat : Int) == 42) = false := by rw [hix, beq_eq_false_iff_ne]; omega
        have HNO2 : Hid (∀ c ∈ x.take (i + 1), c ≠ 42) := Lib.hid (by
          intro c h
          rw [List.take_succ_eq_append_getElem hin, List.mem_append] at h
          rcases h with h | h
          · exact HNO.out c h
          · simp only [List.mem_cons, List.not_mem_nil, or_false] at h
            subst h
            intro e
            exact hc ((u8_eq _ 42 (by omega)).1 e))
        go_wp2_with fail
        go_round
        case rel => exact ⟨i + 1, by omega, by go_num, HNO2.out⟩
        case measure => simp [intOf]; omega
    · obtain rfl : i = x.length := by omega
      have HSI := Lib.hid (HSN.out (by have h := HNO.out; rw [List.take_length] at h; exact h))
      go_wp2_with fail
      refine bodyPost_ret (v := .tuple #[.string ⟨bx.toArray⟩, .string ⟨(hx2.getD []).toArray⟩, .bool hx2.isSome]) ?_ rfl ⟨rfl, Below.refl _ _⟩
      obtain ⟨h1, h2⟩ := HSI.out
      rw [h1, h2]
      simp [results, Tryd.results72, go_sem]
end Go.Proofs.YtdmhlhoimaeacaaDoor

/-
  The reference: a subscription's words (f86). (The three alike ways were printed by wip/gen/refsub.py.)
-/
namespace Go.Proofs.YtdmhlhoimaeacaaDoor
open Go.RowKit Go.Maps
set_option linter.unusedVariables false

theorem within_all (x : Word) : withinF x (-9223372036854775808) 9223372036854775807 = numF x := by
  unfold withinF numF
  split
  · rename_i h
    simp only [Bool.and_eq_true, in64B, decide_eq_true_eq] at h
    simp only [Option.bind_some]
    rw [if_pos h.2]
  · rfl
theorem subs_nonum {n f : Word} {r : List Word} (h : numF n = none) : subsF (n :: f :: r) = none := by
  match r with
  | [] => simp only [subsF, h]; split <;> rfl
  | [b] => simp only [subsF, h]; rfl
  | _ :: _ :: _ => rfl

set_option maxRecDepth 100000 in
set_option maxHeartbeats 8000000 in
theorem refSubscribe_walk (ao : Option Addr) (x : Word) (ws : List Word) (c : Nat) (w : World) (hw : WordsAt w ao (x :: ws)) (hs : Short ws) (hlen : ws.length ≤ 9000000000) :
    Calls Tryd.prog 86 #[.slice ao (x :: ws).length c] w (SaidD (subsF ws) w) := by
  obtain ⟨gw, ow, rfl, hc⟩ := hw.resolve_left (by simp)
  have hb0 : Below w.heap.size w (w.alloc (.cells #[.int .i64 0, .int .i64 0, .int .i64 0, .int .i64 0] 65)) := (Below.refl _ _).alloc (Nat.le_refl _) _
  have HB0 := Lib.hid hb0
  have HRB := Lib.hid (heap_alloc_new w (.cells #[.int .i64 0, .int .i64 0, .int .i64 0, .int .i64 0] 65))
  have HLEN : Hid ((x :: ws).length = ws.length + 1) := rfl
  have HC : Hid (∀ i, i < ws.length → w.cell? ⟨gw, ow + (i + 1), none⟩ = some (.string ⟨(ws.getD i default).toArray⟩)) := Lib.hid (fun i hi => by
    have h := hc (i + 1) (by simpa using hi)
    simpa using h)
  clear hc
  generalize hL : (x :: ws).length = L at *
  have hLL : L = ws.length + 1 := HLEN.out
  have hL9 : (L : Int) ≤ 9000000001 := by omega
  clear hw hb0 hL
  by_cases hl : ws.length < 2
  · have HO := Lib.hid (subs_none0 hl)
    have hl' : (L : Int) < 3 := by omega
    generalize subsF ws = o at *
    clear hs hl HC
    go_enter Tryd.func86, Tryd.ntmps86
    go_wp2_with fail
    refine bodyPost_ret (results_cell_tmp1 (fn := Tryd.f86) (p := 2) (u := 3) (ty := 65) rfl _ _ _ _ ⟨w.heap.size, 0, none⟩ rfl (load_op _ w.heap.size 0 0 0 0 (by go_simp) (by go_simp) (by go_simp) (by go_simp))) rfl ⟨0, 0, 0, 0, (by rw [HO.out]; rfl), (fun p hp => by rw [HO.out] at hp; cases hp), ?_⟩
    exact (Below.refl _ _).alloc (Nat.le_refl _) _
  · obtain ⟨n, f, r, rfl⟩ : ∃ n f r, ws = n :: f :: r := by
      match ws, hl with
      | [], h => simp at h
      | [_], h => simp at h
      | n :: f :: r, _ => exact ⟨n, f, r, rfl⟩
    have c1 : w.cell? ⟨gw, ow + 1, none⟩ = some (.string ⟨n.toArray⟩) := HC.out 0 (by simp)
    have c2 : w.cell? ⟨gw, ow + 2, none⟩ = some (.string ⟨f.toArray⟩) := HC.out 1 (by simp)
    have hclt := World.block_lt_of_cell? w _ c1
    have k1 : (w.alloc (.cells #[.int .i64 0, .int .i64 0, .int .i64 0, .int .i64 0] 65)).cell? ⟨gw, ow + 1, none⟩ = some (.string ⟨n.toArray⟩) := (HB0.out.cell (p := ⟨gw, ow + 1, none⟩) hclt).trans c1
    have k2 : (w.alloc (.cells #[.int .i64 0, .int .i64 0, .int .i64 0, .int .i64 0] 65)).cell? ⟨gw, ow + 2, none⟩ = some (.string ⟨f.toArray⟩) := (HB0.out.cell (p := ⟨gw, ow + 2, none⟩) hclt).trans c2
    have HK3 : Hid (∀ b : Word, r = [b] → (w.alloc (.cells #[.int .i64 0, .int .i64 0, .int .i64 0, .int .i64 0] 65)).cell? ⟨gw, ow + 3, none⟩ = some (.string ⟨b.toArray⟩)) := Lib.hid (fun b e => by subst e; exact (HB0.out.cell (p := ⟨gw, ow + 3, none⟩) hclt).trans (HC.out 2 (by simp)))
    have HN : Hid (∀ W, Calls Tryd.prog 56 #[.string ⟨n.toArray⟩, .int .i64 (-9223372036854775808), .int .i64 9223372036854775807] W fun e w' => e = .returned (.tuple #[.int .i64 ((numF n).getD 0), .bool (numF n).isSome]) ∧ W = w') := Lib.hid (fun W => by
      have h := refNumber_walk ⟨n.toArray⟩ (-9223372036854775808) 9223372036854775807 W (by rw [size_mk]; exact hs n (by simp))
      rw [show (ByteArray.mk n.toArray).data.toList = n from rfl, within_all] at h
      exact h)
    have HNB : Hid (∀ b : Word, r = [b] → ∀ W, Calls Tryd.prog 56 #[.string ⟨b.toArray⟩, .int .i64 (-9223372036854775808), .int .i64 9223372036854775807] W fun e w' => e = .returned (.tuple #[.int .i64 ((numF b).getD 0), .bool (numF b).isSome]) ∧ W = w') := Lib.hid (fun b e W => by
      have h := refNumber_walk ⟨b.toArray⟩ (-9223372036854775808) 9223372036854775807 W (by rw [size_mk]; exact hs b (by rw [e]; simp))
      rw [show (ByteArray.mk b.toArray).data.toList = b from rfl, within_all] at h
      exact h)
    have HAL : Hid (f = wAll → subsF (n :: f :: r) = if r = [] then (numF n).map (fun n => ⟨4, n, 0, 0⟩) else none) := Lib.hid (fun e => by subst e; exact subs_all rfl)
    have HOT := Lib.hid (fun k hk h0 h4 => subs_other (ws := n :: f :: r) rfl k hk h0 h4)
    have HST := Lib.hid (fun hk => subs_strange (ws := n :: f :: r) rfl hk)
    have HNO := Lib.hid (subs_nonum (n := n) (f := f) (r := r))
    have HLR : Hid (L = r.length + 3) := Lib.hid (by rw [hLL]; rfl)
    have hL2 : ¬ (L : Int) < 3 := by simp at hLL; omega
    generalize subsF (n :: f :: r) = o at *
    clear hs HC c1 c2 hl HLEN hLL
    go_enter Tryd.func86, Tryd.ntmps86
    go_upto_region 1 with fail
    generalize w.alloc (.cells #[.int .i64 0, .int .i64 0, .int .i64 0, .int .i64 0] 65) = W0 at *
    generalize hrb : w.heap.size = rb at *
    have HRBE := Lib.hid hrb
    clear hrb
    have r0 := (cell_of HRB.out 0).trans rfl
    have r1 := (cell_of HRB.out 1).trans rfl
    have r2 := (cell_of HRB.out 2).trans rfl
    have r3 := (cell_of HRB.out 3).trans rfl
    have r4 := free_of HRB.out
    have HSTO := Lib.hid (fun k a b c => store_op HRB.out rfl HB0.out (Nat.le_refl _) k a b c)
    go_wp2_with fail
    refine (HN.out W0).mono ?_
    rintro e w1 ⟨rfl, hw1⟩
    subst hw1
    cases hn : numF n with
    | none =>
      have HON : Hid (o = none) := Lib.hid (HNO.out hn)
      have hst := (HSTO.out (.int .i64 0) (.int .i64 0) (.int .i64 0) (.int .i64 0))
      simp only [Option.isSome_none, Option.getD_none]
      clear hn
      go_wp2_with fail
      refine bodyPost_ret (results_cell_tmp1 (fn := Tryd.f86) (p := 2) (u := 3) (ty := 65) rfl _ _ _ _ ⟨rb, 0, none⟩ rfl (load_stored hst.1)) rfl ⟨0, 0, 0, 0, (by rw [HON.out]; rfl), (fun p hp => by rw [HON.out] at hp; cases hp), ?_⟩
      rw [HRBE.out]
      exact hst.2
    | some nn =>
      have HN1 := Lib.hid hn
      simp only [Option.isSome_some, Option.getD_some]
      clear hn
      by_cases hfa : f = wAll
      · have HA := Lib.hid (HAL.out hfa)
        have hd : wAll = [97, 108, 108] := rfl
        rw [hfa, hd] at k2
        clear hd hfa HOT HST
        have hst := (HSTO.out (.int .i64 4) (.int .i64 nn) (.int .i64 0) (.int .i64 0))
        by_cases hr : r = []
        · have HON : Hid (o = some ⟨4, nn, 0, 0⟩) := Lib.hid (by rw [HA.out, if_pos hr, HN1.out]; rfl)
          have hLb : ((L : Int) == 3) = true := by rw [beq_iff_eq, HLR.out, hr]; rfl
          clear hr HLR
          go_wp2_with fail
          refine bodyPost_ret (results_cell_tmp1 (fn := Tryd.f86) (p := 2) (u := 3) (ty := 65) rfl _ _ _ _ ⟨rb, 0, none⟩ rfl (load_stored hst.1)) rfl ⟨4, nn, 0, 0, (by rw [HON.out]; rfl), (fun p hp => by rw [HON.out] at hp; cases hp; rfl), ?_⟩
          rw [HRBE.out]
          exact hst.2
        · have HON : Hid (o = none) := Lib.hid (by rw [HA.out, if_neg hr])
          have hLb : ((L : Int) == 3) = false := by
            rw [beq_eq_false_iff_ne]
            have := List.length_pos_iff.2 hr
            have := HLR.out
            omega
          clear hr HLR
          go_wp2_with fail
          refine bodyPost_ret (results_cell_tmp1 (fn := Tryd.f86) (p := 2) (u := 3) (ty := 65) rfl _ _ _ _ ⟨rb, 0, none⟩ rfl (load_stored hst.1)) rfl ⟨4, nn, 0, 0, (by rw [HON.out]; rfl), (fun p hp => by rw [HON.out] at hp; cases hp), ?_⟩
          rw [HRBE.out]
          exact hst.2
      · have hna : ¬ f = [97, 108, 108] := hfa
        have hba : (f == [97, 108, 108]) = false := beq_eq_false_iff_ne.2 hfa
        by_cases hf1 : f = wWriter
        · have HO := Lib.hid (HOT.out 1 hf1 (by omega) (by omega))
          have hd : wWriter = [119, 114, 105, 116, 101, 114] := rfl
          rw [hf1, hd] at k2
          clear hd HOT HST HAL hfa hna hba
          by_cases hr : r.length = 1
          · obtain ⟨b, rfl⟩ : ∃ b, r = [b] := by
              match r, hr with
              | [b], _ => exact ⟨b, rfl⟩
            have k3 := HK3.out b rfl
            have hL3 : 3 < L := by have := HLR.out; simp at this; omega
            have hLb : ((L : Int) != 4) = false := by rw [bne_eq_false_iff_eq, HLR.out]; rfl
            have HON : Hid (o = (numF b).map fun b => ⟨4, nn, b, 1⟩) := Lib.hid (by rw [HO.out, HN1.out]; rfl)
            clear hr HLR HO HK3
            go_wp2_with fail
            refine (HNB.out b rfl W0).mono ?_
            rintro e w1 ⟨rfl, hw1⟩
            subst hw1
            have hst := (HSTO.out (.int .i64 4) (.int .i64 nn) (.int .i64 ((numF b).getD 0)) (.int .i64 1))
            cases hb : numF b with
            | none =>
              rw [hb] at hst
              have HON2 : Hid (o = none) := Lib.hid (by rw [HON.out, hb]; rfl)
              simp only [Option.isSome_none, Option.getD_none] at hst ⊢
              clear hb
              go_wp2_with fail
              refine bodyPost_ret (results_cell_tmp1 (fn := Tryd.f86) (p := 2) (u := 3) (ty := 65) rfl _ _ _ _ ⟨rb, 0, none⟩ rfl (load_stored hst.1)) rfl ⟨4, nn, 0, 1, (by rw [HON2.out]; rfl), (fun p hp => by rw [HON2.out] at hp; cases hp), ?_⟩
              rw [HRBE.out]
              exact hst.2
            | some nb =>
              rw [hb] at hst
              have HON2 : Hid (o = some ⟨4, nn, nb, 1⟩) := Lib.hid (by rw [HON.out, hb]; rfl)
              simp only [Option.isSome_some, Option.getD_some] at hst ⊢
              clear hb
              go_wp2_with fail
              refine bodyPost_ret (results_cell_tmp1 (fn := Tryd.f86) (p := 2) (u := 3) (ty := 65) rfl _ _ _ _ ⟨rb, 0, none⟩ rfl (load_stored hst.1)) rfl ⟨4, nn, nb, 1, (by rw [HON2.out]; rfl), (fun p hp => by rw [HON2.out] at hp; cases hp; rfl), ?_⟩
              rw [HRBE.out]
              exact hst.2
          · have hLb : ((L : Int) != 4) = true := by rw [bne_iff_ne]; have := HLR.out; omega
            have HON : Hid (o = none) := Lib.hid (by
              rw [HO.out]
              match r, hr with
              | [], _ => rfl
              | [b], h => exact absurd rfl h
              | _ :: _ :: _, _ => rfl)
            have hst := (HSTO.out (.int .i64 0) (.int .i64 0) (.int .i64 0) (.int .i64 0))
            clear hr HLR HO
            go_wp2_with fail
            refine bodyPost_ret (results_cell_tmp1 (fn := Tryd.f86) (p := 2) (u := 3) (ty := 65) rfl _ _ _ _ ⟨rb, 0, none⟩ rfl (load_stored hst.1)) rfl ⟨0, 0, 0, 0, (by rw [HON.out]; rfl), (fun p hp => by rw [HON.out] at hp; cases hp), ?_⟩
            rw [HRBE.out]
            exact hst.2
        · have hn1 : ¬ f = [119, 114, 105, 116, 101, 114] := hf1
          have hb1 : (f == [119, 114, 105, 116, 101, 114]) = false := beq_eq_false_iff_ne.2 hf1
          by_cases hf2 : f = wRange
          · have HO := Lib.hid (HOT.out 2 hf2 (by omega) (by omega))
            have hd : wRange = [114, 97, 110, 103, 101] := rfl
            rw [hf2, hd] at k2
            clear hd HOT HST HAL hfa hna hba
            by_cases hr : r.length = 1
            · obtain ⟨b, rfl⟩ : ∃ b, r = [b] := by
                match r, hr with
                | [b], _ => exact ⟨b, rfl⟩
              have k3 := HK3.out b rfl
              have hL3 : 3 < L := by have := HLR.out; simp at this; omega
              have hLb : ((L : Int) != 4) = false := by rw [bne_eq_false_iff_eq, HLR.out]; rfl
              have HON : Hid (o = (numF b).map fun b => ⟨4, nn, b, 2⟩) := Lib.hid (by rw [HO.out, HN1.out]; rfl)
              clear hr HLR HO HK3
              go_wp2_with fail
              refine (HNB.out b rfl W0).mono ?_
              rintro e w1 ⟨rfl, hw1⟩
              subst hw1
              have hst := (HSTO.out (.int .i64 4) (.int .i64 nn) (.int .i64 ((numF b).getD 0)) (.int .i64 2))
              cases hb : numF b with
              | none =>
                rw [hb] at hst
                have HON2 : Hid (o = none) := Lib.hid (by rw [HON.out, hb]; rfl)
                simp only [Option.isSome_none, Option.getD_none] at hst ⊢
                clear hb
                go_wp2_with fail
                refine bodyPost_ret (results_cell_tmp1 (fn := Tryd.f86) (p := 2) (u := 3) (ty := 65) rfl _ _ _ _ ⟨rb, 0, none⟩ rfl (load_stored hst.1)) rfl ⟨4, nn, 0, 2, (by rw [HON2.out]; rfl), (fun p hp => by rw [HON2.out] at hp; cases hp), ?_⟩
                rw [HRBE.out]
                exact hst.2
              | some nb =>
                rw [hb] at hst
                have HON2 : Hid (o = some ⟨4, nn, nb, 2⟩) := Lib.hid (by rw [HON.out, hb]; rfl)
                simp only [Option.isSome_some, Option.getD_some] at hst ⊢
                clear hb
                go_wp2_with fail
                refine bodyPost_ret (results_cell_tmp1 (fn := Tryd.f86) (p := 2) (u := 3) (ty := 65) rfl _ _ _ _ ⟨rb, 0, none⟩ rfl (load_stored hst.1)) rfl ⟨4, nn, nb, 2, (by rw [HON2.out]; rfl), (fun p hp => by rw [HON2.out] at hp; cases hp; rfl), ?_⟩
                rw [HRBE.out]
                exact hst.2
            · have hLb : ((L : Int) != 4) = true := by rw [bne_iff_ne]; have := HLR.out; omega
              have HON : Hid (o = none) := Lib.hid (by
                rw [HO.out]
                match r, hr with
                | [], _ => rfl
                | [b], h => exact absurd rfl h
                | _ :: _ :: _, _ => rfl)
              have hst := (HSTO.out (.int .i64 0) (.int .i64 0) (.int .i64 0) (.int .i64 0))
              clear hr HLR HO
              go_wp2_with fail
              refine bodyPost_ret (results_cell_tmp1 (fn := Tryd.f86) (p := 2) (u := 3) (ty := 65) rfl _ _ _ _ ⟨rb, 0, none⟩ rfl (load_stored hst.1)) rfl ⟨0, 0, 0, 0, (by rw [HON.out]; rfl), (fun p hp => by rw [HON.out] at hp; cases hp), ?_⟩
              rw [HRBE.out]
              exact hst.2
          · have hn2 : ¬ f = [114, 97, 110, 103, 101] := hf2
            have hb2 : (f == [114, 97, 110, 103, 101]) = false := beq_eq_false_iff_ne.2 hf2
            by_cases hf3 : f = wEach
            · have HO := Lib.hid (HOT.out 3 hf3 (by omega) (by omega))
              have hd : wEach = [101, 97, 99, 104] := rfl
              rw [hf3, hd] at k2
              clear hd HOT HST HAL hfa hna hba
              by_cases hr : r.length = 1
              · obtain ⟨b, rfl⟩ : ∃ b, r = [b] := by
                  match r, hr with
                  | [b], _ => exact ⟨b, rfl⟩
                have k3 := HK3.out b rfl
                have hL3 : 3 < L := by have := HLR.out; simp at this; omega
                have hLb : ((L : Int) != 4) = false := by rw [bne_eq_false_iff_eq, HLR.out]; rfl
                have HON : Hid (o = (numF b).map fun b => ⟨4, nn, b, 3⟩) := Lib.hid (by rw [HO.out, HN1.out]; rfl)
                clear hr HLR HO HK3
                go_wp2_with fail
                refine (HNB.out b rfl W0).mono ?_
                rintro e w1 ⟨rfl, hw1⟩
                subst hw1
                have hst := (HSTO.out (.int .i64 4) (.int .i64 nn) (.int .i64 ((numF b).getD 0)) (.int .i64 3))
                cases hb : numF b with
                | none =>
                  rw [hb] at hst
                  have HON2 : Hid (o = none) := Lib.hid (by rw [HON.out, hb]; rfl)
                  simp only [Option.isSome_none, Option.getD_none] at hst ⊢
                  clear hb
                  go_wp2_with fail
                  refine bodyPost_ret (results_cell_tmp1 (fn := Tryd.f86) (p := 2) (u := 3) (ty := 65) rfl _ _ _ _ ⟨rb, 0, none⟩ rfl (load_stored hst.1)) rfl ⟨4, nn, 0, 3, (by rw [HON2.out]; rfl), (fun p hp => by rw [HON2.out] at hp; cases hp), ?_⟩
                  rw [HRBE.out]
                  exact hst.2
                | some nb =>
                  rw [hb] at hst
                  have HON2 : Hid (o = some ⟨4, nn, nb, 3⟩) := Lib.hid (by rw [HON.out, hb]; rfl)
                  simp only [Option.isSome_some, Option.getD_some] at hst ⊢
                  clear hb
                  go_wp2_with fail
                  refine bodyPost_ret (results_cell_tmp1 (fn := Tryd.f86) (p := 2) (u := 3) (ty := 65) rfl _ _ _ _ ⟨rb, 0, none⟩ rfl (load_stored hst.1)) rfl ⟨4, nn, nb, 3, (by rw [HON2.out]; rfl), (fun p hp => by rw [HON2.out] at hp; cases hp; rfl), ?_⟩
                  rw [HRBE.out]
                  exact hst.2
              · have hLb : ((L : Int) != 4) = true := by rw [bne_iff_ne]; have := HLR.out; omega
                have HON : Hid (o = none) := Lib.hid (by
                  rw [HO.out]
                  match r, hr with
                  | [], _ => rfl
                  | [b], h => exact absurd rfl h
                  | _ :: _ :: _, _ => rfl)
                have hst := (HSTO.out (.int .i64 0) (.int .i64 0) (.int .i64 0) (.int .i64 0))
                clear hr HLR HO
                go_wp2_with fail
                refine bodyPost_ret (results_cell_tmp1 (fn := Tryd.f86) (p := 2) (u := 3) (ty := 65) rfl _ _ _ _ ⟨rb, 0, none⟩ rfl (load_stored hst.1)) rfl ⟨0, 0, 0, 0, (by rw [HON.out]; rfl), (fun p hp => by rw [HON.out] at hp; cases hp), ?_⟩
                rw [HRBE.out]
                exact hst.2
            · have hn3 : ¬ f = [101, 97, 99, 104] := hf3
              have hb3 : (f == [101, 97, 99, 104]) = false := beq_eq_false_iff_ne.2 hf3
              have HON : Hid (o = none) := Lib.hid (HST.out (fun k hk => by
                rcases (by omega : k = 0 ∨ k = 1 ∨ k = 2 ∨ k = 3) with rfl | rfl | rfl | rfl
                · exact fun e => hfa e.symm
                · exact fun e => hf1 e.symm
                · exact fun e => hf2 e.symm
                · exact fun e => hf3 e.symm))
              have hst := (HSTO.out (.int .i64 0) (.int .i64 0) (.int .i64 0) (.int .i64 0))
              clear HOT HST HAL hfa hf1 hf2 hf3
              go_wp2_with fail
              refine bodyPost_ret (results_cell_tmp1 (fn := Tryd.f86) (p := 2) (u := 3) (ty := 65) rfl _ _ _ _ ⟨rb, 0, none⟩ rfl (load_stored hst.1)) rfl ⟨0, 0, 0, 0, (by rw [HON.out]; rfl), (fun p hp => by rw [HON.out] at hp; cases hp), ?_⟩
              rw [HRBE.out]
              exact hst.2
end Go.Proofs.YtdmhlhoimaeacaaDoor

/-
  The reference: what an operation's words say (f73). (The ways of its switch were printed by wip/gen/reftold.py.)
-/
namespace Go.Proofs.YtdmhlhoimaeacaaDoor
open Go.RowKit Go.Maps
set_option linter.unusedVariables false

theorem set_keep {w : World} {b q i : Nat} {v : Value} {o : Option Obj} (h : w.heap[q]? = o) (hne : q ≠ b) : (w.setCell ⟨b, i, none⟩ v).heap[q]? = o :=
  (Below.heap_setCell w _ _ _ hne).trans h
/-- What the switch over the first word leaves. -/
def ToldSt (x : Word) (lb hb : Nat) (W3 : World) (kv nv : Value) (wx : World) : Prop :=
  Below lb W3 wx ∧ ((kv = .int .i64 0 ∧ ∀ j, j < 6 → (formOf j).word ≠ x) ∨
    ∃ k, k < 6 ∧ (formOf k).word = x ∧ kv = .int .i64 (formOf k).kind ∧ nv = .int .i64 (formOf k).bounds.length ∧
      wx.heap[lb]? = some (.cells #[.int .i64 (lowOf k 0), .int .i64 (lowOf k 1), .int .i64 (lowOf k 2)] 2 (0, 0)) ∧
      wx.heap[hb]? = some (.cells #[.int .i64 (highOf k 0), .int .i64 (highOf k 1), .int .i64 (highOf k 2)] 2 (0, 0)))
theorem form_uniq {x : Word} {k : Nat} (hk : k < 6) (he : (formOf k).word = x) : formsF.find? (fun f => f.word = x) = some (formOf k) := by
  refine find_at hk (fun j hj => ?_) he
  subst he
  rcases (by omega : k = 0 ∨ k = 1 ∨ k = 2 ∨ k = 3 ∨ k = 4 ∨ k = 5) with rfl | rfl | rfl | rfl | rfl | rfl <;>
    rcases (by omega : j = 0 ∨ j = 1 ∨ j = 2 ∨ j = 3 ∨ j = 4) with rfl | rfl | rfl | rfl | rfl <;> first | omega | decide
theorem form_kind {k : Nat} (hk : k < 6) : 1 ≤ (formOf k).kind ∧ (formOf k).kind ≤ 7 := by
  rcases (by omega : k = 0 ∨ k = 1 ∨ k = 2 ∨ k = 3 ∨ k = 4 ∨ k = 5) with rfl | rfl | rfl | rfl | rfl | rfl <;> decide
/-- What the loop over the numbers leaves. -/
def TolLoop (ws : List Word) (k nb ab : Nat) (W : World) (okv iv : Value) (wr : World) : Prop :=
  ∃ i, i ≤ nb ∧ iv = .int .i64 i ∧ Below ab W wr ∧ ((okv = .bool true ∧ ∃ l : List Int, l.length = i ∧ (∀ j, j < i → withinF (ws.getD j default) (lowOf k j) (highOf k j) = some (l.getD j 0)) ∧
      wr.heap[ab]? = some (.cells #[.int .i64 (l.getD 0 0), .int .i64 (l.getD 1 0), .int .i64 (l.getD 2 0)] 2 (0, 0))) ∨
    (okv = .bool false ∧ (∃ j, j < nb ∧ withinF (ws.getD j default) (lowOf k j) (highOf k j) = none) ∧ ∃ a b c, wr.heap[ab]? = some (.cells #[.int .i64 a, .int .i64 b, .int .i64 c] 2 (0, 0))))
theorem set3 (a b c v : Int) (i : Nat) (hi : i < 3) : ∃ a' b' c', (#[Value.int .i64 a, .int .i64 b, .int .i64 c].setIfInBounds i (.int .i64 v)) = #[.int .i64 a', .int .i64 b', .int .i64 c'] := by
  rcases (by omega : i = 0 ∨ i = 1 ∨ i = 2) with rfl | rfl | rfl
  · exact ⟨v, b, c, rfl⟩
  · exact ⟨a, v, c, rfl⟩
  · exact ⟨a, b, v, rfl⟩
theorem set3_snoc (l : List Int) (v : Int) (i : Nat) (hi : i < 3) (hl : l.length = i) : (#[Value.int .i64 (l.getD 0 0), .int .i64 (l.getD 1 0), .int .i64 (l.getD 2 0)].setIfInBounds i (.int .i64 v)) =
    #[.int .i64 ((l ++ [v]).getD 0 0), .int .i64 ((l ++ [v]).getD 1 0), .int .i64 ((l ++ [v]).getD 2 0)] := by
  rcases (by omega : i = 0 ∨ i = 1 ∨ i = 2) with rfl | rfl | rfl
  · match l, hl with
    | [], _ => rfl
  · match l, hl with
    | [a], _ => rfl
  · match l, hl with
    | [a, b], _ => rfl

set_option maxRecDepth 100000 in
set_option maxHeartbeats 8000000 in
theorem refTold_walk (ao : Option Addr) (ws : List Word) (c : Nat) (w : World) (hw : WordsAt w ao ws) (hs : Short ws) (hne : ws ≠ []) (hlen : ws.length ≤ 9000000000) :
    Calls Tryd.prog 73 #[.slice ao ws.length c] w (SaidD (saidF ws) w) := by
  have HW := Lib.hid hw
  obtain ⟨x, ws, rfl⟩ : ∃ x r, ws = x :: r := by
    cases ws with
    | nil => exact absurd rfl hne
    | cons x r => exact ⟨x, r, rfl⟩
  obtain ⟨gw, ow, rfl, hc⟩ := hw.resolve_left hne
  have c0w : w.cell? ⟨gw, ow, none⟩ = some (.string ⟨x.toArray⟩) := hc 0 (by simp)
  have hclt := World.block_lt_of_cell? w _ c0w
  have hgw : gw < w.heap.size := hclt
  have hb1 : Below w.heap.size w (w.alloc (.cells #[.int .i64 0, .int .i64 0, .int .i64 0, .int .i64 0] 65)) := (Below.refl _ _).alloc (Nat.le_refl _) _
  have hs1 : (w.alloc (.cells #[.int .i64 0, .int .i64 0, .int .i64 0, .int .i64 0] 65)).heap.size = w.heap.size + 1 := by simp
  have hs2 : ((w.alloc (.cells #[.int .i64 0, .int .i64 0, .int .i64 0, .int .i64 0] 65)).alloc (.cells #[.int .i64 (-9223372036854775808), .int .i64 0, .int .i64 0] 2)).heap.size = w.heap.size + 2 := by simp
  have hs3 : (((w.alloc (.cells #[.int .i64 0, .int .i64 0, .int .i64 0, .int .i64 0] 65)).alloc (.cells #[.int .i64 (-9223372036854775808), .int .i64 0, .int .i64 0] 2)).alloc (.cells #[.int .i64 9223372036854775807, .int .i64 0, .int .i64 0] 2)).heap.size = w.heap.size + 3 := by simp
  have hb2 := hb1.alloc hb1.size (.cells #[.int .i64 (-9223372036854775808), .int .i64 0, .int .i64 0] 2)
  have hb3 := hb2.alloc hb2.size (.cells #[.int .i64 9223372036854775807, .int .i64 0, .int .i64 0] 2)
  have HRB : Hid ((((w.alloc (.cells #[.int .i64 0, .int .i64 0, .int .i64 0, .int .i64 0] 65)).alloc (.cells #[.int .i64 (-9223372036854775808), .int .i64 0, .int .i64 0] 2)).alloc (.cells #[.int .i64 9223372036854775807, .int .i64 0, .int .i64 0] 2)).heap[w.heap.size]? = some (.cells #[.int .i64 0, .int .i64 0, .int .i64 0, .int .i64 0] 65 (0, 0))) :=
    Lib.hid ((Below.heap_alloc _ _ _ (by omega)).trans ((Below.heap_alloc _ _ _ (by omega)).trans (heap_alloc_new w _)))
  have HLB : Hid ((((w.alloc (.cells #[.int .i64 0, .int .i64 0, .int .i64 0, .int .i64 0] 65)).alloc (.cells #[.int .i64 (-9223372036854775808), .int .i64 0, .int .i64 0] 2)).alloc (.cells #[.int .i64 9223372036854775807, .int .i64 0, .int .i64 0] 2)).heap[w.heap.size + 1]? = some (.cells #[.int .i64 (-9223372036854775808), .int .i64 0, .int .i64 0] 2 (0, 0))) :=
    Lib.hid ((Below.heap_alloc _ _ _ (by omega)).trans (by rw [← hs1]; exact heap_alloc_new _ _))
  have HHB : Hid ((((w.alloc (.cells #[.int .i64 0, .int .i64 0, .int .i64 0, .int .i64 0] 65)).alloc (.cells #[.int .i64 (-9223372036854775808), .int .i64 0, .int .i64 0] 2)).alloc (.cells #[.int .i64 9223372036854775807, .int .i64 0, .int .i64 0] 2)).heap[w.heap.size + 2]? = some (.cells #[.int .i64 9223372036854775807, .int .i64 0, .int .i64 0] 2 (0, 0))) :=
    Lib.hid (by rw [← hs2]; exact heap_alloc_new _ _)
  have HB3 := Lib.hid hb3
  have HS3 := Lib.hid hs3
  have HWS : Hid (∀ W, Below w.heap.size w W → ∀ j, j < ws.length → W.cell? ⟨gw, ow + (j + 1), none⟩ = some (.string ⟨(ws.getD j default).toArray⟩)) := Lib.hid (fun W hW j hj => by
    have h1 := hc (j + 1) (by simpa using hj)
    have h2 := (hW.cell (p := ⟨gw, ow + (j + 1), none⟩) (World.block_lt_of_cell? w _ h1)).trans h1
    simpa using h2)
  have HSH : Hid (Short ws) := Lib.hid (fun y hy => hs y (List.mem_cons_of_mem _ hy))
  have c0 : (((w.alloc (.cells #[.int .i64 0, .int .i64 0, .int .i64 0, .int .i64 0] 65)).alloc (.cells #[.int .i64 (-9223372036854775808), .int .i64 0, .int .i64 0] 2)).alloc (.cells #[.int .i64 9223372036854775807, .int .i64 0, .int .i64 0] 2)).cell? ⟨gw, ow, none⟩ = some (.string ⟨x.toArray⟩) := (hb3.cell (p := ⟨gw, ow, none⟩) hclt).trans c0w
  have HSUB : Hid (∀ W, Below w.heap.size w W → Calls Tryd.prog 86 #[.slice (some ⟨gw, ow, none⟩) (x :: ws).length c] W (SaidD (subsF ws) W)) := Lib.hid (fun W hW =>
    refSubscribe_walk (some ⟨gw, ow, none⟩) x ws c W (HW.out.below hW) (fun y hy => hs y (List.mem_cons_of_mem _ hy)) (by simp at hlen; omega))
  have HLEN : Hid ((x :: ws).length = ws.length + 1) := rfl
  have hlen1 : ws.length + 1 ≤ 9000000000 := hlen
  generalize hL : (x :: ws).length = L at *
  have hL0 : 0 < L := by have := HLEN.out; omega
  have hL9 : (L : Int) ≤ 9000000000 := by have := HLEN.out; omega
  clear hw hs hc c0w hb1 hb2 hb3 hs1 hs2 hs3 hL HW hclt hne
  go_enter Tryd.func73, Tryd.ntmps73
  go_upto_region 5 with fail
  rw [show w.heap.size + 1 + 1 = w.heap.size + 2 from rfl]
  generalize ((w.alloc (.cells #[.int .i64 0, .int .i64 0, .int .i64 0, .int .i64 0] 65)).alloc (.cells #[.int .i64 (-9223372036854775808), .int .i64 0, .int .i64 0] 2)).alloc (.cells #[.int .i64 9223372036854775807, .int .i64 0, .int .i64 0] 2) = W3 at *
  generalize hrb : w.heap.size = rb at *
  have HRBE := Lib.hid hrb
  clear hrb
  have r0 := (cell_of HRB.out 0).trans rfl
  have r1 := (cell_of HRB.out 1).trans rfl
  have r2 := (cell_of HRB.out 2).trans rfl
  have r3 := (cell_of HRB.out 3).trans rfl
  have r4 := free_of HRB.out
  by_cases hxs : x = wSubscribe
  · have HO : Hid (saidF (x :: ws) = subsF ws) := Lib.hid (by rw [hxs]; exact said_sub ws)
    have hd : wSubscribe = [115, 117, 98, 115, 99, 114, 105, 98, 101] := rfl
    generalize subsF ws = o at *
    generalize saidF (x :: ws) = o' at *
    rw [hxs, hd] at c0
    clear hd hxs
    go_wp2_with fail
    refine (HSUB.out W3 HB3.out).mono ?_
    rintro e w1 ⟨p1, p2, p3, p4, rfl, hp, hb1⟩
    have HP := Lib.hid hp
    have HRB1 := Lib.hid ((hb1.block rb (Array.getElem?_eq_some_iff.1 HRB.out).1).trans HRB.out)
    have HB1 : Hid (Below rb w w1) := Lib.hid (HB3.out.trans (hb1.mono (by have := HS3.out; omega)))
    have hst := store_op HRB1.out rfl HB1.out (Nat.le_refl _) (.int .i64 p1) (.int .i64 p2) (.int .i64 p3) (.int .i64 p4)
    have HS1 := Lib.hid hst.1
    have HS2 := Lib.hid hst.2
    clear r0 r1 r2 r3 r4
    have r0 := (cell_of HRB1.out 0).trans rfl
    have r1 := (cell_of HRB1.out 1).trans rfl
    have r2 := (cell_of HRB1.out 2).trans rfl
    have r3 := (cell_of HRB1.out 3).trans rfl
    have r4 := free_of HRB1.out
    clear hst hp hb1 c0
    go_wp2_with fail
    refine bodyPost_ret (results_cell_tmp1 (fn := Tryd.f73) (p := 2) (u := 3) (ty := 65) rfl _ _ _ _ ⟨rb, 0, none⟩ rfl (load_stored HS1.out)) rfl ⟨p1, p2, p3, p4, (by rw [HO.out]; rfl), (fun p hp => HP.out p (by rw [← HO.out]; exact hp)), ?_⟩
    rw [HRBE.out]
    exact HS2.out
  · have hns : ¬ x = [115, 117, 98, 115, 99, 114, 105, 98, 101] := hxs
    have hbs : (x == [115, 117, 98, 115, 99, 114, 105, 98, 101]) = false := beq_eq_false_iff_ne.2 hxs
    have HO := Lib.hid (said_form (ws := ws) hxs)
    generalize hso : saidF (x :: ws) = o at *
    clear hso
    have l0 := (cell_of HLB.out 0).trans rfl
    have l1 := (cell_of HLB.out 1).trans rfl
    have l4 := free_of HLB.out
    have g0 := (cell_of HHB.out 0).trans rfl
    have g1 := (cell_of HHB.out 1).trans rfl
    have g2 := (cell_of HHB.out 2).trans rfl
    have g4 := free_of HHB.out
    go_upto_block 0 with fail
    go_cut [4, 7] from 16 (fun kv nv wx => ToldSt x (rb + 1) (rb + 2) W3 kv nv wx)
    case first =>
      by_cases hx0 : x = wOpen
      · obtain rfl : x = [111, 112, 101, 110] := hx0
        have HXK : Hid ((formOf 0).word = [111, 112, 101, 110]) := Lib.hid rfl
        go_wp2_with fail
        go_meet
        exact ⟨((Below.refl _ _).setCell (p := ⟨rb + 2, 1, none⟩) (by show rb + 1 ≤ rb + 2; omega) _), .inr ⟨0, by omega, HXK.out, rfl, rfl, (set_keep HLB.out (by omega)), (set_at HHB.out 1 _)⟩⟩
      · have hn0 : ¬ x = [111, 112, 101, 110] := hx0
        have hb0 : (x == [111, 112, 101, 110]) = false := beq_eq_false_iff_ne.2 hx0
        by_cases hx1 : x = wClose
        · obtain rfl : x = [99, 108, 111, 115, 101] := hx1
          have HXK : Hid ((formOf 1).word = [99, 108, 111, 115, 101]) := Lib.hid rfl
          go_wp2_with fail
          go_meet
          exact ⟨(Below.refl _ _), .inr ⟨1, by omega, HXK.out, rfl, rfl, HLB.out, HHB.out⟩⟩
        · have hn1 : ¬ x = [99, 108, 111, 115, 101] := hx1
          have hb1 : (x == [99, 108, 111, 115, 101]) = false := beq_eq_false_iff_ne.2 hx1
          by_cases hx2 : x = wPublish
          · obtain rfl : x = [112, 117, 98, 108, 105, 115, 104] := hx2
            have HXK : Hid ((formOf 2).word = [112, 117, 98, 108, 105, 115, 104]) := Lib.hid rfl
            go_wp2_with fail
            go_meet
            exact ⟨((((Below.refl _ _).setCell (p := ⟨rb + 1, 1, none⟩) (by show rb + 1 ≤ rb + 1; omega) _).setCell (p := ⟨rb + 2, 1, none⟩) (by show rb + 1 ≤ rb + 2; omega) _).setCell (p := ⟨rb + 2, 2, none⟩) (by show rb + 1 ≤ rb + 2; omega) _), .inr ⟨2, by omega, HXK.out, rfl, rfl, (set_keep (set_keep (set_at HLB.out 1 _) (by omega)) (by omega)), (set_at (set_at (set_keep HHB.out (by omega)) 1 _) 2 _)⟩⟩
          · have hn2 : ¬ x = [112, 117, 98, 108, 105, 115, 104] := hx2
            have hb2 : (x == [112, 117, 98, 108, 105, 115, 104]) = false := beq_eq_false_iff_ne.2 hx2
            by_cases hx3 : x = wFollow
            · obtain rfl : x = [102, 111, 108, 108, 111, 119] := hx3
              have HXK : Hid ((formOf 3).word = [102, 111, 108, 108, 111, 119]) := Lib.hid rfl
              go_wp2_with fail
              go_meet
              exact ⟨(((Below.refl _ _).setCell (p := ⟨rb + 1, 1, none⟩) (by show rb + 1 ≤ rb + 1; omega) _).setCell (p := ⟨rb + 2, 1, none⟩) (by show rb + 1 ≤ rb + 2; omega) _), .inr ⟨3, by omega, HXK.out, rfl, rfl, (set_keep (set_at HLB.out 1 _) (by omega)), (set_at (set_keep HHB.out (by omega)) 1 _)⟩⟩
            · have hn3 : ¬ x = [102, 111, 108, 108, 111, 119] := hx3
              have hb3 : (x == [102, 111, 108, 108, 111, 119]) = false := beq_eq_false_iff_ne.2 hx3
              by_cases hx4 : x = wPoll
              · obtain rfl : x = [112, 111, 108, 108] := hx4
                have HXK : Hid ((formOf 4).word = [112, 111, 108, 108]) := Lib.hid rfl
                go_wp2_with fail
                go_meet
                exact ⟨((((Below.refl _ _).setCell (p := ⟨rb + 1, 0, none⟩) (by show rb + 1 ≤ rb + 1; omega) _).setCell (p := ⟨rb + 2, 0, none⟩) (by show rb + 1 ≤ rb + 2; omega) _).setCell (p := ⟨rb + 2, 1, none⟩) (by show rb + 1 ≤ rb + 2; omega) _), .inr ⟨4, by omega, HXK.out, rfl, rfl, (set_keep (set_keep (set_at HLB.out 0 _) (by omega)) (by omega)), (set_at (set_at (set_keep HHB.out (by omega)) 0 _) 1 _)⟩⟩
              · have hn4 : ¬ x = [112, 111, 108, 108] := hx4
                have hb4 : (x == [112, 111, 108, 108]) = false := beq_eq_false_iff_ne.2 hx4
                by_cases hx5 : x = wEnd
                · obtain rfl : x = [101, 110, 100] := hx5
                  have HXK : Hid ((formOf 5).word = [101, 110, 100]) := Lib.hid rfl
                  go_wp2_with fail
                  go_meet
                  exact ⟨(((Below.refl _ _).setCell (p := ⟨rb + 1, 0, none⟩) (by show rb + 1 ≤ rb + 1; omega) _).setCell (p := ⟨rb + 2, 0, none⟩) (by show rb + 1 ≤ rb + 2; omega) _), .inr ⟨5, by omega, HXK.out, rfl, rfl, (set_keep (set_at HLB.out 0 _) (by omega)), (set_at (set_keep HHB.out (by omega)) 0 _)⟩⟩
                · have hn5 : ¬ x = [101, 110, 100] := hx5
                  have hb5 : (x == [101, 110, 100]) = false := beq_eq_false_iff_ne.2 hx5
                  have HNO : Hid (∀ j, j < 6 → (formOf j).word ≠ x) := Lib.hid (fun j hj => by
                    rcases (by omega : j = 0 ∨ j = 1 ∨ j = 2 ∨ j = 3 ∨ j = 4 ∨ j = 5) with rfl | rfl | rfl | rfl | rfl | rfl
                    · exact fun e => hx0 e.symm
                    · exact fun e => hx1 e.symm
                    · exact fun e => hx2 e.symm
                    · exact fun e => hx3 e.symm
                    · exact fun e => hx4 e.symm
                    · exact fun e => hx5 e.symm)
                  clear hx0 hx1 hx2 hx3 hx4 hx5 hxs
                  go_wp2_with fail
                  go_meet
                  exact ⟨Below.refl _ _, .inl ⟨rfl, HNO.out⟩⟩
    case rest =>
      obtain ⟨hbw, hcut⟩ := hcut
      clear c0 l0 l1 l4 g0 g1 g2 g4 hns hbs hxs r0 r1 r2 r3 r4
      have HBW := Lib.hid hbw
      have HRBc := Lib.hid ((hbw.block rb (by omega)).trans HRB.out)
      have HBc : Hid (Below rb w wc) := Lib.hid (HB3.out.trans (hbw.mono (by omega)))
      have HSc : Hid (rb + 3 ≤ wc.heap.size) := Lib.hid (by have h1 := hbw.size; have h2 := HS3.out; omega)
      have r0 := (cell_of HRBc.out 0).trans rfl
      have r1 := (cell_of HRBc.out 1).trans rfl
      have r2 := (cell_of HRBc.out 2).trans rfl
      have r3 := (cell_of HRBc.out 3).trans rfl
      have r4 := free_of HRBc.out
      clear hbw
      rcases hcut with ⟨rfl, hno⟩ | ⟨k, hk, hfk, rfl, rfl, hlo, hhi⟩
      · have HON : Hid (o = none) := Lib.hid (by rw [HO.out, find_none (fun j hj => hno j hj)]; rfl)
        have hst := store_op HRBc.out rfl HBc.out (Nat.le_refl _) (.int .i64 0) (.int .i64 0) (.int .i64 0) (.int .i64 0)
        have HS1 := Lib.hid hst.1
        have HS2 := Lib.hid hst.2
        clear hst hno
        go_wp2_with fail
        refine bodyPost_ret (results_cell_tmp1 (fn := Tryd.f73) (p := 2) (u := 3) (ty := 65) rfl _ _ _ _ ⟨rb, 0, none⟩ rfl (load_stored HS1.out)) rfl ⟨0, 0, 0, 0, (by rw [HON.out]; rfl), (fun p hp => by rw [HON.out] at hp; cases hp), ?_⟩
        rw [HRBE.out]
        exact HS2.out
      · have HFI : Hid (o = (numsF ws (formOf k).bounds).map (opnOf (formOf k).kind)) := Lib.hid (by rw [HO.out, form_uniq hk hfk]; rfl)
        have hfl := form_len k hk
        have hfk2 := form_kind hk
        have HLO := Lib.hid hlo
        have HHI := Lib.hid hhi
        obtain ⟨kd, hkd⟩ : ∃ kd, kd = (formOf k).kind := ⟨_, rfl⟩
        rw [← hkd] at HFI hfk2 ⊢
        have hkb : (kd == 0) = false := by rw [beq_eq_false_iff_ne]; omega
        obtain ⟨nb, hnbv⟩ : ∃ nb, nb = (formOf k).bounds.length := ⟨_, rfl⟩
        have HNBV := Lib.hid hnbv.symm
        rw [← hnbv] at hfl ⊢
        clear hlo hhi hkd hnbv hfk2
        by_cases hLn : L = nb + 1
        · have hLb : ((L : Int) != (nb : Int) + 1) = false := by simp; omega
          subst hLn
          have hba : Below wc.heap.size wc (wc.alloc (.cells #[.int .i64 0, .int .i64 0, .int .i64 0] 2)) := (Below.refl _ _).alloc (Nat.le_refl _) _
          have HAB := Lib.hid (heap_alloc_new wc (.cells #[.int .i64 0, .int .i64 0, .int .i64 0] 2))
          have HBA := Lib.hid hba
          clear hba
          go_upto_region 40 with fail
          generalize wc.alloc (.cells #[.int .i64 0, .int .i64 0, .int .i64 0] 2) = w4 at *
          generalize hab : wc.heap.size = ab at *
          have HABE := Lib.hid hab
          have hrbab : rb + 3 ≤ ab := HSc.out
          clear hab r0 r1 r2 r3 r4
          go_wp2_with fail
          go_loopw [9, 10] (fun okv iv wr => TolLoop ws k nb ab wc okv iv wr) (fun _ iv _ => nb - (intOf iv).toNat)
          case atStart => exact ⟨0, Nat.zero_le _, rfl, HBA.out, .inl ⟨rfl, [], rfl, (fun j hj => by omega), HAB.out⟩⟩
          case round =>
            obtain ⟨i, hi, rfl, hlow, hcase⟩ := hrel
            have HLOWI := Lib.hid hlow
            have HRBi := Lib.hid ((hlow.block rb (by omega)).trans HRBc.out)
            have HBi : Hid (Below rb w wr) := Lib.hid (HBc.out.trans (hlow.mono (by omega)))
            have HLOi := Lib.hid ((hlow.block (rb + 1) (by omega)).trans HLO.out)
            have HHIi := Lib.hid ((hlow.block (rb + 2) (by omega)).trans HHI.out)
            have hszi : ab ≤ wr.heap.size := by have := hlow.size; have := HABE.out; omega
            clear hlow
            rcases hcase with ⟨rfl, l, hll, hlw, hcs⟩ | ⟨rfl, hbad, a, b, d, hcs⟩
            · have HLL2 := Lib.hid hll
              have HLW := Lib.hid hlw
              have HCS := Lib.hid hcs
              have habw := (Array.getElem?_eq_some_iff.1 hcs).1
              clear hll hlw hcs
              by_cases hin : i < nb
              · have hj3 : i < 3 := by omega
                have hword := HWS.out wr HBi.out i (by have := HLEN.out; omega)
                have hlc := (cell_of HLOi.out i).trans (by rcases (by omega : i = 0 ∨ i = 1 ∨ i = 2) with rfl | rfl | rfl <;> rfl : _ = some (Value.int .i64 (lowOf k i)))
                have hhc := (cell_of HHIi.out i).trans (by rcases (by omega : i = 0 ∨ i = 1 ∨ i = 2) with rfl | rfl | rfl <;> rfl : _ = some (Value.int .i64 (highOf k i)))
                have hiws : i < ws.length := by have := HLEN.out; omega
                generalize hwd : ws.getD i default = wd at *
                have HWD := Lib.hid hwd
                have HWI : Hid (∀ W, Calls Tryd.prog 56 #[.string ⟨wd.toArray⟩, .int .i64 (lowOf k i), .int .i64 (highOf k i)] W fun e w' => e = .returned (.tuple #[.int .i64 ((withinF wd (lowOf k i) (highOf k i)).getD 0), .bool (withinF wd (lowOf k i) (highOf k i)).isSome]) ∧ W = w') := Lib.hid (fun W => by
                  have h := refNumber_walk ⟨wd.toArray⟩ (lowOf k i) (highOf k i) W (by
                    rw [size_mk]
                    refine HSH.out _ ?_
                    rw [← HWD.out]
                    simp only [List.getD]
                    rw [List.getElem?_eq_getElem hiws]
                    exact List.getElem_mem _)
                  exact h)
                have hiL : ((i : Nat) : Int) + 1 < ((nb + 1 : Nat) : Int) := by omega
                have hiLn : i + 1 < nb + 1 := by omega
                clear hwd
                have HSTC : Hid (∀ w5, Below wr.heap.size wr w5 → w5.cell? ⟨ab, i, none⟩ = some (.int .i64 (l.getD i 0)) ∧ w5.frozen? ⟨ab, i, none⟩ = false) := Lib.hid (fun w5 h5 => by
                  have h := (h5.block ab habw).trans HCS.out
                  exact ⟨(cell_of h i).trans (by rcases (by omega : i = 0 ∨ i = 1 ∨ i = 2) with rfl | rfl | rfl <;> rfl), free_of h i⟩)
                go_upto_region 44 with fail
                generalize how : withinF wd (lowOf k i) (highOf k i) = ow' at *
                have HOW : Hid (withinF (ws.getD i default) (lowOf k i) (highOf k i) = ow') := Lib.hid (by rw [HWD.out]; exact how)
                clear how
                have s1' : (0 : Int) ≤ (i : Int) := by omega
                have s2' : (i : Int) < 3 := by omega
                have s3 : IntKind.i64.wrap ((i : Int) + 1) = (i : Int) + 1 := by rw [IntKind.wrap_i64]; omega
                have s4 : (0 : Int) ≤ (i : Int) + 1 := by omega
                have s5 : ((i : Int) + 1).toNat = i + 1 := by omega
                have HKEEP : Hid (∀ w5, Below wr.heap.size wr w5 → w5.cell? ⟨gw, ow + (i + 1), none⟩ = some (.string ⟨wd.toArray⟩) ∧ w5.cell? ⟨rb + 1, i, none⟩ = some (.int .i64 (lowOf k i)) ∧ w5.cell? ⟨rb + 2, i, none⟩ = some (.int .i64 (highOf k i))) := Lib.hid (fun w5 h5 =>
                  ⟨(h5.cell (p := ⟨gw, ow + (i + 1), none⟩) (World.block_lt_of_cell? _ _ hword)).trans hword, (h5.cell (p := ⟨rb + 1, i, none⟩) (World.block_lt_of_cell? _ _ hlc)).trans hlc, (h5.cell (p := ⟨rb + 2, i, none⟩) (World.block_lt_of_cell? _ _ hhc)).trans hhc⟩)
                have HKEEP2 : Hid (∀ w5 v, Below wr.heap.size wr w5 → (w5.setCell ⟨ab, i, none⟩ v).cell? ⟨gw, ow + (i + 1), none⟩ = some (.string ⟨wd.toArray⟩) ∧ (w5.setCell ⟨ab, i, none⟩ v).cell? ⟨rb + 1, i, none⟩ = some (.int .i64 (lowOf k i)) ∧ (w5.setCell ⟨ab, i, none⟩ v).cell? ⟨rb + 2, i, none⟩ = some (.int .i64 (highOf k i))) := Lib.hid (fun w5 v h5 => by
                  obtain ⟨q1, q2, q3⟩ := HKEEP.out w5 h5
                  have g1 : gw ≠ ab := by omega
                  have g2 : rb + 1 ≠ ab := by omega
                  have g3 : rb + 2 ≠ ab := by omega
                  exact ⟨(World.cell?_of_block (a := ⟨gw, ow + (i + 1), none⟩) (Below.heap_setCell w5 _ _ _ g1)).trans q1, (World.cell?_of_block (a := ⟨rb + 1, i, none⟩) (Below.heap_setCell w5 _ _ _ g2)).trans q2, (World.cell?_of_block (a := ⟨rb + 2, i, none⟩) (Below.heap_setCell w5 _ _ _ g3)).trans q3⟩)
                have HB5 : Hid (Below wr.heap.size wr wr.drew) := Lib.hid (Below.refl _ _).drew
                obtain ⟨s1, s2⟩ := HSTC.out _ HB5.out
                go_region_held3 (fun w' => w'.cell? ⟨gw, ow + (i + 1), none⟩ = some (.string ⟨wd.toArray⟩) ∧ w'.cell? ⟨rb + 1, i, none⟩ = some (.int .i64 (lowOf k i)) ∧ w'.cell? ⟨rb + 2, i, none⟩ = some (.int .i64 (highOf k i)))
                  (first | exact HKEEP.out _ HB5.out | exact HKEEP2.out _ _ HB5.out | exact HKEEP.out _ (Below.refl _ _) | exact HKEEP2.out _ _ (Below.refl _ _))
                  ((go_at_call 56; refine (HWI.out _).mono ?_; rintro e w5 ⟨rfl, hw5⟩; subst hw5))
                all_goals
                  have HC6 := Lib.hid (set_at (show wr.drew.heap[ab]? = _ from HCS.out) i (.int .i64 (ow'.getD 0)))
                  have HL6 : Hid (Below ab wc (wr.drew.setCell ⟨ab, i, none⟩ (.int .i64 (ow'.getD 0)))) := Lib.hid ((HLOWI.out.drew).setCell (Nat.le_refl _) _)
                  go_wp2_with fail
                  go_roundw
                  case rel =>
                    refine ⟨i + 1, by omega, by go_num, ?_, ?_⟩
                    · exact HL6.out
                    · cases ow' with
                      | none =>
                        obtain ⟨a', b', d', e'⟩ := set3 (l.getD 0 0) (l.getD 1 0) (l.getD 2 0) 0 i hj3
                        exact .inr ⟨rfl, ⟨i, hin, HOW.out⟩, a', b', d', by rw [← e']; exact HC6.out⟩
                      | some v' =>
                        refine .inl ⟨rfl, l ++ [v'], by simp [HLL2.out], fun j hj => ?_, by rw [← set3_snoc l v' i hj3 HLL2.out]; exact HC6.out⟩
                        by_cases e : j = i
                        · subst e
                          rw [HOW.out]
                          simp only [List.getD]
                          rw [List.getElem?_append_right (by rw [HLL2.out]; exact Nat.le_refl _), HLL2.out]
                          simp
                        · rw [HLW.out j (by omega)]
                          simp only [List.getD]
                          rw [List.getElem?_append_left (by rw [HLL2.out]; omega)]
                  case measure => simp [intOf]; omega
              · obtain rfl : i = nb := by omega
                have HON : Hid (o = some (opnOf kd l)) := Lib.hid (by
                  rw [HFI.out, nums_some (l := l) (by rw [HNBV.out]; have := HLEN.out; omega) (by rw [HNBV.out, HLL2.out]) (fun j hj => HLW.out j (by rw [HNBV.out] at hj; exact hj))]
                  rfl)
                generalize hl0 : l.getD 0 0 = l0 at *
                generalize hl1 : l.getD 1 0 = l1 at *
                generalize hl2' : l.getD 2 0 = l2 at *
                have HL0 := Lib.hid hl0
                have HL1 := Lib.hid hl1
                have HL2 := Lib.hid hl2'
                clear hl0 hl1 hl2'
                have hst := store_op HRBi.out rfl HBi.out (Nat.le_refl _) (.int .i64 kd) (.int .i64 l0) (.int .i64 l1) (.int .i64 l2)
                have a0 := (cell_of HCS.out 0).trans rfl
                have a1 := (cell_of HCS.out 1).trans rfl
                have a2 := (cell_of HCS.out 2).trans rfl
                have HS1 := Lib.hid hst.1
                have HS2 := Lib.hid hst.2
                have r0 := (cell_of HRBi.out 0).trans rfl
                have r1 := (cell_of HRBi.out 1).trans rfl
                have r2 := (cell_of HRBi.out 2).trans rfl
                have r3 := (cell_of HRBi.out 3).trans rfl
                have r4 := free_of HRBi.out
                have rd := store_op (show wr.drew.heap[rb]? = _ from HRBi.out) rfl (show Below rb w wr.drew from HBi.out.drew) (Nat.le_refl _) (.int .i64 kd) (.int .i64 l0) (.int .i64 l1) (.int .i64 l2)
                have HS3' := Lib.hid rd.1
                have HS4 := Lib.hid rd.2
                clear hst rd
                go_wp2_with fail
                go_region
                all_goals
                  go_wp2_with fail
                  refine bodyPost_ret (results_cell_tmp1 (fn := Tryd.f73) (p := 2) (u := 3) (ty := 65) rfl _ _ _ _ ⟨rb, 0, none⟩ rfl (load_stored HS3'.out)) rfl ⟨kd, l0, l1, l2, (by rw [HON.out]; rfl), (fun p hp => by rw [HON.out] at hp; cases hp; unfold opnOf; rw [HL0.out, HL1.out, HL2.out]), ?_⟩
                  rw [HRBE.out]
                  exact HS4.out
            · have HCS := Lib.hid hcs
              have HON : Hid (o = none) := Lib.hid (by
                obtain ⟨j, hj, hn⟩ := hbad
                rw [HFI.out, nums_none j (by rw [HNBV.out]; exact hj) hn]
                rfl)
              clear hcs hbad
              obtain ⟨l0, hl0⟩ : ∃ l0, l0 = a := ⟨_, rfl⟩
              obtain ⟨l1, hl1⟩ : ∃ l1, l1 = b := ⟨_, rfl⟩
              obtain ⟨l2, hl2⟩ : ∃ l2, l2 = d := ⟨_, rfl⟩
              subst hl0 hl1 hl2
              by_cases hin : i < nb
              · have hst := store_op HRBi.out rfl HBi.out (Nat.le_refl _) (.int .i64 kd) (.int .i64 l0) (.int .i64 l1) (.int .i64 l2)
                have a0 := (cell_of HCS.out 0).trans rfl
                have a1 := (cell_of HCS.out 1).trans rfl
                have a2 := (cell_of HCS.out 2).trans rfl
                have HS1 := Lib.hid hst.1
                have HS2 := Lib.hid hst.2
                have r0 := (cell_of HRBi.out 0).trans rfl
                have r1 := (cell_of HRBi.out 1).trans rfl
                have r2 := (cell_of HRBi.out 2).trans rfl
                have r3 := (cell_of HRBi.out 3).trans rfl
                have r4 := free_of HRBi.out
                have rd := store_op (show wr.drew.heap[rb]? = _ from HRBi.out) rfl (show Below rb w wr.drew from HBi.out.drew) (Nat.le_refl _) (.int .i64 kd) (.int .i64 l0) (.int .i64 l1) (.int .i64 l2)
                have HS3' := Lib.hid rd.1
                have HS4 := Lib.hid rd.2
                clear hst rd
                go_wp2_with fail
                go_region
                all_goals
                  go_wp2_with fail
                  refine bodyPost_ret (results_cell_tmp1 (fn := Tryd.f73) (p := 2) (u := 3) (ty := 65) rfl _ _ _ _ ⟨rb, 0, none⟩ rfl (load_stored HS3'.out)) rfl ⟨kd, l0, l1, l2, (by rw [HON.out]; rfl), (fun p hp => by rw [HON.out] at hp; cases hp), ?_⟩
                  rw [HRBE.out]
                  exact HS4.out
              · have hst := store_op HRBi.out rfl HBi.out (Nat.le_refl _) (.int .i64 kd) (.int .i64 l0) (.int .i64 l1) (.int .i64 l2)
                have a0 := (cell_of HCS.out 0).trans rfl
                have a1 := (cell_of HCS.out 1).trans rfl
                have a2 := (cell_of HCS.out 2).trans rfl
                have HS1 := Lib.hid hst.1
                have HS2 := Lib.hid hst.2
                have r0 := (cell_of HRBi.out 0).trans rfl
                have r1 := (cell_of HRBi.out 1).trans rfl
                have r2 := (cell_of HRBi.out 2).trans rfl
                have r3 := (cell_of HRBi.out 3).trans rfl
                have r4 := free_of HRBi.out
                have rd := store_op (show wr.drew.heap[rb]? = _ from HRBi.out) rfl (show Below rb w wr.drew from HBi.out.drew) (Nat.le_refl _) (.int .i64 kd) (.int .i64 l0) (.int .i64 l1) (.int .i64 l2)
                have HS3' := Lib.hid rd.1
                have HS4 := Lib.hid rd.2
                clear hst rd
                go_wp2_with fail
                go_region
                all_goals
                  go_wp2_with fail
                  refine bodyPost_ret (results_cell_tmp1 (fn := Tryd.f73) (p := 2) (u := 3) (ty := 65) rfl _ _ _ _ ⟨rb, 0, none⟩ rfl (load_stored HS3'.out)) rfl ⟨kd, l0, l1, l2, (by rw [HON.out]; rfl), (fun p hp => by rw [HON.out] at hp; cases hp), ?_⟩
                  rw [HRBE.out]
                  exact HS4.out
        · have hLb : ((L : Int) != (nb : Int) + 1) = true := by simp; omega
          have HON : Hid (o = none) := Lib.hid (by
            rw [HFI.out, nums_len (by rw [HNBV.out]; have := HLEN.out; omega)]
            rfl)
          have hst := store_op HRBc.out rfl HBc.out (Nat.le_refl _) (.int .i64 0) (.int .i64 0) (.int .i64 0) (.int .i64 0)
          have HS1 := Lib.hid hst.1
          have HS2 := Lib.hid hst.2
          clear hst hLn
          go_wp2_with fail
          refine bodyPost_ret (results_cell_tmp1 (fn := Tryd.f73) (p := 2) (u := 3) (ty := 65) rfl _ _ _ _ ⟨rb, 0, none⟩ rfl (load_stored HS1.out)) rfl ⟨0, 0, 0, 0, (by rw [HON.out]; rfl), (fun p hp => by rw [HON.out] at hp; cases hp), ?_⟩
          rw [HRBE.out]
          exact HS2.out
end Go.Proofs.YtdmhlhoimaeacaaDoor

/-
  The reference: an operation's line, with its times (f59).
-/
namespace Go.Proofs.YtdmhlhoimaeacaaDoor
open Go.RowKit Go.Maps
set_option linter.unusedVariables false

theorem x_notnum (r : Word) : numF (120 :: r) = none := by
  have : goodNum (120 :: r) = false := by
    unfold goodNum
    have h1 : negW (120 :: r) = false := rfl
    have h2 : digW (120 :: r) = 120 :: r := by unfold digW; rw [h1]; rfl
    rw [h2, List.all_cons]
    rw [show isDig 120 = false from rfl]
    simp
  unfold numF
  rw [this]
  rfl
theorem x_notwithin (r : Word) (lo hi : Int) : withinF (120 :: r) lo hi = none := by unfold withinF; rw [x_notnum]; rfl
theorem nums_x : ∀ (ws : List Word) (bs : List (Int × Int)) (r : Word), ws.getLast? = some (120 :: r) → numsF ws bs = none
  | [], bs, r, h => by simp at h
  | [w], [], r, h => rfl
  | [w], b :: bs, r, h => by
    simp only [List.getLast?_singleton, Option.some.injEq] at h
    subst h
    simp only [numsF, x_notwithin]
    rfl
  | w :: v :: ws, [], r, h => rfl
  | w :: v :: ws, b :: bs, r, h => by
    have ih := nums_x (v :: ws) bs r (by rw [List.getLast?_cons_cons] at h; exact h)
    have e : numsF (w :: v :: ws) (b :: bs) = (withinF w b.1 b.2).bind fun n => (numsF (v :: ws) bs).map (n :: ·) := rfl
    rw [e, ih]
    cases withinF w b.1 b.2 <;> rfl
theorem subs_x (ws : List Word) (r : Word) (h : ws.getLast? = some (120 :: r)) : subsF ws = none := by
  match ws, h with
  | [], h => simp at h
  | [_], _ => rfl
  | [n, f], h =>
    simp only [List.getLast?_cons_cons, List.getLast?_singleton, Option.some.injEq] at h
    subst h
    have : ¬ (120 :: r : Word) = wAll := by
      intro e
      have := congrArg List.head? e
      simp [wAll] at this
    simp only [subsF, if_neg this]
  | [n, f, b], h =>
    simp only [List.getLast?_cons_cons, List.getLast?_singleton, Option.some.injEq] at h
    subst h
    simp only [subsF, x_notnum]
    cases numF n with
    | none => rfl
    | some n =>
      simp only [Option.bind_some, Option.map_none]
      generalize (if f = wWriter then some 1 else if f = wRange then some 2 else if f = wEach then some 3 else none : Option Int) = q
      cases q <;> rfl
  | _ :: _ :: _ :: _ :: _, _ => rfl
theorem said_one (x : Word) : saidF [x] = none := by
  by_cases hx : x = wSubscribe
  · subst hx; rfl
  · rw [said_form hx]
    cases hf : formsF.find? (fun f => f.word = x) with
    | none => rfl
    | some f =>
      have hm := List.mem_of_find?_eq_some hf
      have : numsF [] f.bounds = none := by
        simp only [formsF, List.mem_cons, List.not_mem_nil, or_false] at hm
        rcases hm with rfl | rfl | rfl | rfl | rfl | rfl <;> rfl
      simp only [Option.bind_some, this]
      rfl
theorem said_x : ∀ (ws : List Word) (r : Word), ws.getLast? = some (120 :: r) → saidF ws = none
  | [], r, h => rfl
  | [x], r, h => said_one x
  | x :: y :: ws, r, h => by
    rw [List.getLast?_cons_cons] at h
    by_cases hx : x = wSubscribe
    · subst hx
      rw [said_sub]
      exact subs_x _ r h
    · rw [said_form hx]
      cases formsF.find? (fun f => f.word = x) with
      | none => rfl
      | some f =>
        simp only [Option.bind_some, nums_x _ _ r h]
        rfl
theorem opF_one (x : Word) : opF [x] = none := by
  unfold opF
  rw [said_one]
  simp only [List.getLast?_singleton, List.dropLast_singleton]
  have h0 : saidF [] = none := rfl
  rw [h0]
  split
  · cases withinF _ 1 65536 <;> rfl
  · rfl
theorem opF_last {ws : List Word} {r : Word} (hl : ws.getLast? = some (120 :: r)) : opF ws = (withinF r 1 65536).bind fun n => (saidF ws.dropLast).map fun o => (o, n.toNat) := opF_times (said_x ws r hl) hl
theorem opF_once {ws : List Word} {x : Word} (hl : ws.getLast? = some x) (hx : x.head? ≠ some 120) : opF ws = (saidF ws).map fun o => (o, 1) := by
  cases h : saidF ws with
  | none => rw [opF_plain h hl hx]; rfl
  | some o => rw [opF_said h]; rfl
theorem opF_rng {ws : List Word} {p : Opn × Nat} (h : opF ws = some p) : 1 ≤ p.2 ∧ p.2 ≤ 65536 := by
  unfold opF at h
  cases hs : saidF ws with
  | some o => rw [hs] at h; cases h; exact ⟨by show 1 ≤ 1; omega, by show 1 ≤ 65536; omega⟩
  | none =>
    rw [hs] at h
    simp only at h
    split at h
    · rename_i r _
      cases hr : withinF r 1 65536 with
      | none => rw [hr] at h; cases h
      | some n =>
        rw [hr] at h
        have := within_rng hr
        cases hd : saidF ws.dropLast with
        | none => rw [hd] at h; cases h
        | some o => rw [hd] at h; cases h; exact ⟨by show 1 ≤ n.toNat; omega, by show n.toNat ≤ 65536; omega⟩
    · cases h

/-- What is answered of an operation's line. -/
def ToldD (o : Option (Opn × Nat)) (w : World) (e : Ending) (w' : World) : Prop :=
  ∃ k a b c n, e = .returned (.tuple #[.agg #[.int .i64 k, .int .i64 a, .int .i64 b, .int .i64 c], .int .i64 n, .bool o.isSome]) ∧ (∀ p, o = some p → p.1 = ⟨k, a, b, c⟩ ∧ n = (p.2 : Int)) ∧ Below w.heap.size w w'

set_option maxRecDepth 100000 in
set_option maxHeartbeats 8000000 in
theorem refTimes_walk (ao : Option Addr) (ws : List Word) (c : Nat) (w : World) (hw : WordsAt w ao ws) (hs : Short ws) (hne : ws ≠ []) (hnon : NonE ws) (hcap : ws.length ≤ c) (hl9 : ws.length ≤ 9000000000) :
    Calls Tryd.prog 59 #[.slice ao ws.length c] w (ToldD (opF ws) w) := by
  have HW := Lib.hid hw
  obtain ⟨gw, ow, rfl, hc⟩ := hw.resolve_left hne
  have hL0 : 0 < ws.length := List.length_pos_iff.2 hne
  obtain ⟨x, hx⟩ : ∃ x, ws.getLast? = some x := by
    cases h : ws.getLast? with
    | none => rw [List.getLast?_eq_none_iff] at h; exact absurd h hne
    | some x => exact ⟨x, rfl⟩
  have hxl : ws.getD (ws.length - 1) default = x := by
    rw [List.getLast?_eq_getElem?] at hx
    simp only [List.getD, hx, Option.getD_some]
  have hxm : x ∈ ws := List.mem_of_getLast? hx
  have hcl : w.cell? ⟨gw, ow + (ws.length - 1), none⟩ = some (.string ⟨x.toArray⟩) := by
    have := hc (ws.length - 1) (by omega)
    rwa [hxl] at this
  have hclt := World.block_lt_of_cell? w _ hcl
  have hxne : x ≠ [] := hnon x hxm
  have hxs : x.length ≤ 4000000000 := hs x hxm
  have HT : Hid (∀ W, Below w.heap.size w W → Calls Tryd.prog 73 #[.slice (some ⟨gw, ow, none⟩) ws.length c] W (SaidD (saidF ws) W)) := Lib.hid (fun W hW => refTold_walk _ ws c W (HW.out.below hW) hs hne (by omega))
  have HTD : Hid (1 < ws.length → ∀ W, Below w.heap.size w W → Calls Tryd.prog 73 #[.slice (some ⟨gw, ow, none⟩) (ws.length - 1) c] W (SaidD (saidF ws.dropLast) W)) := Lib.hid (fun h1 W hW => by
    have hdl : ws.dropLast.length = ws.length - 1 := List.length_dropLast
    have h2 := refTold_walk (some ⟨gw, ow, none⟩) ws.dropLast c W (.inr ⟨gw, ow, rfl, fun i hi => ?_⟩) (fun y hy => hs y (List.dropLast_subset _ hy)) (by intro e; rw [e] at hdl; simp at hdl; omega) (by omega)
    · rw [hdl] at h2; exact h2
    · rw [hdl] at hi
      have h3 := hc i (by omega)
      have h4 := (hW.cell (p := ⟨gw, ow + i, none⟩) (World.block_lt_of_cell? w _ h3)).trans h3
      rw [h4]
      simp only [List.getD]
      rw [List.getElem?_dropLast, if_pos hi])
  obtain ⟨xc, xr, rfl⟩ : ∃ xc xr, x = xc :: xr := by
    cases x with
    | nil => exact absurd rfl hxne
    | cons xc xr => exact ⟨xc, xr, rfl⟩
  have hx0 : 0 < (xc :: xr).length := by simp
  have HN : Hid (∀ W, Calls Tryd.prog 56 #[.string ⟨xr.toArray⟩, .int .i64 1, .int .i64 65536] W fun e w' => e = .returned (.tuple #[.int .i64 ((withinF xr 1 65536).getD 0), .bool (withinF xr 1 65536).isSome]) ∧ W = w') := Lib.hid (fun W => by
    have h := refNumber_walk ⟨xr.toArray⟩ 1 65536 W (by rw [size_mk]; simp at hxs; omega)
    exact h)
  have HX1 : Hid ((ByteArray.mk (xc :: xr).toArray).extract 1 (xr.length + 1) = ⟨xr.toArray⟩) := Lib.hid (by rw [ext_mk]; simp)
  have hb0 : Below w.heap.size w (w.alloc (.cells #[.int .i64 0, .int .i64 0, .int .i64 0, .int .i64 0] 65)) := (Below.refl _ _).alloc (Nat.le_refl _) _
  have HB0 := Lib.hid hb0
  have HRB := Lib.hid (heap_alloc_new w (.cells #[.int .i64 0, .int .i64 0, .int .i64 0, .int .i64 0] 65))
  have cl0 := (hb0.cell (p := ⟨gw, ow + (ws.length - 1), none⟩) hclt).trans hcl
  have HLA := Lib.hid hx
  have HLEN : Hid (ws.length = ws.length) := rfl
  generalize hlen : ws.length = L at *
  have HL := Lib.hid hlen
  have hLi : ((L : Int) - 1).toNat = L - 1 := by omega
  have hLi2 : L - 1 < L := by omega
  have hLi3 : (0 : Int) ≤ (L : Int) - 1 := by omega
  have hLi4 : (L : Int) - 1 < (L : Int) := by omega
  have hc10 : (L : Int) ≤ 9000000000 := by omega
  have HO1 : Hid (L = 1 → opF ws = none ∧ saidF ws = none) := Lib.hid (fun h => by
    obtain ⟨y, rfl⟩ : ∃ y, ws = [y] := by
      match ws, hlen.trans h with
      | [y], _ => exact ⟨y, rfl⟩
    exact ⟨opF_one y, said_one y⟩)
  have HO2 := Lib.hid (fun (h : xc ≠ 120) => opF_once hx (by simp; exact h))
  have HO3 := Lib.hid (fun (h : xc = 120) => opF_last (r := xr) (by rw [hx, h]))
  generalize opF ws = o at *
  clear hx hxl hxm hcl hw hs hnon hlen hc hb0 HLEN hxne
  go_enter Tryd.func59, Tryd.ntmps59
  go_upto_region 1 with fail
  generalize w.alloc (.cells #[.int .i64 0, .int .i64 0, .int .i64 0, .int .i64 0] 65) = W0 at *
  generalize hrb : w.heap.size = rb at *
  have HRBE := Lib.hid hrb
  clear hrb
  have r0 := (cell_of HRB.out 0).trans rfl
  have r1 := (cell_of HRB.out 1).trans rfl
  have r2 := (cell_of HRB.out 2).trans rfl
  have r3 := (cell_of HRB.out 3).trans rfl
  have r4 := free_of HRB.out
  go_upto_region 2 with fail
  by_cases hA : 1 < L ∧ xc.toNat = 120
  · obtain ⟨hA1, hA2⟩ := hA
    have hx120 : xc = 120 := (u8_eq _ 120 (by omega)).2 hA2
    have HON := Lib.hid (HO3.out hx120)
    have hb : ((((ByteArray.mk (xc :: xr).toArray)[0]'(by simp [ByteArray.size])).toNat : Int) == 120) = true := by
      show ((xc.toNat : Int) == 120) = true
      rw [beq_iff_eq]; omega
    have HTL := Lib.hid (HTD.out hA1)
    have hA1' : (L : Int) > 1 := by omega
    have hsz1 : 1 ≤ (xc :: xr).length := by simp
    clear hA2 hx120 HO1 HO2 HO3 HT HTD hA1
    go_wp2_with fail
    rw [HX1.out]
    refine (HN.out _).mono ?_
    rintro e w1 ⟨rfl, hw1⟩
    subst hw1
    obtain ⟨wn, hwn⟩ : ∃ wn, wn = withinF xr 1 65536 := ⟨_, rfl⟩
    rw [← hwn] at HON ⊢
    have HWN := Lib.hid hwn
    clear hwn
    cases wn with
    | none =>
      have HON2 : Hid (o = none) := Lib.hid (by rw [HON.out]; rfl)
      have hst := store_op HRB.out rfl HB0.out (Nat.le_refl _) (.int .i64 0) (.int .i64 0) (.int .i64 0) (.int .i64 0)
      simp only [Option.isSome_none, Option.getD_none]
      go_wp2_with fail
      refine bodyPost_ret (results_cell_tmp2 (fn := Tryd.f59) (p := 2) (u := 3) (v := 4) (ty := 65) rfl _ _ _ _ ⟨rb, 0, none⟩ rfl (load_stored hst.1)) rfl ⟨0, 0, 0, 0, 0, (by rw [HON2.out]; rfl), (fun p hp => by rw [HON2.out] at hp; cases hp), ?_⟩
      rw [HRBE.out]
      exact hst.2
    | some n =>
      have HON2 : Hid (o = (saidF ws.dropLast).map fun o => (o, n.toNat)) := Lib.hid (by rw [HON.out]; rfl)
      have HNR : Hid (1 ≤ n ∧ n ≤ 65536) := Lib.hid (within_rng HWN.out.symm)
      simp only [Option.isSome_some, Option.getD_some]
      clear HON HWN
      go_wp2_with fail
      refine (HTL.out _ HB0.out).mono ?_
      rintro e w1 ⟨k, a, b, d, rfl, hp, hb1⟩
      generalize saidF ws.dropLast = so at *
      have HP := Lib.hid hp
      have HB1 : Hid (Below rb w w1) := Lib.hid (HB0.out.trans (hb1.mono (by have := HB0.out.size; have := HRBE.out; omega)))
      have hb2 : Below rb w (w1.alloc (.cells #[.int .i64 k, .int .i64 a, .int .i64 b, .int .i64 d] 65)) := HB1.out.alloc (by have := HB1.out.size; have := HRBE.out; omega) _
      have HRB1 := Lib.hid ((hb1.block rb (Array.getElem?_eq_some_iff.1 HRB.out).1).trans HRB.out)
      have HRB2 : Hid ((w1.alloc (.cells #[.int .i64 k, .int .i64 a, .int .i64 b, .int .i64 d] 65)).heap[rb]? = _) := Lib.hid ((Below.heap_alloc _ _ _ (Array.getElem?_eq_some_iff.1 HRB1.out).1).trans HRB1.out)
      have HOB := Lib.hid (heap_alloc_new w1 (.cells #[.int .i64 k, .int .i64 a, .int .i64 b, .int .i64 d] 65))
      have HB2 := Lib.hid hb2
      clear hp hb1 hb2 cl0 r0 r1 r2 r3 r4
      go_upto_region 7 with fail
      generalize w1.alloc (.cells #[.int .i64 k, .int .i64 a, .int .i64 b, .int .i64 d] 65) = w2 at *
      generalize w1.heap.size = ob at *
      have hst := store_op HRB2.out rfl HB2.out (Nat.le_refl _) (.int .i64 k) (.int .i64 a) (.int .i64 b) (.int .i64 d)
      have o0 := (cell_of HOB.out 0).trans rfl
      have o1 := (cell_of HOB.out 1).trans rfl
      have o2 := (cell_of HOB.out 2).trans rfl
      have o3 := (cell_of HOB.out 3).trans rfl
      have r0 := (cell_of HRB2.out 0).trans rfl
      have r1 := (cell_of HRB2.out 1).trans rfl
      have r2 := (cell_of HRB2.out 2).trans rfl
      have r3 := (cell_of HRB2.out 3).trans rfl
      have r4 := free_of HRB2.out
      have HS1 := Lib.hid hst.1
      have HS2 := Lib.hid hst.2
      clear hst
      go_wp2_with fail
      refine bodyPost_ret (results_cell_tmp2 (fn := Tryd.f59) (p := 2) (u := 3) (v := 4) (ty := 65) rfl _ _ _ _ ⟨rb, 0, none⟩ rfl (load_stored HS1.out)) rfl ⟨k, a, b, d, n, (by rw [HON2.out]; cases so <;> rfl), (fun p hp => ?_), ?_⟩
      · rw [HON2.out] at hp
        cases so with
        | none => cases hp
        | some q =>
          cases hp
          exact ⟨HP.out q rfl, by have := HNR.out; show n = ((n.toNat : Nat) : Int); omega⟩
      · rw [HRBE.out]
        exact HS2.out
  · have HON2 : Hid (o = (saidF ws).map fun o => (o, 1)) := Lib.hid (by
      by_cases h1 : L = 1
      · obtain ⟨q1, q2⟩ := HO1.out h1
        rw [q1, q2]; rfl
      · exact HO2.out (fun e => hA ⟨by omega, by rw [e]; rfl⟩))
    by_cases h1 : L = 1
    · subst h1
      have HTL := Lib.hid HT.out
      clear HO1 HO2 HO3 HTD HT hA
      go_wp2_with fail
      refine (HTL.out _ HB0.out).mono ?_
      rintro e w1 ⟨k, a, b, d, rfl, hp, hb1⟩
      generalize saidF ws = so at *
      have HP := Lib.hid hp
      have HB1 : Hid (Below rb w w1) := Lib.hid (HB0.out.trans (hb1.mono (by have := HB0.out.size; have := HRBE.out; omega)))
      have hb2 : Below rb w (w1.alloc (.cells #[.int .i64 k, .int .i64 a, .int .i64 b, .int .i64 d] 65)) := HB1.out.alloc (by have := HB1.out.size; have := HRBE.out; omega) _
      have HRB1 := Lib.hid ((hb1.block rb (Array.getElem?_eq_some_iff.1 HRB.out).1).trans HRB.out)
      have HRB2 : Hid ((w1.alloc (.cells #[.int .i64 k, .int .i64 a, .int .i64 b, .int .i64 d] 65)).heap[rb]? = _) := Lib.hid ((Below.heap_alloc _ _ _ (Array.getElem?_eq_some_iff.1 HRB1.out).1).trans HRB1.out)
      have HOB := Lib.hid (heap_alloc_new w1 (.cells #[.int .i64 k, .int .i64 a, .int .i64 b, .int .i64 d] 65))
      have HB2 := Lib.hid hb2
      clear hp hb1 hb2 cl0 r0 r1 r2 r3 r4
      go_upto_region 9 with fail
      generalize w1.alloc (.cells #[.int .i64 k, .int .i64 a, .int .i64 b, .int .i64 d] 65) = w2 at *
      generalize w1.heap.size = ob at *
      have hst := store_op HRB2.out rfl HB2.out (Nat.le_refl _) (.int .i64 k) (.int .i64 a) (.int .i64 b) (.int .i64 d)
      have o0 := (cell_of HOB.out 0).trans rfl
      have o1 := (cell_of HOB.out 1).trans rfl
      have o2 := (cell_of HOB.out 2).trans rfl
      have o3 := (cell_of HOB.out 3).trans rfl
      have r0 := (cell_of HRB2.out 0).trans rfl
      have r1 := (cell_of HRB2.out 1).trans rfl
      have r2 := (cell_of HRB2.out 2).trans rfl
      have r3 := (cell_of HRB2.out 3).trans rfl
      have r4 := free_of HRB2.out
      have HS1 := Lib.hid hst.1
      have HS2 := Lib.hid hst.2
      clear hst
      go_wp2_with fail
      refine bodyPost_ret (results_cell_tmp2 (fn := Tryd.f59) (p := 2) (u := 3) (v := 4) (ty := 65) rfl _ _ _ _ ⟨rb, 0, none⟩ rfl (load_stored HS1.out)) rfl ⟨k, a, b, d, 1, (by rw [HON2.out]; cases so <;> rfl), (fun p hp => ?_), ?_⟩
      · rw [HON2.out] at hp
        cases so with
        | none => cases hp
        | some q =>
          cases hp
          exact ⟨HP.out q rfl, rfl⟩
      · rw [HRBE.out]
        exact HS2.out
    · have hA1' : (L : Int) > 1 := by omega
      have hb : ((((ByteArray.mk (xc :: xr).toArray)[0]'(by simp [ByteArray.size])).toNat : Int) == 120) = false := by
        show ((xc.toNat : Int) == 120) = false
        rw [beq_eq_false_iff_ne]
        intro e
        exact hA ⟨by omega, by omega⟩
      have HTL := Lib.hid HT.out
      clear HO1 HO2 HO3 HTD HT hA h1
      go_wp2_with fail
      refine (HTL.out _ HB0.out).mono ?_
      rintro e w1 ⟨k, a, b, d, rfl, hp, hb1⟩
      generalize saidF ws = so at *
      have HP := Lib.hid hp
      have HB1 : Hid (Below rb w w1) := Lib.hid (HB0.out.trans (hb1.mono (by have := HB0.out.size; have := HRBE.out; omega)))
      have hb2 : Below rb w (w1.alloc (.cells #[.int .i64 k, .int .i64 a, .int .i64 b, .int .i64 d] 65)) := HB1.out.alloc (by have := HB1.out.size; have := HRBE.out; omega) _
      have HRB1 := Lib.hid ((hb1.block rb (Array.getElem?_eq_some_iff.1 HRB.out).1).trans HRB.out)
      have HRB2 : Hid ((w1.alloc (.cells #[.int .i64 k, .int .i64 a, .int .i64 b, .int .i64 d] 65)).heap[rb]? = _) := Lib.hid ((Below.heap_alloc _ _ _ (Array.getElem?_eq_some_iff.1 HRB1.out).1).trans HRB1.out)
      have HOB := Lib.hid (heap_alloc_new w1 (.cells #[.int .i64 k, .int .i64 a, .int .i64 b, .int .i64 d] 65))
      have HB2 := Lib.hid hb2
      clear hp hb1 hb2 cl0 r0 r1 r2 r3 r4
      go_upto_region 9 with fail
      generalize w1.alloc (.cells #[.int .i64 k, .int .i64 a, .int .i64 b, .int .i64 d] 65) = w2 at *
      generalize w1.heap.size = ob at *
      have hst := store_op HRB2.out rfl HB2.out (Nat.le_refl _) (.int .i64 k) (.int .i64 a) (.int .i64 b) (.int .i64 d)
      have o0 := (cell_of HOB.out 0).trans rfl
      have o1 := (cell_of HOB.out 1).trans rfl
      have o2 := (cell_of HOB.out 2).trans rfl
      have o3 := (cell_of HOB.out 3).trans rfl
      have r0 := (cell_of HRB2.out 0).trans rfl
      have r1 := (cell_of HRB2.out 1).trans rfl
      have r2 := (cell_of HRB2.out 2).trans rfl
      have r3 := (cell_of HRB2.out 3).trans rfl
      have r4 := free_of HRB2.out
      have HS1 := Lib.hid hst.1
      have HS2 := Lib.hid hst.2
      clear hst
      go_wp2_with fail
      refine bodyPost_ret (results_cell_tmp2 (fn := Tryd.f59) (p := 2) (u := 3) (v := 4) (ty := 65) rfl _ _ _ _ ⟨rb, 0, none⟩ rfl (load_stored HS1.out)) rfl ⟨k, a, b, d, 1, (by rw [HON2.out]; cases so <;> rfl), (fun p hp => ?_), ?_⟩
      · rw [HON2.out] at hp
        cases so with
        | none => cases hp
        | some q =>
          cases hp
          exact ⟨HP.out q rfl, rfl⟩
      · rw [HRBE.out]
        exact HS2.out
end Go.Proofs.YtdmhlhoimaeacaaDoor

/-
  The reference's reader of a line's words (f31).
-/
namespace Go.Proofs.YtdmhlhoimaeacaaDoor
open Go.RowKit
set_option linter.unusedVariables false

def wcells (L : List Word) : List Value := L.map fun x => .string ⟨x.toArray⟩
theorem wcells_snoc (L : List Word) (x : Word) : wcells (L ++ [x]) = wcells L ++ [.string ⟨x.toArray⟩] := by simp [wcells]
theorem info9 : (Tryd.prog.info? 9).map (fun i => (i.zero, i.size, i.bytes)) = some (some (.string ⟨#[]⟩), 1, 16) := by kernel_rfl
theorem under40 : Tryd.prog.underlying 40 = some (.slice 9) := by kernel_rfl
theorem words_at {w : World} {N : Nat} {p : Option Addr} {c : Nat} {L : List Word} (h : w.ownsRow N 9 1 (.slice p L.length c) L.length (wcells L)) : WordsAt w p L := by
  by_cases h0 : L = []
  · exact .inl h0
  · obtain ⟨q, hq⟩ : ∃ q, p = some ⟨q, 0, none⟩ := by
      rcases h.2 with ⟨e, h1⟩ | ⟨q, cap, _, e, _⟩
      · exact absurd (List.eq_nil_of_length_eq_zero h1) h0
      · injection e with e1 e2 e3; exact ⟨q, e1⟩
    subst hq
    refine .inr ⟨q, 0, rfl, fun i hi => ?_⟩
    have h := h.cellAt i (by omega)
    rw [Nat.zero_add, h]
    simp only [wcells, List.getElem?_map, List.getD]
    rw [List.getElem?_eq_getElem hi]
    rfl
theorem own_cap {w : World} {N e k n c : Nat} {p : Option Addr} {xs : List Value} (h : w.ownsRow N e k (.slice p n c) n xs) : n ≤ c := by
  rcases h.2 with ⟨e1, h0⟩ | ⟨q, cap, _, e1, _, _, hc, _⟩
  · rw [h0]; exact Nat.zero_le _
  · injection e1 with a b c'; rw [c']; exact hc
theorem word_app (cur l : Word) (i : Nat) (hi : i < l.length) : (ByteArray.mk cur.toArray ++ (ByteArray.mk l.toArray).extract i (i + 1)) = ⟨(cur ++ [l[i]]).toArray⟩ := by
  rw [ext_mk]
  apply ByteArray.ext
  apply Array.toList_inj.1
  simp
  rw [List.drop_eq_getElem_cons hi]
  rfl
/-- A word more. -/
theorem word_more {w wr : World} {B : Nat} (hB : w.heap.size = B) {v : Value} {L : List Word} (h : wr.ownsRow B 9 1 v L.length (wcells L)) (hl : Below B w wr) (x : Word) {v' : Value} {w4 : World}
    (ha : Appended (wr.alloc (.cells #[.string ⟨x.toArray⟩] 9)) B 9 1 v L.length 1 (wcells L ++ [.string ⟨x.toArray⟩]) v' w4) : w4.ownsRow B 9 1 v' (L ++ [x]).length (wcells (L ++ [x])) ∧ Below B w w4 := by
  have hs : B ≤ wr.heap.size := by rw [← hB]; exact hl.size
  refine ⟨by rw [List.length_append, List.length_singleton, wcells_snoc]; exact ha.1, (hl.alloc hs _).grown ha.2.1 (by simp; omega) (fun q hq => (h.lt q hq).1)⟩
set_option maxRecDepth 100000 in
set_option maxHeartbeats 8000000 in
theorem refWords_walk (l : Word) (w : World) (hl : l.length ≤ 4000000000) :
    Calls Tryd.prog 31 #[.string ⟨l.toArray⟩] w fun e w' => ∃ p c, e = .returned (.slice p (wordsF l).length c) ∧ WordsAt w' p (wordsF l) ∧ Below w.heap.size w w' ∧ (wordsF l).length ≤ c := by
  generalize hB : w.heap.size = B at *
  have HBE := Lib.hid hB
  have hsz : (ByteArray.mk l.toArray).size = l.length := size_mk l
  clear hB
  go_enter Tryd.func31, Tryd.ntmps31
  go_wp2_with fail
  go_loopw [3, 4, 5] (fun v cv iv wr => ∃ (i : Nat) (D : List Word) (cur : Word), i ≤ l.length ∧ iv = .int .i64 i ∧ cv = .string ⟨cur.toArray⟩ ∧ cur.length ≤ i ∧ D.length ≤ i ∧ D ++ wordsG cur (l.drop i) = wordsF l ∧ wr.ownsRow B 9 1 v D.length (wcells D) ∧ Below B w wr) (fun _ _ iv _ => l.length - (intOf iv).toNat)
  case atStart => exact ⟨0, [], [], Nat.zero_le _, rfl, rfl, Nat.le_refl _, Nat.le_refl _, rfl, ⟨rfl, .inl ⟨rfl, rfl⟩⟩, Below.refl _ _⟩
  case round =>
    obtain ⟨i, D, cur, hi, rfl, rfl, hc, hD, hwd, hrow, hlow⟩ := hrel
    have HWD := Lib.hid hwd
    have HROW := Lib.hid hrow
    have HLOW := Lib.hid hlow
    clear hwd hrow hlow
    by_cases hin : i < l.length
    · have hdr : l.drop i = l[i] :: l.drop (i + 1) := List.drop_eq_getElem_cons hin
      have HWD2 := Lib.hid (show D ++ wordsG cur (l[i] :: l.drop (i + 1)) = wordsF l by rw [← hdr]; exact HWD.out)
      have hix : (ByteArray.mk l.toArray)[i]'(by rw [hsz]; exact hin) = l[i] := by simp [ByteArray.getElem_eq_getElem_data]
      have hszi : i < (ByteArray.mk l.toArray).size := by rw [hsz]; exact hin
      generalize hci : l[i] = c at *
      have HBL := Lib.hid (isBlank_nat c)
      go_upto_region 6 with fail
      go_cut [21] from 10 to 34 (fun v wx => v = .bool (isBlank c) ∧ wx = wr)
      case first =>
        by_cases h32 : c.toNat = 32
        · have hb : ((((ByteArray.mk l.toArray)[i]'hszi).toNat : Int) == 32) = true := by rw [hix, beq_iff_eq]; omega
          go_wp2_with fail
          go_meet
          exact ⟨by rw [HBL.out, h32]; rfl, rfl⟩
        · have hb : ((((ByteArray.mk l.toArray)[i]'hszi).toNat : Int) == 32) = false := by rw [hix, beq_eq_false_iff_ne]; omega
          have h32b : (c.toNat == 32) = false := beq_eq_false_iff_ne.2 h32
          by_cases h9 : c.toNat = 9
          · have hb2 : ((((ByteArray.mk l.toArray)[i]'hszi).toNat : Int) == 9) = true := by rw [hix, beq_iff_eq]; omega
            go_wp2_with fail
            go_meet
            exact ⟨by rw [HBL.out, h9]; rfl, rfl⟩
          · have hb2 : ((((ByteArray.mk l.toArray)[i]'hszi).toNat : Int) == 9) = false := by rw [hix, beq_eq_false_iff_ne]; omega
            have h9b : (c.toNat == 9) = false := beq_eq_false_iff_ne.2 h9
            go_wp2_with fail
            go_meet
            have k1 : ((c.toNat : Int) == 32) = false := by rw [beq_eq_false_iff_ne]; omega
            have k2 : ((c.toNat : Int) == 9) = false := by rw [beq_eq_false_iff_ne]; omega
            exact ⟨by rw [HBL.out]; unfold blankR; rw [h32b, h9b, k1, k2], rfl⟩
      case rest =>
        obtain ⟨rfl, hwx⟩ := hcut
        subst hwx
        have HW3 : Hid (D ++ (if isBlank c then (if cur = [] then wordsG [] (l.drop (i + 1)) else cur :: wordsG [] (l.drop (i + 1))) else wordsG (cur ++ [c]) (l.drop (i + 1))) = wordsF l) := Lib.hid (by rw [← wordsG_cons]; exact HWD2.out)
        clear HBL
        generalize isBlank c = bl at *
        cases bl with
        | true =>
          cases cur with
          | nil =>
            have HW4 : Hid (D ++ wordsG [] (l.drop (i + 1)) = wordsF l) := Lib.hid HW3.out
            go_wp2_with fail
            refine ⟨⟨i + 1, D, [], by omega, by go_num, rfl, Nat.zero_le _, by omega, HW4.out, HROW.out, HLOW.out⟩, by simp [intOf]; omega⟩
          | cons a t =>
            have HW4 : Hid ((D ++ [a :: t]) ++ wordsG [] (l.drop (i + 1)) = wordsF l) := Lib.hid (by rw [← HW3.out]; simp)
            have HSX := Lib.hid (src_one0 wc #[.string ⟨(a :: t).toArray⟩] 9 1 rfl (by intro u hu; simp at hu; rw [hu]; rfl))
            have HROWA := Lib.hid (HROW.out.alloc (.cells #[.string ⟨(a :: t).toArray⟩] 9))
            have hszB : B ≤ wc.heap.size := by have := HLOW.out.size; have := HBE.out; omega
            obtain ⟨i9, hi9, z0, z1, z2⟩ := info_parts info9
            go_wp2_with (at_builtin; go_must (refine wpList_append_row rfl (.tmp 24) (.tmp 26) 40 rfl B 9 i9 _ 1 16 under40 hi9 z0 z1 (by decide) z2 rfl _ D.length (wcells D) rfl HROWA.out 1 [.string ⟨(a :: t).toArray⟩] HSX.out ?l2 ?b2 ?n2 ?_); go_must (case l2 => (unfold maxLen; omega)); go_must (case b2 => omega); go_must (case n2 => (simp; omega)); intro v61 w4 ha; go_must (have HAP := Lib.hid ha); clear ha)
            have hm := word_more HBE.out HROW.out HLOW.out (a :: t) HAP.out
            refine ⟨⟨i + 1, D ++ [a :: t], [], by omega, by go_num, rfl, Nat.zero_le _, by rw [List.length_append, List.length_singleton]; omega, HW4.out, hm.1, hm.2⟩, by simp [intOf]; omega⟩
        | false =>
          go_wp2_with fail
          refine ⟨⟨i + 1, D, cur ++ [c], by omega, by go_num, ?_, by rw [List.length_append, List.length_singleton]; omega, by omega, HW3.out, HROW.out, HLOW.out⟩, by simp [intOf]; omega⟩
          rw [word_app cur l i hin, hci]
    · obtain rfl : i = l.length := by omega
      have hdr : l.drop l.length = [] := List.drop_length
      have HWD2 : Hid (D ++ (if cur = [] then [] else [cur]) = wordsF l) := Lib.hid (by have h := HWD.out; rw [hdr, wordsG_nil] at h; exact h)
      clear hdr HWD
      cases cur with
      | nil =>
        have hD2 : D = wordsF l := by have h := HWD2.out; simpa using h
        subst hD2
        go_wp2_with fail
        obtain ⟨p, cp, rfl⟩ := own_slice HROW.out
        go_ret
        exact ⟨p, cp, rfl, words_at HROW.out, HLOW.out, own_cap HROW.out⟩
      | cons a t =>
        have HW4 : Hid (D ++ [a :: t] = wordsF l) := Lib.hid (by have h := HWD2.out; simpa using h)
        have HSX := Lib.hid (src_one0 wr #[.string ⟨(a :: t).toArray⟩] 9 1 rfl (by intro u hu; simp at hu; rw [hu]; rfl))
        have HROWA := Lib.hid (HROW.out.alloc (.cells #[.string ⟨(a :: t).toArray⟩] 9))
        have hszB : B ≤ wr.heap.size := by have := HLOW.out.size; have := HBE.out; omega
        obtain ⟨i9, hi9, z0, z1, z2⟩ := info_parts info9
        have hDl : D.length ≤ 4000000000 := by omega
        go_wp2_with (at_builtin; go_must (refine wpList_append_row rfl (.tmp 37) (.tmp 39) 40 rfl B 9 i9 _ 1 16 under40 hi9 z0 z1 (by decide) z2 rfl _ D.length (wcells D) rfl HROWA.out 1 [.string ⟨(a :: t).toArray⟩] HSX.out ?l2 ?b2 ?n2 ?_); go_must (case l2 => (unfold maxLen; omega)); go_must (case b2 => omega); go_must (case n2 => (simp; omega)); intro v61 w4 ha; go_must (have HAP := Lib.hid ha); clear ha)
        have hm := word_more HBE.out HROW.out HLOW.out (a :: t) HAP.out
        rw [HW4.out] at hm
        obtain ⟨p, cp, rfl⟩ := own_slice hm.1
        go_ret
        exact ⟨p, cp, rfl, words_at hm.1, hm.2, own_cap hm.1⟩
end Go.Proofs.YtdmhlhoimaeacaaDoor

/-
  The reference's reader of a text's lines (f15).
-/
namespace Go.Proofs.YtdmhlhoimaeacaaDoor
open Go.RowKit
set_option linter.unusedVariables false

theorem line_at : ∀ (u r : Word), (∀ c ∈ u, c ≠ 10) → lineOf (u ++ 10 :: r) = (u, r)
  | [], r, _ => by simp [lineOf]
  | c :: u, r, h => by
    have hc : ¬ c = 10 := h c (by simp)
    have ih := line_at u r (fun d hd => h d (by simp [hd]))
    show lineOf (c :: (u ++ 10 :: r)) = _
    rw [lineOf, if_neg hc, ih]
theorem line_all : ∀ (u : Word), (∀ c ∈ u, c ≠ 10) → lineOf u = (u, [])
  | [], _ => rfl
  | c :: u, h => by
    have hc : ¬ c = 10 := h c (by simp)
    have ih := line_all u (fun d hd => h d (by simp [hd]))
    rw [lineOf, if_neg hc, ih]
/-- A text's lines. -/
def linesA (t : Word) : List Word := linesF t.length t
theorem linesA_nil : linesA [] = [] := rfl
theorem linesA_cons {t : Word} (h : t ≠ []) : linesA t = (lineOf t).1 :: linesA (lineOf t).2 := by
  cases t with
  | nil => exact absurd rfl h
  | cons c r =>
    have hl := lineOf_lt c r
    show linesF (r.length + 1) (c :: r) = _
    rw [linesF]
    unfold linesA
    rw [lines_fuel r.length (lineOf (c :: r)).2.length _ (by simp at hl; omega) (Nat.le_refl _)]
theorem lines_hit {l : Word} {f i : Nat} (hf : f ≤ i) (hi : i < l.length) (h : ∀ c ∈ (l.drop f).take (i - f), c ≠ 10) (he : l[i] = 10) : linesA (l.drop f) = (l.drop f).take (i - f) :: linesA (l.drop (i + 1)) := by
  have e : l.drop f = (l.drop f).take (i - f) ++ 10 :: l.drop (i + 1) := by
    have h1 := (List.take_append_drop (i - f) (l.drop f)).symm
    rw [List.drop_drop, show f + (i - f) = i by omega, List.drop_eq_getElem_cons hi, he] at h1
    exact h1
  rw [linesA_cons (by intro e2; rw [e2] at e; simp at e)]
  have h2 := line_at _ (l.drop (i + 1)) h
  rw [← e] at h2
  rw [h2]
theorem lines_end {l : Word} {f : Nat} (hf : f < l.length) (h : ∀ c ∈ (l.drop f).take (l.length - f), c ≠ 10) : linesA (l.drop f) = [l.drop f] := by
  rw [List.take_of_length_le (by simp)] at h
  rw [linesA_cons (by intro e; have := congrArg List.length e; simp at this; omega), line_all _ h]
  rfl
theorem take_more {l : Word} {f i : Nat} (hf : f ≤ i) (hi : i < l.length) : (l.drop f).take (i + 1 - f) = (l.drop f).take (i - f) ++ [l[i]] := by
  rw [show i + 1 - f = (i - f) + 1 by omega, List.take_succ_eq_append_getElem (by simp; omega)]
  congr 2
  simp only [List.getElem_drop]
  congr 1
  omega

set_option maxRecDepth 100000 in
set_option maxHeartbeats 4000000 in
theorem refLines_walk (l : Word) (w : World) (hl : l.length ≤ 4000000000) :
    Calls Tryd.prog 15 #[.string ⟨l.toArray⟩] w fun e w' => ∃ p c, e = .returned (.slice p (linesA l).length c) ∧ w'.ownsRow w.heap.size 9 1 (.slice p (linesA l).length c) (linesA l).length (wcells (linesA l)) ∧ Below w.heap.size w w' ∧ (linesA l).length ≤ c ∧ (linesA l).length ≤ l.length + 1 := by
  generalize hB : w.heap.size = B at *
  have HBE := Lib.hid hB
  have hsz : (ByteArray.mk l.toArray).size = l.length := size_mk l
  clear hB
  go_enter Tryd.func15, Tryd.ntmps15
  go_wp2_with fail
  go_loopw [3, 4, 5] (fun v fv iv wr => ∃ (i f : Nat) (D : List Word), f ≤ i ∧ i ≤ l.length ∧ iv = .int .i64 i ∧ fv = .int .i64 f ∧ D.length ≤ f ∧ D ++ linesA (l.drop f) = linesA l ∧ (∀ c ∈ (l.drop f).take (i - f), c ≠ 10) ∧ wr.ownsRow B 9 1 v D.length (wcells D) ∧ Below B w wr) (fun _ _ iv _ => l.length - (intOf iv).toNat)
  case atStart => exact ⟨0, 0, [], Nat.zero_le _, Nat.zero_le _, rfl, rfl, Nat.le_refl _, rfl, (fun c hc => by simp at hc), ⟨rfl, .inl ⟨rfl, rfl⟩⟩, Below.refl _ _⟩
  case round =>
    obtain ⟨i, f, D, hfi, hi, rfl, rfl, hD, hwd, hno, hrow, hlow⟩ := hrel
    have HWD := Lib.hid hwd
    have HNO := Lib.hid hno
    have HROW := Lib.hid hrow
    have HLOW := Lib.hid hlow
    have hszB : B ≤ wr.heap.size := by have := HLOW.out.size; have := HBE.out; omega
    obtain ⟨i9, hi9, z0, z1, z2⟩ := info_parts info9
    have hDl : D.length ≤ 4000000000 := by omega
    clear hwd hrow hlow hno
    by_cases hin : i < l.length
    · have hix : (ByteArray.mk l.toArray)[i]'(by rw [hsz]; exact hin) = l[i] := by simp [ByteArray.getElem_eq_getElem_data]
      have hszi : i < (ByteArray.mk l.toArray).size := by rw [hsz]; exact hin
      by_cases hc : l[i].toNat = 10
      · have hb : ((((ByteArray.mk l.toArray)[i]'hszi).toNat : Int) == 10) = true := by rw [hix, beq_iff_eq]; omega
        have HHIT := Lib.hid (lines_hit hfi hin HNO.out ((u8_eq _ 10 (by omega)).2 hc))
        have HSX := Lib.hid (src_one0 wr #[.string ((ByteArray.mk l.toArray).extract f i)] 9 1 rfl (by intro u hu; simp at hu; rw [hu]; rfl))
        have HROWA := Lib.hid (HROW.out.alloc (.cells #[.string ((ByteArray.mk l.toArray).extract f i)] 9))
        have hext := Lib.hid (ext_mk l f i)
        clear hix hc
        go_wp2_with (at_builtin; go_must (refine wpList_append_row rfl (.tmp 16) (.tmp 21) 40 rfl B 9 i9 _ 1 16 under40 hi9 z0 z1 (by decide) z2 rfl _ D.length (wcells D) rfl HROWA.out 1 [.string ((ByteArray.mk l.toArray).extract f i)] HSX.out ?l2 ?b2 ?n2 ?_); go_must (case l2 => (unfold maxLen; omega)); go_must (case b2 => omega); go_must (case n2 => (simp; omega)); intro v61 w4 ha; go_must (have HAP := Lib.hid ha); clear ha)
        have ha := HAP.out
        rw [hext.out] at ha
        have hm := word_more HBE.out HROW.out HLOW.out _ ha
        refine ⟨⟨i + 1, i + 1, D ++ [(l.drop f).take (i - f)], Nat.le_refl _, by omega, by go_num, by go_num, by rw [List.length_append, List.length_singleton]; omega, ?_, (fun c hc => by simp at hc), hm.1, hm.2⟩, by simp [intOf]; omega⟩
        rw [← HWD.out, HHIT.out]
        simp
      · have hb : ((((ByteArray.mk l.toArray)[i]'hszi).toNat : Int) == 10) = false := by rw [hix, beq_eq_false_iff_ne]; omega
        have HNO2 : Hid (∀ c ∈ (l.drop f).take (i + 1 - f), c ≠ 10) := Lib.hid (by
          intro c h
          rw [take_more hfi hin, List.mem_append] at h
          rcases h with h | h
          · exact HNO.out c h
          · simp only [List.mem_cons, List.not_mem_nil, or_false] at h
            subst h
            intro e
            exact hc ((u8_eq _ 10 (by omega)).1 e))
        clear hix hc
        go_wp2_with fail
        refine ⟨⟨i + 1, f, D, by omega, by omega, by go_num, rfl, hD, HWD.out, HNO2.out, HROW.out, HLOW.out⟩, by simp [intOf]; omega⟩
    · obtain rfl : i = l.length := by omega
      by_cases hfl : f < l.length
      · have HW4 : Hid (D ++ [l.drop f] = linesA l) := Lib.hid (by rw [← HWD.out, lines_end hfl HNO.out])
        have HSX := Lib.hid (src_one0 wr #[.string ((ByteArray.mk l.toArray).extract f l.length)] 9 1 rfl (by intro u hu; simp at hu; rw [hu]; rfl))
        have HROWA := Lib.hid (HROW.out.alloc (.cells #[.string ((ByteArray.mk l.toArray).extract f l.length)] 9))
        have hext : Hid ((ByteArray.mk l.toArray).extract f l.length = ⟨(l.drop f).toArray⟩) := Lib.hid (by rw [ext_mk, List.take_of_length_le (by simp)])
        go_wp2_with (at_builtin; go_must (refine wpList_append_row rfl (.tmp 29) (.tmp 33) 40 rfl B 9 i9 _ 1 16 under40 hi9 z0 z1 (by decide) z2 rfl _ D.length (wcells D) rfl HROWA.out 1 [.string ((ByteArray.mk l.toArray).extract f l.length)] HSX.out ?l2 ?b2 ?n2 ?_); go_must (case l2 => (unfold maxLen; omega)); go_must (case b2 => omega); go_must (case n2 => (simp; omega)); intro v61 w4 ha; go_must (have HAP := Lib.hid ha); clear ha)
        have ha := HAP.out
        rw [hext.out] at ha
        have hm := word_more HBE.out HROW.out HLOW.out _ ha
        have hcnt : (linesA l).length ≤ l.length + 1 := by rw [← HW4.out, List.length_append, List.length_singleton]; omega
        rw [HW4.out] at hm
        obtain ⟨p, cp, rfl⟩ := own_slice hm.1
        go_ret
        exact ⟨p, cp, rfl, hm.1, hm.2, own_cap hm.1, hcnt⟩
      · have hfe : f = l.length := by omega
        have hD2 : D = linesA l := by have h := HWD.out; rw [hfe, List.drop_length, linesA_nil, List.append_nil] at h; exact h
        have hcnt : (linesA l).length ≤ l.length + 1 := by rw [← hD2]; omega
        have HDE := Lib.hid hD2
        clear hfe hD2
        obtain ⟨p, cp, rfl⟩ := own_slice HROW.out
        go_wp2_with fail
        go_ret
        have hr := HROW.out
        rw [HDE.out] at hr ⊢
        exact ⟨p, cp, rfl, hr, HLOW.out, own_cap hr, hcnt⟩
end Go.Proofs.YtdmhlhoimaeacaaDoor

/-
  Blocks of strings are kept by the reference's reader: memory. No walk.
-/
namespace Go.Proofs.YtdmhlhoimaeacaaDoor
open Go.RowKit Go.Maps
set_option linter.unusedVariables false

/-- Every block of strings stays. -/
def Keep9 (w w' : World) : Prop := ∀ (q : Nat) (cs : Array Value), w.heap[q]? = some (Obj.cells cs 9 (0, 0)) → w'.heap[q]? = some (Obj.cells cs 9 (0, 0))
theorem Keep9.refl (w : World) : Keep9 w w := fun _ _ h => h
theorem Keep9.trans {a b c : World} (h1 : Keep9 a b) (h2 : Keep9 b c) : Keep9 a c := fun q cs h => h2 q cs (h1 q cs h)
theorem keep_below {w w' : World} (h : Below w.heap.size w w') : Keep9 w w' := fun q cs hq => (h.block q (Array.getElem?_eq_some_iff.1 hq).1).trans hq
theorem keep_alloc (w : World) (o : Obj) : Keep9 w (w.alloc o) := keep_below ((Below.refl _ _).alloc (Nat.le_refl _) o)
theorem keep_drew (w : World) : Keep9 w w.drew := keep_below (Below.refl _ _).drew
theorem keep_set {w : World} {b i T : Nat} {v : Value} {cs : Array Value} {fz : Nat × Nat} (hb : w.heap[b]? = some (.cells cs T fz)) (hT : T ≠ 9) : Keep9 w (w.setCell ⟨b, i, none⟩ v) := fun q cs' hq => by
  refine (Below.heap_setCell w _ _ _ ?_).trans hq
  intro e
  subst e
  rw [hb] at hq
  cases hq
  exact hT rfl
theorem keep_grown {w w1 : World} {N e k n : Nat} {v : Value} {xs : List Value} (h : w.ownsRow N e k v n xs) (hg : w.grownBy w1 v.ownBlock) (he : e ≠ 9) : Keep9 w w1 := fun q cs hq => by
  refine (hg.block q (Array.getElem?_eq_some_iff.1 hq).1 ?_).trans hq
  intro e2
  obtain ⟨c', fz, hx⟩ := Lib.ownsRow_kind h q e2.symm
  rw [hq] at hx
  cases hx
  exact he rfl
theorem keep_app_head {W w1 : World} {N T eT eH g : Nat} {x y tv hv sv : Value} {V : Nat → Value} {S : Scr} (h : RdrS W N T eT eH g x y tv hv sv V S) {e k n : Nat} {v : Value} {xs : List Value} (hrow : W.ownsRow N e k v n xs) (hg : W.grownBy w1 v.ownBlock) (he : e ≠ T) (he9 : e ≠ 9) (hT9 : T ≠ 9) (i : Nat) (u : Value) :
    Keep9 W (w1.setCell ⟨g, i, none⟩ u) :=
  (keep_grown hrow hg he9).trans (keep_set (head_other hrow h.head hg he) hT9)
theorem own_keep9 {w w' : World} {N k n : Nat} {v : Value} {xs : List Value} (h : w.ownsRow N 9 k v n xs) (hk : Keep9 w w') : w'.ownsRow N 9 k v n xs := by
  refine ⟨h.1, ?_⟩
  rcases h.2 with hn | ⟨g, cap, cur, rfl, h1, h2, h3⟩
  · exact .inl hn
  · exact .inr ⟨g, cap, cur, rfl, h1, hk g cur h2, h3⟩
end Go.Proofs.YtdmhlhoimaeacaaDoor
