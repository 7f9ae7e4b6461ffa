/-
  The document's search.on: the walk of one step; the contract.
-/
import Derived.Test.YtfcaebceklhbkaaDoorRefStep
namespace Go.Proofs.YtfcaebceklhbkaaDoor
open Go.RowKit
set_option linter.unusedVariables false

theorem bit_div (d k : Nat) : d.testBit k = decide (d / 2 ^ k % 2 = 1) := by
  rw [Nat.testBit, Nat.and_comm, Nat.and_one_is_mod, Nat.shiftRight_eq_div_pow]
  rcases Nat.mod_two_eq_zero_or_one (d / 2 ^ k) with h | h <;> simp [h]
theorem add_or (d k : Nat) (h : d.testBit k = false) : ((d ||| 1 <<< k : Nat) : Int) = (d : Int) + ((2 ^ k : Nat) : Int) := by
  have h0 : ¬ d / 2 ^ k % 2 = 1 := by rw [bit_div] at h; simpa using h
  have : d ||| 1 <<< k = d + 2 ^ k := by
    rw [Nat.one_shiftLeft]
    apply Nat.eq_of_testBit_eq
    intro j
    rw [Nat.testBit_or, Nat.testBit_two_pow]
    have hk := Nat.two_pow_pos k
    rcases Nat.lt_trichotomy j k with hlt | rfl | hgt
    · have h1 := congrArg (fun x => x.testBit j) (Nat.add_mod_right d (2 ^ k))
      simp only [Nat.testBit_mod_two_pow, hlt, decide_true, Bool.true_and] at h1
      rw [h1]
      simp
      omega
    · rw [bit_div (d + 2 ^ j), Nat.add_div_right _ hk]
      have : (d / 2 ^ j + 1) % 2 = 1 := by omega
      simp [this]
    · have e1 : (d + 2 ^ k) / 2 ^ k / 2 = d / 2 ^ k / 2 := by rw [Nat.add_div_right _ hk]; omega
      rw [Nat.div_div_eq_div_mul, Nat.div_div_eq_div_mul, ← Nat.pow_succ] at e1
      have h1 := congrArg (fun x => x.testBit (j - (k + 1))) e1
      simp only [Nat.testBit_div_two_pow] at h1
      rw [show j - (k + 1) + k.succ = j by omega] at h1
      rw [h1]
      simp
      omega
  rw [this]
  norm_cast

set_option maxRecDepth 100000 in
set_option maxHeartbeats 16000000 in
theorem refOn_step (w0 : World) (sb nb : Nat) (o : Int) (ao : Option Addr) (n co : Nat) (S : List Cl) (hn : n ≤ 12) (hSn : S.length = n) (hC : CallRow w0 ao S) (hSf : ∀ c ∈ S, c.ln ≤ 9223372036854775807) (r : Nat)
    (ih : ∀ W V D d v s, RIn w0 sb nb o ao n co S r W V D d v s → Calls Tryd.prog 49 #[.pointer (some ⟨sb, 0, none⟩), .int .i64 ((d : Nat) : Int), v, .int .i64 (pc n d : Nat)] W (ROut w0 sb nb o ao n co S r W D d s))
    (W : World) (V : Nat → Value) (D : Nat → List (Value × List Int)) (d : Nat) (v : Value) (s : List Int) (h : RIn w0 sb nb o ao n co S (r + 1) W V D d v s) :
    Calls Tryd.prog 49 #[.pointer (some ⟨sb, 0, none⟩), .int .i64 (d : Int), v, .int .i64 (pc n d : Nat)] W (ROut w0 sb nb o ao n co S (r + 1) W D d s) := by
  have HIN := Lib.hid h
  have HIH := Lib.hid ih
  have HC := Lib.hid hC
  have HSF := Lib.hid hSf
  have HSN := Lib.hid hSn
  obtain ⟨K, hK⟩ : ∃ K, 2 ^ n = K := ⟨_, rfl⟩
  obtain ⟨ad, cd, hV⟩ := h.st.form h.dlt
  have hNW : w0.heap.size ≤ W.heap.size := h.low.size
  have s0 := (cell_of h.st.sbk 0).trans rfl
  have s1 := (cell_of h.st.sbk 1).trans rfl
  have s2 := (cell_of h.st.sbk 2).trans rfl
  have c0 := (h.st.cell h.dlt).1
  rw [hV] at c0
  rw [hK] at s2
  have hdK : d < K := by rw [← hK]; exact h.dlt
  have hKn : K ≤ 4096 := by rw [← hK]; exact Nat.pow_le_pow_right (n := 2) (by omega) hn
  obtain ⟨p, hp⟩ : ∃ p, pc n d = p := ⟨_, rfl⟩
  have hpn : p < n := by have := h.left; omega
  have hpr : p + r + 1 = n := by have := h.left; omega
  have hne : ((p : Int) == (n : Int)) = false := by rw [beq_eq_false_iff_ne]; omega
  have hsl : s.length ≤ 2999999 := by have := h.len; omega
  obtain ⟨L, hL⟩ : ∃ L, (D d).length = L := ⟨_, rfl⟩
  rw [hL] at c0
  have hLb : L ≤ 12 ^ 12 := by
    have h1 := h.bound d h.dlt (Nat.le_refl _)
    rw [Nat.sub_self, Nat.pow_zero] at h1
    have h2 : 12 ^ pc n d ≤ 12 ^ 12 := Nat.pow_le_pow_right (by omega) (by omega)
    omega
  have HVd := Lib.hid hV
  have HL := Lib.hid hL
  have HP := Lib.hid hp
  have HKK := Lib.hid hK
  have hL64 : (L : Int) ≤ 9223372036854775807 := by
    have : (12 : Nat) ^ 12 = 8916100448256 := by decide
    omega
  clear h ih hC hSf hSn hV hL hK hLb
  rw [hp]
  clear hp
  go_enter Tryd.func49, Tryd.ntmps49
  go_wp2_with fail
  go_loopw [11] (fun iv wr => ∃ i : Nat, i ≤ L ∧ iv = .int .i64 i ∧ Below W.heap.size W wr) (fun iv _ => L - (intOf iv).toNat)
  case atStart => exact ⟨0, by omega, rfl, Below.refl _ _⟩
  case round =>
    obtain ⟨i, hi, rfl, hlow⟩ := hrel
    have HLW := Lib.hid hlow
    by_cases hlt : i < L
    · have hst := HIN.out.st.below hlow
      have hrow := hst.rows d HIN.out.dlt
      rw [HVd.out] at hrow
      obtain ⟨g, rfl⟩ : ∃ g, ad = some ⟨g, 0, none⟩ := by
        rcases hrow.2 with ⟨e, h0⟩ | ⟨g, cap, _, e, _⟩
        · have := HL.out; omega
        · cases e; exact ⟨g, rfl⟩
      have hil : i < (D d).length := by rw [HL.out]; exact hlt
      have hx := hst.st d HIN.out.dlt _ (List.getElem_mem hil)
      have hc := hrow.cellAt i (by omega)
      rw [List.getElem?_map, List.getElem?_eq_getElem hil] at hc
      simp only [Option.map_some] at hc
      generalize (D d)[i] = x at *
      obtain ⟨xv, xs⟩ := x
      simp only at hc hx
      have H62 := Lib.hid (sameState_walk xv v xs s wr hx.1.nums ((HIN.out.ok.fk (FK.below hlow hNW)).nums) (by have := hx.2.2; omega) (by omega))
      have HX := Lib.hid hx.2.1
      clear hst hrow hx hlow hil
      go_wp2_with fail
      refine H62.out.mono ?_
      rintro e w2 ⟨rfl, hb2⟩
      have HB2 := Lib.hid (HLW.out.trans (hb2.mono HLW.out.size))
      clear hb2
      by_cases hxs : xs = s
      · have hd : decide (xs = s) = true := by simp [hxs]
        have HSR := Lib.hid (show srch o S (r + 1) d s = none from by
          have h1 := HX.out
          rw [hxs, HP.out, show n - p = r + 1 by omega] at h1
          exact h1)
        rw [hd]
        go_wp2_with fail
        go_ret2
        refine ⟨V, D, FK.below HB2.out hNW, HIN.out.st.below HB2.out, fun e he => by omega, ?_⟩
        rw [HSR.out]
        rfl
      · have hd : decide (xs = s) = false := by simp [hxs]
        rw [hd]
        go_wp2_with fail
        go_roundw
        case rel => exact ⟨i + 1, by omega, by go_num, HB2.out⟩
        case measure => simp [intOf]; omega
    · obtain rfl : i = L := by omega
      have HW2 := Lib.hid hlow
      clear hlow
      generalize wr = W1 at *
      go_wp2_with fail
      go_loopw [12] (fun kv wr => ∃ k : Nat, k ≤ n ∧ kv = .int .i64 k ∧ ∃ V' D', RLp w0.heap.size sb nb n o (.slice ao n co) S W D r d s k V' D' wr) (fun kv _ => n - (intOf kv).toNat)
      case atStart => exact ⟨0, by omega, rfl, V, D, FK.below HW2.out hNW, HIN.out.st.below HW2.out, by simp [upTo], fun e he => by split <;> omega⟩
      case round =>
        obtain ⟨k, hk, rfl, V', D', hlp⟩ := hrel
        have HLP := Lib.hid hlp
        have hNr : w0.heap.size ≤ wr.heap.size := Nat.le_trans hNW hlp.fk.1.size
        have x0 := (cell_of hlp.st.sbk 0).trans rfl
        have x1 := (cell_of hlp.st.sbk 1).trans rfl
        have x2 := (cell_of hlp.st.sbk 2).trans rfl
        rw [HKK.out] at x2
        have HLOW := Lib.hid (HIN.out.low.trans hlp.fk.1)
        by_cases hlt : k < n
        · have HSTEP : Hid (stepF o S r d s k = if d.testBit k || !mayF S d.testBit k then none
              else if answers (S.getD k default) (doF o s (S.getD k default).k (S.getD k default).x (S.getD k default).y) then (srch o S r (d ||| 1 <<< k) (doF o s (S.getD k default).k (S.getD k default).x (S.getD k default).y).1).map (k :: ·) else none) := rfl
          have HBIT := Lib.hid (shr_bit d k (d.testBit k) rfl)
          have hmin : min k 64 = k := by omega
          have hfd := shr_fdiv d k
          have hq0 : 0 ≤ ((d >>> k : Nat) : Int) := Int.natCast_nonneg _
          generalize d >>> k = q at *
          cases hdk : d.testBit k with
          | true =>
            have hq2 : q % 2 = 1 := by have := HBIT.out; rw [hdk] at this; exact this
            have hq : ((q : Int).tmod 2) = 1 := by rw [Int.tmod_eq_emod_of_nonneg hq0]; omega
            have HNO := Lib.hid (show stepF o S r d s k = none from by rw [hid_eq HSTEP, hdk]; rfl)
            clear HSTEP HBIT hlp
            go_wp2_with fail
            go_roundw
            case rel => exact ⟨k + 1, by omega, by go_num, V', D', HLP.out.next hNr (Below.refl _ _) HNO.out⟩
            case measure => simp [intOf]; omega
          | false =>
            have hq2 : q % 2 = 0 := by have := HBIT.out; rw [hdk] at this; exact this
            have hq : ((q : Int).tmod 2) = 0 := by rw [Int.tmod_eq_emod_of_nonneg hq0]; omega
            have HMAY := Lib.hid (refMay_walk o sb ao n co d k _ S wr hlp.st.sbk (HC.out.below (w' := wr) (HLOW.out)) HSN.out hn hlt (by omega))
            clear HBIT hlp
            go_wp2_with fail
            refine HMAY.out.mono ?_
            rintro e w2 ⟨rfl, hb2⟩
            have HLP2 := Lib.hid (show RLp w0.heap.size sb nb n o (.slice ao n co) S W D r d s k V' D' w2 from ⟨HLP.out.fk.trans (FK.below hb2 hNr), HLP.out.st.below hb2, HLP.out.none', HLP.out.grow⟩)
            have HLOW2 := Lib.hid (HLOW.out.trans (hb2.mono hNr))
            have hN2 : w0.heap.size ≤ w2.heap.size := Nat.le_trans hNr hb2.size
            have HB2 := Lib.hid hb2
            clear hb2 x0 x1 x2
            cases hmf : mayF S d.testBit k with
            | false =>
              have HNO := Lib.hid (show stepF o S r d s k = none from by rw [hid_eq HSTEP, hdk, hmf]; rfl)
              clear HSTEP
              go_wp2_with fail
              go_roundw
              case rel => exact ⟨k + 1, by omega, by go_num, V', D', HLP2.out.next hN2 (Below.refl _ _) HNO.out⟩
              case measure => simp [intOf]; omega
            | true =>
              obtain ⟨gc, oc, rfl, hcall⟩ : ∃ g o, ao = some ⟨g, o, none⟩ ∧ ∀ j, j < 10 → w0.cell? ⟨g, o + k * 10 + j, none⟩ = (S.getD k default).cells[j]? := by
                rcases HC.out with h | ⟨g, o, e, h⟩
                · have := HSN.out; subst h; simp at this; omega
                · exact ⟨g, o, e, h k (by rw [HSN.out]; exact hlt)⟩
              have HCALL : Hid (∀ W, Below w0.heap.size w0 W → _) := Lib.hid (fun W hW => CallRow.at (fun j hj => show W.cell? ⟨gc, oc + k * 10 + j, none⟩ = (S.getD k default).cells[j]? from by
                have h1 := hcall j hj
                obtain ⟨v, hv⟩ : ∃ v, (S.getD k default).cells[j]? = some v := ⟨_, List.getElem?_eq_getElem (by simpa [Cl.cells] using hj)⟩
                rw [hv] at h1 ⊢
                exact (hW.cell (p := ⟨gc, oc + k * 10 + j, none⟩) (World.block_lt_of_cell? w0 _ h1)).trans h1))
              have hcl : (S.getD k default).ln ≤ 9223372036854775807 := HSF.out _ (by
                have : k < S.length := by rw [HSN.out]; exact hlt
                simp [List.getD, this])
              have HSTEP2 : Hid (stepF o S r d s k = if answers (S.getD k default) (doF o s (S.getD k default).k (S.getD k default).x (S.getD k default).y) then (srch o S r (d ||| 1 <<< k) (doF o s (S.getD k default).k (S.getD k default).x (S.getD k default).y).1).map (k :: ·) else none) := Lib.hid (by rw [hid_eq HSTEP, hdk, hmf]; rfl)
              clear hcall HSTEP
              generalize S.getD k default = cl at *
              obtain ⟨ct, cb, ce, ck, cx, cy, cz, cok, cn, clo, cln, clc⟩ := cl
              simp only at HSTEP2 HCALL hcl
              have HV := Lib.hid (HIN.out.ok.fk HLP2.out.fk)
              have H13 : Hid (∀ W, Nums W v s → Calls Tryd.prog 13 #[.int .i64 o, v, .agg #[.int .i64 ck, .int .i64 cx, .int .i64 cy, .int .i64 cz]] W fun e w' => ∃ v', e = .returned (.tuple #[v', .agg #[.bool (doF o s ck cx cy).2.1, .int .i64 (doF o s ck cx cy).2.2, .slice none 0 0]]) ∧ OwnNums W.heap.size w' v' (doF o s ck cx cy).1 ∧ Below W.heap.size W w') :=
                Lib.hid (fun W h => refDo_walk o v s ck cx cy cz W h (by omega))
              have hxl := doF_length o s ck cx cy
              generalize doF o s ck cx cy = x at *
              obtain ⟨xl, xo, xn⟩ := x
              simp only at H13 hxl HSTEP2
              have HANS : Hid (answers ⟨ct, cb, ce, ck, cx, cy, cz, cok, cn, clo, cln, clc⟩ (xl, xo, xn) = (xo == cok && xn == cn && decide (cln = 0))) := rfl
              have hsb2 := HLP2.out.st.sbk
              have x0 := (cell_of hsb2 0).trans rfl
              have x1 := (cell_of hsb2 1).trans rfl
              obtain ⟨a0, a1, a2, y3, y4, y5, y6, a7, a8, a9⟩ := HCALL.out w2 HLOW2.out
              have x0' : ∀ o1, (w2.alloc o1).cell? ⟨sb, 0, none⟩ = some (.int .i64 o) := fun o1 => (World.cell?_of_block (Below.heap_alloc _ _ _ (World.block_lt_of_cell? _ _ x0))).trans x0
              have x1' : ∀ o1, (w2.alloc o1).cell? ⟨sb, 1, none⟩ = some (.slice (some ⟨gc, oc, none⟩) n co) := fun o1 => (World.cell?_of_block (Below.heap_alloc _ _ _ (World.block_lt_of_cell? _ _ x1))).trans x1
              have y3' : ∀ o1, (w2.alloc o1).cell? ⟨gc, oc + k * 10 + 3, none⟩ = some (.int .i64 ck) := fun o1 => (World.cell?_of_block (Below.heap_alloc _ _ _ (World.block_lt_of_cell? _ _ y3))).trans y3
              have y4' : ∀ o1, (w2.alloc o1).cell? ⟨gc, oc + k * 10 + 4, none⟩ = some (.int .i64 cx) := fun o1 => (World.cell?_of_block (Below.heap_alloc _ _ _ (World.block_lt_of_cell? _ _ y4))).trans y4
              have y5' : ∀ o1, (w2.alloc o1).cell? ⟨gc, oc + k * 10 + 5, none⟩ = some (.int .i64 cy) := fun o1 => (World.cell?_of_block (Below.heap_alloc _ _ _ (World.block_lt_of_cell? _ _ y5))).trans y5
              have y6' : ∀ o1, (w2.alloc o1).cell? ⟨gc, oc + k * 10 + 6, none⟩ = some (.int .i64 cz) := fun o1 => (World.cell?_of_block (Below.heap_alloc _ _ _ (World.block_lt_of_cell? _ _ y6))).trans y6
              clear hsb2 a0 a1 a2 a7 a8 a9 hfd hq0 hq hq2 hmin
              go_wp2_with fail
              go_cut [13, 14] (fun y p wx => OwnNums w2.heap.size wx y xl ∧ AnsAt w2 xo xn p wx)
              case first =>
                go_region_with (first
                  | (go_at_call 13; refine (H13.out _ ?_).mono ?_; (first | exact HV.out.nums | exact HV.out.nums.below (((Below.refl _ _).alloc (Nat.le_refl _) _).drew)); rintro e w' ⟨v', rfl, hv', hb⟩; try (have hk := ans_kept hb; have k0 := (cell_of hk 0).trans rfl; have k1 := (cell_of hk 1).trans rfl; have k2 := (cell_of hk 2).trans rfl; have k3 := free_of hk 0; have k4 := free_of hk 1; have k5 := free_of hk 2; have HK := Lib.hid hk; clear hk)))
                all_goals (go_wp2_with fail; go_meet)
                all_goals (first | exact ⟨nextA hv' _, ansA hb⟩ | exact ⟨nextB hv', ansB hb⟩)
              case rest =>
                obtain ⟨hox, g, rfl, hg, hgs, hb5⟩ := hcut
                generalize wc = w5 at *
                have HLP5 := Lib.hid (show RLp w0.heap.size sb nb n o (.slice (some ⟨gc, oc, none⟩) n co) S W D r d s k V' D' w5 from ⟨HLP2.out.fk.trans (FK.below hb5 hN2), HLP2.out.st.below hb5, HLP2.out.none', HLP2.out.grow⟩)
                have HLOW5 := Lib.hid (HLOW2.out.trans (hb5.mono hN2))
                have hN5 : w0.heap.size ≤ w5.heap.size := Nat.le_trans hN2 hb5.size
                have HX5 : Hid (StK w0.heap.size w5 u13 xl) := Lib.hid (StK.new hox)
                clear x0' x1' y3' y4' y5' y6' x0 x1 y3 y4 y5 y6 hox hb5
                have z1 := (cell_of HLP5.out.st.sbk 1).trans rfl
                have e0 := (cell_of hg 0).trans rfl
                have e1 := (cell_of hg 1).trans rfl
                have e2 := (cell_of hg 2).trans rfl
                obtain ⟨_, _, _, _, _, _, _, y7, y8, y9⟩ := HCALL.out w5 HLOW5.out
                have H53 : Hid (∀ W, Calls Tryd.prog 53 #[.agg #[.bool xo, .int .i64 xn, .slice none 0 0], .agg #[.bool cok, .int .i64 cn, .slice clo cln clc]] W fun e w' => e = .returned (.bool (xo == cok && xn == cn && decide (cln = 0))) ∧ Below W.heap.size W w') := Lib.hid (fun W => refSameA_walk xo cok xn cn clo cln clc W hcl)
                clear hg H13
                generalize (xo == cok && xn == cn && decide (cln = 0)) = B at *
                generalize answers ⟨ct, cb, ce, ck, cx, cy, cz, cok, cn, clo, cln, clc⟩ (xl, xo, xn) = A at *
                go_wp2_with fail
                go_cut [93] (fun y wx => y = .bool (!B) ∧ Below w5.heap.size w5 wx)
                case first =>
                  go_region_with (first | (go_at_call 53; refine (H53.out _).mono ?_; rintro e w7 ⟨rfl, hb7⟩))
                  all_goals (go_wp2_with fail; go_meet)
                  all_goals exact ⟨rfl, (Below.refl _ _).drew.trans hb7⟩
                case rest =>
                  obtain ⟨rfl, hb6⟩ := hcut
                  clear z1 e0 e1 e2 y7 y8 y9 H53
                  generalize wc = w6 at *
                  have HLP6 := Lib.hid (show RLp w0.heap.size sb nb n o (.slice (some ⟨gc, oc, none⟩) n co) S W D r d s k V' D' w6 from ⟨HLP5.out.fk.trans (FK.below hb6 hN5), HLP5.out.st.below hb6, HLP5.out.none', HLP5.out.grow⟩)
                  have HLOW6 := Lib.hid (HLOW5.out.trans (hb6.mono hN5))
                  have hN6 : w0.heap.size ≤ w6.heap.size := Nat.le_trans hN5 hb6.size
                  have HX6 := Lib.hid (HX5.out.fk (FK.below hb6 hN5))
                  clear hb6
                  cases B with
                  | false =>
                    have HNO := Lib.hid (show stepF o S r d s k = none from by rw [hid_eq HSTEP2, hid_eq HANS]; rfl)
                    clear HSTEP2
                    go_wp2_with fail
                    go_roundw
                    case rel => exact ⟨k + 1, by omega, by go_num, V', D', HLP6.out.next hN6 (Below.refl _ _) HNO.out⟩
                    case measure => simp [intOf]; omega
                  | true =>
                    have HSTEP3 := Lib.hid (show stepF o S r d s k = (srch o S r (d ||| 1 <<< k) xl).map (k :: ·) from by rw [hid_eq HSTEP2, hid_eq HANS]; rfl)
                    clear HSTEP2 HANS
                    have HRI := Lib.hid (RLp.go HIN.out HLP6.out hlt hn hdk HX6.out hxl)
                    have H49 := Lib.hid (HIH.out _ _ _ _ _ _ HRI.out)
                    have hpow : 2 ^ k ≤ 4096 := Nat.pow_le_pow_right (n := 2) (by omega) (by omega : k ≤ 12)
                    have hkk : (2 : Int) ^ k = ((2 ^ k : Nat) : Int) := by norm_cast
                    rw [add_or d k hdk, pc_step hlt hdk, HP.out] at H49
                    have HORD : Hid (((p + 1 : Nat) : Int) = (p : Int) + 1) := Lib.hid (by omega)
                    rw [HORD.out] at H49
                    generalize 2 ^ k = q2 at *
                    go_wp2_with fail
                    refine H49.out.mono ?_
                    rintro e w8 ⟨V2, D2, hf8, hq8, hg8, hres⟩
                    have HF8 := Lib.hid hf8
                    have HQ8 := Lib.hid hq8
                    have HG8 := Lib.hid hg8
                    have hN8 : w0.heap.size ≤ w8.heap.size := Nat.le_trans hN6 hf8.1.size
                    have hW8 : W.heap.size ≤ w8.heap.size := Nat.le_trans HLP6.out.fk.1.size hf8.1.size
                    clear hf8 hq8 hg8 H49
                    cases hsr : srch o S r (d ||| 1 <<< k) xl with
                    | none =>
                      rw [hsr] at hres
                      obtain rfl : e = .returned (.tuple #[.slice none 0 0, .bool false]) := hres
                      have HNO := Lib.hid (show stepF o S r d s k = none from by rw [hid_eq HSTEP3, hsr]; rfl)
                      clear HSTEP3 hsr
                      go_wp2_with fail
                      go_roundw
                      case rel => exact ⟨k + 1, by omega, by go_num, V2, D2, HLP6.out.back hlt hdk HF8.out HQ8.out HG8.out HNO.out⟩
                      case measure => simp [intOf]; omega
                    | some l =>
                      rw [hsr] at hres
                      obtain ⟨lv, rfl, hrow⟩ : ∃ lv, e = .returned (.tuple #[lv, .bool true]) ∧ w8.ownsRow w6.heap.size 3 1 lv l.length (ordV l) := hres
                      have HSR := Lib.hid (show srch o S (r + 1) d s = some (k :: l) from by
                        rw [srch_succ, HSN.out]
                        exact upTo_some HLP6.out.none' (by rw [hid_eq HSTEP3, hsr]; rfl) hlt)
                      have hll : l.length ≤ 12 := by
                        have := (srch_fol o S _ _ _ _ hsr).2
                        omega
                      clear HSTEP3 hsr
                      obtain ⟨i3, hi3, hz0, hz1, hz2⟩ := info_parts info3
                      have hown : (w8.alloc (.cells #[.int .i64 (k : Int)] 3)).ownsRow W.heap.size 3 1 (.slice (some ⟨w8.heap.size, 0, none⟩) 1 1) 1 [.int .i64 (k : Int)] :=
                        ⟨by simp, .inr ⟨w8.heap.size, 1, #[.int .i64 (k : Int)], rfl, hW8, heap_alloc_new w8 _, Nat.le_refl _, by unfold maxLen; omega, by simp, by simp⟩⟩
                      rw [ordV_ints] at hrow
                      rw [show l.length = (intsF l).length by simp [intsF]] at hrow
                      have hsrc := (row_src hrow).below ((Below.refl w8.heap.size w8).alloc (Nat.le_refl _) (.cells #[.int .i64 (k : Int)] 3))
                      obtain ⟨v9, w9, hr9, ha9⟩ := run_append_row (P := Tryd.prog) (w8.alloc (.cells #[.int .i64 (k : Int)] 3)) W.heap.size 38 38 3 i3 _ 1 8 Tryd.underlying38 hi3 hz0 hz1 (by decide) hz2 rfl _ 1 _ hown lv _ _ hsrc (by unfold maxLen; simp [intsF]; omega) (by simp [intsF]; omega) (by simp; omega)
                      have HR9 := Lib.hid hr9
                      have hb9 : Below w8.heap.size w8 w9 := ((Below.refl w8.heap.size w8).alloc (Nat.le_refl _) _).grown ha9.2.1 (by simp) (fun q hq => by simp [Value.ownBlock] at hq; omega)
                      have HB9 := Lib.hid hb9
                      have HROW : Hid (w9.ownsRow W.heap.size 3 1 v9 (k :: l).length (ordV (k :: l))) := Lib.hid (by
                        have h := ha9.1
                        rw [show 1 + (intsF l).length = (k :: l).length by simp [intsF]; omega, show [Value.int .i64 (k : Int)] ++ numV (intsF l) = ordV (k :: l) by rw [← ordV_ints]; rfl] at h
                        exact h)
                      clear hown hrow hsrc hr9 ha9 hb9
                      go_wp2_with (at_builtin; refine Lib.wpList_append_run _ rfl _ _ _ _ rfl _ _ rfl rfl _ _ HR9.out ?_)
                      go_ret2
                      refine ⟨V2, D2, (HLP6.out.fk.trans HF8.out).trans (FK.below HB9.out hN8), HQ8.out.below HB9.out, HLP6.out.found hlt hn hdk HG8.out, ?_⟩
                      rw [HSR.out]
                      exact ⟨_, rfl, HROW.out⟩
        · obtain rfl : k = n := by omega
          obtain ⟨hnone, hDl, hgl⟩ := RLp.last HIN.out HLP.out hn HSN.out
          have HSR := Lib.hid hnone
          have HGL := Lib.hid hgl
          obtain ⟨i22, hi22, hz0, hz1, hz2⟩ := info_parts info22
          obtain ⟨ad', cd', hV'⟩ := hlp.st.form HIN.out.dlt
          have hkr : StK w0.heap.size wr v s := HIN.out.ok.fk hlp.fk
          have hone : v.oneCell' = true := by
            obtain ⟨ao', c', e, _⟩ := hkr
            rw [e]
            rfl
          have hsrc := src_one0 wr.drew #[v] 22 1 rfl (by intro x hx; simp at hx; subst hx; exact hone)
          have hrd := (hlp.st.below ((Below.refl wr.heap.size wr).drew)).rows d HIN.out.dlt
          have h12 : (12 : Nat) ^ 11 = 743008370688 := by decide
          obtain ⟨v9, w9, hr9, ha9⟩ := run_append_row (P := Tryd.prog) (wr.drew.alloc (.cells #[v] 22)) w0.heap.size 124 124 22 i22 _ 1 24 Tryd.underlying124 hi22 hz0 hz1 (by decide) hz2 rfl _ _ _ (hrd.alloc (.cells #[v] 22)) _ 1 _ hsrc (by unfold maxLen; omega) (by omega) (by have := hNr; show _ ≤ (wr.drew.alloc _).heap.size; simp; show _ ≤ wr.heap.size + 1; omega)
          obtain ⟨hq9, hf9, hc9, hz9, hs9⟩ := (hlp.st.below ((Below.refl wr.heap.size wr).drew)).put HIN.out.dlt (hkr.fk (FK.below ((Below.refl wr.heap.size wr).drew) hNr)) (by
            have h1 := hnone
            rw [show k - pc k d = r + 1 by have := HIN.out.left; omega]
            exact h1) (by omega) ha9
          obtain ⟨av, cv, hve⟩ : ∃ av cv, v = .slice av s.length cv := by
            obtain ⟨ao', c', e, _⟩ := hkr
            exact ⟨ao', c', e⟩
          have c0r := (hlp.st.cell HIN.out.dlt).1
          have HQ9 := Lib.hid hq9
          have HF9 := Lib.hid ((hlp.fk.trans (FK.below ((Below.refl wr.heap.size wr).drew) hNr)).trans hf9)
          rw [hV'] at hr9 c0r hc9
          have HR9 : Hid ((Builtin.append_ #[124, 124] 124 #[.slice ad' (D' d).length cd', .slice (some ⟨wr.heap.size, 0, none⟩) 1 1]).run Tryd.prog (wr.alloc (.cells #[v] 22)).drew = .ok v9 w9) := Lib.hid hr9
          have hv9 : v9.oneCell' = true := by
            rcases ha9.1.2 with ⟨e, _⟩ | ⟨g, cap, cur, e, _⟩
            · rw [e]; rfl
            · rw [e]; rfl
          obtain ⟨a9, l9, c9', hve9⟩ : ∃ a l c, v9 = .slice a l c := by
            rcases ha9.1.2 with ⟨e, _⟩ | ⟨g, cap, cur, e, _⟩
            · exact ⟨_, _, _, e⟩
            · exact ⟨_, _, _, e⟩
          have x2' : (wr.alloc (.cells #[v] 22)).cell? ⟨sb, 2, none⟩ = some (.slice (some ⟨nb, 0, none⟩) K K) := (World.cell?_of_block (Below.heap_alloc _ _ _ (World.block_lt_of_cell? _ _ x2))).trans x2
          have x29 : w9.cell? ⟨sb, 2, none⟩ = some (.slice (some ⟨nb, 0, none⟩) K K) := (World.cell?_of_block (a := ⟨sb, 2, none⟩) hs9).trans x2
          have c0a : (wr.alloc (.cells #[v] 22)).cell? ⟨nb, d, none⟩ = some (.slice ad' (D' d).length cd') := (World.cell?_of_block (Below.heap_alloc _ _ _ (World.block_lt_of_cell? _ _ c0r))).trans c0r
          clear hq9 hf9 hs9 hr9 ha9 hrd hsrc hone hkr hlp hgl hnone hDl h12 hV' hv9 x0
          generalize (D' d).length = L9 at *
          subst hve hve9
          go_wp2_with fail
          go_region_law (refine step_append_runI (by rfl) _ _ 124 124 (by rfl) (.slice ad' L9 cd') (.slice (some ⟨wr.heap.size, 0, none⟩) 1 1) (by rfl) (by rfl) HR9.out ?_)
          all_goals
            go_wp2_with fail
            go_ret2
            refine ⟨_, _, HF9.out, HQ9.out, HGL.out, ?_⟩
            rw [HSR.out]
            rfl

theorem refOn_walk (w0 : World) (sb nb : Nat) (o : Int) (ao : Option Addr) (n co : Nat) (S : List Cl) (hn : n ≤ 12) (hSn : S.length = n) (hC : CallRow w0 ao S) (hSf : ∀ c ∈ S, c.ln ≤ 9223372036854775807) :
    ∀ (r : Nat) (W : World) (V : Nat → Value) (D : Nat → List (Value × List Int)) (d : Nat) (v : Value) (s : List Int), RIn w0 sb nb o ao n co S r W V D d v s →
      Calls Tryd.prog 49 #[.pointer (some ⟨sb, 0, none⟩), .int .i64 ((d : Nat) : Int), v, .int .i64 (pc n d : Nat)] W (ROut w0 sb nb o ao n co S r W D d s)
  | 0, W, V, D, d, v, s, h => refOn_last w0 sb nb o ao n co S W V D d v s h hn
  | r + 1, W, V, D, d, v, s, h => refOn_step w0 sb nb o ao n co S hn hSn hC hSf r (fun W V D d v s h => refOn_walk w0 sb nb o ao n co S hn hSn hC hSf r W V D d v s h) W V D d v s h
end Go.Proofs.YtfcaebceklhbkaaDoor
