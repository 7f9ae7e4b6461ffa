/-
  The law BarrierOwn returns true: the walk.
-/
import Derived.Test.YtimkkeomdkbcjaaOwnSays
namespace Go.Proofs.Ytimkkeomdkbcjaa
open Go.RowKit
set_option linter.unusedVariables false

set_option maxRecDepth 100000 in
set_option maxHeartbeats 8000000 in
theorem own_walk (ao : Option Addr) (len cap : Nat) (A : Nat → Option Addr) (L C : Nat → Nat) (Z : Nat → List Int) (Q tries way : Int) (w : World) (hz : BytesRows w ao len A L C Z) (hlen : len ≤ 2000000) (hcap : len ≤ cap) :
    Calls Try.prog 4 #[.slice ao len cap, .int .i64 Q, .int .i64 tries, .int .i64 way] w fun e w' => e = .returned (.bool true) ∧ Below w.heap.size w w' := by
  obtain ⟨i2, hi2, hz20, hz21, hz22⟩ := info_parts info2
  obtain ⟨i27, hi27, hz270, hz271, hz272⟩ := info_parts info27
  obtain ⟨i32, hi32, hz320, hz321, hz322⟩ := info_parts info32
  have CW := Lib.hid (waits_true w)
  have HZ := Lib.hid hz
  clear hz
  obtain ⟨K, hK⟩ : ∃ K, K = min len 5 := ⟨_, rfl⟩
  have hKl : K ≤ len := by omega
  have hK5 : K ≤ 5 := by omega
  have hKm0 : min (len : Int) 5 = (K : Int) := by subst hK; omega
  have hKm := Lib.hid hKm0
  clear hKm0
  clear hK
  go_enter Try.func4, Try.ntmps4
  go_wp2_with fail
  refine CW.out.mono ?_
  rintro e w1 ⟨rfl, hb1⟩
  have HB1 := Lib.hid hb1
  have hlt1 : w.heap.size ≤ w1.heap.size := hb1.size
  have HO0 : Hid (OwnSt w1 w1.heap.size 0 (fun _ => 0) (fun _ => .nilIface) (fun _ => []) (.slice none 0 0) (.slice none 0 0) w1) :=
    ⟨World.ownsRow_nil _ _ _ _, World.ownsRow_nil _ _ _ _, fun _ h => absurd h (by omega), fun _ h => absurd h (by omega), fun _ h => absurd h (by omega), fun _ _ h => absurd h (by omega), fun _ h => absurd h (by omega), Below.refl _ _, Nat.le_refl _⟩
  clear hb1
  go_wp2_with (refine wpList_min rfl _ _ _ _ rfl len 5 K rfl rfl hKm.out ?_)
  go_loopw [9, 10, 38] (fun vo vb jv wr => ∃ (j : Nat) (r : Nat → Nat) (v : Nat → Value) (LL : Nat → List Int), j ≤ K ∧ jv = .int .i64 j ∧ OwnSt w1 w1.heap.size j r v LL vo vb wr) (fun _ _ jv _ => K - (intOf jv).toNat)
  case atStart => exact ⟨0, _, _, _, by omega, rfl, HO0.out⟩
  case round =>
    obtain ⟨j, r, v, LL, hj, rfl, hO⟩ := hrel
    generalize wr = wo at *
    have HO := Lib.hid hO
    clear hO
    by_cases hlt : j < K
    · have hzr := HZ.out.below (HB1.out.trans (HO.out.low.mono hlt1))
      obtain ⟨g, o, rfl, hcell⟩ : ∃ g o, ao = some ⟨g, o, none⟩ ∧ wo.cell? ⟨g, o + j, none⟩ = some (.slice (A j) (L j) (C j)) := by
        rcases hzr.1 with h | ⟨g, o, h1, h2⟩
        · omega
        · exact ⟨g, o, h1, h2 j (by omega)⟩
      have hLj := (hzr.2 j (by omega)).1
      have HBZ := Lib.hid (hzr.2 j (by omega)).2
      clear hzr
      generalize hAj : A j = aj at *
      clear hAj
      go_wp2_with fail
      have HR0 : Hid (Ris wo wo.heap.size wo.heap.size (accs (Z j) 0) (.slice none 0 0) (wo.alloc (.cells #[.slice none 0 0, .int .i64 0] 30))) :=
        ⟨get_new rfl, World.ownsRow_nil _ _ _ _, (Below.refl _ _).alloc (Nat.le_refl _) _, Nat.le_refl _, by simp⟩
      go_loopw [14, 46] (fun xv iv wl => ∃ (i : Nat) (u : Value), i ≤ L j ∧ iv = .int .i64 i ∧ xv = .int .i64 (acc (Z j) i) ∧ Ris wo wo.heap.size wo.heap.size (accs (Z j) i) u wl) (fun _ iv _ => L j - (intOf iv).toNat)
      case atStart => exact ⟨0, _, by omega, rfl, rfl, HR0.out⟩
      case round =>
        obtain ⟨i, u, hi, rfl, rfl, hR⟩ := hrel
        have H1 := Lib.hid hR
        have hcu : wr.cell? ⟨wo.heap.size, 0, none⟩ = some u := by rw [cell_of hR.blk]; rfl
        clear hR
        by_cases hil : i < L j
        · obtain ⟨g2, o2, rfl, hcell2⟩ : ∃ g o, aj = some ⟨g, o, none⟩ ∧ wo.cell? ⟨g, o + i, none⟩ = some (.int .u8 ((Z j).getD i 0)) := by
            rcases HBZ.out.2.2 with h | ⟨g, o, h1, h2⟩
            · omega
            · exact ⟨g, o, h1, h2 i hil⟩
          have hcz : wr.cell? ⟨g2, o2 + i, none⟩ = some (.int .u8 ((Z j).getD i 0)) :=
            (H1.out.low.cell (p := ⟨g2, o2 + i, none⟩) (World.block_lt_of_cell? wo _ hcell2)).trans hcell2
          clear hcell2
          have hzj : 0 ≤ (Z j).getD i 0 ∧ (Z j).getD i 0 ≤ 255 := by
            have hl := HBZ.out.1
            rw [List.getD_eq_getElem?_getD, List.getElem?_eq_getElem (by rw [hl]; exact hil), Option.getD_some]
            exact HBZ.out.2.1 _ (List.getElem_mem _)
          have hacc := acc_bound (Z j) i
          have HS : Hid (acc (Z j) (i + 1) = acc (Z j) i + (Z j).getD i 0 % 8) := rfl
          generalize hA : acc (Z j) i = aq at *
          generalize hx : (Z j).getD i 0 = x at *
          obtain ⟨hzj0, hzj1⟩ := hzj
          have hF0 : accs (Z j) (i + 1) = accs (Z j) i ++ [aq + x % 8] := by rw [accs_succ, HS.out]
          have HF := Lib.hid hF0
          have hlr2 : (accs (Z j) i).length ≤ 2000000 := by rw [accs_length]; omega
          clear hF0 hacc
          have hacc : 0 ≤ aq ∧ aq ≤ 10000000 := by have := acc_bound (Z j) i; omega
          have HSx : Hid (SrcOf (wr.alloc (.cells #[.int .i64 (aq + x % 8)] 2)) (.slice (some ⟨wr.heap.size, 0, none⟩) 1 1) 1 [.int .i64 (aq + x % 8)]) :=
            ⟨rfl, by intro u hu; simp at hu; subst hu; rfl, .inr ⟨⟨wr.heap.size, 0, none⟩, 1, rfl, cell_one_new _ _ _⟩⟩
          have HA := Lib.hid (fun v' w1' ha => H1.out.add (x := aq + x % 8) (v' := v') (w1 := w1') ha)
          have HO2 := Lib.hid (H1.out.own.alloc (.cells #[.int .i64 (aq + x % 8)] 2))
          have HNW := Lib.hid H1.out.nw
          generalize accs (Z j) i = F at *
          go_wp2_with (at_builtin; go_must (refine wpList_append_row rfl (.tmp 59) (.tmp 61) 28 rfl wo.heap.size 2 i2 (.int .i64 0) 8 Try.underlying28 hi2 hz20 hz21 hz22 rfl u F.length (F.map (Value.int .i64)) rfl HO2.out 1 [.int .i64 (aq + x % 8)] HSx.out ?l2 ?b2 ?n2 ?_); go_must (case l2 => (unfold maxLen; omega)); go_must (case b2 => omega); go_must (case n2 => (have := HNW.out; simp; omega)); intro v' w2 ha; go_must (obtain ⟨g2, cap2, rfl, hcell2, hfz2, hR2, _⟩ := HA.out _ _ ha); have HR2 := Lib.hid hR2; clear hR2 ha)
          go_roundw
          case rel => exact ⟨i + 1, _, by omega, by go_num, by rw [HS.out], by rw [HF.out]; exact HR2.out⟩
          case measure => simp [intOf]; omega
        · obtain rfl : i = L j := by omega
          have HR2 : Hid (Ris wo wo.heap.size wo.heap.size (accs (Z j) (L j)) u wr) := H1.out
          have HO2 := Lib.hid (HO.out.below H1.out.low)
          have hNW := HO.out.nw
          have hWW := H1.out.nw
          have HRD := Lib.hid (fun v' w2 h1 v'' w3 h2 => HO.out.round (vo' := v') (w2 := w2) (vb' := v'') (w3 := w3) hLj HR2.out h1 h2)
          have HB1' := Lib.hid (fun v' w2 h1 => HO2.out.beh1 (cs := #[.pointer (some ⟨wo.heap.size, 0, none⟩)]) (T := 27) (n := 1) (ys := ptrs r j ++ [.pointer (some ⟨wo.heap.size, 0, none⟩)]) (vo' := v') (w2 := w2) h1)
          have HOW := Lib.hid (HO2.out.own.alloc (.cells #[.pointer (some ⟨wo.heap.size, 0, none⟩)] 27))
          have HS1 : Hid (SrcOf (wr.alloc (.cells #[.pointer (some ⟨wo.heap.size, 0, none⟩)] 27)) (.slice (some ⟨wr.heap.size, 0, none⟩) 1 1) 1 [.pointer (some ⟨wo.heap.size, 0, none⟩)]) :=
            ⟨rfl, by intro u hu; simp at hu; subst hu; rfl, .inr ⟨⟨wr.heap.size, 0, none⟩, 1, rfl, cell_one_new _ _ _⟩⟩
          have HS2 : Hid (∀ w2 : World, SrcOf (w2.alloc (.cells #[ptrV wo.heap.size, .nilIface] 32)) (.slice (some ⟨w2.heap.size, 0, none⟩) 2 2) 2 [ptrV wo.heap.size, .nilIface]) := fun w2 =>
            ⟨rfl, by intro u hu; simp at hu; rcases hu with rfl | rfl <;> rfl, .inr ⟨⟨w2.heap.size, 0, none⟩, 2, rfl, cells_new _ _ _⟩⟩
          clear HR0 H1 HBZ hcu HO2
          go_wp2_with (at_builtin; first
            | ((refine wpList_append_row rfl (.tmp 66) (.tmp 68) 24 rfl w1.heap.size 27 i27 (.pointer none) 8 Try.underlying24 hi27 hz270 hz271 hz272 rfl u9 j (ptrs r j) rfl HOW.out 1 [.pointer (some ⟨wo.heap.size, 0, none⟩)] HS1.out ?l2 ?b2 ?n2 ?_); go_must (case l2 => (unfold maxLen; omega)); go_must (case b2 => omega); go_must (case n2 => (simp; omega)); intro v9 w2 ha9; have HA9 := Lib.hid ha9; have hb1 := HB1'.out _ _ ha9; have HBW := Lib.hid (hb1.1.alloc (.cells #[ptrV wo.heap.size, .nilIface] 32)); have hNW2 := hb1.2; clear ha9 hb1)
            | (go_must (refine wpList_append_row rfl (.tmp 70) (.tmp 73) 25 rfl w1.heap.size 32 i32 .nilIface 16 Try.underlying25 hi32 hz320 hz321 hz322 rfl u10 (2 * j) (behL r j) rfl HBW.out 2 [ptrV wo.heap.size, .nilIface] (HS2.out _) ?l2 ?b2 ?n2 ?_); go_must (case l2 => (unfold maxLen; omega)); go_must (case b2 => omega); go_must (case n2 => (simp; omega)); intro v10 w3 ha10; have HA10 := Lib.hid ha10; clear ha10))
          go_roundw
          case rel =>
            obtain ⟨r', v', LL', h⟩ := HRD.out _ _ HA9.out _ _ HA10.out
            exact ⟨j + 1, r', v', LL', by omega, by go_num, h⟩
          case measure => simp [intOf]; omega
    · obtain rfl : j = K := by omega
      by_cases hk0 : j = 0
      · subst hk0
        obtain ⟨a9, c9, rfl⟩ := own_slice HO.out.own
        obtain ⟨a10, c10, hv10⟩ := own_slice HO.out.beh
        have HS0 := Lib.hid (own_src0 HO.out.beh)
        have HL0 := Lib.hid (own_lit0 wo HO.out.nw)
        have hNW := HO.out.nw
        have HLow := Lib.hid HO.out.low
        simp only [Nat.mul_zero] at hv10
        subst hv10
        clear HO
        go_wp2_with (at_builtin; go_must (refine wpList_append_row rfl (.tmp 85) (.tmp 86) 25 rfl w1.heap.size 32 i32 .nilIface 16 Try.underlying25 hi32 hz320 hz321 hz322 rfl (.slice (some ⟨wo.heap.size, 0, none⟩) 0 0) 0 [] rfl HL0.out 0 [] (HS0.out _) ?l2 ?b2 ?n2 ?_); go_must (case l2 => (unfold maxLen; omega)); go_must (case b2 => omega); go_must (case n2 => (simp; omega)); intro v18 w2 ha18; have HA18 := Lib.hid ha18; clear ha18; have HCN := Lib.hid (new_nil _ [] w2 (HS0.out w2) (by simp) (by simp)))
        refine HCN.out.mono ?_
        rintro e w3 ⟨bb, vb, rfl, hbb, hb, hown, hlow⟩
        have HLow3 : Hid (Below w1.heap.size w1 w3) := by
          have h2 := HA18.out.2.1
          have hs := h2.size
          simp at hs
          exact ((HLow.out.alloc hNW _).grown h2 (by simp; omega) (by simp [Value.ownBlock]; omega)).trans (hlow.mono (by omega))
        obtain ⟨ab, cb, rfl⟩ := own_slice hown
        have hbc : (w3.alloc (.cells #[.int .i64 0] 37)).cell? ⟨bb, 0, none⟩ = some (.slice ab 0 cb) := by
          rw [World.cell?_of_block (w := w3) (Below.heap_alloc _ _ _ (Array.getElem?_eq_some_iff.1 hb).1), cell_of hb]; rfl
        clear hbb hb hown hlow HCN HA18
        go_wp2_with fail
        refine wp_loop_rounds 1 ?_
        rw [rounds_succ]
        by_cases hw : way < 1 ∨ 3 < way
        · have HW := Lib.hid (wait_kind (.pointer (some ⟨bb, 0, none⟩)) (.iface 35 (.pointer (some ⟨w3.heap.size, 0, none⟩))) Q tries way hw (w3.alloc (.cells #[.int .i64 0] 37)))
          have HEnd : Hid (Below w.heap.size w (w3.alloc (.cells #[.int .i64 0] 37))) := HB1.out.trans ((HLow3.out.alloc HLow3.out.size _).mono hlt1)
          go_wp2_with fail
          refine HW.out.mono ?_
          rintro e w4 ⟨rfl, rfl⟩
          have hst : (w3.alloc (.cells #[.int .i64 0] 37)).cell? ⟨w3.heap.size, 0, none⟩ = some (.int .i64 0) := (cell_of (heap_alloc_new w3 _) 0).trans rfl
          generalize w3.alloc (.cells #[.int .i64 0] 37) = w4 at *
          rcases hw with hw | hw
          · go_wp2_with fail
            refine wp_loop_rounds 1 ?_
            rw [rounds_succ]
            go_wp2_with fail
            go_ret
            exact ⟨rfl, HEnd.out⟩
          · have hw' : ¬ way < 1 := by omega
            go_wp2_with fail
            refine wp_loop_rounds 1 ?_
            rw [rounds_succ]
            go_wp2_with fail
            go_ret
            exact ⟨rfl, HEnd.out⟩
        · have hw1 : 1 ≤ way := by omega
          have hw3 : way ≤ 3 := by omega
          have HW := Lib.hid (wait_empty' bb ab cb (.iface 35 (.pointer (some ⟨w3.heap.size, 0, none⟩))) Q tries way hw1 hw3 (w3.alloc (.cells #[.int .i64 0] 37)) hbc)
          have HEnd : Hid (Below w.heap.size w (w3.alloc (.cells #[.int .i64 0] 37))) := HB1.out.trans ((HLow3.out.alloc HLow3.out.size _).mono hlt1)
          clear hw
          go_wp2_with fail
          refine HW.out.mono ?_
          rintro e w4 ⟨rfl, rfl⟩
          have hst : (w3.alloc (.cells #[.int .i64 0] 37)).cell? ⟨w3.heap.size, 0, none⟩ = some (.int .i64 0) := (cell_of (heap_alloc_new w3 _) 0).trans rfl
          have HL := Lib.hid (limit_empty' bb ab cb (.iface 35 (.pointer (some ⟨w3.heap.size, 0, none⟩))) (w3.alloc (.cells #[.int .i64 0] 37)) hbc)
          generalize w3.alloc (.cells #[.int .i64 0] 37) = w4 at *
          clear HW
          go_wp2_with fail
          refine wp_loop_rounds 1 ?_
          rw [rounds_succ]
          go_wp2_with fail
          refine HL.out.mono ?_
          rintro e w5 ⟨rfl, rfl⟩
          go_wp2_with fail
          go_ret
          exact ⟨rfl, HEnd.out⟩
      · obtain ⟨g9, c9, cur9, rfl, _, hc9, _⟩ := own_shape HO.out.own (by omega)
        obtain ⟨gb, c10, cur10, hv10, hgbN, hc10, hgb⟩ := own_shape HO.out.beh (by omega)
        subst hv10
        have hp0 : wo.cell? ⟨g9, 0, none⟩ = some (.pointer (some ⟨r 0, 0, none⟩)) := by
          have := HO.out.own.cellAt 0 (by omega)
          rw [this]
          simp [ptrs, List.getElem?_range (show 0 < j by omega)]
        have hk1 : 1 ≤ j := by omega
        have hnw : w1.heap.size ≤ wo.heap.size := HO.out.nw
        have HGB := Lib.hid hgb
        have HL0 : Hid (∀ q, ((wo.drewN q).alloc (.cells #[] 32)).ownsRow wo.heap.size 32 1 (.slice (some ⟨wo.heap.size, 0, none⟩) 0 0) 0 []) := fun q => own_lit0 (wo.drewN q) (N := wo.heap.size) (Nat.le_refl _)
        have HSB : Hid (∀ q, SrcOf ((wo.drewN q).alloc (.cells #[] 32)) (.slice (some ⟨gb, 1, none⟩) (2 * j - 1) (c10 - 1)) (2 * j - 1) (Bs r j)) := fun q =>
          beh_src hk1 HO.out.beh _ (by rw [Below.heap_alloc _ _ _ (by simpa using (Array.getElem?_eq_some_iff.1 hgb).1)]; rfl)
        clear hgb hk0 hlt
        go_wp2_with (first
          | go_quiet (fail)
          | (at_builtin; go_must (refine wpList_append_row rfl (.tmp 85) (.tmp 86) 25 rfl wo.heap.size 32 i32 .nilIface 16 Try.underlying25 hi32 hz320 hz321 hz322 rfl (.slice (some ⟨wo.heap.size, 0, none⟩) 0 0) 0 [] rfl (HL0.out _) (2 * j - 1) (Bs r j) (HSB.out _) ?l2 ?b2 ?n2 ?_); go_must (case l2 => (unfold maxLen; omega)); go_must (case b2 => omega); go_must (case n2 => (simp)); intro v18 wA ha18; go_must (obtain ⟨hOA, hgbo, hoA, gk, ck, rfl, hgk, hgkA, hkeep⟩ := keep_stage hk1 HO.out ha18); have HOA := Lib.hid hOA; have HKC := Lib.hid hkeep; clear hOA hkeep ha18; have HCN := Lib.hid (new_stage (w' := wA) (d := c10 - 1) hk1 hK5 HOA.out.beh)))
        refine HCN.out.mono ?_
        rintro e wB ⟨bb, vb, rfl, hbb, hb, hown, hlow⟩
        have HBB := Lib.hid (And.intro hb (And.intro hown hlow))
        have hAB := hlow.size
        clear hb hown hlow HCN HSB HL0
        have hov : Over wB gb (Bs r j) w1.heap.size 0 wB := over_start hk1 HOA.out.beh HBB.out.2.2 HOA.out.nw
        have HOV := Lib.hid hov
        clear hov
        go_wp2_with fail
        go_loopw [93] (fun iv wr => ∃ i : Nat, i ≤ 2 * j - 1 ∧ iv = .int .i64 i ∧ Over wB gb (Bs r j) w1.heap.size i wr) (fun iv _ => 2 * j - 1 - (intOf iv).toNat)
        case atStart => exact ⟨0, by omega, rfl, HOV.out⟩
        case round =>
          obtain ⟨i, hi, rfl, hR⟩ := hrel
          by_cases hil : i < 2 * j - 1
          · obtain ⟨u, hu⟩ : ∃ u, (Bs r j)[i]? = some u := ⟨_, List.getElem?_eq_getElem (by rw [Bs_length]; exact hil)⟩
            obtain ⟨hcell, hfz⟩ := hR.cell hu
            have hck := hR.keep (M := 0) HBB.out.2.2 hgkA (by omega) (HKC.out i u hu)
            have hsv := Bs_srcV r j u (List.mem_of_getElem? hu)
            have HC2 := Lib.hid (hR.cell2 (by omega) hu)
            have HC0 := Lib.hid (hR.cell20 (by omega) hu)
            have HST := Lib.hid (hR.step hgbN (by omega) (by omega))
            have HST0 := Lib.hid (hR.step0 hgbN (by omega) (by omega))
            clear hR hu
            rcases hsv with rfl | ⟨q, rfl⟩
            · obtain ⟨hc2, hf2⟩ := HC0.out (.cells #[.int .i64 (-99)] 2) (.cells #[.slice (some ⟨wr.heap.size, 0, none⟩) 1 1, .int .i64 0] 30)
              go_wp2_with fail
              go_roundw
              case rel => exact ⟨i + 1, by omega, by go_num, HST0.out _ _ _⟩
              case measure => simp [intOf]; omega
            · have hnq := neq_src q
              have hnq2 := equal_src q
              unfold ptrV at hnq2
              go_wp2_with (go_quiet (fail); obtain ⟨hc2, hf2⟩ := HC2.out nq (.cells #[.int .i64 (-99)] 2) (.cells #[.slice (some ⟨wr.heap.size, 0, none⟩) 1 1, .int .i64 0] 30))
              go_roundw
              case rel => exact ⟨i + 1, by omega, by go_num, HST.out nq _ _ _⟩
              case measure => simp [intOf]; omega
          · obtain rfl : i = 2 * j - 1 := by omega
            obtain ⟨g9', _, cur, he9, _, _, hg9⟩ := own_shape HOA.out.own (by omega)
            have e9 : g9 = g9' := by simpa using (Value.slice.inj he9).1
            subst e9
            obtain ⟨sa, cp, aof, cf, hM⟩ := mem_stage hk1 hK5 HOA.out hg9 hbb HBB.out.1 HBB.out.2.1 HBB.out.2.2 hR
            have HSA := Lib.hid (says_any hk1 hK5 hM (own9 HOA.out.own hg9) Q tries way)
            have HLC : Hid (Below w1.heap.size w1 (wr.alloc (.cells #[.int .i64 0] 37))) := by
              have l1 : Below w1.heap.size w1 wr := (HOA.out.low.trans (HBB.out.2.2.mono HOA.out.nw)).trans hR.low
              exact l1.alloc l1.size _
            clear hM hg9 he9 hR HOV HOA HKC HBB
            go_wp2_with fail
            refine HSA.out.mono ?_
            rintro e w5 ⟨x, c, a, n, rfl, hcells, hsteps, hB5, hS⟩
            have HEnd : Hid (Below w.heap.size w w5) := HB1.out.trans ((HLC.out.trans hB5).mono hlt1)
            have HCS := Lib.hid hcells
            have HSS := Lib.hid hS
            have hsm := hS.small
            clear hcells hS hB5 HSA
            go_wp2_with fail
            clear HLC
            generalize wr.heap.size = sb at *
            go_loopw [24, 151] (fun lv iv wq => ∃ y : Nat, y ≤ j ∧ iv = .int .i64 y ∧ lv = .int .i64 (sumN a y) ∧ wq = w5) (fun _ iv _ => j - (intOf iv).toNat)
            case atStart => exact ⟨0, by omega, rfl, rfl, by first | rfl | trivial⟩
            case round =>
              obtain ⟨y, hy, rfl, rfl, rfl⟩ := hrel
              by_cases hyl : y < j
              · obtain ⟨hc1, hc2⟩ := HCS.out y hyl
                have hs1 : sumN a y + a y ≤ 1000000 := Nat.le_trans (sumN_le a (show y + 1 ≤ j from hyl)) hsm.1
                have HN : Hid (sumN a (y + 1) = sumN a y + a y) := rfl
                generalize sumN a y = sq at *
                generalize a y = aq at *
                go_wp2_with fail
                go_roundw
                case rel => exact ⟨y + 1, by omega, by go_num, by rw [HN.out]; go_num, by first | rfl | trivial⟩
                case measure => simp [intOf]; omega
              · obtain rfl : y = j := by omega
                generalize sumN a y = S at *
                clear HCS
                rcases HSS.out with ⟨hw, rfl, rfl, rfl, rfl⟩ | ⟨hw, hcx, _, _, h1, h2, h3⟩
                · rcases hw with hw | hw
                  · go_wp2_with fail
                    go_ret
                    exact ⟨rfl, HEnd.out⟩
                  · have hw' : ¬ way < 1 := by omega
                    go_wp2_with fail
                    go_ret
                    exact ⟨rfl, HEnd.out⟩
                · have hT := clamp_rng tries
                  have hTi := clamp_int tries
                  obtain ⟨M1, hM⟩ : ∃ M1, max tries 1 = M1 := ⟨_, rfl⟩
                  rw [hM] at hTi
                  have hM1 := Lib.hid hM
                  generalize clamp tries = T at *
                  have hM2 := Lib.hid hTi
                  clear hM hTi HSS
                  obtain ⟨hT1, hT2⟩ := hT
                  have hyp : 1 ≤ y := hk1
                  have hdiv : ∀ d : Nat, S = y * d → (S : Int) / (y : Int) = d ∧ (S : Int) % (y : Int) = 0 := by
                    intro d e
                    have e' : (S : Int) = (y : Int) * d := by rw [e]; exact Int.natCast_mul _ _
                    rw [e']
                    exact ⟨Int.mul_ediv_cancel_left _ (by omega), Int.mul_emod_right _ _⟩
                  rcases hcx with ⟨rfl, hq⟩ | ⟨rfl, rfl⟩
                  · rcases hw with rfl | rfl | rfl
                    · obtain ⟨d, hd1, hd2, hd3, hd4, _⟩ := h1 rfl
                      obtain ⟨hq1, hq2⟩ := hdiv d hd3
                      have hal : (n : Int) - (S : Int) = d := by omega
                      clear h1 h2 h3 hdiv hd3 hd4
                      go_wp2_with (first | (refine wpList_max rfl _ _ _ _ rfl tries 1 M1 rfl rfl hM1.out ?_) | (refine wpList_min rfl _ _ _ _ rfl M1 1024 T rfl rfl hM2.out ?_))
                      go_ret
                      exact ⟨rfl, HEnd.out⟩
                    · obtain ⟨hd4, hd2, _⟩ := h2 rfl
                      have hal : (n : Int) - (S : Int) = S := by omega
                      clear h1 h2 h3 hdiv hd4
                      go_wp2_with (first | (refine wpList_max rfl _ _ _ _ rfl tries 1 M1 rfl rfl hM1.out ?_) | (refine wpList_min rfl _ _ _ _ rfl M1 1024 T rfl rfl hM2.out ?_))
                      go_ret
                      exact ⟨rfl, HEnd.out⟩
                    · obtain ⟨d, hd1, hd2, hd3, hd4, _⟩ := h3 rfl
                      obtain ⟨hq1, hq2⟩ := hdiv d hd3
                      have hal : (n : Int) - (S : Int) = ((d : Int) + 7) / 8 := by omega
                      clear h1 h2 h3 hdiv hd3 hd4
                      go_wp2_with (first | (refine wpList_max rfl _ _ _ _ rfl tries 1 M1 rfl rfl hM1.out ?_) | (refine wpList_min rfl _ _ _ _ rfl M1 1024 T rfl rfl hM2.out ?_))
                      go_ret
                      exact ⟨rfl, HEnd.out⟩
                  · rcases hw with rfl | rfl | rfl
                    · obtain ⟨d, hd1, hd2, hd3, hd4, hd5⟩ := h1 rfl
                      have hdT := (hd5 (by decide)).symm
                      subst hdT
                      obtain ⟨hq1, hq2⟩ := hdiv T hd3
                      have hal : (n : Int) - (S : Int) = T := by omega
                      clear h1 h2 h3 hdiv hd3 hd4 hd5
                      go_wp2_with (first | (refine wpList_max rfl _ _ _ _ rfl tries 1 M1 rfl rfl hM1.out ?_) | (refine wpList_min rfl _ _ _ _ rfl M1 1024 T rfl rfl hM2.out ?_))
                      go_ret
                      exact ⟨rfl, HEnd.out⟩
                    · obtain ⟨hd4, hd2, hd5⟩ := h2 rfl
                      have hdT := (hd5 (by decide)).symm
                      subst hdT
                      have hal : (n : Int) - (T : Int) = T := by omega
                      clear h1 h2 h3 hdiv hd4 hd5
                      go_wp2_with (first | (refine wpList_max rfl _ _ _ _ rfl tries 1 M1 rfl rfl hM1.out ?_) | (refine wpList_min rfl _ _ _ _ rfl M1 1024 T rfl rfl hM2.out ?_))
                      go_ret
                      exact ⟨rfl, HEnd.out⟩
                    · obtain ⟨d, hd1, hd2, hd3, hd4, hd5⟩ := h3 rfl
                      have hdT := (hd5 (by decide)).symm
                      subst hdT
                      obtain ⟨hq1, hq2⟩ := hdiv T hd3
                      have hal : (n : Int) - (S : Int) = ((T : Int) + 7) / 8 := by omega
                      clear h1 h2 h3 hdiv hd3 hd4 hd5
                      go_wp2_with (first | (refine wpList_max rfl _ _ _ _ rfl tries 1 M1 rfl rfl hM1.out ?_) | (refine wpList_min rfl _ _ _ _ rfl M1 1024 T rfl rfl hM2.out ?_))
                      go_ret
                      exact ⟨rfl, HEnd.out⟩
end Go.Proofs.Ytimkkeomdkbcjaa
