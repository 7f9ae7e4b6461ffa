/-
  The law BarrierAlarm returns true: the walk, for numbers whose list is at most a million long.
-/
import Derived.Test.YtimkkeomdkbcjaaRis
namespace Go.Proofs.Ytimkkeomdkbcjaa
open Go.RowKit
set_option linter.unusedVariables false

/-- WHAT THE WALK IS TOLD OF A SLICE OF BYTES THAT CAME IN. -/
def Bytes (w : World) (ao : Option Addr) (len : Nat) (zs : List Int) : Prop :=
  zs.length = len ∧ (∀ z ∈ zs, 0 ≤ z ∧ z ≤ 255) ∧ (len = 0 ∨ ∃ g o, ao = some ⟨g, o, none⟩ ∧ ∀ i, i < len → w.cell? ⟨g, o + i, none⟩ = some (.int .u8 (zs.getD i 0)))

theorem take_snoc {zs : List Int} {j : Nat} (h : j < zs.length) : zs.take (j + 1) = zs.take j ++ [zs.getD j 0] := by
  rw [List.take_succ_eq_append_getElem h]
  simp [List.getD_eq_getElem?_getD, List.getElem?_eq_getElem h]

set_option maxRecDepth 100000 in
set_option maxHeartbeats 4000000 in
theorem alarm_walk (ao : Option Addr) (len cap : Nat) (zs : List Int) (tries y : Int) (w : World) (hz : Bytes w ao len zs) (hlen : len ≤ 2000000) (hy : 0 ≤ y ∧ y ≤ 255) :
    Calls Try.prog 5 #[.slice ao len cap, .int .i64 tries, .int .u8 y] w fun e w' => e = .returned (.bool true) ∧ Below w.heap.size w w' := by
  obtain ⟨hzl, hzb, hzc⟩ := hz
  obtain ⟨hy0, hy1⟩ := hy
  obtain ⟨i0, hi, hz0, hz1, hz2⟩ := info_parts info2
  have CW := Lib.hid (waits_true w)
  have HZL := Lib.hid hzl
  have HZB := Lib.hid hzb
  have HZC := Lib.hid hzc
  clear hzl hzb hzc
  go_enter Try.func5, Try.ntmps5
  go_wp2_with fail
  refine CW.out.mono ?_
  rintro e w1 ⟨rfl, hb1⟩
  have HB1 := Lib.hid hb1
  have hlt1 : w.heap.size ≤ w1.heap.size := hb1.size
  clear hb1
  have HR0 : Hid (Ris w1 w1.heap.size w1.heap.size [] (.slice none 0 0) (w1.alloc (.cells #[.slice none 0 0, .int .i64 0] 30))) :=
    ⟨get_new rfl, World.ownsRow_nil _ _ _ _, (Below.refl _ _).alloc (Nat.le_refl _) _, Nat.le_refl _, by simp⟩
  go_wp2_with fail
  go_loopw [21] (fun jv wr => ∃ (j : Nat) (v : Value), j ≤ len ∧ jv = .int .i64 j ∧ Ris w1 w1.heap.size w1.heap.size (zs.take j) v wr) (fun jv _ => len - (intOf jv).toNat)
  case atStart => exact ⟨0, _, by omega, rfl, HR0.out⟩
  case round =>
    obtain ⟨j, v, hj, rfl, hR⟩ := hrel
    have H1 := Lib.hid hR
    have hlr : (zs.take j).length = j := by rw [List.length_take, HZL.out]; omega
    have hlr2 : (zs.take j).length ≤ 2000000 := by omega
    clear hlr
    have hcv : wr.cell? ⟨w1.heap.size, 0, none⟩ = some v := by rw [cell_of hR.blk]; rfl
    clear hR
    by_cases hlt : j < len
    · obtain ⟨g, o, rfl, hcell⟩ : ∃ g o, ao = some ⟨g, o, none⟩ ∧ ∀ i, i < len → w.cell? ⟨g, o + i, none⟩ = some (.int .u8 (zs.getD i 0)) := by
        rcases HZC.out with h | h
        · omega
        · exact h
      have hcz : wr.cell? ⟨g, o + j, none⟩ = some (.int .u8 (zs.getD j 0)) := by
        have h0 := hcell j hlt
        have hgl : g < w.heap.size := World.block_lt_of_cell? w _ h0
        exact (H1.out.low.cell (p := ⟨g, o + j, none⟩) (show g < w1.heap.size by omega)).trans ((HB1.out.cell (p := ⟨g, o + j, none⟩) hgl).trans h0)
      have hzj : 0 ≤ zs.getD j 0 ∧ zs.getD j 0 ≤ 255 := by
        rw [List.getD_eq_getElem?_getD, List.getElem?_eq_getElem (by rw [HZL.out]; exact hlt), Option.getD_some]
        exact HZB.out _ (List.getElem_mem _)
      obtain ⟨hzj0, hzj1⟩ := hzj
      have HT := Lib.hid (take_snoc (zs := zs) (j := j) (by rw [HZL.out]; exact hlt))
      generalize zs.getD j 0 = x at *
      clear hcell
      have HSx : Hid (SrcOf (wr.alloc (.cells #[.int .i64 x] 2)) (.slice (some ⟨wr.heap.size, 0, none⟩) 1 1) 1 [.int .i64 x]) :=
        ⟨rfl, by intro u hu; simp at hu; subst hu; rfl, .inr ⟨⟨wr.heap.size, 0, none⟩, 1, rfl, cell_one_new _ _ _⟩⟩
      have HA := Lib.hid (fun v' w1' ha => H1.out.add (x := x) (v' := v') (w1 := w1') ha)
      have HO2 := Lib.hid (H1.out.own.alloc (.cells #[.int .i64 x] 2))
      have HNW := Lib.hid H1.out.nw
      generalize hF : zs.take j = F at *
      have HF := Lib.hid hF
      clear hF
      go_wp2_with (at_builtin; go_must (refine wpList_append_row rfl (.tmp 29) (.tmp 32) 28 rfl w1.heap.size 2 i0 (.int .i64 0) 8 Try.underlying28 hi hz0 hz1 hz2 rfl v F.length (F.map (Value.int .i64)) rfl HO2.out 1 [.int .i64 x] HSx.out ?l2 ?b2 ?n2 ?_); go_must (case l2 => (unfold maxLen; omega)); go_must (case b2 => omega); go_must (case n2 => (have := HNW.out; simp; omega)); intro v' w2 ha; go_must (obtain ⟨g2, cap2, rfl, hcell2, hfz2, hR2, _⟩ := HA.out _ _ ha); have HR2 := Lib.hid hR2; clear hR2 ha)
      go_roundw
      case rel => exact ⟨j + 1, _, by omega, by go_num, by rw [HT.out]; exact HR2.out⟩
      case measure => simp [intOf]; omega
    · obtain rfl : j = len := by omega
      have HTK : Hid (zs.take j = zs) := List.take_of_length_le (by rw [HZL.out]; omega)
      have HR : Hid (Ris w1 w1.heap.size w1.heap.size zs v wr) := by have := H1.out; rw [HTK.out] at this; exact this
      have CN : Hid (Calls Try.prog 10 #[.iface 27 (.pointer (some ⟨w1.heap.size, 0, none⟩)), .slice none 0 0] wr (DoneNew [ptrV w1.heap.size] wr)) :=
        new_src w1.heap.size (.slice none 0 0) [] wr ⟨rfl, by simp, .inl ⟨rfl, rfl⟩⟩ (by simp) (by simp)
      clear hcv hlr2 hlt
      go_wp2_with fail
      refine CN.out.mono ?_
      rintro e w3 ⟨bb, vb, rfl, hbb, hb, hown, hlow⟩
      obtain ⟨ao2, c2, hv, hl2⟩ := HR.out.list
      have hRb := HR.out.blk
      rw [hv] at hRb
      obtain ⟨sa, cp, hM⟩ := memN (N := w1.heap.size) (k := 1) (r := fun _ => w1.heap.size) (ao := fun _ => ao2) (c := fun _ => c2) (L := fun _ => zs) (by omega) (by omega) (fun _ _ => hRb) (fun _ _ hne => hl2 hne) (fun i k hi hk _ => by omega)
        (fun _ _ x hx => by have := HZB.out x hx; omega) (fun _ _ => by rw [HZL.out]; omega) hbb hb hown hlow (fun _ _ => Nat.le_refl _) HR.out.nw
      have HLow : Hid (Below w1.heap.size w1 w3) := HR.out.low.trans (hlow.mono HR.out.nw)
      clear hbb hb hown hlow hl2 hRb hv
      generalize hY : layN w1.heap.size bb w3.heap.size sa 1 cp (fun _ => w1.heap.size) (fun _ => ao2) (fun _ => c2) (fun _ => zs) = Y at hM
      have hk : Y.k = 1 := by rw [← hY]; rfl
      have hbbY : Y.bb = bb := by rw [← hY]; rfl
      have hsv : sv Y true = .iface 35 (.pointer (some ⟨w3.heap.size, 0, none⟩)) := by rw [← hY]; rfl
      have hsvn : sv Y false = .nilIface := rfl
      have hNY : Y.N = w1.heap.size := by rw [← hY]; rfl
      have hsb : Y.sb = w3.heap.size := by rw [← hY]; rfl
      have hr : Y.r 0 = w1.heap.size := by rw [← hY]; rfl
      have hnx : ∀ (a : Nat → Nat) (i : Nat), next Y a i < 1099511627776 := by
        intro a i
        have : next Y a i = told zs (a i + 1) := by rw [← hY]; rfl
        rw [this]
        unfold told
        split
        · omega
        · rw [List.getD_eq_getElem?_getD]
          cases e : zs[min (a i + 1) zs.length - 1]? with
          | none => simp
          | some x => have := HZB.out x (List.mem_of_getElem? e); simp; omega
      have HK := Lib.hid hk
      have HBB := Lib.hid hbbY
      have HSV := Lib.hid hsv
      have HSN := Lib.hid hsvn
      have HNY := Lib.hid hNY
      have HSB := Lib.hid hsb
      have HRR := Lib.hid hr
      have HNX := Lib.hid hnx
      have C1 := alerted hM true (by omega)
      rw [hsv, hbbY] at C1
      have HC1 := Lib.hid C1
      clear hY hk hbbY hsv hsvn hNY hsb hr hnx C1 hM CN HR H1
      go_wp2_with fail
      refine HC1.out.mono ?_
      rintro e w4 ⟨rfl, hM, hB⟩
      have HB4 := Lib.hid hB
      have C2 := alertM hM true (by simp [inc])
      rw [HSV.out, HBB.out] at C2
      have HC2 := Lib.hid C2
      clear C2 hM hB HC1
      go_wp2_with fail
      refine HC2.out.mono ?_
      rintro e w5 ⟨rfl, hM, hB⟩
      have HB5 := Lib.hid hB
      have C3 := alertM hM true (by simp [inc])
      rw [HSV.out, HBB.out] at C3
      have HC3 := Lib.hid C3
      clear C3 hM hB HC2
      go_wp2_with fail
      refine HC3.out.mono ?_
      rintro e w6 ⟨rfl, hM, hB⟩
      have HB6 := Lib.hid hB
      have C4 := alerted hM true (by simp [inc])
      rw [HSV.out, HBB.out] at C4
      have HC4 := Lib.hid C4
      clear C4 hM hB HC3
      go_wp2_with fail
      refine HC4.out.mono ?_
      rintro e w7 ⟨rfl, hM, hB⟩
      have HB7 := Lib.hid hB
      have hs7 : w7.cell? ⟨w3.heap.size, 0, none⟩ = some (.int .i64 4) := by rw [← HSB.out, cell_of hM.steps]; rfl
      have hway : 1 + y % 3 = 1 ∨ 1 + y % 3 = 2 ∨ 1 + y % 3 = 3 := by omega
      have HWAY := Lib.hid hway
      have C5 := wait_raised hM true (by rw [HK.out]; omega) 1099511627776 tries (1 + y % 3) hway (by simp [inc])
      rw [HSV.out, HBB.out] at C5
      have HC5 := Lib.hid C5
      clear C5 hM hB HC4 hway
      go_wp2_with fail
      refine HC5.out.mono ?_
      rintro e w8 ⟨rfl, hM, hB⟩
      have HB8 := Lib.hid hB
      have hs8 : w8.cell? ⟨w3.heap.size, 0, none⟩ = some (.int .i64 5) := by rw [← HSB.out, cell_of hM.steps]; rfl
      have hr8 : w8.cell? ⟨w1.heap.size, 1, none⟩ = some (.int .i64 0) := by rw [← HRR.out, cell_of (hM.src 0 (by rw [HK.out]; omega))]; rfl
      have C6 := clearM hM true (by simp [inc])
      rw [HSV.out, HBB.out] at C6
      have HC6 := Lib.hid C6
      clear C6 hM hB HC5 hs7
      go_wp2_with fail
      refine HC6.out.mono ?_
      rintro e w9 ⟨rfl, hM, hB⟩
      have HB9 := Lib.hid hB
      have C7 := clearM hM true (by simp [inc])
      rw [HSV.out, HBB.out] at C7
      have HC7 := Lib.hid C7
      clear C7 hM hB HC6 hs8 hr8
      go_wp2_with fail
      refine HC7.out.mono ?_
      rintro e w10 ⟨rfl, hM, hB⟩
      have HB10 := Lib.hid hB
      have C8 := alerted hM true (by simp [inc])
      rw [HSV.out, HBB.out] at C8
      have HC8 := Lib.hid C8
      clear C8 hM hB HC7
      go_wp2_with fail
      refine HC8.out.mono ?_
      rintro e w11 ⟨rfl, hM, hB⟩
      have HB11 := Lib.hid hB
      have C9 := wait_empty_any hM false (by rw [HK.out]; omega) (by rw [HK.out]; omega) 1099511627776 tries (1 + y % 3) HWAY.out (fun _ => by simp) (by simp [inc]) HNX.out
      rw [HSN.out, HBB.out] at C9
      have HC9 := Lib.hid C9
      clear C9 hM hB HC8
      go_wp2_with fail
      refine HC9.out.mono ?_
      rintro e w12 ⟨x, rfl, hB⟩
      have HB12 := Lib.hid hB
      clear hB HC9
      go_wp2
      go_ret
      have low : Below w1.heap.size w1 (w3.alloc (.cells #[.int .i64 0] 37)) := HLow.out.alloc HLow.out.size _
      have b4 := HB4.out; have b5 := HB5.out; have b6 := HB6.out; have b7 := HB7.out; have b8 := HB8.out; have b9 := HB9.out; have b10 := HB10.out; have b11 := HB11.out; have b12 := HB12.out
      rw [HNY.out] at b4 b5 b6 b7 b8 b9 b10 b11 b12
      exact ⟨rfl, HB1.out.trans ((((((((((low.trans b4).trans b5).trans b6).trans b7).trans b8).trans b9).trans b10).trans b11).trans b12).mono hlt1)⟩
end Go.Proofs.Ytimkkeomdkbcjaa
