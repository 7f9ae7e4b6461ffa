/-
  Merged out of: Fen7 Fen8. No condition of its own.
-/
import Derived.Test.YtimkkeomdkbcjaaPlaysP13
import Derived.OwnWalkIn
set_option linter.unusedVariables false
set_option linter.unusedSimpArgs false
/-
  The fenced twin of New: which functions are entered. No condition of its own.
-/
namespace Go.Proofs.Ytimkkeomdkbcjaa.FF
open Go.RowKit
theorem wpListIn_append_row {F : Fence} {nF : Nat} {P : Program} {w : World} {ops : Array Oper} {rest : List Oper} {o : Oper} {a : Act} {Q : Exit → Act → World → Prop} (hgd : o.guard = none) (s x : Operand) (t : TypeId)
    (ho : o.op = .call { callee := .builtin .append, args := #[s, x], argTypes := #[t, t] })
    (base : Nat) (e : TypeId) (i : TypeInfo) (z : Value) (bytes : Nat) (ht : P.underlying t = some (.slice e)) (hi : P.info? e = some i) (hz : i.zero = some z)
    (hsize : i.size = 1) (hby : i.bytes = bytes) (hzs : z.cells.size = 1)
    (v : Value) (n : Nat) (xs : List Value) (hs : a.eval s = v) (hown : w.ownsRow base e 1 v n xs) (m : Nat) (news : List Value) (hx : SrcOf w (a.eval x) m news)
    (h63 : n + m ≤ maxLen) (hbytes : (n + m) * bytes ≤ 140737488355328) (hbase : base ≤ w.heap.size)
    (h : ∀ v' w', Appended w base e v n m (xs ++ news) v' w' → wpListIn F nF P ops Q rest (a.put o.dst v') w') : wpListIn F nF P ops Q (o :: rest) a w := by
  refine wpListIn_plain hgd fun K hK => ?_
  obtain ⟨v', w', hr, h2⟩ := run_append_row (P := P) w base t o.type e i z bytes ht hi hz hsize hby hzs v n xs hown (a.eval x) m news hx h63 hbytes hbase
  unfold Oper.wpIn
  refine ⟨by simp [Oper.about, ho, resolve, Target.leads, Sem.run_pure], ?_⟩
  rw [Oper.semAt_plain F _ _ (by rw [ho]; intro c hc'; cases hc')]
  simp [execOp, ho, resolve, invoke, builtin, hs, hr, Result.andThen]
  exact hK _ _ (h v' w' h2)
set_option maxRecDepth 100000 in
set_option maxHeartbeats 1000000 in
theorem new_src (r0 : Nat) (B : Value) (Bs : List Value) (w : World) (hB : SrcOf w B Bs.length Bs) (hS : ∀ x ∈ Bs, SrcV x) (hlen : Bs.length ≤ 1000000) :
    CallsIn (Fence.list [9, 10, 11, 12, 13, 22, 23, 39, 40, 52, 54, 87, 88] none) 0 Try.prog 10 #[(.iface 27 (.pointer (some ⟨r0, 0, none⟩))), B] w (DoneNew (srcs ((.iface 27 (.pointer (some ⟨r0, 0, none⟩))) :: Bs)) w) := by
  obtain ⟨i0, hi, hz0, hz1, hz2⟩ := info_parts info32
  have HS : Hid (∀ j, j < ((.iface 27 (.pointer (some ⟨r0, 0, none⟩))) :: Bs).length → SrcV (((.iface 27 (.pointer (some ⟨r0, 0, none⟩))) :: Bs).getD j .nilIface)) := by
    intro j hj
    rw [List.getD_eq_getElem?_getD, List.getElem?_eq_getElem hj, Option.getD_some]
    rcases List.mem_cons.1 (List.getElem_mem hj) with h | h
    · rw [h]; exact .inr ⟨r0, rfl⟩
    · exact hS _ h
  have HB := Lib.hid hB
  clear hS hB
  have HO : Hid (∀ o : Obj, ((w.alloc o).alloc (.cells #[(.iface 27 (.pointer (some ⟨r0, 0, none⟩)))] 32)).ownsRow w.heap.size 32 1 (.slice (some ⟨w.heap.size + 1, 0, none⟩) 1 1) 1 [(.iface 27 (.pointer (some ⟨r0, 0, none⟩)))]) := by
    intro o
    have := World.ownsRow_lit (base := w.heap.size) (e := 32) (size := 1) (w.alloc o) #[(.iface 27 (.pointer (some ⟨r0, 0, none⟩)))] 1 (by simp) (by decide) rfl
    simpa using this
  have HS2 : Hid (∀ o o' : Obj, SrcOf ((w.alloc o).alloc o') B Bs.length Bs) := by
    intro o o'
    obtain ⟨h1, h2, h3⟩ := HB.out
    refine ⟨h1, h2, ?_⟩
    rcases h3 with h3 | ⟨ad, c, rfl, h4⟩
    · exact .inl h3
    · refine .inr ⟨ad, c, rfl, fun j u hu => ?_⟩
      have hb : (ad.add j).block < w.heap.size := World.block_lt_of_cell? w _ (h4 j u hu)
      rw [World.cell?_of_block (w := w)]
      · exact h4 j u hu
      · rw [Below.heap_alloc _ _ _ (by simp; omega), Below.heap_alloc _ _ _ hb]
  have HL : Hid (∀ v13 w1, Appended ((w.alloc (.cells #[.slice none 0 0, .int .u32 0] 54)).alloc (.cells #[(.iface 27 (.pointer (some ⟨r0, 0, none⟩)))] 32)) w.heap.size 32 (.slice (some ⟨w.heap.size + 1, 0, none⟩) 1 1) 1 Bs.length ([(.iface 27 (.pointer (some ⟨r0, 0, none⟩)))] ++ Bs) v13 w1 →
      ∃ g cap, v13 = .slice (some ⟨g, 0, none⟩) (Bs.length + 1) cap ∧ Bs.length + 1 ≤ cap ∧ Head w w.heap.size w.heap.size g cap ((.iface 27 (.pointer (some ⟨r0, 0, none⟩))) :: Bs) 0 (.slice none 0 0) w1) := by
    intro v13 w1 ⟨h1, h2, h3⟩
    have hbar : w1.heap[w.heap.size]? = some (.cells #[.slice none 0 0, .int .u32 0] 54 (0, 0)) := by
      rw [h2.block w.heap.size (by simp; omega) (by simp [Value.ownBlock])]
      rw [Below.heap_alloc _ _ _ (by simp)]
      exact heap_alloc_new w _
    rcases h3 with ⟨_, h, _⟩ | ⟨g, cap, rfl, hc, _⟩
    · cases h
    · refine ⟨g, cap, by rw [Nat.add_comm], by omega, hbar, World.ownsRow_nil _ _ _ _, by simpa [Nat.add_comm] using h1, by simp [Value.ownBlock], ?_, Nat.le_refl _, ?_⟩
      · exact ((((Below.refl _ _).alloc (Nat.le_refl _) _).alloc (by simp) _).grown h2 (by simp; omega) (by simp [Value.ownBlock]))
      · have := h2.size; simp at this; omega
  clear HB
  generalize hb : w.heap.size = b at *
  gi_enter Try.func10, Try.ntmps10
  gi_wp2_with (gi_at_builtin; go_must (refine wpListIn_append_row rfl (.tmp 11) (.tmp 12) 25 rfl b 32 i0 .nilIface 16 Try.underlying25 hi hz0 hz1 hz2 rfl (.slice (some ⟨b + 1, 0, none⟩) 1 1) 1 [(.iface 27 (.pointer (some ⟨r0, 0, none⟩)))] ?e1 (HO.out _) Bs.length Bs (HS2.out _ _) ?l1 ?b1 ?n1 ?_); go_must (case e1 => (first | rfl | (simp [Act.eval, hb]))); go_must (case l1 => (unfold maxLen; omega)); go_must (case b1 => omega); go_must (case n1 => (first | (simp [hb]; done) | (simp [hb]; omega) | omega)); intro v13 w1 ha; obtain ⟨g13, c13, rfl, hc13, hh⟩ := HL.out _ _ ha)
  gi_loopw [15] (fun jv wr => ∃ (j : Nat) (v : Value), j ≤ Bs.length + 1 ∧ jv = .int .i64 j ∧ Head w b b g13 c13 ((.iface 27 (.pointer (some ⟨r0, 0, none⟩))) :: Bs) j v wr) (fun jv _ => Bs.length + 1 - (intOf jv).toNat)
  case atStart => exact ⟨0, _, by omega, rfl, hh⟩
  case round =>
    obtain ⟨j, v, hj, rfl, hH⟩ := hrel
    have H1 := Lib.hid hH
    have hbar : wr.cell? ⟨b, 0, none⟩ = some v := by rw [cell_of hH.bar]; rfl
    have hfr := free_of hH.bar 0
    have hle : (srcs (((.iface 27 (.pointer (some ⟨r0, 0, none⟩))) :: Bs).take j)).length ≤ 1000001 := by
      have := List.length_filter_le isSrc (((.iface 27 (.pointer (some ⟨r0, 0, none⟩))) :: Bs).take j)
      have h2 := List.length_take_le j ((.iface 27 (.pointer (some ⟨r0, 0, none⟩))) :: Bs)
      unfold srcs; omega
    clear hH
    by_cases hlt : j < Bs.length + 1
    · have hel := H1.out.elem (show j < ((.iface 27 (.pointer (some ⟨r0, 0, none⟩))) :: Bs).length by simpa using hlt)
      rcases HS.out j (by simpa using hlt) with hx | ⟨r, hx⟩
      · rw [hx] at hel
        have HX := Lib.hid hx
        clear hx
        gi_wp2
        go_roundw
        case rel => exact ⟨j + 1, v, by omega, by go_num, H1.out.skip (by simpa using hlt) HX.out⟩
        case measure => simp [intOf]; omega
      · rw [hx] at hel
        have HX := Lib.hid hx
        clear hx
        have HSx : Hid (SrcOf (wr.alloc (.cells #[.iface 27 (.pointer (some ⟨r, 0, none⟩))] 32)) (.slice (some ⟨wr.heap.size, 0, none⟩) 1 1) 1 [.iface 27 (.pointer (some ⟨r, 0, none⟩))]) :=
          ⟨rfl, by intro u hu; simp at hu; subst hu; rfl, .inr ⟨⟨wr.heap.size, 0, none⟩, 1, rfl, cell_one_new _ _ _⟩⟩
        have HT := Lib.hid (fun v' w1 ha => H1.out.took (v' := v') (w1 := w1) (by simpa using hlt) r HX.out ha)
        have HO2 := Lib.hid (H1.out.own.alloc (.cells #[.iface 27 (.pointer (some ⟨r, 0, none⟩))] 32))
        have HNW := Lib.hid H1.out.nw
        generalize hF : srcs (((.iface 27 (.pointer (some ⟨r0, 0, none⟩))) :: Bs).take j) = F at *
        have HF := Lib.hid hF
        clear hF
        gi_wp2_with (gi_at_builtin; go_must (refine wpListIn_append_row rfl (.tmp 25) (.tmp 27) 25 rfl b 32 i0 .nilIface 16 Try.underlying25 hi hz0 hz1 hz2 rfl v F.length F rfl HO2.out 1 [.iface 27 (.pointer (some ⟨r, 0, none⟩))] HSx.out ?l2 ?b2 ?n2 ?_); go_must (case l2 => (unfold maxLen; omega)); go_must (case b2 => omega); go_must (case n2 => (have := HNW.out; simp; omega)); intro v' w1 ha; go_must (obtain ⟨g, cap, rfl, hcell, hfz, hH2⟩ := HT.out _ _ ha); have HH := Lib.hid hH2; clear hH2 ha)
        go_roundw
        case rel => exact ⟨j + 1, _, by omega, by go_num, HH.out⟩
        case measure => simp [intOf]; omega
    · obtain rfl : j = Bs.length + 1 := by omega
      have HT : Hid (((.iface 27 (.pointer (some ⟨r0, 0, none⟩))) :: Bs).take (Bs.length + 1) = (.iface 27 (.pointer (some ⟨r0, 0, none⟩))) :: Bs) := List.take_of_length_le (by simp)
      gi_wp2
      go_ret
      have h2 := H1.out.own
      rw [HT.out] at h2
      exact ⟨b, v, rfl, by omega, H1.out.bar, by rw [hb]; exact h2, by rw [hb]; exact H1.out.low⟩
end Go.Proofs.Ytimkkeomdkbcjaa.FF

/-
  The fenced twin of Waits: which functions are entered. No condition of its own.
-/
namespace Go.Proofs.Ytimkkeomdkbcjaa.FF
open Go.RowKit
set_option maxRecDepth 100000 in
set_option maxHeartbeats 1000000 in
theorem waits_true (w : World) : CallsIn (Fence.list [9, 10, 11, 12, 13, 22, 23, 39, 40, 52, 54, 87, 88] none) 0 Try.prog 9 #[] w fun e w' => e = .returned (.bool true) ∧ Below w.heap.size w w' := by
  obtain ⟨f0, f1, f2, f3, f4, f5⟩ := W5_facts w
  have CN : CallsIn (Fence.list [9, 10, 11, 12, 13, 22, 23, 39, 40, 52, 54, 87, 88] none) 0 Try.prog 10 #[.iface 27 (.pointer (some ⟨w.heap.size + 1, 0, none⟩)), .slice (some ⟨w.heap.size + 1 + 1 + 1 + 1, 0, none⟩) 2 2] (W5 w) (DoneNew [.iface 27 (.pointer (some ⟨w.heap.size + 1, 0, none⟩)), .iface 27 (.pointer (some ⟨w.heap.size + 1 + 1 + 1, 0, none⟩))] (W5 w)) :=
    new_src _ _ [.nilIface, .iface 27 (.pointer (some ⟨w.heap.size + 1 + 1 + 1, 0, none⟩))] (W5 w) (new_two _ _ _ (by simp)) (srcV_two _) (by simp)
  have F0 := Lib.hid f0
  have F5 := Lib.hid f5
  have HM : Hid (∀ bb v w1, (W5 w).heap.size ≤ bb → w1.heap[bb]? = some (.cells #[v, .int .u32 0] 54 (0, 0)) → w1.ownsRow (W5 w).heap.size 32 1 v 2 [.iface 27 (.pointer (some ⟨w.heap.size + 1, 0, none⟩)), .iface 27 (.pointer (some ⟨w.heap.size + 1 + 1 + 1, 0, none⟩))] → Below (W5 w).heap.size (W5 w) w1 →
      ∃ sa cap, Mem (lay2 w.heap.size bb w1.heap.size sa cap (w.heap.size + 1) (w.heap.size + 1 + 1 + 1) w.heap.size (w.heap.size + 1 + 1) 5 3) false (fun _ => 0) 0 (w1.alloc (.cells #[.int .i64 0] 37))) :=
    fun bb v w1 h1 h2 h3 h4 => mem2 f1 f2 f3 f4 (by omega) (by omega) (by omega) h1 h2 h3 h4 (by omega) (by omega) (by omega)
  clear f0 f1 f2 f3 f4 f5
  gi_enter Try.func9, Try.ntmps9
  gi_wp2_with fail
  refine CN.mono ?_
  rintro e w1 ⟨bb, v, rfl, hbb, hb, hown, hlow⟩
  obtain ⟨sa, cap, hM⟩ := HM.out bb v w1 hbb hb hown hlow
  have HLow := Lib.hid (show Below w.heap.size w w1 from F5.out.trans (hlow.mono (by rw [F0.out]; omega)))
  clear hbb hb hown hlow HM CN
  generalize hY : lay2 w.heap.size bb w1.heap.size sa cap (w.heap.size + 1) (w.heap.size + 1 + 1 + 1) w.heap.size (w.heap.size + 1 + 1) 5 3 = Y at hM
  have hn : ∀ (a : Nat → Nat) (i : Nat), next Y a i = if i = 0 then 5 else 3 := by intro a i; rw [← hY]; exact next2 _ _ _ _ _ _ _ _ _ _ _ a i
  have hk : Y.k = 2 := by rw [← hY]; rfl
  have hbbY : Y.bb = bb := by rw [← hY]; rfl
  have hsv : sv Y true = .iface 35 (.pointer (some ⟨w1.heap.size, 0, none⟩)) := by rw [← hY]; rfl
  have hN : Y.N = w.heap.size := by rw [← hY]; rfl
  have hsb : Y.sb = w1.heap.size := by rw [← hY]; rfl
  clear hY
  have L1 : ∀ a : Nat → Nat, lim (next Y a) (Y.k - 1) = 3 := by intro a; rw [hk]; simp [lim, hn]
  have R1 : ∀ a : Nat → Nat, waitR Y false 3 (clamp 1) 0 0 a = (3, 0, bump a Y.k, 3, 1) := by
    intro a
    have : clamp 1 = 0 + 1 := rfl
    rw [this, waitR, L1, if_pos (by omega), hk]; rfl
  have R2 : ∀ a : Nat → Nat, leanR Y 3 (clamp 1) 0 0 0 a = (0, 4, upd a 0, 1) := by
    intro a
    have : clamp 1 = 0 + 1 := rfl
    rw [this, leanR, hn, if_neg (by simp), if_neg (by rw [hk]; simp)]
    rfl
  have R3 : ∀ a : Nat → Nat, leanR Y 3 (clamp 2) 0 0 0 a = (3, 0, upd (upd a 0) 1, 2) := by
    intro a
    have : clamp 2 = 0 + 1 + 1 := rfl
    rw [this, leanR, hn, if_neg (by simp), if_neg (by rw [hk]; simp), leanR, hn, if_neg (by simp), if_pos (by rw [hk])]
    rfl
  have R4 : ∀ a : Nat → Nat, ∃ a', waitR Y true 4 (clamp 2) 0 0 a = (0, 4, a', 5, 2) := by
    intro a
    have : clamp 2 = 0 + 1 + 1 := rfl
    rw [this, waitR, L1, if_neg (by omega), waitR, L1, if_neg (by omega), waitR, hk]
    exact ⟨_, rfl⟩
  have C1 := limitM hM true (by omega) (fun _ => by omega) (by omega)
  rw [hsv, hbbY, L1] at C1
  have HD := Lib.hid hM
  have HR1 := Lib.hid R1
  have HR2 := Lib.hid R2
  have HR3 := Lib.hid R3
  have HR4 := Lib.hid R4
  have HK := Lib.hid hk
  have HBB := Lib.hid hbbY
  have HSV := Lib.hid hsv
  have HNN := Lib.hid hN
  have HC1 := Lib.hid C1
  have HSB : Hid (Y.sb = w1.heap.size) := hsb
  have A0 : ∀ i, (fun _ : Nat => (0 : Nat)) i ≤ (fun _ : Nat => (0 : Nat)) i + 0 := fun _ => by simp
  have A1 := bump_le (k := 2) A0
  have A2 := bump_le (k := 2) A1
  have A3 := upd_le (j := 0) A2
  have A4 := upd_le (j := 1) (upd_le (j := 0) A3)
  have H1 := Lib.hid A1
  have H2 := Lib.hid A2
  have H3 := Lib.hid A3
  have H4 := Lib.hid A4
  clear hM R1 R2 R3 R4 hk hbbY hsv hN C1 L1 hn hsb A0 A1 A2 A3 A4
  gi_wp2_with fail
  refine HC1.out.mono ?_
  rintro e w2 ⟨rfl, hM1, hB1⟩
  have HB1 := Lib.hid hB1
  rw [HK.out] at hM1
  have hs : w2.cell? ⟨w1.heap.size, 0, none⟩ = some (.int .i64 2) := by rw [← HSB.out, cell_of hM1.steps]; rfl
  have C2 := wait_eager hM1 true (by rw [HK.out]; omega) (by rw [HK.out]; omega) 3 1 (fun i => by have := H1.out i; (try simp only at this ⊢); omega) (by simp [inc])
  rw [HSV.out, HBB.out, HR1.out, HK.out] at C2
  have HC2 := Lib.hid C2
  clear C2 hM1 hB1
  gi_wp2_with fail
  refine HC2.out.mono ?_
  rintro e w3 ⟨rfl, hM2, hB2⟩
  have HB2 := Lib.hid hB2
  have C3 := wait_lean hM2 true (by rw [HK.out]; omega) 3 1 (fun i => by have := H2.out i; (try simp only at this ⊢); omega) (by simp [inc])
  rw [HSV.out, HBB.out, HR2.out] at C3
  have HC3 := Lib.hid C3
  clear C3 hM2 hB2
  gi_wp2_with fail
  refine HC3.out.mono ?_
  rintro e w4 ⟨rfl, hM3, hB3⟩
  have HB3 := Lib.hid hB3
  have C4 := wait_lean hM3 true (by rw [HK.out]; omega) 3 2 (fun i => by have := H3.out i; (try simp only at this ⊢); omega) (by simp [inc])
  rw [HSV.out, HBB.out, HR3.out] at C4
  have HC4 := Lib.hid C4
  clear C4 hM3 hB3
  gi_wp2_with fail
  refine HC4.out.mono ?_
  rintro e w5 ⟨rfl, hM4, hB4⟩
  have HB4 := Lib.hid hB4
  have C5 := wait_rare hM4 true (by rw [HK.out]; omega) (by rw [HK.out]; omega) 4 2 (fun i => by have := H4.out i; (try simp only at this ⊢); omega) (by simp [inc])
  obtain ⟨a5, hr⟩ := HR4.out (upd (upd (upd (bump (bump (fun _ => 0) 2) 2) 0) 0) 1)
  simp only at C5
  rw [HSV.out, HBB.out, hr] at C5
  have HC5 := Lib.hid C5
  clear C5 hM4 hB4 hr
  gi_wp2_with fail
  refine HC5.out.mono ?_
  rintro e w6 ⟨rfl, hM5, hB5⟩
  have HB5 := Lib.hid hB5
  have hs6 : w6.cell? ⟨w1.heap.size, 0, none⟩ = some (.int .i64 16) := by rw [← HSB.out, cell_of hM5.steps]; rfl
  clear hM5 hB5
  gi_wp2
  go_ret
  have low : Below w.heap.size w1 (w1.alloc (.cells #[.int .i64 0] 37)) := (Below.refl _ _).alloc HLow.out.size _
  have b1 := HB1.out; have b2 := HB2.out; have b3 := HB3.out; have b4 := HB4.out; have b5 := HB5.out
  rw [HNN.out] at b1 b2 b3 b4 b5
  exact ⟨rfl, (((((HLow.out.trans low).trans b1).trans b2).trans b3).trans b4).trans b5⟩
end Go.Proofs.Ytimkkeomdkbcjaa.FF
