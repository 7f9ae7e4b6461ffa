/-
  The contract of the document's Linear; the law JudgeLinear (f4): the walk.
-/
import Derived.Test.YtfcaebceklhbkaaDoorRefWalk
import Derived.Laws.MakeOwn
namespace Go.Proofs.YtfcaebceklhbkaaDoor
open Go.RowKit
set_option linter.unusedVariables false

theorem info126 : (Tryd.prog.info? 126).map (fun i => (i.zero, i.size, i.bytes)) = some (some (.agg #[.slice none 0 0]), 1, 24) := by kernel_rfl

set_option maxRecDepth 100000 in
set_option maxHeartbeats 8000000 in
theorem refLinear_walk (o : Int) (S : List Cl) (ao : Option Addr) (n co : Nat) (v : Value) (s : List Int) (w : World) (hSn : S.length = n) (hC : CallRow w ao S) (hSf : ∀ c ∈ S, c.ln ≤ 9223372036854775807)
    (hn : n ≤ 4000000) (hs : Nums w v s) (hsl : s.length ≤ 2000000) :
    Calls Tryd.prog 17 #[.int .i64 o, v, .slice ao n co] w (DoneL (linF o S s) w) := by
  have HL : Hid (linF o S s = if 12 < n then (none, 1) else if o < 1 ∨ 5 < o then (none, 2) else (srch o S n 0 s, 0)) := by rw [← hSn]; rfl
  by_cases h12 : 12 < n
  · have h12' : (n : Int) > 12 := by omega
    have HX := Lib.hid (show linF o S s = (none, 1) from by rw [hid_eq HL, if_pos h12])
    clear HL hSn hC hSf hs
    go_enter Tryd.func17, Tryd.ntmps17
    go_wp2_with fail
    go_ret3
    rw [HX.out]
    exact ⟨Below.refl _ _, rfl⟩
  · have h12' : ¬ (n : Int) > 12 := by omega
    by_cases ho1 : o < 1
    · have HX := Lib.hid (show linF o S s = (none, 2) from by rw [hid_eq HL, if_neg h12, if_pos (.inl ho1)])
      clear HL hSn hC hSf hs
      go_enter Tryd.func17, Tryd.ntmps17
      go_wp2_with fail
      go_ret3
      rw [HX.out]
      exact ⟨Below.refl _ _, rfl⟩
    · by_cases ho5 : 5 < o
      · have HX := Lib.hid (show linF o S s = (none, 2) from by rw [hid_eq HL, if_neg h12, if_pos (.inr ho5)])
        have ho5' : o > 5 := ho5
        clear HL hSn hC hSf hs
        go_enter Tryd.func17, Tryd.ntmps17
        go_wp2_with fail
        go_ret3
        rw [HX.out]
        exact ⟨Below.refl _ _, rfl⟩
      · have HX := Lib.hid (show linF o S s = (srch o S n 0 s, 0) from by rw [hid_eq HL, if_neg h12, if_neg (by omega)])
        obtain ⟨K, hK⟩ : ∃ K, 2 ^ n = K := ⟨_, rfl⟩
        have hKn : K ≤ 4096 := by rw [← hK]; exact Nat.pow_le_pow_right (n := 2) (by omega) (by omega : n ≤ 12)
        have hK0 : 0 < K := by rw [← hK]; exact Nat.two_pow_pos n
        obtain ⟨i0, hi0, hz0, hz1, hz2⟩ := info_parts info126
        have hkk : (2 : Int) ^ n = (K : Int) := by rw [← hK]; norm_cast
        have hmin : min n 64 = n := by omega
        have hmk : ∀ w : World, (Instr.makeSlice 97 (.int .i64 (K : Int)) (.int .i64 (K : Int))).run Tryd.prog w = .ok (.slice (some ⟨w.heap.size, 0, none⟩) K K) (w.alloc (.cells (madeCells #[.slice none 0 0] K) 126)) := fun w => by
          have := run_make (P := Tryd.prog) w 97 126 i0 _ Tryd.underlying97 hi0 hz0 .i64 .i64 (K : Int) (K : Int) (by omega) (by omega) (by rw [hz2]; omega) (by omega)
          rw [hz1, Nat.mul_one] at this
          simpa [Value.cells] using this
        have HON := Lib.hid (refOn_walk w (w.heap.size + 1) w.heap.size o ao n co S (by omega) hSn hC hSf n)
        have HIN : Hid (RIn w (w.heap.size + 1) w.heap.size o ao n co S n ((w.alloc (.cells (madeCells #[.slice none 0 0] K) 126)).alloc (.cells #[.int .i64 o, .slice ao n co, .slice (some ⟨w.heap.size, 0, none⟩) K K] 99)) (fun _ => .slice none 0 0) (fun _ => []) 0 v s) := by
          have hb := below_two w (.cells (madeCells #[.slice none 0 0] K) 126) (.cells #[.int .i64 o, .slice ao n co, .slice (some ⟨w.heap.size, 0, none⟩) K K] 99)
          have hsb := heap_alloc_new (w.alloc (.cells (madeCells #[.slice none 0 0] K) 126)) (.cells #[.int .i64 o, .slice ao n co, .slice (some ⟨w.heap.size, 0, none⟩) K K] 99)
          rw [show (w.alloc (.cells (madeCells #[.slice none 0 0] K) 126)).heap.size = w.heap.size + 1 by simp] at hsb
          have hnb := (Below.heap_alloc (w.alloc (.cells (madeCells #[.slice none 0 0] K) 126)) (.cells #[.int .i64 o, .slice ao n co, .slice (some ⟨w.heap.size, 0, none⟩) K K] 99) w.heap.size (by simp)).trans (heap_alloc_new w (.cells (madeCells #[.slice none 0 0] K) 126))
          refine ⟨hb, ⟨?_, ⟨_, hnb, ?_, fun d hd => ?_⟩, fun d hd => World.ownsRow_nil _ _ _ _, fun d e _ _ _ => .inl rfl, Nat.le_refl _, by omega, fun d hd x hx => by cases hx⟩, ?_, Nat.two_pow_pos n, ?_, by omega, fun e he h => ?_⟩
          · rw [hK]; exact hsb
          · rw [hK]; simp [size_madeCells]
          · rw [hK] at hd
            rw [← Array.getElem?_toList, toList_madeCells_one]
            simp [hd]
          · rw [pc_zero]; omega
          · obtain ⟨ao', c', e, h⟩ := hs.below hb
            refine ⟨ao', c', e, ?_⟩
            rcases h with h | ⟨g, p, e1, h⟩
            · exact .inl h
            · cases s with
              | nil => exact .inl rfl
              | cons y s =>
                obtain ⟨ao2, c2, e2, h2⟩ := hs
                rcases h2 with h2 | ⟨g2, p2, e3, h2⟩
                · cases h2
                · rw [e] at e2
                  cases e2
                  rw [e1] at e3
                  cases e3
                  have hlt := World.block_lt_of_cell? w _ (h2 0 (by simp))
                  exact .inr ⟨g, p, e1, .inl hlt, h⟩
          · rw [pc_zero, Nat.sub_zero]
            simp
        have H49 := Lib.hid (HON.out _ _ _ _ _ _ HIN.out)
        rw [pc_zero] at H49
        clear HL hSn hC hSf hs HON hK hz0 hz1 hz2
        go_enter Tryd.func17, Tryd.ntmps17
        go_wp2_with fail
        generalize (w.alloc (.cells (madeCells #[.slice none 0 0] K) 126)).alloc (.cells #[.int .i64 o, .slice ao n co, .slice (some ⟨w.heap.size, 0, none⟩) K K] 99) = w1 at *
        refine H49.out.mono ?_
        rintro e w2 ⟨V', D', hfk, _, _, hres⟩
        have HLOW := Lib.hid (HIN.out.low.trans hfk.1)
        have hw1 : w.heap.size ≤ w1.heap.size := HIN.out.low.size
        clear hfk
        cases hsr : srch o S n 0 s with
        | none =>
          rw [hsr] at hres
          obtain rfl : e = .returned (.tuple #[.slice none 0 0, .bool false]) := hres
          have HX2 := Lib.hid (show linF o S s = (none, 0) from by rw [HX.out, hsr])
          clear HX hsr
          go_wp2_with fail
          go_ret3
          rw [HX2.out]
          exact ⟨HLOW.out, rfl⟩
        | some l =>
          rw [hsr] at hres
          obtain ⟨lv, rfl, hrow⟩ : ∃ lv, e = .returned (.tuple #[lv, .bool true]) ∧ w2.ownsRow w1.heap.size 3 1 lv l.length (ordV l) := hres
          have HX2 := Lib.hid (show linF o S s = (some l, 0) from by rw [HX.out, hsr])
          have HROW := Lib.hid (own_base hrow hw1)
          clear HX hsr hrow
          go_wp2_with fail
          go_ret3
          rw [HX2.out]
          exact ⟨HLOW.out, _, rfl, HROW.out⟩

set_option maxRecDepth 100000 in
set_option maxHeartbeats 8000000 in
theorem linearLaw_walk (o : Int) (v : Value) (s : List Int) (ao : Option Addr) (n co : Nat) (S : List Cl) (w : World) (hSn : S.length = n) (hC : CallRow w ao S) (hCn : ao = none → n = 0 ∧ co = 0) (hn : n ≤ 1000000)
    (hSf : ∀ c ∈ S, Fits c.x ∧ Fits c.y ∧ c.ln ≤ 9223372036854775807) (hs : Nums w v s) (hss : SrcOf w 1 v s.length (numV s)) (hsf : ∀ x ∈ s, Fits x) (hsl : s.length ≤ 2000000) (ht : Tab w) :
    Calls Tryd.prog 4 #[.int .i64 o, v, .slice ao n co] w fun e w' => e = .returned (.bool true) ∧ Below w.heap.size w w' := by
  have HFX := Lib.hid (fixed_walk w ht)
  have H16 := Lib.hid (fun (v1 : Value) (a2 : Option Addr) (c2 : Nat) (W : World) (h1 : Nums W v1 s) (h2 : CallRow W a2 S) (h3 : Tab W) => linear_walk o S a2 n c2 v1 s W hSn h2 h3 (doOk_all _) hSf (by omega) h1 hsf hsl)
  have H17 := Lib.hid (fun (a2 : Option Addr) (c2 : Nat) (W : World) (h1 : Nums W v s) (h2 : CallRow W a2 S) => refLinear_walk o S a2 n c2 v s W hSn h2 (fun c hc => (hSf c hc).2.2) (by omega) h1 hsl)
  have H18 := Lib.hid (fun W h => refs_walk ao n co S W h hSn hn)
  have HC := Lib.hid hC
  have HCS := Lib.hid (src_calls hC hSn hCn)
  have HS := Lib.hid hs
  have HSS := Lib.hid hss
  have HT := Lib.hid ht
  have HLL : Hid (∀ l k, linF o S s = (some l, k) → l.length ≤ 4000000) := Lib.hid (fun l k h => by
    unfold linF at h
    split at h
    · cases h
    · split at h
      · cases h
      · cases h1 : srch o S S.length 0 s with
        | none => rw [h1] at h; cases h
        | some l' =>
          rw [h1] at h
          cases h
          have := (srch_fol o S _ _ _ _ h1).2
          omega)
  clear hSf hC hs hss hsf ht
  generalize linF o S s = r at *
  obtain ⟨r1, r2⟩ := r
  go_enter Tryd.func4, Tryd.ntmps4
  go_wp2_with fail
  refine HFX.out.mono ?_
  rintro e w1 ⟨rfl, hb1⟩
  have HB1 := Lib.hid hb1
  obtain ⟨v3, w3, v4, w4, q1, q2, hn4, ⟨a4, c4, rfl, hc4⟩, hb4⟩ := copies2 (W := w1) (HSS.out.below hb1) (HCS.out.below hb1) hSn (by omega) hn
  have HB4 := Lib.hid (hb1.trans (hb4.mono hb1.size))
  have H16a := Lib.hid (H16.out v3 a4 c4 w4 hn4 hc4 (HT.out.below HB4.out))
  have HR1 := Lib.hid q1
  have HR2 := Lib.hid q2
  clear q1 q2 hn4 hc4 hb4 hb1
  go_wp2_with (first
    | (at_builtin; refine Lib.wpList_append_run _ rfl _ _ _ _ rfl _ _ rfl rfl _ _ HR1.out ?_)
    | (at_builtin; refine Lib.wpList_append_run _ rfl _ _ _ _ rfl _ _ rfl rfl _ _ HR2.out ?_))
  refine H16a.out.mono ?_
  rintro e w5 ⟨hb5, hres⟩
  have HB5 := Lib.hid (HB4.out.trans (hb5.mono HB4.out.size))
  clear hb5
  cases r1 with
  | none =>
    obtain rfl : e = .returned (.tuple #[.slice none 0 0, .bool false, .int .i64 r2]) := hres
    go_wp2_with fail
    refine (H18.out w5 (HC.out.below HB5.out)).mono ?_
    rintro e w6 ⟨a6, c6, rfl, hc6, hb6⟩
    have HB6 := Lib.hid (HB5.out.trans (hb6.mono HB5.out.size))
    have HC6 := Lib.hid hc6
    clear hc6 hb6
    go_wp2_with fail
    refine (H17.out a6 c6 w6 (HS.out.below HB6.out) HC6.out).mono ?_
    rintro e w7 ⟨hb7, hres⟩
    obtain rfl : e = .returned (.tuple #[.slice none 0 0, .bool false, .int .i64 r2]) := hres
    have HB7 := Lib.hid (HB6.out.trans (hb7.mono HB6.out.size))
    have H19 := Lib.hid (sameInts_walk (.slice none 0 0) (.slice none 0 0) [] w7 ⟨none, 0, rfl, .inl rfl⟩ ⟨none, 0, rfl, .inl rfl⟩ (by simp))
    clear hb7
    go_wp2_with fail
    refine H19.out.mono ?_
    rintro e w8 ⟨rfl, hb8⟩
    have HB8 := Lib.hid (HB7.out.trans (hb8.mono HB7.out.size))
    clear hb8
    go_wp2_with fail
    go_ret
    exact ⟨rfl, HB8.out⟩
  | some l =>
    have hll := HLL.out l r2 rfl
    obtain ⟨lv, rfl, hrow⟩ : ∃ lv, e = .returned (.tuple #[lv, .bool true, .int .i64 r2]) ∧ w5.ownsRow w4.heap.size 3 1 lv l.length (ordV l) := hres
    rw [ordV_ints, show l.length = (intsF l).length by simp [intsF]] at hrow
    have HN5 := Lib.hid (nums_row hrow)
    clear hrow
    go_wp2_with fail
    refine (H18.out w5 (HC.out.below HB5.out)).mono ?_
    rintro e w6 ⟨a6, c6, rfl, hc6, hb6⟩
    have HB6 := Lib.hid (HB5.out.trans (hb6.mono HB5.out.size))
    have HC6 := Lib.hid hc6
    have HN6 := Lib.hid (HN5.out.below hb6)
    clear hc6 hb6
    go_wp2_with fail
    refine (H17.out a6 c6 w6 (HS.out.below HB6.out) HC6.out).mono ?_
    rintro e w7 ⟨hb7, hres⟩
    obtain ⟨mv, rfl, hrow⟩ : ∃ lv, e = .returned (.tuple #[lv, .bool true, .int .i64 r2]) ∧ w7.ownsRow w6.heap.size 3 1 lv l.length (ordV l) := hres
    rw [ordV_ints, show l.length = (intsF l).length by simp [intsF]] at hrow
    have HB7 := Lib.hid (HB6.out.trans (hb7.mono HB6.out.size))
    have H19 := Lib.hid (sameInts_walk lv mv (intsF l) w7 (HN6.out.below hb7) (nums_row hrow) (by simp [intsF]; omega))
    clear hb7 hrow
    go_wp2_with fail
    refine H19.out.mono ?_
    rintro e w8 ⟨rfl, hb8⟩
    have HB8 := Lib.hid (HB7.out.trans (hb8.mono HB7.out.size))
    clear hb8
    go_wp2_with fail
    go_ret
    exact ⟨rfl, HB8.out⟩
end Go.Proofs.YtfcaebceklhbkaaDoor
