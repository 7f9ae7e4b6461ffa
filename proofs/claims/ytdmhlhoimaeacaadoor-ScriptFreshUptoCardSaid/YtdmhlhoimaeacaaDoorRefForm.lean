/-
  The reference's form (f65) of what can be told. (Printed by wip/gen/refform.py.)
-/
import Derived.Test.YtdmhlhoimaeacaaDoorRefSays
namespace Go.Proofs.YtdmhlhoimaeacaaDoor
open Go.RowKit Go.Maps
set_option linter.unusedVariables false

theorem tellD_form {o : Opn} {j : Nat} (hj : j < 6) (he : (formOf j).kind = o.k) (hs : saysF o = true) : tellD o = lineT j o 3 := by
  unfold saysF at hs
  unfold tellD
  rw [tell_form hj he] at hs ⊢
  split at hs
  · rename_i h
    rw [if_pos h]
    rfl
  · cases hs

set_option maxRecDepth 100000 in
set_option maxHeartbeats 8000000 in
theorem form_1 (N : Nat) (a b c : Int) (w : World) (hE : Env N w) (ho : In64O ⟨1, a, b, c⟩) (hs : saysF ⟨1, a, b, c⟩ = true) : Calls Tryd.prog 65 #[.agg #[.int .i64 1, .int .i64 a, .int .i64 b, .int .i64 c]] w fun e w' => e = .returned (.string ⟨(tellD ⟨1, a, b, c⟩).toArray⟩) ∧ Below w.heap.size w w' := by
  have hb0 : Below w.heap.size w (w.alloc (.cells #[.int .i64 1, .int .i64 a, .int .i64 b, .int .i64 c] 65)) := (Below.refl _ _).alloc (Nat.le_refl _) _
  have HB0 := Lib.hid hb0
  have HX := Lib.hid (heap_alloc_new w (.cells #[.int .i64 1, .int .i64 a, .int .i64 b, .int .i64 c] 65))
  have HE := Lib.hid (hE.up hb0)
  have HT : Hid (tellD ⟨1, a, b, c⟩ = [111, 112, 101, 110] ++ (32 :: Lib.itoa a) ++ (32 :: Lib.itoa b)) := Lib.hid ((tellD_form (j := 0) (by decide) rfl hs).trans rfl)
  have HS : Hid ((w.alloc (.cells #[.int .i64 1, .int .i64 a, .int .i64 b, .int .i64 c] 65)).heap.size = w.heap.size + 1) := Lib.hid (by simp)
  have HO := Lib.hid ho
  have hla := itoa_len ho.2.1.1 ho.2.1.2
  have hlb := itoa_len ho.2.2.1.1 ho.2.2.1.2
  simp only at hla hlb
  clear hb0 hE ho hs
  generalize tellD ⟨1, a, b, c⟩ = td at *
  go_enter Tryd.func65, Tryd.ntmps65
  go_upto_region 1 with fail
  generalize w.alloc (.cells #[.int .i64 1, .int .i64 a, .int .i64 b, .int .i64 c] 65) = w0 at *
  have a0 := (cell_of HX.out 0).trans rfl
  have a1 := (cell_of HX.out 1).trans rfl
  have a2 := (cell_of HX.out 2).trans rfl
  go_wp2_with fail
  refine (num_walk N a w0 HE.out HO.out.2.1).mono ?_
  rintro e w1 ⟨rfl, hb1⟩
  have hx1 := (hb1.block w.heap.size (by have := HS.out; omega)).trans HX.out
  have HB1 := Lib.hid hb1
  clear a0 a1 a2 hb1
  have a0 := (cell_of hx1 0).trans rfl
  have a1 := (cell_of hx1 1).trans rfl
  have a2 := (cell_of hx1 2).trans rfl
  have HX1 := Lib.hid hx1
  clear hx1
  go_wp2_with fail
  refine (num_walk N b w1 (HE.out.up HB1.out) HO.out.2.2.1).mono ?_
  rintro e w2 ⟨rfl, hb2⟩
  have hx2 := (hb2.block w.heap.size (by have := HS.out; have := HB1.out.size; omega)).trans HX1.out
  have HB2 : Hid (Below w.heap.size w w2) := Lib.hid (HB0.out.trans ((HB1.out.mono (by have := HS.out; omega)).trans (hb2.mono (by have := HS.out; have := HB1.out.size; omega))))
  have HE2 := Lib.hid ((HE.out.up HB1.out).up hb2)
  have HX2 := Lib.hid hx2
  clear a0 a1 a2 hb2
  have a0 := (cell_of hx2 0).trans rfl
  clear hx2
  go_wp2_with fail
  go_ret
  refine ⟨?_, HB2.out⟩
  rw [HT.out]
  refine congrArg (fun s => Ending.returned (Value.string s)) ?_
  apply ByteArray.ext
  apply Array.toList_inj.1
  simp

set_option maxRecDepth 100000 in
set_option maxHeartbeats 8000000 in
theorem form_2 (N : Nat) (a b c : Int) (w : World) (hE : Env N w) (ho : In64O ⟨2, a, b, c⟩) (hs : saysF ⟨2, a, b, c⟩ = true) : Calls Tryd.prog 65 #[.agg #[.int .i64 2, .int .i64 a, .int .i64 b, .int .i64 c]] w fun e w' => e = .returned (.string ⟨(tellD ⟨2, a, b, c⟩).toArray⟩) ∧ Below w.heap.size w w' := by
  have hb0 : Below w.heap.size w (w.alloc (.cells #[.int .i64 2, .int .i64 a, .int .i64 b, .int .i64 c] 65)) := (Below.refl _ _).alloc (Nat.le_refl _) _
  have HB0 := Lib.hid hb0
  have HX := Lib.hid (heap_alloc_new w (.cells #[.int .i64 2, .int .i64 a, .int .i64 b, .int .i64 c] 65))
  have HE := Lib.hid (hE.up hb0)
  have HT : Hid (tellD ⟨2, a, b, c⟩ = [99, 108, 111, 115, 101] ++ (32 :: Lib.itoa a)) := Lib.hid ((tellD_form (j := 1) (by decide) rfl hs).trans rfl)
  have HS : Hid ((w.alloc (.cells #[.int .i64 2, .int .i64 a, .int .i64 b, .int .i64 c] 65)).heap.size = w.heap.size + 1) := Lib.hid (by simp)
  have HO := Lib.hid ho
  have hla := itoa_len ho.2.1.1 ho.2.1.2
  have hlb := itoa_len ho.2.2.1.1 ho.2.2.1.2
  simp only at hla hlb
  clear hb0 hE ho hs
  generalize tellD ⟨2, a, b, c⟩ = td at *
  go_enter Tryd.func65, Tryd.ntmps65
  go_upto_region 1 with fail
  generalize w.alloc (.cells #[.int .i64 2, .int .i64 a, .int .i64 b, .int .i64 c] 65) = w0 at *
  have a0 := (cell_of HX.out 0).trans rfl
  have a1 := (cell_of HX.out 1).trans rfl
  have a2 := (cell_of HX.out 2).trans rfl
  go_wp2_with fail
  refine (num_walk N a w0 HE.out HO.out.2.1).mono ?_
  rintro e w1 ⟨rfl, hb1⟩
  have hx1 := (hb1.block w.heap.size (by have := HS.out; omega)).trans HX.out
  have HB1 := Lib.hid hb1
  clear a0 a1 a2 hb1
  have a0 := (cell_of hx1 0).trans rfl
  have a1 := (cell_of hx1 1).trans rfl
  have a2 := (cell_of hx1 2).trans rfl
  have HX1 := Lib.hid hx1
  clear hx1
  go_wp2_with fail
  refine (num_walk N b w1 (HE.out.up HB1.out) HO.out.2.2.1).mono ?_
  rintro e w2 ⟨rfl, hb2⟩
  have hx2 := (hb2.block w.heap.size (by have := HS.out; have := HB1.out.size; omega)).trans HX1.out
  have HB2 : Hid (Below w.heap.size w w2) := Lib.hid (HB0.out.trans ((HB1.out.mono (by have := HS.out; omega)).trans (hb2.mono (by have := HS.out; have := HB1.out.size; omega))))
  have HE2 := Lib.hid ((HE.out.up HB1.out).up hb2)
  have HX2 := Lib.hid hx2
  clear a0 a1 a2 hb2
  have a0 := (cell_of hx2 0).trans rfl
  clear hx2
  go_wp2_with fail
  go_ret
  refine ⟨?_, HB2.out⟩
  rw [HT.out]
  refine congrArg (fun s => Ending.returned (Value.string s)) ?_
  apply ByteArray.ext
  apply Array.toList_inj.1
  simp

set_option maxRecDepth 100000 in
set_option maxHeartbeats 8000000 in
theorem form_5 (N : Nat) (a b c : Int) (w : World) (hE : Env N w) (ho : In64O ⟨5, a, b, c⟩) (hs : saysF ⟨5, a, b, c⟩ = true) : Calls Tryd.prog 65 #[.agg #[.int .i64 5, .int .i64 a, .int .i64 b, .int .i64 c]] w fun e w' => e = .returned (.string ⟨(tellD ⟨5, a, b, c⟩).toArray⟩) ∧ Below w.heap.size w w' := by
  have hb0 : Below w.heap.size w (w.alloc (.cells #[.int .i64 5, .int .i64 a, .int .i64 b, .int .i64 c] 65)) := (Below.refl _ _).alloc (Nat.le_refl _) _
  have HB0 := Lib.hid hb0
  have HX := Lib.hid (heap_alloc_new w (.cells #[.int .i64 5, .int .i64 a, .int .i64 b, .int .i64 c] 65))
  have HE := Lib.hid (hE.up hb0)
  have HT : Hid (tellD ⟨5, a, b, c⟩ = [102, 111, 108, 108, 111, 119] ++ (32 :: Lib.itoa a) ++ (32 :: Lib.itoa b)) := Lib.hid ((tellD_form (j := 3) (by decide) rfl hs).trans rfl)
  have HS : Hid ((w.alloc (.cells #[.int .i64 5, .int .i64 a, .int .i64 b, .int .i64 c] 65)).heap.size = w.heap.size + 1) := Lib.hid (by simp)
  have HO := Lib.hid ho
  have hla := itoa_len ho.2.1.1 ho.2.1.2
  have hlb := itoa_len ho.2.2.1.1 ho.2.2.1.2
  simp only at hla hlb
  clear hb0 hE ho hs
  generalize tellD ⟨5, a, b, c⟩ = td at *
  go_enter Tryd.func65, Tryd.ntmps65
  go_upto_region 1 with fail
  generalize w.alloc (.cells #[.int .i64 5, .int .i64 a, .int .i64 b, .int .i64 c] 65) = w0 at *
  have a0 := (cell_of HX.out 0).trans rfl
  have a1 := (cell_of HX.out 1).trans rfl
  have a2 := (cell_of HX.out 2).trans rfl
  go_wp2_with fail
  refine (num_walk N a w0 HE.out HO.out.2.1).mono ?_
  rintro e w1 ⟨rfl, hb1⟩
  have hx1 := (hb1.block w.heap.size (by have := HS.out; omega)).trans HX.out
  have HB1 := Lib.hid hb1
  clear a0 a1 a2 hb1
  have a0 := (cell_of hx1 0).trans rfl
  have a1 := (cell_of hx1 1).trans rfl
  have a2 := (cell_of hx1 2).trans rfl
  have HX1 := Lib.hid hx1
  clear hx1
  go_wp2_with fail
  refine (num_walk N b w1 (HE.out.up HB1.out) HO.out.2.2.1).mono ?_
  rintro e w2 ⟨rfl, hb2⟩
  have hx2 := (hb2.block w.heap.size (by have := HS.out; have := HB1.out.size; omega)).trans HX1.out
  have HB2 : Hid (Below w.heap.size w w2) := Lib.hid (HB0.out.trans ((HB1.out.mono (by have := HS.out; omega)).trans (hb2.mono (by have := HS.out; have := HB1.out.size; omega))))
  have HE2 := Lib.hid ((HE.out.up HB1.out).up hb2)
  have HX2 := Lib.hid hx2
  clear a0 a1 a2 hb2
  have a0 := (cell_of hx2 0).trans rfl
  clear hx2
  go_wp2_with fail
  go_ret
  refine ⟨?_, HB2.out⟩
  rw [HT.out]
  refine congrArg (fun s => Ending.returned (Value.string s)) ?_
  apply ByteArray.ext
  apply Array.toList_inj.1
  simp

set_option maxRecDepth 100000 in
set_option maxHeartbeats 8000000 in
theorem form_6 (N : Nat) (a b c : Int) (w : World) (hE : Env N w) (ho : In64O ⟨6, a, b, c⟩) (hs : saysF ⟨6, a, b, c⟩ = true) : Calls Tryd.prog 65 #[.agg #[.int .i64 6, .int .i64 a, .int .i64 b, .int .i64 c]] w fun e w' => e = .returned (.string ⟨(tellD ⟨6, a, b, c⟩).toArray⟩) ∧ Below w.heap.size w w' := by
  have hb0 : Below w.heap.size w (w.alloc (.cells #[.int .i64 6, .int .i64 a, .int .i64 b, .int .i64 c] 65)) := (Below.refl _ _).alloc (Nat.le_refl _) _
  have HB0 := Lib.hid hb0
  have HX := Lib.hid (heap_alloc_new w (.cells #[.int .i64 6, .int .i64 a, .int .i64 b, .int .i64 c] 65))
  have HE := Lib.hid (hE.up hb0)
  have HT : Hid (tellD ⟨6, a, b, c⟩ = [112, 111, 108, 108] ++ (32 :: Lib.itoa a) ++ (32 :: Lib.itoa b)) := Lib.hid ((tellD_form (j := 4) (by decide) rfl hs).trans rfl)
  have HS : Hid ((w.alloc (.cells #[.int .i64 6, .int .i64 a, .int .i64 b, .int .i64 c] 65)).heap.size = w.heap.size + 1) := Lib.hid (by simp)
  have HO := Lib.hid ho
  have hla := itoa_len ho.2.1.1 ho.2.1.2
  have hlb := itoa_len ho.2.2.1.1 ho.2.2.1.2
  simp only at hla hlb
  clear hb0 hE ho hs
  generalize tellD ⟨6, a, b, c⟩ = td at *
  go_enter Tryd.func65, Tryd.ntmps65
  go_upto_region 1 with fail
  generalize w.alloc (.cells #[.int .i64 6, .int .i64 a, .int .i64 b, .int .i64 c] 65) = w0 at *
  have a0 := (cell_of HX.out 0).trans rfl
  have a1 := (cell_of HX.out 1).trans rfl
  have a2 := (cell_of HX.out 2).trans rfl
  go_wp2_with fail
  refine (num_walk N a w0 HE.out HO.out.2.1).mono ?_
  rintro e w1 ⟨rfl, hb1⟩
  have hx1 := (hb1.block w.heap.size (by have := HS.out; omega)).trans HX.out
  have HB1 := Lib.hid hb1
  clear a0 a1 a2 hb1
  have a0 := (cell_of hx1 0).trans rfl
  have a1 := (cell_of hx1 1).trans rfl
  have a2 := (cell_of hx1 2).trans rfl
  have HX1 := Lib.hid hx1
  clear hx1
  go_wp2_with fail
  refine (num_walk N b w1 (HE.out.up HB1.out) HO.out.2.2.1).mono ?_
  rintro e w2 ⟨rfl, hb2⟩
  have hx2 := (hb2.block w.heap.size (by have := HS.out; have := HB1.out.size; omega)).trans HX1.out
  have HB2 : Hid (Below w.heap.size w w2) := Lib.hid (HB0.out.trans ((HB1.out.mono (by have := HS.out; omega)).trans (hb2.mono (by have := HS.out; have := HB1.out.size; omega))))
  have HE2 := Lib.hid ((HE.out.up HB1.out).up hb2)
  have HX2 := Lib.hid hx2
  clear a0 a1 a2 hb2
  have a0 := (cell_of hx2 0).trans rfl
  clear hx2
  go_wp2_with fail
  go_ret
  refine ⟨?_, HB2.out⟩
  rw [HT.out]
  refine congrArg (fun s => Ending.returned (Value.string s)) ?_
  apply ByteArray.ext
  apply Array.toList_inj.1
  simp

set_option maxRecDepth 100000 in
set_option maxHeartbeats 8000000 in
theorem form_7 (N : Nat) (a b c : Int) (w : World) (hE : Env N w) (ho : In64O ⟨7, a, b, c⟩) (hs : saysF ⟨7, a, b, c⟩ = true) : Calls Tryd.prog 65 #[.agg #[.int .i64 7, .int .i64 a, .int .i64 b, .int .i64 c]] w fun e w' => e = .returned (.string ⟨(tellD ⟨7, a, b, c⟩).toArray⟩) ∧ Below w.heap.size w w' := by
  have hb0 : Below w.heap.size w (w.alloc (.cells #[.int .i64 7, .int .i64 a, .int .i64 b, .int .i64 c] 65)) := (Below.refl _ _).alloc (Nat.le_refl _) _
  have HB0 := Lib.hid hb0
  have HX := Lib.hid (heap_alloc_new w (.cells #[.int .i64 7, .int .i64 a, .int .i64 b, .int .i64 c] 65))
  have HE := Lib.hid (hE.up hb0)
  have HT : Hid (tellD ⟨7, a, b, c⟩ = [101, 110, 100] ++ (32 :: Lib.itoa a)) := Lib.hid ((tellD_form (j := 5) (by decide) rfl hs).trans rfl)
  have HS : Hid ((w.alloc (.cells #[.int .i64 7, .int .i64 a, .int .i64 b, .int .i64 c] 65)).heap.size = w.heap.size + 1) := Lib.hid (by simp)
  have HO := Lib.hid ho
  have hla := itoa_len ho.2.1.1 ho.2.1.2
  have hlb := itoa_len ho.2.2.1.1 ho.2.2.1.2
  simp only at hla hlb
  clear hb0 hE ho hs
  generalize tellD ⟨7, a, b, c⟩ = td at *
  go_enter Tryd.func65, Tryd.ntmps65
  go_upto_region 1 with fail
  generalize w.alloc (.cells #[.int .i64 7, .int .i64 a, .int .i64 b, .int .i64 c] 65) = w0 at *
  have a0 := (cell_of HX.out 0).trans rfl
  have a1 := (cell_of HX.out 1).trans rfl
  have a2 := (cell_of HX.out 2).trans rfl
  go_wp2_with fail
  refine (num_walk N a w0 HE.out HO.out.2.1).mono ?_
  rintro e w1 ⟨rfl, hb1⟩
  have hx1 := (hb1.block w.heap.size (by have := HS.out; omega)).trans HX.out
  have HB1 := Lib.hid hb1
  clear a0 a1 a2 hb1
  have a0 := (cell_of hx1 0).trans rfl
  have a1 := (cell_of hx1 1).trans rfl
  have a2 := (cell_of hx1 2).trans rfl
  have HX1 := Lib.hid hx1
  clear hx1
  go_wp2_with fail
  refine (num_walk N b w1 (HE.out.up HB1.out) HO.out.2.2.1).mono ?_
  rintro e w2 ⟨rfl, hb2⟩
  have hx2 := (hb2.block w.heap.size (by have := HS.out; have := HB1.out.size; omega)).trans HX1.out
  have HB2 : Hid (Below w.heap.size w w2) := Lib.hid (HB0.out.trans ((HB1.out.mono (by have := HS.out; omega)).trans (hb2.mono (by have := HS.out; have := HB1.out.size; omega))))
  have HE2 := Lib.hid ((HE.out.up HB1.out).up hb2)
  have HX2 := Lib.hid hx2
  clear a0 a1 a2 hb2
  have a0 := (cell_of hx2 0).trans rfl
  clear hx2
  go_wp2_with fail
  go_ret
  refine ⟨?_, HB2.out⟩
  rw [HT.out]
  refine congrArg (fun s => Ending.returned (Value.string s)) ?_
  apply ByteArray.ext
  apply Array.toList_inj.1
  simp

set_option maxRecDepth 100000 in
set_option maxHeartbeats 8000000 in
theorem form_3 (N : Nat) (a b c : Int) (w : World) (hE : Env N w) (ho : In64O ⟨3, a, b, c⟩) (hs : saysF ⟨3, a, b, c⟩ = true) : Calls Tryd.prog 65 #[.agg #[.int .i64 3, .int .i64 a, .int .i64 b, .int .i64 c]] w fun e w' => e = .returned (.string ⟨(tellD ⟨3, a, b, c⟩).toArray⟩) ∧ Below w.heap.size w w' := by
  have hb0 : Below w.heap.size w (w.alloc (.cells #[.int .i64 3, .int .i64 a, .int .i64 b, .int .i64 c] 65)) := (Below.refl _ _).alloc (Nat.le_refl _) _
  have HB0 := Lib.hid hb0
  have HX := Lib.hid (heap_alloc_new w (.cells #[.int .i64 3, .int .i64 a, .int .i64 b, .int .i64 c] 65))
  have HE := Lib.hid (hE.up hb0)
  have HT : Hid (tellD ⟨3, a, b, c⟩ = [112, 117, 98, 108, 105, 115, 104] ++ (32 :: Lib.itoa a) ++ (32 :: Lib.itoa b) ++ (32 :: Lib.itoa c)) := Lib.hid ((tellD_form (j := 2) (by decide) rfl hs).trans rfl)
  have HS : Hid ((w.alloc (.cells #[.int .i64 3, .int .i64 a, .int .i64 b, .int .i64 c] 65)).heap.size = w.heap.size + 1) := Lib.hid (by simp)
  have HO := Lib.hid ho
  have hla := itoa_len ho.2.1.1 ho.2.1.2
  have hlb := itoa_len ho.2.2.1.1 ho.2.2.1.2
  simp only at hla hlb
  clear hb0 hE ho hs
  generalize tellD ⟨3, a, b, c⟩ = td at *
  go_enter Tryd.func65, Tryd.ntmps65
  go_upto_region 1 with fail
  generalize w.alloc (.cells #[.int .i64 3, .int .i64 a, .int .i64 b, .int .i64 c] 65) = w0 at *
  have a0 := (cell_of HX.out 0).trans rfl
  have a1 := (cell_of HX.out 1).trans rfl
  have a2 := (cell_of HX.out 2).trans rfl
  go_wp2_with fail
  refine (num_walk N a w0 HE.out HO.out.2.1).mono ?_
  rintro e w1 ⟨rfl, hb1⟩
  have hx1 := (hb1.block w.heap.size (by have := HS.out; omega)).trans HX.out
  have HB1 := Lib.hid hb1
  clear a0 a1 a2 hb1
  have a0 := (cell_of hx1 0).trans rfl
  have a1 := (cell_of hx1 1).trans rfl
  have a2 := (cell_of hx1 2).trans rfl
  have HX1 := Lib.hid hx1
  clear hx1
  go_wp2_with fail
  refine (num_walk N b w1 (HE.out.up HB1.out) HO.out.2.2.1).mono ?_
  rintro e w2 ⟨rfl, hb2⟩
  have hx2 := (hb2.block w.heap.size (by have := HS.out; have := HB1.out.size; omega)).trans HX1.out
  have HB2 : Hid (Below w.heap.size w w2) := Lib.hid (HB0.out.trans ((HB1.out.mono (by have := HS.out; omega)).trans (hb2.mono (by have := HS.out; have := HB1.out.size; omega))))
  have HE2 := Lib.hid ((HE.out.up HB1.out).up hb2)
  have HX2 := Lib.hid hx2
  clear a0 a1 a2 hb2
  have a0 := (cell_of hx2 0).trans rfl
  clear hx2
  have a3 := (cell_of HX2.out 3).trans rfl
  have hlc := itoa_len HO.out.2.2.2.1 HO.out.2.2.2.2
  simp only at hlc
  go_wp2_with fail
  refine (num_walk N c w2 HE2.out HO.out.2.2.2).mono ?_
  rintro e w3 ⟨rfl, hb3⟩
  have HB3 : Hid (Below w.heap.size w w3) := Lib.hid (HB2.out.trans (hb3.mono HB2.out.size))
  clear hb3 a3 a0
  go_wp2_with fail
  go_ret
  refine ⟨?_, HB3.out⟩
  rw [HT.out]
  refine congrArg (fun s => Ending.returned (Value.string s)) ?_
  apply ByteArray.ext
  apply Array.toList_inj.1
  simp

set_option maxRecDepth 100000 in
set_option maxHeartbeats 8000000 in
theorem form_4_0 (N : Nat) (a b : Int) (w : World) (hE : Env N w) (ho : In64O ⟨4, a, b, 0⟩) (hs : saysF ⟨4, a, b, 0⟩ = true) : Calls Tryd.prog 65 #[.agg #[.int .i64 4, .int .i64 a, .int .i64 b, .int .i64 0]] w fun e w' => e = .returned (.string ⟨(tellD ⟨4, a, b, 0⟩).toArray⟩) ∧ Below w.heap.size w w' := by
  have hb0 : Below w.heap.size w (w.alloc (.cells #[.int .i64 4, .int .i64 a, .int .i64 b, .int .i64 0] 65)) := (Below.refl _ _).alloc (Nat.le_refl _) _
  have HB0 := Lib.hid hb0
  have HX := Lib.hid (heap_alloc_new w (.cells #[.int .i64 4, .int .i64 a, .int .i64 b, .int .i64 0] 65))
  have HE := Lib.hid (hE.up hb0)
  have HT : Hid (tellD ⟨4, a, b, 0⟩ = [115, 117, 98, 115, 99, 114, 105, 98, 101] ++ (32 :: Lib.itoa a) ++ (32 :: [97, 108, 108])) := Lib.hid (by
    unfold saysF tellF at hs
    unfold tellD tellF
    rw [if_pos rfl] at hs ⊢
    simp only at hs ⊢
    split at hs
    · cases hs
    · rename_i h
      rw [if_neg h]
      rfl)
  have HS : Hid ((w.alloc (.cells #[.int .i64 4, .int .i64 a, .int .i64 b, .int .i64 0] 65)).heap.size = w.heap.size + 1) := Lib.hid (by simp)
  have HO := Lib.hid ho
  have hla := itoa_len ho.2.1.1 ho.2.1.2
  have hlb := itoa_len ho.2.2.1.1 ho.2.2.1.2
  simp only at hla hlb
  clear hb0 hE ho hs
  generalize tellD ⟨4, a, b, 0⟩ = td at *
  go_enter Tryd.func65, Tryd.ntmps65
  go_upto_region 1 with fail
  generalize w.alloc (.cells #[.int .i64 4, .int .i64 a, .int .i64 b, .int .i64 0] 65) = w0 at *
  have a0 := (cell_of HX.out 0).trans rfl
  have a1 := (cell_of HX.out 1).trans rfl
  have a2 := (cell_of HX.out 2).trans rfl
  go_wp2_with fail
  refine (num_walk N a w0 HE.out HO.out.2.1).mono ?_
  rintro e w1 ⟨rfl, hb1⟩
  have hx1 := (hb1.block w.heap.size (by have := HS.out; omega)).trans HX.out
  have HB1 := Lib.hid hb1
  clear a0 a1 a2 hb1
  have a0 := (cell_of hx1 0).trans rfl
  have a1 := (cell_of hx1 1).trans rfl
  have a2 := (cell_of hx1 2).trans rfl
  have HX1 := Lib.hid hx1
  clear hx1
  go_wp2_with fail
  refine (num_walk N b w1 (HE.out.up HB1.out) HO.out.2.2.1).mono ?_
  rintro e w2 ⟨rfl, hb2⟩
  have hx2 := (hb2.block w.heap.size (by have := HS.out; have := HB1.out.size; omega)).trans HX1.out
  have HB2 : Hid (Below w.heap.size w w2) := Lib.hid (HB0.out.trans ((HB1.out.mono (by have := HS.out; omega)).trans (hb2.mono (by have := HS.out; have := HB1.out.size; omega))))
  have HE2 := Lib.hid ((HE.out.up HB1.out).up hb2)
  have HX2 := Lib.hid hx2
  clear a0 a1 a2 hb2
  have a0 := (cell_of hx2 0).trans rfl
  have a3 := (cell_of hx2 3).trans rfl
  have hlt := World.block_lt_of_cell? _ _ a3
  simp only at hlt
  clear hx2
  go_wp2_with fail
  go_ret
  refine ⟨?_, HB2.out.alloc HB2.out.size _⟩
  rw [HT.out]
  refine congrArg (fun s => Ending.returned (Value.string s)) ?_
  apply ByteArray.ext
  apply Array.toList_inj.1
  simp

set_option maxRecDepth 100000 in
set_option maxHeartbeats 8000000 in
theorem form_4_1 (N : Nat) (a b : Int) (w : World) (hE : Env N w) (ho : In64O ⟨4, a, b, 1⟩) (hs : saysF ⟨4, a, b, 1⟩ = true) : Calls Tryd.prog 65 #[.agg #[.int .i64 4, .int .i64 a, .int .i64 b, .int .i64 1]] w fun e w' => e = .returned (.string ⟨(tellD ⟨4, a, b, 1⟩).toArray⟩) ∧ Below w.heap.size w w' := by
  have hb0 : Below w.heap.size w (w.alloc (.cells #[.int .i64 4, .int .i64 a, .int .i64 b, .int .i64 1] 65)) := (Below.refl _ _).alloc (Nat.le_refl _) _
  have HB0 := Lib.hid hb0
  have HX := Lib.hid (heap_alloc_new w (.cells #[.int .i64 4, .int .i64 a, .int .i64 b, .int .i64 1] 65))
  have HE := Lib.hid (hE.up hb0)
  have HT : Hid (tellD ⟨4, a, b, 1⟩ = [115, 117, 98, 115, 99, 114, 105, 98, 101] ++ (32 :: Lib.itoa a) ++ (32 :: [119, 114, 105, 116, 101, 114]) ++ (32 :: Lib.itoa b)) := Lib.hid (by
    unfold saysF tellF at hs
    unfold tellD tellF
    rw [if_pos rfl] at hs ⊢
    simp only at hs ⊢
    split at hs
    · cases hs
    · rename_i h
      rw [if_neg h]
      rfl)
  have HS : Hid ((w.alloc (.cells #[.int .i64 4, .int .i64 a, .int .i64 b, .int .i64 1] 65)).heap.size = w.heap.size + 1) := Lib.hid (by simp)
  have HO := Lib.hid ho
  have hla := itoa_len ho.2.1.1 ho.2.1.2
  have hlb := itoa_len ho.2.2.1.1 ho.2.2.1.2
  simp only at hla hlb
  clear hb0 hE ho hs
  generalize tellD ⟨4, a, b, 1⟩ = td at *
  go_enter Tryd.func65, Tryd.ntmps65
  go_upto_region 1 with fail
  generalize w.alloc (.cells #[.int .i64 4, .int .i64 a, .int .i64 b, .int .i64 1] 65) = w0 at *
  have a0 := (cell_of HX.out 0).trans rfl
  have a1 := (cell_of HX.out 1).trans rfl
  have a2 := (cell_of HX.out 2).trans rfl
  go_wp2_with fail
  refine (num_walk N a w0 HE.out HO.out.2.1).mono ?_
  rintro e w1 ⟨rfl, hb1⟩
  have hx1 := (hb1.block w.heap.size (by have := HS.out; omega)).trans HX.out
  have HB1 := Lib.hid hb1
  clear a0 a1 a2 hb1
  have a0 := (cell_of hx1 0).trans rfl
  have a1 := (cell_of hx1 1).trans rfl
  have a2 := (cell_of hx1 2).trans rfl
  have HX1 := Lib.hid hx1
  clear hx1
  go_wp2_with fail
  refine (num_walk N b w1 (HE.out.up HB1.out) HO.out.2.2.1).mono ?_
  rintro e w2 ⟨rfl, hb2⟩
  have hx2 := (hb2.block w.heap.size (by have := HS.out; have := HB1.out.size; omega)).trans HX1.out
  have HB2 : Hid (Below w.heap.size w w2) := Lib.hid (HB0.out.trans ((HB1.out.mono (by have := HS.out; omega)).trans (hb2.mono (by have := HS.out; have := HB1.out.size; omega))))
  have HE2 := Lib.hid ((HE.out.up HB1.out).up hb2)
  have HX2 := Lib.hid hx2
  clear a0 a1 a2 hb2
  have a0 := (cell_of hx2 0).trans rfl
  have a3 := (cell_of hx2 3).trans rfl
  have hlt := World.block_lt_of_cell? _ _ a3
  simp only at hlt
  clear hx2
  go_wp2_with fail
  go_ret
  refine ⟨?_, HB2.out.alloc HB2.out.size _⟩
  rw [HT.out]
  refine congrArg (fun s => Ending.returned (Value.string s)) ?_
  apply ByteArray.ext
  apply Array.toList_inj.1
  simp

set_option maxRecDepth 100000 in
set_option maxHeartbeats 8000000 in
theorem form_4_2 (N : Nat) (a b : Int) (w : World) (hE : Env N w) (ho : In64O ⟨4, a, b, 2⟩) (hs : saysF ⟨4, a, b, 2⟩ = true) : Calls Tryd.prog 65 #[.agg #[.int .i64 4, .int .i64 a, .int .i64 b, .int .i64 2]] w fun e w' => e = .returned (.string ⟨(tellD ⟨4, a, b, 2⟩).toArray⟩) ∧ Below w.heap.size w w' := by
  have hb0 : Below w.heap.size w (w.alloc (.cells #[.int .i64 4, .int .i64 a, .int .i64 b, .int .i64 2] 65)) := (Below.refl _ _).alloc (Nat.le_refl _) _
  have HB0 := Lib.hid hb0
  have HX := Lib.hid (heap_alloc_new w (.cells #[.int .i64 4, .int .i64 a, .int .i64 b, .int .i64 2] 65))
  have HE := Lib.hid (hE.up hb0)
  have HT : Hid (tellD ⟨4, a, b, 2⟩ = [115, 117, 98, 115, 99, 114, 105, 98, 101] ++ (32 :: Lib.itoa a) ++ (32 :: [114, 97, 110, 103, 101]) ++ (32 :: Lib.itoa b)) := Lib.hid (by
    unfold saysF tellF at hs
    unfold tellD tellF
    rw [if_pos rfl] at hs ⊢
    simp only at hs ⊢
    split at hs
    · cases hs
    · rename_i h
      rw [if_neg h]
      rfl)
  have HS : Hid ((w.alloc (.cells #[.int .i64 4, .int .i64 a, .int .i64 b, .int .i64 2] 65)).heap.size = w.heap.size + 1) := Lib.hid (by simp)
  have HO := Lib.hid ho
  have hla := itoa_len ho.2.1.1 ho.2.1.2
  have hlb := itoa_len ho.2.2.1.1 ho.2.2.1.2
  simp only at hla hlb
  clear hb0 hE ho hs
  generalize tellD ⟨4, a, b, 2⟩ = td at *
  go_enter Tryd.func65, Tryd.ntmps65
  go_upto_region 1 with fail
  generalize w.alloc (.cells #[.int .i64 4, .int .i64 a, .int .i64 b, .int .i64 2] 65) = w0 at *
  have a0 := (cell_of HX.out 0).trans rfl
  have a1 := (cell_of HX.out 1).trans rfl
  have a2 := (cell_of HX.out 2).trans rfl
  go_wp2_with fail
  refine (num_walk N a w0 HE.out HO.out.2.1).mono ?_
  rintro e w1 ⟨rfl, hb1⟩
  have hx1 := (hb1.block w.heap.size (by have := HS.out; omega)).trans HX.out
  have HB1 := Lib.hid hb1
  clear a0 a1 a2 hb1
  have a0 := (cell_of hx1 0).trans rfl
  have a1 := (cell_of hx1 1).trans rfl
  have a2 := (cell_of hx1 2).trans rfl
  have HX1 := Lib.hid hx1
  clear hx1
  go_wp2_with fail
  refine (num_walk N b w1 (HE.out.up HB1.out) HO.out.2.2.1).mono ?_
  rintro e w2 ⟨rfl, hb2⟩
  have hx2 := (hb2.block w.heap.size (by have := HS.out; have := HB1.out.size; omega)).trans HX1.out
  have HB2 : Hid (Below w.heap.size w w2) := Lib.hid (HB0.out.trans ((HB1.out.mono (by have := HS.out; omega)).trans (hb2.mono (by have := HS.out; have := HB1.out.size; omega))))
  have HE2 := Lib.hid ((HE.out.up HB1.out).up hb2)
  have HX2 := Lib.hid hx2
  clear a0 a1 a2 hb2
  have a0 := (cell_of hx2 0).trans rfl
  have a3 := (cell_of hx2 3).trans rfl
  have hlt := World.block_lt_of_cell? _ _ a3
  simp only at hlt
  clear hx2
  go_wp2_with fail
  go_ret
  refine ⟨?_, HB2.out.alloc HB2.out.size _⟩
  rw [HT.out]
  refine congrArg (fun s => Ending.returned (Value.string s)) ?_
  apply ByteArray.ext
  apply Array.toList_inj.1
  simp

set_option maxRecDepth 100000 in
set_option maxHeartbeats 8000000 in
theorem form_4_3 (N : Nat) (a b : Int) (w : World) (hE : Env N w) (ho : In64O ⟨4, a, b, 3⟩) (hs : saysF ⟨4, a, b, 3⟩ = true) : Calls Tryd.prog 65 #[.agg #[.int .i64 4, .int .i64 a, .int .i64 b, .int .i64 3]] w fun e w' => e = .returned (.string ⟨(tellD ⟨4, a, b, 3⟩).toArray⟩) ∧ Below w.heap.size w w' := by
  have hb0 : Below w.heap.size w (w.alloc (.cells #[.int .i64 4, .int .i64 a, .int .i64 b, .int .i64 3] 65)) := (Below.refl _ _).alloc (Nat.le_refl _) _
  have HB0 := Lib.hid hb0
  have HX := Lib.hid (heap_alloc_new w (.cells #[.int .i64 4, .int .i64 a, .int .i64 b, .int .i64 3] 65))
  have HE := Lib.hid (hE.up hb0)
  have HT : Hid (tellD ⟨4, a, b, 3⟩ = [115, 117, 98, 115, 99, 114, 105, 98, 101] ++ (32 :: Lib.itoa a) ++ (32 :: [101, 97, 99, 104]) ++ (32 :: Lib.itoa b)) := Lib.hid (by
    unfold saysF tellF at hs
    unfold tellD tellF
    rw [if_pos rfl] at hs ⊢
    simp only at hs ⊢
    split at hs
    · cases hs
    · rename_i h
      rw [if_neg h]
      rfl)
  have HS : Hid ((w.alloc (.cells #[.int .i64 4, .int .i64 a, .int .i64 b, .int .i64 3] 65)).heap.size = w.heap.size + 1) := Lib.hid (by simp)
  have HO := Lib.hid ho
  have hla := itoa_len ho.2.1.1 ho.2.1.2
  have hlb := itoa_len ho.2.2.1.1 ho.2.2.1.2
  simp only at hla hlb
  clear hb0 hE ho hs
  generalize tellD ⟨4, a, b, 3⟩ = td at *
  go_enter Tryd.func65, Tryd.ntmps65
  go_upto_region 1 with fail
  generalize w.alloc (.cells #[.int .i64 4, .int .i64 a, .int .i64 b, .int .i64 3] 65) = w0 at *
  have a0 := (cell_of HX.out 0).trans rfl
  have a1 := (cell_of HX.out 1).trans rfl
  have a2 := (cell_of HX.out 2).trans rfl
  go_wp2_with fail
  refine (num_walk N a w0 HE.out HO.out.2.1).mono ?_
  rintro e w1 ⟨rfl, hb1⟩
  have hx1 := (hb1.block w.heap.size (by have := HS.out; omega)).trans HX.out
  have HB1 := Lib.hid hb1
  clear a0 a1 a2 hb1
  have a0 := (cell_of hx1 0).trans rfl
  have a1 := (cell_of hx1 1).trans rfl
  have a2 := (cell_of hx1 2).trans rfl
  have HX1 := Lib.hid hx1
  clear hx1
  go_wp2_with fail
  refine (num_walk N b w1 (HE.out.up HB1.out) HO.out.2.2.1).mono ?_
  rintro e w2 ⟨rfl, hb2⟩
  have hx2 := (hb2.block w.heap.size (by have := HS.out; have := HB1.out.size; omega)).trans HX1.out
  have HB2 : Hid (Below w.heap.size w w2) := Lib.hid (HB0.out.trans ((HB1.out.mono (by have := HS.out; omega)).trans (hb2.mono (by have := HS.out; have := HB1.out.size; omega))))
  have HE2 := Lib.hid ((HE.out.up HB1.out).up hb2)
  have HX2 := Lib.hid hx2
  clear a0 a1 a2 hb2
  have a0 := (cell_of hx2 0).trans rfl
  have a3 := (cell_of hx2 3).trans rfl
  have hlt := World.block_lt_of_cell? _ _ a3
  simp only at hlt
  clear hx2
  go_wp2_with fail
  go_ret
  refine ⟨?_, HB2.out.alloc HB2.out.size _⟩
  rw [HT.out]
  refine congrArg (fun s => Ending.returned (Value.string s)) ?_
  apply ByteArray.ext
  apply Array.toList_inj.1
  simp
end Go.Proofs.YtdmhlhoimaeacaaDoor
