/-
  The contracts of strings.Builder's copyCheck and WriteString over this program's own text of them, and of judge.point.
-/
import Derived.Test.YtfcaebceklhbkaaDoorShelf
import Derived.Test.YtfcaebceklhbkaaDoorPoint
import Derived.Test.YtfcaebceklhbkaaDoorMay
import Derived.Lib.AppendIntMem
namespace Go.Proofs.YtfcaebceklhbkaaDoor
open Go.RowKit
set_option linter.unusedVariables false

theorem info5 : (Tryd.prog.info? 5).map (fun i => (i.zero, i.size, i.bytes)) = some (some (.int .u8 0), 1, 1) := by kernel_rfl
theorem info144 : (Tryd.prog.info? 144).map (·.size) = some 2 := by kernel_rfl
theorem lies144 : liesAt Tryd.prog Tryd.prog.depth 144 (2 / Tryd.prog.cellsOf 144) 0 144 1 = true := by kernel_rfl

set_option maxHeartbeats 1000000 in
set_option maxRecDepth 100000 in
theorem check_used (b : Nat) (w : World) (h0 : w.cell? ⟨b, 0, none⟩ = some (.pointer (some ⟨b, 0, none⟩))) :
    Calls Tryd.prog 90 #[.pointer (some ⟨b, 0, none⟩)] w fun e w' => e = .returned (.tuple #[]) ∧ w' = w := by
  obtain ⟨j, hj, _⟩ := Option.map_eq_some_iff.1 info144
  go_enter Tryd.func90, Tryd.ntmps90
  go_wp2
  rw [Lib.run_neq_ptr_same w _ Tryd.underlying142 hj]
  go_wp2
  go_end0
  exact ⟨rfl, rfl⟩

set_option maxHeartbeats 1000000 in
set_option maxRecDepth 100000 in
theorem check_fresh (b : Nat) (w : World) (h0 : w.cell? ⟨b, 0, none⟩ = some (.pointer none)) (hsh : w.shape? b = some (144, 2)) (hfz : w.frozen? ⟨b, 0, none⟩ = false) :
    Calls Tryd.prog 90 #[.pointer (some ⟨b, 0, none⟩)] w fun e w' => e = .returned (.tuple #[]) ∧ w' = w.setCell ⟨b, 0, none⟩ (.pointer (some ⟨b, 0, none⟩)) := by
  obtain ⟨j, hj, hjs⟩ := Option.map_eq_some_iff.1 info144
  go_enter Tryd.func90, Tryd.ntmps90
  go_wp2
  rw [Lib.run_to_unsafe w ⟨b, 0, none⟩ Tryd.underlying142 Tryd.underlying162 hj (by rw [hjs]; decide) hsh (Nat.zero_lt_succ 1)]
  simp only [Result.andThen]
  rw [Oper.upon_value]
  go_wp2
  rw [run_callFunc_extern Tryd.func95 (by kernel_rfl) (by kernel_rfl) (by kernel_rfl) (e := Extern.AbiNoEscape.same) (by kernel_rfl)]
  rw [Lib.run_noEscape]
  simp only [Result.andThen]
  rw [Oper.upon_value]
  go_wp2
  rw [Lib.run_from_unsafe w ⟨b, 0, none⟩ Tryd.underlying162 Tryd.underlying142 hj hsh lies144]
  simp only [Result.andThen]
  rw [Oper.upon_value]
  go_wp2
  go_end0
  exact ⟨rfl, rfl⟩

theorem check_walk (B b : Nat) (bs : List Value) (w : World) (h : Lib.IsBuilder 144 5 B b bs w) :
    Calls Tryd.prog 90 #[.pointer (some ⟨b, 0, none⟩)] w fun e w' => e = .returned (.tuple #[]) ∧ (Lib.BuilderAt 144 5 B b (.pointer (some ⟨b, 0, none⟩)) bs w' ∧ Below B w w') := by
  rcases h with h | h
  · refine (check_fresh b w h.cell0 h.shape h.frozen0).mono ?_
    rintro e w' ⟨rfl, rfl⟩
    exact ⟨rfl, h.used _, (Below.refl B w).setCell (p := ⟨b, 0, none⟩) h.1 _⟩
  · refine (check_used b w h.cell0).mono ?_
    rintro e w' ⟨rfl, rfl⟩
    exact ⟨rfl, h, Below.refl B _⟩

set_option maxHeartbeats 2000000 in
set_option maxRecDepth 100000 in
theorem writeString_walk (B b : Nat) (bs : List Value) (s : ByteArray) (w : World) (h : Lib.IsBuilder 144 5 B b bs w) (hlen : bs.length + s.size ≤ 140737488355328) (hBw : B ≤ w.heap.size) :
    Calls Tryd.prog 79 #[.pointer (some ⟨b, 0, none⟩), .string s] w fun e w' => e = .returned (.tuple #[.int .i64 s.size, .nilIface]) ∧ (Lib.BuilderAt 144 5 B b (.pointer (some ⟨b, 0, none⟩)) (bs ++ Lib.strCells s) w' ∧ Below B w w') := by
  obtain ⟨i0, hi, hz0, hz1, hz2⟩ := info_parts info5
  go_enter Tryd.func79, Tryd.ntmps79
  go_wp2_with (go_at_call 90; refine (check_walk B b bs _ h).mono ?_)
  rintro e w1 ⟨rfl, h1, hb1⟩
  obtain ⟨hB, v, hbk, hown, hne⟩ := h1
  have c0 : w1.cell? ⟨b, 0, none⟩ = some (.pointer (some ⟨b, 0, none⟩)) := by rw [Lib.cell_of_heap hbk]; rfl
  have c1 : w1.cell? ⟨b, 1, none⟩ = some v := by rw [Lib.cell_of_heap hbk]; rfl
  go_wp2_with (at_builtin; refine Lib.wpList_append_own_string _ rfl _ _ 50 9 rfl B 5 i0 Tryd.underlying50 Tryd.underlying9 hi hz0 hz1 hz2 _ _ _ rfl hown s rfl ?c3 ?c4 ?c5 ?_)
  case c3 => unfold maxLen; omega
  case c4 => omega
  case c5 => have := hb1.size; omega
  intro v' w2 hown' hgrow _
  have hlt : b < w1.heap.size := by
    rcases Nat.lt_or_ge b w1.heap.size with h' | h'
    · exact h'
    · simp [Array.getElem?_eq_none h'] at hbk
  have hb2 : w2.heap[b]? = some (.cells #[.pointer (some ⟨b, 0, none⟩), v] 144 (0, 0)) := by
    rw [hgrow.block b hlt (fun e => hne e.symm)]
    exact hbk
  have d0 : w2.cell? ⟨b, 0, none⟩ = some (.pointer (some ⟨b, 0, none⟩)) := by rw [Lib.cell_of_heap hb2]; rfl
  have d1 : w2.cell? ⟨b, 1, none⟩ = some v := by rw [Lib.cell_of_heap hb2]; rfl
  have f1 : w2.frozen? ⟨b, 1, none⟩ = false := Lib.frozen_of_heap hb2 1
  obtain ⟨ao, n', cap, rfl⟩ : ∃ ao n' cap, v' = .slice ao n' cap := by
    rcases hown'.2 with ⟨hv, _⟩ | ⟨g, cap, cur, hv, _⟩
    · exact ⟨_, _, _, hv⟩
    · exact ⟨_, _, _, hv⟩
  go_wp2
  go_ret2
  refine ⟨rfl, ?_, ?_⟩
  · exact Lib.BuilderAt.put (T := 144) (e := 5) hB hb2 (bs' := bs ++ Lib.strCells s) (by simpa [Lib.strCells_length] using hown') (by decide)
  · exact (hb1.grown hgrow (by have := hb1.size; omega) (fun k hk => (hown.lt k hk).1)).setCell (p := ⟨b, 1, none⟩) hB _

theorem builder_below {B b : Nat} {p : Value} {bs : List Value} {w w' : World} (h : Lib.BuilderAt 144 5 B b p bs w) (hb : Below w.heap.size w w') : Lib.BuilderAt 144 5 B b p bs w' := by
  have hlt := h.lt
  obtain ⟨h1, v, hbk, hown, hne⟩ := h
  refine ⟨h1, v, (hb.block b hlt).trans hbk, ?_, hne⟩
  refine hown.kept (row := none) ⟨hb.os, hb.tape, hb.output, hb.size, fun k hk _ => hb.block k hk⟩ ?_
  cases v.ownBlock with
  | none => exact .inl rfl
  | some x => exact .inr (by simp)
theorem isBuilder_below {B b : Nat} {bs : List Value} {w w' : World} (h : Lib.IsBuilder 144 5 B b bs w) (hb : Below w.heap.size w w') : Lib.IsBuilder 144 5 B b bs w' := by
  rcases h with h | h
  · exact .inl (builder_below h hb)
  · exact .inr (builder_below h hb)
theorem str_bytes (l : List UInt8) : Lib.strCells ⟨l.toArray⟩ = Lib.byteCells l := by simp [Lib.strCells, Lib.byteCells]
theorem builder_new (w : World) : Lib.IsBuilder 144 5 w.heap.size w.heap.size [] (w.alloc (.cells #[.pointer none, .slice none 0 0] 144)) :=
  .inl ⟨Nat.le_refl _, .slice none 0 0, heap_alloc_new w _, World.ownsRow_nil _ _ _ _, by simp [Value.ownBlock]⟩

/-- The table of the powers of ten, as long as what was there below stays. -/
abbrev Tab (w : World) : Prop := Lib.TabBelow Tryd.prog w.heap.size w "internal/strconv.uint64pow10" .u64 Lib.pow10Tab
theorem Tab.below {w w' : World} (h : Tab w) (hb : Below w.heap.size w w') : Tab w' := fun w2 h2 => h w2 (hb.trans (h2.mono hb.size))

def Fits (v : Int) : Prop := -9223372036854775808 ≤ v ∧ v ≤ 9223372036854775807

set_option maxHeartbeats 4000000 in
set_option maxRecDepth 100000 in
theorem point_walk (done : Int) (v : Value) (l : List Int) (w : World) (hd : Fits done) (h : Nums w v l) (hl : l.length ≤ 4000000) (hf : ∀ x ∈ l, Fits x) (ht : Tab w) :
    Calls Tryd.prog 60 #[.int .i64 done, v] w fun e w' => e = .returned (.string ⟨(pointS done l).toArray⟩) ∧ Below w.heap.size w w' := by
  obtain ⟨ao, c, rfl, h⟩ := h
  have H := Lib.hid h
  have HF := Lib.hid hf
  have HT := Lib.hid ht
  have HB0 : Hid (Below w.heap.size w (w.alloc (.cells #[.pointer none, .slice none 0 0] 144))) := (Below.refl _ _).alloc (Nat.le_refl _) _
  have HBN := Lib.hid (builder_new w)
  have HD := Lib.hid hd
  have HI := Lib.hid (fun W hW => Tryd.strconv_Itoa done hd.1 hd.2 W (ht W hW))
  clear h hf ht hd
  have hsz : w.heap.size ≤ (w.alloc (.cells #[.pointer none, .slice none 0 0] 144)).heap.size := by simp
  go_enter Tryd.func60, Tryd.ntmps60
  go_wp2_with fail
  generalize w.alloc (.cells #[.pointer none, .slice none 0 0] 144) = w1 at *
  generalize hN : w.heap.size = N at *
  have HN := Lib.hid hN
  clear hN
  refine (HI.out w1 HB0.out).mono ?_
  rintro e w2 ⟨rfl, k, os, rfl⟩
  have hbg := Lib.below_grow w1.heap.size w1 (Nat.le_refl _) k os
  have HB2 := Lib.hid (HB0.out.trans (hbg.mono hsz))
  have HBI := Lib.hid (isBuilder_below HBN.out hbg)
  have hsz2 : N ≤ (Sort.grow (w1.drewN k) os).heap.size := Nat.le_trans hsz hbg.size
  clear hbg
  generalize Sort.grow (w1.drewN k) os = w2 at *
  go_wp2_with fail
  refine (writeString_walk N N [] _ w2 HBI.out ?_ hsz2).mono ?_
  · have := itoa_len HD.out.1 HD.out.2
    simp [ByteArray.size]
    omega
  rintro e w3 ⟨rfl, hbu, hb3⟩
  have HBU : Hid (Lib.BuilderAt 144 5 N N (.pointer (some ⟨N, 0, none⟩)) (Lib.byteCells (pointS done [])) w3) := by
    have := hbu
    rw [str_bytes] at this
    have e : pointS done [] = Lib.itoa done := by simp [pointS, numsS]
    rw [e]
    simp only [List.nil_append] at this
    exact this
  have HB3 := Lib.hid (HB2.out.trans hb3)
  have hsz3 : N ≤ w3.heap.size := Nat.le_trans hsz2 hb3.size
  clear hbu hb3
  go_wp2_with fail
  go_loopw [13] (fun jv wr => ∃ j : Nat, j ≤ l.length ∧ jv = .int .i64 j ∧ Lib.BuilderAt 144 5 N N (.pointer (some ⟨N, 0, none⟩)) (Lib.byteCells (pointS done (l.take j))) wr ∧ Below N w wr ∧ N ≤ wr.heap.size) (fun jv _ => l.length - (intOf jv).toNat)
  case atStart => exact ⟨0, by omega, rfl, by simpa using HBU.out, HB3.out, hsz3⟩
  case round =>
    obtain ⟨j, hj, rfl, hbu, hb, hs⟩ := hrel
    have HBU := Lib.hid hbu
    have HB := Lib.hid hb
    by_cases hlt : j < l.length
    · obtain ⟨g, o, rfl, hc⟩ : ∃ g o, ao = some ⟨g, o, none⟩ ∧ ∀ i, i < l.length → w.cell? ⟨g, o + i, none⟩ = some (.int .i64 (l.getD i 0)) := by
        rcases H.out with h | h
        · rw [h] at hlt; simp at hlt
        · exact h
      have h1 : wr.cell? ⟨g, o + j, none⟩ = some (.int .i64 (l.getD j 0)) := (hb.cell (p := ⟨g, o + j, none⟩) (by rw [← HN.out]; exact World.block_lt_of_cell? w _ (hc j hlt))).trans (hc j hlt)
      have hfx : Fits (l.getD j 0) := HF.out _ (by simp [List.getD, List.getElem?_eq_getElem hlt])
      have HTK : Hid (l.take (j + 1) = l.take j ++ [l.getD j 0]) := by
        have := List.take_add_one (l := l) (i := j)
        show l.take (j + 1) = l.take j ++ [l.getD j 0]
        rw [this]
        simp [List.getD, List.getElem?_eq_getElem hlt]
      have HI2 := Lib.hid (fun W hW => Tryd.strconv_FormatInt_10 (l.getD j 0) hfx.1 hfx.2 W (HT.out W hW))
      rw [HN.out] at HI2
      have HFX := Lib.hid hfx
      have HLN : Hid ((pointS done (l.take j)).length ≤ 88000021) := by
        have h1 := itoa_len HD.out.1 HD.out.2
        have h2 := numsS_len (s := l.take j) (fun x hx => HF.out x (List.mem_of_mem_take hx))
        have h3 : (l.take j).length ≤ l.length := by simp; omega
        show (pointS done (l.take j)).length ≤ 88000021
        simp only [pointS, List.length_append]
        omega
      clear hc hfx hbu hb
      generalize l.getD j 0 = x at *
      go_wp2_with fail
      refine (HI2.out wr HB.out).mono ?_
      rintro e w4 ⟨rfl, k4, os4, rfl⟩
      have hbg := Lib.below_grow wr.heap.size wr (Nat.le_refl _) k4 os4
      have HB4 := Lib.hid (HB.out.trans (hbg.mono hs))
      have HBU4 := Lib.hid (builder_below HBU.out hbg)
      have hs4 : N ≤ (Sort.grow (wr.drewN k4) os4).heap.size := Nat.le_trans hs hbg.size
      clear hbg
      generalize Sort.grow (wr.drewN k4) os4 = w4 at *
      have HL21 := Lib.hid (itoa_len HFX.out.1 HFX.out.2)
      have hle : 1 + (Lib.itoa x).length ≤ 9223372036854775807 := by have := HL21.out; omega
      go_wp2_with fail
      refine (writeString_walk N N _ _ w4 (.inr HBU4.out) ?_ hs4).mono ?_
      · have h1 := HL21.out
        have h2 := HLN.out
        simp only [Lib.byteCells, List.length_map]
        simp [ByteArray.size]
        omega
      rintro e w5 ⟨rfl, hbu, hb5⟩
      have HBU5 : Hid (Lib.BuilderAt 144 5 N N (.pointer (some ⟨N, 0, none⟩)) (Lib.byteCells (pointS done (l.take (j + 1)))) w5) := by
        have e1 : (⟨#[32]⟩ ++ ⟨(Lib.itoa x).toArray⟩ : ByteArray) = ⟨(32 :: Lib.itoa x).toArray⟩ := by
          apply ByteArray.ext
          simp
        rw [e1, str_bytes] at hbu
        have e2 : pointS done (l.take (j + 1)) = pointS done (l.take j) ++ (32 :: Lib.itoa x) := by rw [HTK.out, pointS, numsS_snoc, pointS, List.append_assoc]
        rw [e2]
        have e3 : Lib.byteCells (pointS done (l.take j) ++ (32 :: Lib.itoa x)) = Lib.byteCells (pointS done (l.take j)) ++ Lib.byteCells (32 :: Lib.itoa x) := by simp [Lib.byteCells]
        rw [e3]
        exact hbu
      have HB5 := Lib.hid (HB4.out.trans hb5)
      have hs5 : N ≤ w5.heap.size := Nat.le_trans hs4 hb5.size
      clear hbu hb5
      go_wp2_with fail
      go_roundw
      case rel => exact ⟨j + 1, by omega, by go_num, HBU5.out, HB5.out, hs5⟩
      case measure => simp [intOf]; omega
    · obtain rfl : j = l.length := by omega
      have HBU6 : Hid (Lib.BuilderAt 144 5 N N (.pointer (some ⟨N, 0, none⟩)) (Lib.byteCells (pointS done l)) wr) := by
        have := HBU.out
        rw [List.take_length] at this
        exact this
      clear hbu hb
      go_wp2_with fail
      refine (Tryd.Builder_String_any N N _ wr (.inr HBU6.out) hs).mono ?_
      rintro e w7 ⟨rfl, hb7⟩
      have HB7 := Lib.hid (HB.out.trans hb7)
      go_wp2_with fail
      go_ret
      exact ⟨rfl, by rw [HN.out]; exact HB7.out⟩
end Go.Proofs.YtfcaebceklhbkaaDoor
