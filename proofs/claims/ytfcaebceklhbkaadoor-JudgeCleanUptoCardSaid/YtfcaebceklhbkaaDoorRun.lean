/-
  The contracts of judge.Run and of the document's Run: the faults of a run, in a row of the call's own.
-/
import Derived.Test.YtfcaebceklhbkaaDoorOwn
namespace Go.Proofs.YtfcaebceklhbkaaDoor
open Go.RowKit
set_option linter.unusedVariables false

/-- What was seen: its sequence; its item's writer, number, value. -/
structure Seen4 where
  q : Int
  a : Int
  b : Int
  d : Int
deriving Inhabited
/-- A fault: its kind, its reader, its place, its sequence, what was wanted. -/
structure Flt where
  k : Int
  r : Int
  i : Int
  q : Int
  w : Int
def Flt.cells (f : Flt) : List Value := [.int .i64 f.k, .int .i64 f.r, .int .i64 f.i, .int .i64 f.q, .int .i64 f.w]
def fcells (l : List Flt) : List Value := l.flatMap Flt.cells
theorem fcells_length (l : List Flt) : (fcells l).length = l.length * 5 := by
  induction l with
  | nil => rfl
  | cons f l ih => simp only [fcells, List.flatMap_cons, List.length_append, List.length_cons] at *; rw [ih]; simp [Flt.cells]; omega
theorem fcells_snoc (l : List Flt) (f : Flt) : fcells (l ++ [f]) = fcells l ++ f.cells := by simp [fcells]

/-- A slice of what was seen, as it reads. -/
def SeenRow (w : World) (ao : Option Addr) (S : List Seen4) : Prop :=
  S = [] ∨ ∃ g o, ao = some ⟨g, o, none⟩ ∧ ∀ i, i < S.length → w.cell? ⟨g, o + i * 4, none⟩ = some (.int .i64 (S.getD i default).q) ∧ w.cell? ⟨g, o + i * 4 + 1, none⟩ = some (.int .i64 (S.getD i default).a) ∧
    w.cell? ⟨g, o + i * 4 + 2, none⟩ = some (.int .i64 (S.getD i default).b) ∧ w.cell? ⟨g, o + i * 4 + 3, none⟩ = some (.int .i64 (S.getD i default).d)

theorem SeenRow.below {w w' : World} {ao : Option Addr} {S : List Seen4} (h : SeenRow w ao S) (hb : Below w.heap.size w w') : SeenRow w' ao S := by
  rcases h with h | ⟨g, o, e, hc⟩
  · exact .inl h
  · refine .inr ⟨g, o, e, fun i hi => ?_⟩
    obtain ⟨h1, h2, h3, h4⟩ := hc i hi
    exact ⟨(hb.cell (p := ⟨g, o + i * 4, none⟩) (World.block_lt_of_cell? w _ h1)).trans h1, (hb.cell (p := ⟨g, o + i * 4 + 1, none⟩) (World.block_lt_of_cell? w _ h2)).trans h2,
      (hb.cell (p := ⟨g, o + i * 4 + 2, none⟩) (World.block_lt_of_cell? w _ h3)).trans h3, (hb.cell (p := ⟨g, o + i * 4 + 3, none⟩) (World.block_lt_of_cell? w _ h4)).trans h4⟩

/-- The kind of a fault at place j, where x was wanted. -/
def runKind (S : List Seen4) (j : Nat) (x : Int) : Int :=
  if (S.getD j default).q > x then 1 else if (S.getD j default).q < x then (if 0 < j ∧ (S.getD (j - 1) default).q = (S.getD j default).q then 2 else 3) else 0
/-- What has been told behind j places, and what is wanted next. -/
def runAt (S : List Seen4) (x : Int) : Nat → List Flt × Int
  | 0 => ([], x)
  | j + 1 => ((runAt S x j).1 ++ (if runKind S j (runAt S x j).2 = 0 then [] else [⟨runKind S j (runAt S x j).2, 0, j, (S.getD j default).q, (runAt S x j).2⟩]), wrap64 ((S.getD j default).q + 1))
def runF (S : List Seen4) (x : Int) : List Flt := (runAt S x S.length).1

theorem runAt_length (S : List Seen4) (x : Int) : ∀ j, (runAt S x j).1.length ≤ j
  | 0 => by simp [runAt]
  | j + 1 => by
    have := runAt_length S x j
    simp only [runAt]
    split <;> simp <;> omega

/-- What a call that makes a list of faults answers: its row, new; nothing that was there has changed. -/
def DoneF (e5 : TypeId) (l : List Flt) (w : World) (e : Ending) (w' : World) : Prop :=
  ∃ v, e = .returned v ∧ w'.ownsRow w.heap.size e5 5 v l.length (fcells l) ∧ Below w.heap.size w w'

theorem info77 : (Tryd.prog.info? 77).map (fun i => (i.zero, i.size, i.bytes)) = some (some (.agg #[.int .i64 0, .int .i64 0, .int .i64 0, .int .i64 0, .int .i64 0]), 5, 40) := by kernel_rfl
theorem info107 : (Tryd.prog.info? 107).map (fun i => (i.zero, i.size, i.bytes)) = some (some (.agg #[.int .i64 0, .int .i64 0, .int .i64 0, .int .i64 0, .int .i64 0]), 5, 40) := by kernel_rfl

theorem info_parts {P : Program} {t : TypeId} {z : Value} {k b : Nat} (h : (P.info? t).map (fun i => (i.zero, i.size, i.bytes)) = some (some z, k, b)) : ∃ i, P.info? t = some i ∧ i.zero = some z ∧ i.size = k ∧ i.bytes = b := by
  cases e : P.info? t with
  | none => rw [e] at h; cases h
  | some i =>
    rw [e] at h
    simp at h
    exact ⟨i, rfl, h.1, h.2.1, h.2.2⟩

/-- An appended fault: the row and the world. -/
theorem row_add {w0 wr w1 : World} {N e5 : Nat} {v v' : Value} {l : List Flt} {f : Flt} {o : Obj} (hb : Below N w0 wr) (hN : N ≤ wr.heap.size) (h : wr.ownsRow N e5 5 v l.length (fcells l))
    (ha : Appended (wr.alloc o) N e5 5 v l.length 1 (fcells l ++ f.cells) v' w1) : w1.ownsRow N e5 5 v' (l ++ [f]).length (fcells (l ++ [f])) ∧ Below N w0 w1 ∧ N ≤ w1.heap.size := by
  obtain ⟨h1, h2, _⟩ := ha
  have hs := h2.size
  simp at hs
  refine ⟨by rw [fcells_snoc]; simpa using h1, (hb.alloc hN _).grown h2 (by simp; omega) (fun k hk => (h.lt k hk).1), by omega⟩

/-- One element of k cells, laid behind another block, as append takes it. -/
theorem src_one (w : World) (o1 : Obj) (cs : Array Value) (T k : Nat) (hk : cs.size = k) (h1 : ∀ u ∈ cs.toList, u.oneCell' = true) :
    SrcOf ((w.alloc o1).alloc (.cells cs T)) k (.slice (some ⟨w.heap.size + 1, 0, none⟩) 1 1) 1 cs.toList := by
  refine ⟨by simpa using hk, h1, .inr ⟨⟨w.heap.size + 1, 0, none⟩, 1, rfl, fun j u hu => ?_⟩⟩
  have := cells_new (w.alloc o1) cs T j u hu
  rwa [show (w.alloc o1).heap.size = w.heap.size + 1 by simp] at this
theorem src_one0 (w : World) (cs : Array Value) (T k : Nat) (hk : cs.size = k) (h1 : ∀ u ∈ cs.toList, u.oneCell' = true) :
    SrcOf (w.alloc (.cells cs T)) k (.slice (some ⟨w.heap.size, 0, none⟩) 1 1) 1 cs.toList :=
  ⟨by simpa using hk, h1, .inr ⟨⟨w.heap.size, 0, none⟩, 1, rfl, fun j u hu => cells_new w cs T j u hu⟩⟩
theorem flt_one (f : Flt) : ∀ u ∈ f.cells, u.oneCell' = true := by intro u hu; simp [Flt.cells] at hu; rcases hu with rfl | rfl | rfl | rfl | rfl <;> rfl

theorem hid_eq {α : Sort _} {a b : α} (h : Hid (a = b)) : a = b := h.out
set_option maxRecDepth 100000 in
set_option maxHeartbeats 600000000000 in
theorem run_walk (ao : Option Addr) (n c : Nat) (S : List Seen4) (x : Int) (w : World) (h0 : SeenRow w ao S) (hSn : S.length = n) (hn : n ≤ 300000000000) :
    Calls Tryd.prog 24 #[.slice ao n c, .int .i64 x] w (DoneF 77 (runF S x) w) := by
  obtain ⟨i0, hi0, hz0, hz1, hz2⟩ := info_parts info77
  have H0 := Lib.hid h0
  have HSn := Lib.hid hSn
  clear h0 hSn
  generalize hN : w.heap.size = N at *
  have HN := Lib.hid hN
  clear hN
  go_enter Tryd.func24, Tryd.ntmps24
  go_wp2_with fail
  go_loopw [5, 6, 14] (fun v xv jv wr => ∃ j : Nat, j ≤ n ∧ jv = .int .i64 j ∧ xv = .int .i64 (runAt S x j).2 ∧ wr.ownsRow N 77 5 v (runAt S x j).1.length (fcells (runAt S x j).1) ∧ Below N w wr ∧ N ≤ wr.heap.size) (fun _ _ jv _ => n - (intOf jv).toNat)
  case atStart => exact ⟨0, by omega, rfl, rfl, World.ownsRow_nil _ _ _ _, Below.refl _ _, by have := HN.out; omega⟩
  case round =>
    obtain ⟨j, hj, rfl, rfl, hR, hB, hW⟩ := hrel
    have HR := Lib.hid hR
    have HB := Lib.hid hB
    have hlen := runAt_length S x j
    clear hR hB
    by_cases hlt : j < n
    · have hrow := H0.out.below (HB.out.mono (by have := HN.out; omega))
      obtain ⟨g, o, rfl, hc⟩ : ∃ g o, ao = some ⟨g, o, none⟩ ∧ ∀ i, i < n → wr.cell? ⟨g, o + i * 4, none⟩ = some (.int .i64 (S.getD i default).q) ∧ wr.cell? ⟨g, o + i * 4 + 1, none⟩ = some (.int .i64 (S.getD i default).a) ∧
          wr.cell? ⟨g, o + i * 4 + 2, none⟩ = some (.int .i64 (S.getD i default).b) ∧ wr.cell? ⟨g, o + i * 4 + 3, none⟩ = some (.int .i64 (S.getD i default).d) := by
        rcases hrow with h | ⟨g, o, h1, h2⟩
        · have := HSn.out; subst h; simp at this; omega
        · exact ⟨g, o, h1, by rw [← HSn.out]; exact h2⟩
      obtain ⟨c1, c2, c3, c4⟩ := hc j hlt
      have HC := Lib.hid hc
      clear hc hrow
      have HS : Hid (runAt S x (j + 1) = ((runAt S x j).1 ++ (if runKind S j (runAt S x j).2 = 0 then [] else [⟨runKind S j (runAt S x j).2, 0, j, (S.getD j default).q, (runAt S x j).2⟩]), wrap64 ((S.getD j default).q + 1))) := rfl
      have HK : Hid (runKind S j (runAt S x j).2 = if (S.getD j default).q > (runAt S x j).2 then 1 else if (S.getD j default).q < (runAt S x j).2 then (if 0 < j ∧ (S.getD (j - 1) default).q = (S.getD j default).q then 2 else 3) else 0) := rfl
      generalize (runAt S x j).1 = l at *
      generalize (runAt S x j).2 = y at *
      generalize runKind S j y = k at *
      have HSQ : Hid ((S.getD j default).q = (S.getD j default).q) := rfl
      generalize hq0 : (S.getD j default).q = q at *
      generalize (S.getD j default).a = a at *
      generalize (S.getD j default).b = b at *
      generalize (S.getD j default).d = d at *
      clear HSQ hq0
      rcases (by omega : q = y ∨ y < q ∨ (q < y ∧ j = 0) ∨ (q < y ∧ 0 < j)) with hq | hq | ⟨hq, hj0⟩ | ⟨hq, hj0⟩
      · subst hq
        have hk : k = 0 := by rw [HK.out]; simp
        have HS2 := Lib.hid (show runAt S x (j + 1) = (l, wrap64 (q + 1)) from by rw [hid_eq HS, hk]; simp)
        clear HK HS hk
        go_wp2_with fail
        go_roundw
        case rel => exact ⟨j + 1, by omega, by go_num, by rw [HS2.out], by rw [HS2.out]; exact HR.out.alloc _, HB.out.alloc hW _, by simp; omega⟩
        case measure => simp [intOf]; omega
      · have hk : k = 1 := by rw [HK.out]; simp; omega
        have HS2 := Lib.hid (show runAt S x (j + 1) = (l ++ [⟨k, 0, j, q, y⟩], wrap64 (q + 1)) from by rw [hid_eq HS, if_neg (by omega)])
        subst hk
        have HSX := Lib.hid (src_one wr (.cells #[.int .i64 q, .int .i64 a, .int .i64 b, .int .i64 d] 75) (Flt.cells ⟨1, 0, j, q, y⟩).toArray 77 5 rfl (flt_one _))
        have HOW := Lib.hid ((HR.out.alloc (.cells #[.int .i64 q, .int .i64 a, .int .i64 b, .int .i64 d] 75)).alloc (.cells (Flt.cells ⟨1, 0, j, q, y⟩).toArray 77))
        have HAD := Lib.hid (fun v' w' ha => row_add (f := ⟨1, 0, j, q, y⟩) (o := .cells (Flt.cells ⟨1, 0, j, q, y⟩).toArray 77) (v' := v') (w1 := w') (HB.out.alloc hW (.cells #[.int .i64 q, .int .i64 a, .int .i64 b, .int .i64 d] 75)) (by simp; omega) (HR.out.alloc (.cells #[.int .i64 q, .int .i64 a, .int .i64 b, .int .i64 d] 75)) ha)
        clear HK HS HC
        go_wp2_with (at_builtin; go_must (refine wpList_append_row rfl (.tmp 49) (.tmp 55) 58 rfl N 77 i0 _ 5 40 Tryd.underlying58 hi0 hz0 hz1 (by decide) hz2 rfl u5 l.length (fcells l) rfl HOW.out 1 (Flt.cells ⟨1, 0, j, q, y⟩) HSX.out ?l2 ?b2 ?n2 ?_); go_must (case l2 => (unfold maxLen; omega)); go_must (case b2 => omega); go_must (case n2 => (simp; omega)); intro v' w' ha; go_must (obtain ⟨hr1, hr2, hr3⟩ := HAD.out _ _ ha); have HR1 := Lib.hid hr1; have HR2 := Lib.hid hr2; clear hr1 hr2 ha)
        go_roundw
        case rel => exact ⟨j + 1, by omega, by go_num, by rw [HS2.out], by rw [HS2.out]; exact HR1.out, HR2.out, hr3⟩
        case measure => simp [intOf]; omega
      · have hk : k = 3 := by rw [HK.out, if_neg (by omega), if_pos hq, if_neg (fun h => by omega)]
        have hd0 : (j : Int) < 1 := by omega
        have HJ0 := Lib.hid hj0
        clear hj0
        have HS2 := Lib.hid (show runAt S x (j + 1) = (l ++ [⟨k, 0, j, q, y⟩], wrap64 (q + 1)) from by rw [hid_eq HS, if_neg (by omega)])
        subst hk
        have HSX := Lib.hid (src_one wr (.cells #[.int .i64 q, .int .i64 a, .int .i64 b, .int .i64 d] 75) (Flt.cells ⟨3, 0, j, q, y⟩).toArray 77 5 rfl (flt_one _))
        have HOW := Lib.hid ((HR.out.alloc (.cells #[.int .i64 q, .int .i64 a, .int .i64 b, .int .i64 d] 75)).alloc (.cells (Flt.cells ⟨3, 0, j, q, y⟩).toArray 77))
        have HAD := Lib.hid (fun v' w' ha => row_add (f := ⟨3, 0, j, q, y⟩) (o := .cells (Flt.cells ⟨3, 0, j, q, y⟩).toArray 77) (v' := v') (w1 := w') (HB.out.alloc hW (.cells #[.int .i64 q, .int .i64 a, .int .i64 b, .int .i64 d] 75)) (by simp; omega) (HR.out.alloc (.cells #[.int .i64 q, .int .i64 a, .int .i64 b, .int .i64 d] 75)) ha)
        clear HK HS HC
        go_wp2_with (at_builtin; go_must (refine wpList_append_row rfl (.tmp 49) (.tmp 55) 58 rfl N 77 i0 _ 5 40 Tryd.underlying58 hi0 hz0 hz1 (by decide) hz2 rfl u5 l.length (fcells l) rfl HOW.out 1 (Flt.cells ⟨3, 0, j, q, y⟩) HSX.out ?l2 ?b2 ?n2 ?_); go_must (case l2 => (unfold maxLen; omega)); go_must (case b2 => omega); go_must (case n2 => (simp; omega)); intro v' w' ha; go_must (obtain ⟨hr1, hr2, hr3⟩ := HAD.out _ _ ha); have HR1 := Lib.hid hr1; have HR2 := Lib.hid hr2; clear hr1 hr2 ha)
        go_roundw
        case rel => exact ⟨j + 1, by omega, by go_num, by rw [HS2.out], by rw [HS2.out]; exact HR1.out, HR2.out, hr3⟩
        case measure => simp [intOf]; omega
      · have hcp0 := (HC.out (j - 1) (by omega)).1
        have hcp : (wr.alloc (.cells #[.int .i64 q, .int .i64 a, .int .i64 b, .int .i64 d] 75)).cell? ⟨g, o + (j - 1) * 4, none⟩ = some (.int .i64 (S.getD (j - 1) default).q) :=
          (World.cell?_of_block (w := wr) (a := ⟨g, o + (j - 1) * 4, none⟩) (Below.heap_alloc _ _ _ (World.block_lt_of_cell? wr _ hcp0))).trans hcp0
        clear hcp0
        by_cases hqq : (S.getD (j - 1) default).q = q
        · rw [hqq] at hcp
          have hk : k = 2 := by rw [HK.out, if_neg (by omega), if_pos hq, if_pos ⟨hj0, hqq⟩]
          clear hqq
          have HS2 := Lib.hid (show runAt S x (j + 1) = (l ++ [⟨k, 0, j, q, y⟩], wrap64 (q + 1)) from by rw [hid_eq HS, if_neg (by omega)])
          subst hk
          have HSX := Lib.hid (src_one wr (.cells #[.int .i64 q, .int .i64 a, .int .i64 b, .int .i64 d] 75) (Flt.cells ⟨2, 0, j, q, y⟩).toArray 77 5 rfl (flt_one _))
          have HOW := Lib.hid ((HR.out.alloc (.cells #[.int .i64 q, .int .i64 a, .int .i64 b, .int .i64 d] 75)).alloc (.cells (Flt.cells ⟨2, 0, j, q, y⟩).toArray 77))
          have HAD := Lib.hid (fun v' w' ha => row_add (f := ⟨2, 0, j, q, y⟩) (o := .cells (Flt.cells ⟨2, 0, j, q, y⟩).toArray 77) (v' := v') (w1 := w') (HB.out.alloc hW (.cells #[.int .i64 q, .int .i64 a, .int .i64 b, .int .i64 d] 75)) (by simp; omega) (HR.out.alloc (.cells #[.int .i64 q, .int .i64 a, .int .i64 b, .int .i64 d] 75)) ha)
          clear HK HS HC
          go_wp2_with (at_builtin; go_must (refine wpList_append_row rfl (.tmp 49) (.tmp 55) 58 rfl N 77 i0 _ 5 40 Tryd.underlying58 hi0 hz0 hz1 (by decide) hz2 rfl u5 l.length (fcells l) rfl HOW.out 1 (Flt.cells ⟨2, 0, j, q, y⟩) HSX.out ?l2 ?b2 ?n2 ?_); go_must (case l2 => (unfold maxLen; omega)); go_must (case b2 => omega); go_must (case n2 => (simp; omega)); intro v' w' ha; go_must (obtain ⟨hr1, hr2, hr3⟩ := HAD.out _ _ ha); have HR1 := Lib.hid hr1; have HR2 := Lib.hid hr2; clear hr1 hr2 ha)
          go_roundw
          case rel => exact ⟨j + 1, by omega, by go_num, by rw [HS2.out], by rw [HS2.out]; exact HR1.out, HR2.out, hr3⟩
          case measure => simp [intOf]; omega
        · have hk : k = 3 := by rw [HK.out, if_neg (by omega), if_pos hq, if_neg (fun h => hqq h.2)]
          generalize (S.getD (j - 1) default).q = qp at *
          have HS2 := Lib.hid (show runAt S x (j + 1) = (l ++ [⟨k, 0, j, q, y⟩], wrap64 (q + 1)) from by rw [hid_eq HS, if_neg (by omega)])
          subst hk
          have HSX := Lib.hid (src_one wr (.cells #[.int .i64 q, .int .i64 a, .int .i64 b, .int .i64 d] 75) (Flt.cells ⟨3, 0, j, q, y⟩).toArray 77 5 rfl (flt_one _))
          have HOW := Lib.hid ((HR.out.alloc (.cells #[.int .i64 q, .int .i64 a, .int .i64 b, .int .i64 d] 75)).alloc (.cells (Flt.cells ⟨3, 0, j, q, y⟩).toArray 77))
          have HAD := Lib.hid (fun v' w' ha => row_add (f := ⟨3, 0, j, q, y⟩) (o := .cells (Flt.cells ⟨3, 0, j, q, y⟩).toArray 77) (v' := v') (w1 := w') (HB.out.alloc hW (.cells #[.int .i64 q, .int .i64 a, .int .i64 b, .int .i64 d] 75)) (by simp; omega) (HR.out.alloc (.cells #[.int .i64 q, .int .i64 a, .int .i64 b, .int .i64 d] 75)) ha)
          clear HK HS HC
          go_wp2_with (at_builtin; go_must (refine wpList_append_row rfl (.tmp 49) (.tmp 55) 58 rfl N 77 i0 _ 5 40 Tryd.underlying58 hi0 hz0 hz1 (by decide) hz2 rfl u5 l.length (fcells l) rfl HOW.out 1 (Flt.cells ⟨3, 0, j, q, y⟩) HSX.out ?l2 ?b2 ?n2 ?_); go_must (case l2 => (unfold maxLen; omega)); go_must (case b2 => omega); go_must (case n2 => (simp; omega)); intro v' w' ha; go_must (obtain ⟨hr1, hr2, hr3⟩ := HAD.out _ _ ha); have HR1 := Lib.hid hr1; have HR2 := Lib.hid hr2; clear hr1 hr2 ha)
          go_roundw
          case rel => exact ⟨j + 1, by omega, by go_num, by rw [HS2.out], by rw [HS2.out]; exact HR1.out, HR2.out, hr3⟩
          case measure => simp [intOf]; omega
    · obtain rfl : j = n := by omega
      go_wp2_with fail
      go_ret
      have h := HR.out
      exact ⟨_, rfl, by rw [runF, HSn.out, HN.out]; exact h, by rw [HN.out]; exact HB.out⟩
end Go.Proofs.YtfcaebceklhbkaaDoor
