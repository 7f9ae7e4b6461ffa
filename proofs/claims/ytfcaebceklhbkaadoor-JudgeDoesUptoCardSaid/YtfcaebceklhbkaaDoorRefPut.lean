/-
  The contracts of the document's put, without, rising.
-/
import Derived.Test.YtfcaebceklhbkaaDoorOnMem
import Derived.Test.YtfcaebceklhbkaaDoorSameA
namespace Go.Proofs.YtfcaebceklhbkaaDoor
open Go.RowKit
set_option linter.unusedVariables false

def nmV (l : List Int) : List Value := l.map (Value.int .i64)
theorem nmV_snoc (l : List Int) (a : Int) : nmV (l ++ [a]) = nmV l ++ [.int .i64 a] := by simp [nmV]

/-- A row of numbers of the call's own, what lies below as it was. -/
structure NSt (w0 : World) (N : Nat) (l : List Int) (v : Value) (w : World) : Prop where
  row : w.ownsRow N 2 1 v l.length (nmV l)
  low : Below N w0 w
  nw : N ≤ w.heap.size
theorem NSt.app {w0 wr w1 : World} {N : Nat} {l : List Int} {v v' : Value} {a : Int} {o : Obj} (h : NSt w0 N l v wr) (ha : Appended (wr.alloc o) N 2 1 v l.length 1 (nmV l ++ [.int .i64 a]) v' w1) : NSt w0 N (l ++ [a]) v' w1 := by
  obtain ⟨h1, h2, _⟩ := ha
  have hs := h2.size
  have := h.nw
  simp at hs
  exact ⟨by rw [nmV_snoc]; simpa using h1, (h.low.alloc h.nw _).grown h2 (by simp; omega) (fun k hk => (h.row.lt k hk).1), by omega⟩
theorem NSt.own {w0 wr : World} {N : Nat} {l : List Int} {v : Value} (h : NSt w0 N l v wr) (a : Int) : (wr.alloc (.cells #[.int .i64 a] 2)).ownsRow N 2 1 v l.length (nmV l) := h.row.alloc _
theorem NSt.src {wr : World} (a : Int) : SrcOf (wr.alloc (.cells #[.int .i64 a] 2)) 1 (.slice (some ⟨wr.heap.size, 0, none⟩) 1 1) 1 [.int .i64 a] :=
  src_one0 wr #[.int .i64 a] 2 1 rfl (by intro u hu; simp at hu; subst hu; rfl)
theorem NSt.base {w0 wr : World} {N : Nat} {l : List Int} {v : Value} (h : NSt w0 N l v wr) (o : Obj) : N ≤ (wr.alloc o).heap.size := by
  have := h.nw
  simp
  omega
/-- What a call that makes a list of numbers answers. -/
def DoneN (l : List Int) (w : World) (e : Ending) (w' : World) : Prop := ∃ v, e = .returned v ∧ w'.ownsRow w.heap.size 2 1 v l.length (nmV l) ∧ Below w.heap.size w w'

/-- put, place by place. -/
def putAt (l : List Int) (v : Int) : Nat → List Int × Bool
  | 0 => ([], false)
  | j + 1 => if (l.getD j 0) = v then ((putAt l v j).1 ++ [l.getD j 0], true) else if l.getD j 0 > v ∧ (putAt l v j).2 = false then ((putAt l v j).1 ++ [v] ++ [l.getD j 0], true) else ((putAt l v j).1 ++ [l.getD j 0], (putAt l v j).2)
def putR (l : List Int) (v : Int) : List Int := if (putAt l v l.length).2 = true then (putAt l v l.length).1 else (putAt l v l.length).1 ++ [v]
theorem putAt_length (l : List Int) (v : Int) : ∀ j, (putAt l v j).1.length ≤ j + (if (putAt l v j).2 then 1 else 0)
  | 0 => by simp [putAt]
  | j + 1 => by
    have := putAt_length l v j
    simp only [putAt]
    split
    · split at this <;> simp <;> omega
    · split
      · rename_i h
        rw [h.2] at this
        simp at this ⊢
        omega
      · split at this <;> simp_all <;> omega

set_option maxRecDepth 100000 in
set_option maxHeartbeats 8000000 in
theorem put_walk (v0 : Value) (l : List Int) (v : Int) (w : World) (h : Nums w v0 l) (hl : l.length ≤ 4000000) :
    Calls Tryd.prog 46 #[v0, .int .i64 v] w (DoneN (putR l v) w) := by
  obtain ⟨i0, hi0, hz0, hz1, hz2⟩ := info_parts info2
  obtain ⟨ao, c, rfl, h⟩ := h
  have H0 := Lib.hid h
  clear h
  generalize hN : w.heap.size = N at *
  have HN := Lib.hid hN
  generalize hn : l.length = n at *
  have HLN := Lib.hid hn
  clear hN hn
  go_enter Tryd.func46, Tryd.ntmps46
  go_wp2_with fail
  go_loopw [5, 6, 7] (fun rv dv jv wr => ∃ j : Nat, j ≤ n ∧ jv = .int .i64 j ∧ dv = .bool (putAt l v j).2 ∧ NSt w N (putAt l v j).1 rv wr) (fun _ _ jv _ => n - (intOf jv).toNat)
  case atStart => exact ⟨0, by omega, rfl, rfl, World.ownsRow_nil _ _ _ _, Below.refl _ _, by have := HN.out; omega⟩
  case round =>
    obtain ⟨j, hj, rfl, rfl, hR⟩ := hrel
    have HR := Lib.hid hR
    have hlen : (putAt l v j).1.length ≤ 4000001 := by
      have := putAt_length l v j
      split at this <;> omega
    by_cases hlt : j < n
    · obtain ⟨g, o, rfl, hc⟩ : ∃ g o, ao = some ⟨g, o, none⟩ ∧ w.cell? ⟨g, o + j, none⟩ = some (.int .i64 (l.getD j 0)) := by
        rcases H0.out with h | ⟨g, o, h1, h2⟩
        · have := HLN.out; subst h; simp at this; omega
        · exact ⟨g, o, h1, h2 j hlt⟩
      have hcr : wr.cell? ⟨g, o + j, none⟩ = some (.int .i64 (l.getD j 0)) := (hR.low.cell (p := ⟨g, o + j, none⟩) (by rw [← HN.out]; exact World.block_lt_of_cell? w _ hc)).trans hc
      have HS : Hid (putAt l v (j + 1) = if (l.getD j 0) = v then ((putAt l v j).1 ++ [l.getD j 0], true) else if l.getD j 0 > v ∧ (putAt l v j).2 = false then ((putAt l v j).1 ++ [v] ++ [l.getD j 0], true) else ((putAt l v j).1 ++ [l.getD j 0], (putAt l v j).2)) := rfl
      have HCB := Lib.hid (fun w' (hb : Below N w w') => (hb.cell (p := ⟨g, o + j, none⟩) (by rw [← HN.out]; exact World.block_lt_of_cell? w _ hc)).trans hc)
      clear hR hc
      generalize (putAt l v j).1 = r at *
      generalize (putAt l v j).2 = d at *
      generalize l.getD j 0 = x at *
      by_cases hxv : x = v
      · have HS2 := Lib.hid (show putAt l v (j + 1) = (r ++ [x], true) from by rw [hid_eq HS, if_pos hxv])
        have hgt : ¬ x > v := by omega
        clear HS
        subst hxv
        have HOW := Lib.hid (HR.out.own x)
        have HSX := Lib.hid (NSt.src (wr := wr) x)
        have HAP := Lib.hid (fun v' w' ha => HR.out.app (a := x) (o := .cells #[.int .i64 x] 2) (v' := v') (w1 := w') ha)
        have HBS := Lib.hid (HR.out.base (.cells #[.int .i64 x] 2))
        go_wp2_with (at_builtin; go_must (refine wpList_append_row rfl (.tmp 34) (.tmp 39) 22 rfl N 2 i0 _ 1 8 Tryd.underlying22 hi0 hz0 hz1 (by decide) hz2 rfl u5 r.length (nmV r) rfl HOW.out 1 [.int .i64 x] HSX.out ?l2 ?b2 ?n2 ?_); go_must (case l2 => (unfold maxLen; omega)); go_must (case b2 => omega); go_must (case n2 => exact HBS.out); intro v' w' ha; have HA := Lib.hid (HAP.out _ _ ha); clear ha)
        go_roundw
        case rel => exact ⟨j + 1, by omega, by go_num, by rw [HS2.out], by rw [HS2.out]; exact HA.out⟩
        case measure => simp [intOf]; omega
      · have hxv' : (x == v) = false := by rw [beq_eq_false_iff_ne]; exact hxv
        by_cases hgt : x > v
        · cases d with
          | false =>
            have HS2 := Lib.hid (show putAt l v (j + 1) = (r ++ [v] ++ [x], true) from by rw [hid_eq HS, if_neg hxv, if_pos ⟨hgt, rfl⟩])
            clear HS
            have HOW := Lib.hid (HR.out.own v)
            have HSX := Lib.hid (NSt.src (wr := wr) v)
            have HAP := Lib.hid (fun v' w' ha => HR.out.app (a := v) (o := .cells #[.int .i64 v] 2) (v' := v') (w1 := w') ha)
            have HBS := Lib.hid (HR.out.base (.cells #[.int .i64 v] 2))
            go_wp2_with (first
              | (at_builtin; refine wpList_append_row rfl (.tmp 30) (.tmp 32) 22 rfl N 2 i0 _ 1 8 Tryd.underlying22 hi0 hz0 hz1 (by decide) hz2 rfl u5 r.length (nmV r) rfl HOW.out 1 [.int .i64 v] HSX.out ?l2 ?b2 ?n2 ?_; go_must (case l2 => (unfold maxLen; omega)); go_must (case b2 => omega); go_must (case n2 => exact HBS.out); intro v8 w8 ha; have HA8 := Lib.hid (HAP.out _ _ ha); clear ha; have hcr8 := HCB.out w8 HA8.out.low; have HOW8 := Lib.hid (HA8.out.own x); have HSX8 := Lib.hid (NSt.src (wr := w8) x); have HBS8 := Lib.hid (HA8.out.base (.cells #[.int .i64 x] 2)); have hln8 : (r ++ [v]).length ≤ 4000002 := by simp; omega)
              | (at_builtin; go_must (refine wpList_append_row rfl (.tmp 34) (.tmp 39) 22 rfl N 2 i0 _ 1 8 Tryd.underlying22 hi0 hz0 hz1 (by decide) hz2 rfl v8 (r ++ [v]).length (nmV (r ++ [v])) rfl HOW8.out 1 [.int .i64 x] HSX8.out ?l2 ?b2 ?n2 ?_); go_must (case l2 => (unfold maxLen; omega)); go_must (case b2 => omega); go_must (case n2 => exact HBS8.out); intro v9 w9 ha; have HA9 := Lib.hid (HA8.out.app (a := x) (o := .cells #[.int .i64 x] 2) (v' := v9) (w1 := w9) ha); clear ha))
            go_roundw
            case rel => exact ⟨j + 1, by omega, by go_num, by rw [HS2.out], by rw [HS2.out]; exact HA9.out⟩
            case measure => simp [intOf]; omega
          | true =>
            have HS2 := Lib.hid (show putAt l v (j + 1) = (r ++ [x], true) from by rw [hid_eq HS, if_neg hxv, if_neg (by simp)])
            clear HS
            have HOW := Lib.hid (HR.out.own x)
            have HSX := Lib.hid (NSt.src (wr := wr) x)
            have HAP := Lib.hid (fun v' w' ha => HR.out.app (a := x) (o := .cells #[.int .i64 x] 2) (v' := v') (w1 := w') ha)
            have HBS := Lib.hid (HR.out.base (.cells #[.int .i64 x] 2))
            go_wp2_with (at_builtin; go_must (refine wpList_append_row rfl (.tmp 34) (.tmp 39) 22 rfl N 2 i0 _ 1 8 Tryd.underlying22 hi0 hz0 hz1 (by decide) hz2 rfl u5 r.length (nmV r) rfl HOW.out 1 [.int .i64 x] HSX.out ?l2 ?b2 ?n2 ?_); go_must (case l2 => (unfold maxLen; omega)); go_must (case b2 => omega); go_must (case n2 => exact HBS.out); intro v' w' ha; have HA := Lib.hid (HAP.out _ _ ha); clear ha)
            go_roundw
            case rel => exact ⟨j + 1, by omega, by go_num, by rw [HS2.out], by rw [HS2.out]; exact HA.out⟩
            case measure => simp [intOf]; omega
        · have HS2 := Lib.hid (show putAt l v (j + 1) = (r ++ [x], d) from by rw [hid_eq HS, if_neg hxv, if_neg (fun h => hgt h.1)])
          clear HS
          have HOW := Lib.hid (HR.out.own x)
          have HSX := Lib.hid (NSt.src (wr := wr) x)
          have HAP := Lib.hid (fun v' w' ha => HR.out.app (a := x) (o := .cells #[.int .i64 x] 2) (v' := v') (w1 := w') ha)
          have HBS := Lib.hid (HR.out.base (.cells #[.int .i64 x] 2))
          go_wp2_with (at_builtin; go_must (refine wpList_append_row rfl (.tmp 34) (.tmp 39) 22 rfl N 2 i0 _ 1 8 Tryd.underlying22 hi0 hz0 hz1 (by decide) hz2 rfl u5 r.length (nmV r) rfl HOW.out 1 [.int .i64 x] HSX.out ?l2 ?b2 ?n2 ?_); go_must (case l2 => (unfold maxLen; omega)); go_must (case b2 => omega); go_must (case n2 => exact HBS.out); intro v' w' ha; have HA := Lib.hid (HAP.out _ _ ha); clear ha)
          go_roundw
          case rel => exact ⟨j + 1, by omega, by go_num, by rw [HS2.out], by rw [HS2.out]; exact HA.out⟩
          case measure => simp [intOf]; omega
    · obtain rfl : j = n := by omega
      have HPR : Hid (putR l v = if (putAt l v j).2 = true then (putAt l v j).1 else (putAt l v j).1 ++ [v]) := by rw [← HLN.out]; rfl
      clear hR
      generalize (putAt l v j).1 = r at *
      generalize (putAt l v j).2 = d at *
      cases d with
      | true =>
        have HX := Lib.hid (show putR l v = r from by rw [hid_eq HPR, if_pos rfl])
        clear HPR
        go_wp2_with fail
        go_ret
        exact ⟨_, rfl, by rw [HX.out, HN.out]; exact HR.out.row, by rw [HN.out]; exact HR.out.low⟩
      | false =>
        have HX := Lib.hid (show putR l v = r ++ [v] from by rw [hid_eq HPR, if_neg (by simp)])
        clear HPR
        have HOW := Lib.hid (HR.out.own v)
        have HSX := Lib.hid (NSt.src (wr := wr) v)
        have HAP := Lib.hid (fun v' w' ha => HR.out.app (a := v) (o := .cells #[.int .i64 v] 2) (v' := v') (w1 := w') ha)
        have HBS := Lib.hid (HR.out.base (.cells #[.int .i64 v] 2))
        go_wp2_with (at_builtin; go_must (refine wpList_append_row rfl (.tmp 43) (.tmp 45) 22 rfl N 2 i0 _ 1 8 Tryd.underlying22 hi0 hz0 hz1 (by decide) hz2 rfl u5 r.length (nmV r) rfl HOW.out 1 [.int .i64 v] HSX.out ?l2 ?b2 ?n2 ?_); go_must (case l2 => (unfold maxLen; omega)); go_must (case b2 => omega); go_must (case n2 => exact HBS.out); intro v' w' ha; have HA := Lib.hid (HAP.out _ _ ha); clear ha)
        go_ret
        exact ⟨_, rfl, by rw [HX.out, HN.out]; exact HA.out.row, by rw [HN.out]; exact HA.out.low⟩

/-- without, place by place. -/
def woAt (l : List Int) (v : Int) : Nat → List Int
  | 0 => []
  | j + 1 => woAt l v j ++ (if l.getD j 0 = v then [] else [l.getD j 0])
theorem woAt_length (l : List Int) (v : Int) : ∀ j, (woAt l v j).length ≤ j
  | 0 => by simp [woAt]
  | j + 1 => by
    have := woAt_length l v j
    simp only [woAt]
    split <;> simp <;> omega
theorem woAt_take (l : List Int) (v : Int) : ∀ j, j ≤ l.length → woAt l v j = (l.take j).filter (· ≠ v)
  | 0, _ => by simp [woAt]
  | j + 1, h => by
    rw [List.take_add_one, List.getElem?_eq_getElem (show j < l.length by omega), List.filter_append, ← woAt_take l v j (by omega)]
    simp only [woAt, List.getD_eq_getElem?_getD, List.getElem?_eq_getElem (show j < l.length by omega), Option.getD_some, Option.toList_some]
    by_cases e : l[j] = v <;> simp [e]
theorem woAt_all (l : List Int) (v : Int) : woAt l v l.length = l.filter (· ≠ v) := by
  rw [woAt_take l v _ (Nat.le_refl _), List.take_length]

set_option maxRecDepth 100000 in
set_option maxHeartbeats 8000000 in
theorem without_walk (v0 : Value) (l : List Int) (v : Int) (w : World) (h : Nums w v0 l) (hl : l.length ≤ 4000000) :
    Calls Tryd.prog 47 #[v0, .int .i64 v] w (DoneN (l.filter (· ≠ v)) w) := by
  obtain ⟨i0, hi0, hz0, hz1, hz2⟩ := info_parts info2
  obtain ⟨ao, c, rfl, h⟩ := h
  have H0 := Lib.hid h
  clear h
  have HW := Lib.hid (woAt_all l v)
  generalize l.filter (· ≠ v) = R at *
  generalize hN : w.heap.size = N at *
  have HN := Lib.hid hN
  generalize hn : l.length = n at *
  have HLN := Lib.hid hn
  clear hN hn
  go_enter Tryd.func47, Tryd.ntmps47
  go_wp2_with fail
  go_loopw [5, 6] (fun rv jv wr => ∃ j : Nat, j ≤ n ∧ jv = .int .i64 j ∧ NSt w N (woAt l v j) rv wr) (fun _ jv _ => n - (intOf jv).toNat)
  case atStart => exact ⟨0, by omega, rfl, World.ownsRow_nil _ _ _ _, Below.refl _ _, by have := HN.out; omega⟩
  case round =>
    obtain ⟨j, hj, rfl, hR⟩ := hrel
    have HR := Lib.hid hR
    have hlen : (woAt l v j).length ≤ 4000001 := by
      have := woAt_length l v j
      omega
    by_cases hlt : j < n
    · obtain ⟨g, o, rfl, hc⟩ : ∃ g o, ao = some ⟨g, o, none⟩ ∧ w.cell? ⟨g, o + j, none⟩ = some (.int .i64 (l.getD j 0)) := by
        rcases H0.out with h | ⟨g, o, h1, h2⟩
        · have := HLN.out; subst h; simp at this; omega
        · exact ⟨g, o, h1, h2 j hlt⟩
      have hcr : wr.cell? ⟨g, o + j, none⟩ = some (.int .i64 (l.getD j 0)) := (hR.low.cell (p := ⟨g, o + j, none⟩) (by rw [← HN.out]; exact World.block_lt_of_cell? w _ hc)).trans hc
      have HS : Hid (woAt l v (j + 1) = woAt l v j ++ (if l.getD j 0 = v then [] else [l.getD j 0])) := rfl
      clear hR hc
      generalize woAt l v j = r at *
      generalize l.getD j 0 = x at *
      by_cases hxv : x = v
      · have HS2 := Lib.hid (show woAt l v (j + 1) = r from by rw [hid_eq HS, if_pos hxv, List.append_nil])
        clear HS
        subst hxv
        go_wp2_with fail
        go_roundw
        case rel => exact ⟨j + 1, by omega, by go_num, by rw [HS2.out]; exact HR.out⟩
        case measure => simp [intOf]; omega
      · have hxv' : (x == v) = false := by rw [beq_eq_false_iff_ne]; exact hxv
        have HS2 := Lib.hid (show woAt l v (j + 1) = r ++ [x] from by rw [hid_eq HS, if_neg hxv])
        clear HS
        have HOW := Lib.hid (HR.out.own x)
        have HSX := Lib.hid (NSt.src (wr := wr) x)
        have HAP := Lib.hid (fun v' w' ha => HR.out.app (a := x) (o := .cells #[.int .i64 x] 2) (v' := v') (w1 := w') ha)
        have HBS := Lib.hid (HR.out.base (.cells #[.int .i64 x] 2))
        go_wp2_with (at_builtin; go_must (refine wpList_append_row rfl (.tmp 19) (.tmp 24) 22 rfl N 2 i0 _ 1 8 Tryd.underlying22 hi0 hz0 hz1 (by decide) hz2 rfl u5 r.length (nmV r) rfl HOW.out 1 [.int .i64 x] HSX.out ?l2 ?b2 ?n2 ?_); go_must (case l2 => (unfold maxLen; omega)); go_must (case b2 => omega); go_must (case n2 => exact HBS.out); intro v' w' ha; have HA := Lib.hid (HAP.out _ _ ha); clear ha)
        go_roundw
        case rel => exact ⟨j + 1, by omega, by go_num, by rw [HS2.out]; exact HA.out⟩
        case measure => simp [intOf]; omega
    · obtain rfl : j = n := by omega
      have HX : Hid (woAt l v j = R) := HW.out
      clear hR
      go_wp2_with fail
      go_ret
      exact ⟨_, rfl, by rw [← HX.out, HN.out]; exact HR.out.row, by rw [HN.out]; exact HR.out.low⟩

/-- rising, place by place. -/
def riAt (l : List Int) : Nat → List Int
  | 0 => []
  | j + 1 => putR (riAt l j) (l.getD j 0)
theorem putR_length (l : List Int) (v : Int) : (putR l v).length ≤ l.length + 1 := by
  have := putAt_length l v l.length
  unfold putR
  split
  · rename_i h
    rw [h] at this
    simpa using this
  · rename_i h
    simp only [Bool.not_eq_true] at h
    rw [h] at this
    simp at this ⊢
    omega
theorem riAt_length (l : List Int) : ∀ j, (riAt l j).length ≤ j
  | 0 => by simp [riAt]
  | j + 1 => by
    have h1 := riAt_length l j
    have h2 := putR_length (riAt l j) (l.getD j 0)
    simp only [riAt]
    omega
theorem nums_of_row {w : World} {N : Nat} {v : Value} {l : List Int} (h : w.ownsRow N 2 1 v l.length (nmV l)) : Nums w v l := (owned_nums h).nums

set_option maxRecDepth 100000 in
set_option maxHeartbeats 8000000 in
theorem rising_walk (v0 : Value) (l : List Int) (w : World) (h : Nums w v0 l) (hl : l.length ≤ 4000000) :
    Calls Tryd.prog 45 #[v0] w (DoneN (riAt l l.length) w) := by
  obtain ⟨ao, c, rfl, h⟩ := h
  have H0 := Lib.hid h
  clear h
  generalize hN : w.heap.size = N at *
  have HN := Lib.hid hN
  generalize hn : l.length = n at *
  have HLN := Lib.hid hn
  clear hN hn
  go_enter Tryd.func45, Tryd.ntmps45
  go_wp2_with fail
  go_loopw [3, 4] (fun rv jv wr => ∃ j : Nat, j ≤ n ∧ jv = .int .i64 j ∧ NSt w N (riAt l j) rv wr) (fun _ jv _ => n - (intOf jv).toNat)
  case atStart => exact ⟨0, by omega, rfl, World.ownsRow_nil _ _ _ _, Below.refl _ _, by have := HN.out; omega⟩
  case round =>
    obtain ⟨j, hj, rfl, hR⟩ := hrel
    have HR := Lib.hid hR
    have hlen : (riAt l j).length ≤ 4000000 := by
      have := riAt_length l j
      omega
    by_cases hlt : j < n
    · obtain ⟨g, o, rfl, hc⟩ : ∃ g o, ao = some ⟨g, o, none⟩ ∧ w.cell? ⟨g, o + j, none⟩ = some (.int .i64 (l.getD j 0)) := by
        rcases H0.out with h | ⟨g, o, h1, h2⟩
        · have := HLN.out; subst h; simp at this; omega
        · exact ⟨g, o, h1, h2 j hlt⟩
      have hcr : wr.cell? ⟨g, o + j, none⟩ = some (.int .i64 (l.getD j 0)) := (hR.low.cell (p := ⟨g, o + j, none⟩) (by rw [← HN.out]; exact World.block_lt_of_cell? w _ hc)).trans hc
      have HS : Hid (riAt l (j + 1) = putR (riAt l j) (l.getD j 0)) := rfl
      clear hR hc
      generalize riAt l j = r at *
      generalize l.getD j 0 = x at *
      go_wp2_with fail
      refine (put_walk u3 r x wr (nums_of_row HR.out.row) hlen).mono ?_
      rintro e w2 ⟨v2, rfl, hr2, hb2⟩
      have HN2 : Hid (NSt w N (putR r x) v2 w2) := ⟨own_base hr2 HR.out.nw, HR.out.low.trans (hb2.mono HR.out.nw), Nat.le_trans HR.out.nw hb2.size⟩
      clear hr2 hb2
      go_wp2_with fail
      go_roundw
      case rel => exact ⟨j + 1, by omega, by go_num, by rw [hid_eq HS]; exact HN2.out⟩
      case measure => simp [intOf]; omega
    · obtain rfl : j = n := by omega
      clear hR
      go_wp2_with fail
      go_ret
      exact ⟨_, rfl, by rw [HN.out]; exact HR.out.row, by rw [HN.out]; exact HR.out.low⟩
end Go.Proofs.YtfcaebceklhbkaaDoor
