/-
  Merged out of: RefOne RefPut Row RefRow Insert.
-/
import Derived.Test.YtfcaebceklhbkaaDoorSingle
import Derived.Test.YtfcaebceklhbkaaDoorOnMem
import Derived.Test.YtfcaebceklhbkaaDoorSameA
import Derived.Test.YtfcaebceklhbkaaDoorDoOne
import Derived.Shelf.Spec.SlicesInsertGrow
/-
  The contracts of the document's number and one. Printed in part out of YtfcaebceklhbkaaDoorSingle.lean.
-/
namespace Go.Proofs.YtfcaebceklhbkaaDoor
open Go.RowKit
set_option linter.unusedVariables false

theorem refNumber_walk (v : Value) (l : List Int) (w : World) (h : Nums w v l) (hl : l.length ≤ 4000000) :
    Calls Tryd.prog 42 #[v] w fun e w' => e = .returned (.int .i64 (l.headD 0)) ∧ w' = w := by
  obtain ⟨ao, c, rfl, h⟩ := h
  cases l with
  | nil =>
    clear h
    go_enter Tryd.func42, Tryd.ntmps42
    go_wp2_with fail
    go_ret
    exact ⟨rfl, rfl⟩
  | cons x l =>
    obtain ⟨g, o, rfl, hc⟩ : ∃ g o, ao = some ⟨g, o, none⟩ ∧ ∀ i, i < (x :: l).length → w.cell? ⟨g, o + i, none⟩ = some (.int .i64 ((x :: l).getD i 0)) := by
      rcases h with h | h
      · cases h
      · exact h
    have h0 := hc 0 (by simp)
    simp only [List.getD_cons_zero, Nat.add_zero] at h0
    clear hc h
    simp only [List.length_cons] at hl ⊢
    generalize hn : l.length + 1 = n at *
    have hn1 : 0 < n := by omega
    clear hn
    have hx : (n : Int) ≠ 0 := by omega
    have hx2 : ((n : Int) == 0) = false := by rw [beq_eq_false_iff_ne]; exact hx
    go_enter Tryd.func42, Tryd.ntmps42
    go_wp2_with fail
    go_ret
    exact ⟨rfl, rfl⟩


theorem fin_one {r0 r : Int × Bool × Int} {w : World} {cs : Array Value} {X : Obj} {act : Act} (hd : act.defers = []) (h7 : act.tmps.getD 7 undef = .pointer (some ⟨w.heap.size + 1, 0, none⟩)) (h6 : act.tmps.getD 6 undef = .int .i64 r.1)
    (w' : World) (hw : w' = (w.alloc X).alloc (.cells cs 26) ∨ ∃ n, w' = ((w.alloc X).alloc (.cells cs 26)).drewN n) (hcs : cs = #[.bool r.2.1, .int .i64 r.2.2, .slice none 0 0]) (hr : r0 = r) :
    bodyPost Tryd.prog Tryd.f43 (DoneS r0 w) .ret act w' := by
  have hc : ∀ i, w'.cell? ⟨w.heap.size + 1, i, none⟩ = cs[i]? := by
    intro i
    rcases hw with rfl | ⟨n, rfl⟩
    · exact cell_two _ _ _ _ _
    · exact cell_two _ _ _ _ _
  have hb : Below w.heap.size w w' := by
    rcases hw with rfl | ⟨n, rfl⟩
    · exact below_two _ _ _
    · exact (below_two _ _ _).trans ⟨rfl, rfl, rfl, Nat.le_refl _, fun _ _ => rfl⟩
  subst hcs hr
  obtain ⟨tmps, defers⟩ := act
  subst hd
  have hr := results_tmp_cell (fn := Tryd.f43) (p := 7) (u := 6) (ty := 26) rfl tmps Tryd.prog w' _ ⟨w.heap.size + 1, 0, none⟩ h7 (load_ans w' _ _ _ _ (hc 0) (hc 1) (hc 2))
  rw [h6] at hr
  exact bodyPost_ret hr rfl ⟨rfl, hb⟩

set_option maxRecDepth 100000 in
set_option maxHeartbeats 4000000 in
theorem refOne_walk (o v k a b c : Int) (w : World) (ho : o = 1 ∨ o = 2) : Calls Tryd.prog 43 #[.int .i64 o, .int .i64 v, opV k a b c] w (DoneS (singleF o v k a b) w) := by
  have H : Hid (singleF o v k a b = if k = 1 then (v, true, v) else if k = 2 ∧ o = 1 then (a, true, 0) else if k = 2 then (wrap64 (v + a), true, wrap64 (v + a)) else if k = 3 ∧ o = 2 then (0, true, v) else if k = 3 ∧ v = a then (b, true, 0) else (v, false, 0)) := rfl
  unfold opV
  go_enter Tryd.func43, Tryd.ntmps43
  go_wp2_with fail
  all_goals (try (go_region; go_wp2_with fail))
  all_goals (try simp only [Exit.inBlock, Exit.then])
  all_goals (try simp only [Exit.inBlock, Exit.then])
  all_goals (clear H)
  all_goals (first
    | (refine fin_one (r := (v, true, v)) rfl rfl rfl _ (.inl rfl) rfl ?_; unfold singleF; simp_all; done)
    | (refine fin_one (r := (a, true, 0)) rfl rfl rfl _ (.inl rfl) rfl ?_; unfold singleF; simp_all; done)
    | (refine fin_one (r := (wrap64 (v + a), true, wrap64 (v + a))) rfl rfl rfl _ (.inr ⟨1, rfl⟩) rfl ?_; unfold singleF; simp_all; done)
    | (refine fin_one (r := (0, true, v)) rfl rfl rfl _ (.inl rfl) rfl ?_; unfold singleF; simp_all; done)
    | (refine fin_one (r := (b, true, 0)) rfl rfl rfl _ (.inl rfl) rfl ?_; unfold singleF; simp_all; done)
    | (refine fin_one (r := (v, false, 0)) rfl rfl rfl _ (.inl rfl) rfl ?_; unfold singleF; rcases ho with rfl | rfl <;> simp_all; done)
    | (refine fin_one (r := (v, false, 0)) rfl rfl rfl _ (.inl rfl) rfl ?_; unfold singleF; simp_all; done))
end Go.Proofs.YtfcaebceklhbkaaDoor

/-
  The contracts of the document's put, without, rising.
-/
namespace Go.Proofs.YtfcaebceklhbkaaDoor
open Go.RowKit
set_option linter.unusedVariables false

def nmV (l : List Int) : List Value := l.map (Value.int .i64)
theorem nmV_snoc (l : List Int) (a : Int) : nmV (l ++ [a]) = nmV l ++ [.int .i64 a] := by simp [nmV]

/-- A row of numbers of the call's own, what lies below as it was. -/
structure NSt (w0 : World) (N : Nat) (l : List Int) (v : Value) (w : World) : Prop where
  row : w.ownsRow N 2 1 v l.length (nmV l)
  low : Below N w0 w
  nw : N ≤ w.heap.size
theorem NSt.app {w0 wr w1 : World} {N : Nat} {l : List Int} {v v' : Value} {a : Int} {o : Obj} (h : NSt w0 N l v wr) (ha : Appended (wr.alloc o) N 2 1 v l.length 1 (nmV l ++ [.int .i64 a]) v' w1) : NSt w0 N (l ++ [a]) v' w1 := by
  obtain ⟨h1, h2, _⟩ := ha
  have hs := h2.size
  have := h.nw
  simp at hs
  exact ⟨by rw [nmV_snoc]; simpa using h1, (h.low.alloc h.nw _).grown h2 (by simp; omega) (fun k hk => (h.row.lt k hk).1), by omega⟩
theorem NSt.own {w0 wr : World} {N : Nat} {l : List Int} {v : Value} (h : NSt w0 N l v wr) (a : Int) : (wr.alloc (.cells #[.int .i64 a] 2)).ownsRow N 2 1 v l.length (nmV l) := h.row.alloc _
theorem NSt.src {wr : World} (a : Int) : SrcOf (wr.alloc (.cells #[.int .i64 a] 2)) 1 (.slice (some ⟨wr.heap.size, 0, none⟩) 1 1) 1 [.int .i64 a] :=
  src_one0 wr #[.int .i64 a] 2 1 rfl (by intro u hu; simp at hu; subst hu; rfl)
theorem NSt.base {w0 wr : World} {N : Nat} {l : List Int} {v : Value} (h : NSt w0 N l v wr) (o : Obj) : N ≤ (wr.alloc o).heap.size := by
  have := h.nw
  simp
  omega
/-- What a call that makes a list of numbers answers. -/
def DoneN (l : List Int) (w : World) (e : Ending) (w' : World) : Prop := ∃ v, e = .returned v ∧ w'.ownsRow w.heap.size 2 1 v l.length (nmV l) ∧ Below w.heap.size w w'

/-- put, place by place. -/
def putAt (l : List Int) (v : Int) : Nat → List Int × Bool
  | 0 => ([], false)
  | j + 1 => if (l.getD j 0) = v then ((putAt l v j).1 ++ [l.getD j 0], true) else if l.getD j 0 > v ∧ (putAt l v j).2 = false then ((putAt l v j).1 ++ [v] ++ [l.getD j 0], true) else ((putAt l v j).1 ++ [l.getD j 0], (putAt l v j).2)
def putR (l : List Int) (v : Int) : List Int := if (putAt l v l.length).2 = true then (putAt l v l.length).1 else (putAt l v l.length).1 ++ [v]
theorem putAt_length (l : List Int) (v : Int) : ∀ j, (putAt l v j).1.length ≤ j + (if (putAt l v j).2 then 1 else 0)
  | 0 => by simp [putAt]
  | j + 1 => by
    have := putAt_length l v j
    simp only [putAt]
    split
    · split at this <;> simp <;> omega
    · split
      · rename_i h
        rw [h.2] at this
        simp at this ⊢
        omega
      · split at this <;> simp_all <;> omega

set_option maxRecDepth 100000 in
set_option maxHeartbeats 8000000 in
theorem put_walk (v0 : Value) (l : List Int) (v : Int) (w : World) (h : Nums w v0 l) (hl : l.length ≤ 4000000) :
    Calls Tryd.prog 46 #[v0, .int .i64 v] w (DoneN (putR l v) w) := by
  obtain ⟨i0, hi0, hz0, hz1, hz2⟩ := info_parts info2
  obtain ⟨ao, c, rfl, h⟩ := h
  have H0 := Lib.hid h
  clear h
  generalize hN : w.heap.size = N at *
  have HN := Lib.hid hN
  generalize hn : l.length = n at *
  have HLN := Lib.hid hn
  clear hN hn
  go_enter Tryd.func46, Tryd.ntmps46
  go_wp2_with fail
  go_loopw [5, 6, 7] (fun rv dv jv wr => ∃ j : Nat, j ≤ n ∧ jv = .int .i64 j ∧ dv = .bool (putAt l v j).2 ∧ NSt w N (putAt l v j).1 rv wr) (fun _ _ jv _ => n - (intOf jv).toNat)
  case atStart => exact ⟨0, by omega, rfl, rfl, World.ownsRow_nil _ _ _ _, Below.refl _ _, by have := HN.out; omega⟩
  case round =>
    obtain ⟨j, hj, rfl, rfl, hR⟩ := hrel
    have HR := Lib.hid hR
    have hlen : (putAt l v j).1.length ≤ 4000001 := by
      have := putAt_length l v j
      split at this <;> omega
    by_cases hlt : j < n
    · obtain ⟨g, o, rfl, hc⟩ : ∃ g o, ao = some ⟨g, o, none⟩ ∧ w.cell? ⟨g, o + j, none⟩ = some (.int .i64 (l.getD j 0)) := by
        rcases H0.out with h | ⟨g, o, h1, h2⟩
        · have := HLN.out; subst h; simp at this; omega
        · exact ⟨g, o, h1, h2 j hlt⟩
      have hcr : wr.cell? ⟨g, o + j, none⟩ = some (.int .i64 (l.getD j 0)) := (hR.low.cell (p := ⟨g, o + j, none⟩) (by rw [← HN.out]; exact World.block_lt_of_cell? w _ hc)).trans hc
      have HS : Hid (putAt l v (j + 1) = if (l.getD j 0) = v then ((putAt l v j).1 ++ [l.getD j 0], true) else if l.getD j 0 > v ∧ (putAt l v j).2 = false then ((putAt l v j).1 ++ [v] ++ [l.getD j 0], true) else ((putAt l v j).1 ++ [l.getD j 0], (putAt l v j).2)) := rfl
      have HCB := Lib.hid (fun w' (hb : Below N w w') => (hb.cell (p := ⟨g, o + j, none⟩) (by rw [← HN.out]; exact World.block_lt_of_cell? w _ hc)).trans hc)
      clear hR hc
      generalize (putAt l v j).1 = r at *
      generalize (putAt l v j).2 = d at *
      generalize l.getD j 0 = x at *
      by_cases hxv : x = v
      · have HS2 := Lib.hid (show putAt l v (j + 1) = (r ++ [x], true) from by rw [hid_eq HS, if_pos hxv])
        have hgt : ¬ x > v := by omega
        clear HS
        subst hxv
        have HOW := Lib.hid (HR.out.own x)
        have HSX := Lib.hid (NSt.src (wr := wr) x)
        have HAP := Lib.hid (fun v' w' ha => HR.out.app (a := x) (o := .cells #[.int .i64 x] 2) (v' := v') (w1 := w') ha)
        have HBS := Lib.hid (HR.out.base (.cells #[.int .i64 x] 2))
        go_wp2_with (at_builtin; go_must (refine wpList_append_row rfl (.tmp 34) (.tmp 39) 22 rfl N 2 i0 _ 1 8 Tryd.underlying22 hi0 hz0 hz1 (by decide) hz2 rfl u5 r.length (nmV r) rfl HOW.out 1 [.int .i64 x] HSX.out ?l2 ?b2 ?n2 ?_); go_must (case l2 => (unfold maxLen; omega)); go_must (case b2 => omega); go_must (case n2 => exact HBS.out); intro v' w' ha; have HA := Lib.hid (HAP.out _ _ ha); clear ha)
        go_roundw
        case rel => exact ⟨j + 1, by omega, by go_num, by rw [HS2.out], by rw [HS2.out]; exact HA.out⟩
        case measure => simp [intOf]; omega
      · have hxv' : (x == v) = false := by rw [beq_eq_false_iff_ne]; exact hxv
        by_cases hgt : x > v
        · cases d with
          | false =>
            have HS2 := Lib.hid (show putAt l v (j + 1) = (r ++ [v] ++ [x], true) from by rw [hid_eq HS, if_neg hxv, if_pos ⟨hgt, rfl⟩])
            clear HS
            have HOW := Lib.hid (HR.out.own v)
            have HSX := Lib.hid (NSt.src (wr := wr) v)
            have HAP := Lib.hid (fun v' w' ha => HR.out.app (a := v) (o := .cells #[.int .i64 v] 2) (v' := v') (w1 := w') ha)
            have HBS := Lib.hid (HR.out.base (.cells #[.int .i64 v] 2))
            go_wp2_with (first
              | (at_builtin; refine wpList_append_row rfl (.tmp 30) (.tmp 32) 22 rfl N 2 i0 _ 1 8 Tryd.underlying22 hi0 hz0 hz1 (by decide) hz2 rfl u5 r.length (nmV r) rfl HOW.out 1 [.int .i64 v] HSX.out ?l2 ?b2 ?n2 ?_; go_must (case l2 => (unfold maxLen; omega)); go_must (case b2 => omega); go_must (case n2 => exact HBS.out); intro v8 w8 ha; have HA8 := Lib.hid (HAP.out _ _ ha); clear ha; have hcr8 := HCB.out w8 HA8.out.low; have HOW8 := Lib.hid (HA8.out.own x); have HSX8 := Lib.hid (NSt.src (wr := w8) x); have HBS8 := Lib.hid (HA8.out.base (.cells #[.int .i64 x] 2)); have hln8 : (r ++ [v]).length ≤ 4000002 := by simp; omega)
              | (at_builtin; go_must (refine wpList_append_row rfl (.tmp 34) (.tmp 39) 22 rfl N 2 i0 _ 1 8 Tryd.underlying22 hi0 hz0 hz1 (by decide) hz2 rfl v8 (r ++ [v]).length (nmV (r ++ [v])) rfl HOW8.out 1 [.int .i64 x] HSX8.out ?l2 ?b2 ?n2 ?_); go_must (case l2 => (unfold maxLen; omega)); go_must (case b2 => omega); go_must (case n2 => exact HBS8.out); intro v9 w9 ha; have HA9 := Lib.hid (HA8.out.app (a := x) (o := .cells #[.int .i64 x] 2) (v' := v9) (w1 := w9) ha); clear ha))
            go_roundw
            case rel => exact ⟨j + 1, by omega, by go_num, by rw [HS2.out], by rw [HS2.out]; exact HA9.out⟩
            case measure => simp [intOf]; omega
          | true =>
            have HS2 := Lib.hid (show putAt l v (j + 1) = (r ++ [x], true) from by rw [hid_eq HS, if_neg hxv, if_neg (by simp)])
            clear HS
            have HOW := Lib.hid (HR.out.own x)
            have HSX := Lib.hid (NSt.src (wr := wr) x)
            have HAP := Lib.hid (fun v' w' ha => HR.out.app (a := x) (o := .cells #[.int .i64 x] 2) (v' := v') (w1 := w') ha)
            have HBS := Lib.hid (HR.out.base (.cells #[.int .i64 x] 2))
            go_wp2_with (at_builtin; go_must (refine wpList_append_row rfl (.tmp 34) (.tmp 39) 22 rfl N 2 i0 _ 1 8 Tryd.underlying22 hi0 hz0 hz1 (by decide) hz2 rfl u5 r.length (nmV r) rfl HOW.out 1 [.int .i64 x] HSX.out ?l2 ?b2 ?n2 ?_); go_must (case l2 => (unfold maxLen; omega)); go_must (case b2 => omega); go_must (case n2 => exact HBS.out); intro v' w' ha; have HA := Lib.hid (HAP.out _ _ ha); clear ha)
            go_roundw
            case rel => exact ⟨j + 1, by omega, by go_num, by rw [HS2.out], by rw [HS2.out]; exact HA.out⟩
            case measure => simp [intOf]; omega
        · have HS2 := Lib.hid (show putAt l v (j + 1) = (r ++ [x], d) from by rw [hid_eq HS, if_neg hxv, if_neg (fun h => hgt h.1)])
          clear HS
          have HOW := Lib.hid (HR.out.own x)
          have HSX := Lib.hid (NSt.src (wr := wr) x)
          have HAP := Lib.hid (fun v' w' ha => HR.out.app (a := x) (o := .cells #[.int .i64 x] 2) (v' := v') (w1 := w') ha)
          have HBS := Lib.hid (HR.out.base (.cells #[.int .i64 x] 2))
          go_wp2_with (at_builtin; go_must (refine wpList_append_row rfl (.tmp 34) (.tmp 39) 22 rfl N 2 i0 _ 1 8 Tryd.underlying22 hi0 hz0 hz1 (by decide) hz2 rfl u5 r.length (nmV r) rfl HOW.out 1 [.int .i64 x] HSX.out ?l2 ?b2 ?n2 ?_); go_must (case l2 => (unfold maxLen; omega)); go_must (case b2 => omega); go_must (case n2 => exact HBS.out); intro v' w' ha; have HA := Lib.hid (HAP.out _ _ ha); clear ha)
          go_roundw
          case rel => exact ⟨j + 1, by omega, by go_num, by rw [HS2.out], by rw [HS2.out]; exact HA.out⟩
          case measure => simp [intOf]; omega
    · obtain rfl : j = n := by omega
      have HPR : Hid (putR l v = if (putAt l v j).2 = true then (putAt l v j).1 else (putAt l v j).1 ++ [v]) := by rw [← HLN.out]; rfl
      clear hR
      generalize (putAt l v j).1 = r at *
      generalize (putAt l v j).2 = d at *
      cases d with
      | true =>
        have HX := Lib.hid (show putR l v = r from by rw [hid_eq HPR, if_pos rfl])
        clear HPR
        go_wp2_with fail
        go_ret
        exact ⟨_, rfl, by rw [HX.out, HN.out]; exact HR.out.row, by rw [HN.out]; exact HR.out.low⟩
      | false =>
        have HX := Lib.hid (show putR l v = r ++ [v] from by rw [hid_eq HPR, if_neg (by simp)])
        clear HPR
        have HOW := Lib.hid (HR.out.own v)
        have HSX := Lib.hid (NSt.src (wr := wr) v)
        have HAP := Lib.hid (fun v' w' ha => HR.out.app (a := v) (o := .cells #[.int .i64 v] 2) (v' := v') (w1 := w') ha)
        have HBS := Lib.hid (HR.out.base (.cells #[.int .i64 v] 2))
        go_wp2_with (at_builtin; go_must (refine wpList_append_row rfl (.tmp 43) (.tmp 45) 22 rfl N 2 i0 _ 1 8 Tryd.underlying22 hi0 hz0 hz1 (by decide) hz2 rfl u5 r.length (nmV r) rfl HOW.out 1 [.int .i64 v] HSX.out ?l2 ?b2 ?n2 ?_); go_must (case l2 => (unfold maxLen; omega)); go_must (case b2 => omega); go_must (case n2 => exact HBS.out); intro v' w' ha; have HA := Lib.hid (HAP.out _ _ ha); clear ha)
        go_ret
        exact ⟨_, rfl, by rw [HX.out, HN.out]; exact HA.out.row, by rw [HN.out]; exact HA.out.low⟩

/-- without, place by place. -/
def woAt (l : List Int) (v : Int) : Nat → List Int
  | 0 => []
  | j + 1 => woAt l v j ++ (if l.getD j 0 = v then [] else [l.getD j 0])
theorem woAt_length (l : List Int) (v : Int) : ∀ j, (woAt l v j).length ≤ j
  | 0 => by simp [woAt]
  | j + 1 => by
    have := woAt_length l v j
    simp only [woAt]
    split <;> simp <;> omega
theorem woAt_take (l : List Int) (v : Int) : ∀ j, j ≤ l.length → woAt l v j = (l.take j).filter (· ≠ v)
  | 0, _ => by simp [woAt]
  | j + 1, h => by
    rw [List.take_add_one, List.getElem?_eq_getElem (show j < l.length by omega), List.filter_append, ← woAt_take l v j (by omega)]
    simp only [woAt, List.getD_eq_getElem?_getD, List.getElem?_eq_getElem (show j < l.length by omega), Option.getD_some, Option.toList_some]
    by_cases e : l[j] = v <;> simp [e]
theorem woAt_all (l : List Int) (v : Int) : woAt l v l.length = l.filter (· ≠ v) := by
  rw [woAt_take l v _ (Nat.le_refl _), List.take_length]

set_option maxRecDepth 100000 in
set_option maxHeartbeats 8000000 in
theorem without_walk (v0 : Value) (l : List Int) (v : Int) (w : World) (h : Nums w v0 l) (hl : l.length ≤ 4000000) :
    Calls Tryd.prog 47 #[v0, .int .i64 v] w (DoneN (l.filter (· ≠ v)) w) := by
  obtain ⟨i0, hi0, hz0, hz1, hz2⟩ := info_parts info2
  obtain ⟨ao, c, rfl, h⟩ := h
  have H0 := Lib.hid h
  clear h
  have HW := Lib.hid (woAt_all l v)
  generalize l.filter (· ≠ v) = R at *
  generalize hN : w.heap.size = N at *
  have HN := Lib.hid hN
  generalize hn : l.length = n at *
  have HLN := Lib.hid hn
  clear hN hn
  go_enter Tryd.func47, Tryd.ntmps47
  go_wp2_with fail
  go_loopw [5, 6] (fun rv jv wr => ∃ j : Nat, j ≤ n ∧ jv = .int .i64 j ∧ NSt w N (woAt l v j) rv wr) (fun _ jv _ => n - (intOf jv).toNat)
  case atStart => exact ⟨0, by omega, rfl, World.ownsRow_nil _ _ _ _, Below.refl _ _, by have := HN.out; omega⟩
  case round =>
    obtain ⟨j, hj, rfl, hR⟩ := hrel
    have HR := Lib.hid hR
    have hlen : (woAt l v j).length ≤ 4000001 := by
      have := woAt_length l v j
      omega
    by_cases hlt : j < n
    · obtain ⟨g, o, rfl, hc⟩ : ∃ g o, ao = some ⟨g, o, none⟩ ∧ w.cell? ⟨g, o + j, none⟩ = some (.int .i64 (l.getD j 0)) := by
        rcases H0.out with h | ⟨g, o, h1, h2⟩
        · have := HLN.out; subst h; simp at this; omega
        · exact ⟨g, o, h1, h2 j hlt⟩
      have hcr : wr.cell? ⟨g, o + j, none⟩ = some (.int .i64 (l.getD j 0)) := (hR.low.cell (p := ⟨g, o + j, none⟩) (by rw [← HN.out]; exact World.block_lt_of_cell? w _ hc)).trans hc
      have HS : Hid (woAt l v (j + 1) = woAt l v j ++ (if l.getD j 0 = v then [] else [l.getD j 0])) := rfl
      clear hR hc
      generalize woAt l v j = r at *
      generalize l.getD j 0 = x at *
      by_cases hxv : x = v
      · have HS2 := Lib.hid (show woAt l v (j + 1) = r from by rw [hid_eq HS, if_pos hxv, List.append_nil])
        clear HS
        subst hxv
        go_wp2_with fail
        go_roundw
        case rel => exact ⟨j + 1, by omega, by go_num, by rw [HS2.out]; exact HR.out⟩
        case measure => simp [intOf]; omega
      · have hxv' : (x == v) = false := by rw [beq_eq_false_iff_ne]; exact hxv
        have HS2 := Lib.hid (show woAt l v (j + 1) = r ++ [x] from by rw [hid_eq HS, if_neg hxv])
        clear HS
        have HOW := Lib.hid (HR.out.own x)
        have HSX := Lib.hid (NSt.src (wr := wr) x)
        have HAP := Lib.hid (fun v' w' ha => HR.out.app (a := x) (o := .cells #[.int .i64 x] 2) (v' := v') (w1 := w') ha)
        have HBS := Lib.hid (HR.out.base (.cells #[.int .i64 x] 2))
        go_wp2_with (at_builtin; go_must (refine wpList_append_row rfl (.tmp 19) (.tmp 24) 22 rfl N 2 i0 _ 1 8 Tryd.underlying22 hi0 hz0 hz1 (by decide) hz2 rfl u5 r.length (nmV r) rfl HOW.out 1 [.int .i64 x] HSX.out ?l2 ?b2 ?n2 ?_); go_must (case l2 => (unfold maxLen; omega)); go_must (case b2 => omega); go_must (case n2 => exact HBS.out); intro v' w' ha; have HA := Lib.hid (HAP.out _ _ ha); clear ha)
        go_roundw
        case rel => exact ⟨j + 1, by omega, by go_num, by rw [HS2.out]; exact HA.out⟩
        case measure => simp [intOf]; omega
    · obtain rfl : j = n := by omega
      have HX : Hid (woAt l v j = R) := HW.out
      clear hR
      go_wp2_with fail
      go_ret
      exact ⟨_, rfl, by rw [← HX.out, HN.out]; exact HR.out.row, by rw [HN.out]; exact HR.out.low⟩

/-- rising, place by place. -/
def riAt (l : List Int) : Nat → List Int
  | 0 => []
  | j + 1 => putR (riAt l j) (l.getD j 0)
theorem putR_length (l : List Int) (v : Int) : (putR l v).length ≤ l.length + 1 := by
  have := putAt_length l v l.length
  unfold putR
  split
  · rename_i h
    rw [h] at this
    simpa using this
  · rename_i h
    simp only [Bool.not_eq_true] at h
    rw [h] at this
    simp at this ⊢
    omega
theorem riAt_length (l : List Int) : ∀ j, (riAt l j).length ≤ j
  | 0 => by simp [riAt]
  | j + 1 => by
    have h1 := riAt_length l j
    have h2 := putR_length (riAt l j) (l.getD j 0)
    simp only [riAt]
    omega
theorem nums_of_row {w : World} {N : Nat} {v : Value} {l : List Int} (h : w.ownsRow N 2 1 v l.length (nmV l)) : Nums w v l := (owned_nums h).nums

set_option maxRecDepth 100000 in
set_option maxHeartbeats 8000000 in
theorem rising_walk (v0 : Value) (l : List Int) (w : World) (h : Nums w v0 l) (hl : l.length ≤ 4000000) :
    Calls Tryd.prog 45 #[v0] w (DoneN (riAt l l.length) w) := by
  obtain ⟨ao, c, rfl, h⟩ := h
  have H0 := Lib.hid h
  clear h
  generalize hN : w.heap.size = N at *
  have HN := Lib.hid hN
  generalize hn : l.length = n at *
  have HLN := Lib.hid hn
  clear hN hn
  go_enter Tryd.func45, Tryd.ntmps45
  go_wp2_with fail
  go_loopw [3, 4] (fun rv jv wr => ∃ j : Nat, j ≤ n ∧ jv = .int .i64 j ∧ NSt w N (riAt l j) rv wr) (fun _ jv _ => n - (intOf jv).toNat)
  case atStart => exact ⟨0, by omega, rfl, World.ownsRow_nil _ _ _ _, Below.refl _ _, by have := HN.out; omega⟩
  case round =>
    obtain ⟨j, hj, rfl, hR⟩ := hrel
    have HR := Lib.hid hR
    have hlen : (riAt l j).length ≤ 4000000 := by
      have := riAt_length l j
      omega
    by_cases hlt : j < n
    · obtain ⟨g, o, rfl, hc⟩ : ∃ g o, ao = some ⟨g, o, none⟩ ∧ w.cell? ⟨g, o + j, none⟩ = some (.int .i64 (l.getD j 0)) := by
        rcases H0.out with h | ⟨g, o, h1, h2⟩
        · have := HLN.out; subst h; simp at this; omega
        · exact ⟨g, o, h1, h2 j hlt⟩
      have hcr : wr.cell? ⟨g, o + j, none⟩ = some (.int .i64 (l.getD j 0)) := (hR.low.cell (p := ⟨g, o + j, none⟩) (by rw [← HN.out]; exact World.block_lt_of_cell? w _ hc)).trans hc
      have HS : Hid (riAt l (j + 1) = putR (riAt l j) (l.getD j 0)) := rfl
      clear hR hc
      generalize riAt l j = r at *
      generalize l.getD j 0 = x at *
      go_wp2_with fail
      refine (put_walk u3 r x wr (nums_of_row HR.out.row) hlen).mono ?_
      rintro e w2 ⟨v2, rfl, hr2, hb2⟩
      have HN2 : Hid (NSt w N (putR r x) v2 w2) := ⟨own_base hr2 HR.out.nw, HR.out.low.trans (hb2.mono HR.out.nw), Nat.le_trans HR.out.nw hb2.size⟩
      clear hr2 hb2
      go_wp2_with fail
      go_roundw
      case rel => exact ⟨j + 1, by omega, by go_num, by rw [hid_eq HS]; exact HN2.out⟩
      case measure => simp [intOf]; omega
    · obtain rfl : j = n := by omega
      clear hR
      go_wp2_with fail
      go_ret
      exact ⟨_, rfl, by rw [HN.out]; exact HR.out.row, by rw [HN.out]; exact HR.out.low⟩
end Go.Proofs.YtfcaebceklhbkaaDoor

/-
  The contract of judge.row: an operation of a stack or a queue; slices.Clone once more, its answer a row.
-/
namespace Go.Proofs.YtfcaebceklhbkaaDoor
open Go.RowKit
set_option linter.unusedVariables false

def numV (l : List Int) : List Value := l.map (Value.int .i64)
theorem numV_snoc (l : List Int) (a : Int) : numV (l ++ [a]) = numV l ++ [.int .i64 a] := by simp [numV]

set_option maxRecDepth 100000 in
set_option maxHeartbeats 4000000 in
theorem clone_row (v : Value) (l : List Int) (w : World) (h : Nums w v l) (hl : l.length ≤ 4000000) :
    Calls Tryd.prog 35 #[v] w fun e w' => ∃ v', e = .returned v' ∧ w'.ownsRow w.heap.size 2 1 v' l.length (numV l) ∧ Below w.heap.size w w' := by
  obtain ⟨i0, hi0, hz0, hz1, hz2⟩ := info_parts info2
  have h' := h
  obtain ⟨ao, c, rfl, h⟩ := h
  cases ao with
  | none =>
    have hl0 : l = [] := by
      rcases h with h | ⟨g, o, e, _⟩
      · exact h
      · cases e
    subst hl0
    clear h h'
    have hnil : ∀ w, (binOp .eql 22 (.slice none ([] : List Int).length c) (.slice none 0 0)).run Tryd.prog w = .ok (.bool true) w := fun w => Lib.run_eql_slice_nil w 22 2 none 0 c 0 0 Tryd.underlying22
    simp only [List.length_nil] at hnil
    go_enter Tryd.func35, Tryd.ntmps35
    go_wp2_with fail
    go_ret
    exact ⟨_, rfl, World.ownsRow_nil _ _ _ _, Below.refl _ _⟩
  | some ad =>
    have HSX := Lib.hid (nums_src (h'.below ((Below.refl _ _).alloc (Nat.le_refl _) (.cells #[] 2))))
    have HOW : Hid ((w.alloc (.cells #[] 2)).ownsRow w.heap.size 2 1 (.slice (some ⟨w.heap.size, 0, none⟩) 0 0) 0 []) := ⟨rfl, .inr ⟨w.heap.size, 0, #[], rfl, Nat.le_refl _, heap_alloc_new w _, Nat.le_refl _, by decide, rfl, rfl⟩⟩
    have HB : Hid (Below w.heap.size w (w.alloc (.cells #[] 2))) := (Below.refl _ _).alloc (Nat.le_refl _) _
    clear h h'
    have hnil : ∀ w, (binOp .eql 22 (.slice (some ad) l.length c) (.slice none 0 0)).run Tryd.prog w = .ok (.bool false) w := fun w => Lib.run_eql_slice_nil w 22 2 (some ad) _ c 0 0 Tryd.underlying22
    go_enter Tryd.func35, Tryd.ntmps35
    go_wp2_with (at_builtin; go_must (refine wpList_append_row rfl (.tmp 5) (.tmp 6) 22 rfl w.heap.size 2 i0 _ 1 8 Tryd.underlying22 hi0 hz0 hz1 (by decide) hz2 rfl (.slice (some ⟨w.heap.size, 0, none⟩) 0 0) 0 [] rfl HOW.out l.length (l.map (Value.int .i64)) HSX.out ?l2 ?b2 ?n2 ?_); go_must (case l2 => (unfold maxLen; omega)); go_must (case b2 => omega); go_must (case n2 => (simp)); intro v' w' ha; have HA := Lib.hid ha; clear ha)
    go_ret
    obtain ⟨h1, h2, h3⟩ := HA.out
    refine ⟨_, rfl, by simpa [numV] using h1, HB.out.grown h2 (by simp) (fun k hk => ?_)⟩
    cases hk
    exact Nat.le_refl _

/-- What row answers. -/
def DoneR (N : Nat) (r : List Int × Bool × Int) (w : World) (e : Ending) (w' : World) : Prop := ∃ v, e = .returned (.tuple #[v, ansV r.2.1 r.2.2]) ∧ OwnNums N w' v r.1 ∧ Below N w w'
theorem OwnNums.alloc2 {N : Nat} {w : World} {v : Value} {l : List Int} {o p : Obj} (h : OwnNums N w v l) : OwnNums N ((w.alloc o).alloc p) v l := by
  rcases h with h | ⟨g, q, c, cur, rfl, hg, hb, hc, hs, hx⟩
  · exact .inl h
  · exact .inr ⟨g, q, c, cur, rfl, hg, ((Below.heap_alloc _ _ _ (by have := (Array.getElem?_eq_some_iff.1 hb).1; simp; omega)).trans (Below.heap_alloc _ _ _ (Array.getElem?_eq_some_iff.1 hb).1)).trans hb, hc, hs, hx⟩
theorem fin_row {N : Nat} {r0 r : List Int × Bool × Int} {w : World} {cs : Array Value} {v : Value} {X : Obj} {act : Act} (hN : N ≤ w.heap.size) (hd : act.defers = []) (h7 : act.tmps.getD 7 undef = .pointer (some ⟨w.heap.size + 1, 0, none⟩)) (h6 : act.tmps.getD 6 undef = v)
    (w' : World) (hw : w' = (w.alloc X).alloc (.cells cs 26) ∨ ∃ n, w' = ((w.alloc X).alloc (.cells cs 26)).drewN n) (hcs : cs = #[.bool r.2.1, .int .i64 r.2.2, .slice none 0 0]) (hv : OwnNums N w v r.1) (hr : r0 = r) :
    bodyPost Tryd.prog Tryd.f38 (DoneR N r0 w) .ret act w' := by
  have hc : ∀ i, w'.cell? ⟨w.heap.size + 1, i, none⟩ = cs[i]? := by
    intro i
    rcases hw with rfl | ⟨n, rfl⟩
    · exact cell_two _ _ _ _ _
    · exact cell_two _ _ _ _ _
  have hb : Below N w w' := by
    rcases hw with rfl | ⟨n, rfl⟩
    · exact (below_two _ _ _).mono hN
    · exact ((below_two _ _ _).mono hN).trans ⟨rfl, rfl, rfl, Nat.le_refl _, fun _ _ => rfl⟩
  have hv' : OwnNums N w' v r.1 := by
    rcases hw with rfl | ⟨n, rfl⟩
    · exact hv.alloc2
    · exact hv.alloc2 (o := X) (p := .cells cs 26)
  subst hcs hr
  obtain ⟨tmps, defers⟩ := act
  subst hd
  have hr := results_tmp_cell (fn := Tryd.f38) (p := 7) (u := 6) (ty := 26) rfl tmps Tryd.prog w' _ ⟨w.heap.size + 1, 0, none⟩ h7 (load_ans w' _ _ _ _ (hc 0) (hc 1) (hc 2))
  rw [h6] at hr
  exact bodyPost_ret hr rfl ⟨v, rfl, hv', hb⟩

theorem row_end {N M : Nat} {w w2 w4 : World} {sv v' : Value} {l : List Int} {a : Int} {o : Obj} {A B C : Value} (hM : N ≤ M) (hb : Below N w w2) (hM2 : M < w2.heap.size) (hrow : (w2.alloc o).ownsRow N 2 1 sv l.length (numV l))
    (ha : Appended (w2.alloc o) N 2 1 sv l.length 1 (numV l ++ [.int .i64 a]) v' w4) (hne : sv.ownBlock ≠ some M) (hr : w4.heap[M]? = some (.cells #[A, B, C] 26 (0, 0))) (ok : Bool) (n : Int) :
    (((w4.setCell ⟨M, 0, none⟩ (.bool ok)).setCell ⟨M, 1, none⟩ (.int .i64 n)).setCell ⟨M, 2, none⟩ (.slice none 0 0)).heap[M]? = some (.cells #[.bool ok, .int .i64 n, .slice none 0 0] 26 (0, 0)) ∧
    OwnNums N (((w4.setCell ⟨M, 0, none⟩ (.bool ok)).setCell ⟨M, 1, none⟩ (.int .i64 n)).setCell ⟨M, 2, none⟩ (.slice none 0 0)) v' (l ++ [a]) ∧
    Below N w (((w4.setCell ⟨M, 0, none⟩ (.bool ok)).setCell ⟨M, 1, none⟩ (.int .i64 n)).setCell ⟨M, 2, none⟩ (.slice none 0 0)) := by
  obtain ⟨h1, h2, h3⟩ := ha
  have hb4 : Below N w w4 := (hb.alloc (by omega) o).grown h2 (by simp; omega) (fun k hk => (hrow.lt k hk).1)
  have hv : v'.ownBlock ≠ some M := by
    rcases h3 with ⟨e, _⟩ | ⟨g, cap, e, _, hg⟩
    · rw [e]; simp [Value.ownBlock]
    · rw [e]
      show some g ≠ some M
      rcases hg with hg | hg
      · exact fun e => hne (hg.trans e)
      · have : (w2.alloc o).heap.size = w2.heap.size + 1 := by simp
        simp only [ne_eq, Option.some.injEq]
        omega
  have g1 : ∀ (W : World) (i : Nat) (x : Value), W.grownBy (W.setCell ⟨M, i, none⟩ x) (some M) := fun W i x => ⟨rfl, rfl, rfl, by simp [World.setCell], fun k _ hk => Below.heap_setCell _ _ _ _ (fun e => hk (by simp [e]))⟩
  have hrow' : w4.ownsRow N 2 1 v' (l ++ [a]).length (numV (l ++ [a])) := by
    rw [numV_snoc]
    simpa using h1
  have e1 := set_at hr 0 (.bool ok)
  have e2 := set_at e1 1 (.int .i64 n)
  refine ⟨set_at e2 2 (.slice none 0 0), owned_nums (((hrow'.kept (g1 _ _ _) (.inr hv)).kept (g1 _ _ _) (.inr hv)).kept (g1 _ _ _) (.inr hv)), ?_⟩
  exact ((hb4.setCell hM _).setCell hM _).setCell hM _

set_option maxRecDepth 100000 in
set_option maxHeartbeats 8000000 in
theorem row_walk (N : Nat) (o : Int) (ho : o = 3 ∨ o = 4) (s : Value) (l : List Int) (k a b c : Int) (w : World) (hN : N ≤ w.heap.size) (hs : w.ownsRow N 2 1 s l.length (numV l)) (hl : l.length ≤ 4000000) :
    Calls Tryd.prog 38 #[.int .i64 o, s, opV k a b c] w (DoneR N (rowF o l k a) w) := by
  have HO := Lib.hid (owned_nums hs)
  have HR := Lib.hid hs
  have hl' : (l.length : Int) ≤ 4000000 := by omega
  obtain ⟨so, sc, rfl, hsc⟩ : ∃ so sc, s = .slice so l.length sc ∧ l.length ≤ sc ∧ sc ≤ 9223372036854775807 := by
    rcases hs.2 with ⟨rfl, h⟩ | ⟨g, cap, cur, rfl, _, _, h1, h2, _⟩
    · exact ⟨none, 0, by rw [h], by omega, by omega⟩
    · exact ⟨_, cap, rfl, h1, by unfold maxLen at h2; omega⟩
  obtain ⟨hsc, hsm⟩ := hsc
  unfold opV
  by_cases hk1 : k = 1
  · subst hk1
    cases l with
    | nil =>
      have hF : rowF o [] 1 a = ([], false, 0) := rfl
      clear hs HR
      simp only [List.length_nil] at *
      go_enter Tryd.func38, Tryd.ntmps38
      go_wp2_with fail
      all_goals (try simp only [Exit.inBlock, Exit.then])
      exact fin_row (v := .slice so 0 sc) (r := ([], false, 0)) hN rfl rfl rfl _ (.inl rfl) rfl HO.out hF
    | cons x t =>
      obtain ⟨g, rfl, hg, hcell⟩ : ∃ g, so = some ⟨g, 0, none⟩ ∧ g < w.heap.size ∧ ∀ i, i < (x :: t).length → w.cell? ⟨g, i, none⟩ = some (.int .i64 ((x :: t).getD i 0)) := by
        rcases HO.out with ⟨_, h⟩ | ⟨g, q, c', cur, e, _, hb, _, _, hx⟩
        · cases h
        · rcases HR.out.2 with ⟨e2, _⟩ | ⟨g2, _, _, e2, _⟩
          · cases e2
          · cases e2
            cases e
            refine ⟨g, rfl, lt_of_heap hb, fun i hi => ?_⟩
            have := hx i hi
            rw [Nat.zero_add] at this
            rw [cell_of hb]
            exact this
      have hall : ∀ i, i < (x :: t).length → ∀ o1 o2, ((w.alloc o1).alloc o2).cell? ⟨g, i, none⟩ = some (.int .i64 ((x :: t).getD i 0)) := fun i hi o1 o2 =>
        (World.cell?_of_block (a := ⟨g, i, none⟩) ((Below.heap_alloc _ _ _ (by simp; omega)).trans (Below.heap_alloc _ _ _ hg))).trans (hcell i hi)
      have HALL := Lib.hid hall
      have HTL : Hid (OwnNums N w (.slice (if sc = 1 then some ⟨g, 0, none⟩ else some ⟨g, 1, none⟩) t.length (sc - 1)) t) := by
        rcases HO.out with ⟨_, h⟩ | ⟨g2, q, c', cur, e, h1, h2, h3, h4, h5⟩
        · cases h
        · rcases HR.out.2 with ⟨e2, _⟩ | ⟨g3, _, _, e2, _⟩
          · cases e2
          · cases e2
            cases e
            have hl3 : t.length + 1 ≤ sc := h3
            show OwnNums N w (.slice (if sc = 1 then some ⟨g, 0, none⟩ else some ⟨g, 1, none⟩) t.length (sc - 1)) t
            by_cases hs1 : sc = 1
            · rw [if_pos hs1]
              exact .inr ⟨g, 0, sc - 1, cur, rfl, h1, h2, by omega, by omega, fun i hi => by omega⟩
            · rw [if_neg hs1]
              refine .inr ⟨g, 1, sc - 1, cur, rfl, h1, h2, by omega, by omega, fun i hi => ?_⟩
              have := h5 (i + 1) (by simpa using hi)
              rw [Nat.zero_add] at this
              rw [show 1 + i = i + 1 by omega, this]
              simp
      have HDL : Hid (OwnNums N w (.slice (some ⟨g, 0, none⟩) t.length sc) (x :: t).dropLast) := by
        rcases HO.out with ⟨_, h⟩ | ⟨g2, q, c', cur, e, h1, h2, h3, h4, h5⟩
        · cases h
        · rcases HR.out.2 with ⟨e2, _⟩ | ⟨g3, _, _, e2, _⟩
          · cases e2
          · cases e2
            cases e
            refine .inr ⟨g, 0, sc, cur, by simp, h1, h2, by simp at h3 ⊢; omega, h4, fun i hi => ?_⟩
            have hi' : i < t.length := by simpa using hi
            rw [h5 i (by simp; omega)]
            congr 2
            simp only [List.getD_eq_getElem?_getD]
            rw [List.getElem?_dropLast, if_pos (by simpa using hi')]
      clear hall hcell hs
      simp only [List.length_cons] at *
      generalize hn : t.length = n at *
      rcases ho with rfl | rfl
      · have hF : rowF 3 (x :: t) 1 a = ((x :: t).dropLast, true, (x :: t).getLastD 0) := rfl
        have hlast : ∀ o1 o2, ((w.alloc o1).alloc o2).cell? ⟨g, n, none⟩ = some (.int .i64 ((x :: t).getLastD 0)) := by
          intro o1 o2
          rw [HALL.out n (by omega) o1 o2]
          congr 2
          rw [List.getD_eq_getElem?_getD, List.getLastD_eq_getLast?, List.getLast?_eq_getElem?]
          simp [hn]
        have hne : ((n : Int) + 1 == 0) = false := by rw [beq_eq_false_iff_ne]; omega
        clear HALL HTL
        go_enter Tryd.func38, Tryd.ntmps38
        go_wp2_with fail
        go_region
        all_goals (go_wp2_with fail)
        all_goals (try simp only [Exit.inBlock, Exit.then])
        all_goals (exact fin_row (v := .slice (some ⟨g, 0, none⟩) n sc) (r := ((x :: t).dropLast, true, (x :: t).getLastD 0)) hN rfl rfl rfl _ (.inr ⟨1, rfl⟩) rfl HDL.out hF)
      · have hF : rowF 4 (x :: t) 1 a = (t, true, x) := rfl
        have hfirst : ∀ o1 o2, ((w.alloc o1).alloc o2).cell? ⟨g, 0, none⟩ = some (.int .i64 x) := fun o1 o2 => (HALL.out 0 (by omega) o1 o2)
        have hne : ((n : Int) + 1 == 0) = false := by rw [beq_eq_false_iff_ne]; omega
        clear HALL HDL
        by_cases hs1 : sc = 1
        · subst hs1
          have HT2 : Hid (OwnNums N w (.slice (some ⟨g, 0, none⟩) n 0) t) := HTL.out
          clear HTL
          obtain rfl : n = 0 := by omega
          go_enter Tryd.func38, Tryd.ntmps38
          go_wp2_with fail
          go_region
          all_goals (go_wp2_with fail)
          all_goals (try simp only [Exit.inBlock, Exit.then])
          all_goals (exact fin_row (v := .slice (some ⟨g, 0, none⟩) 0 0) (r := (t, true, x)) hN rfl rfl rfl _ (.inr ⟨1, rfl⟩) rfl HT2.out hF)
        · have HT2 : Hid (OwnNums N w (.slice (some ⟨g, 1, none⟩) n (sc - 1)) t) := by
            have := HTL.out
            rw [if_neg hs1] at this
            exact this
          clear HTL
          go_enter Tryd.func38, Tryd.ntmps38
          go_wp2_with fail
          go_region
          all_goals (go_wp2_with fail)
          all_goals (try simp only [Exit.inBlock, Exit.then])
          all_goals (exact fin_row (v := .slice (some ⟨g, 1, none⟩) n (sc - 1)) (r := (t, true, x)) hN rfl rfl rfl _ (.inr ⟨1, rfl⟩) rfl HT2.out hF)
  · by_cases hk2 : k = 2
    · have hF : rowF o l k a = (l ++ [a], true, 0) := by simp [rowF, hk2]
      subst hk2
      obtain ⟨i0, hi0, hz0, hz1, hz2⟩ := info_parts info2
      have hop : ((w.alloc (.cells #[.int .i64 2, .int .i64 a, .int .i64 b, .int .i64 c] 31)).alloc (.cells #[.bool false, .int .i64 0, .slice none 0 0] 26)).heap[w.heap.size]? = some (.cells #[.int .i64 2, .int .i64 a, .int .i64 b, .int .i64 c] 31 (0, 0)) := by
        rw [Below.heap_alloc _ _ _ (by simp)]
        exact heap_alloc_new w _
      have hrs : ((w.alloc (.cells #[.int .i64 2, .int .i64 a, .int .i64 b, .int .i64 c] 31)).alloc (.cells #[.bool false, .int .i64 0, .slice none 0 0] 26)).heap[w.heap.size + 1]? = some (.cells #[.bool false, .int .i64 0, .slice none 0 0] 26 (0, 0)) := by
        have := heap_alloc_new (w.alloc (.cells #[.int .i64 2, .int .i64 a, .int .i64 b, .int .i64 c] 31)) (.cells #[.bool false, .int .i64 0, .slice none 0 0] 26)
        simpa using this
      have hw2 : ((w.alloc (.cells #[.int .i64 2, .int .i64 a, .int .i64 b, .int .i64 c] 31)).alloc (.cells #[.bool false, .int .i64 0, .slice none 0 0] 26)).heap.size = w.heap.size + 2 := by simp
      have HB2 : Hid (Below N w ((w.alloc (.cells #[.int .i64 2, .int .i64 a, .int .i64 b, .int .i64 c] 31)).alloc (.cells #[.bool false, .int .i64 0, .slice none 0 0] 26))) := (below_two _ _ _).mono hN
      have HR2 := Lib.hid ((HR.out.alloc (.cells #[.int .i64 2, .int .i64 a, .int .i64 b, .int .i64 c] 31)).alloc (.cells #[.bool false, .int .i64 0, .slice none 0 0] 26))
      have HBK := Lib.hid (fun g (hg : (Value.slice so l.length sc).ownBlock = some g) => row_block HR.out hg)
      clear hs
      go_enter Tryd.func38, Tryd.ntmps38
      generalize hw2g : (w.alloc (.cells #[.int .i64 2, .int .i64 a, .int .i64 b, .int .i64 c] 31)).alloc (.cells #[.bool false, .int .i64 0, .slice none 0 0] 26) = w2 at *
      have HWG := Lib.hid hw2g
      have HRS := Lib.hid hrs
      have HW2 := Lib.hid hw2
      have HOW := Lib.hid (HR2.out.alloc (.cells #[.int .i64 a] 2))
      have HSX := Lib.hid (src_one0 w2 #[.int .i64 a] 2 1 rfl (by intro u hu; simp at hu; subst hu; rfl))
      have HBS := Lib.hid (show N ≤ (w2.alloc (.cells #[.int .i64 a] 2)).heap.size from by simp; omega)
      have hx0 := (cell_of hop 0).trans rfl
      have hx1 := (cell_of hop 1).trans rfl
      clear hop hrs hw2
      have HAP := Lib.hid (fun v' w' (ha : Appended (w2.alloc (.cells #[.int .i64 a] 2)) N 2 1 (.slice so l.length sc) l.length 1 (numV l ++ [.int .i64 a]) v' w') => ha)
      have hne1 : (Value.slice so l.length sc).ownBlock ≠ some (w.heap.size + 1) := fun e => by have := (HBK.out _ e).2; omega
      have HNE := Lib.hid hne1
      clear hne1
      go_wp2_with (at_builtin; go_must (refine wpList_append_row rfl (.tmp 51) (.tmp 54) 22 rfl N 2 i0 _ 1 8 Tryd.underlying22 hi0 hz0 hz1 (by decide) hz2 rfl (.slice so l.length sc) l.length (numV l) rfl HOW.out 1 [.int .i64 a] HSX.out ?l2 ?b2 ?n2 ?_); go_must (case l2 => (unfold maxLen; omega)); go_must (case b2 => omega); go_must (case n2 => exact HBS.out); intro v' w4 ha; have HA := Lib.hid (HAP.out _ _ ha); clear ha; have hr4 := (HA.out.2.1.block (w.heap.size + 1) (by rw [show (w2.alloc (.cells #[.int .i64 a] 2)).heap.size = w2.heap.size + 1 by simp, HW2.out]; omega) (fun e => HNE.out e.symm)).trans ((Below.heap_alloc _ _ _ (by rw [HW2.out]; omega)).trans HRS.out); have HR4 := Lib.hid hr4; have t0 := (cell_of hr4 0).trans rfl; have t1 := (cell_of hr4 1).trans rfl; have t2 := (cell_of hr4 2).trans rfl; have t3 := free_of hr4 0; have t4 := free_of hr4 1; have t5 := free_of hr4 2; clear hr4)
      try simp only [Exit.inBlock, Exit.then]
      have hsz2 : w2.heap.size = w.heap.size + 2 := HW2.out
      obtain ⟨z1, z2, z3⟩ := row_end (M := w.heap.size + 1) (by omega) HB2.out (by omega) HOW.out HA.out HNE.out HR4.out true 0
      exact bodyPost_ret (results_tmp_cell (fn := Tryd.f38) (u := 6) (p := 7) (ty := 26) rfl _ _ _ _ ⟨w.heap.size + 1, 0, none⟩ rfl (load_ans _ (w.heap.size + 1) _ _ _ ((cell_of z1 0).trans rfl) ((cell_of z1 1).trans rfl) ((cell_of z1 2).trans rfl))) rfl ⟨_, rfl, z2, z3⟩
    · by_cases hk3 : k = 3
      · have hF : rowF o l k a = (l, true, (l.length : Int)) := by simp [rowF, hk3]
        subst hk3
        clear hs HR
        go_enter Tryd.func38, Tryd.ntmps38
        go_wp2_with fail
        all_goals (try simp only [Exit.inBlock, Exit.then])
        all_goals (exact fin_row (v := .slice so l.length sc) (r := (l, true, (l.length : Int))) hN rfl rfl rfl _ (.inl rfl) rfl HO.out hF)
      · have hF : rowF o l k a = (l, false, 0) := by simp [rowF, hk1, hk2, hk3]
        have e1 : (k == 1) = false := by rw [beq_eq_false_iff_ne]; exact hk1
        have e2 : (k == 2) = false := by rw [beq_eq_false_iff_ne]; exact hk2
        have e3 : (k == 3) = false := by rw [beq_eq_false_iff_ne]; exact hk3
        clear hs HR
        go_enter Tryd.func38, Tryd.ntmps38
        go_wp2_with fail
        all_goals (try simp only [Exit.inBlock, Exit.then])
        all_goals (exact fin_row (v := .slice so l.length sc) (r := (l, false, 0)) hN rfl rfl rfl _ (.inl rfl) rfl HO.out hF)
end Go.Proofs.YtfcaebceklhbkaaDoor

/-
  The contract of the document's row. Printed out of YtfcaebceklhbkaaDoorRow.lean.
-/
namespace Go.Proofs.YtfcaebceklhbkaaDoor
open Go.RowKit
set_option linter.unusedVariables false

theorem fin_refRow {N : Nat} {r0 r : List Int × Bool × Int} {w : World} {cs : Array Value} {v : Value} {X : Obj} {act : Act} (hN : N ≤ w.heap.size) (hd : act.defers = []) (h7 : act.tmps.getD 7 undef = .pointer (some ⟨w.heap.size + 1, 0, none⟩)) (h6 : act.tmps.getD 6 undef = v)
    (w' : World) (hw : w' = (w.alloc X).alloc (.cells cs 26) ∨ ∃ n, w' = ((w.alloc X).alloc (.cells cs 26)).drewN n) (hcs : cs = #[.bool r.2.1, .int .i64 r.2.2, .slice none 0 0]) (hv : OwnNums N w v r.1) (hr : r0 = r) :
    bodyPost Tryd.prog Tryd.f44 (DoneR N r0 w) .ret act w' := by
  have hc : ∀ i, w'.cell? ⟨w.heap.size + 1, i, none⟩ = cs[i]? := by
    intro i
    rcases hw with rfl | ⟨n, rfl⟩
    · exact cell_two _ _ _ _ _
    · exact cell_two _ _ _ _ _
  have hb : Below N w w' := by
    rcases hw with rfl | ⟨n, rfl⟩
    · exact (below_two _ _ _).mono hN
    · exact ((below_two _ _ _).mono hN).trans ⟨rfl, rfl, rfl, Nat.le_refl _, fun _ _ => rfl⟩
  have hv' : OwnNums N w' v r.1 := by
    rcases hw with rfl | ⟨n, rfl⟩
    · exact hv.alloc2
    · exact hv.alloc2 (o := X) (p := .cells cs 26)
  subst hcs hr
  obtain ⟨tmps, defers⟩ := act
  subst hd
  have hr := results_tmp_cell (fn := Tryd.f44) (p := 7) (u := 6) (ty := 26) rfl tmps Tryd.prog w' _ ⟨w.heap.size + 1, 0, none⟩ h7 (load_ans w' _ _ _ _ (hc 0) (hc 1) (hc 2))
  rw [h6] at hr
  exact bodyPost_ret hr rfl ⟨v, rfl, hv', hb⟩

set_option maxRecDepth 100000 in
set_option maxHeartbeats 8000000 in
theorem refRow_walk (N : Nat) (o : Int) (ho : o = 3 ∨ o = 4) (s : Value) (l : List Int) (k a b c : Int) (w : World) (hN : N ≤ w.heap.size) (hs : w.ownsRow N 2 1 s l.length (numV l)) (hl : l.length ≤ 4000000) :
    Calls Tryd.prog 44 #[.int .i64 o, s, opV k a b c] w (DoneR N (rowF o l k a) w) := by
  have HO := Lib.hid (owned_nums hs)
  have HR := Lib.hid hs
  have hl' : (l.length : Int) ≤ 4000000 := by omega
  obtain ⟨so, sc, rfl, hsc⟩ : ∃ so sc, s = .slice so l.length sc ∧ l.length ≤ sc ∧ sc ≤ 9223372036854775807 := by
    rcases hs.2 with ⟨rfl, h⟩ | ⟨g, cap, cur, rfl, _, _, h1, h2, _⟩
    · exact ⟨none, 0, by rw [h], by omega, by omega⟩
    · exact ⟨_, cap, rfl, h1, by unfold maxLen at h2; omega⟩
  obtain ⟨hsc, hsm⟩ := hsc
  unfold opV
  by_cases hk1 : k = 1
  · subst hk1
    cases l with
    | nil =>
      have hF : rowF o [] 1 a = ([], false, 0) := rfl
      clear hs HR
      simp only [List.length_nil] at *
      go_enter Tryd.func44, Tryd.ntmps44
      go_wp2_with fail
      all_goals (try simp only [Exit.inBlock, Exit.then])
      exact fin_refRow (v := .slice so 0 sc) (r := ([], false, 0)) hN rfl rfl rfl _ (.inl rfl) rfl HO.out hF
    | cons x t =>
      obtain ⟨g, rfl, hg, hcell⟩ : ∃ g, so = some ⟨g, 0, none⟩ ∧ g < w.heap.size ∧ ∀ i, i < (x :: t).length → w.cell? ⟨g, i, none⟩ = some (.int .i64 ((x :: t).getD i 0)) := by
        rcases HO.out with ⟨_, h⟩ | ⟨g, q, c', cur, e, _, hb, _, _, hx⟩
        · cases h
        · rcases HR.out.2 with ⟨e2, _⟩ | ⟨g2, _, _, e2, _⟩
          · cases e2
          · cases e2
            cases e
            refine ⟨g, rfl, lt_of_heap hb, fun i hi => ?_⟩
            have := hx i hi
            rw [Nat.zero_add] at this
            rw [cell_of hb]
            exact this
      have hall : ∀ i, i < (x :: t).length → ∀ o1 o2, ((w.alloc o1).alloc o2).cell? ⟨g, i, none⟩ = some (.int .i64 ((x :: t).getD i 0)) := fun i hi o1 o2 =>
        (World.cell?_of_block (a := ⟨g, i, none⟩) ((Below.heap_alloc _ _ _ (by simp; omega)).trans (Below.heap_alloc _ _ _ hg))).trans (hcell i hi)
      have HALL := Lib.hid hall
      have HTL : Hid (OwnNums N w (.slice (if sc = 1 then some ⟨g, 0, none⟩ else some ⟨g, 1, none⟩) t.length (sc - 1)) t) := by
        rcases HO.out with ⟨_, h⟩ | ⟨g2, q, c', cur, e, h1, h2, h3, h4, h5⟩
        · cases h
        · rcases HR.out.2 with ⟨e2, _⟩ | ⟨g3, _, _, e2, _⟩
          · cases e2
          · cases e2
            cases e
            have hl3 : t.length + 1 ≤ sc := h3
            show OwnNums N w (.slice (if sc = 1 then some ⟨g, 0, none⟩ else some ⟨g, 1, none⟩) t.length (sc - 1)) t
            by_cases hs1 : sc = 1
            · rw [if_pos hs1]
              exact .inr ⟨g, 0, sc - 1, cur, rfl, h1, h2, by omega, by omega, fun i hi => by omega⟩
            · rw [if_neg hs1]
              refine .inr ⟨g, 1, sc - 1, cur, rfl, h1, h2, by omega, by omega, fun i hi => ?_⟩
              have := h5 (i + 1) (by simpa using hi)
              rw [Nat.zero_add] at this
              rw [show 1 + i = i + 1 by omega, this]
              simp
      have HDL : Hid (OwnNums N w (.slice (some ⟨g, 0, none⟩) t.length sc) (x :: t).dropLast) := by
        rcases HO.out with ⟨_, h⟩ | ⟨g2, q, c', cur, e, h1, h2, h3, h4, h5⟩
        · cases h
        · rcases HR.out.2 with ⟨e2, _⟩ | ⟨g3, _, _, e2, _⟩
          · cases e2
          · cases e2
            cases e
            refine .inr ⟨g, 0, sc, cur, by simp, h1, h2, by simp at h3 ⊢; omega, h4, fun i hi => ?_⟩
            have hi' : i < t.length := by simpa using hi
            rw [h5 i (by simp; omega)]
            congr 2
            simp only [List.getD_eq_getElem?_getD]
            rw [List.getElem?_dropLast, if_pos (by simpa using hi')]
      clear hall hcell hs
      simp only [List.length_cons] at *
      generalize hn : t.length = n at *
      rcases ho with rfl | rfl
      · have hF : rowF 3 (x :: t) 1 a = ((x :: t).dropLast, true, (x :: t).getLastD 0) := rfl
        have hlast : ∀ o1 o2, ((w.alloc o1).alloc o2).cell? ⟨g, n, none⟩ = some (.int .i64 ((x :: t).getLastD 0)) := by
          intro o1 o2
          rw [HALL.out n (by omega) o1 o2]
          congr 2
          rw [List.getD_eq_getElem?_getD, List.getLastD_eq_getLast?, List.getLast?_eq_getElem?]
          simp [hn]
        have hne : ((n : Int) + 1 == 0) = false := by rw [beq_eq_false_iff_ne]; omega
        clear HALL HTL
        go_enter Tryd.func44, Tryd.ntmps44
        go_wp2_with fail
        go_region
        all_goals (go_wp2_with fail)
        all_goals (try simp only [Exit.inBlock, Exit.then])
        all_goals (exact fin_refRow (v := .slice (some ⟨g, 0, none⟩) n sc) (r := ((x :: t).dropLast, true, (x :: t).getLastD 0)) hN rfl rfl rfl _ (.inr ⟨1, rfl⟩) rfl HDL.out hF)
      · have hF : rowF 4 (x :: t) 1 a = (t, true, x) := rfl
        have hfirst : ∀ o1 o2, ((w.alloc o1).alloc o2).cell? ⟨g, 0, none⟩ = some (.int .i64 x) := fun o1 o2 => (HALL.out 0 (by omega) o1 o2)
        have hne : ((n : Int) + 1 == 0) = false := by rw [beq_eq_false_iff_ne]; omega
        clear HALL HDL
        by_cases hs1 : sc = 1
        · subst hs1
          have HT2 : Hid (OwnNums N w (.slice (some ⟨g, 0, none⟩) n 0) t) := HTL.out
          clear HTL
          obtain rfl : n = 0 := by omega
          go_enter Tryd.func44, Tryd.ntmps44
          go_wp2_with fail
          go_region
          all_goals (go_wp2_with fail)
          all_goals (try simp only [Exit.inBlock, Exit.then])
          all_goals (exact fin_refRow (v := .slice (some ⟨g, 0, none⟩) 0 0) (r := (t, true, x)) hN rfl rfl rfl _ (.inr ⟨1, rfl⟩) rfl HT2.out hF)
        · have HT2 : Hid (OwnNums N w (.slice (some ⟨g, 1, none⟩) n (sc - 1)) t) := by
            have := HTL.out
            rw [if_neg hs1] at this
            exact this
          clear HTL
          go_enter Tryd.func44, Tryd.ntmps44
          go_wp2_with fail
          go_region
          all_goals (go_wp2_with fail)
          all_goals (try simp only [Exit.inBlock, Exit.then])
          all_goals (exact fin_refRow (v := .slice (some ⟨g, 1, none⟩) n (sc - 1)) (r := (t, true, x)) hN rfl rfl rfl _ (.inr ⟨1, rfl⟩) rfl HT2.out hF)
  · by_cases hk2 : k = 2
    · have hF : rowF o l k a = (l ++ [a], true, 0) := by simp [rowF, hk2]
      subst hk2
      obtain ⟨i0, hi0, hz0, hz1, hz2⟩ := info_parts info2
      have hop : ((w.alloc (.cells #[.int .i64 2, .int .i64 a, .int .i64 b, .int .i64 c] 31)).alloc (.cells #[.bool false, .int .i64 0, .slice none 0 0] 26)).heap[w.heap.size]? = some (.cells #[.int .i64 2, .int .i64 a, .int .i64 b, .int .i64 c] 31 (0, 0)) := by
        rw [Below.heap_alloc _ _ _ (by simp)]
        exact heap_alloc_new w _
      have hrs : ((w.alloc (.cells #[.int .i64 2, .int .i64 a, .int .i64 b, .int .i64 c] 31)).alloc (.cells #[.bool false, .int .i64 0, .slice none 0 0] 26)).heap[w.heap.size + 1]? = some (.cells #[.bool false, .int .i64 0, .slice none 0 0] 26 (0, 0)) := by
        have := heap_alloc_new (w.alloc (.cells #[.int .i64 2, .int .i64 a, .int .i64 b, .int .i64 c] 31)) (.cells #[.bool false, .int .i64 0, .slice none 0 0] 26)
        simpa using this
      have hw2 : ((w.alloc (.cells #[.int .i64 2, .int .i64 a, .int .i64 b, .int .i64 c] 31)).alloc (.cells #[.bool false, .int .i64 0, .slice none 0 0] 26)).heap.size = w.heap.size + 2 := by simp
      have HB2 : Hid (Below N w ((w.alloc (.cells #[.int .i64 2, .int .i64 a, .int .i64 b, .int .i64 c] 31)).alloc (.cells #[.bool false, .int .i64 0, .slice none 0 0] 26))) := (below_two _ _ _).mono hN
      have HR2 := Lib.hid ((HR.out.alloc (.cells #[.int .i64 2, .int .i64 a, .int .i64 b, .int .i64 c] 31)).alloc (.cells #[.bool false, .int .i64 0, .slice none 0 0] 26))
      have HBK := Lib.hid (fun g (hg : (Value.slice so l.length sc).ownBlock = some g) => row_block HR.out hg)
      clear hs
      go_enter Tryd.func44, Tryd.ntmps44
      generalize hw2g : (w.alloc (.cells #[.int .i64 2, .int .i64 a, .int .i64 b, .int .i64 c] 31)).alloc (.cells #[.bool false, .int .i64 0, .slice none 0 0] 26) = w2 at *
      have HWG := Lib.hid hw2g
      have HRS := Lib.hid hrs
      have HW2 := Lib.hid hw2
      have HOW := Lib.hid (HR2.out.alloc (.cells #[.int .i64 a] 2))
      have HSX := Lib.hid (src_one0 w2 #[.int .i64 a] 2 1 rfl (by intro u hu; simp at hu; subst hu; rfl))
      have HBS := Lib.hid (show N ≤ (w2.alloc (.cells #[.int .i64 a] 2)).heap.size from by simp; omega)
      have hx0 := (cell_of hop 0).trans rfl
      have hx1 := (cell_of hop 1).trans rfl
      clear hop hrs hw2
      have HAP := Lib.hid (fun v' w' (ha : Appended (w2.alloc (.cells #[.int .i64 a] 2)) N 2 1 (.slice so l.length sc) l.length 1 (numV l ++ [.int .i64 a]) v' w') => ha)
      have hne1 : (Value.slice so l.length sc).ownBlock ≠ some (w.heap.size + 1) := fun e => by have := (HBK.out _ e).2; omega
      have HNE := Lib.hid hne1
      clear hne1
      go_wp2_with (at_builtin; go_must (refine wpList_append_row rfl (.tmp 39) (.tmp 42) 22 rfl N 2 i0 _ 1 8 Tryd.underlying22 hi0 hz0 hz1 (by decide) hz2 rfl (.slice so l.length sc) l.length (numV l) rfl HOW.out 1 [.int .i64 a] HSX.out ?l2 ?b2 ?n2 ?_); go_must (case l2 => (unfold maxLen; omega)); go_must (case b2 => omega); go_must (case n2 => exact HBS.out); intro v' w4 ha; have HA := Lib.hid (HAP.out _ _ ha); clear ha; have hr4 := (HA.out.2.1.block (w.heap.size + 1) (by rw [show (w2.alloc (.cells #[.int .i64 a] 2)).heap.size = w2.heap.size + 1 by simp, HW2.out]; omega) (fun e => HNE.out e.symm)).trans ((Below.heap_alloc _ _ _ (by rw [HW2.out]; omega)).trans HRS.out); have HR4 := Lib.hid hr4; have t0 := (cell_of hr4 0).trans rfl; have t1 := (cell_of hr4 1).trans rfl; have t2 := (cell_of hr4 2).trans rfl; have t3 := free_of hr4 0; have t4 := free_of hr4 1; have t5 := free_of hr4 2; clear hr4)
      try simp only [Exit.inBlock, Exit.then]
      have hsz2 : w2.heap.size = w.heap.size + 2 := HW2.out
      obtain ⟨z1, z2, z3⟩ := row_end (M := w.heap.size + 1) (by omega) HB2.out (by omega) HOW.out HA.out HNE.out HR4.out true 0
      exact bodyPost_ret (results_tmp_cell (fn := Tryd.f44) (u := 6) (p := 7) (ty := 26) rfl _ _ _ _ ⟨w.heap.size + 1, 0, none⟩ rfl (load_ans _ (w.heap.size + 1) _ _ _ ((cell_of z1 0).trans rfl) ((cell_of z1 1).trans rfl) ((cell_of z1 2).trans rfl))) rfl ⟨_, rfl, z2, z3⟩
    · by_cases hk3 : k = 3
      · have hF : rowF o l k a = (l, true, (l.length : Int)) := by simp [rowF, hk3]
        subst hk3
        clear hs HR
        go_enter Tryd.func44, Tryd.ntmps44
        go_wp2_with fail
        all_goals (try simp only [Exit.inBlock, Exit.then])
        all_goals (exact fin_refRow (v := .slice so l.length sc) (r := (l, true, (l.length : Int))) hN rfl rfl rfl _ (.inl rfl) rfl HO.out hF)
      · have hF : rowF o l k a = (l, false, 0) := by simp [rowF, hk1, hk2, hk3]
        have e1 : (k == 1) = false := by rw [beq_eq_false_iff_ne]; exact hk1
        have e2 : (k == 2) = false := by rw [beq_eq_false_iff_ne]; exact hk2
        have e3 : (k == 3) = false := by rw [beq_eq_false_iff_ne]; exact hk3
        clear hs HR
        go_enter Tryd.func44, Tryd.ntmps44
        go_wp2_with fail
        all_goals (try simp only [Exit.inBlock, Exit.then])
        all_goals (exact fin_refRow (v := .slice so l.length sc) (r := (l, false, 0)) hN rfl rfl rfl _ (.inl rfl) rfl HO.out hF)
end Go.Proofs.YtfcaebceklhbkaaDoor

/-
  The contract of slices.Insert of one number into a row of the call's own.
-/
namespace Go.Proofs.YtfcaebceklhbkaaDoor
open Go.RowKit
set_option linter.unusedVariables false

/-- A row's cells, written over from place o on. -/
def over (cur : Array Value) : Nat → List Value → Array Value
  | _, [] => cur
  | o, v :: r => over (cur.setIfInBounds o v) (o + 1) r
theorem over_size : ∀ (vs : List Value) (o : Nat) (cur : Array Value), (over cur o vs).size = cur.size
  | [], _, _ => rfl
  | v :: r, o, cur => by rw [over, over_size r, Array.size_setIfInBounds]
theorem over_out : ∀ (vs : List Value) (o : Nat) (cur : Array Value) (k : Nat), (k < o ∨ o + vs.length ≤ k) → (over cur o vs)[k]? = cur[k]?
  | [], _, _, _, _ => rfl
  | v :: r, o, cur, k, h => by
    simp only [List.length_cons] at h
    rw [over, over_out r (o + 1) _ k (by omega), Array.getElem?_setIfInBounds, if_neg (by omega)]
theorem over_in : ∀ (vs : List Value) (o : Nat) (cur : Array Value) (j : Nat), j < vs.length → o + j < cur.size → (over cur o vs)[o + j]? = vs[j]?
  | v :: r, o, cur, 0, _, h => by
    rw [over, over_out r (o + 1) _ _ (by omega), Nat.add_zero, Array.getElem?_setIfInBounds, if_pos rfl, if_pos (by omega)]
    rfl
  | v :: r, o, cur, j + 1, hj, h => by
    rw [over, show o + (j + 1) = (o + 1) + j by omega, over_in r (o + 1) _ j (by simpa using hj) (by rw [Array.size_setIfInBounds]; omega)]
    rfl
theorem setCells_block (b : Nat) (T : TypeId) : ∀ (vs : List Value) (o : Nat) (w : World) (cur : Array Value), w.heap[b]? = some (.cells cur T (0, 0)) → (w.setCells b o vs).heap[b]? = some (.cells (over cur o vs) T (0, 0))
  | [], _, _, _, h => h
  | v :: r, o, w, cur, h => setCells_block b T r (o + 1) _ _ (set_at h o v)
theorem setCells_below (N b : Nat) (hb : N ≤ b) : ∀ (vs : List Value) (o : Nat) (a w : World), Below N a w → Below N a (w.setCells b o vs)
  | [], _, _, _, h => h
  | v :: r, o, a, w, h => setCells_below N b hb r (o + 1) a _ (h.setCell hb v)

theorem grown_refl (w : World) (row : Option Nat) : w.grownBy w row := ⟨rfl, rfl, rfl, Nat.le_refl _, fun _ _ _ => rfl⟩
theorem grown_drew {a w : World} {row : Option Nat} (h : a.grownBy w row) : a.grownBy w.drew row := ⟨h.os, h.tape, h.output, h.size, h.block⟩
theorem grown_setCells (g : Nat) : ∀ (vs : List Value) (o : Nat) (a w : World) (row : Option Nat), (a.heap.size ≤ g ∨ row = some g) → a.grownBy w row → a.grownBy (w.setCells g o vs) row
  | [], _, _, _, _, _, h => h
  | v :: r, o, a, w, row, hg, h => grown_setCells g r (o + 1) a _ row hg ⟨h.os, h.tape, h.output, by simpa [World.setCell] using h.size, fun k hk hr => by
      rw [Below.heap_setCell _ _ _ _ (show k ≠ g from fun e => by rcases hg with hg | hg; omega; exact hr (by rw [e, hg]))]
      exact h.block k hk hr⟩

theorem size2 : (Tryd.prog.info? 2).map (·.size) = some 1 := by kernel_rfl
theorem numV_length (l : List Int) : (numV l).length = l.length := by simp [numV]
theorem numV_one (l : List Int) : ∀ v ∈ numV l, v.oneCell' = true := by
  intro v hv
  obtain ⟨x, _, rfl⟩ := List.mem_map.1 hv
  rfl
theorem numV_at {l : List Int} {j : Nat} {v : Value} (h : (numV l)[j]? = some v) : j < l.length ∧ v = .int .i64 (l.getD j 0) := by
  rw [numV, List.getElem?_map] at h
  obtain ⟨x, hx, rfl⟩ := Option.map_eq_some_iff.1 h
  exact ⟨(List.getElem?_eq_some_iff.1 hx).1, by simp [List.getD, hx]⟩

/-- What is inserted. -/
def insF (l : List Int) (i : Nat) (a : Int) : List Int := l.take i ++ a :: l.drop i

theorem insF_lt {l : List Int} {i k : Nat} {a : Int} (h : k < i) (hi : i ≤ l.length) : (insF l i a).getD k 0 = l.getD k 0 := by
  simp only [insF, List.getD_eq_getElem?_getD]
  rw [List.getElem?_append_left (by simp; omega), List.getElem?_take_of_lt h]
theorem insF_eq {l : List Int} {i : Nat} {a : Int} (hi : i ≤ l.length) : (insF l i a).getD i 0 = a := by
  simp only [insF, List.getD_eq_getElem?_getD]
  rw [List.getElem?_append_right (by simp; omega)]
  simp [show min i l.length = i by omega]
theorem insF_gt {l : List Int} {i j : Nat} {a : Int} (hi : i ≤ l.length) : (insF l i a).getD (i + 1 + j) 0 = l.getD (i + j) 0 := by
  simp only [insF, List.getD_eq_getElem?_getD]
  rw [List.getElem?_append_right (by simp; omega)]
  simp only [List.length_take, show min i l.length = i by omega]
  rw [show i + 1 + j - i = j + 1 by omega, List.getElem?_cons_succ, List.getElem?_drop]

set_option maxRecDepth 100000 in
set_option maxHeartbeats 8000000 in
theorem insert_shift (N g n c i vb : Nat) (a : Int) (l : List Int) (cur : Array Value) (w : World) (hi : i < n) (hl : l.length = n) (hroom : n + 1 ≤ c) (hc63 : c ≤ 9223372036854775807) (hvb : vb ≠ g) (hN : N ≤ g)
    (hg : w.heap[g]? = some (.cells cur 2 (0, 0))) (hcs : cur.size = c) (hcur : ∀ j, j < n → cur[j]? = some (.int .i64 (l.getD j 0))) (hv : w.heap[vb]? = some (.cells #[.int .i64 a] 2 (0, 0))) :
    Calls Tryd.prog 58 #[.slice (some ⟨g, 0, none⟩) n c, .int .i64 i, .slice (some ⟨vb, 0, none⟩) 1 1] w fun e w' => ∃ v', e = .returned v' ∧ OwnNums N w' v' (insF l i a) ∧ Below N w w' ∧ w.grownBy w' (some g) := by
  have hz2 : ¬ ((i : Int) = (n : Int)) := by omega
  have hsa : w.shape? vb = some (2, 1) := by simp [World.shape?, hv]
  have hsb : w.shape? g = some (2, c) := by simp [World.shape?, hg, hcs]
  have hov : ∀ lb cb, (callFunc 77 #[.slice (some ⟨vb, 0, none⟩) 1 1, .slice (some ⟨g, i + 1, none⟩) lb cb]).run Tryd.prog w = .ok (.value (.bool false)) w := fun lb cb => by
    rw [run_callFunc_extern Tryd.func77 (by kernel_rfl) (by kernel_rfl) (by kernel_rfl) (e := Extern.SlicesOverlaps.overlaps #[22, 22] #[4]) (by kernel_rfl),
      Lib.run_overlaps_apart w 22 4 2 Tryd.underlying22 1 Tryd.sizeOf2 ⟨vb, 0, none⟩ ⟨g, i + 1, none⟩ 1 1 lb cb hvb 2 2 1 c hsa hsb (by omega) (free_of hv 0) (free_of hv 1)]
    rfl
  have hdl : (numV (l.drop i)).length = n - i := by rw [numV_length, List.length_drop, hl]
  have hc1 : ∀ ty dc sc, (Builtin.copy_ #[22, 22] ty #[.slice (some ⟨g, i + 1, none⟩) (n - i) dc, .slice (some ⟨g, i, none⟩) (n + 1 - i) sc]).run Tryd.prog w.drew = .ok (goInt (numV (l.drop i)).length) (w.drew.setCells g (i + 1) (numV (l.drop i))) := fun ty dc sc =>
    run_copy_cells w.drew _ _ ty 2 g (i + 1) (n - i) dc ⟨g, i, none⟩ (n + 1 - i) sc _ Tryd.underlying22 size2 (by rw [hdl]; simp only [Nat.min_def]; split <;> omega)
      (fun j v hj => by
        obtain ⟨h1, rfl⟩ := numV_at hj
        rw [List.length_drop] at h1
        rw [addr_add]
        show w.cell? _ = _
        rw [cell_of hg, hcur _ (by omega)]
        simp [List.getD])
      (fun j hj => by
        rw [hdl] at hj
        show (w.cell? _).isSome = true
        rw [cell_of hg, Array.getElem?_eq_getElem (by omega)]; rfl)
      (fun j hj => free_of hg _) (numV_one _)
  have hg1 := setCells_block g 2 (numV (l.drop i)) (i + 1) w.drew cur hg
  have hc2 : ∀ (W : World), (∀ x, W.cell? x = (w.drew.setCells g (i + 1) (numV (l.drop i))).cell? x) → (∀ x, W.frozen? x = (w.drew.setCells g (i + 1) (numV (l.drop i))).frozen? x) → ∀ ty dc, (Builtin.copy_ #[22, 22] ty #[.slice (some ⟨g, i, none⟩) (n + 1 - i) dc, .slice (some ⟨vb, 0, none⟩) 1 1]).run Tryd.prog W = .ok (goInt [Value.int .i64 a].length) (W.setCells g i [.int .i64 a]) := fun W hWc hWf ty dc =>
    run_copy_cells W _ _ ty 2 g i (n + 1 - i) dc ⟨vb, 0, none⟩ 1 1 _ Tryd.underlying22 size2 (by simp only [List.length_cons, List.length_nil, Nat.min_def]; split <;> omega)
      (fun j v hj => by
        match j, hj with
        | 0, hj =>
          cases hj
          rw [addr_add, hWc, World.cell?_setCells_out g _ _ _ _ (fun h _ => absurd h hvb)]
          show w.cell? _ = _
          rw [cell_of hv]; rfl)
      (fun j hj => by
        have : j = 0 := by simpa using hj
        subst this
        rw [hWc, cell_of hg1, Array.getElem?_eq_getElem (by rw [over_size]; omega)]; rfl)
      (fun j hj => by rw [hWf]; exact free_of hg1 _) (by intro v hv; simp at hv; subst hv; rfl)
  have HF : Hid (OwnNums N ((w.drew.setCells g (i + 1) (numV (l.drop i))).setCells g i [.int .i64 a]) (.slice (some ⟨g, 0, none⟩) (n + 1) c) (insF l i a) ∧ Below N w ((w.drew.setCells g (i + 1) (numV (l.drop i))).setCells g i [.int .i64 a])) := by
    have hil : (insF l i a).length = n + 1 := by simp [insF]; omega
    refine ⟨.inr ⟨g, 0, c, over (over cur (i + 1) (numV (l.drop i))) i [.int .i64 a], by rw [hil], hN, setCells_block g 2 _ i _ _ hg1, by omega, by rw [over_size, over_size]; omega, fun k hk => ?_⟩, setCells_below N g hN _ _ _ _ (setCells_below N g hN _ _ _ _ ((Below.refl _ _).drew))⟩
    rw [hil] at hk
    rw [Nat.zero_add]
    rcases (by omega : k < i ∨ k = i ∨ i < k) with h | h | h
    · rw [over_out _ _ _ _ (.inl h), over_out _ _ _ _ (.inl (by omega)), hcur k (by omega), insF_lt h (by omega)]
    · subst h
      have h0 : (over (over cur (k + 1) (numV (l.drop k))) k [Value.int .i64 a])[k]? = some (.int .i64 a) := over_in [Value.int .i64 a] k (over cur (k + 1) (numV (l.drop k))) 0 (by simp) (by rw [over_size]; omega)
      rw [h0, insF_eq (by omega)]
    · obtain ⟨j, rfl⟩ : ∃ j, k = i + 1 + j := ⟨k - (i + 1), by omega⟩
      rw [over_out _ _ _ _ (.inr (by simp only [List.length_cons, List.length_nil]; omega)), over_in _ _ _ j (by rw [hdl]; omega) (by omega), insF_gt (by omega), numV, List.getElem?_map, List.getElem?_drop, List.getElem?_eq_getElem (by omega)]
      simp [List.getD, List.getElem?_eq_getElem (show i + j < l.length by omega)]
  have HGR : Hid (w.grownBy ((w.drew.setCells g (i + 1) (numV (l.drop i))).setCells g i [.int .i64 a]) (some g)) := grown_setCells g _ _ _ _ _ (.inr rfl) (grown_setCells g _ _ _ _ _ (.inr rfl) (grown_drew (grown_refl w _)))
  have HC1 := Lib.hid hc1
  have HC2 := Lib.hid hc2
  have hin : i ≤ n := by omega
  have htn : ((i : Int) + 1).toNat = i + 1 := by omega
  clear hc1 hc2 hg hcs hcur hv hg1 hsa hsb hdl
  go_enter Tryd.func58, Tryd.ntmps58
  go_wp2_with (simp only [hov])
  have hw1 : IntKind.i64.wrap ((i : Int) + 1) = (i : Int) + 1 := by rw [IntKind.wrap_i64]; omega
  have hb1 : (0 : Int) ≤ (i : Int) + 1 := by omega
  have hb2 : ¬ (c = i + 1) := by omega
  have hb3 : (i : Int) ≤ (n : Int) + 1 := by omega
  have hb4 : ¬ (c = i) := by omega
  have mixed : Tryd.prog.follows Departure.mixedOrders = true := by kernel_rfl
  go_region_law_o (refine step_copy_runI rfl _ _ 22 22 rfl (.slice (some ⟨g, i + 1, none⟩) (n - i) (c - (i + 1))) (.slice (some ⟨g, i, none⟩) (n + 1 - i) (c - i)) (by simp [Act.eval, Act.put]) (by simp [Act.eval, Act.put]) (HC1.out _ _ _) ?_)
  go_wp2_with fail
  rw [HC2.out _ (fun _ => rfl) (fun _ => rfl)]
  simp only [Result.andThen]
  rw [Oper.upon_value]
  go_wp2_with fail
  go_ret
  exact ⟨_, rfl, HF.out.1, HF.out.2, HGR.out⟩

set_option maxRecDepth 100000 in
set_option maxHeartbeats 8000000 in
theorem insert_end (N sc vb : Nat) (so : Option Addr) (a : Int) (l : List Int) (w : World) (hl : l.length ≤ 4000000) (hs : w.ownsRow N 2 1 (.slice so l.length sc) l.length (numV l)) (hN : N ≤ w.heap.size) (hv : w.heap[vb]? = some (.cells #[.int .i64 a] 2 (0, 0))) :
    Calls Tryd.prog 58 #[.slice so l.length sc, .int .i64 l.length, .slice (some ⟨vb, 0, none⟩) 1 1] w fun e w' => ∃ v', e = .returned v' ∧ OwnNums N w' v' (insF l l.length a) ∧ Below N w w' ∧ w.grownBy w' (Value.slice so l.length sc).ownBlock := by
  have hF : insF l l.length a = l ++ [a] := by simp [insF]
  rw [hF]
  obtain ⟨i0, hi0, hz0, hz1, hz2⟩ := info_parts info2
  have HSX : Hid (SrcOf w 1 (.slice (some ⟨vb, 0, none⟩) 1 1) 1 [.int .i64 a]) := by
    refine ⟨rfl, by intro u hu; simp at hu; subst hu; rfl, .inr ⟨⟨vb, 0, none⟩, 1, rfl, fun j u hj => ?_⟩⟩
    match j, hj with
    | 0, hj =>
      cases hj
      rw [addr_add, cell_of hv]
      rfl
  have HOW := Lib.hid hs
  have HEND : Hid (∀ v' w', Appended w N 2 1 (.slice so l.length sc) l.length 1 (numV l ++ [.int .i64 a]) v' w' → OwnNums N w' v' (l ++ [a]) ∧ Below N w w' ∧ w.grownBy w' (Value.slice so l.length sc).ownBlock) := fun v' w' ha => by
    obtain ⟨h1, h2, _⟩ := ha
    refine ⟨owned_nums (by rw [show (l ++ [a]).map (Value.int .i64) = numV l ++ [.int .i64 a] by simp [numV]]; simpa using h1), (Below.refl _ _).grown h2 hN (fun k hk => (hs.lt k hk).1), h2⟩
  have hsc : so = none ∨ ∃ g, so = some ⟨g, 0, none⟩ ∧ l.length ≤ sc ∧ sc ≤ 9223372036854775807 := by
    rcases hs.2 with ⟨e, _⟩ | ⟨g, cap, _, e, _, _, h1, h2, _⟩
    · exact .inl (Value.slice.inj e).1
    · obtain ⟨e1, _, e3⟩ := Value.slice.inj e
      exact .inr ⟨g, e1, by omega, by unfold maxLen at h2; omega⟩
  have hn0 : so = none → l.length = 0 ∧ sc = 0 := by
    intro e
    rcases hs.2 with ⟨e2, h⟩ | ⟨g, cap, _, e2, _⟩
    · exact ⟨h, (Value.slice.inj e2).2.2⟩
    · rw [e] at e2
      cases (Value.slice.inj e2).1
  clear hs hv hF
  rcases hsc with rfl | ⟨g, rfl, h1, h2⟩
  · obtain ⟨e1, e2⟩ := hn0 rfl
    have hl0 : l = [] := List.eq_nil_of_length_eq_zero e1
    subst hl0 e2
    simp only [List.length_nil] at *
    go_enter Tryd.func58, Tryd.ntmps58
    go_wp2_with (at_builtin; go_must (refine wpList_append_row rfl (.tmp 23) (.tmp 24) 22 rfl N 2 i0 _ 1 8 Tryd.underlying22 hi0 hz0 hz1 (by decide) hz2 rfl (.slice none 0 0) 0 (numV []) rfl HOW.out 1 [.int .i64 a] HSX.out ?l2 ?b2 ?n2 ?_); go_must (case l2 => (unfold maxLen; omega)); go_must (case b2 => omega); go_must (case n2 => exact hN); intro v' w' ha; have HA := Lib.hid (HEND.out _ _ ha); clear ha)
    go_ret
    exact ⟨_, rfl, HA.out.1, HA.out.2.1, HA.out.2.2⟩
  · clear hn0
    generalize hn : l.length = n at *
    go_enter Tryd.func58, Tryd.ntmps58
    go_wp2_with (at_builtin; go_must (refine wpList_append_row rfl (.tmp 23) (.tmp 24) 22 rfl N 2 i0 _ 1 8 Tryd.underlying22 hi0 hz0 hz1 (by decide) hz2 rfl (.slice (some ⟨g, 0, none⟩) n sc) n (numV l) rfl HOW.out 1 [.int .i64 a] HSX.out ?l2 ?b2 ?n2 ?_); go_must (case l2 => (unfold maxLen; omega)); go_must (case b2 => omega); go_must (case n2 => exact hN); intro v' w' ha; have HA := Lib.hid (HEND.out _ _ ha); clear ha)
    all_goals go_ret
    all_goals exact ⟨_, rfl, HA.out.1, HA.out.2.1, HA.out.2.2⟩

set_option maxRecDepth 100000 in
set_option maxHeartbeats 8000000 in
theorem insert_grow (N g n c i vb : Nat) (a : Int) (l : List Int) (cur : Array Value) (w : World) (hi : i < n) (hl : l.length = n) (hn4 : n ≤ 4000000) (hnc : n ≤ c) (hroom : c < n + 1) (hN : N ≤ w.heap.size)
    (hg : w.heap[g]? = some (.cells cur 2 (0, 0))) (hcur : ∀ j, j < n → cur[j]? = some (.int .i64 (l.getD j 0))) (hv : w.heap[vb]? = some (.cells #[.int .i64 a] 2 (0, 0))) :
    Calls Tryd.prog 58 #[.slice (some ⟨g, 0, none⟩) n c, .int .i64 i, .slice (some ⟨vb, 0, none⟩) 1 1] w fun e w' => ∃ v', e = .returned v' ∧ OwnNums N w' v' (insF l i a) ∧ Below N w w' ∧ w.grownBy w' (some g) := by
  obtain ⟨i0, hi0, hz0, hz1, hz2⟩ := info_parts info2
  have hgw := lt_of_heap hg
  have hvw := lt_of_heap hv
  have hz3 : ¬ ((i : Int) = (n : Int)) := by omega
  have hz4 : (c : Int) < (n : Int) + 1 := by omega
  have hhead : (numV (l.take i)).length = i := by rw [numV_length, List.length_take]; omega
  have hold : (Builtin.firstCells i0.size i (.slice (some ⟨g, 0, none⟩) i c)).run Tryd.prog w.drew = .ok (numV (l.take i)).toArray w.drew := by
    rw [hz1]
    refine run_firstCells_some (P := Tryd.prog) (w := w.drew) 1 i ⟨g, 0, none⟩ i c _ (by rw [hhead, Nat.mul_one]) (fun j v hj => ?_)
    obtain ⟨h1, rfl⟩ := numV_at hj
    rw [List.length_take] at h1
    rw [addr_add]
    show w.cell? _ = _
    rw [cell_of hg, Nat.zero_add, hcur j (by omega)]
    simp only [List.getD_eq_getElem?_getD]
    rw [List.getElem?_take_of_lt (by omega)]
  have hrz : ∀ ty, (Builtin.append_ #[22, 3] ty #[.slice (some ⟨g, 0, none⟩) i c, .int .i64 ((n : Int) + 1 - (i : Int))]).run Tryd.prog w =
      .ok (.slice (some ⟨w.heap.size, 0, none⟩) (n + 1) (grownCap w (n + 1) c 2)) (w.drew.alloc (.cells ((numV (l.take i)).toArray ++ Builtin.zeroCells (Value.int .i64 0).cells (n + 1 - i) ++ Builtin.zeroCells (Value.int .i64 0).cells (grownCap w (n + 1) c 2 - (n + 1))) 2)) := fun ty => by
    have h := Lib.run_append_grow_zeros w 22 3 ty 2 i0 _ .i64 .i64 Tryd.underlying22 Tryd.underlying3 hi0 hz0 (some ⟨g, 0, none⟩) i c (numV (l.take i)) hold (n + 1 - i) (by omega) (by omega) (by omega) (by omega) (by rw [hz2]; omega) (by rw [hz2, show i + (n + 1 - i) = n + 1 by omega]; exact growslice_fits (by omega) (by omega))
    rw [show i + (n + 1 - i) = n + 1 by omega] at h
    rw [show (n : Int) + 1 - (i : Int) = ((n + 1 - i : Nat) : Int) by omega]
    exact h
  generalize hG : grownCap w (n + 1) c 2 = G at *
  have hGn : n + 1 ≤ G := by rw [← hG]; exact grownCap_ge w _ _ _
  have hG63 : G ≤ 9223372036854775807 := by
    have := grownCap_le_maxLen w (n + 1) c 2 (by unfold maxLen; omega)
    rw [hG] at this
    unfold maxLen at this
    omega
  generalize hROW : (numV (l.take i)).toArray ++ Builtin.zeroCells (Value.int .i64 0).cells (n + 1 - i) ++ Builtin.zeroCells (Value.int .i64 0).cells (G - (n + 1)) = ROW at *
  have hRs : ROW.size = G := by
    rw [← hROW]
    simp [Builtin.zeroCells, Value.cells, hhead]
    omega
  have hRk : ∀ k, k < i → ROW[k]? = some (.int .i64 (l.getD k 0)) := by
    intro k hk
    rw [← hROW, Array.append_assoc, Array.getElem?_append_left (by simp [hhead]; exact hk)]
    simp only [List.getElem?_toArray]
    rw [numV, List.getElem?_map, List.getElem?_take_of_lt hk, List.getElem?_eq_getElem (by omega)]
    simp [List.getD, List.getElem?_eq_getElem (show k < l.length by omega)]
  clear hROW hG hold
  have hM : ((w.alloc (.cells ROW 2)).drew).heap[w.heap.size]? = some (.cells ROW 2 (0, 0)) := heap_alloc_new w _
  have hv1 : ((w.alloc (.cells ROW 2)).drew).heap[vb]? = some (.cells #[.int .i64 a] 2 (0, 0)) := (Below.heap_alloc w _ _ hvw).trans hv
  have hg1 : ((w.alloc (.cells ROW 2)).drew).heap[g]? = some (.cells cur 2 (0, 0)) := (Below.heap_alloc w _ _ hgw).trans hg
  have hdl : (numV (l.drop i)).length = n - i := by rw [numV_length, List.length_drop, hl]
  have hM2 := setCells_block w.heap.size 2 [.int .i64 a] i _ _ hM
  have hcA : ∀ ty dc, (Builtin.copy_ #[22, 22] ty #[.slice (some ⟨w.heap.size, i, none⟩) (n + 1 - i) dc, .slice (some ⟨vb, 0, none⟩) 1 1]).run Tryd.prog (w.alloc (.cells ROW 2)).drew = .ok (goInt [Value.int .i64 a].length) ((w.alloc (.cells ROW 2)).drew.setCells w.heap.size i [.int .i64 a]) := fun ty dc =>
    run_copy_cells (w.alloc (.cells ROW 2)).drew _ _ ty 2 w.heap.size i (n + 1 - i) dc ⟨vb, 0, none⟩ 1 1 _ Tryd.underlying22 size2 (by simp only [List.length_cons, List.length_nil, Nat.min_def]; split <;> omega)
      (fun j v hj => by
        match j, hj with
        | 0, hj =>
          cases hj
          rw [addr_add, cell_of hv1]; rfl)
      (fun j hj => by
        have : j = 0 := by simpa using hj
        subst this
        rw [cell_of hM, Array.getElem?_eq_getElem (by omega)]; rfl)
      (fun j hj => free_of hM _) (by intro v hv; simp at hv; subst hv; rfl)
  have hne : g ≠ w.heap.size := by omega
  have hcB : ∀ ty dc sc, (Builtin.copy_ #[22, 22] ty #[.slice (some ⟨w.heap.size, i + 1, none⟩) (n - i) dc, .slice (some ⟨g, i, none⟩) (n - i) sc]).run Tryd.prog ((w.alloc (.cells ROW 2)).drew.setCells w.heap.size i [.int .i64 a]).drew = .ok (goInt (numV (l.drop i)).length) (((w.alloc (.cells ROW 2)).drew.setCells w.heap.size i [.int .i64 a]).drew.setCells w.heap.size (i + 1) (numV (l.drop i))) := fun ty dc sc =>
    run_copy_cells ((w.alloc (.cells ROW 2)).drew.setCells w.heap.size i [.int .i64 a]).drew _ _ ty 2 w.heap.size (i + 1) (n - i) dc ⟨g, i, none⟩ (n - i) sc _ Tryd.underlying22 size2 (by rw [hdl]; simp only [Nat.min_def]; split <;> omega)
      (fun j v hj => by
        obtain ⟨h1, rfl⟩ := numV_at hj
        rw [List.length_drop] at h1
        rw [addr_add]
        show ((w.alloc (.cells ROW 2)).drew.setCells w.heap.size i [.int .i64 a]).cell? _ = _
        rw [World.cell?_setCells_out _ _ _ _ _ (fun h _ => absurd h hne), cell_of hg1, hcur _ (by omega)]
        simp [List.getD])
      (fun j hj => by
        rw [hdl] at hj
        show (((w.alloc (.cells ROW 2)).drew.setCells w.heap.size i [.int .i64 a]).cell? _).isSome = true
        rw [cell_of hM2, Array.getElem?_eq_getElem (by rw [over_size]; omega)]; rfl)
      (fun j hj => free_of hM2 _) (numV_one _)
  have HF : Hid (OwnNums N (((w.alloc (.cells ROW 2)).drew.setCells w.heap.size i [.int .i64 a]).drew.setCells w.heap.size (i + 1) (numV (l.drop i))) (.slice (some ⟨w.heap.size, 0, none⟩) (n + 1) G) (insF l i a) ∧ Below N w (((w.alloc (.cells ROW 2)).drew.setCells w.heap.size i [.int .i64 a]).drew.setCells w.heap.size (i + 1) (numV (l.drop i)))) := by
    have hil : (insF l i a).length = n + 1 := by simp [insF]; omega
    have hM3 : ((w.alloc (.cells ROW 2)).drew.setCells w.heap.size i [.int .i64 a]).drew.heap[w.heap.size]? = some (.cells (over ROW i [.int .i64 a]) 2 (0, 0)) := hM2
    refine ⟨.inr ⟨w.heap.size, 0, G, over (over ROW i [.int .i64 a]) (i + 1) (numV (l.drop i)), by rw [hil], hN, setCells_block w.heap.size 2 _ _ _ _ hM3, by omega, by rw [over_size, over_size]; omega, fun k hk => ?_⟩, setCells_below N w.heap.size hN _ _ _ _ (setCells_below N w.heap.size hN _ _ _ _ (((Below.refl _ _).alloc hN _).drew)).drew⟩
    rw [hil] at hk
    rw [Nat.zero_add]
    rcases (by omega : k < i ∨ k = i ∨ i < k) with h | h | h
    · rw [over_out _ _ _ _ (.inl (by omega)), over_out _ _ _ _ (.inl h), hRk k h, insF_lt h (by omega)]
    · subst h
      have h0 : (over ROW k [Value.int .i64 a])[k]? = some (.int .i64 a) := over_in [Value.int .i64 a] k ROW 0 (by simp) (by omega)
      rw [over_out _ _ _ _ (.inl (by omega)), h0, insF_eq (by omega)]
    · obtain ⟨j, rfl⟩ : ∃ j, k = i + 1 + j := ⟨k - (i + 1), by omega⟩
      rw [over_in _ _ _ j (by rw [hdl]; omega) (by rw [over_size]; omega), insF_gt (by omega), numV, List.getElem?_map, List.getElem?_drop, List.getElem?_eq_getElem (by omega)]
      simp [List.getD, List.getElem?_eq_getElem (show i + j < l.length by omega)]
  have HGR : Hid (w.grownBy (((w.alloc (.cells ROW 2)).drew.setCells w.heap.size i [.int .i64 a]).drew.setCells w.heap.size (i + 1) (numV (l.drop i))) (some g)) :=
    grown_setCells w.heap.size _ _ _ _ _ (.inl (Nat.le_refl _)) (grown_drew (grown_setCells w.heap.size _ _ w (w.alloc (.cells ROW 2)).drew _ (.inl (Nat.le_refl _)) (grown_drew ⟨rfl, rfl, rfl, by simp, fun k hk _ => Below.heap_alloc w _ k hk⟩)))
  have HCA := Lib.hid hcA
  have HCB := Lib.hid hcB
  have HRZ := Lib.hid hrz
  have hin : i ≤ n := by omega
  have htn : ((i : Int) + 1).toNat = i + 1 := by omega
  have hw1 : IntKind.i64.wrap ((i : Int) + 1) = (i : Int) + 1 := by rw [IntKind.wrap_i64]; omega
  have hb1 : (0 : Int) ≤ (i : Int) + 1 := by omega
  have hb3 : (i : Int) ≤ (n : Int) := by omega
  have hGi : ¬ (G = i) := by omega
  have hGim : ¬ (G = i + 1) := by omega
  have hci : ¬ (c = i) := by omega
  have mixed : Tryd.prog.follows Departure.mixedOrders = true := by kernel_rfl
  clear hcA hcB hrz hg hcur hv hM hM2 hv1 hg1 hRk hRs hdl
  go_enter Tryd.func58, Tryd.ntmps58
  go_wp2_with (at_builtin; go_must (refine Lib.wpList_append_run _ rfl _ _ _ _ rfl _ _ rfl rfl _ _ (HRZ.out _) ?_))
  rw [HCA.out]
  simp only [Result.andThen]
  rw [Oper.upon_value]
  go_wp2_with fail
  go_region_law_o (refine step_copy_runI rfl _ _ 22 22 rfl (.slice (some ⟨w.heap.size, i + 1, none⟩) (n - i) (G - (i + 1))) (.slice (some ⟨g, i, none⟩) (n - i) (c - i)) (by simp [Act.eval, Act.put]) (by simp [Act.eval, Act.put]) (HCB.out _ _ _) ?_)
  go_wp2_with fail
  go_ret
  exact ⟨_, rfl, HF.out.1, HF.out.2, HGR.out⟩

/-- One number, inserted into a row of the call's own. -/
theorem insert_walk (N sc i vb : Nat) (so : Option Addr) (a : Int) (l : List Int) (w : World) (hl : l.length ≤ 4000000) (hi : i ≤ l.length) (hs : w.ownsRow N 2 1 (.slice so l.length sc) l.length (numV l)) (hN : N ≤ w.heap.size)
    (hvb : (Value.slice so l.length sc).ownBlock ≠ some vb) (hv : w.heap[vb]? = some (.cells #[.int .i64 a] 2 (0, 0))) :
    Calls Tryd.prog 58 #[.slice so l.length sc, .int .i64 i, .slice (some ⟨vb, 0, none⟩) 1 1] w fun e w' => ∃ v', e = .returned v' ∧ OwnNums N w' v' (insF l i a) ∧ Below N w w' ∧ w.grownBy w' (Value.slice so l.length sc).ownBlock := by
  by_cases he : i = l.length
  · subst he
    exact insert_end N sc vb so a l w hl hs hN hv
  · rcases hs.2 with ⟨_, h⟩ | ⟨g, cap, cur, e, hg, hb, h1, h2, h3, h4⟩
    · omega
    · obtain ⟨rfl, _, rfl⟩ := Value.slice.inj e
      have hcur : ∀ j, j < l.length → cur[j]? = some (.int .i64 (l.getD j 0)) := by
        intro j hj
        have h5 : (cur.toList.take l.length)[j]? = (numV l)[j]? := by
          rw [Nat.mul_one] at h4
          rw [← h4]
        rw [List.getElem?_take_of_lt hj, numV, List.getElem?_map, List.getElem?_eq_getElem hj] at h5
        rw [← Array.getElem?_toList, h5]
        simp [List.getD, List.getElem?_eq_getElem hj]
      have hne : vb ≠ g := fun e => hvb (by rw [e]; rfl)
      by_cases hr : l.length + 1 ≤ sc
      · exact insert_shift N g l.length sc i vb a l cur w (by omega) rfl hr (by unfold maxLen at h2; omega) hne hg hb (by omega) hcur hv
      · exact insert_grow N g l.length sc i vb a l cur w (by omega) rfl hl h1 (by omega) hN hb hcur hv
end Go.Proofs.YtfcaebceklhbkaaDoor
