/-
  Merged out of: Said Forms Said2 OpMem OpLoop Op.
-/
import Derived.Test.YtdmhlhoimaeacaaDoorS1
import Derived.Laws.ResultCell
import Derived.Deep.RegionHeld3
import Derived.Deep.CutRange
/-
  What a line's words say: filters, forms, subscribes (the program's).
-/
namespace Go.Proofs.YtdmhlhoimaeacaaDoor
open Go.RowKit Go.Maps
set_option linter.unusedVariables false

theorem results_cell_tmp1 {fn : Func} {p u : Tmp} {ty : TypeId} (h : fn.results = #[.cell p ty, .tmp u]) (tmps : Array Value) (P : Program) (w : World) (v : Value) (x : Addr) (hp : tmps.getD p undef = .pointer (some x)) (hl : (loadVar ty x).run P w = .ok v w) :
    (results fn tmps).run P w = .ok (.tuple #[v, tmps.getD u undef]) w := by
  rw [results_cell_tmp h]
  have hp' : tmps[p]?.getD undef = .pointer (some x) := by simpa using hp
  simp [Result.andThen, hp', asAddr, hl]
theorem load_op (w : World) (N : Nat) (k a b c : Int) (h0 : w.cell? ⟨N, 0, none⟩ = some (.int .i64 k)) (h1 : w.cell? ⟨N, 1, none⟩ = some (.int .i64 a)) (h2 : w.cell? ⟨N, 2, none⟩ = some (.int .i64 b)) (h3 : w.cell? ⟨N, 3, none⟩ = some (.int .i64 c)) :
    (loadVar 65 ⟨N, 0, none⟩).run Tryd.prog w = .ok (.agg #[.int .i64 k, .int .i64 a, .int .i64 b, .int .i64 c]) w := by
  simp [loadVar, go_sem, h0, h1, h2, h3]
/-- What is answered of a line's words. -/
def SaidD (o : Option Opn) (w : World) (e : Ending) (w' : World) : Prop :=
  ∃ k a b c, e = .returned (.tuple #[.agg #[.int .i64 k, .int .i64 a, .int .i64 b, .int .i64 c], .bool o.isSome]) ∧ (∀ p, o = some p → p = ⟨k, a, b, c⟩) ∧ Below w.heap.size w w'

/-- An operation stored into a block of four cells. -/
theorem store_op {W : World} {B rb : Nat} {w0 : World} {cs : Array Value} (h : W.heap[rb]? = some (.cells cs 65 (0, 0))) (hcs : cs.size = 4) (hb : Below B w0 W) (hB : B ≤ rb) (k a b c : Value) :
    (((((W.setCell ⟨rb, 0, none⟩ k).setCell ⟨rb, 1, none⟩ a).setCell ⟨rb, 2, none⟩ b).setCell ⟨rb, 3, none⟩ c).heap[rb]? = some (.cells #[k, a, b, c] 65 (0, 0))) ∧
    Below B w0 ((((W.setCell ⟨rb, 0, none⟩ k).setCell ⟨rb, 1, none⟩ a).setCell ⟨rb, 2, none⟩ b).setCell ⟨rb, 3, none⟩ c) := by
  refine ⟨?_, (((hb.setCell hB _).setCell hB _).setCell hB _).setCell hB _⟩
  rw [set_at (set_at (set_at (set_at h 0 k) 1 a) 2 b) 3 c]
  obtain ⟨l⟩ := cs
  match l, hcs with
  | [_, _, _, _], _ => rfl
theorem load_stored {W : World} {rb : Nat} {k a b c : Int} (h : W.heap[rb]? = some (.cells #[.int .i64 k, .int .i64 a, .int .i64 b, .int .i64 c] 65 (0, 0))) :
    (loadVar 65 ⟨rb, 0, none⟩).run Tryd.prog W = .ok (.agg #[.int .i64 k, .int .i64 a, .int .i64 b, .int .i64 c]) W :=
  load_op W rb k a b c (cell_of h 0) (cell_of h 1) (cell_of h 2) (cell_of h 3)

def filtW : Nat → Word
  | 0 => wAll
  | 1 => wWriter
  | 2 => wRange
  | _ => wEach
def filtVals : Array Value := #[.string ⟨wAll.toArray⟩, .string ⟨wWriter.toArray⟩, .string ⟨wRange.toArray⟩, .string ⟨wEach.toArray⟩]
theorem filt_get : ∀ k, k < 4 → filtVals[k]? = some (.string ⟨(filtW k).toArray⟩)
  | 0, _ => rfl
  | 1, _ => rfl
  | 2, _ => rfl
  | 3, _ => rfl
  | n + 4, h => by omega
theorem filters_walk (w : World) : Calls Tryd.prog 63 #[] w fun e w' => e = .returned (.slice (some ⟨w.heap.size, 0, none⟩) 4 4) ∧ w' = w.alloc (.cells filtVals 9) := by
  go_enter Tryd.func63, Tryd.ntmps63
  go_wp2_with fail
  go_ret
  exact ⟨rfl, rfl⟩

theorem subs_none0 {ws : List Word} (h : ws.length < 2) : subsF ws = none := by
  match ws, h with
  | [], _ => rfl
  | [_], _ => rfl
theorem subs_all {ws : List Word} {n : Word} {r : List Word} (h : ws = n :: wAll :: r) : subsF ws = if r = [] then (numF n).map (fun n => ⟨4, n, 0, 0⟩) else none := by
  subst h
  match r with
  | [] => simp [subsF]
  | [b] =>
    have e : (if wAll = wWriter then some 1 else if wAll = wRange then some 2 else if wAll = wEach then some 3 else none : Option Int) = none := by decide
    simp only [subsF, e]
    cases numF n <;> rfl
  | _ :: _ :: _ => rfl
theorem subs_other {ws : List Word} {n f : Word} {r : List Word} (h : ws = n :: f :: r) (k : Nat) (hk : f = filtW k) (h0 : 0 < k) (h4 : k < 4) : subsF ws = match r with
    | [b] => (numF n).bind fun n => (numF b).map fun b => ⟨4, n, b, (k : Int)⟩
    | _ => none := by
  subst h hk
  have e0 : ¬ filtW k = wAll := by
    match k, h0, h4 with
    | 1, _, _ => decide
    | 2, _, _ => decide
    | 3, _, _ => decide
  have e : (if filtW k = wWriter then some 1 else if filtW k = wRange then some 2 else if filtW k = wEach then some 3 else none : Option Int) = some (k : Int) := by
    match k, h0, h4 with
    | 1, _, _ => decide
    | 2, _, _ => decide
    | 3, _, _ => decide
  match r with
  | [] => simp [subsF, e0]
  | [b] =>
    simp only [subsF, e]
    cases numF n <;> rfl
  | _ :: _ :: _ => rfl
theorem subs_strange {ws : List Word} {n f : Word} {r : List Word} (h : ws = n :: f :: r) (hk : ∀ k, k < 4 → filtW k ≠ f) : subsF ws = none := by
  subst h
  have h0 : ¬ f = wAll := fun e => hk 0 (by omega) e.symm
  have h1 : ¬ f = wWriter := fun e => hk 1 (by omega) e.symm
  have h2 : ¬ f = wRange := fun e => hk 2 (by omega) e.symm
  have h3 : ¬ f = wEach := fun e => hk 3 (by omega) e.symm
  match r with
  | [] => simp [subsF, h0]
  | [b] => simp [subsF, h1, h2, h3]
  | _ :: _ :: _ => rfl

set_option maxRecDepth 100000 in
set_option maxHeartbeats 8000000 in
theorem subscribes_walk (N : Nat) (ao : Option Addr) (ws : List Word) (c : Nat) (w : World) (hE : Env N w) (hw : WordsAt w ao ws) (hs : Short ws) :
    Calls Tryd.prog 85 #[.slice ao ws.length c] w (SaidD (subsF ws) w) := by
  by_cases hl : ws.length < 2
  · have HO := Lib.hid (subs_none0 hl)
    have hl' : (ws.length : Int) < 2 := by omega
    generalize subsF ws = o at *
    clear hw hs hl
    generalize ws.length = l at *
    go_enter Tryd.func85, Tryd.ntmps85
    go_wp2_with fail
    refine bodyPost_ret (results_cell_tmp1 (fn := Tryd.f85) (p := 2) (u := 3) (ty := 65) rfl _ _ _ _ ⟨w.heap.size, 0, none⟩ rfl (load_op _ w.heap.size 0 0 0 0 (by go_simp) (by go_simp) (by go_simp) (by go_simp))) rfl ⟨0, 0, 0, 0, (by rw [HO.out]; rfl), (fun p hp => by rw [HO.out] at hp; cases hp), ?_⟩
    exact (Below.refl _ _).alloc (Nat.le_refl _) _
  · obtain ⟨n, f, r, rfl⟩ : ∃ n f r, ws = n :: f :: r := by
      match ws, hl with
      | [], h => simp at h
      | [_], h => simp at h
      | n :: f :: r, _ => exact ⟨n, f, r, rfl⟩
    obtain ⟨gw, ow, rfl, hc⟩ := hw.resolve_left (by simp)
    have c0 : w.cell? ⟨gw, ow, none⟩ = some (.string ⟨n.toArray⟩) := hc 0 (by simp)
    have c1 : w.cell? ⟨gw, ow + 1, none⟩ = some (.string ⟨f.toArray⟩) := hc 1 (by simp)
    have hclt := World.block_lt_of_cell? w _ c0
    have hb0 : Below w.heap.size w (w.alloc (.cells #[.int .i64 0, .int .i64 0, .int .i64 0, .int .i64 0] 65)) := (Below.refl _ _).alloc (Nat.le_refl _) _
    have hE0 := hE.below (hb0.mono hE.nw) hb0.size
    have HN0 : Hid (Calls Tryd.prog 68 #[.string ⟨n.toArray⟩] (w.alloc (.cells #[.int .i64 0, .int .i64 0, .int .i64 0, .int .i64 0] 65)) (NumD (numF n) (w.alloc (.cells #[.int .i64 0, .int .i64 0, .int .i64 0, .int .i64 0] 65)))) :=
      Lib.hid (by simpa using number_walk ⟨n.toArray⟩ N _ (by rw [size_mk]; exact hs n (by simp)) hE0)
    have HC0 := Lib.hid c0
    have HC1 := Lib.hid c1
    have HC2 : Hid (∀ b : Word, r = [b] → w.cell? ⟨gw, ow + 2, none⟩ = some (.string ⟨b.toArray⟩)) := Lib.hid (fun b e => by subst e; exact hc 2 (by simp))
    have HSH : Hid (∀ b : Word, r = [b] → b.length ≤ 4000000000) := Lib.hid (fun b e => by subst e; exact hs b (by simp))
    have HB0 := Lib.hid hb0
    have HE0 := Lib.hid hE0
    have HO : Hid (∃ o, o = subsF (n :: f :: r)) := Lib.hid ⟨_, rfl⟩
    have HAL : Hid (f = wAll → subsF (n :: f :: r) = if r = [] then (numF n).map (fun n => ⟨4, n, 0, 0⟩) else none) := Lib.hid (fun e => by subst e; exact subs_all rfl)
    have HOT := Lib.hid (fun k hk h0 h4 => subs_other (ws := n :: f :: r) rfl k hk h0 h4)
    have HST := Lib.hid (fun hk => subs_strange (ws := n :: f :: r) rfl hk)
    have HRB := Lib.hid (heap_alloc_new w (.cells #[.int .i64 0, .int .i64 0, .int .i64 0, .int .i64 0] 65))
    have HC0a : Hid ((w.alloc (.cells #[.int .i64 0, .int .i64 0, .int .i64 0, .int .i64 0] 65)).cell? ⟨gw, ow, none⟩ = some (.string ⟨n.toArray⟩)) := Lib.hid ((hb0.cell (p := ⟨gw, ow, none⟩) hclt).trans c0)
    have HLEN : Hid ((n :: f :: r).length = r.length + 2) := rfl
    generalize hL : (n :: f :: r).length = L at *
    have hL2 : ¬ (L : Int) < 2 := by omega
    have hLm : L < 9223372036854775807 ∨ True := .inr trivial
    generalize subsF (n :: f :: r) = o at *
    have HWB := Lib.hid hb0.size
    clear hw hs hc c0 c1 hb0 hE0 hl hL hLm
    go_enter Tryd.func85, Tryd.ntmps85
    go_upto_region 1 with fail
    generalize w.alloc (.cells #[.int .i64 0, .int .i64 0, .int .i64 0, .int .i64 0] 65) = W0 at *
    have c0 := HC0a.out
    go_wp2_with fail
    refine HN0.out.mono ?_
    rintro e w1 ⟨nn, rfl, hnn, hb1⟩
    have HNN := Lib.hid hnn
    have HB1 : Hid (Below w.heap.size w w1) := Lib.hid (HB0.out.trans (hb1.mono HWB.out))
    have HRB1 := Lib.hid ((hb1.block w.heap.size (Array.getElem?_eq_some_iff.1 HRB.out).1).trans HRB.out)
    have HE1 := Lib.hid (HE0.out.up hb1)
    clear c0 hnn hb1
    generalize hrb : w.heap.size = rb at *
    have HRBE := Lib.hid hrb
    clear hrb
    go_wp2_with fail
    refine (filters_walk w1).mono ?_
    rintro e w2 ⟨rfl, hw2⟩
    have hb2 : Below w1.heap.size w1 w2 := by rw [hw2]; exact (Below.refl _ _).alloc (Nat.le_refl _) _
    have HFV : Hid (w2.heap[w1.heap.size]? = some (.cells filtVals 9 (0, 0))) := Lib.hid (by rw [hw2]; exact heap_alloc_new w1 _)
    have HB2 : Hid (Below rb w w2) := Lib.hid (HB1.out.trans (hb2.mono (by have := HB1.out.size; have := HRBE.out; omega)))
    have HRB2 := Lib.hid ((hb2.block rb (Array.getElem?_eq_some_iff.1 HRB1.out).1).trans HRB1.out)
    have HE2 := Lib.hid (HE1.out.up hb2)
    clear hw2 hb2
    generalize w1.heap.size = fb at *
    have c1 : w2.cell? ⟨gw, ow + 1, none⟩ = some (.string ⟨f.toArray⟩) := (HB2.out.cell (p := ⟨gw, ow + 1, none⟩) (by show gw < rb; have := HRBE.out; omega)).trans HC1.out
    have r0 := (cell_of HRB2.out 0).trans rfl
    have r1 := (cell_of HRB2.out 1).trans rfl
    have r2 := (cell_of HRB2.out 2).trans rfl
    have r3 := (cell_of HRB2.out 3).trans rfl
    have r4 := free_of HRB2.out
    go_wp2_with fail
    go_loop [23] (fun iv => ∃ k : Nat, k ≤ 4 ∧ iv = .int .i64 k ∧ ∀ j, j < k → filtW j ≠ f) (fun iv => 4 - (intOf iv).toNat)
    case atStart => exact ⟨0, by omega, rfl, fun j hj => by omega⟩
    case round =>
      obtain ⟨k, hk, rfl, hno⟩ := hrel
      have HNO := Lib.hid hno
      clear hno
      by_cases hlt : k < 4
      · have hf1 := (cell_of HFV.out k).trans (filt_get k hlt)
        generalize hfk : filtW k = fk at *
        have HFK := Lib.hid hfk
        clear hfk
        by_cases hfe : fk = f
        · subst hfe
          have h3 : Below w2.heap.size w2 (w2.alloc (.cells #[.int .i64 4, .int .i64 nn, .int .i64 0, .int .i64 k] 65)) := (Below.refl _ _).alloc (Nat.le_refl _) _
          have HRB3 := Lib.hid ((h3.block rb (Array.getElem?_eq_some_iff.1 HRB2.out).1).trans HRB2.out)
          have HB3 : Hid (Below rb w (w2.alloc (.cells #[.int .i64 4, .int .i64 nn, .int .i64 0, .int .i64 k] 65))) := Lib.hid (HB2.out.trans (h3.mono (by have := (Array.getElem?_eq_some_iff.1 HRB2.out).1; omega)))
          have HOB := Lib.hid (heap_alloc_new w2 (.cells #[.int .i64 4, .int .i64 nn, .int .i64 0, .int .i64 k] 65))
          have HE3 := Lib.hid (HE2.out.up h3)
          have HRO : Hid (rb < w2.heap.size) := Lib.hid (Array.getElem?_eq_some_iff.1 HRB2.out).1
          clear h3
          go_upto_region 9 with fail
          generalize w2.alloc (.cells #[.int .i64 4, .int .i64 nn, .int .i64 0, .int .i64 k] 65) = w3 at *
          generalize w2.heap.size = ob at *
          have g0 := (cell_of HRB3.out 0).trans rfl
          have g1 := (cell_of HRB3.out 1).trans rfl
          have g2 := (cell_of HRB3.out 2).trans rfl
          have g3 := (cell_of HRB3.out 3).trans rfl
          have g4 := free_of HRB3.out
          have o0 := (cell_of HOB.out 0).trans rfl
          have o1 := (cell_of HOB.out 1).trans rfl
          have o2 := (cell_of HOB.out 2).trans rfl
          have o3 := (cell_of HOB.out 3).trans rfl
          have o4 := free_of HOB.out
          clear r0 r1 r2 r3 r4 c1 hf1
          by_cases hk0 : k = 0
          · subst hk0
            have HA := Lib.hid (HAL.out HFK.out.symm)
            have hst := store_op HRB3.out rfl HB3.out (Nat.le_refl _) (.int .i64 4) (.int .i64 nn) (.int .i64 0) (.int .i64 0)
            have HS1 := Lib.hid hst.1
            have HS2 := Lib.hid hst.2
            clear hst
            cases hn : numF n with
            | none =>
              have HON : Hid (o = none) := Lib.hid (by rw [HA.out, hn]; split <;> rfl)
              go_wp2_with fail
              refine bodyPost_ret (results_cell_tmp1 (fn := Tryd.f85) (p := 2) (u := 3) (ty := 65) rfl _ _ _ _ ⟨rb, 0, none⟩ rfl (load_stored HS1.out)) rfl ⟨4, nn, 0, 0, (by rw [HON.out]; rfl), (fun p hp => by rw [HON.out] at hp; cases hp), ?_⟩
              rw [HRBE.out]
              exact HS2.out
            | some n' =>
              obtain rfl := HNN.out n' hn
              by_cases hL3 : L = 2
              · have hr : r = [] := List.eq_nil_of_length_eq_zero (by have := HLEN.out; omega)
                have HON : Hid (o = some ⟨4, nn, 0, 0⟩) := Lib.hid (by rw [HA.out, hn, if_pos hr]; rfl)
                have hLb : ((L : Int) == 2) = true := by rw [beq_iff_eq]; omega
                clear hL3 hn
                go_wp2_with fail
                refine bodyPost_ret (results_cell_tmp1 (fn := Tryd.f85) (p := 2) (u := 3) (ty := 65) rfl _ _ _ _ ⟨rb, 0, none⟩ rfl (load_stored HS1.out)) rfl ⟨4, nn, 0, 0, (by rw [HON.out]; rfl), (fun p hp => by rw [HON.out] at hp; cases hp; rfl), ?_⟩
                rw [HRBE.out]
                exact HS2.out
              · have hr : r ≠ [] := fun h => by have := HLEN.out; rw [h] at this; simp at this; omega
                have HON : Hid (o = none) := Lib.hid (by rw [HA.out, if_neg hr])
                have hLb : ((L : Int) == 2) = false := by rw [beq_eq_false_iff_ne]; omega
                clear hL3 hn hr
                go_wp2_with fail
                refine bodyPost_ret (results_cell_tmp1 (fn := Tryd.f85) (p := 2) (u := 3) (ty := 65) rfl _ _ _ _ ⟨rb, 0, none⟩ rfl (load_stored HS1.out)) rfl ⟨4, nn, 0, 0, (by rw [HON.out]; rfl), (fun p hp => by rw [HON.out] at hp; cases hp), ?_⟩
                rw [HRBE.out]
                exact HS2.out
          · have HOR := Lib.hid (HOT.out k HFK.out.symm (by omega) hlt)
            have hkb : ((k : Int) == 0) = false := by rw [beq_eq_false_iff_ne]; omega
            clear hk0
            by_cases hL3 : L = 3
            · obtain ⟨b, rfl⟩ : ∃ b, r = [b] := by
                have := HLEN.out
                match r, this with
                | [], h => simp at h; omega
                | [b], _ => exact ⟨b, rfl⟩
                | _ :: _ :: _, h => simp at h; omega
              have hLb : ((L : Int) != 3) = false := by simp; omega
              have c2 : w3.cell? ⟨gw, ow + 2, none⟩ = some (.string ⟨b.toArray⟩) := (HB3.out.cell (p := ⟨gw, ow + 2, none⟩) (by show gw < rb; have := HRBE.out; omega)).trans (HC2.out b rfl)
              have HNB : Hid (Calls Tryd.prog 68 #[.string ⟨b.toArray⟩] w3 (NumD (numF b) w3)) := Lib.hid (by simpa using number_walk ⟨b.toArray⟩ N w3 (by rw [size_mk]; exact HSH.out b rfl) HE3.out)
              have hL4 : (2 : Int) < (L : Int) := by omega
              clear hL3
              go_wp2_with fail
              refine HNB.out.mono ?_
              rintro e w4 ⟨nb, rfl, hnb, hb4⟩
              have HNB2 := Lib.hid hnb
              have HOB4 := Lib.hid ((hb4.block ob (Array.getElem?_eq_some_iff.1 HOB.out).1).trans HOB.out)
              have HRB4 := Lib.hid ((hb4.block rb (Array.getElem?_eq_some_iff.1 HRB3.out).1).trans HRB3.out)
              have HB4 : Hid (Below rb w w4) := Lib.hid (HB3.out.trans (hb4.mono (by have := (Array.getElem?_eq_some_iff.1 HRB3.out).1; omega)))
              have HOB5 := Lib.hid (set_at HOB4.out 2 (.int .i64 nb))
              have HRB5 : Hid ((w4.setCell ⟨ob, 2, none⟩ (.int .i64 nb)).heap[rb]? = some (.cells #[.int .i64 0, .int .i64 0, .int .i64 0, .int .i64 0] 65 (0, 0))) := Lib.hid ((Below.heap_setCell _ _ _ _ (by have := HRO.out; show rb ≠ ob; omega)).trans HRB4.out)
              have HB5 : Hid (Below rb w (w4.setCell ⟨ob, 2, none⟩ (.int .i64 nb))) := Lib.hid (HB4.out.setCell (by have := HRO.out; show rb ≤ ob; omega) _)
              have hst := store_op HRB5.out rfl HB5.out (Nat.le_refl _) (.int .i64 4) (.int .i64 nn) (.int .i64 nb) (.int .i64 k)
              have HS1 := Lib.hid hst.1
              have HS2 := Lib.hid hst.2
              have i2 := (cell_of HOB4.out 2).trans rfl
              have i4 := free_of HOB4.out
              clear hst hnb hb4 g0 g1 g2 g3 g4 o0 o1 o2 o3 o4 c2
              go_upto_region 15 with fail
              generalize w4.setCell ⟨ob, 2, none⟩ (.int .i64 nb) = w5 at *
              have g0 := (cell_of HRB5.out 0).trans rfl
              have g1 := (cell_of HRB5.out 1).trans rfl
              have g2 := (cell_of HRB5.out 2).trans rfl
              have g3 := (cell_of HRB5.out 3).trans rfl
              have g4 := free_of HRB5.out
              have o0 := (cell_of HOB5.out 0).trans rfl
              have o1 := (cell_of HOB5.out 1).trans rfl
              have o2 := (cell_of HOB5.out 2).trans rfl
              have o3 := (cell_of HOB5.out 3).trans rfl
              clear i2 i4
              have HO1 : Hid (o = (numF n).bind fun n => (numF b).map fun b => ⟨4, n, b, (k : Int)⟩) := Lib.hid HOR.out
              cases hn : numF n with
              | none =>
                have HON : Hid (o = none) := Lib.hid (by rw [HO1.out, hn]; rfl)
                clear hn
                go_wp2_with fail
                refine bodyPost_ret (results_cell_tmp1 (fn := Tryd.f85) (p := 2) (u := 3) (ty := 65) rfl _ _ _ _ ⟨rb, 0, none⟩ rfl (load_stored HS1.out)) rfl ⟨4, nn, nb, k, (by rw [HON.out]; rfl), (fun p hp => by rw [HON.out] at hp; cases hp), ?_⟩
                rw [HRBE.out]
                exact HS2.out
              | some n' =>
                obtain rfl := HNN.out n' hn
                cases hb : numF b with
                | none =>
                  have HON : Hid (o = none) := Lib.hid (by rw [HO1.out, hn, hb]; rfl)
                  clear hn hb
                  go_wp2_with fail
                  refine bodyPost_ret (results_cell_tmp1 (fn := Tryd.f85) (p := 2) (u := 3) (ty := 65) rfl _ _ _ _ ⟨rb, 0, none⟩ rfl (load_stored HS1.out)) rfl ⟨4, nn, nb, k, (by rw [HON.out]; rfl), (fun p hp => by rw [HON.out] at hp; cases hp), ?_⟩
                  rw [HRBE.out]
                  exact HS2.out
                | some b' =>
                  obtain rfl := HNB2.out b' hb
                  have HON : Hid (o = some ⟨4, nn, nb, k⟩) := Lib.hid (by rw [HO1.out, hn, hb]; rfl)
                  clear hn hb
                  go_wp2_with fail
                  refine bodyPost_ret (results_cell_tmp1 (fn := Tryd.f85) (p := 2) (u := 3) (ty := 65) rfl _ _ _ _ ⟨rb, 0, none⟩ rfl (load_stored HS1.out)) rfl ⟨4, nn, nb, k, (by rw [HON.out]; rfl), (fun p hp => by rw [HON.out] at hp; cases hp; rfl), ?_⟩
                  rw [HRBE.out]
                  exact HS2.out
            · have HON : Hid (o = none) := Lib.hid (by
                rw [HOR.out]
                have := HLEN.out
                match r, this with
                | [], _ => rfl
                | [b], h => simp at h; omega
                | _ :: _ :: _, _ => rfl)
              have hLb : ((L : Int) != 3) = true := by simp; omega
              have hst := store_op HRB3.out rfl HB3.out (Nat.le_refl _) (.int .i64 0) (.int .i64 0) (.int .i64 0) (.int .i64 0)
              have HS1 := Lib.hid hst.1
              have HS2 := Lib.hid hst.2
              clear hst hL3
              go_wp2_with fail
              refine bodyPost_ret (results_cell_tmp1 (fn := Tryd.f85) (p := 2) (u := 3) (ty := 65) rfl _ _ _ _ ⟨rb, 0, none⟩ rfl (load_stored HS1.out)) rfl ⟨0, 0, 0, 0, (by rw [HON.out]; rfl), (fun p hp => by rw [HON.out] at hp; cases hp), ?_⟩
              rw [HRBE.out]
              exact HS2.out
        · have hbb : (fk == f) = false := beq_eq_false_iff_ne.2 hfe
          have HNE : Hid (∀ j, j < k + 1 → filtW j ≠ f) := Lib.hid (fun j hj => by
            by_cases e : j = k
            · subst e; rw [HFK.out]; exact hfe
            · exact HNO.out j (by omega))
          clear hfe
          go_wp2_with fail
          go_round
          case rel => exact ⟨k + 1, by omega, by go_num, HNE.out⟩
          case measure => simp [intOf]; omega
      · obtain rfl : k = 4 := by omega
        have HON : Hid (o = none) := Lib.hid (HST.out (fun j hj => HNO.out j hj))
        have hst := store_op HRB2.out rfl HB2.out (Nat.le_refl _) (.int .i64 0) (.int .i64 0) (.int .i64 0) (.int .i64 0)
        have HS1 := Lib.hid hst.1
        have HS2 := Lib.hid hst.2
        clear hst
        go_wp2_with fail
        refine bodyPost_ret (results_cell_tmp1 (fn := Tryd.f85) (p := 2) (u := 3) (ty := 65) rfl _ _ _ _ ⟨rb, 0, none⟩ rfl (load_stored HS1.out)) rfl ⟨0, 0, 0, 0, (by rw [HON.out]; rfl), (fun p hp => by rw [HON.out] at hp; cases hp), ?_⟩
        rw [HRBE.out]
        exact HS2.out
end Go.Proofs.YtdmhlhoimaeacaaDoor

/-
  The forms of what is said, as the program lays them.
-/
namespace Go.Proofs.YtdmhlhoimaeacaaDoor
open Go.RowKit Go.Maps
set_option linter.unusedVariables false

def formVals : Array Value := #[.string ⟨#[111, 112, 101, 110]⟩, .int .i64 1, .int .i64 (-9223372036854775808), .int .i64 0, .int .i64 0, .int .i64 9223372036854775807, .int .i64 65536, .int .i64 0, .int .i64 2,
  .string ⟨#[99, 108, 111, 115, 101]⟩, .int .i64 2, .int .i64 (-9223372036854775808), .int .i64 0, .int .i64 0, .int .i64 9223372036854775807, .int .i64 0, .int .i64 0, .int .i64 1,
  .string ⟨#[112, 117, 98, 108, 105, 115, 104]⟩, .int .i64 3, .int .i64 (-9223372036854775808), .int .i64 (-9223372036854775808), .int .i64 0, .int .i64 9223372036854775807, .int .i64 9223372036854775807, .int .i64 65536, .int .i64 3,
  .string ⟨#[102, 111, 108, 108, 111, 119]⟩, .int .i64 5, .int .i64 (-9223372036854775808), .int .i64 (-9223372036854775808), .int .i64 0, .int .i64 9223372036854775807, .int .i64 9223372036854775807, .int .i64 0, .int .i64 2,
  .string ⟨#[112, 111, 108, 108]⟩, .int .i64 6, .int .i64 0, .int .i64 0, .int .i64 0, .int .i64 2147483647, .int .i64 2147483647, .int .i64 0, .int .i64 2,
  .string ⟨#[101, 110, 100]⟩, .int .i64 7, .int .i64 0, .int .i64 0, .int .i64 0, .int .i64 2147483647, .int .i64 0, .int .i64 0, .int .i64 1]
set_option maxRecDepth 100000 in
set_option maxHeartbeats 4000000 in
theorem forms_walk (w : World) : Calls Tryd.prog 64 #[] w fun e w' => e = .returned (.slice (some ⟨w.heap.size, 0, none⟩) 6 6) ∧ w' = w.alloc (.cells formVals 118) := by
  go_enter Tryd.func64, Tryd.ntmps64
  go_wp2_with fail
  go_ret
  exact ⟨rfl, rfl⟩
end Go.Proofs.YtdmhlhoimaeacaaDoor

/-
  What a line's words say: forms, said (the program's).
-/
namespace Go.Proofs.YtdmhlhoimaeacaaDoor
open Go.RowKit Go.Maps
set_option linter.unusedVariables false

def formOf (k : Nat) : Form := formsF.getD k default
def lowOf (k j : Nat) : Int := ((formOf k).bounds.getD j (0, 0)).1
def highOf (k j : Nat) : Int := ((formOf k).bounds.getD j (0, 0)).2
def formCells (k : Nat) : List Value := [.string ⟨(formOf k).word.toArray⟩, .int .i64 (formOf k).kind, .int .i64 (lowOf k 0), .int .i64 (lowOf k 1), .int .i64 (lowOf k 2), .int .i64 (highOf k 0), .int .i64 (highOf k 1), .int .i64 (highOf k 2), .int .i64 (formOf k).bounds.length]
theorem form_get (k j : Nat) (hk : k < 6) (hj : j < 9) : formVals[k * 9 + j]? = (formCells k)[j]? := by
  rcases (by omega : k = 0 ∨ k = 1 ∨ k = 2 ∨ k = 3 ∨ k = 4 ∨ k = 5) with rfl | rfl | rfl | rfl | rfl | rfl <;>
    rcases (by omega : j = 0 ∨ j = 1 ∨ j = 2 ∨ j = 3 ∨ j = 4 ∨ j = 5 ∨ j = 6 ∨ j = 7 ∨ j = 8) with rfl | rfl | rfl | rfl | rfl | rfl | rfl | rfl | rfl <;> rfl
theorem form_len (k : Nat) (hk : k < 6) : 1 ≤ (formOf k).bounds.length ∧ (formOf k).bounds.length ≤ 3 := by
  rcases (by omega : k = 0 ∨ k = 1 ∨ k = 2 ∨ k = 3 ∨ k = 4 ∨ k = 5) with rfl | rfl | rfl | rfl | rfl | rfl <;> decide
theorem find_at {x : Word} {k : Nat} (hk : k < 6) (hno : ∀ j, j < k → (formOf j).word ≠ x) (he : (formOf k).word = x) : formsF.find? (fun f => f.word = x) = some (formOf k) := by
  have hl : formsF.length = 6 := rfl
  have hg : ∀ j (h : j < 6), formsF[j]'(by omega) = formOf j := fun j h => by unfold formOf; simp [List.getD, hl, h]
  rw [List.find?_eq_some_iff_getElem]
  refine ⟨by simpa using he, k, by omega, hg k hk, fun j hj => ?_⟩
  rw [hg j (by omega)]
  simpa using hno j hj
theorem find_none {x : Word} (hno : ∀ j, j < 6 → (formOf j).word ≠ x) : formsF.find? (fun f => f.word = x) = none := by
  rw [List.find?_eq_none]
  intro f hf
  obtain ⟨j, hj, rfl⟩ := List.getElem_of_mem hf
  have hl : formsF.length = 6 := rfl
  have := hno j (by omega)
  unfold formOf at this
  simp only [List.getD, List.getElem?_eq_getElem hj, Option.getD_some] at this
  simpa using this
theorem nums_len : ∀ {ws : List Word} {bs : List (Int × Int)}, ws.length ≠ bs.length → numsF ws bs = none
  | [], [], h => by simp at h
  | [], _ :: _, _ => rfl
  | _ :: _, [], _ => rfl
  | w :: ws, b :: bs, h => by
    have := nums_len (ws := ws) (bs := bs) (by simpa using h)
    simp only [numsF, this]
    cases withinF w b.1 b.2 <;> rfl
theorem nums_some : ∀ {ws : List Word} {bs : List (Int × Int)} {l : List Int}, ws.length = bs.length → l.length = bs.length → (∀ j, j < bs.length → withinF (ws.getD j default) (bs.getD j (0, 0)).1 (bs.getD j (0, 0)).2 = some (l.getD j 0)) → numsF ws bs = some l
  | [], [], [], _, _, _ => rfl
  | [], [], _ :: _, _, h, _ => by simp at h
  | [], _ :: _, _, h, _, _ => by simp at h
  | _ :: _, [], _, h, _, _ => by simp at h
  | w :: ws, b :: bs, [], _, h, _ => by simp at h
  | w :: ws, b :: bs, n :: l, h1, h2, h => by
    have h0 := h 0 (by simp)
    have ih := nums_some (ws := ws) (bs := bs) (l := l) (by simpa using h1) (by simpa using h2) (fun j hj => by simpa using h (j + 1) (by simpa using hj))
    simp only [List.getD_cons_zero] at h0
    simp only [numsF, h0, ih]
    rfl
theorem nums_none : ∀ {ws : List Word} {bs : List (Int × Int)} (j : Nat), j < bs.length → withinF (ws.getD j default) (bs.getD j (0, 0)).1 (bs.getD j (0, 0)).2 = none → numsF ws bs = none
  | [], [], j, h, _ => by simp at h
  | [], _ :: _, _, _, _ => rfl
  | _ :: _, [], j, h, _ => by simp at h
  | w :: ws, b :: bs, 0, _, h => by
    simp only [List.getD_cons_zero] at h
    simp only [numsF, h]
    rfl
  | w :: ws, b :: bs, j + 1, hj, h => by
    have ih := nums_none (ws := ws) (bs := bs) j (by simpa using hj) (by simpa using h)
    simp only [numsF, ih]
    cases withinF w b.1 b.2 <;> rfl
theorem said_sub (ws : List Word) : saidF (wSubscribe :: ws) = subsF ws := by simp [saidF]
theorem said_form {x : Word} {ws : List Word} (hx : x ≠ wSubscribe) : saidF (x :: ws) = (formsF.find? fun f => f.word = x).bind fun f => (numsF ws f.bounds).map (opnOf f.kind) := by simp [saidF, hx]

set_option maxRecDepth 100000 in
set_option maxHeartbeats 8000000 in
theorem said_walk (N : Nat) (ao : Option Addr) (ws : List Word) (c : Nat) (w : World) (hE : Env N w) (hw : WordsAt w ao ws) (hs : Short ws) (hcap : ws.length ≤ c) (hc2 : c ≤ 9000000000) :
    Calls Tryd.prog 71 #[.slice ao ws.length c] w (SaidD (saidF ws) w) := by
  cases ws with
  | nil =>
    clear hw hs
    go_enter Tryd.func71, Tryd.ntmps71
    go_wp2_with fail
    refine bodyPost_ret (results_cell_tmp1 (fn := Tryd.f71) (p := 2) (u := 3) (ty := 65) rfl _ _ _ _ ⟨w.heap.size, 0, none⟩ rfl (load_op _ w.heap.size 0 0 0 0 (by go_simp) (by go_simp) (by go_simp) (by go_simp))) rfl ⟨0, 0, 0, 0, rfl, (fun p hp => by cases hp), ?_⟩
    exact (Below.refl _ _).alloc (Nat.le_refl _) _
  | cons x ws =>
    obtain ⟨gw, ow, rfl, hc⟩ := hw.resolve_left (by simp)
    have c0 : w.cell? ⟨gw, ow, none⟩ = some (.string ⟨x.toArray⟩) := hc 0 (by simp)
    have hclt := World.block_lt_of_cell? w _ c0
    have HC0w := Lib.hid c0
    have hb0 : Below w.heap.size w (w.alloc (.cells #[.int .i64 0, .int .i64 0, .int .i64 0, .int .i64 0] 65)) := (Below.refl _ _).alloc (Nat.le_refl _) _
    have HE0 := Lib.hid (hE.below (hb0.mono hE.nw) hb0.size)
    have HB0 := Lib.hid hb0
    have HRB := Lib.hid (heap_alloc_new w (.cells #[.int .i64 0, .int .i64 0, .int .i64 0, .int .i64 0] 65))
    have HC0a : Hid ((w.alloc (.cells #[.int .i64 0, .int .i64 0, .int .i64 0, .int .i64 0] 65)).cell? ⟨gw, ow, none⟩ = some (.string ⟨x.toArray⟩)) := Lib.hid ((hb0.cell (p := ⟨gw, ow, none⟩) hclt).trans c0)
    have HWS : Hid (∀ W, Below w.heap.size w W → ∀ j, j < ws.length → W.cell? ⟨gw, ow + (j + 1), none⟩ = some (.string ⟨(ws.getD j default).toArray⟩)) := Lib.hid (fun W hW j hj => by
      have h1 := hc (j + 1) (by simpa using hj)
      have h2 := (hW.cell (p := ⟨gw, ow + (j + 1), none⟩) (World.block_lt_of_cell? w _ h1)).trans h1
      simpa using h2)
    have HSH : Hid (Short ws) := Lib.hid (fun y hy => hs y (List.mem_cons_of_mem _ hy))
    have HRBS : Hid (w.heap.size < (w.alloc (.cells #[.int .i64 0, .int .i64 0, .int .i64 0, .int .i64 0] 65)).heap.size) := Lib.hid (by simp)
    have hlc : ws.length + 1 ≤ c := by simpa using hcap
    have HLEN : Hid ((x :: ws).length = ws.length + 1) := rfl
    generalize hL : (x :: ws).length = L at *
    have hL1 : ((L : Int) == 0) = false := by rw [beq_eq_false_iff_ne]; have := HLEN.out; omega
    have hLL : L = ws.length + 1 := HLEN.out
    have hL0 : 0 < L := by omega
    clear hw hs hc c0 hb0 hL hcap
    by_cases hx : x = wSubscribe
    · have HO : Hid (saidF (x :: ws) = subsF ws) := Lib.hid (by rw [hx]; exact said_sub ws)
      have HW1 : Hid (WordsAt (w.alloc (.cells #[.int .i64 0, .int .i64 0, .int .i64 0, .int .i64 0] 65)) (some ⟨gw, ow + 1, none⟩) ws) := Lib.hid (by
        refine .inr ⟨gw, ow + 1, rfl, fun j hj => ?_⟩
        have h := HWS.out _ HB0.out j hj
        rw [show ow + 1 + j = ow + (j + 1) by omega]
        exact h)
      have HSU : Hid (∀ (c' : Nat) (ao : Option Addr), WordsAt (w.alloc (.cells #[.int .i64 0, .int .i64 0, .int .i64 0, .int .i64 0] 65)) ao ws → Calls Tryd.prog 85 #[.slice ao ws.length c'] (w.alloc (.cells #[.int .i64 0, .int .i64 0, .int .i64 0, .int .i64 0] 65)) (SaidD (subsF ws) (w.alloc (.cells #[.int .i64 0, .int .i64 0, .int .i64 0, .int .i64 0] 65)))) :=
        Lib.hid (fun c' ao h => subscribes_walk N ao ws c' _ HE0.out h HSH.out)
      subst hx
      generalize subsF ws = o at *
      generalize saidF (wSubscribe :: ws) = o' at *
      have hsubs : wSubscribe = [115, 117, 98, 115, 99, 114, 105, 98, 101] := rfl
      rw [hsubs] at HC0a HC0w
      clear hsubs
      by_cases hc1 : c = 1
      · subst hc1
        have hws : ws = [] := List.eq_nil_of_length_eq_zero (by omega)
        subst hws
        have HSUB := Lib.hid (HSU.out 0 (some ⟨gw, ow, none⟩) (.inl rfl))
        simp only [List.length_nil] at HSUB hLL
        subst hLL
        go_enter Tryd.func71, Tryd.ntmps71
        go_upto_region 1 with fail
        generalize w.alloc (.cells #[.int .i64 0, .int .i64 0, .int .i64 0, .int .i64 0] 65) = W0 at *
        have c0 := HC0a.out
        generalize hrb : w.heap.size = rb at *
        have HRBE := Lib.hid hrb
        clear hrb
        go_wp2_with fail
        refine HSUB.out.mono ?_
        rintro e w1 ⟨p1, p2, p3, p4, rfl, hp, hb1⟩
        have HP := Lib.hid hp
        have HRB1 := Lib.hid ((hb1.block rb (Array.getElem?_eq_some_iff.1 HRB.out).1).trans HRB.out)
        have HB1 : Hid (Below rb w w1) := Lib.hid (HB0.out.trans (hb1.mono (Nat.le_of_lt HRBS.out)))
        have hst := store_op HRB1.out rfl HB1.out (Nat.le_refl _) (.int .i64 p1) (.int .i64 p2) (.int .i64 p3) (.int .i64 p4)
        have HS1 := Lib.hid hst.1
        have HS2 := Lib.hid hst.2
        have r0 := (cell_of HRB1.out 0).trans rfl
        have r1 := (cell_of HRB1.out 1).trans rfl
        have r2 := (cell_of HRB1.out 2).trans rfl
        have r3 := (cell_of HRB1.out 3).trans rfl
        have r4 := free_of HRB1.out
        clear hst hp hb1 c0
        go_wp2_with fail
        refine bodyPost_ret (results_cell_tmp1 (fn := Tryd.f71) (p := 2) (u := 3) (ty := 65) rfl _ _ _ _ ⟨rb, 0, none⟩ rfl (load_stored HS1.out)) rfl ⟨p1, p2, p3, p4, (by rw [HO.out]; rfl), (fun p hp => HP.out p (by rw [← HO.out]; exact hp)), ?_⟩
        rw [HRBE.out]
        exact HS2.out
      · have HSUB := Lib.hid (HSU.out (c - 1) _ HW1.out)
        generalize ws.length = lw at *
        subst hLL
        have hc3 : 1 < c := by omega
        have hc4 : 1 ≤ c := by omega
        have hc5 : ¬ c = 1 := hc1
        go_enter Tryd.func71, Tryd.ntmps71
        go_upto_region 1 with fail
        generalize w.alloc (.cells #[.int .i64 0, .int .i64 0, .int .i64 0, .int .i64 0] 65) = W0 at *
        have c0 := HC0a.out
        generalize hrb : w.heap.size = rb at *
        have HRBE := Lib.hid hrb
        clear hrb
        go_wp2_with fail
        refine HSUB.out.mono ?_
        rintro e w1 ⟨p1, p2, p3, p4, rfl, hp, hb1⟩
        have HP := Lib.hid hp
        have HRB1 := Lib.hid ((hb1.block rb (Array.getElem?_eq_some_iff.1 HRB.out).1).trans HRB.out)
        have HB1 : Hid (Below rb w w1) := Lib.hid (HB0.out.trans (hb1.mono (Nat.le_of_lt HRBS.out)))
        have hst := store_op HRB1.out rfl HB1.out (Nat.le_refl _) (.int .i64 p1) (.int .i64 p2) (.int .i64 p3) (.int .i64 p4)
        have HS1 := Lib.hid hst.1
        have HS2 := Lib.hid hst.2
        have r0 := (cell_of HRB1.out 0).trans rfl
        have r1 := (cell_of HRB1.out 1).trans rfl
        have r2 := (cell_of HRB1.out 2).trans rfl
        have r3 := (cell_of HRB1.out 3).trans rfl
        have r4 := free_of HRB1.out
        clear hst hp hb1 c0
        go_wp2_with fail
        refine bodyPost_ret (results_cell_tmp1 (fn := Tryd.f71) (p := 2) (u := 3) (ty := 65) rfl _ _ _ _ ⟨rb, 0, none⟩ rfl (load_stored HS1.out)) rfl ⟨p1, p2, p3, p4, (by rw [HO.out]; rfl), (fun p hp => HP.out p (by rw [← HO.out]; exact hp)), ?_⟩
        rw [HRBE.out]
        exact HS2.out
    · have HO := Lib.hid (said_form (ws := ws) hx)
      have hx1 : ¬ x = [115, 117, 98, 115, 99, 114, 105, 98, 101] := hx
      have hx2 : (x == [115, 117, 98, 115, 99, 114, 105, 98, 101]) = false := beq_eq_false_iff_ne.2 hx
      have HLL := Lib.hid hLL
      clear hx hLL
      go_enter Tryd.func71, Tryd.ntmps71
      go_upto_region 1 with fail
      generalize w.alloc (.cells #[.int .i64 0, .int .i64 0, .int .i64 0, .int .i64 0] 65) = W0 at *
      have c0 := HC0a.out
      generalize hrb : w.heap.size = rb at *
      have HRBE := Lib.hid hrb
      clear hrb
      go_wp2_with fail
      refine (forms_walk W0).mono ?_
      rintro e w1 ⟨rfl, hw1⟩
      have hb1 : Below W0.heap.size W0 w1 := by rw [hw1]; exact (Below.refl _ _).alloc (Nat.le_refl _) _
      have HFV : Hid (w1.heap[W0.heap.size]? = some (.cells formVals 118 (0, 0))) := Lib.hid (by rw [hw1]; exact heap_alloc_new W0 _)
      have HB1 : Hid (Below rb w w1) := Lib.hid (HB0.out.trans (hb1.mono (Nat.le_of_lt HRBS.out)))
      have HRB1 := Lib.hid ((hb1.block rb (Array.getElem?_eq_some_iff.1 HRB.out).1).trans HRB.out)
      have HE1 := Lib.hid (HE0.out.up hb1)
      clear hw1 hb1 c0
      generalize W0.heap.size = fb at *
      go_wp2_with fail
      go_loopw [24] (fun iv wr => ∃ k : Nat, k ≤ 6 ∧ iv = .int .i64 k ∧ (∀ j, j < k → (formOf j).word ≠ x) ∧ Below w1.heap.size w1 wr) (fun iv _ => 6 - (intOf iv).toNat)
      case atStart => exact ⟨0, by omega, rfl, fun j hj => by omega, Below.refl _ _⟩
      case round =>
        obtain ⟨k, hk, rfl, hno, hlow⟩ := hrel
        have HNO := Lib.hid hno
        have HLOW := Lib.hid hlow
        have HRBr := Lib.hid ((hlow.block rb (Array.getElem?_eq_some_iff.1 HRB1.out).1).trans HRB1.out)
        have HBr : Hid (Below rb w wr) := Lib.hid (HB1.out.trans (hlow.mono (Nat.le_of_lt (Array.getElem?_eq_some_iff.1 HRB1.out).1)))
        have HFVr := Lib.hid ((hlow.block fb (Array.getElem?_eq_some_iff.1 HFV.out).1).trans HFV.out)
        have HEr := Lib.hid (HE1.out.up hlow)
        clear hno hlow
        by_cases hlt : k < 6
        · have hf := fun j (hj : j < 9) => (cell_of HFVr.out (k * 9 + j)).trans (form_get k j hlt hj)
          have e0 : wr.cell? ⟨fb, k * 9, none⟩ = some (.string ⟨(formOf k).word.toArray⟩) := hf 0 (by omega)
          have e1 : wr.cell? ⟨fb, k * 9 + 1, none⟩ = some (.int .i64 (formOf k).kind) := hf 1 (by omega)
          have e2 : wr.cell? ⟨fb, k * 9 + 2, none⟩ = some (.int .i64 (lowOf k 0)) := hf 2 (by omega)
          have e3 : wr.cell? ⟨fb, k * 9 + 3, none⟩ = some (.int .i64 (lowOf k 1)) := hf 3 (by omega)
          have e4 : wr.cell? ⟨fb, k * 9 + 4, none⟩ = some (.int .i64 (lowOf k 2)) := hf 4 (by omega)
          have e5 : wr.cell? ⟨fb, k * 9 + 5, none⟩ = some (.int .i64 (highOf k 0)) := hf 5 (by omega)
          have e6 : wr.cell? ⟨fb, k * 9 + 6, none⟩ = some (.int .i64 (highOf k 1)) := hf 6 (by omega)
          have e7 : wr.cell? ⟨fb, k * 9 + 7, none⟩ = some (.int .i64 (highOf k 2)) := hf 7 (by omega)
          have e8 : wr.cell? ⟨fb, k * 9 + 8, none⟩ = some (.int .i64 (formOf k).bounds.length) := hf 8 (by omega)
          clear hf
          have HTB := Lib.hid (heap_alloc_new wr (.cells #[.string ⟨(formOf k).word.toArray⟩, .int .i64 (formOf k).kind, .int .i64 (lowOf k 0), .int .i64 (lowOf k 1), .int .i64 (lowOf k 2), .int .i64 (highOf k 0), .int .i64 (highOf k 1), .int .i64 (highOf k 2), .int .i64 (formOf k).bounds.length] 118))
          have hba : Below wr.heap.size wr (wr.alloc (.cells #[.string ⟨(formOf k).word.toArray⟩, .int .i64 (formOf k).kind, .int .i64 (lowOf k 0), .int .i64 (lowOf k 1), .int .i64 (lowOf k 2), .int .i64 (highOf k 0), .int .i64 (highOf k 1), .int .i64 (highOf k 2), .int .i64 (formOf k).bounds.length] 118)) := (Below.refl _ _).alloc (Nat.le_refl _) _
          have HBA := Lib.hid hba
          have HRO : Hid (rb < wr.heap.size) := Lib.hid (Array.getElem?_eq_some_iff.1 HRBr.out).1
          have hfl := form_len k hlt
          clear hba
          go_upto_region 8 with fail
          generalize wr.alloc (.cells #[.string ⟨(formOf k).word.toArray⟩, .int .i64 (formOf k).kind, .int .i64 (lowOf k 0), .int .i64 (lowOf k 1), .int .i64 (lowOf k 2), .int .i64 (highOf k 0), .int .i64 (highOf k 1), .int .i64 (highOf k 2), .int .i64 (formOf k).bounds.length] 118) = w2 at *
          have HB2 : Hid (Below rb w w2) := Lib.hid (HBr.out.trans (HBA.out.mono (Nat.le_of_lt HRO.out)))
          have HLOW2 : Hid (Below w1.heap.size w1 w2) := Lib.hid (HLOW.out.trans (HBA.out.mono HLOW.out.size))
          have HRB2 := Lib.hid ((HBA.out.block rb HRO.out).trans HRBr.out)
          have HE2 := Lib.hid (HEr.out.up HBA.out)
          generalize wr.heap.size = tb at *
          have c0 : w2.cell? ⟨gw, ow, none⟩ = some (.string ⟨x.toArray⟩) := (HB2.out.cell (p := ⟨gw, ow, none⟩) hclt).trans HC0w.out
          have t0 := (cell_of HTB.out 0).trans rfl
          have HFK : Hid ((formOf k).word = (formOf k).word) := rfl
          generalize hfk : (formOf k).word = fk at *
          have HFK2 := Lib.hid hfk
          clear hfk e0 e1 e2 e3 e4 e5 e6 e7 e8
          by_cases hfe : fk = x
          · subst hfe
            go_cut [33] (fun v wx => v = .bool false ∧ wx = w2.drew)
            case first =>
              go_region
              all_goals
                go_wp2_with fail
                go_meet
                exact ⟨rfl, rfl⟩
            case rest =>
              obtain ⟨rfl, hw3⟩ := hcut
              subst hw3
              have HFI : Hid (saidF (fk :: ws) = (numsF ws (formOf k).bounds).map (opnOf (formOf k).kind)) := Lib.hid (by rw [HO.out, find_at hlt (fun j hj => HNO.out j hj) HFK2.out]; rfl)
              have HTB3 := Lib.hid (((Below.refl w2.heap.size w2).drew.block tb (Array.getElem?_eq_some_iff.1 HTB.out).1).trans HTB.out)
              have HRB3 : Hid (w2.drew.heap[rb]? = some (.cells #[.int .i64 0, .int .i64 0, .int .i64 0, .int .i64 0] 65 (0, 0))) := Lib.hid HRB2.out
              have HB3 : Hid (Below rb w w2.drew) := Lib.hid HB2.out.drew
              have HE3 := Lib.hid (HE2.out.up (Below.refl w2.heap.size w2).drew)
              have HTS : Hid (tb < w2.drew.heap.size) := Lib.hid (Array.getElem?_eq_some_iff.1 HTB3.out).1
              generalize w2.drew = w3 at *
              have hnb := hfl
              obtain ⟨kd, hkd⟩ : ∃ kd, kd = (formOf k).kind := ⟨_, rfl⟩
              rw [← hkd] at HTB3 HFI
              have t8 := (cell_of HTB3.out 8).trans rfl
              have r0 := (cell_of HRB3.out 0).trans rfl
              have r1 := (cell_of HRB3.out 1).trans rfl
              have r2 := (cell_of HRB3.out 2).trans rfl
              have r3 := (cell_of HRB3.out 3).trans rfl
              have r4 := free_of HRB3.out
              have HNB : Hid ((formOf k).bounds.length = (formOf k).bounds.length) := rfl
              generalize hnbv : (formOf k).bounds.length = nb at *
              have HNBV := Lib.hid hnbv
              clear hnbv hkd c0 t0 hfl
              by_cases hLn : L = nb + 1
              · have hLb : ((L : Int) != (nb : Int) + 1) = false := by simp; omega
                have hba : Below w3.heap.size w3 (w3.alloc (.cells #[.int .i64 0, .int .i64 0, .int .i64 0] 113)) := (Below.refl _ _).alloc (Nat.le_refl _) _
                have HAB := Lib.hid (heap_alloc_new w3 (.cells #[.int .i64 0, .int .i64 0, .int .i64 0] 113))
                have HBA := Lib.hid hba
                have hLn2 := hLn
                clear hba
                go_upto_region 12 with fail
                have HT8a : Hid (∀ W, Below w3.heap.size w3 W → W.heap[tb]? = w3.heap[tb]?) := Lib.hid (fun W hW => hW.block tb HTS.out)
                generalize w3.alloc (.cells #[.int .i64 0, .int .i64 0, .int .i64 0] 113) = w4 at *
                generalize hab : w3.heap.size = ab at *
                have HABE := Lib.hid hab
                clear hab t8 r0 r1 r2 r3 r4
                have t8 : w4.cell? ⟨tb, 8, none⟩ = some (.int .i64 nb) := (cell_of ((HT8a.out w4 HBA.out).trans HTB3.out) 8).trans rfl
                go_wp2_with fail
                go_loopw [43] (fun iv wr => ∃ (i : Nat) (l : List Int), i ≤ nb ∧ iv = .int .i64 i ∧ l.length = i ∧ (∀ j, j < i → withinF (ws.getD j default) (lowOf k j) (highOf k j) = some (l.getD j 0)) ∧ (∃ cs : Array Value, wr.heap[ab]? = some (.cells cs 113 (0, 0)) ∧ cs.size = 3 ∧ ∀ j, j < 3 → cs[j]? = some (.int .i64 (l.getD j 0))) ∧ Below ab w3 wr) (fun iv _ => nb - (intOf iv).toNat)
                case atStart => exact ⟨0, [], by omega, rfl, rfl, fun j hj => by omega, ⟨_, HAB.out, rfl, fun j hj => by rcases (by omega : j = 0 ∨ j = 1 ∨ j = 2) with rfl | rfl | rfl <;> rfl⟩, HBA.out⟩
                case round =>
                  obtain ⟨i, l, hi, rfl, hll, hlw, ⟨cs, hcs1, hcs2, hcs3⟩, hlow⟩ := hrel
                  have HLW := Lib.hid hlw
                  have HLL2 := Lib.hid hll
                  have HCS := Lib.hid hcs1
                  have HCS2 := Lib.hid hcs2
                  have HCS3 := Lib.hid hcs3
                  have HLOWI := Lib.hid hlow
                  have HTBi := Lib.hid ((hlow.block tb (by have := HABE.out; have := HTS.out; omega)).trans HTB3.out)
                  have HRBi := Lib.hid ((hlow.block rb (by have := HABE.out; have := HTS.out; have := HRO.out; omega)).trans HRB3.out)
                  have hrbab : rb ≤ ab := by have := HABE.out; have := HTS.out; have := HRO.out; omega
                  have HBi : Hid (Below rb w wr) := Lib.hid (HB3.out.trans (hlow.mono hrbab))
                  have hsz3 : w3.heap.size ≤ wr.heap.size := hlow.size
                  have HEi := Lib.hid (HE3.out.below (hlow.mono (by have h1 := HE3.out.nw; have := HABE.out; omega)) hsz3)
                  have habw := (Array.getElem?_eq_some_iff.1 hcs1).1
                  clear hll hlw hcs1 hcs2 hcs3 hlow hsz3
                  by_cases hin : i < nb
                  · have hj3 : i < 3 := by omega
                    have hword := HWS.out wr HBi.out i (by have := HLL.out; omega)
                    have hlc := (cell_of HTBi.out (2 + i)).trans (by rcases (by omega : i = 0 ∨ i = 1 ∨ i = 2) with rfl | rfl | rfl <;> rfl : _ = some (Value.int .i64 (lowOf k i)))
                    have hhc := (cell_of HTBi.out (5 + i)).trans (by rcases (by omega : i = 0 ∨ i = 1 ∨ i = 2) with rfl | rfl | rfl <;> rfl : _ = some (Value.int .i64 (highOf k i)))
                    have HWI : Hid (Calls Tryd.prog 69 #[.string ⟨(ws.getD i default).toArray⟩, .int .i64 (lowOf k i), .int .i64 (highOf k i)] wr.drew (NumD (withinF (ws.getD i default) (lowOf k i) (highOf k i)) wr.drew)) :=
                      Lib.hid (by simpa using within_walk ⟨(ws.getD i default).toArray⟩ (lowOf k i) (highOf k i) N wr.drew (by rw [size_mk]; refine HSH.out _ ?_; simp only [List.getD]; rw [List.getElem?_eq_getElem (by have := HLL.out; omega)]; exact List.getElem_mem _) (HEi.out.up (Below.refl wr.heap.size wr).drew))
                    have hiL : ((i : Nat) : Int) + 1 < (L : Int) := by omega
                    have hiLn : i + 1 < L := by omega
                    generalize hwd : ws.getD i default = wd at *
                    have HWD := Lib.hid hwd
                    clear hwd
                    have HSTC : Hid (∀ w5, Below wr.heap.size wr w5 → w5.cell? ⟨ab, i, none⟩ = some (.int .i64 (l.getD i 0)) ∧ w5.frozen? ⟨ab, i, none⟩ = false) := Lib.hid (fun w5 h5 => by
                      have h := (h5.block ab habw).trans HCS.out
                      exact ⟨(cell_of h i).trans (HCS3.out i hj3), free_of h i⟩)
                    go_upto_region 16 with fail
                    generalize how : withinF wd (lowOf k i) (highOf k i) = ow' at *
                    have HOW : Hid (withinF (ws.getD i default) (lowOf k i) (highOf k i) = ow') := Lib.hid (by rw [HWD.out]; exact how)
                    clear how
                    go_cut [8, 43] from 43 to 68 (fun okv iv wx => iv = .int .i64 i ∧ ∃ nv w5, okv = .bool ow'.isSome ∧ (∀ m, ow' = some m → nv = m) ∧ Below wr.heap.size wr w5 ∧ wx = w5.setCell ⟨ab, i, none⟩ (.int .i64 nv))
                    case first =>
                      have s1' : (0 : Int) ≤ (i : Int) := by omega
                      have s2' : (i : Int) < 3 := by omega
                      have s3 : IntKind.i64.wrap ((i : Int) + 1) = (i : Int) + 1 := by rw [IntKind.wrap_i64]; omega
                      have s4 : (0 : Int) ≤ (i : Int) + 1 := by omega
                      have s5 : ((i : Int) + 1).toNat = i + 1 := by omega
                      have HKEEP : Hid (∀ w5, Below wr.heap.size wr w5 → w5.cell? ⟨gw, ow + (i + 1), none⟩ = some (.string ⟨wd.toArray⟩) ∧ w5.cell? ⟨tb, 2 + i, none⟩ = some (.int .i64 (lowOf k i)) ∧ w5.cell? ⟨tb, 5 + i, none⟩ = some (.int .i64 (highOf k i))) := Lib.hid (fun w5 h5 =>
                        ⟨(h5.cell (p := ⟨gw, ow + (i + 1), none⟩) (World.block_lt_of_cell? _ _ hword)).trans hword, (h5.cell (p := ⟨tb, 2 + i, none⟩) (World.block_lt_of_cell? _ _ hlc)).trans hlc, (h5.cell (p := ⟨tb, 5 + i, none⟩) (World.block_lt_of_cell? _ _ hhc)).trans hhc⟩)
                      have HKEEP2 : Hid (∀ w5 v, Below wr.heap.size wr w5 → (w5.setCell ⟨ab, i, none⟩ v).cell? ⟨gw, ow + (i + 1), none⟩ = some (.string ⟨wd.toArray⟩) ∧ (w5.setCell ⟨ab, i, none⟩ v).cell? ⟨tb, 2 + i, none⟩ = some (.int .i64 (lowOf k i)) ∧ (w5.setCell ⟨ab, i, none⟩ v).cell? ⟨tb, 5 + i, none⟩ = some (.int .i64 (highOf k i))) := Lib.hid (fun w5 v h5 => by
                        obtain ⟨q1, q2, q3⟩ := HKEEP.out w5 h5
                        have g1 : gw ≠ ab := by have := HABE.out; have := HTS.out; have := HRO.out; omega
                        have g2 : tb ≠ ab := by have := HABE.out; have := HTS.out; omega
                        exact ⟨(World.cell?_of_block (a := ⟨gw, ow + (i + 1), none⟩) (Below.heap_setCell w5 _ _ _ g1)).trans q1, (World.cell?_of_block (a := ⟨tb, 2 + i, none⟩) (Below.heap_setCell w5 _ _ _ g2)).trans q2, (World.cell?_of_block (a := ⟨tb, 5 + i, none⟩) (Below.heap_setCell w5 _ _ _ g2)).trans q3⟩)
                      go_region_held3 (fun w' => w'.cell? ⟨gw, ow + (i + 1), none⟩ = some (.string ⟨wd.toArray⟩) ∧ w'.cell? ⟨tb, 2 + i, none⟩ = some (.int .i64 (lowOf k i)) ∧ w'.cell? ⟨tb, 5 + i, none⟩ = some (.int .i64 (highOf k i)))
                        (first | exact HKEEP.out _ (Below.refl _ _).drew | exact HKEEP.out _ HB5.out | exact HKEEP2.out _ _ HB5.out)
                        ((go_at_call 69; refine (HWI.out).mono ?_; rintro e w5 ⟨nv, rfl, hnv, hb5⟩; (have HB5 : Hid (Below wr.heap.size wr w5) := Lib.hid ((Below.refl wr.heap.size wr).drew.trans hb5)); (obtain ⟨s1, s2⟩ := HSTC.out w5 HB5.out); have HNV := Lib.hid hnv; clear hnv hb5))
                      all_goals
                        go_wp2_with fail
                        go_meet
                        exact ⟨rfl, _, _, rfl, HNV.out, HB5.out, rfl⟩
                    case rest =>
                      obtain ⟨rfl, nv, w5, rfl, hnv, hb5, hwc⟩ := hcut
                      subst hwc
                      have HNV := Lib.hid hnv
                      have HB5 := Lib.hid hb5
                      have HC5 := Lib.hid ((hb5.block ab habw).trans HCS.out)
                      have habr : ab ≤ wr.heap.size := Nat.le_of_lt habw
                      have HL6 : Hid (Below ab w3 (w5.setCell ⟨ab, i, none⟩ (.int .i64 nv))) := Lib.hid ((HLOWI.out.trans (hb5.mono habr)).setCell (Nat.le_refl _) _)
                      have HRB6 : Hid ((w5.setCell ⟨ab, i, none⟩ (.int .i64 nv)).heap[rb]? = some (.cells #[.int .i64 0, .int .i64 0, .int .i64 0, .int .i64 0] 65 (0, 0))) := Lib.hid ((HL6.out.block rb (by have := HABE.out; have := HTS.out; have := HRO.out; omega)).trans HRB3.out)
                      have HB6 : Hid (Below rb w (w5.setCell ⟨ab, i, none⟩ (.int .i64 nv))) := Lib.hid (HB3.out.trans (HL6.out.mono hrbab))
                      have HC6 := Lib.hid (set_at HC5.out i (.int .i64 nv))
                      clear hnv hb5 hword hlc hhc
                      generalize w5.setCell ⟨ab, i, none⟩ (.int .i64 nv) = w6 at *
                      cases ow' with
                      | none =>
                        have HON : Hid (saidF (fk :: ws) = none) := Lib.hid (by
                          rw [HFI.out, nums_none i (by rw [HNBV.out]; exact hin) HOW.out]
                          rfl)
                        have hst := store_op HRB6.out rfl HB6.out (Nat.le_refl _) (.int .i64 0) (.int .i64 0) (.int .i64 0) (.int .i64 0)
                        have HS1 := Lib.hid hst.1
                        have HS2 := Lib.hid hst.2
                        have r0 := (cell_of HRB6.out 0).trans rfl
                        have r1 := (cell_of HRB6.out 1).trans rfl
                        have r2 := (cell_of HRB6.out 2).trans rfl
                        have r3 := (cell_of HRB6.out 3).trans rfl
                        have r4 := free_of HRB6.out
                        clear hst
                        simp only [Option.isSome_none]
                        go_wp2_with fail
                        refine bodyPost_ret (results_cell_tmp1 (fn := Tryd.f71) (p := 2) (u := 3) (ty := 65) rfl _ _ _ _ ⟨rb, 0, none⟩ rfl (load_stored HS1.out)) rfl ⟨0, 0, 0, 0, (by rw [HON.out]; rfl), (fun p hp => by rw [HON.out] at hp; cases hp), ?_⟩
                        rw [HRBE.out]
                        exact HS2.out
                      | some v' =>
                        obtain rfl := HNV.out v' rfl
                        simp only [Option.isSome_some]
                        go_wp2_with fail
                        go_roundw
                        case rel =>
                          refine ⟨i + 1, l ++ [nv], by omega, by go_num, by simp [HLL2.out], fun j hj => ?_, ⟨_, HC6.out, by simp [HCS2.out], fun j hj => ?_⟩, HL6.out⟩
                          · by_cases e : j = i
                            · subst e
                              rw [HOW.out]
                              simp only [List.getD]
                              rw [List.getElem?_append_right (by rw [HLL2.out]; exact Nat.le_refl _), HLL2.out]
                              simp
                            · rw [HLW.out j (by omega)]
                              simp only [List.getD]
                              rw [List.getElem?_append_left (by rw [HLL2.out]; omega)]
                          · by_cases e : j = i
                            · subst e
                              rw [Array.getElem?_setIfInBounds_self_of_lt (by rw [HCS2.out]; exact hj3)]
                              simp only [List.getD]
                              rw [List.getElem?_append_right (by rw [HLL2.out]; exact Nat.le_refl _), HLL2.out]
                              simp
                            · rw [Array.getElem?_setIfInBounds_ne (fun h => e h.symm), HCS3.out j hj]
                              simp only [List.getD]
                              rcases Nat.lt_or_ge j i with h | h
                              · rw [List.getElem?_append_left (by rw [HLL2.out]; omega)]
                              · rw [List.getElem?_eq_none (by rw [HLL2.out]; omega), List.getElem?_eq_none (by simp [HLL2.out]; omega)]
                        case measure => simp [intOf]; omega
                  · obtain rfl : i = nb := by omega
                    have hl3 : ∀ j, j < 3 → wr.cell? ⟨ab, j, none⟩ = some (.int .i64 (l.getD j 0)) := fun j hj => (cell_of HCS.out j).trans (HCS3.out j hj)
                    have a0 := hl3 0 (by omega)
                    have a1 := hl3 1 (by omega)
                    have a2 := hl3 2 (by omega)
                    have t1 : wr.cell? ⟨tb, 1, none⟩ = some (.int .i64 kd) := (cell_of HTBi.out 1).trans rfl
                    have HON : Hid (saidF (fk :: ws) = some (opnOf kd l)) := Lib.hid (by
                      rw [HFI.out, nums_some (l := l) (by rw [HNBV.out]; have := HLL.out; omega) (by rw [HNBV.out, HLL2.out]) (fun j hj => HLW.out j (by rw [HNBV.out] at hj; exact hj))]
                      rfl)
                    have hst := store_op HRBi.out rfl HBi.out (Nat.le_refl _) (.int .i64 kd) (.int .i64 (l.getD 0 0)) (.int .i64 (l.getD 1 0)) (.int .i64 (l.getD 2 0))
                    have HS1 := Lib.hid hst.1
                    have HS2 := Lib.hid hst.2
                    have r0 := (cell_of HRBi.out 0).trans rfl
                    have r1 := (cell_of HRBi.out 1).trans rfl
                    have r2 := (cell_of HRBi.out 2).trans rfl
                    have r3 := (cell_of HRBi.out 3).trans rfl
                    have r4 := free_of HRBi.out
                    clear hst hl3
                    generalize hl0 : l.getD 0 0 = l0 at *
                    generalize hl1 : l.getD 1 0 = l1 at *
                    generalize hl2' : l.getD 2 0 = l2 at *
                    have HL0 := Lib.hid hl0
                    have HL1 := Lib.hid hl1
                    have HL2 := Lib.hid hl2'
                    clear hl0 hl1 hl2'
                    go_wp2_with fail
                    refine bodyPost_ret (results_cell_tmp1 (fn := Tryd.f71) (p := 2) (u := 3) (ty := 65) rfl _ _ _ _ ⟨rb, 0, none⟩ rfl (load_stored HS1.out)) rfl ⟨kd, l0, l1, l2, (by rw [HON.out]; rfl), (fun p hp => by rw [HON.out] at hp; cases hp; unfold opnOf; rw [HL0.out, HL1.out, HL2.out]), ?_⟩
                    rw [HRBE.out]
                    exact HS2.out
              · have hLb : ((L : Int) != (nb : Int) + 1) = true := by simp; omega
                have HON : Hid (saidF (fk :: ws) = none) := Lib.hid (by
                  rw [HFI.out, nums_len (by rw [HNBV.out]; have := HLL.out; omega)]
                  rfl)
                have hst := store_op HRB3.out rfl HB3.out (Nat.le_refl _) (.int .i64 0) (.int .i64 0) (.int .i64 0) (.int .i64 0)
                have HS1 := Lib.hid hst.1
                have HS2 := Lib.hid hst.2
                clear hst hLn
                go_wp2_with fail
                refine bodyPost_ret (results_cell_tmp1 (fn := Tryd.f71) (p := 2) (u := 3) (ty := 65) rfl _ _ _ _ ⟨rb, 0, none⟩ rfl (load_stored HS1.out)) rfl ⟨0, 0, 0, 0, (by rw [HON.out]; rfl), (fun p hp => by rw [HON.out] at hp; cases hp), ?_⟩
                rw [HRBE.out]
                exact HS2.out
          · have hbb : (fk == x) = false := beq_eq_false_iff_ne.2 hfe
            have HNE : Hid (∀ j, j < k + 1 → (formOf j).word ≠ x) := Lib.hid (fun j hj => by
              by_cases e : j = k
              · subst e; rw [HFK2.out]; exact hfe
              · exact HNO.out j (by omega))
            clear hfe
            go_region
            all_goals
              go_wp2_with fail
              go_roundw
              case rel => exact ⟨k + 1, by omega, by go_num, HNE.out, HLOW2.out.drew⟩
              case measure => simp [intOf]; omega
        · obtain rfl : k = 6 := by omega
          have HON : Hid (saidF (x :: ws) = none) := Lib.hid (by rw [HO.out, find_none (fun j hj => HNO.out j hj)]; rfl)
          have hst := store_op HRBr.out rfl HBr.out (Nat.le_refl _) (.int .i64 0) (.int .i64 0) (.int .i64 0) (.int .i64 0)
          have HS1 := Lib.hid hst.1
          have HS2 := Lib.hid hst.2
          have r0 := (cell_of HRBr.out 0).trans rfl
          have r1 := (cell_of HRBr.out 1).trans rfl
          have r2 := (cell_of HRBr.out 2).trans rfl
          have r3 := (cell_of HRBr.out 3).trans rfl
          have r4 := free_of HRBr.out
          clear hst
          go_wp2_with fail
          refine bodyPost_ret (results_cell_tmp1 (fn := Tryd.f71) (p := 2) (u := 3) (ty := 65) rfl _ _ _ _ ⟨rb, 0, none⟩ rfl (load_stored HS1.out)) rfl ⟨0, 0, 0, 0, (by rw [HON.out]; rfl), (fun p hp => by rw [HON.out] at hp; cases hp), ?_⟩
          rw [HRBE.out]
          exact HS2.out
end Go.Proofs.YtdmhlhoimaeacaaDoor

/-
  The last thread of a script that is being read does more: memory. No walk.
-/
namespace Go.Proofs.YtdmhlhoimaeacaaDoor
open Go.RowKit
set_option linter.unusedVariables false

/-- The last thread does more. -/
def addOps (S : Scr) (l : List Opn) : Scr := { S with thrs := S.thrs.dropLast ++ [{ (S.thrs.getD (S.thrs.length - 1) default) with ops := (S.thrs.getD (S.thrs.length - 1) default).ops ++ l }] }
theorem addOps_len {S : Scr} (h : 0 < S.thrs.length) (l : List Opn) : (addOps S l).thrs.length = S.thrs.length := by simp [addOps]; omega
theorem addOps_get {S : Scr} (h : 0 < S.thrs.length) (l : List Opn) (i : Nat) (hi : i < S.thrs.length) : (addOps S l).thrs.getD i default = if i = S.thrs.length - 1 then { (S.thrs.getD (S.thrs.length - 1) default) with ops := (S.thrs.getD (S.thrs.length - 1) default).ops ++ l } else S.thrs.getD i default := by
  unfold addOps
  have hd : S.thrs.dropLast.length = S.thrs.length - 1 := List.length_dropLast
  by_cases e : i = S.thrs.length - 1
  · rw [if_pos e]
    simp only [List.getD]
    rw [List.getElem?_append_right (by omega), hd, e, Nat.sub_self]
    rfl
  · rw [if_neg e]
    simp only [List.getD]
    rw [List.getElem?_append_left (by omega), List.getElem?_dropLast, if_pos (by omega)]
theorem scr_ext {S R : Scr} (h1 : S.tops = R.tops) (h2 : S.sch = R.sch) (h3 : S.most = R.most) (hl : S.thrs.length = R.thrs.length) (hg : ∀ i, i < S.thrs.length → S.thrs.getD i default = R.thrs.getD i default) : S = R := by
  obtain ⟨a, b, c, d⟩ := S
  obtain ⟨a', b', c', d'⟩ := R
  simp only at h1 h2 h3 hl hg
  have : b = b' := by
    refine List.ext_getElem hl fun i h1 h2 => ?_
    have := hg i h1
    simpa [List.getD, h1, h2] using this
  subst h1 h2 h3 this
  rfl
theorem addOps_nil {S : Scr} (h : 0 < S.thrs.length) : addOps S [] = S := by
  refine scr_ext rfl rfl rfl (addOps_len h []) fun i hi => ?_
  rw [addOps_len h] at hi
  rw [addOps_get h [] i hi]
  split
  · rename_i e; rw [e]; simp
  · rfl
theorem addOps_snoc {S : Scr} (h : 0 < S.thrs.length) (l : List Opn) (o : Opn) : addOps (addOps S l) [o] = addOps S (l ++ [o]) := by
  have h1 : 0 < (addOps S l).thrs.length := by rw [addOps_len h]; exact h
  refine scr_ext rfl rfl rfl (by rw [addOps_len h1, addOps_len h, addOps_len h]) fun i hi => ?_
  rw [addOps_len h1, addOps_len h] at hi
  rw [addOps_get h1 [o] i (by rw [addOps_len h]; exact hi), addOps_get h (l ++ [o]) i hi, addOps_len h, addOps_get h l _ (by omega), if_pos rfl]
  split
  · simp
  · rename_i e; rw [addOps_get h l i hi, if_neg e]
theorem addOps_last {S : Scr} {t : Thr} (h : S.thrs.getLast? = some t) (l : List Opn) : addOps S l = { S with thrs := S.thrs.dropLast ++ [{ t with ops := t.ops ++ l }] } := by
  have : S.thrs.getD (S.thrs.length - 1) default = t := by
    rw [List.getLast?_eq_getElem?] at h
    simp only [List.getD, h, Option.getD_some]
  unfold addOps
  rw [this]
theorem own_apart {w : World} {N e k n N' e' k' n' : Nat} {v v' : Value} {xs xs' : List Value} (h : w.ownsRow N e k v n xs) (h' : w.ownsRow N' e' k' v' n' xs') (hne : e ≠ e') : v.ownBlock = none ∨ v.ownBlock ≠ v'.ownBlock := by
  cases hv : v.ownBlock with
  | none => exact .inl rfl
  | some g =>
    right
    intro e2
    obtain ⟨c, fz, h1⟩ := Lib.ownsRow_kind h g hv
    obtain ⟨c', fz', h2⟩ := Lib.ownsRow_kind h' g e2.symm
    rw [h1] at h2
    cases h2
    exact hne rfl
theorem hcells_add {S : Scr} {L : Nat} (hL : L + 1 = S.thrs.length) (V : Nat → Value) (v' : Value) (p : Opn) : (hcells S.thrs V).set (L * 2 + 1) v' = hcells (addOps S [p]).thrs (fun i => if i = L then v' else V i) := by
  have h0 : 0 < S.thrs.length := by omega
  unfold hcells
  rw [addOps_len h0, flatN_set (f := fun i => hcell (S.thrs.getD i default) (V i)) (g := fun i => hcell (S.thrs.getD i default) (if i = L then v' else V i)) (k := 2) (fun _ => rfl) L 1 v' (by omega) (by simp [hcell]) (fun i hi => by simp only [if_neg hi]) _ (by omega)]
  refine flatN_congr _ fun i hi => ?_
  rw [addOps_get h0 [p] i hi, show S.thrs.length - 1 = L by omega]
  by_cases e : i = L
  · subst e
    simp only [if_true]
    rfl
  · simp only [if_neg e]
section
variable {w w1 : World} {N T eT eH g : Nat} {tv hv sv x y : Value} {V : Nat → Value} {S : Scr}
/-- What the last thread does, once more. -/
theorem RdrS.addOp (K : Kinds T eT eH) {hb tc : Nat} (h : RdrS w N T eT eH g x y tv (.slice (some ⟨hb, 0, none⟩) S.thrs.length tc) sv V S) {o : Obj} {p : Opn} {v' : Value} {L : Nat} (hL : L + 1 = S.thrs.length) (hl : (S.thrs.getD L default).ops.length < 65536)
    (ha : Appended (w.alloc o) N 65 4 (V L) (S.thrs.getD L default).ops.length 1 (ocells (S.thrs.getD L default).ops ++ ocell p) v' w1) :
    w1.cell? ⟨hb, L * 2 + 1, none⟩ = some (V L) ∧ w1.frozen? ⟨hb, L * 2 + 1, none⟩ = false ∧
    RdrS (w1.setCell ⟨hb, L * 2 + 1, none⟩ v') N T eT eH g x y tv (.slice (some ⟨hb, 0, none⟩) S.thrs.length tc) sv (fun i => if i = L then v' else V i) (addOps S [p]) ∧ Below N w (w1.setCell ⟨hb, L * 2 + 1, none⟩ v') := by
  have ho := h.alloc o
  obtain ⟨h1, h2, hA⟩ := ha
  have hr := ho.rows
  have h0 : 0 < S.thrs.length := by omega
  have hLe : S.thrs.length - 1 = L := by omega
  have hrow := hr.each L (by omega)
  have hd : w1.heap[g]? = _ := head_other hrow ho.head h2 K.ho.symm
  have htops := own_other hr.tops hrow h2 K.tp
  have hsch := own_other hr.sch hrow h2 (by decide)
  have hthr := own_other hr.thrs hrow h2 K.ho'
  have heach : ∀ i, i < S.thrs.length → i ≠ L → w1.ownsRow N 65 4 (V i) (S.thrs.getD i default).ops.length (ocells (S.thrs.getD i default).ops) := fun i hi hne => (hr.each i hi).kept h2 (hr.apart i L hi (by omega) hne)
  obtain ⟨hst, hgr⟩ := hthr.stored (L * 2 + 1) v'
  have hs := h2.size
  have hn := ho.nw
  have hgb : g ≠ hb := by
    intro e
    obtain ⟨c, fz, hx⟩ := Lib.ownsRow_kind hthr hb rfl
    rw [← e, hd] at hx
    cases hx
    exact K.hh rfl
  have hcl : w1.cell? ⟨hb, L * 2 + 1, none⟩ = some (V L) := by
    rw [hthr.cellAt _ (by omega), hcells_get _ _ _ _ (by omega) (by omega)]
    rfl
  refine ⟨hcl, hthr.frozenAt _, ⟨?_, ⟨?_, ?_, ?_, ?_, ?_⟩, ⟨h.lim.tops, by rw [addOps_len h0]; exact h.lim.thrs, h.lim.sch, ?_⟩, h.gN, by have := hgr.size; omega⟩, ?_⟩
  · exact (hgr.block g (Array.getElem?_eq_some_iff.1 hd).1 (by simp; exact hgb)).trans hd
  · exact htops.kept hgr (own_apart htops hthr K.th)
  · exact hsch.kept hgr (own_apart hsch hthr K.h3'.symm)
  · rw [addOps_len h0]
    rw [← hcells_add hL V v' p]
    exact hst
  · intro i hi
    rw [addOps_len h0] at hi
    rw [addOps_get h0 [p] i hi, hLe]
    by_cases e : i = L
    · subst e
      simp only [if_true]
      rw [ocells_snoc]
      have hv := h1
      rw [List.length_append, List.length_singleton]
      exact hv.kept hgr (own_apart hv hthr K.ho'.symm)
    · simp only [if_neg e]
      exact (heach i hi e).kept hgr (own_apart (heach i hi e) hthr K.ho'.symm)
  · intro i j hi hj hne
    rw [addOps_len h0] at hi hj
    have hnew : ∀ q, v'.ownBlock = some q → ∀ j, j < S.thrs.length → j ≠ L → (V j).ownBlock ≠ some q := fun q hq j hj hjL hjq => by
      have hlt := (ho.rows.each j hj).lt q hjq
      rcases hA with ⟨e, _⟩ | ⟨g', cap, e, _, h5⟩
      · rw [e] at hq; cases hq
      · rw [e] at hq
        cases hq
        rcases h5 with h5 | h5
        · rcases hr.apart j L hj (by omega) hjL with h6 | h6
          · rw [h6] at hjq; cases hjq
          · exact h6 (by rw [hjq, h5])
        · have := hlt.2
          simp only at this
          omega
    by_cases e : i = L
    · by_cases e2 : j = L
      · omega
      · simp only [if_pos e, if_neg e2]
        cases hv : v'.ownBlock with
        | none => exact .inl rfl
        | some q => right; intro h7; exact hnew q hv j hj e2 h7.symm
    · by_cases e2 : j = L
      · simp only [if_neg e, if_pos e2]
        cases hv : (V i).ownBlock with
        | none => exact .inl rfl
        | some q => right; intro h7; exact hnew q h7.symm i hi e hv
      · simp only [if_neg e, if_neg e2]
        exact hr.apart i j hi hj hne
  · intro i hi
    rw [addOps_len h0] at hi
    rw [addOps_get h0 [p] i hi, hLe]
    by_cases e : i = L
    · subst e; simp only [if_true]; rw [List.length_append, List.length_singleton]; omega
    · rw [if_neg e]; exact h.lim.ops i hi
  · exact (((Below.refl N w).alloc h.nw o).grown h2 hn (fun q hq => (hrow.lt q hq).1)).setCell ((hthr.lt hb rfl).1) _
end

end Go.Proofs.YtdmhlhoimaeacaaDoor

/-
  The loop of a line that says what a thread does: memory of a round. No walk.
-/
namespace Go.Proofs.YtdmhlhoimaeacaaDoor
open Go.RowKit Go.Maps
set_option linter.unusedVariables false

theorem info65 : (Tryd.prog.info? 65).map (fun i => (i.zero, i.size, i.bytes)) = some (some (.agg #[.int .i64 0, .int .i64 0, .int .i64 0, .int .i64 0]), 4, 32) := by kernel_rfl
theorem under56 : Tryd.prog.underlying 56 = some (.slice 65) := by kernel_rfl
def opArr (p : Opn) : Array Value := #[.int .i64 p.k, .int .i64 p.a, .int .i64 p.b, .int .i64 p.c]
theorem opArr_one (p : Opn) : ∀ u ∈ (opArr p).toList, u.oneCell' = true := by
  intro u hu; simp [opArr] at hu; rcases hu with rfl | rfl | rfl | rfl <;> rfl
theorem addOps_getL {S : Scr} {L : Nat} (hL : L + 1 = S.thrs.length) (l : List Opn) : ((addOps S l).thrs.getD L default).ops = (S.thrs.getD L default).ops ++ l := by
  rw [addOps_get (by omega) l L (by omega), if_pos (by omega), show S.thrs.length - 1 = L by omega]
theorem addOps_names {S : Scr} {L : Nat} (hL : L + 1 = S.thrs.length) (l : List Opn) : (addOps S l).thrs.map Thr.name = S.thrs.map Thr.name := by
  have h0 : 0 < S.thrs.length := by omega
  refine List.ext_getElem (by simp [addOps_len h0]) fun i h1 h2 => ?_
  simp only [List.length_map] at h1 h2
  have h := addOps_get h0 l i h2
  simp only [List.getElem_map]
  have e1 : (addOps S l).thrs.getD i default = (addOps S l).thrs[i] := by simp [List.getD, h1]
  have e2 : S.thrs.getD i default = S.thrs[i] := by simp [List.getD, h2]
  rw [← e1, ← e2, h]
  split
  · rename_i e; rw [e]
  · rfl

/-- What holds ahead of the round i. -/
structure OpLoop (N g m hb tc ob L : Nat) (has : Bool) (tv sv : Value) (S : Scr) (p : Opn) (w0 : World) (i : Nat) (wr : World) : Prop where
  rdr : ∃ V, RdrS wr N 73 62 58 g (.map (some m)) (.bool has) tv (.slice (some ⟨hb, 0, none⟩) (addOps S (List.replicate i p)).thrs.length tc) sv V (addOps S (List.replicate i p)) ∧ (V L).ownBlock ≠ some ob
  map : MapF wr m S.thrs.length (namesF S)
  op : wr.heap[ob]? = some (.cells (opArr p) 65 (0, 0))
  low : Below N w0 wr

theorem OpLoop.drew {N g m hb tc ob L : Nat} {has : Bool} {tv sv : Value} {S : Scr} {p : Opn} {w0 : World} {i : Nat} {wr : World} (h : OpLoop N g m hb tc ob L has tv sv S p w0 i wr) : OpLoop N g m hb tc ob L has tv sv S p w0 i wr.drew := by
  obtain ⟨⟨V, h1, h2⟩, h3, h4, h5⟩ := h
  exact ⟨⟨V, h1.below (Below.refl _ _).drew, h2⟩, h3.below (Below.refl _ _).drew, h4, h5.drew⟩
theorem OpLoop.done {N g m hb tc ob L : Nat} {st : Rdg} {tv sv : Value} {p : Opn} {w0 : World} {n : Nat} {wr : World} (hL : L + 1 = st.s.thrs.length) (hm : N ≤ m) (h : OpLoop N g m hb tc ob L st.has tv sv st.s p w0 n wr) :
    RdrP wr N g m { st with s := addOps st.s (List.replicate n p) } ∧ Below N w0 wr := by
  obtain ⟨⟨V, h1, h2⟩, h3, h4, h5⟩ := h
  refine ⟨⟨_, _, _, V, h1, ?_, hm⟩, h5⟩
  have e := addOps_names hL (List.replicate n p)
  have e2 : namesF (addOps st.s (List.replicate n p)) = namesF st.s := by unfold namesF; rw [e]
  show MapF wr m (addOps st.s (List.replicate n p)).thrs.length (namesF (addOps st.s (List.replicate n p)))
  rw [e2, addOps_len (show 0 < st.s.thrs.length by omega)]
  exact h3

/-- A round. -/
theorem OpLoop.round {N g m hb tc ob L : Nat} {has : Bool} {tv sv : Value} {S : Scr} {p : Opn} {w0 : World} {i : Nat} {wr : World} (hL : L + 1 = S.thrs.length) (h : OpLoop N g m hb tc ob L has tv sv S p w0 i wr)
    (hi : (S.thrs.getD L default).ops.length + i < 65536) :
    ∃ vp l vc vp' vc' w4, wr.cell? ⟨hb, L * 2 + 1, none⟩ = some (.slice vp l vc) ∧ (wr.alloc (.cells (opArr p) 65)).cell? ⟨hb, L * 2 + 1, none⟩ = some (.slice vp l vc) ∧
      (∀ j, wr.cell? ⟨ob, j, none⟩ = (opArr p)[j]?) ∧ (∀ j, (wr.alloc (.cells (opArr p) 65)).cell? ⟨ob, j, none⟩ = (opArr p)[j]?) ∧
      (Builtin.append_ #[56, 56] 56 #[.slice vp l vc, .slice (some ⟨wr.heap.size, 0, none⟩) 1 1]).run Tryd.prog (wr.alloc (.cells (opArr p) 65)).drew = .ok (.slice vp' (l + 1 : Nat) vc') w4 ∧
      w4.cell? ⟨hb, L * 2 + 1, none⟩ = some (.slice vp l vc) ∧ w4.frozen? ⟨hb, L * 2 + 1, none⟩ = false ∧
      OpLoop N g m hb tc ob L has tv sv S p w0 (i + 1) (w4.setCell ⟨hb, L * 2 + 1, none⟩ (.slice vp' (l + 1 : Nat) vc')) := by
  obtain ⟨⟨V, hS, hne⟩, hM, hop, hlow⟩ := h
  have h0 : 0 < S.thrs.length := by omega
  have hlen := addOps_len h0 (List.replicate i p)
  have hops := addOps_getL hL (List.replicate i p)
  have hol : ((addOps S (List.replicate i p)).thrs.getD L default).ops.length = (S.thrs.getD L default).ops.length + i := by rw [hops, List.length_append, List.length_replicate]
  obtain ⟨i65, hi65, z0, z1, z2⟩ := info_parts info65
  have hSd := hS.below (Below.refl wr.heap.size wr).drew
  have hsx := src_one0 wr.drew (opArr p) 65 4 rfl (opArr_one p)
  have hrowd := hSd.rows.each L (by rw [hlen]; omega)
  obtain ⟨v', w4, hrun, ha⟩ := run_append_row (P := Tryd.prog) (wr.drew.alloc (.cells (opArr p) 65)) N 56 56 65 i65 _ 4 32 under56 hi65 z0 z1 (by decide) z2 rfl _ _ _ (hrowd.alloc _) _ 1 (ocell p) hsx (by rw [hol]; unfold maxLen; omega) (by rw [hol]; omega) (by have := hS.nw; simp; omega)
  obtain ⟨q1, q2, q3, q4⟩ := hSd.addOp kindsP (L := L) (p := p) (by rw [hlen]; exact hL) (by rw [hol]; exact hi) ha
  obtain ⟨vp', vc', rfl⟩ := own_slice ha.1
  obtain ⟨vp, vc, hvl⟩ := own_slice hrowd
  have hcl : wr.cell? ⟨hb, L * 2 + 1, none⟩ = some (V L) := by
    rw [hS.rows.thrs.cellAt _ (by rw [hlen]; omega), hcells_get _ _ _ _ (by rw [hlen]; omega) (by omega)]
    rfl
  have hlt := World.block_lt_of_cell? wr _ hcl
  have holt := (Array.getElem?_eq_some_iff.1 hop).1
  have hA := ha.2.2
  have hg := ha.2.1
  have hMa := (hM.below (Below.refl wr.heap.size wr).drew).alloc (.cells (opArr p) 65)
  have hMm := hMa.kept hg (map_ne_row hMa (hrowd.alloc _))
  have hM4 := hMm.kept (grown_set w4 hb (L * 2 + 1) (.slice vp' (((addOps S (List.replicate i p)).thrs.getD L default).ops.length + 1 : Nat) vc')) (by
    intro e
    cases e
    obtain ⟨es, cl, hx⟩ := hMm.isMap
    simp [World.cell?, hx] at q1)
  have hopa : (wr.alloc (.cells (opArr p) 65)).heap[ob]? = some (.cells (opArr p) 65 (0, 0)) := (Below.heap_alloc _ _ _ holt).trans hop
  have hop4 : w4.heap[ob]? = some (.cells (opArr p) 65 (0, 0)) :=
    (hg.block ob (by show ob < (wr.drew.alloc _).heap.size; simp; omega) (fun e => hne e.symm)).trans hopa
  have hobb : ob ≠ hb := by
    intro e
    have hx := (hSd.rows.thrs.alloc (.cells (opArr p) 65))
    obtain ⟨c, fz, hx⟩ := Lib.ownsRow_kind hx hb rfl
    rw [← e] at hx
    exact absurd (hx.symm.trans hopa) (by intro e; cases e)
  refine ⟨vp, _, vc, vp', vc', w4, by rw [hcl, hvl], ?_, cell_of hop, cell_of hopa, by rw [← hvl]; exact hrun, by rw [q1, hvl], q2, ?_⟩
  · exact (World.cell?_of_block (a := ⟨hb, L * 2 + 1, none⟩) (Below.heap_alloc _ _ _ hlt)).trans (by rw [hcl, hvl])
  · have e1 : addOps (addOps S (List.replicate i p)) [p] = addOps S (List.replicate (i + 1) p) := by
      rw [addOps_snoc h0, List.replicate_succ']
    refine ⟨⟨_, by rw [← e1, addOps_len (by rw [hlen]; exact h0)]; exact q3, ?_⟩, hM4, ?_, ?_⟩
    · simp only [if_true]
      intro e
      rcases hA with ⟨e2, _⟩ | ⟨g', cap, e2, _, h5⟩
      · rw [e2] at e; cases e
      · rw [e2] at e
        have e3 : g' = ob := by injection e
        rcases h5 with h5 | h5
        · exact hne (by rw [h5, e3])
        · have : wr.heap.size < g' + 1 := by
            have h6 : (wr.drew.alloc (.cells (opArr p) 65)).heap.size ≤ g' := h5
            simp at h6
            omega
          omega
    · exact (Below.heap_setCell _ _ _ _ hobb).trans hop4
    · exact hlow.trans ((Below.refl N wr).drew.trans q4)
end Go.Proofs.YtdmhlhoimaeacaaDoor

/-
  The program's reader: a line that says what a thread does.
-/
namespace Go.Proofs.YtdmhlhoimaeacaaDoor
open Go.RowKit Go.Maps
set_option linter.unusedVariables false

/-- No word is empty. -/
def NonE (ws : List Word) : Prop := ∀ x ∈ ws, x ≠ []
/-- What is known behind the words of an operation. -/
def OpSt (ws : List Word) (w : World) (t5 t6 t7 : Value) (wx : World) : Prop :=
  ∃ ob k a b c times, t6 = .pointer (some ⟨ob, 0, none⟩) ∧ wx.heap[ob]? = some (.cells #[.int .i64 k, .int .i64 a, .int .i64 b, .int .i64 c] 65 (0, 0)) ∧ t5 = .int .i64 times ∧ t7 = .bool (opF ws).isSome ∧
    (∀ p, opF ws = some p → p.1 = ⟨k, a, b, c⟩ ∧ times = (p.2 : Int) ∧ 1 ≤ p.2 ∧ p.2 ≤ 65536) ∧ Below w.heap.size w wx ∧ w.heap.size ≤ ob
theorem opF_said {ws : List Word} {o : Opn} (h : saidF ws = some o) : opF ws = some (o, 1) := by unfold opF; rw [h]
theorem opF_plain {ws : List Word} (h : saidF ws = none) {x : Word} (hl : ws.getLast? = some x) (hx : x.head? ≠ some 120) : opF ws = none := by
  unfold opF
  rw [h]
  simp only [hl]
  cases x with
  | nil => rfl
  | cons c r =>
    have : c ≠ 120 := fun e => hx (by rw [e]; rfl)
    split
    · rename_i r' heq
      simp only [Option.some.injEq, List.cons.injEq] at heq
      exact absurd heq.1 this
    · rfl
theorem opF_times {ws : List Word} (h : saidF ws = none) {r : Word} (hl : ws.getLast? = some (120 :: r)) : opF ws = (withinF r 1 65536).bind fun n => (saidF ws.dropLast).map fun o => (o, n.toNat) := by
  unfold opF
  rw [h]
  simp only [hl]

set_option maxRecDepth 100000 in
set_option maxHeartbeats 8000000 in
theorem op_walk (N g m : Nat) (st : Rdg) (ao : Option Addr) (ws : List Word) (c : Nat) (w : World) (hE : Env N w) (hr : RdrP w N g m st) (hw : WordsAt w ao ws) (hs : Short ws) (hne : ws ≠ []) (hnon : NonE ws) (hcap : ws.length ≤ c) (hc2 : c ≤ 9000000000) :
    Calls Tryd.prog 55 #[.pointer (some ⟨g, 0, none⟩), .slice ao ws.length c] w (LineD N g m st (opsF st ws) w) := by
  obtain ⟨gw, ow, rfl, hc⟩ := hw.resolve_left hne
  have hL0 : 0 < ws.length := List.length_pos_iff.2 hne
  obtain ⟨x, hx⟩ : ∃ x, ws.getLast? = some x := by
    cases h : ws.getLast? with
    | none => rw [List.getLast?_eq_none_iff] at h; exact absurd h hne
    | some x => exact ⟨x, rfl⟩
  have hxl : ws.getD (ws.length - 1) default = x := by
    rw [List.getLast?_eq_getElem?] at hx
    simp only [List.getD, hx, Option.getD_some]
  have hxm : x ∈ ws := List.mem_of_getLast? hx
  have hcl : w.cell? ⟨gw, ow + (ws.length - 1), none⟩ = some (.string ⟨x.toArray⟩) := by
    have := hc (ws.length - 1) (by omega)
    rwa [hxl] at this
  have HS0 := Lib.hid (said_walk N (some ⟨gw, ow, none⟩) ws c w hE hw hs hcap hc2)
  have hxne : x ≠ [] := hnon x hxm
  have hxs : x.length ≤ 4000000000 := hs x hxm
  have hclt := World.block_lt_of_cell? w _ hcl
  have HLA := Lib.hid hx
  have HCL := Lib.hid hcl
  have HR := Lib.hid hr
  have HE := Lib.hid hE
  -- the words but the last
  have HDL : Hid (∀ W, Below w.heap.size w W → Calls Tryd.prog 71 #[.slice (some ⟨gw, ow, none⟩) (ws.length - 1) c] W (SaidD (saidF ws.dropLast) W)) := Lib.hid (fun W hW => by
    have h1 : ws.dropLast.length = ws.length - 1 := List.length_dropLast
    have h2 := said_walk N (some ⟨gw, ow, none⟩) ws.dropLast c W (hE.up hW) (.inr ⟨gw, ow, rfl, fun i hi => ?_⟩) (fun y hy => hs y (List.dropLast_subset _ hy)) (by omega) hc2
    · rw [h1] at h2; exact h2
    · rw [h1] at hi
      have h3 := hc i (by omega)
      have h4 := (hW.cell (p := ⟨gw, ow + i, none⟩) (World.block_lt_of_cell? w _ h3)).trans h3
      rw [h4]
      simp only [List.getD]
      rw [List.getElem?_dropLast, if_pos hi])
  obtain ⟨xc, xr, rfl⟩ : ∃ xc xr, x = xc :: xr := by
    cases x with
    | nil => exact absurd rfl hxne
    | cons xc xr => exact ⟨xc, xr, rfl⟩
  have hx0 : 0 < (xc :: xr).length := by simp
  obtain ⟨fl, hfl⟩ : ∃ fl : Bool, fl = (!(saidF ws).isSome && ((xc :: xr).head? == some 120)) := ⟨_, rfl⟩
  have HFL := Lib.hid hfl
  generalize hlen : ws.length = L at *
  have HLEN := Lib.hid hlen
  clear hx hxl hxm hcl hr hw hs hnon hfl hlen hE hc
  go_enter Tryd.func55, Tryd.ntmps55
  go_wp2_with fail
  refine HS0.out.mono ?_
  rintro e w1 ⟨k, a, b, d, rfl, hp, hb1⟩
  have HP := Lib.hid hp
  have HB1 := Lib.hid hb1
  have hb2 : Below w.heap.size w (w1.alloc (.cells #[.int .i64 k, .int .i64 a, .int .i64 b, .int .i64 d] 65)) := hb1.alloc hb1.size _
  have HOB := Lib.hid (heap_alloc_new w1 (.cells #[.int .i64 k, .int .i64 a, .int .i64 b, .int .i64 d] 65))
  have HOBL : Hid (w.heap.size ≤ w1.heap.size) := Lib.hid hb1.size
  have HB2 := Lib.hid hb2
  clear hp hb1 hb2
  go_upto_region 3 with fail
  generalize w1.alloc (.cells #[.int .i64 k, .int .i64 a, .int .i64 b, .int .i64 d] 65) = w2 at *
  generalize w1.heap.size = ob at *
  have cl2 := (HB2.out.cell (p := ⟨gw, ow + (L - 1), none⟩) hclt).trans HCL.out
  have hLi : ((L : Int) - 1).toNat = L - 1 := by omega
  have hLi2 : L - 1 < L := by omega
  have hLi3 : (0 : Int) ≤ (L : Int) - 1 := by omega
  have hLi4 : (L : Int) - 1 < (L : Int) := by omega
  have hc9 : (c : Int) ≤ 9000000000 := by omega
  have hc10 : (L : Int) ≤ 9000000000 := by omega
  go_upto_region 4 with fail
  go_cut [7, 8, 27] (fun okv xv v wx => okv = .bool (saidF ws).isSome ∧ xv = .string ⟨(xc :: xr).toArray⟩ ∧ v = .bool fl ∧ wx = w2)
  case first =>
    cases hso : saidF ws with
    | some o1 =>
      have hf : fl = false := by rw [HFL.out, hso]; rfl
      subst hf
      go_wp2_with fail
      go_meet
      exact ⟨by rw [hso], rfl, rfl, rfl⟩
    | none =>
      by_cases hxc : xc.toNat = 120
      · have hf : fl = true := by
          rw [HFL.out, hso]
          simp only [List.head?_cons, Option.isSome_none, Bool.not_false, Bool.true_and, beq_iff_eq, Option.some.injEq]
          exact (u8_eq _ 120 (by omega)).2 hxc
        subst hf
        have hb : ((((ByteArray.mk (xc :: xr).toArray)[0]'(by simp [ByteArray.size])).toNat : Int) == 120) = true := by
          show ((xc.toNat : Int) == 120) = true
          rw [beq_iff_eq]; omega
        clear hxc
        go_wp2_with fail
        go_meet
        exact ⟨by rw [hso], rfl, rfl, rfl⟩
      · have hf : fl = false := by
          rw [HFL.out, hso]
          simp only [List.head?_cons, Option.isSome_none, Bool.not_false, Bool.true_and]
          rw [beq_eq_false_iff_ne]
          intro h
          exact hxc ((u8_eq _ 120 (by omega)).1 (Option.some.inj h))
        subst hf
        have hb : ((((ByteArray.mk (xc :: xr).toArray)[0]'(by simp [ByteArray.size])).toNat : Int) == 120) = false := by
          show ((xc.toNat : Int) == 120) = false
          rw [beq_eq_false_iff_ne]; omega
        clear hxc
        go_wp2_with fail
        go_meet
        exact ⟨by rw [hso], rfl, rfl, rfl⟩
  case rest =>
    obtain ⟨rfl, rfl, rfl, rfl⟩ := hcut
    clear cl2 hLi hLi2 hLi3 hLi4
    go_upto_if 27 with fail
    go_cut [5, 6, 7] (fun t5 t6 t7 wx => OpSt ws w t5 t6 t7 wx)
    case first =>
      have hE1 := HE.out.up HB2.out
      cases fl with
      | false =>
        go_wp2_with fail
        go_meet
        have hopF : opF ws = (saidF ws).map fun o => (o, 1) := by
          cases hso : saidF ws with
          | some o1 => rw [opF_said hso]; rfl
          | none =>
            have hf := HFL.out
            rw [hso] at hf
            rw [opF_plain hso HLA.out (fun e => by rw [e] at hf; simp at hf)]
            rfl
        refine ⟨ob, k, a, b, d, 1, rfl, HOB.out, rfl, by rw [hopF]; cases saidF ws <;> rfl, fun p hp => ?_, HB2.out, HOBL.out⟩
        rw [hopF] at hp
        cases hso : saidF ws with
        | none => rw [hso] at hp; cases hp
        | some o1 =>
          rw [hso] at hp
          cases hp
          exact ⟨HP.out o1 hso, rfl, Nat.le_refl _, by show (1 : Nat) ≤ 65536; omega⟩
      | true =>
        have hso : saidF ws = none := by
          have hf := HFL.out
          cases h : saidF ws with
          | none => rfl
          | some o1 => rw [h] at hf; simp at hf
        have hx120 : xc = 120 := by
          have hf := HFL.out
          rw [hso] at hf
          simpa using hf.symm
        subst hx120
        have HOT := Lib.hid (opF_times hso HLA.out)
        have HCN : Hid (Calls Tryd.prog 70 #[.string ((ByteArray.mk (120 :: xr).toArray).extract 1 (ByteArray.mk (120 :: xr).toArray).size)] wc (NumD (withinF xr 1 65536) wc)) := Lib.hid (by
          have h := count_walk ((ByteArray.mk (120 :: xr).toArray).extract 1 (ByteArray.mk (120 :: xr).toArray).size) N wc (by simp [size_mk] at hxs ⊢; omega) hE1
          rw [Lib.extract_data] at h
          have e : List.take ((ByteArray.mk (120 :: xr).toArray).size - 1) (List.drop 1 (ByteArray.mk (120 :: xr).toArray).data.toList) = xr := by
            simp [size_mk]
          rw [e] at h
          exact h)
        have hsx1 : 1 ≤ (ByteArray.mk (120 :: xr).toArray).size := by rw [size_mk]; simp
        have hsx2 : (ByteArray.mk (120 :: xr).toArray).size ≤ 4000000000 := by rw [size_mk]; exact hxs
        generalize ByteArray.mk (120 :: xr).toArray = sx at *
        have HSO := Lib.hid hso
        clear hso hE1
        rw [HSO.out]
        go_wp2_with fail
        refine HCN.out.mono ?_
        rintro e w3 ⟨n, rfl, hn, hb3⟩
        have HN3 := Lib.hid hn
        have HB3 : Hid (Below w.heap.size w w3) := Lib.hid (HB2.out.trans (hb3.mono HB2.out.size))
        have HOB3 := Lib.hid ((hb3.block ob (Array.getElem?_eq_some_iff.1 HOB.out).1).trans HOB.out)
        clear hn hb3
        cases how : withinF xr 1 65536 with
        | none =>
          have HON : Hid (opF ws = none) := Lib.hid (by rw [HOT.out, how]; rfl)
          clear how
          simp only [Option.isSome_none]
          go_wp2_with fail
          go_meet
          exact ⟨ob, k, a, b, d, n, rfl, HOB3.out, rfl, by rw [HON.out]; rfl, (fun p hp => by rw [HON.out] at hp; cases hp), HB3.out, HOBL.out⟩
        | some n' =>
          obtain rfl := HN3.out n' how
          have HDL3 := Lib.hid (HDL.out w3 HB3.out)
          have HOT2 : Hid (opF ws = (saidF ws.dropLast).map fun o => (o, n.toNat)) := Lib.hid (by rw [HOT.out, how]; rfl)
          have HNR : Hid (1 ≤ n ∧ n ≤ 65536) := Lib.hid (by
            have h := how
            unfold withinF at h
            cases hnf : numF xr with
            | none => rw [hnf] at h; cases h
            | some q =>
              rw [hnf] at h
              simp only [Option.bind_some] at h
              split at h
              · rename_i hq; cases h; exact hq
              · cases h)
          clear how
          simp only [Option.isSome_some]
          go_wp2_with fail
          refine HDL3.out.mono ?_
          rintro e w4 ⟨k4, a4, b4, d4, rfl, hp4, hb4⟩
          have HP4 := Lib.hid hp4
          have HB4 : Hid (Below w.heap.size w w4) := Lib.hid (HB3.out.trans (hb4.mono HB3.out.size))
          have HOB4 := Lib.hid ((hb4.block ob (Array.getElem?_eq_some_iff.1 HOB3.out).1).trans HOB3.out)
          have hst := store_op HOB4.out rfl HB4.out HOBL.out (.int .i64 k4) (.int .i64 a4) (.int .i64 b4) (.int .i64 d4)
          have HS1 := Lib.hid hst.1
          have HS2 := Lib.hid hst.2
          have r0 := (cell_of HOB4.out 0).trans rfl
          have r1 := (cell_of HOB4.out 1).trans rfl
          have r2 := (cell_of HOB4.out 2).trans rfl
          have r3 := (cell_of HOB4.out 3).trans rfl
          have r4 := free_of HOB4.out
          clear hst hp4 hb4
          go_wp2_with fail
          go_meet
          refine ⟨ob, k4, a4, b4, d4, n, rfl, HS1.out, rfl, by rw [HOT2.out]; cases saidF ws.dropLast <;> rfl, (fun p hp => ?_), HS2.out, HOBL.out⟩
          rw [HOT2.out] at hp
          cases hsd : saidF ws.dropLast with
          | none => rw [hsd] at hp; cases hp
          | some o2 =>
            rw [hsd] at hp
            cases hp
            have := HNR.out
            exact ⟨HP4.out o2 hsd, by show n = ((n.toNat : Nat) : Int); omega, by show 1 ≤ n.toNat; omega, by show n.toNat ≤ 65536; omega⟩
    case rest =>
      obtain ⟨ob', k', a', b', d', times, rfl, hob, rfl, rfl, hop, hbw, hobw⟩ := hcut
      obtain ⟨tv, hv, sv, V, hS0, hM0, hm⟩ := HR.out
      have hnw := hS0.nw
      have hS := hS0.below hbw
      have hM := hM0.below hbw
      have HRX := Lib.hid (HR.out.below hbw)
      have HLX : Hid (Below N w wc) := Lib.hid (hbw.mono hnw)
      have HOBX := Lib.hid hob
      have HVOB : Hid (∀ i, i < st.s.thrs.length → (V i).ownBlock ≠ some ob') := Lib.hid (fun i hi e => by
        have := ((hS0.rows.each i hi).lt ob' e).2
        omega)
      have HOP := Lib.hid hop
      have HOPS : Hid (opsF st ws = match opF ws, st.s.thrs.getLast? with
        | some (o, k), some t => if 65536 < t.ops.length + k then (3, st) else (0, { st with s := { st.s with thrs := st.s.thrs.dropLast ++ [{ t with ops := t.ops ++ List.replicate k o }] } })
        | _, _ => (9, st)) := Lib.hid rfl
      clear hop hob hbw hobw hS0 hM0 HDL HFL HLA HCL HLEN HS0 HB2 HOB HP HB1 HOBL
      generalize opsF st ws = r at *
      obtain ⟨wv, hwv⟩ : ∃ wv, wv = wc := ⟨_, rfl⟩
      subst hwv
      cases hoo : opF ws with
      | none =>
        have HF2 : Hid (r = (9, st)) := Lib.hid (by rw [HOPS.out, hoo])
        clear hoo hS hM
        simp only [Option.isSome_none]
        go_wp2_with fail
        go_ret
        rw [HF2.out]
        exact ⟨rfl, HRX.out, HLX.out⟩
      | some pr =>
        obtain ⟨o, n⟩ := pr
        obtain ⟨ho1, ho2, ho3, ho4⟩ := HOP.out _ hoo
        simp only at ho1 ho2 ho3 ho4
        subst ho1 ho2
        have HOPS2 := Lib.hid (show r = _ from HOPS.out.trans (by rw [hoo]))
        clear hoo HOPS HOP
        simp only [Option.isSome_some]
        have d1 := hS.cell.2.1
        have HS := Lib.hid hS
        have HM := Lib.hid hM
        have hlim := hS.lim.thrs
        obtain ⟨hp, tc, rfl⟩ := own_slice hS.rows.thrs
        clear hS hM
        by_cases hT : st.s.thrs.length = 0
        · have HF2 : Hid (r = (9, st)) := Lib.hid (by
            rw [HOPS2.out, List.eq_nil_of_length_eq_zero hT]
            rfl)
          have hTb : ((st.s.thrs.length : Int) == 0) = true := by rw [beq_iff_eq]; omega
          go_wp2_with fail
          go_ret
          rw [HF2.out]
          exact ⟨rfl, HRX.out, HLX.out⟩
        · obtain ⟨hb, hhp⟩ : ∃ hb, hp = some ⟨hb, 0, none⟩ := by
            rcases HS.out.rows.thrs.2 with ⟨e, h0⟩ | ⟨q, cap, _, e, _⟩
            · exact absurd h0 hT
            · injection e with e1 e2 e3; exact ⟨q, e1⟩
          subst hhp
          have hTb : ((st.s.thrs.length : Int) == 0) = false := by rw [beq_eq_false_iff_ne]; omega
          obtain ⟨t, ht⟩ : ∃ t, st.s.thrs.getLast? = some t := by
            cases h : st.s.thrs.getLast? with
            | none => rw [List.getLast?_eq_none_iff] at h; rw [h] at hT; simp at hT
            | some t => exact ⟨t, rfl⟩
          have htg : st.s.thrs.getD (st.s.thrs.length - 1) default = t := by
            rw [List.getLast?_eq_getElem?] at ht
            simp only [List.getD]
            rw [ht]
            rfl
          have HTG := Lib.hid htg
          have HADD := Lib.hid (addOps_last ht (List.replicate n ⟨k', a', b', d'⟩))
          have HOPS3 := Lib.hid (show r = _ from HOPS2.out.trans (by rw [ht]))
          have h0 : 0 < st.s.thrs.length := Nat.pos_of_ne_zero hT
          have HOL : Hid (OpLoop N g m hb tc ob' (st.s.thrs.length - 1) st.has tv sv st.s ⟨k', a', b', d'⟩ w 0 wv) := Lib.hid
            ⟨⟨V, by rw [List.replicate_zero, addOps_nil h0]; exact HS.out, HVOB.out _ (by omega)⟩, HM.out, HOBX.out, HLX.out⟩
          have hcell : wv.cell? ⟨hb, (st.s.thrs.length - 1) * 2 + 1, none⟩ = some (V (st.s.thrs.length - 1)) := by
            rw [HS.out.rows.thrs.cellAt _ (by omega), hcells_get _ _ _ _ (by omega) (by omega)]
            rfl
          have hvl := HS.out.rows.each (st.s.thrs.length - 1) (by omega)
          rw [htg] at hvl
          have htl : t.ops.length ≤ 65536 := by
            have := HS.out.lim.ops (st.s.thrs.length - 1) (by omega)
            rwa [htg] at this
          obtain ⟨vp, vc, hvv⟩ := own_slice hvl
          rw [hvv] at hcell
          have HT0 := Lib.hid h0
          clear hvl ht htg hvv hT HS HM HVOB HOBX HOPS2 h0
          generalize hT1 : st.s.thrs.length = T1 at *
          have HT1 := Lib.hid hT1
          have HT2 := HT0.out
          have s1 : ((T1 : Int) - 1).toNat = T1 - 1 := by clear hlim; omega
          have s2 : T1 - 1 < T1 := Nat.sub_lt HT2 Nat.one_pos
          have s3 : (0 : Int) ≤ (T1 : Int) - 1 := by clear hlim; omega
          have s4 : (T1 : Int) - 1 < (T1 : Int) := by clear hlim; omega
          have s5 : (T1 : Int) ≤ 64 := Int.ofNat_le.2 hlim
          clear hlim hT1 HT2
          go_upto_region 10 with fail
          go_cut [9] (fun v wx => v = .pointer (some ⟨hb, (T1 - 1) * 2, none⟩) ∧ wx = wv.drew)
          case first =>
            go_region
            all_goals
              go_wp2_with fail
              go_meet
              exact ⟨rfl, rfl⟩
          case rest =>
            obtain ⟨rfl, rfl⟩ := hcut
            have HOLd := Lib.hid HOL.out.drew
            have hcd : wv.drew.cell? ⟨hb, (T1 - 1) * 2 + 1, none⟩ = some (.slice vp t.ops.length vc) := hcell
            clear hcell HOL d1 s1 s2 s3 s4 s5
            have HRd := Lib.hid (HRX.out.below (Below.refl wv.heap.size wv).drew)
            have HLd := Lib.hid HLX.out.drew
            clear HRX HLX
            generalize wv.drew = wd at *
            have HTLe : Hid ((T1 - 1) + 1 = st.s.thrs.length) := Lib.hid (by have := HT0.out; rw [HT1.out]; omega)
            generalize T1 - 1 = L0 at *
            by_cases hbig : (t.ops.length : Int) + (n : Int) > 65536
            · have HF2 : Hid (r = (3, st)) := Lib.hid (by
                rw [HOPS3.out]
                simp only
                rw [if_pos (by omega)])
              go_wp2_with fail
              go_ret
              rw [HF2.out]
              exact ⟨rfl, HRd.out, HLd.out⟩
            · have HF2 : Hid (r = (0, { st with s := addOps st.s (List.replicate n ⟨k', a', b', d'⟩) })) := Lib.hid (by
                rw [HOPS3.out]
                simp only
                rw [if_neg (by omega), HADD.out])
              have HLT : Hid ((st.s.thrs.getD L0 default).ops.length + n ≤ 65536) := Lib.hid (by rw [HTG.out]; omega)
              clear HTG HADD HOPS3
              generalize t.ops.length = tl at *
              go_wp2_with fail
              go_loopw [77] (fun iv wr => ∃ i : Nat, i ≤ n ∧ iv = .int .i64 i ∧ OpLoop N g m hb tc ob' L0 st.has tv sv st.s ⟨k', a', b', d'⟩ w i wr) (fun iv _ => n - (intOf iv).toNat)
              case atStart => exact ⟨0, Nat.zero_le _, rfl, HOLd.out⟩
              case round =>
                obtain ⟨i, hi, rfl, hol⟩ := hrel
                have HO := Lib.hid hol
                clear hol
                by_cases hin : i < n
                · obtain ⟨vp1, l1, vc1, vp2, vc2, w4, q1, q2, q3, q4, q5, q6, q7, q8⟩ := HO.out.round HTLe.out (by have := HLT.out; omega)
                  have r0 : wr.cell? ⟨ob', 0, none⟩ = some (.int .i64 k') := q3 0
                  have r1 : wr.cell? ⟨ob', 1, none⟩ = some (.int .i64 a') := q3 1
                  have r2 : wr.cell? ⟨ob', 2, none⟩ = some (.int .i64 b') := q3 2
                  have r3 : wr.cell? ⟨ob', 3, none⟩ = some (.int .i64 d') := q3 3
                  have x0 : (wr.alloc (.cells #[.int .i64 k', .int .i64 a', .int .i64 b', .int .i64 d'] 65)).cell? ⟨ob', 0, none⟩ = some (.int .i64 k') := q4 0
                  have x1 : (wr.alloc (.cells #[.int .i64 k', .int .i64 a', .int .i64 b', .int .i64 d'] 65)).cell? ⟨ob', 1, none⟩ = some (.int .i64 a') := q4 1
                  have x2 : (wr.alloc (.cells #[.int .i64 k', .int .i64 a', .int .i64 b', .int .i64 d'] 65)).cell? ⟨ob', 2, none⟩ = some (.int .i64 b') := q4 2
                  have x3 : (wr.alloc (.cells #[.int .i64 k', .int .i64 a', .int .i64 b', .int .i64 d'] 65)).cell? ⟨ob', 3, none⟩ = some (.int .i64 d') := q4 3
                  have q2' : (wr.alloc (.cells #[.int .i64 k', .int .i64 a', .int .i64 b', .int .i64 d'] 65)).cell? ⟨hb, L0 * 2 + 1, none⟩ = some (.slice vp1 l1 vc1) := q2
                  have HRUN : Hid ((Builtin.append_ #[56, 56] 56 #[.slice vp1 l1 vc1, .slice (some ⟨wr.heap.size, 0, none⟩) 1 1]).run Tryd.prog (wr.alloc (.cells #[.int .i64 k', .int .i64 a', .int .i64 b', .int .i64 d'] 65)).drew = .ok (.slice vp2 (l1 + 1 : Nat) vc2) w4) := Lib.hid q5
                  have HNX := Lib.hid q8
                  clear q2 q3 q4 q5 q8
                  go_upto_region 15 with fail
                  go_region_law (refine step_append_runI (by rfl) _ _ 56 56 (by rfl) (.slice vp1 l1 vc1) (.slice (some ⟨wr.heap.size, 0, none⟩) 1 1) (by rfl) (by rfl) HRUN.out ?_)
                  all_goals
                    go_wp2_with fail
                    go_roundw
                    case rel => exact ⟨i + 1, by omega, by go_num, HNX.out⟩
                    case measure => simp [intOf]; omega
                · have hen : i = n := by omega
                  subst hen
                  obtain ⟨hz1, hz2⟩ := HO.out.done HTLe.out hm
                  have HZ1 := Lib.hid hz1
                  have HZ2 := Lib.hid hz2
                  clear hz1 hz2
                  go_wp2_with fail
                  go_ret
                  rw [HF2.out]
                  exact ⟨rfl, HZ1.out, HZ2.out⟩
end Go.Proofs.YtdmhlhoimaeacaaDoor
