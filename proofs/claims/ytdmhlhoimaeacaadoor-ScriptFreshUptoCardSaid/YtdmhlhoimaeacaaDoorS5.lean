/-
  Merged out of: RefThread RefSched RefOps RefLine RefParse.
-/
import Derived.Test.YtdmhlhoimaeacaaDoorS4
/-
  The reference's reader: a thread's line (f58).
-/
namespace Go.Proofs.YtdmhlhoimaeacaaDoor
open Go.RowKit Go.Maps
set_option linter.unusedVariables false

/-- The reference's reader at block g. -/
def RdrR (w : World) (N g : Nat) (st : Rdg) : Prop :=
  ∃ tv hv sv V, RdrS w N 81 82 83 g (.bool st.has) (.bool (decide (0 < st.s.thrs.length))) tv hv sv V st.s
theorem RdrR.below {w w1 : World} {N g : Nat} {st : Rdg} (h : RdrR w N g st) (hb : Below w.heap.size w w1) : RdrR w1 N g st := by
  obtain ⟨tv, hv, sv, V, h1⟩ := h
  exact ⟨tv, hv, sv, V, h1.below hb⟩
theorem RdrR.nw {w : World} {N g : Nat} {st : Rdg} (h : RdrR w N g st) : N ≤ w.heap.size := by
  obtain ⟨tv, hv, sv, V, h1⟩ := h
  exact h1.nw
/-- What a line's reader does. -/
def LineR (N g : Nat) (r : Int × Rdg) (w : World) (e : Ending) (w' : World) : Prop :=
  e = .returned (.int .i64 r.1) ∧ RdrR w' N g r.2 ∧ Below N w w' ∧ Keep9 w w'
theorem info83 : (Tryd.prog.info? 83).map (fun i => (i.zero, i.size, i.bytes)) = some (some (.agg #[.string ⟨#[]⟩, .slice none 0 0]), 2, 40) := by kernel_rfl
theorem under32 : Tryd.prog.underlying 32 = some (.slice 83) := by kernel_rfl
theorem name_mem {L : List Thr} {a : Word} : a ∈ L.map Thr.name ↔ ∃ j, j < L.length ∧ (L.getD j default).name = a := by
  rw [List.mem_map]
  constructor
  · rintro ⟨t, ht, rfl⟩
    obtain ⟨j, hj, rfl⟩ := List.getElem_of_mem ht
    exact ⟨j, hj, by simp [List.getD, hj]⟩
  · rintro ⟨j, hj, rfl⟩
    exact ⟨L[j], List.getElem_mem _, by simp [List.getD, hj]⟩

set_option maxRecDepth 100000 in
set_option maxHeartbeats 8000000 in
theorem refThread_walk (N g : Nat) (st : Rdg) (ao : Option Addr) (x : Word) (ws : List Word) (c : Nat) (w : World) (hr : RdrR w N g st) (hw : WordsAt w ao (x :: ws)) (hs : Short ws) (hlen : ws.length ≤ 9000000000) :
    Calls Tryd.prog 58 #[.pointer (some ⟨g, 0, none⟩), .slice ao (x :: ws).length c] w (LineR N g (threadF st ws) w) := by
  by_cases hl : ws.length = 1
  · obtain ⟨a, rfl⟩ : ∃ a, ws = [a] := by
      match ws, hl with
      | [a], _ => exact ⟨a, rfl⟩
    obtain ⟨gw, ow, rfl, hc⟩ := hw.resolve_left (by simp)
    have c1 : w.cell? ⟨gw, ow + 1, none⟩ = some (.string ⟨a.toArray⟩) := hc 1 (by simp)
    have hclt := World.block_lt_of_cell? w _ c1
    have HA : Hid (Calls Tryd.prog 45 #[.string ⟨a.toArray⟩] w fun e w' => e = .returned (.bool (nameF a)) ∧ w = w') :=
      Lib.hid (by simpa using good_walk ⟨a.toArray⟩ w (by rw [size_mk]; exact hs a (by simp)))
    have HR := Lib.hid hr
    have hnw := hr.nw
    have HF : Hid (threadF st [a] = if nameF a then (if 64 ≤ st.s.thrs.length then (3, st) else if a ∈ st.s.thrs.map Thr.name then (7, st) else (0, { st with s := { st.s with thrs := st.s.thrs ++ [⟨a, []⟩] } })) else (9, st)) := rfl
    have HC1 := Lib.hid c1
    have HAL : Hid (a.length ≤ 4000000000) := Lib.hid (hs a (by simp))
    obtain ⟨tv, hv, sv, V, hS⟩ := hr
    obtain ⟨d0, d1, d2, d3, d4, d5, fz⟩ := hS.cell
    have HS := Lib.hid hS
    have hlim := hS.lim.thrs
    obtain ⟨hp, hcap, rfl⟩ := own_slice hS.rows.thrs
    clear d0 d2 d3 d4 d5 fz hS hw hs hc hl
    generalize threadF st [a] = r at *
    generalize nameF a = ok at *
    have h2 : ([x, a] : List Word).length = 2 := rfl
    go_enter Tryd.func58, Tryd.ntmps58
    go_wp2_with fail
    refine HA.out.mono ?_
    rintro e w1 ⟨rfl, hw1⟩
    subst hw1
    cases ok with
    | false =>
      have HF2 : Hid (r = (9, st)) := Lib.hid HF.out
      go_wp2_with fail
      go_ret
      rw [HF2.out]
      exact ⟨rfl, HR.out, Below.refl _ _, Keep9.refl _⟩
    | true =>
      by_cases hfull : 64 ≤ st.s.thrs.length
      · have HF2 : Hid (r = (3, st)) := Lib.hid (by rw [HF.out]; simp only [if_true, if_pos hfull])
        have hfull' : ((st.s.thrs.length : Int) == 64) = true := by rw [beq_iff_eq]; omega
        go_wp2_with fail
        go_ret
        rw [HF2.out]
        exact ⟨rfl, HR.out, Below.refl _ _, Keep9.refl _⟩
      · have hfull' : ((st.s.thrs.length : Int) == 64) = false := by rw [beq_eq_false_iff_ne]; omega
        have HF1 : Hid (r = if a ∈ st.s.thrs.map Thr.name then (7, st) else (0, { st with s := { st.s with thrs := st.s.thrs ++ [⟨a, []⟩] } })) := Lib.hid (by rw [HF.out]; simp only [if_true, if_neg hfull])
        have hfl : st.s.thrs.length < 64 := by omega
        clear HF hfull
        generalize htl : st.s.thrs.length = tl at *
        have HTL := Lib.hid htl
        clear htl
        obtain ⟨w0, hw0⟩ : ∃ w0, w0 = w := ⟨_, rfl⟩
        subst hw0
        go_wp2_with fail
        go_loopw [5] (fun iv wr => ∃ i : Nat, i ≤ tl ∧ iv = .int .i64 i ∧ (∀ j, j < i → (st.s.thrs.getD j default).name ≠ a) ∧ Below w0.heap.size w0 wr) (fun iv _ => tl - (intOf iv).toNat)
        case atStart => exact ⟨0, Nat.zero_le _, rfl, (fun j hj => by omega), Below.refl _ _⟩
        case round =>
          obtain ⟨i, hi, rfl, hno, hlow⟩ := hrel
          have HNO := Lib.hid hno
          have hSr := HS.out.below hlow
          have HSr := Lib.hid hSr
          have HRr := Lib.hid (HR.out.below hlow)
          have HLr : Hid (Below N w0 wr) := Lib.hid (hlow.mono hnw)
          have HLOW := Lib.hid hlow
          have e1 : wr.cell? ⟨g, 1, none⟩ = some (.slice hp tl hcap) := hSr.cell.2.1
          have k1 : wr.cell? ⟨gw, ow + 1, none⟩ = some (.string ⟨a.toArray⟩) := (hlow.cell (p := ⟨gw, ow + 1, none⟩) hclt).trans HC1.out
          clear hno hlow d1 c1
          by_cases hin : i < tl
          · obtain ⟨hb, hhb⟩ : ∃ hb, hp = some ⟨hb, 0, none⟩ := by
              rcases hSr.rows.thrs.2 with ⟨e, h0⟩ | ⟨q, cap, _, e, _⟩
              · have := HTL.out; omega
              · injection e with e1 e2 e3; exact ⟨q, e1⟩
            subst hhb
            have e2 : wr.cell? ⟨hb, i * 2, none⟩ = some (.string ⟨(st.s.thrs.getD i default).name.toArray⟩) := by
              have hrow := hSr.rows.thrs
              rw [HTL.out] at hrow
              have h := hrow.cellAt (i * 2 + 0) (by omega)
              rw [hcells_get _ _ _ _ (by have := HTL.out; omega) (by omega)] at h
              exact h
            generalize hnm : (st.s.thrs.getD i default).name = nm at *
            have HNM := Lib.hid hnm
            clear hnm hSr
            go_upto_region 8 with fail
            by_cases hne : nm = a
            · subst hne
              have HF2 : Hid (r = (7, st)) := Lib.hid (by rw [HF1.out, if_pos (name_mem.2 ⟨i, by have := HTL.out; omega, HNM.out⟩)])
              go_region
              all_goals
                go_wp2_with fail
                go_ret
                rw [HF2.out]
                exact ⟨rfl, HRr.out.below (Below.refl _ _).drew, HLr.out.drew, keep_below HLOW.out.drew⟩
            · have hnb : (nm == a) = false := beq_eq_false_iff_ne.2 hne
              have HNO2 : Hid (∀ j, j < i + 1 → (st.s.thrs.getD j default).name ≠ a) := Lib.hid (fun j hj => by
                by_cases e : j = i
                · subst e; rw [HNM.out]; exact hne
                · exact HNO.out j (by omega))
              go_region
              all_goals
                go_wp2_with fail
                go_roundw
                case rel => exact ⟨i + 1, by omega, by go_num, HNO2.out, HLOW.out.drew⟩
                case measure => simp [intOf]; omega
          · have hie : i = tl := by omega
            subst hie
            have HF2 : Hid (r = (0, { st with s := { st.s with thrs := st.s.thrs ++ [⟨a, []⟩] } })) := Lib.hid (by
              rw [HF1.out, if_neg]
              intro h
              obtain ⟨j, hj, he⟩ := name_mem.1 h
              exact HNO.out j (by have := HTL.out; omega) he)
            obtain ⟨i83, hi83, z0, z1, z2⟩ := info_parts info83
            have hnc := hSr.nw
            have hgl := hSr.glt
            have hwl := World.block_lt_of_cell? wr _ k1
            have hSd := hSr.below (Below.refl wr.heap.size wr).drew
            have hsx := src_one0 wr.drew #[.string ⟨a.toArray⟩, .slice none 0 0] 83 2 rfl (hcell_one ⟨a, []⟩ (.slice none 0 0) rfl)
            have hti := HTL.out
            obtain ⟨v', w4, hrun, ha⟩ := run_append_row (P := Tryd.prog) (wr.drew.alloc (.cells #[.string ⟨a.toArray⟩, .slice none 0 0] 83)) N 32 32 83 i83 _ 2 40 under32 hi83 z0 z1 (by decide) z2 rfl _ _ _ (hSd.rows.thrs.alloc _) _ 1 (hcell ⟨a, []⟩ (.slice none 0 0)) hsx (by unfold maxLen; omega) (by omega) (by simp; omega)
            obtain ⟨q1, q2, q3, q4⟩ := hSd.thread kindsR (n := a) (by omega) ha
            obtain ⟨vp, vc, rfl⟩ := own_slice ha.1
            rw [hti] at hrun q3 q4
            have HRUN : Hid ((Builtin.append_ #[32, 32] 32 #[.slice hp i hcap, .slice (some ⟨wr.heap.size, 0, none⟩) 1 1]).run Tryd.prog (wr.alloc (.cells #[.string ⟨a.toArray⟩, .slice none 0 0] 83)).drew = .ok (.slice vp (i + 1) vc) w4) := Lib.hid hrun
            have e5 : (Value.bool (decide (0 < (st.s.thrs ++ [(⟨a, []⟩ : Thr)]).length))) = .bool true := by simp
            have q5 := q3.flag5 kindsR (.bool (decide (0 < (st.s.thrs ++ [(⟨a, []⟩ : Thr)]).length)))
            have hrx : RdrR ((w4.setCell ⟨g, 1, none⟩ (.slice vp (i + 1) vc)).setCell ⟨g, 5, none⟩ (.bool (decide (0 < (st.s.thrs ++ [(⟨a, []⟩ : Thr)]).length)))) N g { st with s := { st.s with thrs := st.s.thrs ++ [⟨a, []⟩] } } := ⟨_, _, _, _, q5.1⟩
            rw [e5] at hrx q5
            obtain ⟨_, _, _, _, _, m5, mf⟩ := q3.cell
            have m6 := mf 5
            have HRX := Lib.hid hrx
            have hk1 := (keep_app_head (hSd.alloc (.cells #[.string ⟨a.toArray⟩, .slice none 0 0] 83)) (hSd.rows.thrs.alloc (.cells #[.string ⟨a.toArray⟩, .slice none 0 0] 83)) ha.2.1 (by decide) (by decide) (by decide) 1 (.slice vp (i + 1) vc))
            have HK5 : Hid (Keep9 w0 ((w4.setCell ⟨g, 1, none⟩ (.slice vp (i + 1) vc)).setCell ⟨g, 5, none⟩ (.bool true))) := Lib.hid ((keep_below HLOW.out).trans ((keep_drew wr).trans ((keep_alloc wr.drew _).trans (hk1.trans (keep_set q3.head (by decide))))))
            have HL5 : Hid (Below N w0 ((w4.setCell ⟨g, 1, none⟩ (.slice vp (i + 1) vc)).setCell ⟨g, 5, none⟩ (.bool true))) := Lib.hid (HLr.out.trans (((Below.refl N wr).drew).trans (q4.trans q5.2)))
            have k1a : (wr.alloc (.cells #[.string ⟨a.toArray⟩, .slice none 0 0] 83)).cell? ⟨gw, ow + 1, none⟩ = some (.string ⟨a.toArray⟩) := (World.cell?_of_block (a := ⟨gw, ow + 1, none⟩) (Below.heap_alloc _ _ _ hwl)).trans k1
            have d1a : (wr.alloc (.cells #[.string ⟨a.toArray⟩, .slice none 0 0] 83)).cell? ⟨g, 1, none⟩ = some (.slice hp i hcap) := (World.cell?_of_block (a := ⟨g, 1, none⟩) (Below.heap_alloc _ _ _ hgl)).trans e1
            clear hSr hSd hsx hrun ha q3 q4 q5 mf hti hrx e5 hk1
            go_upto_region 10 with fail
            go_region_law (refine step_append_runI (by rfl) _ _ 32 32 (by rfl) (.slice hp i hcap) (.slice (some ⟨wr.heap.size, 0, none⟩) 1 1) (by rfl) (by rfl) HRUN.out ?_)
            all_goals
              go_wp2_with fail
              go_ret
              rw [HF2.out]
              exact ⟨rfl, HRX.out, HL5.out, HK5.out⟩
  · have HF : Hid (threadF st ws = (9, st)) := Lib.hid (by
      unfold threadF
      match ws with
      | [] => rfl
      | [_] => simp at hl
      | _ :: _ :: _ => rfl)
    have HR := Lib.hid hr
    have hlb : (((x :: ws).length : Int) != 2) = true := by simp; omega
    generalize threadF st ws = r at *
    clear hr hw hs
    generalize (x :: ws).length = l at *
    go_enter Tryd.func58, Tryd.ntmps58
    go_wp2_with fail
    go_ret
    rw [HF.out]
    exact ⟨rfl, HR.out, Below.refl _ _, Keep9.refl _⟩
end Go.Proofs.YtdmhlhoimaeacaaDoor

/-
  The reference's reader: a line of the schedule (f57). (Two alike ways were printed by wip/gen/refsched.py.)
-/
namespace Go.Proofs.YtdmhlhoimaeacaaDoor
open Go.RowKit Go.Maps
set_option linter.unusedVariables false

theorem own_src {w : World} {B e k n : Nat} {v : Value} {xs : List Value} (h : w.ownsRow B e k v n xs) (h1 : ∀ u ∈ xs, u.oneCell' = true) : SrcOf w k v n xs := by
  refine ⟨h.1, h1, ?_⟩
  rcases h.2 with ⟨e1, h0⟩ | ⟨q, cap, cur, e1, _⟩
  · exact .inl ⟨e1, h0⟩
  · exact .inr ⟨⟨q, 0, none⟩, cap, e1, fun j u hj => (h.cells (g := q) (by rw [e1]; rfl)) j u hj⟩
theorem ncells_one (l : List Int) : ∀ u ∈ ncells l, u.oneCell' = true := by
  intro u hu
  simp only [ncells, List.mem_map] at hu
  obtain ⟨n, _, rfl⟩ := hu
  rfl
theorem ncells_app (l r : List Int) : ncells (l ++ r) = ncells l ++ ncells r := by simp [ncells]
theorem ncells_len (l : List Int) : (ncells l).length = l.length := by simp [ncells]
/-- Numbers of the schedule more. -/
theorem RdrS.numbers {w w1 : World} {N T eT eH g : Nat} {tv hv sv x y : Value} {V : Nat → Value} {S : Scr} (K : Kinds T eT eH) (h : RdrS w N T eT eH g x y tv hv sv V S) {L : List Int} {v' : Value} (hl : S.sch.length + L.length ≤ 1048576)
    (ha : Appended w N 3 1 sv S.sch.length L.length (ncells S.sch ++ ncells L) v' w1) :
    w1.cell? ⟨g, 2, none⟩ = some sv ∧ w1.frozen? ⟨g, 2, none⟩ = false ∧ RdrS (w1.setCell ⟨g, 2, none⟩ v') N T eT eH g x y tv hv v' V { S with sch := S.sch ++ L } ∧ Below N w (w1.setCell ⟨g, 2, none⟩ v') := by
  obtain ⟨h1, h2, _⟩ := ha
  have hr := h.rows
  have hd : w1.heap[g]? = _ := head_other hr.sch h.head h2 K.h3.symm
  have hrow : RowsS w1 N eT eH tv hv v' V { S with sch := S.sch ++ L } := by
    refine ⟨own_other hr.tops hr.sch h2 K.t3, ?_, own_other hr.thrs hr.sch h2 K.h3', fun i hi => own_other (hr.each i hi) hr.sch h2 (by decide), hr.apart⟩
    rw [List.length_append, ncells_app]
    exact h1
  have hs := h2.size
  have hn := h.nw
  refine ⟨cell_of hd 2, free_of hd 2, ⟨?_, hrow.head K hd (grown_set _ _ _ _), ⟨h.lim.tops, h.lim.thrs, by simp; omega, h.lim.ops⟩, h.gN, by simp [World.setCell]; omega⟩, ?_⟩
  · rw [set_at hd]; rfl
  · exact ((Below.refl N w).grown h2 hn (fun q hq => (hr.sch.lt q hq).1)).setCell h.gN _
theorem piece_low {x : Word} {p : Int × Nat} (h : pieceF x = some p) : 1 ≤ p.2 := by
  unfold pieceF at h
  cases hw : withinF (beforeStar x) 0 2147483647 with
  | none => rw [hw] at h; cases h
  | some n =>
    rw [hw] at h
    simp only [Option.bind_some] at h
    cases hb : behindStar x with
    | none => rw [hb] at h; cases h; show 1 ≤ 1; omega
    | some r =>
      rw [hb] at h
      simp only at h
      cases hr : withinF r 1 65536 with
      | none => rw [hr] at h; cases h
      | some k =>
        rw [hr] at h
        cases h
        have := within_rng hr
        show 1 ≤ k.toNat
        omega
theorem number_more {w wr : World} {B : Nat} (hB : w.heap.size = B) {v : Value} {L : List Int} (h : wr.ownsRow B 3 1 v L.length (ncells L)) (hl : Below B w wr) (n : Int) {v' : Value} {w4 : World}
    (ha : Appended (wr.alloc (.cells #[.int .i64 n] 3)) B 3 1 v L.length 1 (ncells L ++ [.int .i64 n]) v' w4) : w4.ownsRow B 3 1 v' (L ++ [n]).length (ncells (L ++ [n])) ∧ Below B w w4 := by
  have hs : B ≤ wr.heap.size := by rw [← hB]; exact hl.size
  refine ⟨by rw [List.length_append, List.length_singleton, ncells_snoc]; exact ha.1, (hl.alloc hs _).grown ha.2.1 (by simp; omega) (fun q hq => (h.lt q hq).1)⟩

set_option maxRecDepth 100000 in
set_option maxHeartbeats 8000000 in
theorem refSched_walk (N g : Nat) (st : Rdg) (ao : Option Addr) (x0 : Word) (ws : List Word) (c : Nat) (w : World) (hr : RdrR w N g st) (hw : WordsAt w ao (x0 :: ws)) (hs : Short ws) (hlen : ws.length ≤ 9000000000) :
    Calls Tryd.prog 57 #[.pointer (some ⟨g, 0, none⟩), .slice ao (x0 :: ws).length c] w (LineR N g (schedF st ws) w) := by
  have HF : Hid (schedF st ws = if ws = [] then ((9 : Int), st) else match piecesF ws with
    | some ps => if 1048576 < st.s.sch.length + (spread ps).length then (3, st) else (0, { st with s := { st.s with sch := st.s.sch ++ spread ps } })
    | none => (9, st)) := Lib.hid rfl
  have HR := Lib.hid hr
  generalize schedF st ws = r at *
  have HL0 : Hid ((x0 :: ws).length = ws.length + 1) := rfl
  by_cases hne : ws = []
  · have HF2 : Hid (r = (9, st)) := Lib.hid (by rw [HF.out, if_pos hne])
    have hlb : ((x0 :: ws).length : Int) < 2 := by rw [hne]; simp
    clear hr hw hs hlen
    generalize (x0 :: ws).length = L at *
    go_enter Tryd.func57, Tryd.ntmps57
    go_wp2_with fail
    go_ret
    rw [HF2.out]
    exact ⟨rfl, HR.out, Below.refl _ _, Keep9.refl _⟩
  · obtain ⟨gw, ow, rfl, hc⟩ := hw.resolve_left (by simp)
    have hWL0 : 0 < ws.length := List.length_pos_iff.2 hne
    have HF1 := Lib.hid (HF.out.trans (if_neg hne))
    obtain ⟨tv, hv, sv, V, hS⟩ := hr
    have hnw := hS.nw
    have d2 := hS.cell.2.2.1
    have hlim := hS.lim.sch
    obtain ⟨sp, sc, rfl⟩ := own_slice hS.rows.sch
    have HS := Lib.hid hS
    have HW : Hid (∀ wr, Below w.heap.size w wr → ∀ j, j < ws.length → wr.cell? ⟨gw, ow + (j + 1), none⟩ = some (.string ⟨(ws.getD j default).toArray⟩)) := Lib.hid (fun wr hb j hj => by
      have h := hc (j + 1) (by simpa using hj)
      have h2 := (hb.cell (p := ⟨gw, ow + (j + 1), none⟩) (World.block_lt_of_cell? w _ h)).trans h
      simpa using h2)
    have HSH := Lib.hid hs
    clear hS hc hs hne HF hw
    generalize hLL : (x0 :: ws).length = L at *
    have hL2 : ¬ (L : Int) < 2 := by have := HL0.out; omega
    obtain ⟨B, hB⟩ : ∃ B, w.heap.size = B := ⟨_, rfl⟩
    have HBE := Lib.hid hB
    rw [hB] at hnw
    clear hLL hB
    generalize hsl : st.s.sch.length = sl at *
    have HSL := Lib.hid hsl
    clear hsl
    obtain ⟨i3, hi3, z0, z1, z2⟩ := info_parts info3
    go_enter Tryd.func57, Tryd.ntmps57
    go_wp2_with fail
    go_loopw [5, 6, 7, 8] (fun lv fv v iv wr => ∃ (j : Nat) (ps : List (Int × Nat)) (M : List Int), j ≤ ws.length ∧ iv = .int .i64 ((j : Int) + 1) ∧ piecesF (ws.take j) = some ps ∧ ps.length = j ∧ lv = .int .i64 (1048576 - (sl : Int) - ((spread ps).length : Int)) ∧ fv = .bool (decide (1048576 < sl + (spread ps).length)) ∧ (spread ps).length ≤ 65536 * j ∧ wr.ownsRow B 3 1 v M.length (ncells M) ∧ M.length ≤ 1048576 ∧ (¬ 1048576 < sl + (spread ps).length → M = spread ps) ∧ Below B w wr) (fun _ _ _ iv _ => L - (intOf iv).toNat)
    case atStart =>
      refine ⟨0, [], [], Nat.zero_le _, by go_num, rfl, rfl, by simp [spread], ?_, by simp [spread], ⟨rfl, .inl ⟨rfl, rfl⟩⟩, Nat.zero_le _, (fun _ => rfl), Below.refl _ _⟩
      show Value.bool false = Value.bool (decide (1048576 < sl + (spread []).length))
      rw [decide_eq_false (by simp [spread]; omega)]
    case round =>
      obtain ⟨j, ps, M, hj, rfl, hps, hpl, rfl, rfl, hsb, hrow, hML, hMS, hlow⟩ := hrel
      have HPS := Lib.hid hps
      have HPL := Lib.hid hpl
      have HROW := Lib.hid hrow
      have HLOW := Lib.hid hlow
      have HSB := Lib.hid hsb
      have HMS := Lib.hid hMS
      have hwB : Below w.heap.size w wr := by rw [HBE.out]; exact hlow
      have HWB := Lib.hid hwB
      have hcount : (sl : Int) + 65536 * (j : Int) ≤ 600000000000000 := by omega
      have hsb' : ((spread ps).length : Int) ≤ 65536 * (j : Int) := by omega
      generalize hspl : (spread ps).length = spl at *
      have HSPL := Lib.hid hspl
      have hjL : ((j : Int) + 1).toNat = j + 1 := by omega
      have hj0 : (0 : Int) ≤ (j : Int) + 1 := by omega
      by_cases hjn : j < ws.length
      · have cj := HW.out wr hwB j hjn
        have hxm : ws.getD j default ∈ ws := by
          simp only [List.getD]
          rw [List.getElem?_eq_getElem hjn]
          exact List.getElem_mem _
        generalize hx : ws.getD j default = x at *
        have HX := Lib.hid hx
        have hxl : x.length ≤ 4000000000 := HSH.out x hxm
        have HXM := Lib.hid hxm
        have HAFT := Lib.hid (after_walk x wr hxl)
        have HWI : Hid (∀ W, Calls Tryd.prog 56 #[.string ⟨(beforeStar x).toArray⟩, .int .i64 0, .int .i64 2147483647] W fun e w' => e = .returned (.tuple #[.int .i64 ((withinF (beforeStar x) 0 2147483647).getD 0), .bool (withinF (beforeStar x) 0 2147483647).isSome]) ∧ W = w') := Lib.hid (fun W => by
          have h := refNumber_walk ⟨(beforeStar x).toArray⟩ 0 2147483647 W (by rw [size_mk]; have := before_len x; omega)
          exact h)
        have HCO : Hid (∀ W y, behindStar x = some y → Calls Tryd.prog 56 #[.string ⟨y.toArray⟩, .int .i64 1, .int .i64 65536] W fun e w' => e = .returned (.tuple #[.int .i64 ((withinF y 1 65536).getD 0), .bool (withinF y 1 65536).isSome]) ∧ W = w') := Lib.hid (fun W y hy => by
          have h := refNumber_walk ⟨y.toArray⟩ 1 65536 W (by rw [size_mk]; have := behind_len x y hy; omega)
          exact h)
        have HPF : Hid (pieceF x = (withinF (beforeStar x) 0 2147483647).bind fun n => match behindStar x with
          | none => some (n, 1)
          | some r => (withinF r 1 65536).map fun k => (n, k.toNat)) := Lib.hid rfl
        have hjL2 : j + 1 < L := by have := HL0.out; omega
        have hjL3 : (j : Int) + 1 < (L : Int) := by omega
        clear hps hpl hrow hlow hwB hsb hx hxm hspl d2 hxl hMS
        generalize hpx : pieceF x = px at *
        have HPX := Lib.hid hpx
        clear hpx
        generalize hfb : decide (1048576 < sl + spl) = fb at *
        have HFB := Lib.hid hfb
        clear hfb
        go_wp2_with fail
        refine HAFT.out.mono ?_
        rintro e w1 ⟨rfl, hb1⟩
        have HB1 := Lib.hid hb1
        clear hb1
        go_wp2_with fail
        refine (HWI.out w1).mono ?_
        rintro e w2 ⟨rfl, hw2⟩
        subst hw2
        generalize hfo : (behindStar x).isSome = fo at *
        generalize hyo : (behindStar x).getD [] = yo at *
        have HFO := Lib.hid hfo
        have HYO := Lib.hid hyo
        clear hfo hyo
        go_upto_region 12 with fail
        generalize hqv : withinF (beforeStar x) 0 2147483647 = q1 at *
        have HQV := Lib.hid hqv
        clear hqv
        go_cut [49] from 26 to 78 (fun v wx => v = .bool (fo && q1.isSome) ∧ wx = w1)
        case first =>
          cases fo with
          | false =>
            go_wp2_with fail
            go_meet
            exact ⟨rfl, rfl⟩
          | true =>
            go_wp2_with fail
            go_meet
            exact ⟨rfl, rfl⟩
        case rest =>
        obtain ⟨rfl, hwc⟩ := hcut
        generalize wc = wd at *
        subst hwc
        go_upto_if 49 with fail
        go_cut [12, 13, 14] from 26 to 78 (fun nv okv kv wx => wx = wd ∧ okv = .bool px.isSome ∧ ∀ p, px = some p → nv = .int .i64 p.1 ∧ kv = .int .i64 (p.2 : Int))
        case first =>
          cases fo with
          | false =>
            have hbs : behindStar x = none := by
              cases h : behindStar x with
              | none => rfl
              | some y => have := HFO.out; rw [h] at this; cases this
            have HPN : Hid (px = q1.bind fun n => some (n, 1)) := Lib.hid (by rw [HPF.out, hbs])
            clear hbs
            simp only [Bool.false_and]
            go_wp2_with fail
            go_meet
            refine ⟨rfl, by rw [HPN.out]; cases q1 <;> rfl, fun p hp => ?_⟩
            rw [HPN.out] at hp
            cases q1 with
            | none => cases hp
            | some q => cases hp; exact ⟨rfl, rfl⟩
          | true =>
            have hbs : behindStar x = some yo := by
              cases h : behindStar x with
              | none => have := HFO.out; rw [h] at this; cases this
              | some y => have := HYO.out; rw [h] at this; rw [← this]; rfl
            have HPN : Hid (px = q1.bind fun n => (withinF yo 1 65536).map fun k => (n, k.toNat)) := Lib.hid (by rw [HPF.out, hbs])
            have HCY := Lib.hid (HCO.out wd yo hbs)
            clear hbs
            cases q1 with
            | none =>
              have HZ : Hid (px = none) := Lib.hid (by rw [HPN.out]; rfl)
              simp only [Option.isSome_none, Bool.and_false]
              go_wp2_with fail
              go_meet
              exact ⟨rfl, by rw [HZ.out]; rfl, (fun p hp => by rw [HZ.out] at hp; cases hp)⟩
            | some q =>
              have HZ : Hid (px = (withinF yo 1 65536).map fun k => (q, k.toNat)) := Lib.hid (by rw [HPN.out]; rfl)
              simp only [Option.isSome_some, Option.getD_some, Bool.and_true]
              go_wp2_with fail
              refine HCY.out.mono ?_
              rintro e w3 ⟨rfl, hw3⟩
              subst hw3
              go_wp2_with fail
              go_meet
              refine ⟨rfl, by rw [HZ.out]; cases withinF yo 1 65536 <;> rfl, (fun p hp => ?_)⟩
              rw [HZ.out] at hp
              cases hk : withinF yo 1 65536 with
              | none => rw [hk] at hp; cases hp
              | some k =>
                rw [hk] at hp
                cases hp
                have := within_rng hk
                refine ⟨rfl, ?_⟩
                show Value.int .i64 k = Value.int .i64 ((k.toNat : Nat) : Int)
                rw [Int.toNat_of_nonneg (by omega)]
        case rest =>
          obtain ⟨hwc, hokv, hpv⟩ := hcut
          subst hokv hwc
          have hwcB : Below B w wc := HLOW.out.trans (HB1.out.mono (by have := HLOW.out.size; have := HBE.out; omega))
          have HLX := Lib.hid hwcB
          have HROWc := Lib.hid (own_below HROW.out HB1.out)
          have HPV := Lib.hid hpv
          clear hwcB hpv HROW
          have HROW := HROWc
          clear HROWc
          cases px with
          | none =>
            have HF2 : Hid (r = (9, st)) := Lib.hid (by rw [HF1.out, piecesF_bad ws x HXM.out HPX.out])
            simp only [Option.isSome_none]
            go_wp2_with fail
            go_ret
            rw [HF2.out]
            exact ⟨rfl, HR.out.below (by rw [HBE.out]; exact HLX.out), HLX.out.mono hnw, keep_below (by rw [HBE.out]; exact HLX.out)⟩
          | some p =>
            obtain ⟨rfl, rfl⟩ := HPV.out p rfl
            have hpr1 := piece_low HPX.out
            have hpr2 := piece_rng HPX.out
            have hP2 : Hid (piecesF (ws.take (j + 1)) = some (ps ++ [p]) ∧ (ps ++ [p]).length = j + 1 ∧ (spread (ps ++ [p])).length = spl + p.2) := Lib.hid (by
              refine ⟨?_, by rw [List.length_append, HPL.out]; rfl, by rw [spread_snoc, List.length_append, List.length_replicate, HSPL.out]⟩
              rw [List.take_succ_eq_append_getElem hjn, piecesF_snoc, HPS.out]
              have : ws[j] = x := by
                have h := HX.out
                simp only [List.getD] at h
                rw [List.getElem?_eq_getElem hjn] at h
                exact h
              rw [this, HPX.out]
              rfl)
            simp only [Option.isSome_some]
            obtain ⟨p1, p2⟩ := p
            simp only at hpr1 hpr2 ⊢
            by_cases hfl : 1048576 < sl + spl
            · have hfb : fb = true := by rw [← HFB.out]; exact decide_eq_true hfl
              subst hfb
              obtain ⟨wo, hwo⟩ : ∃ wo, wo = wr := ⟨_, rfl⟩
              subst hwo
              have HFLN : Hid (1048576 < sl + (spread (ps ++ [(p1, p2)])).length) := Lib.hid (by rw [hP2.out.2.2]; omega)
              go_wp2_with fail
              go_loopw [7, 15] (fun v jv wr => jv = .int .i64 0 ∧ wr = wc ∧ wr.ownsRow B 3 1 v M.length (ncells M)) (fun _ _ _ => 0)
              case atStart => exact ⟨rfl, rfl, HROW.out⟩
              case round =>
                obtain ⟨rfl, hwr, hrow2⟩ := hrel
                have HROW2 := Lib.hid hrow2
                clear hrow2
                subst hwr
                go_wp2_with fail
                go_roundw
                case rel =>
                  obtain ⟨e1, e2, e3⟩ := hP2.out
                  refine ⟨j + 1, ps ++ [(p1, p2)], M, by omega, by go_num, e1, e2, ?_, ?_, by rw [e3]; omega, HROW2.out, hML, (fun h => absurd HFLN.out (by omega)), HLX.out⟩
                  · rw [e3]; go_num
                  · rw [decide_eq_true HFLN.out]
                case measure => simp [intOf]; omega
            · have hfb : fb = false := by rw [← HFB.out]; exact decide_eq_false hfl
              subst hfb
              by_cases hfn : 1048576 < sl + spl + p2
              · have hgt : (p2 : Int) > 1048576 - (sl : Int) - (spl : Int) := by omega
                obtain ⟨wo, hwo⟩ : ∃ wo, wo = wr := ⟨_, rfl⟩
                subst hwo
                have HFLN : Hid (1048576 < sl + (spread (ps ++ [(p1, p2)])).length) := Lib.hid (by rw [hP2.out.2.2]; omega)
                go_wp2_with fail
                go_loopw [7, 15] (fun v jv wr => jv = .int .i64 0 ∧ wr = wc ∧ wr.ownsRow B 3 1 v M.length (ncells M)) (fun _ _ _ => 0)
                case atStart => exact ⟨rfl, rfl, HROW.out⟩
                case round =>
                  obtain ⟨rfl, hwr, hrow2⟩ := hrel
                  have HROW2 := Lib.hid hrow2
                  clear hrow2
                  subst hwr
                  go_wp2_with fail
                  go_roundw
                  case rel =>
                    obtain ⟨e1, e2, e3⟩ := hP2.out
                    refine ⟨j + 1, ps ++ [(p1, p2)], M, by omega, by go_num, e1, e2, ?_, ?_, by rw [e3]; omega, HROW2.out, hML, (fun h => absurd HFLN.out (by omega)), HLX.out⟩
                    · rw [e3]; go_num
                    · rw [decide_eq_true HFLN.out]
                  case measure => simp [intOf]; omega
              · have hgt : ¬ (p2 : Int) > 1048576 - (sl : Int) - (spl : Int) := by omega
                have hMe := HMS.out hfl
                subst hMe
                have HFLN : Hid (¬ 1048576 < sl + (spread (ps ++ [(p1, p2)])).length) := Lib.hid (by rw [hP2.out.2.2]; omega)
                obtain ⟨wo, hwo⟩ : ∃ wo, wo = wr := ⟨_, rfl⟩
                subst hwo
                go_wp2_with fail
                go_loopw [7, 15] (fun v jv wr => ∃ k : Nat, k ≤ p2 ∧ jv = .int .i64 k ∧ wr.ownsRow B 3 1 v (spread ps ++ List.replicate k p1).length (ncells (spread ps ++ List.replicate k p1)) ∧ Below B w wr) (fun _ jv _ => p2 - (intOf jv).toNat)
                case atStart => exact ⟨0, Nat.zero_le _, rfl, by rw [List.replicate_zero, List.append_nil]; exact HROW.out, HLX.out⟩
                case round =>
                  obtain ⟨k, hk, rfl, hrk, hlk⟩ := hrel
                  have HRK := Lib.hid hrk
                  have HLK := Lib.hid hlk
                  clear hrk hlk
                  by_cases hkn : k < p2
                  · have HSX := Lib.hid (src_one0 wr #[.int .i64 p1] 3 1 rfl (by intro u hu; simp at hu; rw [hu]; rfl))
                    have HROWA := Lib.hid (HRK.out.alloc (.cells #[.int .i64 p1] 3))
                    have hszB : B ≤ wr.heap.size := by have := HLK.out.size; have := HBE.out; omega
                    have hml : (spread ps ++ List.replicate k p1).length ≤ 1048576 := by rw [List.length_append, List.length_replicate, HSPL.out]; omega
                    go_wp2_with (at_builtin; go_must (refine wpList_append_row rfl (.tmp 75) (.tmp 77) 25 rfl B 3 i3 _ 1 8 under25 hi3 z0 z1 (by decide) z2 rfl _ (spread ps ++ List.replicate k p1).length (ncells (spread ps ++ List.replicate k p1)) rfl HROWA.out 1 [.int .i64 p1] HSX.out ?l2 ?b2 ?n2 ?_); go_must (case l2 => (unfold maxLen; omega)); go_must (case b2 => omega); go_must (case n2 => (simp; omega)); intro v61 w4 ha; go_must (have HAP := Lib.hid ha); clear ha)
                    have hm := number_more HBE.out HRK.out HLK.out p1 HAP.out
                    go_roundw
                    case rel =>
                      refine ⟨k + 1, by omega, by go_num, ?_, hm.2⟩
                      rw [List.replicate_succ', ← List.append_assoc]
                      exact hm.1
                    case measure => simp [intOf]; omega
                  · obtain rfl : k = p2 := by omega
                    go_wp2_with fail
                    go_roundw
                    case rel =>
                      obtain ⟨e1, e2, e3⟩ := hP2.out
                      refine ⟨j + 1, ps ++ [(p1, k)], spread ps ++ List.replicate k p1, by omega, by go_num, e1, e2, ?_, ?_, by rw [e3]; omega, HRK.out, ?_, (fun _ => by rw [spread_snoc]), HLK.out⟩
                      · rw [e3]; go_num
                      · rw [decide_eq_false HFLN.out]
                      · rw [List.length_append, List.length_replicate, HSPL.out]; omega
                    case measure => simp [intOf]; omega
      · have hje : j = ws.length := by omega
        have hpw : piecesF ws = some ps := by
          have := HPS.out
          rw [List.take_of_length_le (by omega)] at this
          exact this
        have HF3 : Hid (r = if 1048576 < sl + spl then ((3 : Int), st) else (0, { st with s := { st.s with sch := st.s.sch ++ spread ps } })) := Lib.hid (by
          rw [HF1.out, hpw]
          simp only
          rw [HSPL.out])
        have HRr := Lib.hid (HR.out.below hwB)
        have HLr : Hid (Below N w wr) := Lib.hid (hlow.mono hnw)
        have HSr := Lib.hid (HS.out.below hwB)
        have hLj : ¬ (j : Int) + 1 < (L : Int) := by have := HL0.out; omega
        clear hpw hps hpl hrow hlow hwB hsb hspl d2 hMS hje
        by_cases hbig : 1048576 < sl + spl
        · have HF2 : Hid (r = (3, st)) := Lib.hid (by rw [HF3.out, if_pos hbig])
          have hdb : decide (1048576 < sl + spl) = true := decide_eq_true hbig
          rw [hdb]
          clear hdb
          go_wp2_with fail
          go_ret
          rw [HF2.out]
          exact ⟨rfl, HRr.out, HLr.out, keep_below HWB.out⟩
        · have HF2 : Hid (r = (0, { st with s := { st.s with sch := st.s.sch ++ spread ps } })) := Lib.hid (by rw [HF3.out, if_neg hbig])
          have hdb : decide (1048576 < sl + spl) = false := decide_eq_false hbig
          have hMe := HMS.out hbig
          subst hMe
          rw [hdb]
          clear hdb
          obtain ⟨d0, d1, d2, d3, d4, d5, fz⟩ := HSr.out.cell
          have f2 := fz 2
          obtain ⟨pm, pc, hu7⟩ := own_slice HROW.out
          subst hu7
          have HSRC := Lib.hid (own_src HROW.out (ncells_one _))
          have hnr := HSr.out.nw
          have hrs := HSr.out.rows.sch
          have HST := Lib.hid (fun (v' : Value) (w3 : World) ha => HSr.out.numbers kindsR (L := spread ps) (v' := v') (w1 := w3) (by rw [HSL.out, HSPL.out]; omega) ha)
          have HRS := Lib.hid hrs
          have hb1 : st.s.sch.length + (spread ps).length ≤ 1048576 := by rw [HSL.out, HSPL.out]; omega
          go_wp2_with (at_builtin; go_must (refine wpList_append_row rfl (.tmp 85) (.tmp 86) 25 rfl N 3 i3 _ 1 8 under25 hi3 z0 z1 (by decide) z2 rfl (.slice sp sl sc) st.s.sch.length (ncells st.s.sch) rfl HRS.out (spread ps).length (ncells (spread ps)) HSRC.out ?l2 ?b2 ?n2 ?_); go_must (case l2 => (unfold maxLen; omega)); go_must (case b2 => omega); go_must (case n2 => exact hnr); intro v' w3 ha; go_must (obtain ⟨vp, vc, rfl⟩ := own_slice ha.1); go_must (obtain ⟨q1, q2, q3, q4⟩ := HST.out _ w3 ha); have HQ3 := Lib.hid q3; have HQ4 := Lib.hid q4; go_must (have HQ5 := Lib.hid (keep_app_head HSr.out HRS.out ha.2.1 (by decide) (by decide) (by decide) 2 (.slice vp (st.s.sch.length + (spread ps).length) vc))); clear q3 q4 ha)
          go_ret
          rw [HF2.out]
          exact ⟨rfl, ⟨_, _, _, _, HQ3.out⟩, HLr.out.trans HQ4.out, (keep_below HWB.out).trans HQ5.out⟩
end Go.Proofs.YtdmhlhoimaeacaaDoor

/-
  The reference's reader: the last thread does more (memory). No walk.
-/
namespace Go.Proofs.YtdmhlhoimaeacaaDoor
open Go.RowKit Go.Maps
set_option linter.unusedVariables false

/-- What holds ahead of the round i. -/
structure OpLoopR (N g hb tc ob L : Nat) (has : Bool) (tv sv : Value) (S : Scr) (p : Opn) (w0 : World) (i : Nat) (wr : World) : Prop where
  rdr : ∃ V, RdrS wr N 81 82 83 g (.bool has) (.bool (decide (0 < S.thrs.length))) tv (.slice (some ⟨hb, 0, none⟩) (addOps S (List.replicate i p)).thrs.length tc) sv V (addOps S (List.replicate i p)) ∧ (V L).ownBlock ≠ some ob
  op : wr.heap[ob]? = some (.cells (opArr p) 65 (0, 0))
  low : Below N w0 wr
  keep : Keep9 w0 wr
theorem OpLoopR.drew {N g hb tc ob L : Nat} {has : Bool} {tv sv : Value} {S : Scr} {p : Opn} {w0 : World} {i : Nat} {wr : World} (h : OpLoopR N g hb tc ob L has tv sv S p w0 i wr) : OpLoopR N g hb tc ob L has tv sv S p w0 i wr.drew := by
  obtain ⟨⟨V, h1, h2⟩, h4, h5, h6⟩ := h
  exact ⟨⟨V, h1.below (Below.refl _ _).drew, h2⟩, h4, h5.drew, h6.trans (keep_drew _)⟩
theorem OpLoopR.done {N g hb tc ob L : Nat} {st : Rdg} {tv sv : Value} {p : Opn} {w0 : World} {n : Nat} {wr : World} (hL : L + 1 = st.s.thrs.length) (h : OpLoopR N g hb tc ob L st.has tv sv st.s p w0 n wr) :
    RdrR wr N g { st with s := addOps st.s (List.replicate n p) } ∧ Below N w0 wr ∧ Keep9 w0 wr := by
  obtain ⟨⟨V, h1, h2⟩, h4, h5, h6⟩ := h
  rw [← addOps_len (show 0 < st.s.thrs.length by omega) (List.replicate n p)] at h1
  exact ⟨⟨_, _, _, V, h1⟩, h5, h6⟩
/-- A round. -/
theorem OpLoopR.round {N g hb tc ob L : Nat} {has : Bool} {tv sv : Value} {S : Scr} {p : Opn} {w0 : World} {i : Nat} {wr : World} (hL : L + 1 = S.thrs.length) (h : OpLoopR N g hb tc ob L has tv sv S p w0 i wr)
    (hi : (S.thrs.getD L default).ops.length + i < 65536) :
    ∃ vp l vc vp' vc' w4, wr.cell? ⟨hb, L * 2 + 1, none⟩ = some (.slice vp l vc) ∧ (wr.alloc (.cells (opArr p) 65)).cell? ⟨hb, L * 2 + 1, none⟩ = some (.slice vp l vc) ∧
      (∀ j, wr.cell? ⟨ob, j, none⟩ = (opArr p)[j]?) ∧ (∀ j, (wr.alloc (.cells (opArr p) 65)).cell? ⟨ob, j, none⟩ = (opArr p)[j]?) ∧
      (Builtin.append_ #[56, 56] 56 #[.slice vp l vc, .slice (some ⟨wr.heap.size, 0, none⟩) 1 1]).run Tryd.prog (wr.alloc (.cells (opArr p) 65)).drew = .ok (.slice vp' (l + 1 : Nat) vc') w4 ∧
      w4.cell? ⟨hb, L * 2 + 1, none⟩ = some (.slice vp l vc) ∧ w4.frozen? ⟨hb, L * 2 + 1, none⟩ = false ∧
      OpLoopR N g hb tc ob L has tv sv S p w0 (i + 1) (w4.setCell ⟨hb, L * 2 + 1, none⟩ (.slice vp' (l + 1 : Nat) vc')) := by
  obtain ⟨⟨V, hS, hne⟩, hop, hlow, hkeep⟩ := h
  have h0 : 0 < S.thrs.length := by omega
  have hlen := addOps_len h0 (List.replicate i p)
  have hops := addOps_getL hL (List.replicate i p)
  have hol : ((addOps S (List.replicate i p)).thrs.getD L default).ops.length = (S.thrs.getD L default).ops.length + i := by rw [hops, List.length_append, List.length_replicate]
  obtain ⟨i65, hi65, z0, z1, z2⟩ := info_parts info65
  have hSd := hS.below (Below.refl wr.heap.size wr).drew
  have hsx := src_one0 wr.drew (opArr p) 65 4 rfl (opArr_one p)
  have hrowd := hSd.rows.each L (by rw [hlen]; omega)
  obtain ⟨v', w4, hrun, ha⟩ := run_append_row (P := Tryd.prog) (wr.drew.alloc (.cells (opArr p) 65)) N 56 56 65 i65 _ 4 32 under56 hi65 z0 z1 (by decide) z2 rfl _ _ _ (hrowd.alloc _) _ 1 (ocell p) hsx (by rw [hol]; unfold maxLen; omega) (by rw [hol]; omega) (by have := hS.nw; simp; omega)
  obtain ⟨q1, q2, q3, q4⟩ := hSd.addOp kindsR (L := L) (p := p) (by rw [hlen]; exact hL) (by rw [hol]; exact hi) ha
  obtain ⟨vp', vc', rfl⟩ := own_slice ha.1
  obtain ⟨vp, vc, hvl⟩ := own_slice hrowd
  have hcl : wr.cell? ⟨hb, L * 2 + 1, none⟩ = some (V L) := by
    rw [hS.rows.thrs.cellAt _ (by rw [hlen]; omega), hcells_get _ _ _ _ (by rw [hlen]; omega) (by omega)]
    rfl
  have hlt := World.block_lt_of_cell? wr _ hcl
  have holt := (Array.getElem?_eq_some_iff.1 hop).1
  have hA := ha.2.2
  have hg := ha.2.1
  have hopa : (wr.alloc (.cells (opArr p) 65)).heap[ob]? = some (.cells (opArr p) 65 (0, 0)) := (Below.heap_alloc _ _ _ holt).trans hop
  have hop4 : w4.heap[ob]? = some (.cells (opArr p) 65 (0, 0)) :=
    (hg.block ob (by show ob < (wr.drew.alloc _).heap.size; simp; omega) (fun e => hne e.symm)).trans hopa
  have hobb : ob ≠ hb := by
    intro e
    have hx := (hSd.rows.thrs.alloc (.cells (opArr p) 65))
    obtain ⟨c, fz, hx⟩ := Lib.ownsRow_kind hx hb rfl
    rw [← e] at hx
    exact absurd (hx.symm.trans hopa) (by intro e; cases e)
  refine ⟨vp, _, vc, vp', vc', w4, by rw [hcl, hvl], ?_, cell_of hop, cell_of hopa, by rw [← hvl]; exact hrun, by rw [q1, hvl], q2, ?_⟩
  · exact (World.cell?_of_block (a := ⟨hb, L * 2 + 1, none⟩) (Below.heap_alloc _ _ _ hlt)).trans (by rw [hcl, hvl])
  · have e1 : addOps (addOps S (List.replicate i p)) [p] = addOps S (List.replicate (i + 1) p) := by
      rw [addOps_snoc h0, List.replicate_succ']
    refine ⟨⟨_, by rw [← e1, addOps_len (by rw [hlen]; exact h0)]; exact q3, ?_⟩, ?_, ?_, ?_⟩
    · simp only [if_true]
      intro e
      rcases hA with ⟨e2, _⟩ | ⟨g', cap, e2, _, h5⟩
      · rw [e2] at e; cases e
      · rw [e2] at e
        have e3 : g' = ob := by injection e
        rcases h5 with h5 | h5
        · exact hne (by rw [h5, e3])
        · have : wr.heap.size < g' + 1 := by
            have h6 : (wr.drew.alloc (.cells (opArr p) 65)).heap.size ≤ g' := h5
            simp at h6
            omega
          omega
    · exact (Below.heap_setCell _ _ _ _ hobb).trans hop4
    · exact hlow.trans ((Below.refl N wr).drew.trans q4)
    · obtain ⟨c5, fz5, hx5⟩ := Lib.ownsRow_kind (own_other (hSd.rows.thrs.alloc (.cells (opArr p) 65)) (hrowd.alloc (.cells (opArr p) 65)) hg kindsR.ho') hb rfl
      exact hkeep.trans ((keep_drew wr).trans ((keep_alloc wr.drew _).trans ((keep_grown (hrowd.alloc _) hg (by decide)).trans (keep_set hx5 (by decide)))))
end Go.Proofs.YtdmhlhoimaeacaaDoor

/-
  The reference's reader: a line (f32).
-/
namespace Go.Proofs.YtdmhlhoimaeacaaDoor
open Go.RowKit Go.Maps
set_option linter.unusedVariables false

theorem info82 : (Tryd.prog.info? 82).map (fun i => (i.zero, i.size, i.bytes)) = some (some (.agg #[.int .i64 0, .int .i64 0]), 2, 16) := by kernel_rfl
theorem under31 : Tryd.prog.underlying 31 = some (.slice 82) := by kernel_rfl

set_option maxRecDepth 100000 in
set_option maxHeartbeats 8000000 in
/-- A topic's line. -/
theorem refTopic_walk (N g : Nat) (st : Rdg) (ao : Option Addr) (ws : List Word) (c : Nat) (w : World) (hr : RdrR w N g st) (hw : WordsAt w ao (wTopic :: ws)) (hs : Short ws) :
    Calls Tryd.prog 32 #[.pointer (some ⟨g, 0, none⟩), .slice ao (wTopic :: ws).length c] w (LineR N g (topicF st ws) w) := by
  obtain ⟨gw, ow, rfl, hc⟩ := hw.resolve_left (by simp)
  have c0 : w.cell? ⟨gw, ow, none⟩ = some (.string ⟨#[116, 111, 112, 105, 99]⟩) := hc 0 (by simp)
  have HR := Lib.hid hr
  by_cases hl : ws.length = 2
  · obtain ⟨a, b, rfl⟩ : ∃ a b, ws = [a, b] := by
      match ws, hl with
      | [a, b], _ => exact ⟨a, b, rfl⟩
    have c1 : w.cell? ⟨gw, ow + 1, none⟩ = some (.string ⟨a.toArray⟩) := hc 1 (by simp)
    have c2 : w.cell? ⟨gw, ow + 2, none⟩ = some (.string ⟨b.toArray⟩) := hc 2 (by simp)
    have HA : Hid (Calls Tryd.prog 56 #[.string ⟨a.toArray⟩, .int .i64 (-9223372036854775808), .int .i64 9223372036854775807] w fun e w' => e = .returned (.tuple #[.int .i64 ((numF a).getD 0), .bool (numF a).isSome]) ∧ w = w') := Lib.hid (by
      have h := refNumber_walk ⟨a.toArray⟩ (-9223372036854775808) 9223372036854775807 w (by rw [size_mk]; exact hs a (by simp))
      rw [show (ByteArray.mk a.toArray).data.toList = a from rfl, within_all] at h
      exact h)
    have HB : Hid (Calls Tryd.prog 56 #[.string ⟨b.toArray⟩, .int .i64 0, .int .i64 65536] w fun e w' => e = .returned (.tuple #[.int .i64 ((withinF b 0 65536).getD 0), .bool (withinF b 0 65536).isSome]) ∧ w = w') := Lib.hid (by
      have h := refNumber_walk ⟨b.toArray⟩ 0 65536 w (by rw [size_mk]; exact hs b (by simp))
      exact h)
    have HF : Hid (topicF st [a, b] = match numF a, withinF b 0 65536 with
      | some n, some s => if 65536 ≤ st.s.tops.length then (3, st) else (0, { st with s := { st.s with tops := st.s.tops ++ [⟨n, s⟩] } })
      | _, _ => (9, st)) := Lib.hid rfl
    have hLL : ((wTopic :: [a, b]).length : Int) = 3 := rfl
    have hL : (wTopic :: [a, b]).length = 3 := rfl
    rw [hL]
    clear hr hw hs hc hl hLL hL
    generalize topicF st [a, b] = r at *
    generalize numF a = oa at *
    generalize withinF b 0 65536 = ob at *
    go_enter Tryd.func32, Tryd.ntmps32
    go_wp2_with fail
    refine HA.out.mono ?_
    rintro e w1 ⟨rfl, hw1⟩
    subst hw1
    go_wp2_with fail
    refine HB.out.mono ?_
    rintro e w1 ⟨rfl, hw1⟩
    subst hw1
    cases oa with
    | none =>
      have HF2 : Hid (r = (9, st)) := Lib.hid HF.out
      simp only [Option.isSome_none, Option.getD_none]
      go_wp2_with fail
      go_ret
      rw [HF2.out]
      exact ⟨rfl, HR.out, Below.refl _ _, Keep9.refl _⟩
    | some na =>
      cases ob with
      | none =>
        have HF2 : Hid (r = (9, st)) := Lib.hid HF.out
        simp only [Option.isSome_none, Option.isSome_some, Option.getD_none, Option.getD_some]
        go_wp2_with fail
        go_ret
        rw [HF2.out]
        exact ⟨rfl, HR.out, Below.refl _ _, Keep9.refl _⟩
      | some nb =>
        simp only [Option.isSome_some, Option.getD_some]
        obtain ⟨tv, hv, sv, V, hS⟩ := HR.out
        obtain ⟨d0, d1, d2, d3, d4, d5, fz⟩ := hS.cell
        have HS := Lib.hid hS
        have hlim := hS.lim.tops
        obtain ⟨tp, tc, rfl⟩ := own_slice hS.rows.tops
        clear d1 d2 d3 d4 d5 fz hS
        by_cases hfull : 65536 ≤ st.s.tops.length
        · have HF2 : Hid (r = (3, st)) := Lib.hid (by rw [HF.out]; exact if_pos hfull)
          have hfull' : ((st.s.tops.length : Int) == 65536) = true := by rw [beq_iff_eq]; omega
          go_wp2_with fail
          go_ret
          rw [HF2.out]
          exact ⟨rfl, HR.out, Below.refl _ _, Keep9.refl _⟩
        · have HF2 : Hid (r = (0, { st with s := { st.s with tops := st.s.tops ++ [⟨na, nb⟩] } })) := Lib.hid (by rw [HF.out]; exact if_neg hfull)
          have hfull' : ((st.s.tops.length : Int) == 65536) = false := by rw [beq_eq_false_iff_ne]; omega
          obtain ⟨i82, hi82, z0, z1, z2⟩ := info_parts info82
          have HOW := Lib.hid (HS.out.rows.tops.alloc (.cells #[.int .i64 na, .int .i64 nb] 82))
          have HSX := Lib.hid (src_one0 w #[.int .i64 na, .int .i64 nb] 82 2 rfl (tcell_one ⟨na, nb⟩))
          have HST := Lib.hid (fun (v' : Value) (w3 : World) ha => HS.out.topic kindsR (o := .cells #[.int .i64 na, .int .i64 nb] 82) (t := ⟨na, nb⟩) (v' := v') (w1 := w3) (by omega) ha)
          have hn2 := HS.out.nw
          generalize hlen : st.s.tops.length = tl at *
          have HLEN := Lib.hid hlen
          clear hlen
          go_wp2_with (at_builtin; go_must (refine wpList_append_row rfl (.tmp 56) (.tmp 60) 31 rfl N 82 i82 _ 2 16 under31 hi82 z0 z1 (by decide) z2 rfl (.slice tp tl tc) tl (tcells st.s.tops) rfl HOW.out 1 (tcell ⟨na, nb⟩) HSX.out ?l2 ?b2 ?n2 ?_); go_must (case l2 => (unfold maxLen; omega)); go_must (case b2 => omega); go_must (case n2 => (simp; omega)); intro v' w3 ha; go_must (obtain ⟨vp, vc, rfl⟩ := own_slice ha.1); go_must (obtain ⟨q1, q2, q3, q4⟩ := HST.out _ w3 ha); have HQ3 := Lib.hid q3; have HQ4 := Lib.hid q4; go_must (have HQ5 := Lib.hid ((keep_alloc w (.cells #[.int .i64 na, .int .i64 nb] 82)).trans (keep_app_head (HS.out.alloc (.cells #[.int .i64 na, .int .i64 nb] 82)) HOW.out ha.2.1 (by decide) (by decide) (by decide) 0 (.slice vp (tl + 1) vc)))); clear q3 q4 ha)
          go_ret
          rw [HF2.out]
          exact ⟨rfl, ⟨_, _, _, _, HQ3.out⟩, HQ4.out, HQ5.out⟩
  · have HF : Hid (topicF st ws = (9, st)) := Lib.hid (by
      unfold topicF
      match ws with
      | [] => rfl
      | [_] => rfl
      | [_, _] => simp at hl
      | _ :: _ :: _ :: _ => rfl)
    have hlb : (((wTopic :: ws).length : Int) != 3) = true := by simp; omega
    have hL0 : 0 < (wTopic :: ws).length := by simp
    generalize topicF st ws = r at *
    clear hr hw hs hl hc
    generalize (wTopic :: ws).length = l at *
    go_enter Tryd.func32, Tryd.ntmps32
    go_wp2_with fail
    go_ret
    rw [HF.out]
    exact ⟨rfl, HR.out, Below.refl _ _, Keep9.refl _⟩

set_option maxRecDepth 100000 in
set_option maxHeartbeats 8000000 in
/-- The most steps' line. -/
theorem refMost_walk (N g : Nat) (st : Rdg) (ao : Option Addr) (ws : List Word) (c : Nat) (w : World) (hr : RdrR w N g st) (hw : WordsAt w ao (wMost :: ws)) (hs : Short ws) :
    Calls Tryd.prog 32 #[.pointer (some ⟨g, 0, none⟩), .slice ao (wMost :: ws).length c] w (LineR N g (mostF st ws) w) := by
  obtain ⟨gw, ow, rfl, hc⟩ := hw.resolve_left (by simp)
  have c0 : w.cell? ⟨gw, ow, none⟩ = some (.string ⟨#[109, 111, 115, 116]⟩) := hc 0 (by simp)
  have HR := Lib.hid hr
  by_cases hl : ws.length = 1
  · obtain ⟨a, rfl⟩ : ∃ a, ws = [a] := by
      match ws, hl with
      | [a], _ => exact ⟨a, rfl⟩
    have c1 : w.cell? ⟨gw, ow + 1, none⟩ = some (.string ⟨a.toArray⟩) := hc 1 (by simp)
    have HB : Hid (Calls Tryd.prog 56 #[.string ⟨a.toArray⟩, .int .i64 0, .int .i64 1048576] w fun e w' => e = .returned (.tuple #[.int .i64 ((withinF a 0 1048576).getD 0), .bool (withinF a 0 1048576).isSome]) ∧ w = w') := Lib.hid (by
      have h := refNumber_walk ⟨a.toArray⟩ 0 1048576 w (by rw [size_mk]; exact hs a (by simp))
      exact h)
    have HF : Hid (mostF st [a] = match withinF a 0 1048576 with
      | some n => if st.has then (7, st) else (0, { s := { st.s with most := n }, has := true })
      | none => (9, st)) := Lib.hid rfl
    have hL : (wMost :: [a]).length = 2 := rfl
    rw [hL]
    clear hr hw hs hc hl hL
    generalize mostF st [a] = r at *
    generalize withinF a 0 1048576 = oa at *
    go_enter Tryd.func32, Tryd.ntmps32
    go_wp2_with fail
    refine HB.out.mono ?_
    rintro e w1 ⟨rfl, hw1⟩
    subst hw1
    cases oa with
    | none =>
      have HF2 : Hid (r = (9, st)) := Lib.hid HF.out
      simp only [Option.isSome_none, Option.getD_none]
      go_wp2_with fail
      go_ret
      rw [HF2.out]
      exact ⟨rfl, HR.out, Below.refl _ _, Keep9.refl _⟩
    | some na =>
      simp only [Option.isSome_some, Option.getD_some]
      obtain ⟨tv, hv, sv, V, hS⟩ := HR.out
      obtain ⟨d0, d1, d2, d3, d4, d5, fz⟩ := hS.cell
      have f3 := fz 3
      have f4 := fz 4
      have HS := Lib.hid hS
      clear d0 d1 d2 d5 fz hS
      cases hh : st.has with
      | true =>
        have HF2 : Hid (r = (7, st)) := Lib.hid (by rw [HF.out, hh]; rfl)
        rw [hh] at d4
        clear hh
        go_wp2_with fail
        go_ret
        rw [HF2.out]
        exact ⟨rfl, HR.out, Below.refl _ _, Keep9.refl _⟩
      | false =>
        have HF2 : Hid (r = (0, { s := { st.s with most := na }, has := true })) := Lib.hid (by rw [HF.out, hh]; rfl)
        rw [hh] at d4
        clear hh
        have h1 := HS.out.flag4 kindsR (.bool true)
        have h2 := h1.1.most kindsR na
        have HS2 := Lib.hid h2.1
        have HB2 := Lib.hid (h1.2.trans h2.2)
        have HK2 := Lib.hid ((keep_set (i := 4) (v := .bool true) HS.out.head (by decide)).trans (keep_set (i := 3) (v := .int .i64 na) h1.1.head (by decide)))
        clear h1 h2
        go_wp2_with fail
        go_ret
        rw [HF2.out]
        exact ⟨rfl, ⟨_, _, _, _, HS2.out⟩, HB2.out, HK2.out⟩
  · have HF : Hid (mostF st ws = (9, st)) := Lib.hid (by
      unfold mostF
      match ws with
      | [] => rfl
      | [_] => simp at hl
      | _ :: _ :: _ => rfl)
    have hlb : (((wMost :: ws).length : Int) != 2) = true := by simp; omega
    have hL0 : 0 < (wMost :: ws).length := by simp
    generalize mostF st ws = r at *
    clear hr hw hs hl hc
    generalize (wMost :: ws).length = l at *
    go_enter Tryd.func32, Tryd.ntmps32
    go_wp2_with fail
    go_ret
    rw [HF.out]
    exact ⟨rfl, HR.out, Below.refl _ _, Keep9.refl _⟩

set_option maxRecDepth 100000 in
set_option maxHeartbeats 8000000 in
/-- A line that says what a thread does. -/
theorem refOps_walk (N g : Nat) (st : Rdg) (ao : Option Addr) (x : Word) (ws : List Word) (c : Nat) (w : World) (hr : RdrR w N g st) (hw : WordsAt w ao (x :: ws)) (hs : Short (x :: ws)) (hnon : NonE (x :: ws)) (hcap : (x :: ws).length ≤ c) (hl9 : (x :: ws).length ≤ 9000000000)
    (hx0 : x ≠ wTopic) (hx1 : x ≠ wMost) (hx2 : x ≠ wSchedule) (hx3 : x ≠ wThread) :
    Calls Tryd.prog 32 #[.pointer (some ⟨g, 0, none⟩), .slice ao (x :: ws).length c] w (LineR N g (opsF st (x :: ws)) w) := by
  have hn0 : ¬ x = [116, 111, 112, 105, 99] := hx0
  have hb0 : (x == [116, 111, 112, 105, 99]) = false := beq_eq_false_iff_ne.2 hx0
  have hn1 : ¬ x = [109, 111, 115, 116] := hx1
  have hb1 : (x == [109, 111, 115, 116]) = false := beq_eq_false_iff_ne.2 hx1
  have hn2 : ¬ x = [115, 99, 104, 101, 100, 117, 108, 101] := hx2
  have hb2 : (x == [115, 99, 104, 101, 100, 117, 108, 101]) = false := beq_eq_false_iff_ne.2 hx2
  have hn3 : ¬ x = [116, 104, 114, 101, 97, 100] := hx3
  have hb3 : (x == [116, 104, 114, 101, 97, 100]) = false := beq_eq_false_iff_ne.2 hx3
  have HT := Lib.hid (refTimes_walk ao (x :: ws) c w hw hs (by simp) hnon hcap hl9)
  obtain ⟨gw, ow, rfl, hc⟩ := hw.resolve_left (by simp)
  have c0 : w.cell? ⟨gw, ow, none⟩ = some (.string ⟨x.toArray⟩) := hc 0 (by simp)
  have HR := Lib.hid hr
  have hL0 : 0 < (x :: ws).length := by simp
  have HF : Hid (opsF st (x :: ws) = match opF (x :: ws), st.s.thrs.getLast? with
    | some (o, k), some t => if 65536 < t.ops.length + k then (3, st) else (0, { st with s := { st.s with thrs := st.s.thrs.dropLast ++ [{ t with ops := t.ops ++ List.replicate k o }] } })
    | _, _ => (9, st)) := Lib.hid rfl
  obtain ⟨tv, hv, sv, V, hS⟩ := hr
  obtain ⟨d0, d1, d2, d3, d4, d5, fz⟩ := hS.cell
  have HS := Lib.hid hS
  have hlim := hS.lim.thrs
  have hnw := hS.nw
  have HRNG := Lib.hid (fun p h => opF_rng (ws := x :: ws) (p := p) h)
  clear d0 d2 d3 d4 fz hS hw hs hnon hc hcap hx0 hx1 hx2 hx3 d1
  generalize opsF st (x :: ws) = r at *
  generalize opF (x :: ws) = op at *
  generalize (x :: ws).length = L at *
  by_cases hT : st.s.thrs.length = 0
  · have HF2 : Hid (r = (9, st)) := Lib.hid (by
      rw [HF.out, List.eq_nil_of_length_eq_zero hT]
      cases op <;> rfl)
    have hde : decide (0 < st.s.thrs.length) = false := decide_eq_false (by omega)
    rw [hde] at d5
    clear hde HT
    go_enter Tryd.func32, Tryd.ntmps32
    go_wp2_with fail
    go_ret
    rw [HF2.out]
    exact ⟨rfl, HR.out, Below.refl _ _, Keep9.refl _⟩
  · have hde : decide (0 < st.s.thrs.length) = true := decide_eq_true (Nat.pos_of_ne_zero hT)
    rw [hde] at d5
    clear hde
    obtain ⟨B, hB⟩ : ∃ B, w.heap.size = B := ⟨_, rfl⟩
    have HBE := Lib.hid hB
    go_enter Tryd.func32, Tryd.ntmps32
    go_wp2_with fail
    refine HT.out.mono ?_
    rintro e w1 ⟨k', a', b', d', n', rfl, hp, hbw⟩
    have HP := Lib.hid hp
    have hb2' : Below w.heap.size w (w1.alloc (.cells #[.int .i64 k', .int .i64 a', .int .i64 b', .int .i64 d'] 65)) := hbw.alloc hbw.size _
    have HOB := Lib.hid (heap_alloc_new w1 (.cells #[.int .i64 k', .int .i64 a', .int .i64 b', .int .i64 d'] 65))
    have HOBL : Hid (B ≤ w1.heap.size) := Lib.hid (by rw [← hB]; exact hbw.size)
    have HRX := Lib.hid (HR.out.below hb2')
    have HLX : Hid (Below N w (w1.alloc (.cells #[.int .i64 k', .int .i64 a', .int .i64 b', .int .i64 d'] 65))) := Lib.hid (hb2'.mono hnw)
    have HSX := Lib.hid (HS.out.below hb2')
    have HKX := Lib.hid (keep_below hb2')
    clear hp hbw hb2' c0 d5 HT hB
    go_upto_region 31 with fail
    generalize w1.alloc (.cells #[.int .i64 k', .int .i64 a', .int .i64 b', .int .i64 d'] 65) = wv at *
    generalize w1.heap.size = ob' at *
    cases op with
    | none =>
      have HF2 : Hid (r = (9, st)) := Lib.hid HF.out
      simp only [Option.isSome_none]
      go_wp2_with fail
      go_ret
      rw [HF2.out]
      exact ⟨rfl, HRX.out, HLX.out, HKX.out⟩
    | some pq =>
      obtain ⟨hpo, rfl⟩ := HP.out pq rfl
      have hrng := HRNG.out pq rfl
      obtain ⟨po, n⟩ := pq
      simp only at hpo hrng
      subst hpo
      obtain ⟨hp, tc, rfl⟩ := own_slice HS.out.rows.thrs
      obtain ⟨hb, hhp⟩ : ∃ hb, hp = some ⟨hb, 0, none⟩ := by
        rcases HS.out.rows.thrs.2 with ⟨e, h0⟩ | ⟨q, cap, _, e, _⟩
        · exact absurd h0 hT
        · injection e with e1 e2 e3; exact ⟨q, e1⟩
      subst hhp
      obtain ⟨t, ht⟩ : ∃ t, st.s.thrs.getLast? = some t := by
        cases h : st.s.thrs.getLast? with
        | none => rw [List.getLast?_eq_none_iff] at h; rw [h] at hT; simp at hT
        | some t => exact ⟨t, rfl⟩
      have htg : st.s.thrs.getD (st.s.thrs.length - 1) default = t := by
        rw [List.getLast?_eq_getElem?] at ht
        simp only [List.getD]
        rw [ht]
        rfl
      have HTG := Lib.hid htg
      have HADD := Lib.hid (addOps_last ht (List.replicate n ⟨k', a', b', d'⟩))
      have HOPS3 := Lib.hid (show r = _ from HF.out.trans (by rw [ht]))
      have h0 : 0 < st.s.thrs.length := Nat.pos_of_ne_zero hT
      have hvob : (V (st.s.thrs.length - 1)).ownBlock ≠ some ob' := by
        intro e
        have h := (HS.out.rows.each (st.s.thrs.length - 1) (by omega)).lt ob' e
        have h2 := HOBL.out
        have h3 := HBE.out
        omega
      have HOL : Hid (OpLoopR N g hb tc ob' (st.s.thrs.length - 1) st.has tv sv st.s ⟨k', a', b', d'⟩ w 0 wv) := Lib.hid
        ⟨⟨V, by rw [List.replicate_zero, addOps_nil h0]; exact HSX.out, hvob⟩, HOB.out, HLX.out, HKX.out⟩
      have hcell : wv.cell? ⟨hb, (st.s.thrs.length - 1) * 2 + 1, none⟩ = some (V (st.s.thrs.length - 1)) := by
        rw [HSX.out.rows.thrs.cellAt _ (by omega), hcells_get _ _ _ _ (by omega) (by omega)]
        rfl
      have d1 : wv.cell? ⟨g, 1, none⟩ = some (.slice (some ⟨hb, 0, none⟩) st.s.thrs.length tc) := HSX.out.cell.2.1
      have hvl := HSX.out.rows.each (st.s.thrs.length - 1) (by omega)
      rw [htg] at hvl
      have htl : t.ops.length ≤ 65536 := by
        have := HS.out.lim.ops (st.s.thrs.length - 1) (by omega)
        rwa [htg] at this
      obtain ⟨vp, vc, hvv⟩ := own_slice hvl
      rw [hvv] at hcell
      have HT0 := Lib.hid h0
      clear hvl ht htg hvv hT HS HSX hvob HOB HF h0
      generalize hT1 : st.s.thrs.length = T1 at *
      have HT1 := Lib.hid hT1
      have HT2 := HT0.out
      have s1 : ((T1 : Int) - 1).toNat = T1 - 1 := by clear hlim; omega
      have s2 : T1 - 1 < T1 := Nat.sub_lt HT2 Nat.one_pos
      have s3 : (0 : Int) ≤ (T1 : Int) - 1 := by clear hlim; omega
      have s4 : (T1 : Int) - 1 < (T1 : Int) := by clear hlim; omega
      have s5 : (T1 : Int) ≤ 64 := Int.ofNat_le.2 hlim
      clear hlim hT1 HT2
      simp only [Option.isSome_some]
      go_upto_region 33 with fail
      go_cut [14] (fun v wx => v = .pointer (some ⟨hb, (T1 - 1) * 2, none⟩) ∧ wx = wv.drew)
      case first =>
        go_region
        all_goals
          go_wp2_with fail
          go_meet
          exact ⟨rfl, rfl⟩
      case rest =>
        obtain ⟨rfl, rfl⟩ := hcut
        have HOLd := Lib.hid HOL.out.drew
        have hcd : wv.drew.cell? ⟨hb, (T1 - 1) * 2 + 1, none⟩ = some (.slice vp t.ops.length vc) := hcell
        clear hcell HOL d1 s1 s2 s3 s4 s5
        have HRd := Lib.hid (HRX.out.below (Below.refl wv.heap.size wv).drew)
        have HLd := Lib.hid HLX.out.drew
        have HKd := Lib.hid (HKX.out.trans (keep_drew wv))
        clear HRX HLX
        generalize wv.drew = wd at *
        have HTLe : Hid ((T1 - 1) + 1 = st.s.thrs.length) := Lib.hid (by have := HT0.out; rw [HT1.out]; omega)
        generalize T1 - 1 = L0 at *
        by_cases hbig : (n : Int) > 65536 - (t.ops.length : Int)
        · have HF2 : Hid (r = (3, st)) := Lib.hid (by
            rw [HOPS3.out]
            simp only
            rw [if_pos (by omega)])
          go_wp2_with fail
          go_ret
          rw [HF2.out]
          exact ⟨rfl, HRd.out, HLd.out, HKd.out⟩
        · have HF2 : Hid (r = (0, { st with s := addOps st.s (List.replicate n ⟨k', a', b', d'⟩) })) := Lib.hid (by
            rw [HOPS3.out]
            simp only
            rw [if_neg (by omega), HADD.out])
          have HLT : Hid ((st.s.thrs.getD L0 default).ops.length + n ≤ 65536) := Lib.hid (by rw [HTG.out]; omega)
          clear HTG HADD HOPS3
          generalize t.ops.length = tl at *
          go_wp2_with fail
          go_loopw [15] (fun iv wr => ∃ i : Nat, i ≤ n ∧ iv = .int .i64 i ∧ OpLoopR N g hb tc ob' L0 st.has tv sv st.s ⟨k', a', b', d'⟩ w i wr) (fun iv _ => n - (intOf iv).toNat)
          case atStart => exact ⟨0, Nat.zero_le _, rfl, HOLd.out⟩
          case round =>
            obtain ⟨i, hi, rfl, hol⟩ := hrel
            have HO := Lib.hid hol
            clear hol
            by_cases hin : i < n
            · obtain ⟨vp1, l1, vc1, vp2, vc2, w4, q1, q2, q3, q4, q5, q6, q7, q8⟩ := HO.out.round HTLe.out (by have := HLT.out; omega)
              have r0 : wr.cell? ⟨ob', 0, none⟩ = some (.int .i64 k') := q3 0
              have r1 : wr.cell? ⟨ob', 1, none⟩ = some (.int .i64 a') := q3 1
              have r2 : wr.cell? ⟨ob', 2, none⟩ = some (.int .i64 b') := q3 2
              have r3 : wr.cell? ⟨ob', 3, none⟩ = some (.int .i64 d') := q3 3
              have x0 : (wr.alloc (.cells #[.int .i64 k', .int .i64 a', .int .i64 b', .int .i64 d'] 65)).cell? ⟨ob', 0, none⟩ = some (.int .i64 k') := q4 0
              have x1 : (wr.alloc (.cells #[.int .i64 k', .int .i64 a', .int .i64 b', .int .i64 d'] 65)).cell? ⟨ob', 1, none⟩ = some (.int .i64 a') := q4 1
              have x2 : (wr.alloc (.cells #[.int .i64 k', .int .i64 a', .int .i64 b', .int .i64 d'] 65)).cell? ⟨ob', 2, none⟩ = some (.int .i64 b') := q4 2
              have x3 : (wr.alloc (.cells #[.int .i64 k', .int .i64 a', .int .i64 b', .int .i64 d'] 65)).cell? ⟨ob', 3, none⟩ = some (.int .i64 d') := q4 3
              have q2' : (wr.alloc (.cells #[.int .i64 k', .int .i64 a', .int .i64 b', .int .i64 d'] 65)).cell? ⟨hb, L0 * 2 + 1, none⟩ = some (.slice vp1 l1 vc1) := q2
              have HRUN : Hid ((Builtin.append_ #[56, 56] 56 #[.slice vp1 l1 vc1, .slice (some ⟨wr.heap.size, 0, none⟩) 1 1]).run Tryd.prog (wr.alloc (.cells #[.int .i64 k', .int .i64 a', .int .i64 b', .int .i64 d'] 65)).drew = .ok (.slice vp2 (l1 + 1 : Nat) vc2) w4) := Lib.hid q5
              have HNX := Lib.hid q8
              clear q2 q3 q4 q5 q8
              go_upto_region 39 with fail
              go_region_law (refine step_append_runI (by rfl) _ _ 56 56 (by rfl) (.slice vp1 l1 vc1) (.slice (some ⟨wr.heap.size, 0, none⟩) 1 1) (by rfl) (by rfl) HRUN.out ?_)
              all_goals
                go_wp2_with fail
                go_roundw
                case rel => exact ⟨i + 1, by omega, by go_num, HNX.out⟩
                case measure => simp [intOf]; omega
            · have hen : i = n := by omega
              subst hen
              obtain ⟨hz1, hz2, hz3⟩ := HO.out.done HTLe.out
              have HZ1 := Lib.hid hz1
              have HZ2 := Lib.hid hz2
              have HZ3 := Lib.hid hz3
              clear hz1 hz2 hz3
              go_wp2_with fail
              go_ret
              rw [HF2.out]
              exact ⟨rfl, HZ1.out, HZ2.out, HZ3.out⟩
set_option maxRecDepth 100000 in
set_option maxHeartbeats 8000000 in
theorem refSchedLine_walk (N g : Nat) (st : Rdg) (ao : Option Addr) (ws : List Word) (c : Nat) (w : World) (hr : RdrR w N g st) (hw : WordsAt w ao (wSchedule :: ws)) (hs : Short ws) (hlen : ws.length ≤ 9000000000) :
    Calls Tryd.prog 32 #[.pointer (some ⟨g, 0, none⟩), .slice ao (wSchedule :: ws).length c] w (LineR N g (schedF st ws) w) := by
  have HC := Lib.hid (refSched_walk N g st ao wSchedule ws c w hr hw hs hlen)
  obtain ⟨gw, ow, rfl, hc⟩ := hw.resolve_left (by simp)
  have c0 : w.cell? ⟨gw, ow, none⟩ = some (.string ⟨#[115, 99, 104, 101, 100, 117, 108, 101]⟩) := hc 0 (by simp)
  have hL0 : 0 < (wSchedule :: ws).length := by simp
  clear hr hw hs hc hlen
  generalize schedF st ws = q at *
  generalize (wSchedule :: ws).length = L at *
  go_enter Tryd.func32, Tryd.ntmps32
  go_wp2_with fail
  refine HC.out.mono ?_
  rintro e w1 ⟨rfl, h1, h2, h3⟩
  have H1 := Lib.hid h1
  have H2 := Lib.hid h2
  have H3 := Lib.hid h3
  clear h1 h2 h3
  go_wp2_with fail
  go_ret
  exact ⟨rfl, H1.out, H2.out, H3.out⟩
set_option maxRecDepth 100000 in
set_option maxHeartbeats 8000000 in
theorem refThreadLine_walk (N g : Nat) (st : Rdg) (ao : Option Addr) (ws : List Word) (c : Nat) (w : World) (hr : RdrR w N g st) (hw : WordsAt w ao (wThread :: ws)) (hs : Short ws) (hlen : ws.length ≤ 9000000000) :
    Calls Tryd.prog 32 #[.pointer (some ⟨g, 0, none⟩), .slice ao (wThread :: ws).length c] w (LineR N g (threadF st ws) w) := by
  have HC := Lib.hid (refThread_walk N g st ao wThread ws c w hr hw hs hlen)
  obtain ⟨gw, ow, rfl, hc⟩ := hw.resolve_left (by simp)
  have c0 : w.cell? ⟨gw, ow, none⟩ = some (.string ⟨#[116, 104, 114, 101, 97, 100]⟩) := hc 0 (by simp)
  have hL0 : 0 < (wThread :: ws).length := by simp
  clear hr hw hs hc hlen
  generalize threadF st ws = q at *
  generalize (wThread :: ws).length = L at *
  go_enter Tryd.func32, Tryd.ntmps32
  go_wp2_with fail
  refine HC.out.mono ?_
  rintro e w1 ⟨rfl, h1, h2, h3⟩
  have H1 := Lib.hid h1
  have H2 := Lib.hid h2
  have H3 := Lib.hid h3
  clear h1 h2 h3
  go_wp2_with fail
  go_ret
  exact ⟨rfl, H1.out, H2.out, H3.out⟩
theorem refLine_walk (N g : Nat) (st : Rdg) (ao : Option Addr) (ws : List Word) (c : Nat) (w : World) (hr : RdrR w N g st) (hw : WordsAt w ao ws) (hs : Short ws) (hne : ws ≠ []) (hnon : NonE ws) (hcap : ws.length ≤ c) (hl9 : ws.length ≤ 9000000000) :
    Calls Tryd.prog 32 #[.pointer (some ⟨g, 0, none⟩), .slice ao ws.length c] w (LineR N g (lineF st ws) w) := by
  obtain ⟨x, ws, rfl⟩ : ∃ x r, ws = x :: r := by
    cases ws with
    | nil => exact absurd rfl hne
    | cons x r => exact ⟨x, r, rfl⟩
  have hlen : ws.length ≤ 9000000000 := by simp at hl9; omega
  have hs2 : Short ws := fun y hy => hs y (List.mem_cons_of_mem _ hy)
  show Calls Tryd.prog 32 _ w (LineR N g (if x = wTopic then topicF st ws else if x = wMost then mostF st ws else if x = wSchedule then schedF st ws else if x = wThread then threadF st ws else opsF st (x :: ws)) w)
  by_cases h0 : x = wTopic
  · rw [if_pos h0]; subst h0; exact refTopic_walk N g st ao ws c w hr hw hs2
  · rw [if_neg h0]
    by_cases h1 : x = wMost
    · rw [if_pos h1]; subst h1; exact refMost_walk N g st ao ws c w hr hw hs2
    · rw [if_neg h1]
      by_cases h2 : x = wSchedule
      · rw [if_pos h2]; subst h2; exact refSchedLine_walk N g st ao ws c w hr hw hs2 hlen
      · rw [if_neg h2]
        by_cases h3 : x = wThread
        · rw [if_pos h3]; subst h3; exact refThreadLine_walk N g st ao ws c w hr hw hs2 hlen
        · rw [if_neg h3]; exact refOps_walk N g st ao x ws c w hr hw hs hnon hcap hl9 h0 h1 h2 h3
end Go.Proofs.YtdmhlhoimaeacaaDoor

/-
  The reference's reader of a text (f12).
-/
namespace Go.Proofs.YtdmhlhoimaeacaaDoor
open Go.RowKit Go.Maps
set_option linter.unusedVariables false

theorem load_scr34 {W : World} {rb : Nat} {pa pb pc : Option Addr} {na ca nb cb nc cc : Nat} {k : Int} (h : W.heap[rb]? = some (.cells #[.slice pa na ca, .slice pb nb cb, .slice pc nc cc, .int .i64 k] 34 (0, 0))) :
    (loadVar 34 ⟨rb, 0, none⟩).run Tryd.prog W = .ok (.agg #[.slice pa na ca, .slice pb nb cb, .slice pc nc cc, .int .i64 k]) W := by
  have h0 : W.cell? ⟨rb, 0, none⟩ = _ := cell_of h 0
  have h1 : W.cell? ⟨rb, 1, none⟩ = _ := cell_of h 1
  have h2 : W.cell? ⟨rb, 2, none⟩ = _ := cell_of h 2
  have h3 : W.cell? ⟨rb, 3, none⟩ = _ := cell_of h 3
  simp at h0 h1 h2 h3
  simp [loadVar, go_sem, h0, h1, h2, h3]
theorem store_scrT {T : Nat} {W : World} {B rb : Nat} {w0 : World} {cs : Array Value} (h : W.heap[rb]? = some (.cells cs T (0, 0))) (hcs : cs.size = 4) (hb : Below B w0 W) (hB : B ≤ rb) (k a b c : Value) :
    (((((W.setCell ⟨rb, 0, none⟩ k).setCell ⟨rb, 1, none⟩ a).setCell ⟨rb, 2, none⟩ b).setCell ⟨rb, 3, none⟩ c).heap[rb]? = some (.cells #[k, a, b, c] T (0, 0))) ∧
    Below B w0 ((((W.setCell ⟨rb, 0, none⟩ k).setCell ⟨rb, 1, none⟩ a).setCell ⟨rb, 2, none⟩ b).setCell ⟨rb, 3, none⟩ c) := by
  refine ⟨?_, (((hb.setCell hB _).setCell hB _).setCell hB _).setCell hB _⟩
  rw [set_at (set_at (set_at (set_at h 0 k) 1 a) 2 b) 3 c]
  obtain ⟨l⟩ := cs
  match l, hcs with
  | [_, _, _, _], _ => rfl
theorem rows_setT {T eT eH : Nat} (K : Kinds T eT eH) {w : World} {N rb i : Nat} {tv hv sv : Value} {V : Nat → Value} {S : Scr} {c : Array Value} (h : RowsS w N eT eH tv hv sv V S) (hb : w.heap[rb]? = some (.cells c T (0, 0))) (v : Value) : RowsS (w.setCell ⟨rb, i, none⟩ v) N eT eH tv hv sv V S :=
  h.head K hb (grown_set _ _ _ _)
theorem kinds34 : Kinds 34 82 83 := ⟨by decide, by decide, by decide, by decide, by decide, by decide, by decide, by decide, by decide⟩
theorem kinds27 : Kinds 27 62 58 := ⟨by decide, by decide, by decide, by decide, by decide, by decide, by decide, by decide, by decide⟩
/-- What the reference's reader of a text answers. -/
def ParseR (N : Nat) (r : Int × Nat × Scr) (w : World) (e : Ending) (w' : World) : Prop :=
  ∃ tv hv sv V, e = .returned (.tuple #[.agg #[tv, hv, sv, .int .i64 r.2.2.most], .int .i64 (r.2.1 : Int), .int .i64 r.1]) ∧ RowsS w' (N + 1) 82 83 tv hv sv V r.2.2 ∧ Lim r.2.2 ∧ Below N w w'
/-- The world in which the reading starts. -/
def startR (w : World) : World := (w.alloc (.cells #[.slice none 0 0, .slice none 0 0, .slice none 0 0, .int .i64 0] 34)).alloc (.cells #[.slice none 0 0, .slice none 0 0, .slice none 0 0, .int .i64 0, .bool false, .bool false] 81)
theorem startR_facts (w : World) : RdrR (startR w) (w.heap.size + 1) (w.heap.size + 1) ⟨Scr.empty, false⟩ ∧
    (startR w).heap[w.heap.size]? = some (.cells #[.slice none 0 0, .slice none 0 0, .slice none 0 0, .int .i64 0] 34 (0, 0)) ∧ Below w.heap.size w (startR w) ∧ (startR w).heap.size = w.heap.size + 2 := by
  have hs1 : (w.alloc (.cells #[.slice none 0 0, .slice none 0 0, .slice none 0 0, .int .i64 0] 34)).heap.size = w.heap.size + 1 := by simp
  have hs2 : (startR w).heap.size = w.heap.size + 2 := by simp [startR]
  have b1 : Below w.heap.size w (w.alloc (.cells #[.slice none 0 0, .slice none 0 0, .slice none 0 0, .int .i64 0] 34)) := (Below.refl _ _).alloc (Nat.le_refl _) _
  have b2 : Below w.heap.size w (startR w) := b1.alloc b1.size _
  have hg := heap_alloc_new (w.alloc (.cells #[.slice none 0 0, .slice none 0 0, .slice none 0 0, .int .i64 0] 34)) (.cells #[.slice none 0 0, .slice none 0 0, .slice none 0 0, .int .i64 0, .bool false, .bool false] 81)
  rw [hs1] at hg
  have hrow : RowsS (startR w) (w.heap.size + 1) 82 83 (.slice none 0 0) (.slice none 0 0) (.slice none 0 0) (fun _ => .slice none 0 0) Scr.empty :=
    ⟨⟨rfl, .inl ⟨rfl, rfl⟩⟩, ⟨rfl, .inl ⟨rfl, rfl⟩⟩, ⟨rfl, .inl ⟨rfl, rfl⟩⟩, (fun i hi => by cases hi), (fun i j hi => by cases hi)⟩
  have hlim : Lim Scr.empty := ⟨by decide, by decide, by decide, (fun i hi => by cases hi)⟩
  exact ⟨⟨_, _, _, _, ⟨hg, hrow, hlim, Nat.le_refl _, by omega⟩⟩, (Below.heap_alloc _ _ _ (by omega)).trans (heap_alloc_new w _), b2, hs2⟩
theorem read_at {st : Rdg} {n i : Nat} {ls : List Word} (hi : i < ls.length) : readG st n (ls.drop i) = if mute (wordsF (ls.getD i default)) then readG st (n + 1) (ls.drop (i + 1)) else
      if (lineF st (wordsF (ls.getD i default))).1 = 0 then readG (lineF st (wordsF (ls.getD i default))).2 (n + 1) (ls.drop (i + 1)) else ((lineF st (wordsF (ls.getD i default))).1, n, Scr.empty) := by
  have e : ls.getD i default = ls[i] := by simp [List.getD, hi]
  rw [List.drop_eq_getElem_cons hi, readG, e]
theorem lines_mem : ∀ (f : Nat) (t : Word), ∀ x ∈ linesF f t, x.length ≤ t.length
  | 0, t, x, h => by cases h
  | f + 1, [], x, h => by cases h
  | f + 1, c :: r, x, h => by
    rw [linesF] at h
    rcases List.mem_cons.1 h with rfl | h
    · exact line_len _
    · exact Nat.le_trans (lines_mem f _ x h) (Nat.le_of_lt (lineOf_lt c r))

set_option maxRecDepth 100000 in
set_option maxHeartbeats 8000000 in
theorem refParse_walk (s : ByteArray) (w : World) (hs : s.size ≤ 3000000000) :
    Calls Tryd.prog 12 #[.string s] w (ParseR w.heap.size (parseF s.data.toList) w) := by
  obtain ⟨t, rfl⟩ : ∃ t : Word, s = ⟨t.toArray⟩ := ⟨s.data.toList, by simp⟩
  have hts : t.length ≤ 3000000000 := by rw [size_mk] at hs; exact hs
  have HP : Hid (readG ⟨Scr.empty, false⟩ 1 (linesA t) = parseF t) := Lib.hid rfl
  show Calls Tryd.prog 12 #[.string ⟨t.toArray⟩] w (ParseR w.heap.size (parseF t) w)
  generalize parseF t = pf at *
  clear hs
  obtain ⟨hR, hRB, hB, hS2⟩ := startR_facts w
  have HR := Lib.hid hR
  have HRB := Lib.hid hRB
  have HB := Lib.hid hB
  have HS2 := Lib.hid hS2
  clear hR hRB hB hS2
  have HLN := Lib.hid (fun W => refLines_walk t W (by omega))
  have HLM := Lib.hid (lines_mem t.length t)
  go_enter Tryd.func12, Tryd.ntmps12
  go_upto_region 2 with fail
  rw [show (w.alloc (.cells #[.slice none 0 0, .slice none 0 0, .slice none 0 0, .int .i64 0] 34)).alloc (.cells #[.slice none 0 0, .slice none 0 0, .slice none 0 0, .int .i64 0, .bool false, .bool false] 81) = startR w from rfl]
  generalize startR w = w3 at *
  generalize hrb : w.heap.size = rb at *
  have HRBE := Lib.hid hrb
  clear hrb
  go_wp2_with fail
  refine (HLN.out w3).mono ?_
  rintro e w4 ⟨lp, lc, rfl, hla, hlb, hlc, hlcnt⟩
  have HLA := Lib.hid hla
  have HR4 := Lib.hid (HR.out.below hlb)
  have HL4 : Hid (Below (rb + 1) w3 w4) := Lib.hid (hlb.mono (by have := HS2.out; omega))
  clear hla hlb
  have HLM2 : Hid (∀ x ∈ linesA t, x.length ≤ t.length) := Lib.hid HLM.out
  generalize linesA t = ls at *
  generalize hnl : ls.length = nl at *
  have HNL := Lib.hid hnl
  clear hnl
  go_wp2_with fail
  go_loopw [7] (fun iv wr => ∃ (i : Nat) (st : Rdg), i ≤ nl ∧ iv = .int .i64 i ∧ readG st (i + 1) (ls.drop i) = pf ∧ RdrR wr (rb + 1) (rb + 1) st ∧ Below (rb + 1) w3 wr ∧ wr.ownsRow w3.heap.size 9 1 (.slice lp nl lc) nl (wcells ls)) (fun iv _ => nl - (intOf iv).toNat)
  case atStart => exact ⟨0, ⟨Scr.empty, false⟩, Nat.zero_le _, rfl, HP.out, HR4.out, HL4.out, HLA.out⟩
  case round =>
    obtain ⟨i, st, hi, rfl, hrd, hr, hlow, hrow⟩ := hrel
    have HRr := Lib.hid hr
    have HLOW := Lib.hid hlow
    have HRD := Lib.hid hrd
    have HROW := Lib.hid hrow
    clear hr hlow hrd hrow
    by_cases hin : i < nl
    · have hil : i < ls.length := by rw [HNL.out]; exact hin
      obtain ⟨gl, hgl⟩ : ∃ gl, lp = some ⟨gl, 0, none⟩ := by
        rcases HROW.out.2 with ⟨e, h0⟩ | ⟨q, cap, _, e, _⟩
        · omega
        · injection e with e1 e2 e3; exact ⟨q, e1⟩
      subst hgl
      have cl : wr.cell? ⟨gl, i, none⟩ = some (.string ⟨(ls.getD i default).toArray⟩) := by
        have h := HROW.out.cellAt i (by omega)
        rw [h]
        simp only [wcells, List.getElem?_map, List.getD]
        rw [List.getElem?_eq_getElem hil]
        rfl
      have HST : Hid (pf = if mute (wordsF (ls.getD i default)) then readG st (i + 2) (ls.drop (i + 1)) else
          if (lineF st (wordsF (ls.getD i default))).1 = 0 then readG (lineF st (wordsF (ls.getD i default))).2 (i + 2) (ls.drop (i + 1)) else ((lineF st (wordsF (ls.getD i default))).1, i + 1, Scr.empty)) := Lib.hid (by rw [← HRD.out, read_at hil])
      have hln : (ls.getD i default).length ≤ 3000000000 := by
        refine Nat.le_trans (HLM2.out _ ?_) hts
        simp only [List.getD]
        rw [List.getElem?_eq_getElem hil]
        exact List.getElem_mem _
      generalize ls.getD i default = ln at *
      have HWW := Lib.hid (refWords_walk ln wr (by omega))
      have hcnt := wordsF_count ln
      have HMEM := Lib.hid (fun x (h : x ∈ wordsF ln) => wordsF_mem h)
      have hi9 : (i : Int) ≤ 4000000000 := by omega
      clear HRD hil
      go_wp2_with fail
      refine HWW.out.mono ?_
      rintro e w2 ⟨A, wc', rfl, hwat, hb2, hcap⟩
      have HWAT := Lib.hid hwat
      have HLX : Hid (Below (rb + 1) w3 w2) := Lib.hid (HLOW.out.trans (hb2.mono HRr.out.nw))
      have HRX := Lib.hid (HRr.out.below hb2)
      have HROWX := Lib.hid (own_below HROW.out hb2)
      clear hwat hb2 HWW
      generalize wordsF ln = wd at *
      go_upto_region 7 with fail
      cases wd with
      | nil =>
        have HST2 : Hid (readG st (i + 1 + 1) (ls.drop (i + 1)) = pf) := Lib.hid (by have h := HST.out; rw [if_pos (show mute [] = true from rfl)] at h; exact h.symm)
        go_wp2_with fail
        go_roundw
        case rel => exact ⟨i + 1, st, by omega, by go_num, HST2.out, HRX.out, HLX.out, HROWX.out⟩
        case measure => simp [intOf]; omega
      | cons x ws =>
        obtain ⟨xc, xr, rfl⟩ : ∃ xc xr, x = xc :: xr := by
          cases x with
          | nil => exact absurd rfl (HMEM.out [] (by simp)).1
          | cons a b => exact ⟨a, b, rfl⟩
        obtain ⟨A', oA, rfl, hcA⟩ := HWAT.out.resolve_left (by simp)
        have c0 : w2.cell? ⟨A', oA, none⟩ = some (.string ⟨(xc :: xr).toArray⟩) := hcA 0 (by simp)
        have hx0 : 0 < (xc :: xr).length := by simp
        have hw1 : ((((xc :: xr) :: ws).length : Int) == 0) = false := by rw [beq_eq_false_iff_ne]; simp; omega
        have hw0 : 0 < ((xc :: xr) :: ws).length := by simp
        clear hcA
        by_cases hxc : xc.toNat = 35
        · have hb : ((((ByteArray.mk (xc :: xr).toArray)[0]'(by simp [ByteArray.size])).toNat : Int) == 35) = true := by
            show ((xc.toNat : Int) == 35) = true
            rw [beq_iff_eq]; omega
          have hmu : mute ((xc :: xr) :: ws) = true := by
            show ((xc :: xr).head? == some 35) = true
            simp only [List.head?_cons, beq_iff_eq, Option.some.injEq]
            exact (u8_eq _ 35 (by omega)).2 hxc
          have HST2 : Hid (readG st (i + 1 + 1) (ls.drop (i + 1)) = pf) := Lib.hid (by have h := HST.out; rw [if_pos hmu] at h; exact h.symm)
          clear hmu hxc
          generalize ((xc :: xr) :: ws).length = nw at *
          go_wp2_with fail
          go_roundw
          case rel => exact ⟨i + 1, st, by omega, by go_num, HST2.out, HRX.out, HLX.out, HROWX.out⟩
          case measure => simp [intOf]; omega
        · have hb : ((((ByteArray.mk (xc :: xr).toArray)[0]'(by simp [ByteArray.size])).toNat : Int) == 35) = false := by
            show ((xc.toNat : Int) == 35) = false
            rw [beq_eq_false_iff_ne]; omega
          have hmu : ¬ mute ((xc :: xr) :: ws) = true := by
            show ¬ ((xc :: xr).head? == some 35) = true
            simp only [List.head?_cons, beq_iff_eq, Option.some.injEq]
            exact fun e => hxc ((u8_eq _ 35 (by omega)).1 e)
          have HST2 : Hid (pf = if (lineF st ((xc :: xr) :: ws)).1 = 0 then readG (lineF st ((xc :: xr) :: ws)).2 (i + 1 + 1) (ls.drop (i + 1)) else ((lineF st ((xc :: xr) :: ws)).1, i + 1, Scr.empty)) := Lib.hid (by have h := HST.out; rw [if_neg hmu] at h; exact h)
          have HLINE := Lib.hid (refLine_walk (rb + 1) (rb + 1) st (some ⟨A', oA, none⟩) ((xc :: xr) :: ws) wc' w2 HRX.out HWAT.out (fun y hy => by have := (HMEM.out y hy).2; omega) (by simp) (fun y hy => (HMEM.out y hy).1) hcap (by omega))
          clear hmu hxc
          generalize lineF st ((xc :: xr) :: ws) = q at *
          generalize ((xc :: xr) :: ws).length = nw at *
          go_wp2_with fail
          refine HLINE.out.mono ?_
          rintro e w5 ⟨rfl, hr5, hb5, hk5⟩
          have HR5 := Lib.hid hr5
          have HL5 : Hid (Below (rb + 1) w3 w5) := Lib.hid (HLX.out.trans hb5)
          have HROW5 := Lib.hid (own_keep9 HROWX.out hk5)
          clear hr5 hb5 c0 hk5
          by_cases hq : q.1 = 0
          · have HST3 : Hid (readG q.2 (i + 1 + 1) (ls.drop (i + 1)) = pf) := Lib.hid (by rw [HST2.out, if_pos hq])
            have hqb : (q.1 != 0) = false := by rw [hq]; rfl
            generalize q.1 = q1 at *
            go_wp2_with fail
            go_roundw
            case rel => exact ⟨i + 1, q.2, by omega, by go_num, HST3.out, HR5.out, HL5.out, HROW5.out⟩
            case measure => simp [intOf]; omega
          · have HPF : Hid (pf = (q.1, i + 1, Scr.empty)) := Lib.hid (by rw [HST2.out, if_neg hq])
            have hqb : (q.1 != 0) = true := by simp [hq]
            have HRB5 := Lib.hid ((HL5.out.block rb (Nat.lt_succ_self rb)).trans HRB.out)
            have r0 := (cell_of HRB5.out 0).trans rfl
            have r1 := (cell_of HRB5.out 1).trans rfl
            have r2 := (cell_of HRB5.out 2).trans rfl
            have r3 := (cell_of HRB5.out 3).trans rfl
            have r4 := free_of HRB5.out
            generalize q.1 = q1 at *
            go_wp2_with fail
            have hst := store_scrT HRB5.out rfl (HB.out.trans (HL5.out.mono (Nat.le_succ rb))) (Nat.le_refl _) (.slice none 0 0) (.slice none 0 0) (.slice none 0 0) (.int .i64 0)
            refine bodyPost_ret (results_cell_tmp2 (fn := Tryd.f12) (p := 2) (u := 3) (v := 4) (ty := 34) rfl _ _ _ _ ⟨rb, 0, none⟩ rfl (load_scr34 hst.1)) rfl ?_
            rw [HPF.out]
            refine ⟨.slice none 0 0, .slice none 0 0, .slice none 0 0, (fun _ => .slice none 0 0), ?_, ⟨⟨rfl, .inl ⟨rfl, rfl⟩⟩, ⟨rfl, .inl ⟨rfl, rfl⟩⟩, ⟨rfl, .inl ⟨rfl, rfl⟩⟩, (fun i hi => by cases hi), (fun i j hi => by cases hi)⟩, ⟨Nat.zero_le _, Nat.zero_le _, Nat.zero_le _, (fun i hi => by cases hi)⟩, hst.2⟩
            rfl
    · have hie : i = nl := by omega
      have HPF : Hid (∃ st' : Rdg, pf = (0, 0, st.s)) := Lib.hid ⟨st, by rw [← HRD.out, hie, ← HNL.out, List.drop_length]; rfl⟩
      obtain ⟨tv, hv, sv, V, hS⟩ := HRr.out
      obtain ⟨pa, ca, rfl⟩ := own_slice hS.rows.tops
      obtain ⟨pb, cb, rfl⟩ := own_slice hS.rows.thrs
      obtain ⟨pc, cc, rfl⟩ := own_slice hS.rows.sch
      obtain ⟨d0, d1, d2, d3, d4, d5, fz⟩ := hS.cell
      have HS := Lib.hid hS
      have HRB5 := Lib.hid ((HLOW.out.block rb (Nat.lt_succ_self rb)).trans HRB.out)
      have r0 := (cell_of HRB5.out 0).trans rfl
      have r1 := (cell_of HRB5.out 1).trans rfl
      have r2 := (cell_of HRB5.out 2).trans rfl
      have r3 := (cell_of HRB5.out 3).trans rfl
      have r4 := free_of HRB5.out
      clear hS HRD HRr d4 d5 fz hie
      go_wp2_with fail
      have hst := store_scrT HRB5.out rfl (HB.out.trans (HLOW.out.mono (Nat.le_succ rb))) (Nat.le_refl _) (.slice pa st.s.tops.length ca) (.slice pb st.s.thrs.length cb) (.slice pc st.s.sch.length cc) (.int .i64 st.s.most)
      have g0 := set_at HRB5.out 0 (.slice pa st.s.tops.length ca)
      have g1 := set_at g0 1 (.slice pb st.s.thrs.length cb)
      have g2 := set_at g1 2 (.slice pc st.s.sch.length cc)
      refine bodyPost_ret (results_cell_tmp2 (fn := Tryd.f12) (p := 2) (u := 3) (v := 4) (ty := 34) rfl _ _ _ _ ⟨rb, 0, none⟩ rfl (load_scr34 hst.1)) rfl ?_
      obtain ⟨_, hpf⟩ := HPF.out
      rw [hpf]
      exact ⟨_, _, _, V, rfl, rows_setT kinds34 (rows_setT kinds34 (rows_setT kinds34 (rows_setT kinds34 HS.out.rows HRB5.out _) g0 _) g1 _) g2 _, HS.out.lim, hst.2⟩
end Go.Proofs.YtdmhlhoimaeacaaDoor
