/-
  Merged out of: Sched0 Sched Line Parse0 Words ParseMem ParseEnd Parse.
-/
import Derived.Test.YtdmhlhoimaeacaaDoorS1
import Derived.Test.YtdmhlhoimaeacaaDoorS2
import Derived.Test.YtdmhlhoimaeacaaDoorPlain
import Derived.Lib.FieldsP
import Derived.Lib.MapLaws
/-
  A schedule's line: plain laws on its pieces, and the memory of its loops. No walk.
-/
namespace Go.Proofs.YtdmhlhoimaeacaaDoor
open Go.RowKit Go.Maps
set_option linter.unusedVariables false

theorem index_star_miss : ∀ w : Word, behindStar w = none → Lib.index w [42] = -1 ∧ beforeStar w = w
  | [], _ => ⟨rfl, rfl⟩
  | c :: r, h => by
    unfold behindStar at h
    unfold beforeStar
    by_cases e : c = 42
    · rw [if_pos e] at h; cases h
    · rw [if_neg e] at h
      obtain ⟨h1, h2⟩ := index_star_miss r h
      rw [if_neg e, h2]
      unfold Lib.index
      rw [h1]
      have : ([42] : List UInt8).isPrefixOf (c :: r) = false := by
        simp [List.isPrefixOf]; exact fun e2 => e e2.symm
      rw [this]
      exact ⟨rfl, rfl⟩
theorem index_star_hit : ∀ (w r : Word), behindStar w = some r → ∃ i : Nat, Lib.index w [42] = i ∧ w.take i = beforeStar w ∧ w.drop (i + 1) = r
  | [], r, h => by cases h
  | c :: t, r, h => by
    unfold behindStar at h
    unfold beforeStar
    by_cases e : c = 42
    · rw [if_pos e] at h
      cases h
      subst e
      refine ⟨0, ?_, ?_, rfl⟩
      · unfold Lib.index; rw [if_pos (by simp [List.isPrefixOf])]; rfl
      · simp
    · rw [if_neg e] at h
      obtain ⟨i, h1, h2, h3⟩ := index_star_hit t r h
      refine ⟨i + 1, ?_, ?_, ?_⟩
      · unfold Lib.index
        have : ([42] : List UInt8).isPrefixOf (c :: t) = false := by
          simp [List.isPrefixOf]; exact fun e2 => e e2.symm
        rw [this, h1]
        have h5 : ((i : Int) == -1) = false := by rw [beq_eq_false_iff_ne]; omega
        rw [h5]
        simp
      · rw [if_neg e, List.take_succ_cons, h2]
      · rw [List.drop_succ_cons]; exact h3
theorem cut_star (w : Word) : Lib.cut w [42] = (beforeStar w, (behindStar w).getD [], (behindStar w).isSome) := by
  unfold Lib.cut
  cases h : behindStar w with
  | none =>
    obtain ⟨h1, h2⟩ := index_star_miss w h
    rw [h1, if_neg (by omega), h2]
    rfl
  | some r =>
    obtain ⟨i, h1, h2, h3⟩ := index_star_hit w r h
    rw [h1, if_pos (by omega)]
    show (w.take ((i : Int)).toNat, w.drop (((i : Int)).toNat + 1), true) = _
    rw [Int.toNat_natCast, h2, h3]
    rfl
theorem before_len : ∀ w : Word, (beforeStar w).length ≤ w.length
  | [] => Nat.le_refl _
  | c :: r => by
    unfold beforeStar
    split
    · simp
    · have := before_len r; simp; omega
theorem behind_len : ∀ (w r : Word), behindStar w = some r → r.length ≤ w.length
  | [], r, h => by cases h
  | c :: t, r, h => by
    unfold behindStar at h
    split at h
    · cases h; simp
    · have := behind_len t r h; simp; omega
theorem piecesF_snoc (x : Word) : ∀ l : List Word, piecesF (l ++ [x]) = (piecesF l).bind fun ps => (pieceF x).map fun p => ps ++ [p]
  | [] => by
    show (pieceF x).bind _ = _
    simp only [piecesF, Option.bind_some, Option.map_some]
    cases pieceF x <;> rfl
  | w :: l => by
    show (pieceF w).bind (fun p => (piecesF (l ++ [x])).map (p :: ·)) = ((pieceF w).bind fun p => (piecesF l).map (p :: ·)).bind _
    rw [piecesF_snoc x l]
    cases pieceF w with
    | none => rfl
    | some p =>
      simp only [Option.bind_some]
      cases piecesF l with
      | none => rfl
      | some ps =>
        simp only [Option.bind_some, Option.map_some]
        cases pieceF x <;> rfl
theorem piecesF_bad : ∀ (l : List Word) (x : Word), x ∈ l → pieceF x = none → piecesF l = none
  | [], x, h, _ => by cases h
  | w :: l, x, h, hx => by
    show (pieceF w).bind _ = none
    cases hw : pieceF w with
    | none => rfl
    | some p =>
      rcases List.mem_cons.1 h with rfl | h
      · rw [hw] at hx; cases hx
      · rw [piecesF_bad l x h hx]; rfl
theorem spread_snoc (p : Int × Nat) : ∀ l, spread (l ++ [p]) = spread l ++ List.replicate p.2 p.1
  | [] => by simp [spread]
  | q :: l => by
    show List.replicate q.2 q.1 ++ spread (l ++ [p]) = _
    rw [spread_snoc p l, ← List.append_assoc]
    rfl
theorem within_rng {x : Word} {lo hi n : Int} (h : withinF x lo hi = some n) : lo ≤ n ∧ n ≤ hi := by
  unfold withinF at h
  cases hnf : numF x with
  | none => rw [hnf] at h; cases h
  | some q =>
    rw [hnf] at h
    simp only [Option.bind_some] at h
    split at h
    · rename_i hq; cases h; exact hq
    · cases h
theorem piece_rng {x : Word} {p : Int × Nat} (h : pieceF x = some p) : p.2 ≤ 65536 := by
  unfold pieceF at h
  cases hw : withinF (beforeStar x) 0 2147483647 with
  | none => rw [hw] at h; cases h
  | some n =>
    rw [hw] at h
    simp only [Option.bind_some] at h
    cases hb : behindStar x with
    | none => rw [hb] at h; cases h; show 1 ≤ 65536; omega
    | some r =>
      rw [hb] at h
      simp only at h
      cases hr : withinF r 1 65536 with
      | none => rw [hr] at h; cases h
      | some k =>
        rw [hr] at h
        cases h
        have := within_rng hr
        show k.toNat ≤ 65536
        omega

def pcell (p : Int × Nat) : List Value := [.int .i64 p.1, .int .i64 p.2]
def pcells (L : List (Int × Nat)) : List Value := flatN L.length fun i => pcell (L.getD i default)
theorem pcells_snoc (L : List (Int × Nat)) (t : Int × Nat) : pcells (L ++ [t]) = pcells L ++ pcell t := by
  unfold pcells
  rw [List.length_append, List.length_singleton, flatN_succ, getD_last]
  congr 1
  exact flatN_congr _ fun i hi => by rw [getD_app _ _ _ _ hi]
theorem pcells_get (L : List (Int × Nat)) (i j : Nat) (hi : i < L.length) (hj : j < 2) : (pcells L)[i * 2 + j]? = (pcell (L.getD i default))[j]? := flatN_get (f := fun i => pcell (L.getD i default)) (k := 2) (fun _ => rfl) _ _ _ hi hj
def pArr (p : Int × Nat) : Array Value := #[.int .i64 p.1, .int .i64 p.2]
theorem pArr_one (p : Int × Nat) : ∀ u ∈ (pArr p).toList, u.oneCell' = true := by intro u hu; simp [pArr] at hu; rcases hu with rfl | rfl <;> rfl
theorem info125 : (Tryd.prog.info? 125).map (fun i => (i.zero, i.size, i.bytes)) = some (some (.agg #[.int .i64 0, .int .i64 0]), 2, 16) := by kernel_rfl
theorem under123 : Tryd.prog.underlying 123 = some (.slice 125) := by kernel_rfl
theorem info3 : (Tryd.prog.info? 3).map (fun i => (i.zero, i.size, i.bytes)) = some (some (.int .i64 0), 1, 8) := by kernel_rfl
theorem under25 : Tryd.prog.underlying 25 = some (.slice 3) := by kernel_rfl

/-- A piece more. -/
theorem piece_round {w : World} {B : Nat} {v : Value} {ps : List (Int × Nat)} {wr : World} (hB : w.heap.size = B) (h : wr.ownsRow B 125 2 v ps.length (pcells ps)) (hl : Below B w wr) (hlen : ps.length ≤ 9000000000) (p : Int × Nat) :
    ∃ vp vc w4, (Builtin.append_ #[123, 123] 123 #[v, .slice (some ⟨wr.heap.size, 0, none⟩) 1 1]).run Tryd.prog (wr.alloc (.cells (pArr p) 125)) = .ok (.slice vp (ps.length + 1 : Nat) vc) w4 ∧
      w4.ownsRow B 125 2 (.slice vp (ps.length + 1 : Nat) vc) (ps ++ [p]).length (pcells (ps ++ [p])) ∧ Below B w w4 := by
  obtain ⟨i1, hi1, z0, z1, z2⟩ := info_parts info125
  have hsx := src_one0 wr (pArr p) 125 2 rfl (pArr_one p)
  have hs : B ≤ wr.heap.size := by rw [← hB]; exact hl.size
  obtain ⟨v', w4, hrun, ha⟩ := run_append_row (P := Tryd.prog) (wr.alloc (.cells (pArr p) 125)) B 123 123 125 i1 _ 2 16 under123 hi1 z0 z1 (by decide) z2 rfl _ _ _ (h.alloc _) _ 1 (pcell p) hsx (by unfold maxLen; omega) (by omega) (by simp; omega)
  obtain ⟨vp, vc, rfl⟩ := own_slice ha.1
  refine ⟨vp, vc, w4, hrun, ?_, (hl.alloc hs _).grown ha.2.1 (by simp; omega) (fun q hq => (h.lt q hq).1)⟩
  rw [List.length_append, List.length_singleton, pcells_snoc]
  exact ha.1

/-- What holds in the loops that write the schedule. -/
structure SchLoop (N g m : Nat) (has : Bool) (tv hv : Value) (S : Scr) (B : Nat) (pv : Value) (ps : List (Int × Nat)) (w0 : World) (done : List Int) (wr : World) : Prop where
  rdr : ∃ sv V, RdrS wr N 73 62 58 g (.map (some m)) (.bool has) tv hv sv V { S with sch := S.sch ++ done }
  map : MapF wr m S.thrs.length (namesF S)
  row : wr.ownsRow B 125 2 pv ps.length (pcells ps)
  low : Below N w0 wr
section
variable {N g m B : Nat} {has : Bool} {tv hv pv : Value} {S : Scr} {ps : List (Int × Nat)} {w0 wr : World} {done : List Int}
theorem SchLoop.below (h : SchLoop N g m has tv hv S B pv ps w0 done wr) {w1 : World} (hb : Below wr.heap.size wr w1) : SchLoop N g m has tv hv S B pv ps w0 done w1 := by
  obtain ⟨⟨sv, V, h1⟩, h3, h4, h5⟩ := h
  exact ⟨⟨sv, V, h1.below hb⟩, h3.below hb, own_below h4 hb, h5.trans (hb.mono h1.nw)⟩
/-- A number more. -/
theorem SchLoop.round (hB : N ≤ B) (h : SchLoop N g m has tv hv S B pv ps w0 done wr) (hi : (S.sch ++ done).length < 1048576) (n : Int) {tb : Nat} {cs : Array Value} (ht : wr.heap[tb]? = some (.cells cs 125 (0, 0))) :
    ∃ vp l vc vp' vc' w4, wr.cell? ⟨g, 2, none⟩ = some (.slice vp l vc) ∧ (wr.alloc (.cells #[.int .i64 n] 3)).cell? ⟨g, 2, none⟩ = some (.slice vp l vc) ∧
      (wr.alloc (.cells #[.int .i64 n] 3)).heap[tb]? = some (.cells cs 125 (0, 0)) ∧
      (Builtin.append_ #[25, 25] 25 #[.slice vp l vc, .slice (some ⟨wr.heap.size, 0, none⟩) 1 1]).run Tryd.prog (wr.alloc (.cells #[.int .i64 n] 3)).drew = .ok (.slice vp' (l + 1 : Nat) vc') w4 ∧
      w4.cell? ⟨g, 2, none⟩ = some (.slice vp l vc) ∧ w4.frozen? ⟨g, 2, none⟩ = false ∧
      SchLoop N g m has tv hv S B pv ps w0 (done ++ [n]) (w4.setCell ⟨g, 2, none⟩ (.slice vp' (l + 1 : Nat) vc')) ∧
      (w4.setCell ⟨g, 2, none⟩ (.slice vp' (l + 1 : Nat) vc')).heap[tb]? = some (.cells cs 125 (0, 0)) := by
  obtain ⟨⟨sv, V, hS⟩, hM, hrow, hlow⟩ := h
  obtain ⟨i3, hi3, z0, z1, z2⟩ := info_parts info3
  have hSd := hS.below (Below.refl wr.heap.size wr).drew
  have hsx := src_one0 wr.drew #[.int .i64 n] 3 1 rfl (by intro u hu; simp at hu; rw [hu]; rfl)
  have hlenc : ({ S with sch := S.sch ++ done } : Scr).sch.length < 1048576 := hi
  obtain ⟨v', w4, hrun, ha⟩ := run_append_row (P := Tryd.prog) (wr.drew.alloc (.cells #[.int .i64 n] 3)) N 25 25 3 i3 _ 1 8 under25 hi3 z0 z1 (by decide) z2 rfl _ _ _ (hSd.rows.sch.alloc _) _ 1 [.int .i64 n] hsx (by unfold maxLen; omega) (by omega) (by have := hS.nw; simp; omega)
  obtain ⟨q1, q2, q3, q4⟩ := hSd.number kindsP (n := n) hi ha
  obtain ⟨vp', vc', rfl⟩ := own_slice ha.1
  obtain ⟨vp, vc, rfl⟩ := own_slice hSd.rows.sch
  have hg := ha.2.1
  have hMa := (hM.below (Below.refl wr.heap.size wr).drew).alloc (.cells #[.int .i64 n] 3)
  have hMm := hMa.kept hg (map_ne_row hMa (hSd.rows.sch.alloc _))
  have hM4 := hMm.kept (grown_set w4 g 2 (.slice vp' (({ S with sch := S.sch ++ done } : Scr).sch.length + 1 : Nat) vc')) (by
    intro e
    cases e
    obtain ⟨es, cl, hx⟩ := hMm.isMap
    simp [World.cell?, hx] at q1)
  have hta : (wr.alloc (.cells #[.int .i64 n] 3)).heap[tb]? = some (.cells cs 125 (0, 0)) := (Below.heap_alloc _ _ _ (Array.getElem?_eq_some_iff.1 ht).1).trans ht
  have ht4 : w4.heap[tb]? = some (.cells cs 125 (0, 0)) := head_other (hSd.rows.sch.alloc _) hta hg (by decide)
  have hrow4 : w4.ownsRow B 125 2 pv ps.length (pcells ps) := own_other (v' := .slice vp _ vc) ((own_below hrow (Below.refl _ _).drew).alloc _) (hSd.rows.sch.alloc _) hg (by decide)
  have hd4 : w4.heap[g]? = _ := head_other (hSd.rows.sch.alloc _) (hSd.alloc _).head hg (by decide)
  have htg : tb ≠ g := by
    intro e
    rw [e, hd4] at ht4
    cases ht4
  have hrowf := own_head hrow4 hd4 (grown_set w4 g 2 (.slice vp' (({ S with sch := S.sch ++ done } : Scr).sch.length + 1 : Nat) vc')) (by decide)
  have q3' : SchLoop N g m has tv hv S B pv ps w0 (done ++ [n]) (w4.setCell ⟨g, 2, none⟩ (.slice vp' (({ S with sch := S.sch ++ done } : Scr).sch.length + 1 : Nat) vc')) := by
    refine ⟨⟨.slice vp' (({ S with sch := S.sch ++ done } : Scr).sch.length + 1 : Nat) vc', V, ?_⟩, hM4, hrowf, hlow.trans ((Below.refl N wr).drew.trans q4)⟩
    rw [← List.append_assoc]
    exact q3
  have x1 : wr.cell? ⟨g, 2, none⟩ = some (.slice vp ({ S with sch := S.sch ++ done } : Scr).sch.length vc) := hS.cell.2.2.1
  have x2 : (wr.alloc (.cells #[.int .i64 n] 3)).cell? ⟨g, 2, none⟩ = some (.slice vp ({ S with sch := S.sch ++ done } : Scr).sch.length vc) := (hS.alloc _).cell.2.2.1
  have x3 := (Below.heap_setCell w4 ⟨g, 2, none⟩ (.slice vp' (({ S with sch := S.sch ++ done } : Scr).sch.length + 1 : Nat) vc') tb htg).trans ht4
  exact ⟨vp, _, vc, vp', vc', w4, x1, x2, hta, hrun, q1, q2, q3', x3⟩
theorem SchLoop.ends {st : Rdg} (hm : N ≤ m) (h : SchLoop N g m st.has tv hv st.s B pv ps w0 done wr) : RdrP wr N g m { st with s := { st.s with sch := st.s.sch ++ done } } ∧ Below N w0 wr := by
  obtain ⟨⟨sv, V, h1⟩, h3, h4, h5⟩ := h
  exact ⟨⟨_, _, _, V, h1, h3, hm⟩, h5⟩
end
theorem spread_take (ps : List (Int × Nat)) (i : Nat) (hi : i < ps.length) : spread (ps.take (i + 1)) = spread (ps.take i) ++ List.replicate (ps.getD i default).2 (ps.getD i default).1 := by
  rw [List.take_succ_eq_append_getElem hi, spread_snoc]
  simp [List.getD, hi]
theorem spread_le (ps : List (Int × Nat)) : ∀ k, k ≤ ps.length → (spread (ps.take k)).length ≤ (spread ps).length
  | k, hk => by
    have h : spread ps = spread (ps.take k) ++ spread (ps.drop k) := by
      have : ∀ a b : List (Int × Nat), spread (a ++ b) = spread a ++ spread b := by
        intro a b
        induction a with
        | nil => rfl
        | cons q a ih => show List.replicate q.2 q.1 ++ spread (a ++ b) = _; rw [ih, ← List.append_assoc]; rfl
      rw [← this, List.take_append_drop]
    rw [h, List.length_append]
    omega
end Go.Proofs.YtdmhlhoimaeacaaDoor

/-
  The program's reader: a line of the schedule.
-/
namespace Go.Proofs.YtdmhlhoimaeacaaDoor
open Go.RowKit Go.Maps
set_option linter.unusedVariables false

set_option maxRecDepth 100000 in
set_option maxHeartbeats 8000000 in
theorem schedule_walk (N g m : Nat) (st : Rdg) (ao : Option Addr) (ws : List Word) (c : Nat) (w : World) (hE : Env N w) (hr : RdrP w N g m st) (hw : WordsAt w ao ws) (hs : Short ws) (hlen : ws.length ≤ 9000000000) :
    Calls Tryd.prog 53 #[.pointer (some ⟨g, 0, none⟩), .slice ao ws.length c] w (LineD N g m st (schedF st ws) w) := by
  have HF : Hid (schedF st ws = if ws = [] then ((9 : Int), st) else match piecesF ws with
    | some ps => if 1048576 < st.s.sch.length + (spread ps).length then (3, st) else (0, { st with s := { st.s with sch := st.s.sch ++ spread ps } })
    | none => (9, st)) := Lib.hid rfl
  have HR := Lib.hid hr
  generalize schedF st ws = r at *
  by_cases hne : ws = []
  · have HF2 : Hid (r = (9, st)) := Lib.hid (by rw [HF.out, if_pos hne])
    have hlb : ((ws.length : Int) == 0) = true := by rw [hne]; rfl
    clear hr hw hs hlen
    generalize ws.length = L at *
    go_enter Tryd.func53, Tryd.ntmps53
    go_wp2_with fail
    go_ret
    rw [HF2.out]
    exact ⟨rfl, HR.out, Below.refl _ _⟩
  · obtain ⟨gw, ow, rfl, hc⟩ := hw.resolve_left hne
    have hL0 : 0 < ws.length := List.length_pos_iff.2 hne
    have hlb : ((ws.length : Int) == 0) = false := by rw [beq_eq_false_iff_ne]; omega
    have HF1 := Lib.hid (HF.out.trans (if_neg hne))
    obtain ⟨tv, hv, sv, V, hS, hM, hm⟩ := hr
    have hnw := hS.nw
    have d2 := hS.cell.2.2.1
    have hlim := hS.lim.sch
    obtain ⟨sp, sc, rfl⟩ := own_slice hS.rows.sch
    have HS := Lib.hid hS
    have HM := Lib.hid hM
    have HE := Lib.hid hE
    have HW : Hid (∀ wr, Below w.heap.size w wr → ∀ j, j < ws.length → wr.cell? ⟨gw, ow + j, none⟩ = some (.string ⟨(ws.getD j default).toArray⟩)) := Lib.hid (fun wr hb j hj => by
      have h := hc j hj
      exact (hb.cell (p := ⟨gw, ow + j, none⟩) (World.block_lt_of_cell? w _ h)).trans h)
    have HSH := Lib.hid hs
    clear hS hM hE hc hs hne HF hw
    generalize hLL : ws.length = L at *
    have HL := Lib.hid hLL
    obtain ⟨B, hB⟩ : ∃ B, w.heap.size = B := ⟨_, rfl⟩
    have HBE := Lib.hid hB
    rw [hB] at hnw
    clear hLL hB
    generalize hsl : st.s.sch.length = sl at *
    have HSL := Lib.hid hsl
    clear hsl
    obtain ⟨i1, hi1, z0, z1, z2⟩ := info_parts info125
    go_enter Tryd.func53, Tryd.ntmps53
    go_wp2_with fail
    go_loopw [5, 6, 29] (fun v tv iv wr => ∃ (j : Nat) (ps : List (Int × Nat)), j ≤ L ∧ iv = .int .i64 j ∧ piecesF (ws.take j) = some ps ∧ ps.length = j ∧ tv = .int .i64 ((sl + (spread ps).length : Nat) : Int) ∧ (spread ps).length ≤ 65536 * j ∧ wr.ownsRow B 125 2 v ps.length (pcells ps) ∧ Below B w wr) (fun _ _ iv _ => L - (intOf iv).toNat)
    case atStart => exact ⟨0, [], Nat.zero_le _, rfl, rfl, rfl, rfl, Nat.le_refl _, ⟨rfl, .inl ⟨rfl, rfl⟩⟩, Below.refl _ _⟩
    case round =>
      obtain ⟨j, ps, hj, rfl, hps, hpl, rfl, hsb, hrow, hlow⟩ := hrel
      have HPS := Lib.hid hps
      have HPL := Lib.hid hpl
      have HROW := Lib.hid hrow
      have HLOW := Lib.hid hlow
      have HSB := Lib.hid hsb
      have hwB : Below w.heap.size w wr := by rw [HBE.out]; exact hlow
      have HEr := Lib.hid (HE.out.up hwB)
      have hcount : (sl : Int) + 65536 * (j : Int) ≤ 600000000000000 := by omega
      have hsb' : ((spread ps).length : Int) ≤ 65536 * (j : Int) := by omega
      generalize hspl : (spread ps).length = spl at *
      have HSPL := Lib.hid hspl
      by_cases hjn : j < L
      · have cj := HW.out wr hwB j hjn
        have hxm : ws.getD j default ∈ ws := by
          simp only [List.getD]
          rw [List.getElem?_eq_getElem (by rw [HL.out]; exact hjn)]
          exact List.getElem_mem _
        generalize hx : ws.getD j default = x at *
        have HX := Lib.hid hx
        have hxl : x.length ≤ 4000000000 := HSH.out x hxm
        have HXM := Lib.hid hxm
        obtain ⟨m0, hm0⟩ := HEr.out.len
        have HCUT : Hid (Calls Tryd.prog 27 #[.string ⟨x.toArray⟩, .string ⟨#[42]⟩] wr fun e w' => e = .returned (.tuple #[.string ⟨(beforeStar x).toArray⟩, .string ⟨((behindStar x).getD []).toArray⟩, .bool (behindStar x).isSome]) ∧ ∃ n, w' = wr.drewN n) := Lib.hid (by
          have h := Tryd.strings_Cut ⟨x.toArray⟩ ⟨#[42]⟩ m0 wr (by rw [size_mk]; omega) hm0
          rw [show (ByteArray.mk x.toArray).data.toList = x from rfl, show (ByteArray.mk #[42]).data.toList = [42] from rfl, cut_star] at h
          exact h)
        have HWI : Hid (∀ W, Below wr.heap.size wr W → Calls Tryd.prog 69 #[.string ⟨(beforeStar x).toArray⟩, .int .i64 0, .int .i64 2147483647] W (NumD (withinF (beforeStar x) 0 2147483647) W)) := Lib.hid (fun W hW => by
          simpa using within_walk ⟨(beforeStar x).toArray⟩ 0 2147483647 N W (by rw [size_mk]; have := before_len x; omega) (HEr.out.up hW))
        have HCO : Hid (∀ W y, Below wr.heap.size wr W → behindStar x = some y → Calls Tryd.prog 70 #[.string ⟨y.toArray⟩] W (NumD (withinF y 1 65536) W)) := Lib.hid (fun W y hW hy => by
          simpa using count_walk ⟨y.toArray⟩ N W (by rw [size_mk]; have := behind_len x y hy; omega) (HEr.out.up hW))
        have HPF : Hid (pieceF x = (withinF (beforeStar x) 0 2147483647).bind fun n => match behindStar x with
          | none => some (n, 1)
          | some r => (withinF r 1 65536).map fun k => (n, k.toNat)) := Lib.hid rfl
        clear hps hpl hrow hlow hwB hsb hx hxm hspl hm0 d2 hxl
        generalize hpx : pieceF x = px at *
        have HPX := Lib.hid hpx
        clear hpx
        go_wp2_with fail
        refine HCUT.out.mono ?_
        rintro e w1 ⟨rfl, nn, rfl⟩
        have HB1 := Lib.hid (below_drewN (Below.refl wr.heap.size wr) nn)
        generalize wr.drewN nn = w1 at *
        go_wp2_with fail
        refine (HWI.out w1 HB1.out).mono ?_
        rintro e w2 ⟨n1, rfl, hn1, hb2⟩
        have HN1 := Lib.hid hn1
        have HB2 : Hid (Below wr.heap.size wr w2) := Lib.hid (HB1.out.trans (hb2.mono HB1.out.size))
        clear hn1 hb2
        generalize hfo : (behindStar x).isSome = fo at *
        generalize hyo : (behindStar x).getD [] = yo at *
        have HFO := Lib.hid hfo
        have HYO := Lib.hid hyo
        clear hfo hyo
        go_upto_if 44 with fail
        go_cut [13, 14, 15] from 30 to 65 (fun okv kv _ wx => okv = .bool px.isSome ∧ (∀ p, px = some p → n1 = p.1 ∧ kv = .int .i64 (p.2 : Int) ∧ p.2 ≤ 65536) ∧ Below wr.heap.size wr wx)
        case first =>
          cases fo with
          | false =>
            have hbs : behindStar x = none := by
              cases h : behindStar x with
              | none => rfl
              | some y => have := HFO.out; rw [h] at this; cases this
            have HPN : Hid (px = (withinF (beforeStar x) 0 2147483647).bind fun n => some (n, 1)) := Lib.hid (by rw [HPF.out, hbs])
            clear hbs
            go_wp2_with fail
            go_meet
            refine ⟨by rw [HPN.out]; cases withinF (beforeStar x) 0 2147483647 <;> rfl, fun p hp => ?_, HB2.out⟩
            rw [HPN.out] at hp
            cases hq : withinF (beforeStar x) 0 2147483647 with
            | none => rw [hq] at hp; cases hp
            | some q =>
              rw [hq] at hp
              cases hp
              exact ⟨HN1.out q hq, rfl, by show 1 ≤ 65536; omega⟩
          | true =>
            have hbs : behindStar x = some yo := by
              cases h : behindStar x with
              | none => have := HFO.out; rw [h] at this; cases this
              | some y => have := HYO.out; rw [h] at this; rw [← this]; rfl
            have HPN : Hid (px = (withinF (beforeStar x) 0 2147483647).bind fun n => (withinF yo 1 65536).map fun k => (n, k.toNat)) := Lib.hid (by rw [HPF.out, hbs])
            have HCY := Lib.hid (HCO.out w2 yo HB2.out hbs)
            clear hbs
            go_wp2_with fail
            refine HCY.out.mono ?_
            rintro e w3 ⟨n2, rfl, hn2, hb3⟩
            have HN2 := Lib.hid hn2
            have HB3 : Hid (Below wr.heap.size wr w3) := Lib.hid (HB2.out.trans (hb3.mono HB2.out.size))
            clear hn2 hb3
            cases hq : withinF (beforeStar x) 0 2147483647 with
            | none =>
              have HZ : Hid (px = none) := Lib.hid (by rw [HPN.out, hq]; rfl)
              clear hq
              simp only [Option.isSome_none]
              go_wp2_with fail
              go_meet
              exact ⟨by rw [HZ.out]; rfl, (fun p hp => by rw [HZ.out] at hp; cases hp), HB3.out⟩
            | some q =>
              have HZ : Hid (px = (withinF yo 1 65536).map fun k => (q, k.toNat)) := Lib.hid (by rw [HPN.out, hq]; rfl)
              obtain rfl := HN1.out q hq
              clear hq
              simp only [Option.isSome_some]
              go_wp2_with fail
              go_meet
              refine ⟨by rw [HZ.out]; cases withinF yo 1 65536 <;> rfl, (fun p hp => ?_), HB3.out⟩
              rw [HZ.out] at hp
              cases hk : withinF yo 1 65536 with
              | none => rw [hk] at hp; cases hp
              | some k =>
                rw [hk] at hp
                cases hp
                obtain rfl := HN2.out k hk
                have := within_rng hk
                refine ⟨rfl, ?_, by show n2.toNat ≤ 65536; omega⟩
                show Value.int .i64 n2 = Value.int .i64 ((n2.toNat : Nat) : Int)
                rw [Int.toNat_of_nonneg (by omega)]
        case rest =>
          obtain ⟨hokv, hpv, hbw⟩ := hcut
          subst hokv
          have hwcB : Below B w wc := HLOW.out.trans (hbw.mono (by have := HLOW.out.size; have := HBE.out; omega))
          have HLX := Lib.hid hwcB
          have hrowc := own_below HROW.out hbw
          have HPV := Lib.hid hpv
          clear hbw hwcB hpv
          cases px with
          | none =>
            have HF2 : Hid (r = (9, st)) := Lib.hid (by rw [HF1.out, piecesF_bad ws x HXM.out HPX.out])
            clear hrowc
            simp only [Option.isSome_none]
            go_wp2_with fail
            go_ret
            rw [HF2.out]
            exact ⟨rfl, HR.out.below (by rw [HBE.out]; exact HLX.out), HLX.out.mono (by have := hnw; omega)⟩
          | some p =>
            obtain ⟨hp5, rfl, hp6⟩ := HPV.out p rfl
            subst hp5
            have hpl : ps.length ≤ 9000000000 := by rw [HPL.out]; omega
            have HSX := Lib.hid (src_one0 wc (pArr p) 125 2 rfl (pArr_one p))
            have HROWA := Lib.hid (hrowc.alloc (.cells (pArr p) 125))
            have hsz : B ≤ wc.heap.size := by have := HLX.out.size; have := HBE.out; omega
            clear hrowc
            simp only [Option.isSome_some]
            have hspl := HSPL.out
            have hP2 : Hid (piecesF (ws.take (j + 1)) = some (ps ++ [p]) ∧ (ps ++ [p]).length = j + 1 ∧ (spread (ps ++ [p])).length = spl + p.2) := Lib.hid (by
              refine ⟨?_, by rw [List.length_append, HPL.out]; rfl, by rw [spread_snoc, List.length_append, List.length_replicate, hspl]⟩
              have hjl : j < ws.length := by rw [HL.out]; exact hjn
              rw [List.take_succ_eq_append_getElem hjl, piecesF_snoc, HPS.out]
              have : ws[j] = x := by
                have h := HX.out
                simp only [List.getD] at h
                rw [List.getElem?_eq_getElem hjl] at h
                exact h
              rw [this, HPX.out]
              rfl)
            have hS5 := HSB.out
            clear hspl
            go_upto_region 17 with fail
            go_wp2_with (at_builtin; go_must (refine wpList_append_row rfl (.tmp 56) (.tmp 60) 123 rfl B 125 i1 _ 2 16 under123 hi1 z0 z1 (by decide) z2 rfl _ ps.length (pcells ps) rfl HROWA.out 1 (pcell p) HSX.out ?l2 ?b2 ?n2 ?_); go_must (case l2 => (unfold maxLen; omega)); go_must (case b2 => omega); go_must (case n2 => (simp; omega)); intro v61 w4 ha; go_must (have HAP := Lib.hid ha); clear ha)
            go_roundw
            case rel =>
              have ha := HAP.out
              obtain ⟨e1, e2, e3⟩ := hP2.out
              refine ⟨j + 1, ps ++ [p], by omega, by go_num, e1, e2, ?_, by rw [e3]; omega, ?_, ?_⟩
              · rw [e3]
                go_num
              · rw [List.length_append, List.length_singleton, pcells_snoc]
                exact ha.1
              · exact (HLX.out.alloc hsz _).grown ha.2.1 (by simp; omega) (fun q hq => (HROWA.out.lt q hq).1)
            case measure => simp [intOf]; omega
      · have hjL : j = L := by omega
        subst hjL
        have hpw : piecesF ws = some ps := by
          have := HPS.out
          rw [List.take_of_length_le (by rw [HL.out]; exact Nat.le_refl _)] at this
          exact this
        have HF3 : Hid (r = if 1048576 < sl + spl then ((3 : Int), st) else (0, { st with s := { st.s with sch := st.s.sch ++ spread ps } })) := Lib.hid (by
          rw [HF1.out, hpw]
          simp only
          rw [HSPL.out])
        have HRr := Lib.hid (HR.out.below hwB)
        have HLr : Hid (Below N w wr) := Lib.hid (hlow.mono (by have := HBE.out; omega))
        have HSr := Lib.hid (HS.out.below hwB)
        have HMr := Lib.hid (HM.out.below hwB)
        clear hpw hps hpl hrow hlow hwB hsb hspl d2
        by_cases hbig : (sl : Int) + (spl : Int) > 1048576
        · have HF2 : Hid (r = (3, st)) := Lib.hid (by rw [HF3.out, if_pos (by omega)])
          go_wp2_with fail
          go_ret
          rw [HF2.out]
          exact ⟨rfl, HRr.out, HLr.out⟩
        · have HF2 : Hid (r = (0, { st with s := { st.s with sch := st.s.sch ++ spread ps } })) := Lib.hid (by rw [HF3.out, if_neg (by omega)])
          obtain ⟨pp, pc, hu5⟩ := own_slice HROW.out
          have HSCH : Hid (SchLoop N g m st.has tv hv st.s B u5 ps w [] wr) := Lib.hid ⟨⟨_, V, by rw [List.append_nil]; exact HSr.out⟩, HMr.out, HROW.out, HLr.out⟩
          subst hu5
          have hpl9 : ps.length ≤ 9000000000 := by rw [HPL.out]; exact hlen
          have HTOT : Hid ((spread ps).length + sl ≤ 1048576) := Lib.hid (by rw [HSPL.out]; omega)
          clear HROW HLOW HSB HRr HLr HSr HMr HW HSH HPS
          obtain ⟨wo, hwo⟩ : ∃ wo, wo = wr := ⟨_, rfl⟩
          subst hwo
          go_wp2_with fail
          go_loopw [70] (fun iv wr => ∃ i : Nat, i ≤ ps.length ∧ iv = .int .i64 i ∧ SchLoop N g m st.has tv hv st.s B (.slice pp ps.length pc) ps w (spread (ps.take i)) wr) (fun iv _ => ps.length - (intOf iv).toNat)
          case atStart => exact ⟨0, Nat.zero_le _, rfl, HSCH.out⟩
          case round =>
            obtain ⟨i, hi, rfl, hsch⟩ := hrel
            have HSC := Lib.hid hsch
            clear hsch
            by_cases hin : i < ps.length
            · obtain ⟨pb, hpb⟩ : ∃ pb, pp = some ⟨pb, 0, none⟩ := by
                rcases HSC.out.row.2 with ⟨e, h0⟩ | ⟨q, cap, _, e, _⟩
                · omega
                · injection e with e1 e2 e3; exact ⟨q, e1⟩
              subst hpb
              have e0 : wr.cell? ⟨pb, i * 2, none⟩ = some (.int .i64 (ps.getD i default).1) := by
                have h := HSC.out.row.cellAt (i * 2 + 0) (by omega)
                rw [pcells_get _ _ _ hin (by omega)] at h
                exact h
              have e1 : wr.cell? ⟨pb, i * 2 + 1, none⟩ = some (.int .i64 ((ps.getD i default).2 : Int)) := by
                have h := HSC.out.row.cellAt (i * 2 + 1) (by omega)
                rw [pcells_get _ _ _ hin (by omega)] at h
                exact h
              have HTK := Lib.hid (spread_take ps i hin)
              have HTKL := Lib.hid (spread_le ps (i + 1) hin)
              have hrow := HSC.out.row
              generalize hp : ps.getD i default = p at *
              obtain ⟨p1, p2⟩ := p
              simp only at e0 e1
              have HTKL2 : Hid ((spread (ps.take i)).length + p2 ≤ (spread ps).length) := Lib.hid (by
                have h := HTKL.out
                rw [HTK.out, List.length_append, List.length_replicate] at h
                exact h)
              have HTB := Lib.hid (heap_alloc_new wr (.cells #[.int .i64 p1, .int .i64 (p2 : Int)] 125))
              have HSC2 := Lib.hid (HSC.out.below ((Below.refl wr.heap.size wr).alloc (Nat.le_refl _) (.cells #[.int .i64 p1, .int .i64 (p2 : Int)] 125)))
              clear hrow hp
              go_upto_region 25 with fail
              generalize wr.alloc (.cells #[.int .i64 p1, .int .i64 (p2 : Int)] 125) = w2 at *
              generalize wr.heap.size = tb at *
              have t1 : w2.cell? ⟨tb, 1, none⟩ = some (.int .i64 (p2 : Int)) := cell_of HTB.out 1
              clear e0 e1
              obtain ⟨wi, hwi⟩ : ∃ wi, wi = wr := ⟨_, rfl⟩
              subst hwi
              have hp29 : p2 ≤ 1048576 := by have := HTKL2.out; have := HTOT.out; omega
              go_wp2_with fail
              go_loopw [76] (fun kv wr => ∃ k : Nat, k ≤ p2 ∧ kv = .int .i64 k ∧ SchLoop N g m st.has tv hv st.s B (.slice (some ⟨pb, 0, none⟩) ps.length pc) ps w (spread (ps.take i) ++ List.replicate k p1) wr ∧ wr.heap[tb]? = some (.cells #[.int .i64 p1, .int .i64 (p2 : Int)] 125 (0, 0))) (fun kv _ => p2 - (intOf kv).toNat)
              case atStart => exact ⟨0, Nat.zero_le _, rfl, by rw [List.replicate_zero, List.append_nil]; exact HSC2.out, HTB.out⟩
              case round =>
                obtain ⟨k, hk, rfl, hsck, htk⟩ := hrel
                have HSK := Lib.hid hsck
                have HTK3 := Lib.hid htk
                clear hsck htk t1
                by_cases hkn : k < p2
                · obtain ⟨vp1, l1, vc1, vp2, vc2, w4, q1, q2, q3, q4, q5, q6, q7, q8⟩ := HSK.out.round hnw (by
                    have := HTKL2.out; have := HTOT.out; have := HSL.out
                    rw [List.length_append, List.length_append, List.length_replicate]; omega) p1 HTK3.out
                  have r0 : wr.cell? ⟨tb, 0, none⟩ = some (.int .i64 p1) := cell_of HTK3.out 0
                  have r1 : (wr.alloc (.cells #[.int .i64 p1] 3)).cell? ⟨tb, 0, none⟩ = some (.int .i64 p1) := cell_of q3 0
                  have HRUN := Lib.hid q4
                  have HNX := Lib.hid q7
                  have HTX := Lib.hid q8
                  clear q3 q4 q7 q8
                  go_upto_region 27 with fail
                  go_region_law (refine step_append_runI (by rfl) _ _ 25 25 (by rfl) (.slice vp1 l1 vc1) (.slice (some ⟨wr.heap.size, 0, none⟩) 1 1) (by rfl) (by rfl) HRUN.out ?_)
                  all_goals
                    go_wp2_with fail
                    go_roundw
                    case rel => exact ⟨k + 1, by omega, by go_num, by rw [List.replicate_succ', ← List.append_assoc]; exact HNX.out, HTX.out⟩
                    case measure => simp [intOf]; omega
                · have hke : k = p2 := by omega
                  subst hke
                  have HNX : Hid (SchLoop N g m st.has tv hv st.s B (.slice (some ⟨pb, 0, none⟩) ps.length pc) ps w (spread (ps.take (i + 1))) wr) := Lib.hid (by rw [HTK.out]; exact HSK.out)
                  go_wp2_with fail
                  go_roundw
                  case rel => exact ⟨i + 1, by omega, by go_num, HNX.out⟩
                  case measure => simp [intOf]; omega
            · have hie : i = ps.length := by omega
              subst hie
              obtain ⟨hz1, hz2⟩ := HSC.out.ends hm
              rw [List.take_length] at hz1
              have HZ1 := Lib.hid hz1
              have HZ2 := Lib.hid hz2
              clear hz1 hz2
              go_wp2_with fail
              go_ret
              rw [HF2.out]
              exact ⟨rfl, HZ1.out, HZ2.out⟩
end Go.Proofs.YtdmhlhoimaeacaaDoor

/-
  The program's reader: a line. (The four alike parts were printed by a small program: wip/gen/line.py.)
-/
namespace Go.Proofs.YtdmhlhoimaeacaaDoor
open Go.RowKit Go.Maps
set_option linter.unusedVariables false

set_option maxRecDepth 100000 in
set_option maxHeartbeats 8000000 in
theorem line_walk (N g m : Nat) (st : Rdg) (ao : Option Addr) (ws : List Word) (c : Nat) (w : World) (hE : Env N w) (hr : RdrP w N g m st) (hw : WordsAt w ao ws) (hs : Short ws) (hne : ws ≠ []) (hnon : NonE ws) (hcap : ws.length ≤ c) (hc2 : c ≤ 9000000000) :
    Calls Tryd.prog 30 #[.pointer (some ⟨g, 0, none⟩), .slice ao ws.length c] w (LineD N g m st (lineF st ws) w) := by
  obtain ⟨gw, ow, rfl, hc⟩ := hw.resolve_left hne
  have HOP := Lib.hid (op_walk N g m st (some ⟨gw, ow, none⟩) ws c w hE hr hw hs hne hnon hcap hc2)
  obtain ⟨x, ws, rfl⟩ : ∃ x r, ws = x :: r := by
    cases ws with
    | nil => exact absurd rfl hne
    | cons x r => exact ⟨x, r, rfl⟩
  have hlen : ws.length ≤ 9000000000 := by simp at hcap; omega
  have c0 : w.cell? ⟨gw, ow, none⟩ = some (.string ⟨x.toArray⟩) := hc 0 (by simp)
  have HW1 : Hid (WordsAt w (some ⟨gw, ow + 1, none⟩) ws) := Lib.hid (.inr ⟨gw, ow + 1, rfl, fun j hj => by
    have h := hc (j + 1) (by simpa using hj)
    rw [show ow + 1 + j = ow + (j + 1) by omega]
    simpa using h⟩)
  have hs2 : Short ws := fun y hy => hs y (List.mem_cons_of_mem _ hy)
  have HF : Hid (lineF st (x :: ws) = if x = wTopic then topicF st ws else if x = wMost then mostF st ws else if x = wSchedule then schedF st ws else if x = wThread then threadF st ws else opsF st (x :: ws)) := Lib.hid rfl
  have hL : (x :: ws).length = ws.length + 1 := rfl
  have hlc : ws.length + 1 ≤ c := hcap
  rw [hL] at HOP ⊢
  generalize lineF st (x :: ws) = r at *
  have HK0 : Hid (∀ (c' : Nat) (ao : Option Addr), WordsAt w ao ws → Calls Tryd.prog 51 #[.pointer (some ⟨g, 0, none⟩), .slice ao ws.length c'] w (LineD N g m st (topicF st ws) w)) :=
    Lib.hid (fun c' ao h => topic_walk N g m st ao ws c' w hE hr h hs2)
  have hd0 : wTopic = [116, 111, 112, 105, 99] := rfl
  have HK1 : Hid (∀ (c' : Nat) (ao : Option Addr), WordsAt w ao ws → Calls Tryd.prog 52 #[.pointer (some ⟨g, 0, none⟩), .slice ao ws.length c'] w (LineD N g m st (mostF st ws) w)) :=
    Lib.hid (fun c' ao h => most_walk N g m st ao ws c' w hE hr h hs2)
  have hd1 : wMost = [109, 111, 115, 116] := rfl
  have HK2 : Hid (∀ (c' : Nat) (ao : Option Addr), WordsAt w ao ws → Calls Tryd.prog 53 #[.pointer (some ⟨g, 0, none⟩), .slice ao ws.length c'] w (LineD N g m st (schedF st ws) w)) :=
    Lib.hid (fun c' ao h => schedule_walk N g m st ao ws c' w hE hr h hs2 hlen)
  have hd2 : wSchedule = [115, 99, 104, 101, 100, 117, 108, 101] := rfl
  have HK3 : Hid (∀ (c' : Nat) (ao : Option Addr), WordsAt w ao ws → Calls Tryd.prog 54 #[.pointer (some ⟨g, 0, none⟩), .slice ao ws.length c'] w (LineD N g m st (threadF st ws) w)) :=
    Lib.hid (fun c' ao h => thread_walk N g m st ao ws c' w hE hr h hs2)
  have hd3 : wThread = [116, 104, 114, 101, 97, 100] := rfl
  clear hE hr hw hs hnon hs2 hc hne hcap hL
  by_cases hx0 : x = wTopic
  · have HF2 : Hid (r = topicF st ws) := Lib.hid (by rw [HF.out, if_pos hx0])
    clear HF HK1 HK2 HK3 HOP 
    generalize topicF st ws = q at *
    rw [hx0, hd0] at c0
    clear hx0 hd0 hd1 hd2 hd3
    by_cases hc1 : c = 1
    · subst hc1
      have hws : ws = [] := List.eq_nil_of_length_eq_zero (by omega)
      subst hws
      have HK := Lib.hid (HK0.out 0 (some ⟨gw, ow, none⟩) (.inl rfl))
      clear HK0 HW1
      simp only [List.length_nil] at HK
      simp only [List.length_nil, Nat.zero_add]
      go_enter Tryd.func30, Tryd.ntmps30
      go_wp2_with fail
      refine HK.out.mono ?_
      rintro e w1 ⟨rfl, h1, h2⟩
      have H1 := Lib.hid h1
      have H2 := Lib.hid h2
      clear h1 h2
      go_wp2_with fail
      go_ret
      rw [HF2.out]
      exact ⟨rfl, H1.out, H2.out⟩
    · have HK := Lib.hid (HK0.out (c - 1) _ HW1.out)
      clear HK0 HW1
      generalize ws.length = lw at *
      have hc3 : 1 < c := by omega
      have hc4 : 1 ≤ c := by omega
      go_enter Tryd.func30, Tryd.ntmps30
      go_wp2_with fail
      refine HK.out.mono ?_
      rintro e w1 ⟨rfl, h1, h2⟩
      have H1 := Lib.hid h1
      have H2 := Lib.hid h2
      clear h1 h2
      go_wp2_with fail
      go_ret
      rw [HF2.out]
      exact ⟨rfl, H1.out, H2.out⟩
  · have hn0 : ¬ x = [116, 111, 112, 105, 99] := hx0
    have hb0 : (x == [116, 111, 112, 105, 99]) = false := beq_eq_false_iff_ne.2 hx0
    by_cases hx1 : x = wMost
    · have HF2 : Hid (r = mostF st ws) := Lib.hid (by rw [HF.out, if_neg hx0, if_pos hx1])
      clear HF HK0 HK2 HK3 HOP hx0
      generalize mostF st ws = q at *
      rw [hx1, hd1] at c0
      clear hx1 hd0 hd1 hd2 hd3
      by_cases hc1 : c = 1
      · subst hc1
        have hws : ws = [] := List.eq_nil_of_length_eq_zero (by omega)
        subst hws
        have HK := Lib.hid (HK1.out 0 (some ⟨gw, ow, none⟩) (.inl rfl))
        clear HK1 HW1
        simp only [List.length_nil] at HK
        simp only [List.length_nil, Nat.zero_add]
        go_enter Tryd.func30, Tryd.ntmps30
        go_wp2_with fail
        refine HK.out.mono ?_
        rintro e w1 ⟨rfl, h1, h2⟩
        have H1 := Lib.hid h1
        have H2 := Lib.hid h2
        clear h1 h2
        go_wp2_with fail
        go_ret
        rw [HF2.out]
        exact ⟨rfl, H1.out, H2.out⟩
      · have HK := Lib.hid (HK1.out (c - 1) _ HW1.out)
        clear HK1 HW1
        generalize ws.length = lw at *
        have hc3 : 1 < c := by omega
        have hc4 : 1 ≤ c := by omega
        go_enter Tryd.func30, Tryd.ntmps30
        go_wp2_with fail
        refine HK.out.mono ?_
        rintro e w1 ⟨rfl, h1, h2⟩
        have H1 := Lib.hid h1
        have H2 := Lib.hid h2
        clear h1 h2
        go_wp2_with fail
        go_ret
        rw [HF2.out]
        exact ⟨rfl, H1.out, H2.out⟩
    · have hn1 : ¬ x = [109, 111, 115, 116] := hx1
      have hb1 : (x == [109, 111, 115, 116]) = false := beq_eq_false_iff_ne.2 hx1
      by_cases hx2 : x = wSchedule
      · have HF2 : Hid (r = schedF st ws) := Lib.hid (by rw [HF.out, if_neg hx0, if_neg hx1, if_pos hx2])
        clear HF HK0 HK1 HK3 HOP hx0 hx1
        generalize schedF st ws = q at *
        rw [hx2, hd2] at c0
        clear hx2 hd0 hd1 hd2 hd3
        by_cases hc1 : c = 1
        · subst hc1
          have hws : ws = [] := List.eq_nil_of_length_eq_zero (by omega)
          subst hws
          have HK := Lib.hid (HK2.out 0 (some ⟨gw, ow, none⟩) (.inl rfl))
          clear HK2 HW1
          simp only [List.length_nil] at HK
          simp only [List.length_nil, Nat.zero_add]
          go_enter Tryd.func30, Tryd.ntmps30
          go_wp2_with fail
          refine HK.out.mono ?_
          rintro e w1 ⟨rfl, h1, h2⟩
          have H1 := Lib.hid h1
          have H2 := Lib.hid h2
          clear h1 h2
          go_wp2_with fail
          go_ret
          rw [HF2.out]
          exact ⟨rfl, H1.out, H2.out⟩
        · have HK := Lib.hid (HK2.out (c - 1) _ HW1.out)
          clear HK2 HW1
          generalize ws.length = lw at *
          have hc3 : 1 < c := by omega
          have hc4 : 1 ≤ c := by omega
          go_enter Tryd.func30, Tryd.ntmps30
          go_wp2_with fail
          refine HK.out.mono ?_
          rintro e w1 ⟨rfl, h1, h2⟩
          have H1 := Lib.hid h1
          have H2 := Lib.hid h2
          clear h1 h2
          go_wp2_with fail
          go_ret
          rw [HF2.out]
          exact ⟨rfl, H1.out, H2.out⟩
      · have hn2 : ¬ x = [115, 99, 104, 101, 100, 117, 108, 101] := hx2
        have hb2 : (x == [115, 99, 104, 101, 100, 117, 108, 101]) = false := beq_eq_false_iff_ne.2 hx2
        by_cases hx3 : x = wThread
        · have HF2 : Hid (r = threadF st ws) := Lib.hid (by rw [HF.out, if_neg hx0, if_neg hx1, if_neg hx2, if_pos hx3])
          clear HF HK0 HK1 HK2 HOP hx0 hx1 hx2
          generalize threadF st ws = q at *
          rw [hx3, hd3] at c0
          clear hx3 hd0 hd1 hd2 hd3
          by_cases hc1 : c = 1
          · subst hc1
            have hws : ws = [] := List.eq_nil_of_length_eq_zero (by omega)
            subst hws
            have HK := Lib.hid (HK3.out 0 (some ⟨gw, ow, none⟩) (.inl rfl))
            clear HK3 HW1
            simp only [List.length_nil] at HK
            simp only [List.length_nil, Nat.zero_add]
            go_enter Tryd.func30, Tryd.ntmps30
            go_wp2_with fail
            refine HK.out.mono ?_
            rintro e w1 ⟨rfl, h1, h2⟩
            have H1 := Lib.hid h1
            have H2 := Lib.hid h2
            clear h1 h2
            go_wp2_with fail
            go_ret
            rw [HF2.out]
            exact ⟨rfl, H1.out, H2.out⟩
          · have HK := Lib.hid (HK3.out (c - 1) _ HW1.out)
            clear HK3 HW1
            generalize ws.length = lw at *
            have hc3 : 1 < c := by omega
            have hc4 : 1 ≤ c := by omega
            go_enter Tryd.func30, Tryd.ntmps30
            go_wp2_with fail
            refine HK.out.mono ?_
            rintro e w1 ⟨rfl, h1, h2⟩
            have H1 := Lib.hid h1
            have H2 := Lib.hid h2
            clear h1 h2
            go_wp2_with fail
            go_ret
            rw [HF2.out]
            exact ⟨rfl, H1.out, H2.out⟩
        · have hn3 : ¬ x = [116, 104, 114, 101, 97, 100] := hx3
          have hb3 : (x == [116, 104, 114, 101, 97, 100]) = false := beq_eq_false_iff_ne.2 hx3
          have HF2 : Hid (r = opsF st (x :: ws)) := Lib.hid (by rw [HF.out, if_neg hx0, if_neg hx1, if_neg hx2, if_neg hx3])
          clear HF HK0 HK1 HK2 HK3 hx0 hx1 hx2 hx3 hd0 hd1 hd2 hd3 HW1
          generalize opsF st (x :: ws) = q at *
          generalize ws.length = lw at *
          go_enter Tryd.func30, Tryd.ntmps30
          go_wp2_with fail
          refine HOP.out.mono ?_
          rintro e w1 ⟨rfl, h1, h2⟩
          have H1 := Lib.hid h1
          have H2 := Lib.hid h2
          clear h1 h2
          go_wp2_with fail
          go_ret
          rw [HF2.out]
          exact ⟨rfl, H1.out, H2.out⟩
end Go.Proofs.YtdmhlhoimaeacaaDoor

/-
  A text's lines and a line's words: the library's way of cutting is Plain.lean's. No walk.
-/
namespace Go.Proofs.YtdmhlhoimaeacaaDoor
open Go.RowKit
set_option linter.unusedVariables false

/-- What the closure says of a rune. -/
def blankR (x : Nat) : Bool := x == 32 || x == 9
theorem isBlank_hi (c : UInt8) (h : 128 ≤ c.toNat) : isBlank c = false := by
  unfold isBlank
  rw [Bool.or_eq_false_iff, beq_eq_false_iff_ne, beq_eq_false_iff_ne]
  exact ⟨fun e => by rw [e] at h; revert h; decide, fun e => by rw [e] at h; revert h; decide⟩
theorem isBlank_nat (c : UInt8) : isBlank c = blankR c.toNat := by
  unfold isBlank blankR
  have h1 : (c == 32) = (c.toNat == 32) := by
    rw [Bool.eq_iff_iff, beq_iff_eq, beq_iff_eq]
    exact ⟨fun e => by rw [e]; rfl, fun e => by rw [← UInt8.toNat_inj]; rw [e]; rfl⟩
  have h2 : (c == 9) = (c.toNat == 9) := by
    rw [Bool.eq_iff_iff, beq_iff_eq, beq_iff_eq]
    exact ⟨fun e => by rw [e]; rfl, fun e => by rw [← UInt8.toNat_inj]; rw [e]; rfl⟩
  rw [h1, h2]
/-- A rune: its bytes are blank if it is. -/
theorem rune_step (l : List UInt8) (hne : l ≠ []) : (∃ c r, l = c :: r ∧ (Lib.decodeL l).2 = 1 ∧ blankR (Lib.decodeL l).1 = isBlank c) ∨
    (blankR (Lib.decodeL l).1 = false ∧ 1 ≤ (Lib.decodeL l).2 ∧ (Lib.decodeL l).2 ≤ l.length ∧ ∀ c ∈ l.take (Lib.decodeL l).2, isBlank c = false) := by
  have hl : 0 < l.length := List.length_pos_iff.2 hne
  have hle := Lib.decodeL_le l hne
  rw [Lib.decodeL_N] at hle ⊢
  rcases Lib.decodeN_shape l.length (l.getD 0 0).toNat (l.getD 1 0).toNat (l.getD 2 0).toNat (l.getD 3 0).toNat with ⟨hc0, e⟩ | ⟨c1, c2, c3, cv, e⟩ | ⟨c1, c2, c3, c4, cv, cs, e⟩ | ⟨c1, c2, c3, c4, c5, cv, cw, e⟩ | e
  · left
    cases l with
    | nil => exact absurd rfl hne
    | cons c r => exact ⟨c, r, rfl, by rw [e], by rw [e, isBlank_nat]; rfl⟩
  · right
    rw [e]
    refine ⟨?_, by omega, by omega, ?_⟩
    · unfold blankR; simp only [Bool.or_eq_false_iff, beq_eq_false_iff_ne]; omega
    · intro c hc
      rw [Lib.takeB l (by omega)] at hc
      simp only [List.mem_cons, List.not_mem_nil, or_false] at hc
      rcases hc with rfl | rfl <;> exact isBlank_hi _ (by omega)
  · right
    rw [e]
    refine ⟨?_, by omega, by omega, ?_⟩
    · unfold blankR; simp only [Bool.or_eq_false_iff, beq_eq_false_iff_ne]; omega
    · intro c hc
      rw [Lib.takeC l (by omega)] at hc
      simp only [List.mem_cons, List.not_mem_nil, or_false] at hc
      rcases hc with rfl | rfl | rfl <;> exact isBlank_hi _ (by omega)
  · right
    rw [e]
    refine ⟨?_, by omega, by omega, ?_⟩
    · unfold blankR; simp only [Bool.or_eq_false_iff, beq_eq_false_iff_ne]; omega
    · intro c hc
      rw [Lib.takeD l (by omega)] at hc
      simp only [List.mem_cons, List.not_mem_nil, or_false] at hc
      rcases hc with rfl | rfl | rfl | rfl <;> exact isBlank_hi _ (by omega)
  · cases l with
    | nil => exact absurd rfl hne
    | cons c r =>
      by_cases h : 128 ≤ c.toNat
      · right
        rw [e]
        refine ⟨by decide, by omega, by simp, ?_⟩
        intro d hd
        simp only [List.take_succ_cons, List.take_zero, List.mem_cons, List.not_mem_nil, or_false] at hd
        subst hd
        exact isBlank_hi _ h
      · left
        rw [Lib.decodeN_ascii _ _ _ _ _ (by show c.toNat < 128; omega)] at e ⊢
        exact ⟨c, r, rfl, rfl, by rw [isBlank_nat]; rfl⟩
theorem wordsG_nil (cur : Word) : wordsG cur [] = if cur = [] then [] else [cur] := by rw [wordsG]
theorem wordsG_cons (cur r : Word) (c : UInt8) : wordsG cur (c :: r) = if isBlank c then (if cur = [] then wordsG [] r else cur :: wordsG [] r) else wordsG (cur ++ [c]) r := by rw [wordsG]
theorem wordsG_skip : ∀ (u cur r : Word), (∀ c ∈ u, isBlank c = false) → wordsG cur (u ++ r) = wordsG (cur ++ u) r
  | [], cur, r, _ => by simp
  | c :: u, cur, r, h => by
    have hc := h c (List.mem_cons_self)
    show wordsG cur (c :: (u ++ r)) = _
    rw [wordsG_cons, hc]
    simp only [Bool.false_eq_true, if_false]
    rw [wordsG_skip u (cur ++ [c]) r (fun d hd => h d (List.mem_cons_of_mem _ hd))]
    simp
/-- The bytes of a span. -/
def spanW (l : Word) (x : Nat × Nat) : Word := (l.drop x.1).take (x.2 - x.1)
def curW (l : Word) (st : Option Nat) (pos : Nat) : Word := match st with | none => [] | some a => spanW l (a, pos)
theorem spanW_grow (l : Word) (a p k : Nat) (h : a ≤ p) : spanW l (a, p) ++ (l.drop p).take k = spanW l (a, p + k) := by
  unfold spanW
  simp only
  rw [show p + k - a = (p - a) + k by omega, List.take_add, List.drop_drop, show a + (p - a) = p by omega]
theorem spanW_ne (l : Word) (a p : Nat) (h : a < p) (hp : p ≤ l.length) : spanW l (a, p) ≠ [] := by
  intro e
  have := congrArg List.length e
  unfold spanW at this
  simp at this
  omega
theorem spans_words (s : ByteArray) : ∀ (f pos : Nat) (st : Option Nat) (acc : List (Nat × Nat)), pos ≤ s.size → s.size - pos ≤ f → (∀ a, st = some a → a < pos) →
    (Lib.closeSpans s (Lib.spansFromP blankR s f pos st acc)).map (spanW s.data.toList) = acc.map (spanW s.data.toList) ++ wordsG (curW s.data.toList st pos) (s.data.toList.drop pos) := by
  have hz : s.data.toList.length = s.size := Array.length_toList
  have hend : ∀ (pos : Nat) (st : Option Nat) (acc : List (Nat × Nat)), pos = s.size → (∀ a, st = some a → a < pos) →
      (Lib.closeSpans s (acc, st)).map (spanW s.data.toList) = acc.map (spanW s.data.toList) ++ wordsG (curW s.data.toList st pos) (s.data.toList.drop pos) := by
    intro pos st acc hp hst
    rw [List.drop_eq_nil_of_le (by omega), wordsG_nil]
    unfold Lib.closeSpans curW
    cases st with
    | none => simp
    | some a =>
      have := spanW_ne s.data.toList a pos (hst a rfl) (by omega)
      simp only
      rw [if_neg this, List.map_append, hp]
      rfl
  intro f
  induction f with
  | zero =>
    intro pos st acc h1 h2 h3
    have hp : pos = s.size := by omega
    show (Lib.closeSpans s (acc, st)).map _ = _
    exact hend pos st acc hp h3
  | succ f ih =>
    intro pos st acc h1 h2 h3
    by_cases hp : pos < s.size
    · unfold Lib.spansFromP
      rw [if_pos hp]
      have hne : s.data.toList.drop pos ≠ [] := by
        intro e
        have := congrArg List.length e
        simp at this
        omega
      have hst := rune_step (s.data.toList.drop pos) hne
      rw [Lib.decodeL_drop] at hst
      have hlen : (s.data.toList.drop pos).length = s.size - pos := by rw [List.length_drop, hz]
      generalize Utf8.decode s pos = d at *
      obtain ⟨x, k⟩ := d
      simp only at hst ⊢
      rcases hst with ⟨c, r, hd, hk, hb⟩ | ⟨hb, hk1, hk2, hnb⟩
      · subst hk
        have hr : s.data.toList.drop (pos + 1) = r := by rw [← List.drop_drop, hd]; rfl
        have ht : (s.data.toList.drop pos).take 1 = [c] := by rw [hd]; rfl
        rw [hd, wordsG_cons, ← hb]
        cases hx : blankR x with
        | true =>
          simp only [if_true]
          cases st with
          | none =>
            rw [ih (pos + 1) none acc (by omega) (by omega) (fun a h => by cases h), hr]
            simp [curW]
          | some a =>
            have hn : curW s.data.toList (some a) pos ≠ [] := spanW_ne s.data.toList a pos (h3 a rfl) (by omega)
            rw [if_neg hn]
            simp only
            rw [ih (pos + 1) none _ (by omega) (by omega) (fun a h => by cases h), hr, List.map_append]
            simp [curW]
        | false =>
          simp only [Bool.false_eq_true, if_false]
          cases st with
          | none =>
            simp only
            rw [ih (pos + 1) (some pos) acc (by omega) (by omega) (fun a h => by cases h; omega), hr]
            simp only [curW]
            rw [← spanW_grow _ pos pos 1 (Nat.le_refl _), ht]
            simp [spanW]
          | some a =>
            have ha := h3 a rfl
            simp only
            rw [ih (pos + 1) (some a) acc (by omega) (by omega) (fun b h => by cases h; omega), hr]
            simp only [curW]
            rw [← spanW_grow _ a pos 1 (by omega), ht]
      · have hsp : s.data.toList.drop pos = (s.data.toList.drop pos).take k ++ s.data.toList.drop (pos + k) := by
          rw [← List.drop_drop, List.take_append_drop]
        rw [hb]
        simp only [Bool.false_eq_true, if_false]
        rw [hlen] at hk2
        cases st with
        | none =>
          simp only
          rw [ih (pos + k) (some pos) acc (by omega) (by omega) (fun a h => by cases h; omega)]
          conv => rhs; rw [hsp, wordsG_skip _ _ _ hnb]
          simp only [curW]
          rw [← spanW_grow _ pos pos k (Nat.le_refl _)]
          simp [spanW]
        | some a =>
          have ha := h3 a rfl
          simp only
          rw [ih (pos + k) (some a) acc (by omega) (by omega) (fun b h => by cases h; omega)]
          conv => rhs; rw [hsp, wordsG_skip _ _ _ hnb]
          simp only [curW]
          rw [← spanW_grow _ a pos k (by omega)]
    · have hp2 : pos = s.size := by omega
      rw [Lib.spansFromP_end _ _ _ _ _ _ hp]
      exact hend pos st acc hp2 h3
/-- The library's pieces of a line are its words. -/
theorem fields_words (s : ByteArray) : (Lib.goFieldsP blankR s).map (fun b => b.data.toList) = wordsF s.data.toList := by
  have h := spans_words s s.size 0 none [] (Nat.zero_le _) (by omega) (fun a h => by cases h)
  unfold Lib.goFieldsP
  rw [List.map_map]
  have e : (fun b : ByteArray => b.data.toList) ∘ (fun x : Nat × Nat => s.extract x.1 x.2) = spanW s.data.toList := by
    funext x
    simp [spanW]
  rw [e]
  exact h
theorem fields_values (s : ByteArray) : (Lib.goFieldsP blankR s).map Value.string = (wordsF s.data.toList).map fun x => Value.string ⟨x.toArray⟩ := by
  rw [← fields_words, List.map_map]
  apply List.map_congr_left
  intro b _
  simp
theorem fields_count (s : ByteArray) : (Lib.goFieldsP blankR s).length = (wordsF s.data.toList).length := by
  rw [← fields_words, List.length_map]
theorem index_line : ∀ t : Word, (Lib.index t [10] = -1 ∧ lineOf t = (t, [])) ∨ ∃ i : Nat, Lib.index t [10] = i ∧ lineOf t = (t.take i, t.drop (i + 1))
  | [] => .inl ⟨rfl, rfl⟩
  | c :: r => by
    unfold lineOf
    by_cases e : c = 10
    · right
      subst e
      refine ⟨0, ?_, by simp⟩
      unfold Lib.index
      rw [if_pos (by simp [List.isPrefixOf])]
      rfl
    · have hpre : ([10] : List UInt8).isPrefixOf (c :: r) = false := by
        simp [List.isPrefixOf]; exact fun e2 => e e2.symm
      rw [if_neg e]
      rcases index_line r with ⟨h1, h2⟩ | ⟨i, h1, h2⟩
      · left
        unfold Lib.index
        rw [hpre, h1, h2]
        exact ⟨rfl, rfl⟩
      · right
        refine ⟨i + 1, ?_, by rw [h2]; simp⟩
        unfold Lib.index
        have h5 : ((i : Int) == -1) = false := by rw [beq_eq_false_iff_ne]; omega
        rw [hpre, h1, h5]
        simp
/-- The library's cut at a line's end is the first line and the rest. -/
theorem cut_line (t : Word) : (Lib.cut t [10]).1 = (lineOf t).1 ∧ (Lib.cut t [10]).2.1 = (lineOf t).2 := by
  unfold Lib.cut
  rcases index_line t with ⟨h1, h2⟩ | ⟨i, h1, h2⟩
  · rw [h1, if_neg (by omega), h2]; exact ⟨rfl, rfl⟩
  · rw [h1, if_pos (by omega), h2]
    exact ⟨by simp, by simp⟩
theorem line_len : ∀ t : Word, (lineOf t).1.length ≤ t.length
  | [] => Nat.le_refl _
  | c :: r => by
    have := line_len r
    unfold lineOf
    split <;> simp <;> omega
theorem wordsG_mem : ∀ (l cur : Word), ∀ x ∈ wordsG cur l, x ≠ [] ∧ x.length ≤ cur.length + l.length
  | [], cur, x, h => by
    rw [wordsG_nil] at h
    split at h
    · cases h
    · rename_i hc
      simp only [List.mem_cons, List.not_mem_nil, or_false] at h
      subst h
      exact ⟨hc, by simp⟩
  | c :: r, cur, x, h => by
    rw [wordsG_cons] at h
    split at h
    · split at h
      · have := wordsG_mem r [] x h
        exact ⟨this.1, by have := this.2; simp at this ⊢; omega⟩
      · rename_i hc
        rcases List.mem_cons.1 h with rfl | h
        · exact ⟨hc, by simp⟩
        · have := wordsG_mem r [] x h
          exact ⟨this.1, by have := this.2; simp at this ⊢; omega⟩
    · have := wordsG_mem r (cur ++ [c]) x h
      exact ⟨this.1, by have := this.2; simp at this ⊢; omega⟩
theorem wordsG_count : ∀ (l cur : Word), (wordsG cur l).length ≤ l.length + 1
  | [], cur => by rw [wordsG_nil]; split <;> simp
  | c :: r, cur => by
    rw [wordsG_cons]
    split
    · split
      · have := wordsG_count r []; simp; omega
      · have := wordsG_count r []; simp; omega
    · have := wordsG_count r (cur ++ [c]); simp; omega
theorem wordsF_mem {l x : Word} (h : x ∈ wordsF l) : x ≠ [] ∧ x.length ≤ l.length := by
  have := wordsG_mem l [] x h
  simpa using this
theorem wordsF_count (l : Word) : (wordsF l).length ≤ l.length + 1 := wordsG_count l []
end Go.Proofs.YtdmhlhoimaeacaaDoor

/-
  A line is cut into words.
-/
namespace Go.Proofs.YtdmhlhoimaeacaaDoor
open Go.RowKit Go.Lib Go.Shelf
set_option linter.unusedVariables false

theorem f29_walk (x : Nat) (W : World) : Calls Tryd.prog 29 #[.int .i32 x] W fun e w' => e = .returned (.bool (blankR x)) ∧ w' = W := by
  by_cases h1 : x = 32
  · subst h1
    go_enter Tryd.func29, Tryd.ntmps29
    go_wp2_with fail
    go_ret
    exact ⟨rfl, rfl⟩
  · have hb1 : ((x : Int) == 32) = false := by rw [beq_eq_false_iff_ne]; omega
    by_cases h2 : x = 9
    · subst h2
      go_enter Tryd.func29, Tryd.ntmps29
      go_wp2_with fail
      go_ret
      exact ⟨rfl, rfl⟩
    · have hb2 : ((x : Int) == 9) = false := by rw [beq_eq_false_iff_ne]; omega
      have hb : blankR x = false := by unfold blankR; simp [h1, h2]
      rw [hb]
      go_enter Tryd.func29, Tryd.ntmps29
      go_wp2_with fail
      go_ret
      exact ⟨rfl, rfl⟩
theorem f29_pred (w : World) : PredAt Tryd.prog 29 #[] encR blankR w := fun W x _ => by
  refine Calls.mono (f29_walk x W) ?_
  rintro e w' ⟨rfl, rfl⟩
  exact ⟨rfl, 0, rfl⟩
/-- A line's words, in a row of their own. -/
theorem words_walk (s : ByteArray) (w : World) (hs : s.size ≤ 4000000000) :
    Calls Tryd.prog 28 #[.string s, .func (.func 29) #[] #[]] w fun e w' => ∃ A, e = .returned (.slice (some ⟨A, 0, none⟩) (wordsF s.data.toList).length (wordsF s.data.toList).length) ∧ WordsAt w' (some ⟨A, 0, none⟩) (wordsF s.data.toList) ∧ Below w.heap.size w w' := by
  refine Calls.mono (Tryd.strings_FieldsFunc 29 #[] (enters_of Tryd.func29 (by kernel_rfl) rfl) blankR s w (by omega) (f29_pred w)) ?_
  rintro e w' ⟨A, rfl, hA, hrow, hb⟩
  rw [fields_count, fields_values] at hrow
  refine ⟨A, by rw [fields_count], .inr ⟨A, 0, rfl, fun i hi => ?_⟩, hb⟩
  have h := hrow.cellAt i (by omega)
  rw [Nat.zero_add, h]
  simp only [List.getElem?_map, List.getD]
  rw [List.getElem?_eq_getElem hi]
  rfl
end Go.Proofs.YtdmhlhoimaeacaaDoor

/-
  A text is read: where the reading starts (memory), and a step of it (plain). No walk.
-/
namespace Go.Proofs.YtdmhlhoimaeacaaDoor
open Go.RowKit Go.Maps
set_option linter.unusedVariables false

/-- A new reader. -/
theorem rdr_new {N : Nat} {w : World} {g m : Nat} (hg : w.heap[g]? = some (.cells #[.slice none 0 0, .slice none 0 0, .slice none 0 0, .int .i64 0, .map (some m), .bool false] 73 (0, 0))) (hm : MapF w m 0 (namesF Scr.empty)) (h1 : N ≤ g) (h2 : N ≤ m) : RdrP w N g m ⟨Scr.empty, false⟩ := by
  have hgl := (Array.getElem?_eq_some_iff.1 hg).1
  have hrow : RowsS w N 62 58 (.slice none 0 0) (.slice none 0 0) (.slice none 0 0) (fun _ => .slice none 0 0) Scr.empty :=
    ⟨⟨rfl, .inl ⟨rfl, rfl⟩⟩, ⟨rfl, .inl ⟨rfl, rfl⟩⟩, ⟨rfl, .inl ⟨rfl, rfl⟩⟩, (fun i hi => by cases hi), (fun i j hi => by cases hi)⟩
  have hlim : Lim Scr.empty := ⟨by decide, by decide, by decide, (fun i hi => by cases hi)⟩
  exact ⟨.slice none 0 0, .slice none 0 0, .slice none 0 0, (fun _ => .slice none 0 0), ⟨hg, hrow, hlim, h1, by omega⟩, hm, h2⟩
/-- A step of the reading. -/
theorem read_step (st : Rdg) (n : Nat) (c : UInt8) (r : Word) :
    readG st n (linesF (c :: r).length (c :: r)) = if mute (wordsF (lineOf (c :: r)).1) then readG st (n + 1) (linesF r.length (lineOf (c :: r)).2) else
      if (lineF st (wordsF (lineOf (c :: r)).1)).1 = 0 then readG (lineF st (wordsF (lineOf (c :: r)).1)).2 (n + 1) (linesF r.length (lineOf (c :: r)).2) else ((lineF st (wordsF (lineOf (c :: r)).1)).1, n, Scr.empty) := by
  show readG st n (linesF (r.length + 1) (c :: r)) = _
  rw [linesF, readG]
/-- Fuel beyond the length is idle. -/
theorem lines_fuel : ∀ (f f' : Nat) (t : Word), t.length ≤ f → t.length ≤ f' → linesF f t = linesF f' t
  | 0, f', t, h, _ => by
    have : t = [] := List.eq_nil_of_length_eq_zero (by omega)
    subst this
    cases f' <;> rfl
  | f + 1, 0, t, _, h => by
    have : t = [] := List.eq_nil_of_length_eq_zero (by omega)
    subst this
    rfl
  | f + 1, f' + 1, [], _, _ => rfl
  | f + 1, f' + 1, c :: r, h, h' => by
    have hl := lineOf_lt c r
    simp only [List.length_cons] at h h' hl
    rw [linesF, linesF, lines_fuel f f' (lineOf (c :: r)).2 (by omega) (by omega)]
end Go.Proofs.YtdmhlhoimaeacaaDoor

/-
  The results of the reader of a text: a cell's struct and two temporaries. No walk.
-/
namespace Go.Proofs.YtdmhlhoimaeacaaDoor
open Go.RowKit Go.Maps
set_option linter.unusedVariables false
theorem load_scr {W : World} {rb : Nat} {pa pb pc : Option Addr} {na ca nb cb nc cc : Nat} {k : Int} (h : W.heap[rb]? = some (.cells #[.slice pa na ca, .slice pb nb cb, .slice pc nc cc, .int .i64 k] 27 (0, 0))) :
    (loadVar 27 ⟨rb, 0, none⟩).run Tryd.prog W = .ok (.agg #[.slice pa na ca, .slice pb nb cb, .slice pc nc cc, .int .i64 k]) W := by
  have h0 : W.cell? ⟨rb, 0, none⟩ = _ := cell_of h 0
  have h1 : W.cell? ⟨rb, 1, none⟩ = _ := cell_of h 1
  have h2 : W.cell? ⟨rb, 2, none⟩ = _ := cell_of h 2
  have h3 : W.cell? ⟨rb, 3, none⟩ = _ := cell_of h 3
  simp at h0 h1 h2 h3
  simp [loadVar, go_sem, h0, h1, h2, h3]
theorem results_cell_tmp2 {fn : Func} {p u v : Tmp} {ty : TypeId} (h : fn.results = #[.cell p ty, .tmp u, .tmp v]) (tmps : Array Value) (P : Program) (w : World) (z : Value) (x : Addr) (hp : tmps.getD p undef = .pointer (some x)) (hl : (loadVar ty x).run P w = .ok z w) :
    (results fn tmps).run P w = .ok (.tuple #[z, tmps.getD u undef, tmps.getD v undef]) w := by
  have hp' : tmps[p]?.getD undef = .pointer (some x) := by simpa using hp
  simp [results, h, Result.andThen, hp', asAddr, hl]
end Go.Proofs.YtdmhlhoimaeacaaDoor

/-
  The program's reader of a text (f11).
-/
namespace Go.Proofs.YtdmhlhoimaeacaaDoor
open Go.RowKit Go.Maps
set_option linter.unusedVariables false

theorem names_empty : namesF Scr.empty = fun _ => none := by
  funext kl
  cases kl <;> first | rfl | simp [namesF, Scr.empty]
theorem Env.high {N M : Nat} {w w1 : World} (h : Env N w) (hb : Below N w w1) (hM : N ≤ M) (hs : M ≤ w1.heap.size) : Env M w1 := by
  have h1 := h.below hb (by have := hb.size; omega)
  exact ⟨fun w2 h2 => h1.tab w2 (h2.mono hM), h1.rng, h1.len, by have := h1.low; omega, hs⟩
/-- What the reader of a text answers. -/
def ParseD (N : Nat) (r : Int × Nat × Scr) (w : World) (e : Ending) (w' : World) : Prop :=
  ∃ tv hv sv V, e = .returned (.tuple #[.agg #[tv, hv, sv, .int .i64 r.2.2.most], .int .i64 (r.2.1 : Int), .int .i64 r.1]) ∧ RowsS w' (N + 1) 62 58 tv hv sv V r.2.2 ∧ Lim r.2.2 ∧ Below N w w'

theorem store_scr {W : World} {B rb : Nat} {w0 : World} {cs : Array Value} (h : W.heap[rb]? = some (.cells cs 27 (0, 0))) (hcs : cs.size = 4) (hb : Below B w0 W) (hB : B ≤ rb) (k a b c : Value) :
    (((((W.setCell ⟨rb, 0, none⟩ k).setCell ⟨rb, 1, none⟩ a).setCell ⟨rb, 2, none⟩ b).setCell ⟨rb, 3, none⟩ c).heap[rb]? = some (.cells #[k, a, b, c] 27 (0, 0))) ∧
    Below B w0 ((((W.setCell ⟨rb, 0, none⟩ k).setCell ⟨rb, 1, none⟩ a).setCell ⟨rb, 2, none⟩ b).setCell ⟨rb, 3, none⟩ c) := by
  refine ⟨?_, (((hb.setCell hB _).setCell hB _).setCell hB _).setCell hB _⟩
  rw [set_at (set_at (set_at (set_at h 0 k) 1 a) 2 b) 3 c]
  obtain ⟨l⟩ := cs
  match l, hcs with
  | [_, _, _, _], _ => rfl
theorem rows_set {w : World} {N rb i : Nat} {tv hv sv : Value} {V : Nat → Value} {S : Scr} {c : Array Value} (h : RowsS w N 62 58 tv hv sv V S) (hb : w.heap[rb]? = some (.cells c 27 (0, 0))) (v : Value) : RowsS (w.setCell ⟨rb, i, none⟩ v) N 62 58 tv hv sv V S :=
  ⟨own_head h.tops hb (grown_set _ _ _ _) (by decide), own_head h.sch hb (grown_set _ _ _ _) (by decide), own_head h.thrs hb (grown_set _ _ _ _) (by decide), fun i hi => own_head (h.each i hi) hb (grown_set _ _ _ _) (by decide), h.apart⟩
def strSize : Value → Nat
  | .string b => b.size
  | _ => 0
/-- The world in which the reading starts. -/
def startW (w : World) : World := ((w.alloc (.cells #[.slice none 0 0, .slice none 0 0, .slice none 0 0, .int .i64 0] 27)).alloc (.map #[] 0)).alloc (.cells #[.slice none 0 0, .slice none 0 0, .slice none 0 0, .int .i64 0, .map (some (w.heap.size + 1)), .bool false] 73)
theorem start_facts {N : Nat} {w : World} (hE : Env N w) : RdrP (startW w) (w.heap.size + 1) (w.heap.size + 2) (w.heap.size + 1) ⟨Scr.empty, false⟩ ∧
    (startW w).heap[w.heap.size]? = some (.cells #[.slice none 0 0, .slice none 0 0, .slice none 0 0, .int .i64 0] 27 (0, 0)) ∧ Below w.heap.size w (startW w) ∧ Env (w.heap.size + 1) (startW w) := by
  have hs1 : (w.alloc (.cells #[.slice none 0 0, .slice none 0 0, .slice none 0 0, .int .i64 0] 27)).heap.size = w.heap.size + 1 := by simp
  have hs2 : ((w.alloc (.cells #[.slice none 0 0, .slice none 0 0, .slice none 0 0, .int .i64 0] 27)).alloc (.map #[] 0)).heap.size = w.heap.size + 2 := by simp
  have hs3 : (startW w).heap.size = w.heap.size + 3 := by simp [startW]
  have b1 : Below w.heap.size w (w.alloc (.cells #[.slice none 0 0, .slice none 0 0, .slice none 0 0, .int .i64 0] 27)) := (Below.refl _ _).alloc (Nat.le_refl _) _
  have b2 := b1.alloc b1.size (.map #[] 0)
  have b3 : Below w.heap.size w (startW w) := b2.alloc b2.size _
  have hg := heap_alloc_new ((w.alloc (.cells #[.slice none 0 0, .slice none 0 0, .slice none 0 0, .int .i64 0] 27)).alloc (.map #[] 0)) (.cells #[.slice none 0 0, .slice none 0 0, .slice none 0 0, .int .i64 0, .map (some (w.heap.size + 1)), .bool false] 73)
  rw [hs2] at hg
  have hm := (mapF_new (w.alloc (.cells #[.slice none 0 0, .slice none 0 0, .slice none 0 0, .int .i64 0] 27))).alloc (.cells #[.slice none 0 0, .slice none 0 0, .slice none 0 0, .int .i64 0, .map (some (w.heap.size + 1)), .bool false] 73)
  rw [hs1, ← names_empty] at hm
  refine ⟨rdr_new hg hm (by omega) (by omega), ?_, b3, hE.high (b3.mono hE.nw) (by have := hE.nw; omega) (by omega)⟩
  exact (Below.heap_alloc _ _ _ (by omega)).trans ((Below.heap_alloc _ _ _ (by omega)).trans (heap_alloc_new w _))
set_option maxRecDepth 100000 in
set_option maxHeartbeats 8000000 in
theorem parse_walk (N : Nat) (s : ByteArray) (w : World) (hE : Env N w) (hs : s.size ≤ 4000000000) :
    Calls Tryd.prog 11 #[.string s] w (ParseD w.heap.size (parseF s.data.toList) w) := by
  have HE := Lib.hid hE
  have HP : Hid (readG ⟨Scr.empty, false⟩ 1 (linesF s.data.toList.length s.data.toList) = parseF s.data.toList) := Lib.hid rfl
  generalize parseF s.data.toList = pf at *
  clear hE
  have hmk : ∀ W : World, (Instr.makeMap 71 none).run Tryd.prog W = .ok (.map (some W.heap.size)) (W.alloc (.map #[] 0)) := fun W => rfl
  go_enter Tryd.func11, Tryd.ntmps11
  obtain ⟨hR, hRB, hB, hE3⟩ := start_facts HE.out
  have HR := Lib.hid hR
  have HRB := Lib.hid hRB
  have HB := Lib.hid hB
  have HE3 := Lib.hid hE3
  clear hR hRB hB hE3
  go_upto_region 2 with fail
  rw [show ((w.alloc (.cells #[.slice none 0 0, .slice none 0 0, .slice none 0 0, .int .i64 0] 27)).alloc (.map #[] 0)).alloc (.cells #[.slice none 0 0, .slice none 0 0, .slice none 0 0, .int .i64 0, .map (some (w.heap.size + 1)), .bool false] 73) = startW w from rfl]
  generalize startW w = w3 at *
  have HWE : Hid (w.heap.size = w.heap.size) := rfl
  generalize hrb : w.heap.size = rb at *
  have HRBE := Lib.hid hrb
  clear hrb hmk
  go_wp2_with fail
  go_loopw [0, 6] (fun tv nv wr => ∃ (t : Word) (n : Nat) (st : Rdg), tv = .string ⟨t.toArray⟩ ∧ nv = .int .i64 n ∧ 1 ≤ n ∧ n + t.length ≤ 4000000001 ∧ readG st n (linesF t.length t) = pf ∧ RdrP wr (rb + 1) (rb + 2) (rb + 1) st ∧ Below (rb + 1) w3 wr) (fun tv _ _ => strSize tv)
  case atStart => exact ⟨s.data.toList, 1, ⟨Scr.empty, false⟩, rfl, rfl, Nat.le_refl _, by have : s.data.toList.length = s.size := Array.length_toList; omega, HP.out, HR.out, Below.refl _ _⟩
  case round =>
    obtain ⟨t, n, st, rfl, rfl, hn1, hn, hrd, hr, hlow⟩ := hrel
    have HRr := Lib.hid hr
    have HLOW := Lib.hid hlow
    have HRD := Lib.hid hrd
    have HEr : Hid (Env (rb + 1) wr) := Lib.hid (HE3.out.below hlow hlow.size)
    clear hr hlow hrd
    cases t with
    | nil =>
      have HPF : Hid (pf = (0, 0, st.s)) := Lib.hid (by rw [← HRD.out]; rfl)
      obtain ⟨tv, hv, sv, V, hS, hM, hm⟩ := HRr.out
      obtain ⟨pa, ca, rfl⟩ := own_slice hS.rows.tops
      obtain ⟨pb, cb, rfl⟩ := own_slice hS.rows.thrs
      obtain ⟨pc, cc, rfl⟩ := own_slice hS.rows.sch
      obtain ⟨d0, d1, d2, d3, d4, d5, fz⟩ := hS.cell
      have HS := Lib.hid hS
      have HRB5 := Lib.hid ((HLOW.out.block rb (Nat.lt_succ_self rb)).trans HRB.out)
      have r0 := (cell_of HRB5.out 0).trans rfl
      have r1 := (cell_of HRB5.out 1).trans rfl
      have r2 := (cell_of HRB5.out 2).trans rfl
      have r3 := (cell_of HRB5.out 3).trans rfl
      have r4 := free_of HRB5.out
      clear hS hM HRD HRr d4 d5 fz
      go_wp2_with fail
      have hst := store_scr HRB5.out rfl (HB.out.trans (HLOW.out.mono (Nat.le_succ rb))) (Nat.le_refl _) (.slice pa st.s.tops.length ca) (.slice pb st.s.thrs.length cb) (.slice pc st.s.sch.length cc) (.int .i64 st.s.most)
      have g0 := set_at HRB5.out 0 (.slice pa st.s.tops.length ca)
      have g1 := set_at g0 1 (.slice pb st.s.thrs.length cb)
      have g2 := set_at g1 2 (.slice pc st.s.sch.length cc)
      refine bodyPost_ret (results_cell_tmp2 (fn := Tryd.f11) (p := 2) (u := 3) (v := 4) (ty := 27) rfl _ _ _ _ ⟨rb, 0, none⟩ rfl (load_scr hst.1)) rfl ?_
      rw [HPF.out]
      exact ⟨_, _, _, V, rfl, rows_set (rows_set (rows_set (rows_set HS.out.rows HRB5.out _) g0 _) g1 _) g2 _, HS.out.lim, hst.2⟩
    | cons c r =>
      obtain ⟨m0, hm0⟩ := HEr.out.len
      have hln := line_len (c :: r)
      have hlt := lineOf_lt c r
      have HCUT : Hid (Calls Tryd.prog 27 #[.string ⟨(c :: r).toArray⟩, .string ⟨#[10]⟩] wr fun e w' => ∃ b, e = .returned (.tuple #[.string ⟨(lineOf (c :: r)).1.toArray⟩, .string ⟨(lineOf (c :: r)).2.toArray⟩, .bool b]) ∧ ∃ n, w' = wr.drewN n) := Lib.hid (by
        refine Calls.mono (Tryd.strings_Cut ⟨(c :: r).toArray⟩ ⟨#[10]⟩ m0 wr (by rw [size_mk]; omega) hm0) ?_
        rintro e w' ⟨rfl, k, rfl⟩
        have h := cut_line (c :: r)
        refine ⟨(Lib.cut (c :: r) [10]).2.2, ?_, k, rfl⟩
        rw [← h.1, ← h.2])
      have HST : Hid (pf = if mute (wordsF (lineOf (c :: r)).1) then readG st (n + 1) (linesF (lineOf (c :: r)).2.length (lineOf (c :: r)).2) else
          if (lineF st (wordsF (lineOf (c :: r)).1)).1 = 0 then readG (lineF st (wordsF (lineOf (c :: r)).1)).2 (n + 1) (linesF (lineOf (c :: r)).2.length (lineOf (c :: r)).2) else ((lineF st (wordsF (lineOf (c :: r)).1)).1, n, Scr.empty)) := Lib.hid (by
        rw [← HRD.out, read_step, lines_fuel r.length (lineOf (c :: r)).2.length _ (by simp only [List.length_cons] at hlt; omega) (Nat.le_refl _)])
      generalize (lineOf (c :: r)).1 = ln at *
      generalize (lineOf (c :: r)).2 = rs at *
      clear HRD hm0
      go_wp2_with fail
      refine HCUT.out.mono ?_
      rintro e w1 ⟨b, rfl, nn, rfl⟩
      have HB1 := Lib.hid (below_drewN (Below.refl wr.heap.size wr) nn)
      generalize wr.drewN nn = w1 at *
      have HWW : Hid (Calls Tryd.prog 28 #[.string ⟨ln.toArray⟩, .func (.func 29) #[] #[]] w1 fun e w' => ∃ A, e = .returned (.slice (some ⟨A, 0, none⟩) (wordsF ln).length (wordsF ln).length) ∧ WordsAt w' (some ⟨A, 0, none⟩) (wordsF ln) ∧ Below w1.heap.size w1 w') := Lib.hid (words_walk ⟨ln.toArray⟩ w1 (by rw [size_mk]; omega))
      go_wp2_with fail
      refine HWW.out.mono ?_
      rintro e w2 ⟨A, rfl, hwat, hb2⟩
      have HWAT := Lib.hid hwat
      have HB2 : Hid (Below wr.heap.size wr w2) := Lib.hid (HB1.out.trans (hb2.mono HB1.out.size))
      have HLX : Hid (Below (rb + 1) w3 w2) := Lib.hid (HLOW.out.trans (HB2.out.mono HEr.out.nw))
      have HRX := Lib.hid (HRr.out.below HB2.out)
      have HEX := Lib.hid (HEr.out.up HB2.out)
      have hmem := fun x (h : x ∈ wordsF ln) => wordsF_mem h
      have HMEM := Lib.hid hmem
      have hcnt := wordsF_count ln
      clear hwat hb2 hmem HWW HCUT
      generalize wordsF ln = wd at *
      have hn1' : (n : Int) ≤ 4000000001 := by omega
      go_upto_region 8 with fail
      cases wd with
      | nil =>
        have HST2 : Hid (readG st (n + 1) (linesF rs.length rs) = pf) := Lib.hid (by have h := HST.out; rw [if_pos (show mute [] = true from rfl)] at h; exact h.symm)
        go_wp2_with fail
        go_roundw
        case rel => exact ⟨rs, n + 1, st, rfl, by go_num, by omega, by simp only [List.length_cons] at hlt hn; omega, HST2.out, HRX.out, HLX.out⟩
        case measure => simp only [strSize, size_mk]; exact hlt
      | cons x ws =>
        obtain ⟨xc, xr, rfl⟩ : ∃ xc xr, x = xc :: xr := by
          cases x with
          | nil => exact absurd rfl (HMEM.out [] (by simp)).1
          | cons a b => exact ⟨a, b, rfl⟩
        have c0 : w2.cell? ⟨A, 0, none⟩ = some (.string ⟨(xc :: xr).toArray⟩) := by
          obtain ⟨g', o', e', h'⟩ := HWAT.out.resolve_left (by simp)
          cases e'
          exact h' 0 (by simp)
        have hx0 : 0 < (xc :: xr).length := by simp
        have hw1 : ((((xc :: xr) :: ws).length : Int) == 0) = false := by rw [beq_eq_false_iff_ne]; simp; omega
        have hw0 : 0 < ((xc :: xr) :: ws).length := by simp
        by_cases hxc : xc.toNat = 35
        · have hb : ((((ByteArray.mk (xc :: xr).toArray)[0]'(by simp [ByteArray.size])).toNat : Int) == 35) = true := by
            show ((xc.toNat : Int) == 35) = true
            rw [beq_iff_eq]; omega
          have hmu : mute ((xc :: xr) :: ws) = true := by
            show ((xc :: xr).head? == some 35) = true
            simp only [List.head?_cons, beq_iff_eq, Option.some.injEq]
            exact (u8_eq _ 35 (by omega)).2 hxc
          have HST2 : Hid (readG st (n + 1) (linesF rs.length rs) = pf) := Lib.hid (by have h := HST.out; rw [if_pos hmu] at h; exact h.symm)
          clear hmu hxc
          generalize ((xc :: xr) :: ws).length = nw at *
          go_wp2_with fail
          go_roundw
          case rel => exact ⟨rs, n + 1, st, rfl, by go_num, by omega, by simp only [List.length_cons] at hlt hn; omega, HST2.out, HRX.out, HLX.out⟩
          case measure => simp only [strSize, size_mk]; exact hlt
        · have hb : ((((ByteArray.mk (xc :: xr).toArray)[0]'(by simp [ByteArray.size])).toNat : Int) == 35) = false := by
            show ((xc.toNat : Int) == 35) = false
            rw [beq_eq_false_iff_ne]; omega
          have hmu : ¬ mute ((xc :: xr) :: ws) = true := by
            show ¬ ((xc :: xr).head? == some 35) = true
            simp only [List.head?_cons, beq_iff_eq, Option.some.injEq]
            exact fun e => hxc ((u8_eq _ 35 (by omega)).1 e)
          have HST2 : Hid (pf = if (lineF st ((xc :: xr) :: ws)).1 = 0 then readG (lineF st ((xc :: xr) :: ws)).2 (n + 1) (linesF rs.length rs) else ((lineF st ((xc :: xr) :: ws)).1, n, Scr.empty)) := Lib.hid (by have h := HST.out; rw [if_neg hmu] at h; exact h)
          have HLINE := Lib.hid (line_walk (rb + 1) (rb + 2) (rb + 1) st (some ⟨A, 0, none⟩) ((xc :: xr) :: ws) ((xc :: xr) :: ws).length w2 HEX.out HRX.out HWAT.out (fun y hy => by have := (HMEM.out y hy).2; omega) (by simp) (fun y hy => (HMEM.out y hy).1) (Nat.le_refl _) (by omega))
          clear hmu hxc
          generalize lineF st ((xc :: xr) :: ws) = q at *
          generalize ((xc :: xr) :: ws).length = nw at *
          go_wp2_with fail
          refine HLINE.out.mono ?_
          rintro e w5 ⟨rfl, hr5, hb5⟩
          have HR5 := Lib.hid hr5
          have HL5 : Hid (Below (rb + 1) w3 w5) := Lib.hid (HLX.out.trans hb5)
          clear hr5 hb5 c0
          by_cases hq : q.1 = 0
          · have HST3 : Hid (readG q.2 (n + 1) (linesF rs.length rs) = pf) := Lib.hid (by rw [HST2.out, if_pos hq])
            have hqb : (q.1 != 0) = false := by rw [hq]; rfl
            generalize q.1 = q1 at *
            go_wp2_with fail
            go_roundw
            case rel => exact ⟨rs, n + 1, q.2, rfl, by go_num, by omega, by simp only [List.length_cons] at hlt hn; omega, HST3.out, HR5.out, HL5.out⟩
            case measure => simp only [strSize, size_mk]; exact hlt
          · have HPF : Hid (pf = (q.1, n, Scr.empty)) := Lib.hid (by rw [HST2.out, if_neg hq])
            have hqb : (q.1 != 0) = true := by simp [hq]
            have HRB5 := Lib.hid ((HL5.out.block rb (Nat.lt_succ_self rb)).trans HRB.out)
            have r0 := (cell_of HRB5.out 0).trans rfl
            have r1 := (cell_of HRB5.out 1).trans rfl
            have r2 := (cell_of HRB5.out 2).trans rfl
            have r3 := (cell_of HRB5.out 3).trans rfl
            have r4 := free_of HRB5.out
            generalize q.1 = q1 at *
            go_wp2_with fail
            have hst := store_scr HRB5.out rfl (HB.out.trans (HL5.out.mono (Nat.le_succ rb))) (Nat.le_refl _) (.slice none 0 0) (.slice none 0 0) (.slice none 0 0) (.int .i64 0)
            refine bodyPost_ret (results_cell_tmp2 (fn := Tryd.f11) (p := 2) (u := 3) (v := 4) (ty := 27) rfl _ _ _ _ ⟨rb, 0, none⟩ rfl (load_scr hst.1)) rfl ?_
            rw [HPF.out]
            exact ⟨.slice none 0 0, .slice none 0 0, .slice none 0 0, (fun _ => .slice none 0 0), rfl, ⟨⟨rfl, .inl ⟨rfl, rfl⟩⟩, ⟨rfl, .inl ⟨rfl, rfl⟩⟩, ⟨rfl, .inl ⟨rfl, rfl⟩⟩, (fun i hi => by cases hi), (fun i j hi => by cases hi)⟩, ⟨Nat.zero_le _, Nat.zero_le _, Nat.zero_le _, (fun i hi => by cases hi)⟩, hst.2⟩
end Go.Proofs.YtdmhlhoimaeacaaDoor
