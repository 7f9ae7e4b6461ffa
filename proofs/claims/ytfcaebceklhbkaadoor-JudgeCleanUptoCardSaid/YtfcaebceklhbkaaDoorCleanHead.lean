/-
  The law JudgeClean (f9): its memory.
-/
import Derived.Test.YtfcaebceklhbkaaDoorCleanMem
import Derived.Deep.DeepCutAuto
import Derived.Deep.CutBlock
import Derived.Lib.AppendZeros
namespace Go.Proofs.YtfcaebceklhbkaaDoor
open Go.RowKit
set_option linter.unusedVariables false

theorem info73 : (Tryd.prog.info? 73).map (fun i => (i.zero, i.size, i.bytes)) = some (some (.agg #[.int .i64 0, .int .i64 0, .int .i64 0]), 3, 24) := by kernel_rfl
theorem info75 : (Tryd.prog.info? 75).map (fun i => (i.zero, i.size, i.bytes)) = some (some (.agg #[.int .i64 0, .int .i64 0, .int .i64 0, .int .i64 0]), 4, 32) := by kernel_rfl
theorem info56 : (Tryd.prog.info? 56).map (fun i => (i.zero, i.size, i.bytes)) = some (some (.slice none 0 0), 1, 24) := by kernel_rfl

/-- The numbers of the four writers. -/
def NumAt (w : World) (nb : Nat) (T : List Itm) (i : Nat) : Prop := ∃ cs : Array Value, w.heap[nb]? = some (.cells cs 71 (0, 0)) ∧ cs.size = 4 ∧ ∀ k : Nat, k < 4 → cs[k]? = some (.int .i64 ((cntA T (k : Int) i : Nat) : Int))
/-- The memory of the loop of items. -/
structure ItSt (w0 : World) (N nb : Nat) (f : Nat → Int) (v : Value) (i : Nat) (wr : World) : Prop where
  row : wr.ownsRow N 73 3 v i (icells (itemsF f i))
  num : NumAt wr nb (itemsF f i) i
  low : Below N w0 wr
  nw : N ≤ wr.heap.size
  hnb : N ≤ nb
theorem ItSt.step {w0 wr w1 : World} {N nb k : Nat} {f : Nat → Int} {v v' : Value} {i : Nat} {o : Obj} (h : ItSt w0 N nb f v i wr) (hk : f i % 4 = (k : Int)) (hk4 : k < 4)
    (ha : Appended (wr.alloc o) N 73 3 v i 1 (icells (itemsF f i) ++ Itm.cells ⟨(k : Int), ((cntA (itemsF f i) (k : Int) i : Nat) : Int), (i : Int) * 3⟩) v' w1) :
    w1.cell? ⟨nb, k, none⟩ = some (.int .i64 ((cntA (itemsF f i) (k : Int) i : Nat) : Int)) ∧ w1.frozen? ⟨nb, k, none⟩ = false ∧
    ItSt w0 N nb f v' (i + 1) (w1.setCell ⟨nb, k, none⟩ (.int .i64 (((cntA (itemsF f i) (k : Int) i : Nat) : Int) + 1))) := by
  obtain ⟨h1, h2, _⟩ := ha
  obtain ⟨cs, hc1, hc2, hc3⟩ := h.num
  have hs := h2.size
  simp at hs
  have hnblt := (Array.getElem?_eq_some_iff.1 hc1).1
  have hkd := Lib.ownsRow_kind h.row
  have hne : v.ownBlock ≠ some nb := by
    intro e
    obtain ⟨c, fz, hx⟩ := hkd nb e
    rw [hc1] at hx
    cases hx
  have hb1 : w1.heap[nb]? = some (.cells cs 71 (0, 0)) := (h2.block nb (by simp; omega) (fun e => hne e.symm)).trans ((Below.heap_alloc _ _ _ hnblt).trans hc1)
  have hg : w1.grownBy (w1.setCell ⟨nb, k, none⟩ (.int .i64 (((cntA (itemsF f i) (k : Int) i : Nat) : Int) + 1))) (some nb) := ⟨rfl, rfl, rfl, by simp [World.setCell], fun q _ hq => Below.heap_setCell _ _ _ _ (fun e => hq (by simp [e]))⟩
  refine ⟨(cell_of hb1 k).trans (hc3 k hk4), free_of hb1 k, ?_, ⟨cs.setIfInBounds k _, set_at hb1 k _, by simpa using hc2, fun j hj => ?_⟩, ?_, by simp [World.setCell]; have := h.nw; omega, h.hnb⟩
  · have e : icells (itemsF f (i + 1)) = icells (itemsF f i) ++ Itm.cells ⟨(k : Int), ((cntA (itemsF f i) (k : Int) i : Nat) : Int), (i : Int) * 3⟩ := by
      simp only [itemsF, icells_snoc, hk]
    rw [e]
    refine h1.kept hg ?_
    cases hv : v'.ownBlock with
    | none => exact .inl rfl
    | some g =>
      right
      intro e2
      obtain ⟨c, fz, hx⟩ := Lib.ownsRow_kind h1 g hv
      cases e2
      rw [hb1] at hx
      cases hx
  · rw [cntA_step]
    by_cases hjk : j = k
    · subst hjk
      rw [Array.getElem?_setIfInBounds_self_of_lt (by omega), if_pos hk]
      simp
    · rw [Array.getElem?_setIfInBounds_ne (by omega), hc3 j hj, if_neg (by rw [hk]; omega), Nat.add_zero]
  · exact ((h.low.alloc h.nw o).grown h2 (by have := h.nw; simp; omega) (fun q hq => (h.row.lt q hq).1)).setCell h.hnb _

/-- The run that a byte asks for. -/
def runOf (T : List Itm) (n : Nat) (x : Int) : List Seen4 := runL T (x % n).toNat ((n : Int) - x % 3 - x % n).toNat
theorem runOf_run {T : List Itm} {n : Nat} {x : Int} (hl : T.length = n) (hn : 0 < n) (hx : 0 ≤ x) : (x % n).toNat + ((n : Int) - x % 3 - x % n).toNat ≤ T.length := by
  have h1 := Int.emod_nonneg x (show (n : Int) ≠ 0 by omega)
  have h2 := Int.emod_lt_of_pos x (show (0 : Int) < n by omega)
  have h3 := Int.emod_nonneg x (show (3 : Int) ≠ 0 by omega)
  generalize x % n = y at *
  omega
/-- The memory of the loop of readers. -/
structure RdSt (w0 : World) (N n : Nat) (T : List Itm) (g : Nat → Int) (iv : Value) (j : Nat) (v : Value) (A : Nat → Option Addr) (C : Nat → Nat) (wr : World) : Prop where
  its : wr.ownsRow N 73 3 iv n (icells T)
  row : wr.ownsRow N 56 1 v j ((List.range j).map fun r => .slice (A r) (runOf T n (g r)).length (C r))
  each : ∀ r, r < j → wr.ownsRow N 75 4 (.slice (A r) (runOf T n (g r)).length (C r)) (runOf T n (g r)).length (scells (runOf T n (g r)))
  low : Below N w0 wr
  nw : N ≤ wr.heap.size
theorem RdSt.step {w0 ws wi w1 : World} {N n : Nat} {T : List Itm} {g : Nat → Int} {iv v v' : Value} {j c : Nat} {A : Nat → Option Addr} {C : Nat → Nat} {a : Option Addr} {o : Obj} (h : RdSt w0 N n T g iv j v A C ws) (hb : Below ws.heap.size ws wi)
    (hi : wi.ownsRow ws.heap.size 75 4 (.slice a (runOf T n (g j)).length c) (runOf T n (g j)).length (scells (runOf T n (g j))))
    (ha : Appended (wi.alloc o) N 56 1 v j 1 (((List.range j).map fun r => Value.slice (A r) (runOf T n (g r)).length (C r)) ++ [.slice a (runOf T n (g j)).length c]) v' w1) :
    RdSt w0 N n T g iv (j + 1) v' (fun r => if r = j then a else A r) (fun r => if r = j then c else C r) w1 := by
  obtain ⟨h1, h2, _⟩ := ha
  have hrow := (own_below h.row hb).alloc o
  have hs := h2.size
  simp at hs
  have hsz := hb.size
  have hnw := h.nw
  have e : (List.range (j + 1)).map (fun r => Value.slice (if r = j then a else A r) (runOf T n (g r)).length (if r = j then c else C r)) = ((List.range j).map fun r => Value.slice (A r) (runOf T n (g r)).length (C r)) ++ [.slice a (runOf T n (g j)).length c] := by
    rw [List.range_succ, List.map_append]
    congr 1
    · refine List.map_congr_left fun r hr => ?_
      have : r ≠ j := by have := List.mem_range.1 hr; omega
      simp [this]
    · simp
  refine ⟨own_other ((own_below h.its hb).alloc o) hrow h2 (by decide), by rw [e]; exact h1, fun r hr => ?_, ?_, by omega⟩
  · rcases Nat.lt_or_ge r j with h3 | h3
    · have hne : r ≠ j := by omega
      simp only [if_neg hne]
      exact own_other ((own_below (h.each r h3) hb).alloc o) hrow h2 (by decide)
    · obtain rfl : r = j := by omega
      simp only [if_true]
      exact own_other ((own_base hi hnw).alloc o) hrow h2 (by decide)
  · exact ((h.low.trans (hb.mono hnw)).alloc (by omega) o).grown h2 (by simp; omega) (fun q hq => (hrow.lt q hq).1)

theorem all0_walk (ro : Option Addr) (nr rc : Nat) (A : Nat → Option Addr) (C : Nat → Nat) (R : Nat → List Seen4) (io : Option Addr) (ni ci : Nat) (T : List Itm) (W : World) (h : Readers W ro nr A C R) (hnr : nr ≤ 300000000000) (htot : tot R nr ≤ 300000000000)
    (h1 : ItemRow W io T) (hst : Small3 T) (hTn : T.length = ni) (hni : ni ≤ 300000000000) (hcl : allF R nr T = []) :
    Calls Tryd.prog 32 #[.slice ro nr rc, .slice io ni ci] W fun e w' => ∃ a c, e = .returned (.slice a 0 c) ∧ Below W.heap.size W w' :=
  (all_walk ro nr rc A C R io ni ci T W h hnr htot h1 hst hTn hni).mono fun e w' ⟨v, he, hr, hb⟩ => by
    rw [hcl] at hr
    rcases hr.2 with ⟨rfl, _⟩ | ⟨g, cap, _, rfl, _⟩
    · exact ⟨_, _, he, hb⟩
    · exact ⟨_, _, he, hb⟩
theorem runOf_length {T : List Itm} {n : Nat} {x : Int} (hn : 0 < n) (hx : 0 ≤ x) : (runOf T n x).length ≤ n := by
  have h1 := Int.emod_nonneg x (show (n : Int) ≠ 0 by omega)
  have h3 := Int.emod_nonneg x (show (3 : Int) ≠ 0 by omega)
  unfold runOf
  rw [runL_length]
  generalize x % n = y at *
  omega
theorem RdSt.readers {w0 wr : World} {N n j rc : Nat} {T : List Itm} {g : Nat → Int} {iv : Value} {ro : Option Addr} {A : Nat → Option Addr} {C : Nat → Nat} (h : RdSt w0 N n T g iv j (.slice ro j rc) A C wr) (hT : T.length = n) (hS : Small3 T) (hn : n ≤ 4000000) (h0 : j = 0 ∨ 0 < n) (hg : ∀ r, r < j → 0 ≤ g r) :
    Readers wr ro j A C (fun r => runOf T n (g r)) ∧ ∀ r, r < j → ∃ p, RunFrom T p (runOf T n (g r)) := by
  refine ⟨⟨?_, fun r hr => ⟨seen_row rfl (h.each r hr), ?_⟩⟩, fun r hr => ?_⟩
  · rcases h.row.2 with ⟨e, h1⟩ | ⟨q, cap, cur, e, _⟩
    · exact .inl h1
    · cases e
      refine .inr ⟨q, 0, rfl, fun r hr => ?_⟩
      have := h.row.cellAt r (by omega)
      rw [Nat.zero_add, this]
      simp [hr]
  · have := runOf_run (T := T) (x := g r) hT (by omega) (hg r hr)
    exact runL_small hS (by omega) this
  · exact ⟨_, runL_run (runOf_run (T := T) (x := g r) hT (by omega) (hg r hr))⟩

theorem bad_row {w : World} {M m : Nat} {v : Value} {X B : List Seen4} (h : w.ownsRow M 75 4 v m (scells X)) (e : B = X) : w.ownsRow M 75 4 v B.length (scells B) := by
  subst e
  have h1 := h.1
  rw [scells_length] at h1
  have h2 : B.length = m := by omega
  rw [h2]
  exact h

/-! The readers anew, one of them with a slip. -/
theorem small4_mem {S : List Seen4} : Small4 S ↔ ∀ e ∈ S, In64 e.q ∧ In64 e.a ∧ In64 e.b ∧ In64 e.d := by
  constructor
  · intro h e he
    obtain ⟨i, hi, rfl⟩ := List.getElem_of_mem he
    have := h i hi
    simp only [List.getD, List.getElem?_eq_getElem hi, Option.getD_some] at this
    exact this
  · intro h i hi
    have := h _ (List.getElem_mem hi)
    simp only [List.getD, List.getElem?_eq_getElem hi, Option.getD_some]
    exact this
theorem slip_mem {L : List Seen4} {k : Nat} {x : Seen4} (hk : k + 1 < L.length) (c : Nat) : ∀ e ∈ slip L k x c, e ∈ L ∨ e = x := by
  have hg : ∀ i, i < L.length → L.getD i default ∈ L := fun i hi => by
    simp only [List.getD, List.getElem?_eq_getElem hi, Option.getD_some]
    exact List.getElem_mem hi
  intro e he
  match c with
  | 0 =>
    simp only [slip, List.mem_append] at he
    rcases he with h | h
    · exact .inl (List.mem_of_mem_take h)
    · exact .inl (List.mem_of_mem_drop h)
  | 1 =>
    simp only [slip, List.mem_append, List.mem_singleton] at he
    rcases he with (h | h) | h
    · exact .inl (List.mem_of_mem_take h)
    · subst h; exact .inl (hg k (by omega))
    · exact .inl (List.mem_of_mem_drop h)
  | 2 =>
    simp only [slip, List.mem_append, List.mem_singleton] at he
    rcases he with (h | h) | h
    · exact .inl (List.mem_of_mem_take h)
    · exact .inr h
    · exact .inl (List.mem_of_mem_drop h)
  | c + 3 =>
    simp only [slip, List.mem_append, List.mem_singleton] at he
    rcases he with ((h | h) | h) | h
    · exact .inl (List.mem_of_mem_take h)
    · subst h; exact .inl (hg (k + 1) (by omega))
    · subst h; exact .inl (hg k (by omega))
    · exact .inl (List.mem_of_mem_drop h)
/-- Reader r's place is taken by another. -/
def placeAt {α : Type} (f : Nat → α) (r : Nat) (y : α) : Nat → α := fun i => if i = r then y else f i
theorem placeAt_same {α : Type} (f : Nat → α) (r : Nat) (y : α) : placeAt f r y r = y := if_pos rfl
theorem placeAt_ne {α : Type} (f : Nat → α) {r i : Nat} (y : α) (h : i ≠ r) : placeAt f r y i = f i := if_neg h
/-- The memory of the loop that lays the readers anew. -/
structure OutSt (wb : World) (A : Nat → Option Addr) (C : Nat → Nat) (R : Nat → List Seen4) (i : Nat) (v : Value) (wr : World) : Prop where
  row : wr.ownsRow wb.heap.size 56 1 v i ((List.range i).map fun x => Value.slice (A x) (R x).length (C x))
  low : Below wb.heap.size wb wr
theorem OutSt.step {wb wr w1 : World} {A : Nat → Option Addr} {C : Nat → Nat} {R : Nat → List Seen4} {i : Nat} {v v' : Value} {o : Obj} (h : OutSt wb A C R i v wr)
    (ha : Appended (wr.alloc o) wb.heap.size 56 1 v i 1 (((List.range i).map fun x => Value.slice (A x) (R x).length (C x)) ++ [.slice (A i) (R i).length (C i)]) v' w1) : OutSt wb A C R (i + 1) v' w1 := by
  obtain ⟨h1, h2, _⟩ := ha
  have hs := h.low.size
  refine ⟨by rw [List.range_succ, List.map_append]; exact h1, (h.low.alloc hs o).grown h2 (by simp; omega) (fun q hq => (h.row.lt q hq).1)⟩
theorem OutSt.readers {wb wr : World} {A : Nat → Option Addr} {C : Nat → Nat} {R : Nat → List Seen4} {j rc : Nat} {ro : Option Addr} (h : OutSt wb A C R j (.slice ro j rc) wr) (hR : ∀ r, r < j → SeenRow wb (A r) (R r) ∧ Small4 (R r)) : Readers wr ro j A C R := by
  refine ⟨?_, fun r hr => ⟨(hR r hr).1.below h.low, (hR r hr).2⟩⟩
  rcases h.row.2 with ⟨e, h1⟩ | ⟨q, cap, cur, e, _⟩
  · exact .inl h1
  · cases e
    refine .inr ⟨q, 0, rfl, fun r hr => ?_⟩
    have := h.row.cellAt r (by omega)
    rw [Nat.zero_add, this]
    simp [hr]
/-- Is one of the first i faults reader r's? -/
def toldAt (F : List Flt) (r : Int) (i : Nat) : Bool := (F.take i).any fun f => f.r == r
theorem toldAt_zero (F : List Flt) (r : Int) : toldAt F r 0 = false := by simp [toldAt]
theorem toldAt_succ {F : List Flt} {r : Int} {i : Nat} (h : i < F.length) : toldAt F r (i + 1) = (toldAt F r i || (F.getD i default).r == r) := by
  unfold toldAt
  rw [List.take_succ_eq_append_getElem h, List.any_append]
  simp [List.getD, List.getElem?_eq_getElem h]
theorem toldAt_all {F : List Flt} {r : Int} (h : ∃ g, g ∈ F ∧ g.r = r) : toldAt F r F.length = true := by
  obtain ⟨g, hg, e⟩ := h
  unfold toldAt
  rw [List.take_length, List.any_eq_true]
  exact ⟨g, hg, by simp [e]⟩
theorem fcells_get1 : ∀ (F : List Flt) (j c : Nat), j < F.length → c < 5 → (fcells F)[j * 5 + c]? = (F[j]?.elim [] Flt.cells)[c]?
  | [], j, c, h, _ => by simp at h
  | f :: F, 0, c, _, hc => by
    unfold fcells
    rw [List.flatMap_cons, List.getElem?_append_left (by simp [Flt.cells]; omega)]
    simp
  | f :: F, j + 1, c, h, hc => by
    have := fcells_get1 F j c (by simpa using h) hc
    unfold fcells at this ⊢
    rw [List.flatMap_cons, List.getElem?_append_right (by simp [Flt.cells]; omega), show (j + 1) * 5 + c - f.cells.length = j * 5 + c by simp [Flt.cells]; omega, this]
    simp
theorem told_step {F : List Flt} {r : Int} {i : Nat} (h : i < F.length) : ∃ f, (fcells F)[i * 5 + 1]? = some (.int .i64 f) ∧ toldAt F r (i + 1) = (toldAt F r i || f == r) := by
  refine ⟨F[i].r, ?_, ?_⟩
  · rw [fcells_get1 F i 1 h (by omega), List.getElem?_eq_getElem h]
    rfl
  · unfold toldAt
    rw [List.take_succ_eq_append_getElem h, List.any_append]
    simp
/-- A row of what was seen, grown: the blocks beside it stay. -/
theorem app_seen2 {w : World} {M n m : Nat} {v x : Value} {X Y : List Seen4} (hM : M ≤ w.heap.size) (h : w.ownsRow M 75 4 v n (scells X)) (hx : SrcOf w 4 x m (scells Y)) (hn : n ≤ 4000000) (hm : m ≤ 4000000) :
    ∃ v' w', (Builtin.append_ #[56, 56] 56 #[v, x]).run Tryd.prog w = .ok v' w' ∧ w'.ownsRow M 75 4 v' (n + m) (scells (X ++ Y)) ∧ Below M w w' ∧ ∀ b, b < w.heap.size → v.ownBlock ≠ some b → w'.heap[b]? = w.heap[b]? := by
  have info75 : (Tryd.prog.info? 75).map (fun i => (i.zero, i.size, i.bytes)) = some (some (.agg #[.int .i64 0, .int .i64 0, .int .i64 0, .int .i64 0]), 4, 32) := by kernel_rfl
  obtain ⟨i, hi, hz, hs, hb⟩ := info_parts info75
  obtain ⟨v', w', hr, h1, h2, _⟩ := run_append_row (P := Tryd.prog) w M 56 56 75 i _ 4 32 Tryd.underlying56 hi hz hs (by decide) hb rfl v n _ h x m _ hx (by unfold maxLen; omega) (by omega) hM
  exact ⟨v', w', hr, by rw [scells_append]; exact h1, (Below.refl _ _).grown h2 hM (fun q hq => (h.lt q hq).1), fun b hb hne => h2.block b hb (fun e => hne e.symm)⟩
theorem allF_len (R : Nat → List Seen4) (nr : Nat) (T : List Itm) : (allF R nr T).length ≤ 4 * tot R nr := by
  have h1 := allAt_length R T nr
  have h2 := samAt_length R nr
  simp only [allF, List.length_append]
  omega
end Go.Proofs.YtfcaebceklhbkaaDoor
