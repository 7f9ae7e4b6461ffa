/-
  Merged out of: Flags Load Limit Lean Wait Wait2 New104 New Waits. No condition of its own.
-/
import Derived.Test.YtimkkeomdkbcjaaPlaysP10
import Derived.Deep.RegionWith
import Derived.Test.YtimkkeomdkbcjaaPlaysP08
set_option linter.unusedVariables false
set_option linter.unusedSimpArgs false
/-
  Contracts of the flag's and the barrier's alarm functions, and of a source's Load, over the memory of a barrier (Mem).
-/
namespace Go.Proofs.Ytimkkeomdkbcjaa
open Go.RowKit
variable {Y : Lay} {al : Bool} {a : Nat → Nat} {n : Nat} {w : World}
def Done (Y : Lay) (v : Value) (al : Bool) (a : Nat → Nat) (n : Nat) (w : World) (e : Ending) (w' : World) : Prop := e = .returned v ∧ Mem Y al a n w' ∧ Below Y.N w w'
end Go.Proofs.Ytimkkeomdkbcjaa

/-
  The contract of a source's Load (rising.Load), over the memory of a barrier, with and without a stepper.
-/
namespace Go.Proofs.Ytimkkeomdkbcjaa
open Go.RowKit
variable {Y : Lay} {al : Bool} {a : Nat → Nat} {n : Nat} {w : World}
end Go.Proofs.Ytimkkeomdkbcjaa

/-
  The contract of the barrier's Limit over sources of the statement's own: the least of the numbers that the sources tell, each loaded once.
-/
namespace Go.Proofs.Ytimkkeomdkbcjaa
open Go.RowKit
variable {Y : Lay} {al : Bool} {a : Nat → Nat} {n : Nat} {w : World}
def lim (f : Nat → Int) : Nat → Int
  | 0 => f 0
  | j + 1 => if f (j + 1) < lim f j then f (j + 1) else lim f j
def bump (a : Nat → Nat) (j : Nat) : Nat → Nat := fun i => if i < j then a i + 1 else a i
def next (Y : Lay) (a : Nat → Nat) (i : Nat) : Int := told (Y.L i) (a i + 1)
theorem bump_succ (a : Nat → Nat) (j : Nat) : (fun i => if i = j then bump a j j + 1 else bump a j i) = bump a (j + 1) := by
  funext i
  simp only [bump, Nat.lt_irrefl, if_false]
  by_cases e : i = j
  · subst e; simp
  · simp only [e, if_false]
    by_cases l : i < j
    · simp [l, show i < j + 1 by omega]
    · simp [l, show ¬ i < j + 1 by omega]
theorem bump_at (a : Nat → Nat) (j : Nat) : bump a j j = a j := by simp [bump]
theorem bump_zero (a : Nat → Nat) : bump a 0 = a := by funext i; simp [bump]
theorem arr_cell (h : Mem Y al a n w) {i : Nat} (hi : i < Y.k) : w.cell? ⟨Y.sa, i, none⟩ = some (.iface 27 (.pointer (some ⟨Y.r i, 0, none⟩))) := by
  obtain ⟨cs, h1, h2⟩ := h.arr (by omega)
  rw [cell_of h1, h2 i hi]
theorem bar_cell (h : Mem Y al a n w) (hk : 0 < Y.k) : w.cell? ⟨Y.bb, 0, none⟩ = some (.slice (some ⟨Y.sa, 0, none⟩) Y.k Y.cap) := by rw [cell_of h.bar, ← h.sl hk]; rfl
theorem lim_min (f : Nat → Int) (j : Nat) : (if f (j + 1) < lim f j then f (j + 1) else lim f j) = lim f (j + 1) := rfl
end Go.Proofs.Ytimkkeomdkbcjaa

/-
  The contract of the barrier's wait for one source behind the other (Barrier.lean), the alarm not raised.
-/
namespace Go.Proofs.Ytimkkeomdkbcjaa
open Go.RowKit
variable {Y : Lay} {al : Bool} {a : Nat → Nat} {n : Nat} {w : World}
def upd (a : Nat → Nat) (j : Nat) : Nat → Nat := fun i => if i = j then a j + 1 else a i
def leanR (Y : Lay) (q : Int) : Nat → Nat → Nat → Int → (Nat → Nat) → Int × Int × (Nat → Nat) × Nat
  | 0, i, _, _, a => (0, 4, a, i)
  | t + 1, i, j, m, a =>
    if next Y a j < q then leanR Y q t (i + 1) j m (upd a j)
    else if j + 1 = Y.k then (if j = 0 ∨ next Y a j < m then next Y a j else m, 0, upd a j, i + 1)
    else leanR Y q t (i + 1) (j + 1) (if j = 0 ∨ next Y a j < m then next Y a j else m) (upd a j)
def DoneL (Y : Lay) (R : Int × Int × (Nat → Nat) × Nat) (al : Bool) (n d : Nat) (w : World) (e : Ending) (w' : World) : Prop :=
  e = .returned (.tuple #[.int .i64 R.1, .int .i64 R.2.1]) ∧ Mem Y al R.2.2.1 (n + 2 * R.2.2.2 * d) w' ∧ Below Y.N w w'
theorem upd_le {a b : Nat → Nat} {i j : Nat} (h : ∀ x, a x ≤ b x + i) : ∀ x, upd a j x ≤ b x + (i + 1) := by
  intro x
  unfold upd
  split
  · rename_i e; subst e; have := h x; omega
  · have := h x; omega
end Go.Proofs.Ytimkkeomdkbcjaa

/-
  The contract of the barrier's Wait, the alarm not raised, and raised; and without sources.
-/
namespace Go.Proofs.Ytimkkeomdkbcjaa
open Go.RowKit
variable {Y : Lay} {al : Bool} {a : Nat → Nat} {n : Nat} {w : World}
def waitR (Y : Lay) (rare : Bool) (q : Int) : Nat → Nat → Nat → (Nat → Nat) → Int × Int × (Nat → Nat) × Nat × Nat
  | 0, i, s, a => (0, 4, a, s, i)
  | t + 1, i, s, a =>
    if q ≤ lim (next Y a) (Y.k - 1) then (lim (next Y a) (Y.k - 1), 0, bump a Y.k, s + (if rare = false ∨ i % 8 = 0 then 1 else 0) + Y.k, i + 1)
    else waitR Y rare q t (i + 1) (s + (if rare = false ∨ i % 8 = 0 then 1 else 0) + Y.k) (bump a Y.k)
def DoneW (Y : Lay) (R : Int × Int × (Nat → Nat) × Nat × Nat) (al : Bool) (n d : Nat) (w : World) (e : Ending) (w' : World) : Prop :=
  e = .returned (.tuple #[.int .i64 R.1, .int .i64 R.2.1]) ∧ Mem Y al R.2.2.1 (n + R.2.2.2.1 * d) w' ∧ Below Y.N w w'
def clamp (x : Int) : Nat := if x < 1 then 1 else if 1024 < x then 1024 else x.toNat
theorem clamp_le (x : Int) : 1 ≤ clamp x ∧ clamp x ≤ 1024 := by unfold clamp; split <;> (try split) <;> omega
theorem bump_le {a b : Nat → Nat} {i k : Nat} (h : ∀ x, a x ≤ b x + i) : ∀ x, bump a k x ≤ b x + (i + 1) := by
  intro x
  unfold bump
  split <;> (have := h x; omega)
end Go.Proofs.Ytimkkeomdkbcjaa

/-
  The contract of the barrier's Wait: the lean way; a way that is none; no sources; the alarm raised. And what a nil or an empty barrier answers.
-/
namespace Go.Proofs.Ytimkkeomdkbcjaa
open Go.RowKit
variable {Y : Lay} {al : Bool} {a : Nat → Nat} {n : Nat} {w : World}
end Go.Proofs.Ytimkkeomdkbcjaa

/-
  The contract of barrier.New: the sources that are not the nil interface, in order, in a row of the call's own.
-/
namespace Go.Proofs.Ytimkkeomdkbcjaa.W104
open Go.RowKit
theorem info32 : (Try.prog.info? 32).map (fun i => (i.zero, i.size, i.bytes)) = some (some .nilIface, 1, 16) := by kernel_rfl
def SrcV (x : Value) : Prop := x = .nilIface ∨ ∃ r, x = .iface 104 (.pointer (some ⟨r, 0, none⟩))
def isSrc : Value → Bool | .nilIface => false | _ => true
def srcs (X : List Value) : List Value := X.filter isSrc
theorem srcs_take {X : List Value} {j : Nat} (hj : j < X.length) : srcs (X.take (j + 1)) = srcs (X.take j) ++ (if isSrc (X.getD j .nilIface) then [X.getD j .nilIface] else []) := by
  rw [List.take_succ_eq_append_getElem hj]
  simp only [srcs, List.filter_append, List.filter_cons, List.filter_nil, List.getD_eq_getElem?_getD, List.getElem?_eq_getElem hj, Option.getD_some]
def DoneNew (F : List Value) (w : World) (e : Ending) (w' : World) : Prop :=
  ∃ bb v, e = .returned (.pointer (some ⟨bb, 0, none⟩)) ∧ w.heap.size ≤ bb ∧ w'.heap[bb]? = some (.cells #[v, .int .u32 0] 54 (0, 0)) ∧ w'.ownsRow w.heap.size 32 1 v F.length F ∧ Below w.heap.size w w'
theorem own_shape {w : World} {base e n : Nat} {v : Value} {xs : List Value} (h : w.ownsRow base e 1 v n xs) (hn : 0 < n) :
    ∃ g cap cur, v = .slice (some ⟨g, 0, none⟩) n cap ∧ base ≤ g ∧ n ≤ cap ∧ w.heap[g]? = some (.cells cur e (0, 0)) := by
  rcases h.2 with ⟨_, h0⟩ | ⟨g, cap, cur, rfl, hb, hg, hc, _⟩
  · omega
  · exact ⟨g, cap, cur, rfl, hb, hc, hg⟩
theorem new_step {w0 wr w1 : World} {bb g13 c13 n : Nat} {v v' : Value} {X F : List Value} {x : Value} {N : Nat}
    (hbb : wr.heap[bb]? = some (.cells #[v, .int .u32 0] 54 (0, 0))) (hown : wr.ownsRow N 32 1 v F.length F) (h13 : wr.ownsRow N 32 1 (.slice (some ⟨g13, 0, none⟩) n c13) n X)
    (hne : v.ownBlock ≠ some g13) (hB : Below N w0 wr) (hN : N ≤ bb) (hNw : N ≤ wr.heap.size)
    (ha : Appended (wr.alloc (.cells #[x] 32)) N 32 v F.length 1 (F ++ [x]) v' w1) :
    ∃ g cap, v' = .slice (some ⟨g, 0, none⟩) (F.length + 1) cap ∧ v'.ownBlock ≠ some g13 ∧ w1.heap[bb]? = some (.cells #[v, .int .u32 0] 54 (0, 0)) ∧ (w1.setCell ⟨bb, 0, none⟩ v').heap[bb]? = some (.cells #[v', .int .u32 0] 54 (0, 0)) ∧ (w1.setCell ⟨bb, 0, none⟩ v').ownsRow N 32 1 v' (F ++ [x]).length (F ++ [x]) ∧
      (w1.setCell ⟨bb, 0, none⟩ v').ownsRow N 32 1 (.slice (some ⟨g13, 0, none⟩) n c13) n X ∧ Below N w0 (w1.setCell ⟨bb, 0, none⟩ v') ∧ N ≤ (w1.setCell ⟨bb, 0, none⟩ v').heap.size := by
  obtain ⟨hown1, hg1, hsh⟩ := ha
  have hlt : bb < wr.heap.size := (Array.getElem?_eq_some_iff.1 hbb).1
  have hvb : some bb ≠ v.ownBlock := by
    intro e
    rcases hown.2 with ⟨rfl, _⟩ | ⟨g, cap, cur, rfl, _, hgg, _⟩
    · simp [Value.ownBlock] at e
    · simp [Value.ownBlock] at e
      subst e
      rw [hbb] at hgg; simp at hgg
  have h1 : w1.heap[bb]? = some (.cells #[v, .int .u32 0] 54 (0, 0)) := by
    rw [hg1.block bb (by simp; omega) hvb, Below.heap_alloc _ _ _ hlt]; exact hbb
  have h2 := set_at h1 0 v'
  simp at h2
  have h13' : w1.ownsRow N 32 1 (.slice (some ⟨g13, 0, none⟩) n c13) n X := (h13.alloc _).kept hg1 (.inr (by simpa [Value.ownBlock] using fun e => hne e.symm))
  have other : ∀ (u : Value) (m : Nat) (ys : List Value), w1.ownsRow N 32 1 u m ys → (w1.setCell ⟨bb, 0, none⟩ v').ownsRow N 32 1 u m ys := by
    intro u m ys hu
    refine ownsRow_setCell_other hu ?_ v'
    intro e
    rcases hu.2 with ⟨rfl, _⟩ | ⟨g, cap, cur, rfl, _, hgg, _⟩
    · simp [Value.ownBlock] at e
    · simp [Value.ownBlock] at e
      subst e
      rw [h1] at hgg; simp at hgg
  rcases hsh with ⟨_, _, h0, _⟩ | ⟨g, cap, rfl, hcap, hwhere⟩
  · cases h0
  · refine ⟨g, cap, rfl, ?_, h1, h2, ?_, other _ _ _ h13', ?_, ?_⟩
    · simp only [Value.ownBlock, ne_eq, Option.some.injEq]
      rcases hwhere with hw | hw
      · rintro rfl; exact hne hw
      · rintro rfl
        have := (h13.lt g rfl).2
        simp at hw
        omega
    · have := other _ _ _ hown1
      simpa using this
    · exact ((hB.alloc hNw _).grown hg1 (by simp; omega) (fun k hk => (hown.lt k hk).1)).setCell hN _
    · have := hg1.size
      simp at this
      simp [World.setCell]
      omega
structure Head (w0 : World) (N bb g13 c13 : Nat) (X : List Value) (j : Nat) (v : Value) (wr : World) : Prop where
  bar : wr.heap[bb]? = some (.cells #[v, .int .u32 0] 54 (0, 0))
  own : wr.ownsRow N 32 1 v (srcs (X.take j)).length (srcs (X.take j))
  all : wr.ownsRow N 32 1 (.slice (some ⟨g13, 0, none⟩) X.length c13) X.length X
  ne : v.ownBlock ≠ some g13
  low : Below N w0 wr
  nb : N ≤ bb
  nw : N ≤ wr.heap.size
theorem Head.skip {w0 : World} {N bb g13 c13 : Nat} {X : List Value} {j : Nat} {v : Value} {wr : World} (h : Head w0 N bb g13 c13 X j v wr) (hj : j < X.length) (hx : X.getD j .nilIface = .nilIface) : Head w0 N bb g13 c13 X (j + 1) v wr := by
  refine { h with own := ?_ }
  rw [srcs_take hj, hx]
  simpa [isSrc] using h.own
theorem Head.took {w0 : World} {N bb g13 c13 : Nat} {X : List Value} {j : Nat} {v v' : Value} {wr w1 : World} (h : Head w0 N bb g13 c13 X j v wr) (hj : j < X.length) (r : Nat) (hx : X.getD j .nilIface = .iface 104 (.pointer (some ⟨r, 0, none⟩)))
    (ha : Appended (wr.alloc (.cells #[.iface 104 (.pointer (some ⟨r, 0, none⟩))] 32)) N 32 v (srcs (X.take j)).length 1 (srcs (X.take j) ++ [.iface 104 (.pointer (some ⟨r, 0, none⟩))]) v' w1) :
    ∃ g cap, v' = .slice (some ⟨g, 0, none⟩) ((srcs (X.take j)).length + 1) cap ∧ w1.cell? ⟨bb, 0, none⟩ = some v ∧ w1.frozen? ⟨bb, 0, none⟩ = false ∧ Head w0 N bb g13 c13 X (j + 1) v' (w1.setCell ⟨bb, 0, none⟩ v') := by
  obtain ⟨g, cap, h1, h2, h3, h4, h5, h6, h7, h8⟩ := new_step h.bar h.own h.all h.ne h.low h.nb h.nw ha
  refine ⟨g, cap, h1, by rw [cell_of h3]; rfl, free_of h3 0, h4, ?_, h6, h2, h7, h.nb, h8⟩
  rw [srcs_take hj, hx]
  simpa [isSrc] using h5
theorem Head.elem {w0 : World} {N bb g13 c13 : Nat} {X : List Value} {j : Nat} {v : Value} {wr : World} (h : Head w0 N bb g13 c13 X j v wr) (hj : j < X.length) : wr.cell? ⟨g13, j, none⟩ = some (X.getD j .nilIface) := by
  rw [h.all.cellAt j (by omega)]
  simp [List.getD_eq_getElem?_getD, List.getElem?_eq_getElem hj]
set_option maxRecDepth 100000 in
set_option maxHeartbeats 1000000 in
theorem new_nil (B : Value) (Bs : List Value) (w : World) (hB : SrcOf w B Bs.length Bs) (hS : ∀ x ∈ Bs, SrcV x) (hlen : Bs.length ≤ 1000000) :
    Calls Try.prog 10 #[.nilIface, B] w (DoneNew (srcs (.nilIface :: Bs)) w) := by
  obtain ⟨i0, hi, hz0, hz1, hz2⟩ := info_parts info32
  have HS : Hid (∀ j, j < (.nilIface :: Bs).length → SrcV ((.nilIface :: Bs).getD j .nilIface)) := by
    intro j hj
    rw [List.getD_eq_getElem?_getD, List.getElem?_eq_getElem hj, Option.getD_some]
    rcases List.mem_cons.1 (List.getElem_mem hj) with h | h
    · rw [h]; exact .inl rfl
    · exact hS _ h
  have HB := Lib.hid hB
  clear hS hB
  have HO : Hid (∀ o : Obj, ((w.alloc o).alloc (.cells #[.nilIface] 32)).ownsRow w.heap.size 32 1 (.slice (some ⟨w.heap.size + 1, 0, none⟩) 1 1) 1 [.nilIface]) := by
    intro o
    have := World.ownsRow_lit (base := w.heap.size) (e := 32) (size := 1) (w.alloc o) #[.nilIface] 1 (by simp) (by decide) rfl
    simpa using this
  have HS2 : Hid (∀ o o' : Obj, SrcOf ((w.alloc o).alloc o') B Bs.length Bs) := by
    intro o o'
    obtain ⟨h1, h2, h3⟩ := HB.out
    refine ⟨h1, h2, ?_⟩
    rcases h3 with h3 | ⟨ad, c, rfl, h4⟩
    · exact .inl h3
    · refine .inr ⟨ad, c, rfl, fun j u hu => ?_⟩
      have hb : (ad.add j).block < w.heap.size := World.block_lt_of_cell? w _ (h4 j u hu)
      rw [World.cell?_of_block (w := w)]
      · exact h4 j u hu
      · rw [Below.heap_alloc _ _ _ (by simp; omega), Below.heap_alloc _ _ _ hb]
  have HL : Hid (∀ v13 w1, Appended ((w.alloc (.cells #[.slice none 0 0, .int .u32 0] 54)).alloc (.cells #[.nilIface] 32)) w.heap.size 32 (.slice (some ⟨w.heap.size + 1, 0, none⟩) 1 1) 1 Bs.length ([.nilIface] ++ Bs) v13 w1 →
      ∃ g cap, v13 = .slice (some ⟨g, 0, none⟩) (Bs.length + 1) cap ∧ Bs.length + 1 ≤ cap ∧ Head w w.heap.size w.heap.size g cap (.nilIface :: Bs) 0 (.slice none 0 0) w1) := by
    intro v13 w1 ⟨h1, h2, h3⟩
    have hbar : w1.heap[w.heap.size]? = some (.cells #[.slice none 0 0, .int .u32 0] 54 (0, 0)) := by
      rw [h2.block w.heap.size (by simp; omega) (by simp [Value.ownBlock])]
      rw [Below.heap_alloc _ _ _ (by simp)]
      exact heap_alloc_new w _
    rcases h3 with ⟨_, h, _⟩ | ⟨g, cap, rfl, hc, _⟩
    · cases h
    · refine ⟨g, cap, by rw [Nat.add_comm], by omega, hbar, World.ownsRow_nil _ _ _ _, by simpa [Nat.add_comm] using h1, by simp [Value.ownBlock], ?_, Nat.le_refl _, ?_⟩
      · exact ((((Below.refl _ _).alloc (Nat.le_refl _) _).alloc (by simp) _).grown h2 (by simp; omega) (by simp [Value.ownBlock]))
      · have := h2.size; simp at this; omega
  clear HB
  generalize hb : w.heap.size = b at *
  go_enter Try.func10, Try.ntmps10
  go_wp2_with (at_builtin; go_must (refine wpList_append_row rfl (.tmp 11) (.tmp 12) 25 rfl b 32 i0 .nilIface 16 Try.underlying25 hi hz0 hz1 hz2 rfl (.slice (some ⟨b + 1, 0, none⟩) 1 1) 1 [.nilIface] ?e1 (HO.out _) Bs.length Bs (HS2.out _ _) ?l1 ?b1 ?n1 ?_); go_must (case e1 => (first | rfl | (simp [Act.eval, hb]))); go_must (case l1 => (unfold maxLen; omega)); go_must (case b1 => omega); go_must (case n1 => (first | (simp [hb]; done) | (simp [hb]; omega) | omega)); intro v13 w1 ha; obtain ⟨g13, c13, rfl, hc13, hh⟩ := HL.out _ _ ha)
  go_loopw [15] (fun jv wr => ∃ (j : Nat) (v : Value), j ≤ Bs.length + 1 ∧ jv = .int .i64 j ∧ Head w b b g13 c13 (.nilIface :: Bs) j v wr) (fun jv _ => Bs.length + 1 - (intOf jv).toNat)
  case atStart => exact ⟨0, _, by omega, rfl, hh⟩
  case round =>
    obtain ⟨j, v, hj, rfl, hH⟩ := hrel
    have H1 := Lib.hid hH
    have hbar : wr.cell? ⟨b, 0, none⟩ = some v := by rw [cell_of hH.bar]; rfl
    have hfr := free_of hH.bar 0
    have hle : (srcs ((.nilIface :: Bs).take j)).length ≤ 1000001 := by
      have := List.length_filter_le isSrc ((.nilIface :: Bs).take j)
      have h2 := List.length_take_le j (.nilIface :: Bs)
      unfold srcs; omega
    clear hH
    by_cases hlt : j < Bs.length + 1
    · have hel := H1.out.elem (show j < (.nilIface :: Bs).length by simpa using hlt)
      rcases HS.out j (by simpa using hlt) with hx | ⟨r, hx⟩
      · rw [hx] at hel
        have HX := Lib.hid hx
        clear hx
        go_wp2
        go_roundw
        case rel => exact ⟨j + 1, v, by omega, by go_num, H1.out.skip (by simpa using hlt) HX.out⟩
        case measure => simp [intOf]; omega
      · rw [hx] at hel
        have HX := Lib.hid hx
        clear hx
        have HSx : Hid (SrcOf (wr.alloc (.cells #[.iface 104 (.pointer (some ⟨r, 0, none⟩))] 32)) (.slice (some ⟨wr.heap.size, 0, none⟩) 1 1) 1 [.iface 104 (.pointer (some ⟨r, 0, none⟩))]) :=
          ⟨rfl, by intro u hu; simp at hu; subst hu; rfl, .inr ⟨⟨wr.heap.size, 0, none⟩, 1, rfl, cell_one_new _ _ _⟩⟩
        have HT := Lib.hid (fun v' w1 ha => H1.out.took (v' := v') (w1 := w1) (by simpa using hlt) r HX.out ha)
        have HO2 := Lib.hid (H1.out.own.alloc (.cells #[.iface 104 (.pointer (some ⟨r, 0, none⟩))] 32))
        have HNW := Lib.hid H1.out.nw
        generalize hF : srcs ((.nilIface :: Bs).take j) = F at *
        have HF := Lib.hid hF
        clear hF
        go_wp2_with (at_builtin; go_must (refine wpList_append_row rfl (.tmp 25) (.tmp 27) 25 rfl b 32 i0 .nilIface 16 Try.underlying25 hi hz0 hz1 hz2 rfl v F.length F rfl HO2.out 1 [.iface 104 (.pointer (some ⟨r, 0, none⟩))] HSx.out ?l2 ?b2 ?n2 ?_); go_must (case l2 => (unfold maxLen; omega)); go_must (case b2 => omega); go_must (case n2 => (have := HNW.out; simp; omega)); intro v' w1 ha; go_must (obtain ⟨g, cap, rfl, hcell, hfz, hH2⟩ := HT.out _ _ ha); have HH := Lib.hid hH2; clear hH2 ha)
        go_roundw
        case rel => exact ⟨j + 1, _, by omega, by go_num, HH.out⟩
        case measure => simp [intOf]; omega
    · obtain rfl : j = Bs.length + 1 := by omega
      have HT : Hid ((.nilIface :: Bs).take (Bs.length + 1) = .nilIface :: Bs) := List.take_of_length_le (by simp)
      go_wp2
      go_ret
      have h2 := H1.out.own
      rw [HT.out] at h2
      exact ⟨b, v, rfl, by omega, H1.out.bar, by rw [hb]; exact h2, by rw [hb]; exact H1.out.low⟩
set_option maxRecDepth 100000 in
set_option maxHeartbeats 1000000 in
theorem new_src (r0 : Nat) (B : Value) (Bs : List Value) (w : World) (hB : SrcOf w B Bs.length Bs) (hS : ∀ x ∈ Bs, SrcV x) (hlen : Bs.length ≤ 1000000) :
    Calls Try.prog 10 #[(.iface 104 (.pointer (some ⟨r0, 0, none⟩))), B] w (DoneNew (srcs ((.iface 104 (.pointer (some ⟨r0, 0, none⟩))) :: Bs)) w) := by
  obtain ⟨i0, hi, hz0, hz1, hz2⟩ := info_parts info32
  have HS : Hid (∀ j, j < ((.iface 104 (.pointer (some ⟨r0, 0, none⟩))) :: Bs).length → SrcV (((.iface 104 (.pointer (some ⟨r0, 0, none⟩))) :: Bs).getD j .nilIface)) := by
    intro j hj
    rw [List.getD_eq_getElem?_getD, List.getElem?_eq_getElem hj, Option.getD_some]
    rcases List.mem_cons.1 (List.getElem_mem hj) with h | h
    · rw [h]; exact .inr ⟨r0, rfl⟩
    · exact hS _ h
  have HB := Lib.hid hB
  clear hS hB
  have HO : Hid (∀ o : Obj, ((w.alloc o).alloc (.cells #[(.iface 104 (.pointer (some ⟨r0, 0, none⟩)))] 32)).ownsRow w.heap.size 32 1 (.slice (some ⟨w.heap.size + 1, 0, none⟩) 1 1) 1 [(.iface 104 (.pointer (some ⟨r0, 0, none⟩)))]) := by
    intro o
    have := World.ownsRow_lit (base := w.heap.size) (e := 32) (size := 1) (w.alloc o) #[(.iface 104 (.pointer (some ⟨r0, 0, none⟩)))] 1 (by simp) (by decide) rfl
    simpa using this
  have HS2 : Hid (∀ o o' : Obj, SrcOf ((w.alloc o).alloc o') B Bs.length Bs) := by
    intro o o'
    obtain ⟨h1, h2, h3⟩ := HB.out
    refine ⟨h1, h2, ?_⟩
    rcases h3 with h3 | ⟨ad, c, rfl, h4⟩
    · exact .inl h3
    · refine .inr ⟨ad, c, rfl, fun j u hu => ?_⟩
      have hb : (ad.add j).block < w.heap.size := World.block_lt_of_cell? w _ (h4 j u hu)
      rw [World.cell?_of_block (w := w)]
      · exact h4 j u hu
      · rw [Below.heap_alloc _ _ _ (by simp; omega), Below.heap_alloc _ _ _ hb]
  have HL : Hid (∀ v13 w1, Appended ((w.alloc (.cells #[.slice none 0 0, .int .u32 0] 54)).alloc (.cells #[(.iface 104 (.pointer (some ⟨r0, 0, none⟩)))] 32)) w.heap.size 32 (.slice (some ⟨w.heap.size + 1, 0, none⟩) 1 1) 1 Bs.length ([(.iface 104 (.pointer (some ⟨r0, 0, none⟩)))] ++ Bs) v13 w1 →
      ∃ g cap, v13 = .slice (some ⟨g, 0, none⟩) (Bs.length + 1) cap ∧ Bs.length + 1 ≤ cap ∧ Head w w.heap.size w.heap.size g cap ((.iface 104 (.pointer (some ⟨r0, 0, none⟩))) :: Bs) 0 (.slice none 0 0) w1) := by
    intro v13 w1 ⟨h1, h2, h3⟩
    have hbar : w1.heap[w.heap.size]? = some (.cells #[.slice none 0 0, .int .u32 0] 54 (0, 0)) := by
      rw [h2.block w.heap.size (by simp; omega) (by simp [Value.ownBlock])]
      rw [Below.heap_alloc _ _ _ (by simp)]
      exact heap_alloc_new w _
    rcases h3 with ⟨_, h, _⟩ | ⟨g, cap, rfl, hc, _⟩
    · cases h
    · refine ⟨g, cap, by rw [Nat.add_comm], by omega, hbar, World.ownsRow_nil _ _ _ _, by simpa [Nat.add_comm] using h1, by simp [Value.ownBlock], ?_, Nat.le_refl _, ?_⟩
      · exact ((((Below.refl _ _).alloc (Nat.le_refl _) _).alloc (by simp) _).grown h2 (by simp; omega) (by simp [Value.ownBlock]))
      · have := h2.size; simp at this; omega
  clear HB
  generalize hb : w.heap.size = b at *
  go_enter Try.func10, Try.ntmps10
  go_wp2_with (at_builtin; go_must (refine wpList_append_row rfl (.tmp 11) (.tmp 12) 25 rfl b 32 i0 .nilIface 16 Try.underlying25 hi hz0 hz1 hz2 rfl (.slice (some ⟨b + 1, 0, none⟩) 1 1) 1 [(.iface 104 (.pointer (some ⟨r0, 0, none⟩)))] ?e1 (HO.out _) Bs.length Bs (HS2.out _ _) ?l1 ?b1 ?n1 ?_); go_must (case e1 => (first | rfl | (simp [Act.eval, hb]))); go_must (case l1 => (unfold maxLen; omega)); go_must (case b1 => omega); go_must (case n1 => (first | (simp [hb]; done) | (simp [hb]; omega) | omega)); intro v13 w1 ha; obtain ⟨g13, c13, rfl, hc13, hh⟩ := HL.out _ _ ha)
  go_loopw [15] (fun jv wr => ∃ (j : Nat) (v : Value), j ≤ Bs.length + 1 ∧ jv = .int .i64 j ∧ Head w b b g13 c13 ((.iface 104 (.pointer (some ⟨r0, 0, none⟩))) :: Bs) j v wr) (fun jv _ => Bs.length + 1 - (intOf jv).toNat)
  case atStart => exact ⟨0, _, by omega, rfl, hh⟩
  case round =>
    obtain ⟨j, v, hj, rfl, hH⟩ := hrel
    have H1 := Lib.hid hH
    have hbar : wr.cell? ⟨b, 0, none⟩ = some v := by rw [cell_of hH.bar]; rfl
    have hfr := free_of hH.bar 0
    have hle : (srcs (((.iface 104 (.pointer (some ⟨r0, 0, none⟩))) :: Bs).take j)).length ≤ 1000001 := by
      have := List.length_filter_le isSrc (((.iface 104 (.pointer (some ⟨r0, 0, none⟩))) :: Bs).take j)
      have h2 := List.length_take_le j ((.iface 104 (.pointer (some ⟨r0, 0, none⟩))) :: Bs)
      unfold srcs; omega
    clear hH
    by_cases hlt : j < Bs.length + 1
    · have hel := H1.out.elem (show j < ((.iface 104 (.pointer (some ⟨r0, 0, none⟩))) :: Bs).length by simpa using hlt)
      rcases HS.out j (by simpa using hlt) with hx | ⟨r, hx⟩
      · rw [hx] at hel
        have HX := Lib.hid hx
        clear hx
        go_wp2
        go_roundw
        case rel => exact ⟨j + 1, v, by omega, by go_num, H1.out.skip (by simpa using hlt) HX.out⟩
        case measure => simp [intOf]; omega
      · rw [hx] at hel
        have HX := Lib.hid hx
        clear hx
        have HSx : Hid (SrcOf (wr.alloc (.cells #[.iface 104 (.pointer (some ⟨r, 0, none⟩))] 32)) (.slice (some ⟨wr.heap.size, 0, none⟩) 1 1) 1 [.iface 104 (.pointer (some ⟨r, 0, none⟩))]) :=
          ⟨rfl, by intro u hu; simp at hu; subst hu; rfl, .inr ⟨⟨wr.heap.size, 0, none⟩, 1, rfl, cell_one_new _ _ _⟩⟩
        have HT := Lib.hid (fun v' w1 ha => H1.out.took (v' := v') (w1 := w1) (by simpa using hlt) r HX.out ha)
        have HO2 := Lib.hid (H1.out.own.alloc (.cells #[.iface 104 (.pointer (some ⟨r, 0, none⟩))] 32))
        have HNW := Lib.hid H1.out.nw
        generalize hF : srcs (((.iface 104 (.pointer (some ⟨r0, 0, none⟩))) :: Bs).take j) = F at *
        have HF := Lib.hid hF
        clear hF
        go_wp2_with (at_builtin; go_must (refine wpList_append_row rfl (.tmp 25) (.tmp 27) 25 rfl b 32 i0 .nilIface 16 Try.underlying25 hi hz0 hz1 hz2 rfl v F.length F rfl HO2.out 1 [.iface 104 (.pointer (some ⟨r, 0, none⟩))] HSx.out ?l2 ?b2 ?n2 ?_); go_must (case l2 => (unfold maxLen; omega)); go_must (case b2 => omega); go_must (case n2 => (have := HNW.out; simp; omega)); intro v' w1 ha; go_must (obtain ⟨g, cap, rfl, hcell, hfz, hH2⟩ := HT.out _ _ ha); have HH := Lib.hid hH2; clear hH2 ha)
        go_roundw
        case rel => exact ⟨j + 1, _, by omega, by go_num, HH.out⟩
        case measure => simp [intOf]; omega
    · obtain rfl : j = Bs.length + 1 := by omega
      have HT : Hid (((.iface 104 (.pointer (some ⟨r0, 0, none⟩))) :: Bs).take (Bs.length + 1) = (.iface 104 (.pointer (some ⟨r0, 0, none⟩))) :: Bs) := List.take_of_length_le (by simp)
      go_wp2
      go_ret
      have h2 := H1.out.own
      rw [HT.out] at h2
      exact ⟨b, v, rfl, by omega, H1.out.bar, by rw [hb]; exact h2, by rw [hb]; exact H1.out.low⟩
end Go.Proofs.Ytimkkeomdkbcjaa.W104

/-
  The contract of barrier.New: the sources that are not the nil interface, in order, in a row of the call's own.
-/
namespace Go.Proofs.Ytimkkeomdkbcjaa
open Go.RowKit
theorem info32 : (Try.prog.info? 32).map (fun i => (i.zero, i.size, i.bytes)) = some (some .nilIface, 1, 16) := by kernel_rfl
def SrcV (x : Value) : Prop := x = .nilIface ∨ ∃ r, x = .iface 27 (.pointer (some ⟨r, 0, none⟩))
def isSrc : Value → Bool | .nilIface => false | _ => true
def srcs (X : List Value) : List Value := X.filter isSrc
theorem srcs_take {X : List Value} {j : Nat} (hj : j < X.length) : srcs (X.take (j + 1)) = srcs (X.take j) ++ (if isSrc (X.getD j .nilIface) then [X.getD j .nilIface] else []) := by
  rw [List.take_succ_eq_append_getElem hj]
  simp only [srcs, List.filter_append, List.filter_cons, List.filter_nil, List.getD_eq_getElem?_getD, List.getElem?_eq_getElem hj, Option.getD_some]
def DoneNew (F : List Value) (w : World) (e : Ending) (w' : World) : Prop :=
  ∃ bb v, e = .returned (.pointer (some ⟨bb, 0, none⟩)) ∧ w.heap.size ≤ bb ∧ w'.heap[bb]? = some (.cells #[v, .int .u32 0] 54 (0, 0)) ∧ w'.ownsRow w.heap.size 32 1 v F.length F ∧ Below w.heap.size w w'
theorem own_shape {w : World} {base e n : Nat} {v : Value} {xs : List Value} (h : w.ownsRow base e 1 v n xs) (hn : 0 < n) :
    ∃ g cap cur, v = .slice (some ⟨g, 0, none⟩) n cap ∧ base ≤ g ∧ n ≤ cap ∧ w.heap[g]? = some (.cells cur e (0, 0)) := by
  rcases h.2 with ⟨_, h0⟩ | ⟨g, cap, cur, rfl, hb, hg, hc, _⟩
  · omega
  · exact ⟨g, cap, cur, rfl, hb, hc, hg⟩
theorem new_step {w0 wr w1 : World} {bb g13 c13 n : Nat} {v v' : Value} {X F : List Value} {x : Value} {N : Nat}
    (hbb : wr.heap[bb]? = some (.cells #[v, .int .u32 0] 54 (0, 0))) (hown : wr.ownsRow N 32 1 v F.length F) (h13 : wr.ownsRow N 32 1 (.slice (some ⟨g13, 0, none⟩) n c13) n X)
    (hne : v.ownBlock ≠ some g13) (hB : Below N w0 wr) (hN : N ≤ bb) (hNw : N ≤ wr.heap.size)
    (ha : Appended (wr.alloc (.cells #[x] 32)) N 32 v F.length 1 (F ++ [x]) v' w1) :
    ∃ g cap, v' = .slice (some ⟨g, 0, none⟩) (F.length + 1) cap ∧ v'.ownBlock ≠ some g13 ∧ w1.heap[bb]? = some (.cells #[v, .int .u32 0] 54 (0, 0)) ∧ (w1.setCell ⟨bb, 0, none⟩ v').heap[bb]? = some (.cells #[v', .int .u32 0] 54 (0, 0)) ∧ (w1.setCell ⟨bb, 0, none⟩ v').ownsRow N 32 1 v' (F ++ [x]).length (F ++ [x]) ∧
      (w1.setCell ⟨bb, 0, none⟩ v').ownsRow N 32 1 (.slice (some ⟨g13, 0, none⟩) n c13) n X ∧ Below N w0 (w1.setCell ⟨bb, 0, none⟩ v') ∧ N ≤ (w1.setCell ⟨bb, 0, none⟩ v').heap.size := by
  obtain ⟨hown1, hg1, hsh⟩ := ha
  have hlt : bb < wr.heap.size := (Array.getElem?_eq_some_iff.1 hbb).1
  have hvb : some bb ≠ v.ownBlock := by
    intro e
    rcases hown.2 with ⟨rfl, _⟩ | ⟨g, cap, cur, rfl, _, hgg, _⟩
    · simp [Value.ownBlock] at e
    · simp [Value.ownBlock] at e
      subst e
      rw [hbb] at hgg; simp at hgg
  have h1 : w1.heap[bb]? = some (.cells #[v, .int .u32 0] 54 (0, 0)) := by
    rw [hg1.block bb (by simp; omega) hvb, Below.heap_alloc _ _ _ hlt]; exact hbb
  have h2 := set_at h1 0 v'
  simp at h2
  have h13' : w1.ownsRow N 32 1 (.slice (some ⟨g13, 0, none⟩) n c13) n X := (h13.alloc _).kept hg1 (.inr (by simpa [Value.ownBlock] using fun e => hne e.symm))
  have other : ∀ (u : Value) (m : Nat) (ys : List Value), w1.ownsRow N 32 1 u m ys → (w1.setCell ⟨bb, 0, none⟩ v').ownsRow N 32 1 u m ys := by
    intro u m ys hu
    refine ownsRow_setCell_other hu ?_ v'
    intro e
    rcases hu.2 with ⟨rfl, _⟩ | ⟨g, cap, cur, rfl, _, hgg, _⟩
    · simp [Value.ownBlock] at e
    · simp [Value.ownBlock] at e
      subst e
      rw [h1] at hgg; simp at hgg
  rcases hsh with ⟨_, _, h0, _⟩ | ⟨g, cap, rfl, hcap, hwhere⟩
  · cases h0
  · refine ⟨g, cap, rfl, ?_, h1, h2, ?_, other _ _ _ h13', ?_, ?_⟩
    · simp only [Value.ownBlock, ne_eq, Option.some.injEq]
      rcases hwhere with hw | hw
      · rintro rfl; exact hne hw
      · rintro rfl
        have := (h13.lt g rfl).2
        simp at hw
        omega
    · have := other _ _ _ hown1
      simpa using this
    · exact ((hB.alloc hNw _).grown hg1 (by simp; omega) (fun k hk => (hown.lt k hk).1)).setCell hN _
    · have := hg1.size
      simp at this
      simp [World.setCell]
      omega
structure Head (w0 : World) (N bb g13 c13 : Nat) (X : List Value) (j : Nat) (v : Value) (wr : World) : Prop where
  bar : wr.heap[bb]? = some (.cells #[v, .int .u32 0] 54 (0, 0))
  own : wr.ownsRow N 32 1 v (srcs (X.take j)).length (srcs (X.take j))
  all : wr.ownsRow N 32 1 (.slice (some ⟨g13, 0, none⟩) X.length c13) X.length X
  ne : v.ownBlock ≠ some g13
  low : Below N w0 wr
  nb : N ≤ bb
  nw : N ≤ wr.heap.size
theorem Head.skip {w0 : World} {N bb g13 c13 : Nat} {X : List Value} {j : Nat} {v : Value} {wr : World} (h : Head w0 N bb g13 c13 X j v wr) (hj : j < X.length) (hx : X.getD j .nilIface = .nilIface) : Head w0 N bb g13 c13 X (j + 1) v wr := by
  refine { h with own := ?_ }
  rw [srcs_take hj, hx]
  simpa [isSrc] using h.own
theorem Head.took {w0 : World} {N bb g13 c13 : Nat} {X : List Value} {j : Nat} {v v' : Value} {wr w1 : World} (h : Head w0 N bb g13 c13 X j v wr) (hj : j < X.length) (r : Nat) (hx : X.getD j .nilIface = .iface 27 (.pointer (some ⟨r, 0, none⟩)))
    (ha : Appended (wr.alloc (.cells #[.iface 27 (.pointer (some ⟨r, 0, none⟩))] 32)) N 32 v (srcs (X.take j)).length 1 (srcs (X.take j) ++ [.iface 27 (.pointer (some ⟨r, 0, none⟩))]) v' w1) :
    ∃ g cap, v' = .slice (some ⟨g, 0, none⟩) ((srcs (X.take j)).length + 1) cap ∧ w1.cell? ⟨bb, 0, none⟩ = some v ∧ w1.frozen? ⟨bb, 0, none⟩ = false ∧ Head w0 N bb g13 c13 X (j + 1) v' (w1.setCell ⟨bb, 0, none⟩ v') := by
  obtain ⟨g, cap, h1, h2, h3, h4, h5, h6, h7, h8⟩ := new_step h.bar h.own h.all h.ne h.low h.nb h.nw ha
  refine ⟨g, cap, h1, by rw [cell_of h3]; rfl, free_of h3 0, h4, ?_, h6, h2, h7, h.nb, h8⟩
  rw [srcs_take hj, hx]
  simpa [isSrc] using h5
theorem Head.elem {w0 : World} {N bb g13 c13 : Nat} {X : List Value} {j : Nat} {v : Value} {wr : World} (h : Head w0 N bb g13 c13 X j v wr) (hj : j < X.length) : wr.cell? ⟨g13, j, none⟩ = some (X.getD j .nilIface) := by
  rw [h.all.cellAt j (by omega)]
  simp [List.getD_eq_getElem?_getD, List.getElem?_eq_getElem hj]
end Go.Proofs.Ytimkkeomdkbcjaa

/-
  The chapter's examples (waits) come to true.
-/
namespace Go.Proofs.Ytimkkeomdkbcjaa
open Go.RowKit
theorem told_one (x : Int) (a : Nat) : told [x] a = x := by
  unfold told
  rw [if_neg (by simp)]
  have : min a [x].length - 1 = 0 := by simp; omega
  rw [this]; rfl
theorem one_cell (x : Int) : ∀ j, j < [x].length → (#[Value.int .i64 x] : Array Value)[j]? = some (.int .i64 ([x].getD j 0)) := by
  intro j hj
  obtain rfl : j = 0 := by simp at hj; omega
  rfl
def lay2 (N bb sb sa cap r1 r2 g1 g2 : Nat) (x y : Int) : Lay :=
  { N, bb, sb, sa, sl := .slice (some ⟨sa, 0, none⟩) 2 cap, k := 2, cap, r := fun i => if i = 0 then r1 else r2, ao := fun i => some ⟨if i = 0 then g1 else g2, 0, none⟩, c := fun _ => 1, L := fun i => if i = 0 then [x] else [y] }
theorem next2 (N bb sb sa cap r1 r2 g1 g2 : Nat) (x y : Int) (a : Nat → Nat) (i : Nat) : next (lay2 N bb sb sa cap r1 r2 g1 g2 x y) a i = if i = 0 then x else y := by
  simp only [next, lay2]
  split <;> exact told_one _ _
theorem mem2 {W w' : World} {N bb : Nat} {v : Value} {r1 r2 g1 g2 : Nat} {x y : Int}
    (h1 : W.heap[r1]? = some (.cells #[.slice (some ⟨g1, 0, none⟩) 1 1, .int .i64 0] 30 (0, 0))) (h2 : W.heap[r2]? = some (.cells #[.slice (some ⟨g2, 0, none⟩) 1 1, .int .i64 0] 30 (0, 0)))
    (k1 : W.heap[g1]? = some (.cells #[.int .i64 x] 2 (0, 0))) (k2 : W.heap[g2]? = some (.cells #[.int .i64 y] 2 (0, 0))) (hne : r1 ≠ r2)
    (hx : -9223372036854775808 ≤ x ∧ x ≤ 9223372036854775807) (hy : -9223372036854775808 ≤ y ∧ y ≤ 9223372036854775807)
    (hbb : W.heap.size ≤ bb) (hb : w'.heap[bb]? = some (.cells #[v, .int .u32 0] 54 (0, 0))) (hown : w'.ownsRow W.heap.size 32 1 v 2 [.iface 27 (.pointer (some ⟨r1, 0, none⟩)), .iface 27 (.pointer (some ⟨r2, 0, none⟩))])
    (hlow : Below W.heap.size W w') (hN1 : N ≤ r1) (hN2 : N ≤ r2) (hNW : N ≤ W.heap.size) :
    ∃ sa cap, Mem (lay2 N bb w'.heap.size sa cap r1 r2 g1 g2 x y) false (fun _ => 0) 0 (w'.alloc (.cells #[.int .i64 0] 37)) := by
  obtain ⟨sa, cap, cur, rfl, hsa, hcap, hcur⟩ := own_shape hown (by omega)
  have old : ∀ {k : Nat} {o : Obj}, w'.heap[k]? = some o → (w'.alloc (.cells #[.int .i64 0] 37)).heap[k]? = some o := by
    intro k o h
    rw [Below.heap_alloc _ _ _ (Array.getElem?_eq_some_iff.1 h).1]; exact h
  have older : ∀ {k : Nat} {o : Obj}, W.heap[k]? = some o → (w'.alloc (.cells #[.int .i64 0] 37)).heap[k]? = some o := by
    intro k o h
    exact old ((hlow.block k (Array.getElem?_eq_some_iff.1 h).1).trans h)
  refine ⟨sa, cap, old hb, fun _ => rfl, heap_alloc_new w' _, fun _ => ⟨cur, old hcur, ?_⟩, ?_, ?_, ?_, ?_, ?_, by simp [lay2], hcap, ?_, ?_, ?_, fun _ _ h => by simp [lay2] at h⟩
  · intro i hi
    have hc := hown.cellAt i (by simpa [lay2] using hi)
    rw [cell_of hcur] at hc
    rw [hc]
    match i, hi with
    | 0, _ => rfl
    | 1, _ => rfl
    | i + 2, hi => exact absurd hi (by simp [lay2])
  · intro i hi
    match i, hi with
    | 0, _ => exact older h1
    | 1, _ => exact older h2
    | i + 2, hi => exact absurd hi (by simp [lay2])
  · intro i hi _
    match i, hi with
    | 0, _ => exact ⟨g1, _, rfl, older k1, one_cell x⟩
    | 1, _ => exact ⟨g2, _, rfl, older k2, one_cell y⟩
    | i + 2, hi => exact absurd hi (by simp [lay2])
  · intro i j hi hj he
    match i, j, hi, hj with
    | 0, 0, _, _ => rfl
    | 1, 1, _, _ => rfl
    | 0, 1, _, _ => exact absurd he hne
    | 1, 0, _, _ => exact absurd he.symm hne
    | i + 2, _, hi, _ => exact absurd hi (by simp [lay2])
    | _, j + 2, _, hj => exact absurd hj (by simp [lay2])
  · intro i hi z hz
    match i, hi with
    | 0, _ => simp [lay2] at hz; subst hz; exact hx
    | 1, _ => simp [lay2] at hz; subst hz; exact hy
    | i + 2, hi => exact absurd hi (by simp [lay2])
  · intro i hi
    simp only [lay2]
    split <;> simp
  · exact Nat.le_trans hNW hbb
  · exact Nat.le_trans hNW hlow.size
  · intro i hi
    simp only [lay2]
    split
    · exact hN1
    · exact hN2
theorem new_two (r2 b : Nat) (W : World) (hb : b = W.heap.size) : SrcOf (W.alloc (.cells #[.nilIface, .iface 27 (.pointer (some ⟨r2, 0, none⟩))] 32)) (.slice (some ⟨b, 0, none⟩) 2 2) 2 [.nilIface, .iface 27 (.pointer (some ⟨r2, 0, none⟩))] := by
  subst hb
  exact ⟨rfl, by intro u hu; simp at hu; rcases hu with rfl | rfl <;> rfl, .inr ⟨⟨W.heap.size, 0, none⟩, 2, rfl, cell_two_new _ _ _ _⟩⟩
theorem srcV_two (r2 : Nat) : ∀ x ∈ [Value.nilIface, .iface 27 (.pointer (some ⟨r2, 0, none⟩))], SrcV x := by
  intro x hx
  simp at hx
  rcases hx with rfl | rfl
  · exact .inl rfl
  · exact .inr ⟨_, rfl⟩
def W5 (w : World) : World :=
  ((((w.alloc (.cells #[.int .i64 5] 2)).alloc (.cells #[.slice (some ⟨w.heap.size, 0, none⟩) 1 1, .int .i64 0] 30)).alloc (.cells #[.int .i64 3] 2)).alloc
    (.cells #[.slice (some ⟨w.heap.size + 1 + 1, 0, none⟩) 1 1, .int .i64 0] 30)).alloc (.cells #[.nilIface, .iface 27 (.pointer (some ⟨w.heap.size + 1 + 1 + 1, 0, none⟩))] 32)
theorem get_push {w : World} {o : Obj} {k : Nat} {x : Obj} (h : w.heap[k]? = some x) : (w.alloc o).heap[k]? = some x := by
  rw [Below.heap_alloc _ _ _ (Array.getElem?_eq_some_iff.1 h).1]; exact h
theorem get_new {w : World} {o : Obj} {k : Nat} (h : k = w.heap.size) : (w.alloc o).heap[k]? = some o := by subst h; exact heap_alloc_new w o
theorem W5_facts (w : World) : (W5 w).heap.size = w.heap.size + 5 ∧ (W5 w).heap[w.heap.size + 1]? = some (.cells #[.slice (some ⟨w.heap.size, 0, none⟩) 1 1, .int .i64 0] 30 (0, 0)) ∧
    (W5 w).heap[w.heap.size + 1 + 1 + 1]? = some (.cells #[.slice (some ⟨w.heap.size + 1 + 1, 0, none⟩) 1 1, .int .i64 0] 30 (0, 0)) ∧ (W5 w).heap[w.heap.size]? = some (.cells #[.int .i64 5] 2 (0, 0)) ∧
    (W5 w).heap[w.heap.size + 1 + 1]? = some (.cells #[.int .i64 3] 2 (0, 0)) ∧ Below w.heap.size w (W5 w) := by
  refine ⟨by simp [W5], ?_, ?_, ?_, ?_, ?_⟩
  · exact get_push (get_push (get_push (get_new (by simp))))
  · exact get_push (get_new (by simp))
  · exact get_push (get_push (get_push (get_push (get_new rfl))))
  · exact get_push (get_push (get_new (by simp)))
  · exact (((((Below.refl _ _).alloc (Nat.le_refl _) _).alloc (by simp) _).alloc (by simp; omega) _).alloc (by simp; omega) _).alloc (by simp; omega) _
end Go.Proofs.Ytimkkeomdkbcjaa
