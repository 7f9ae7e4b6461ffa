/-
  Merged out of: Play0 Play1 Play2. No condition of its own.
-/
import Derived.Test.YtimkkeomdkbcjaaPlaysP29
import Derived.Test.YtimkkeomdkbcjaaPlaysP11
set_option linter.unusedVariables false
set_option linter.unusedSimpArgs false
/-
  A new world of words and a barrier (newWorld). No condition of its own.
-/
namespace Go.Proofs.Ytimkkeomdkbcjaa
open Go.Conc Go.RowKit
open Go.ConcN renaming upd → updN, upd_ne → updN_ne, upd_same → updN_same
theorem newWord (v : Int) (w : World) : Calls Try.prog 42 #[.int .i64 v] w fun e w' => e = .returned (.pointer (some ⟨w.heap.size, 0, none⟩)) ∧ w.alloc (.cells #[.int .i64 v] 132) = w' := by
  have hc := heap_alloc_new w (.cells #[.int .i64 0] 132)
  have h1 := wordStore w.heap.size 0 v (w.alloc (.cells #[.int .i64 0] 132)) (by rw [cellAt hc 0]; rfl) (freeAt hc 0)
  have e : (w.alloc (.cells #[.int .i64 0] 132)).setCell ⟨w.heap.size, 0, none⟩ (.int .i64 v) = w.alloc (.cells #[.int .i64 v] 132) := by
    have hh : ((w.alloc (.cells #[.int .i64 0] 132)).setCell ⟨w.heap.size, 0, none⟩ (.int .i64 v)).heap = (w.alloc (.cells #[.int .i64 v] 132)).heap := by
      apply Array.ext_getElem?
      intro b
      by_cases z : b = w.heap.size
      · subst z
        rw [putAt hc, heap_alloc_new]
        rfl
      · rw [Below.heap_setCell _ _ _ _ z]
        rcases Nat.lt_or_ge b w.heap.size with y | y
        · rw [Below.heap_alloc _ _ _ y, Below.heap_alloc _ _ _ y]
        · rw [Array.getElem?_eq_none (by simp; omega), Array.getElem?_eq_none (by simp; omega)]
    obtain ⟨h, t, d, o, u⟩ := w
    simp only [World.setCell, World.alloc] at hh ⊢
    rw [hh]
  rw [e] at h1
  replace e := Lib.hid e
  go_enter Try.func42, Try.ntmps42
  go_wp2_with (go_at_call 55; refine h1.mono ?_; rintro e w' ⟨rfl, rfl⟩)
  go_ret
  exact ⟨rfl, rfl⟩
def ptrs (wd : Nat → Nat) (k : Nat) : List Value := (List.range k).map fun j => .pointer (some ⟨wd j, 0, none⟩)
def ifcs (wd : Nat → Nat) (k : Nat) : List Value := (List.range k).map fun j => .iface 104 (.pointer (some ⟨wd j, 0, none⟩))
theorem ptrs_upd (wd : Nat → Nat) {k i p : Nat} (h : k ≤ i) : ptrs (updN wd i p) k = ptrs wd k := List.map_congr_left fun j hj => by rw [updN_ne _ _ (by have := List.mem_range.1 hj; omega)]
theorem ifcs_upd (wd : Nat → Nat) {k i p : Nat} (h : k ≤ i) : ifcs (updN wd i p) k = ifcs wd k := List.map_congr_left fun j hj => by rw [updN_ne _ _ (by have := List.mem_range.1 hj; omega)]
theorem ptrs_succ (wd : Nat → Nat) (k : Nat) : ptrs wd (k + 1) = ptrs wd k ++ [.pointer (some ⟨wd k, 0, none⟩)] := by simp [ptrs, List.range_succ]
theorem ifcs_succ (wd : Nat → Nat) (k : Nat) : ifcs wd (k + 1) = ifcs wd k ++ [.iface 104 (.pointer (some ⟨wd k, 0, none⟩))] := by simp [ifcs, List.range_succ]
structure NWm (w0 : World) (N wb : Nat) (ws : List Int) (kr ka kw : Nat) (wd : Nat → Nat) (v va : Value) (w : World) : Prop where
  fwb : w.heap[wb]? = some (.cells #[v, .pointer none] 103 (0, 0))
  row : w.ownsRow N 104 1 v kr (ptrs wd kr)
  all : w.ownsRow N 32 1 va ka (ifcs wd ka)
  fwd : ∀ j, j < kw → N ≤ wd j ∧ w.heap[wd j]? = some (.cells #[.int .i64 (ws.getD j 0)] 132 (0, 0))
  inj : ∀ i j, i < kw → j < kw → wd i = wd j → i = j
  low : ∀ b, b < N → w.heap[b]? = w0.heap[b]?
  nb : N ≤ wb
  nw : N ≤ w.heap.size
  outs : w.os = w0.os ∧ w.output = w0.output
section
variable {w0 w w1 : World} {N wb : Nat} {ws : List Int} {kr ka kw : Nat} {wd : Nat → Nat} {v va v' : Value}
theorem NWm.lt (h : NWm w0 N wb ws kr ka kw wd v va w) : wb < w.heap.size := (Array.getElem?_eq_some_iff.1 h.fwb).1
theorem NWm.alloc (h : NWm w0 N wb ws kr ka kw wd v va w) (o : Obj) : NWm w0 N wb ws kr ka kw wd v va (w.alloc o) :=
  ⟨(Below.heap_alloc _ _ _ h.lt).trans h.fwb, h.row.alloc o, h.all.alloc o, fun j hj => ⟨(h.fwd j hj).1, (Below.heap_alloc _ _ _ (Array.getElem?_eq_some_iff.1 (h.fwd j hj).2).1).trans (h.fwd j hj).2⟩, h.inj,
    fun b hb => (Below.heap_alloc _ _ _ (Nat.lt_of_lt_of_le hb h.nw)).trans (h.low b hb), h.nb, by have := h.nw; simp; omega, h.outs⟩
theorem NWm.word (h : NWm w0 N wb ws kr ka kw wd v va w) (hr : kr ≤ kw) (ha : ka ≤ kw) : NWm w0 N wb ws kr ka (kw + 1) (updN wd kw w.heap.size) v va (w.alloc (.cells #[.int .i64 (ws.getD kw 0)] 132)) := by
  obtain ⟨a, b, c, d, e, f, g, i, hout⟩ := h.alloc (.cells #[.int .i64 (ws.getD kw 0)] 132)
  refine ⟨a, by rw [ptrs_upd _ hr]; exact b, by rw [ifcs_upd _ ha]; exact c, fun j hj => ?_, fun x y hx hy e1 => ?_, f, g, i, hout⟩
  · by_cases z : j = kw
    · subst z
      rw [updN_same]
      exact ⟨h.nw, heap_alloc_new _ _⟩
    · rw [updN_ne _ _ z]
      exact d j (by omega)
  · have big : ∀ x, x < kw → wd x < w.heap.size := fun x hx => (Array.getElem?_eq_some_iff.1 (h.fwd x hx).2).1
    by_cases zx : x = kw <;> by_cases zy : y = kw
    · omega
    · subst zx
      rw [updN_same, updN_ne _ _ zy] at e1
      have := big y (by omega); omega
    · subst zy
      rw [updN_same, updN_ne _ _ zx] at e1
      have := big x (by omega); omega
    · rw [updN_ne _ _ zx, updN_ne _ _ zy] at e1
      exact e x y (by omega) (by omega) e1
theorem NWm.grown (h : NWm w0 N wb ws kr ka kw wd v va w) {e : Nat} {u : Value} {n : Nat} {xs : List Value} (hu : w.ownsRow N e 1 u n xs) (hg : w.grownBy w1 u.ownBlock) (h1 : e ≠ 103) (h2 : e ≠ 132) :
    w1.heap[wb]? = some (.cells #[v, .pointer none] 103 (0, 0)) ∧ (∀ j, j < kw → N ≤ wd j ∧ w1.heap[wd j]? = some (.cells #[.int .i64 (ws.getD j 0)] 132 (0, 0))) ∧ (∀ b, b < N → w1.heap[b]? = w0.heap[b]?) ∧ N ≤ w1.heap.size := by
  have keep : ∀ {b : Nat} {c : Array Value} {t : Nat}, w.heap[b]? = some (.cells c t (0, 0)) → t ≠ e → w1.heap[b]? = some (.cells c t (0, 0)) := fun {b c t} hb ht => by
    refine (hg.block b (Array.getElem?_eq_some_iff.1 hb).1 fun q => ?_).trans hb
    obtain ⟨cc, hcc⟩ := ownsRow_type hu q.symm
    rw [hb] at hcc
    simp at hcc
    exact ht hcc.2
  refine ⟨keep h.fwb (Ne.symm h1), fun j hj => ⟨(h.fwd j hj).1, keep (h.fwd j hj).2 (Ne.symm h2)⟩, fun b hb => ?_, by have := hg.size; have := h.nw; omega⟩
  refine (hg.block b (Nat.lt_of_lt_of_le hb h.nw) fun q => ?_).trans (h.low b hb)
  have := (hu.lt b q.symm).1
  omega
theorem NWm.rowed (h : NWm w0 N wb ws kr ka kw wd v va w) (hk : kr < kw) {p : Nat} (hp : wd kr = p) (hA : Appended (w.alloc (.cells #[.pointer (some ⟨p, 0, none⟩)] 104)) N 104 v kr 1 (ptrs wd kr ++ [.pointer (some ⟨p, 0, none⟩)]) v' w1) (hne : ∀ g, v.ownBlock = some g → va.ownBlock ≠ some g) :
    ∃ g cap, v' = .slice (some ⟨g, 0, none⟩) (kr + 1) cap ∧ w1.cell? ⟨wb, 0, none⟩ = some v ∧ w1.frozen? ⟨wb, 0, none⟩ = false ∧ NWm w0 N wb ws (kr + 1) ka kw wd v' va (w1.setCell ⟨wb, 0, none⟩ v') := by
  obtain ⟨ho, hg, hsh⟩ := hA
  have h2 := h.alloc (.cells #[.pointer (some ⟨p, 0, none⟩)] 104)
  obtain ⟨q1, q2, q3, q4⟩ := h2.grown h2.row hg (by decide) (by decide)
  have oth : ∀ b, b ≠ wb → (w1.setCell ⟨wb, 0, none⟩ v').heap[b]? = w1.heap[b]? := fun b hb => Below.heap_setCell _ _ _ _ hb
  have set := putAt q1 0 v'
  have neT : ∀ {b : Nat} {c : Array Value} {t : Nat}, w1.heap[b]? = some (.cells c t (0, 0)) → t ≠ 103 → b ≠ wb := fun {b c t} hb ht z => by
    rw [z, q1] at hb
    simp at hb
    exact ht hb.2.symm
  have hrow : (w1.setCell ⟨wb, 0, none⟩ v').ownsRow N 104 1 v' (kr + 1) (ptrs wd (kr + 1)) := by
    rw [ptrs_succ, hp]
    exact ownsRow_keep ho fun g o hgg hh => by
      obtain ⟨c, hc⟩ := ownsRow_type ho hgg
      rw [oth g (neT hc (by decide))]; exact hh
  have hall : w1.ownsRow N 32 1 va ka (ifcs wd ka) := ownsRow_keep h2.all fun g o hgg hh => by
    refine (hg.block g (Array.getElem?_eq_some_iff.1 hh).1 fun q => ?_).trans hh
    exact hne g q.symm hgg
  obtain ⟨g, cap, e⟩ : ∃ g cap, v' = .slice (some ⟨g, 0, none⟩) (kr + 1) cap := by
    rcases hsh with ⟨_, _, z, _⟩ | ⟨g, cap, e, _⟩
    · cases z
    · exact ⟨g, cap, e⟩
  refine ⟨g, cap, e, by rw [cellAt q1 0]; rfl, freeAt q1 0, by simpa using set, hrow, ownsRow_keep hall fun g o hgg hh => ?_, fun j hj => ⟨(q2 j hj).1, ?_⟩, h.inj, fun b hb => ?_, h.nb, by simp [World.setCell]; omega, hg.os.trans h.outs.1, hg.output.trans h.outs.2⟩
  · obtain ⟨c, hc⟩ := ownsRow_type hall hgg
    rw [oth g (neT hc (by decide))]; exact hh
  · rw [oth _ (neT (q2 j hj).2 (by decide))]; exact (q2 j hj).2
  · rw [oth b (by have := h.nb; omega)]; exact q3 b hb
theorem NWm.apart (h : NWm w0 N wb ws kr ka kw wd v va w) : ∀ g, v.ownBlock = some g → va.ownBlock ≠ some g := fun g h1 h2 => by
  obtain ⟨c1, q1⟩ := ownsRow_type h.row h1
  obtain ⟨c2, q2⟩ := ownsRow_type h.all h2
  rw [q1] at q2
  simp at q2
theorem NWm.sourced (h : NWm w0 N wb ws kr ka kw wd v va w) (hk : ka < kw) {p : Nat} (hp : wd ka = p) (hA : Appended (w.alloc (.cells #[.iface 104 (.pointer (some ⟨p, 0, none⟩))] 32)) N 32 va ka 1 (ifcs wd ka ++ [.iface 104 (.pointer (some ⟨p, 0, none⟩))]) v' w1) :
    (∃ g cap, v' = .slice (some ⟨g, 0, none⟩) (ka + 1) cap) ∧ NWm w0 N wb ws kr (ka + 1) kw wd v v' w1 := by
  obtain ⟨ho, hg, hsh⟩ := hA
  have h2 := h.alloc (.cells #[.iface 104 (.pointer (some ⟨p, 0, none⟩))] 32)
  obtain ⟨q1, q2, q3, q4⟩ := h2.grown h2.all hg (by decide) (by decide)
  have hrow : w1.ownsRow N 104 1 v kr (ptrs wd kr) := ownsRow_keep h2.row fun g o hgg hh => by
    refine (hg.block g (Array.getElem?_eq_some_iff.1 hh).1 fun q => ?_).trans hh
    exact h2.apart g hgg q.symm
  refine ⟨?_, q1, hrow, by rw [ifcs_succ, hp]; exact ho, q2, h.inj, q3, h.nb, q4, hg.os.trans h.outs.1, hg.output.trans h.outs.2⟩
  rcases hsh with ⟨_, _, z, _⟩ | ⟨g, cap, e, _⟩
  · cases z
  · exact ⟨g, cap, e⟩
end
end Go.Proofs.Ytimkkeomdkbcjaa

/-
  newWorld, alone. No condition of its own.
-/
namespace Go.Proofs.Ytimkkeomdkbcjaa
open Go.Conc Go.RowKit
theorem info104 : (Try.prog.info? 104).map (fun i => (i.zero, i.size, i.bytes)) = some (some (.pointer none), 1, 8) := by kernel_rfl
theorem slice_of {w : World} {base e sz n : Nat} {v : Value} {xs : List Value} (h : w.ownsRow base e sz v n xs) : ∃ p c, v = .slice p n c := by
  rcases h.2 with ⟨rfl, rfl⟩ | ⟨g, cap, cur, rfl, _⟩
  · exact ⟨none, 0, rfl⟩
  · exact ⟨_, _, rfl⟩
theorem src_set (w1 : World) (N : Nat) (v x : Value) (hx : x.oneCell' = true) : SrcOf ((w1.setCell ⟨N, 0, none⟩ v).alloc (.cells #[x] 32)) (.slice (some ⟨w1.heap.size, 0, none⟩) 1 1) 1 [x] := by
  have hs : (w1.setCell ⟨N, 0, none⟩ v).heap.size = w1.heap.size := by simp [World.setCell]
  have h := cell_one_new (w1.setCell ⟨N, 0, none⟩ v) x 32
  rw [hs] at h
  exact ⟨rfl, by intro u hu; simp at hu; subst hu; exact hx, .inr ⟨_, 1, rfl, h⟩⟩
theorem ifcs_len (wd : Nat → Nat) (k : Nat) : (ifcs wd k).length = k := by simp [ifcs]
theorem ifcs_one (wd : Nat → Nat) (k : Nat) : ∀ u ∈ ifcs wd k, u.oneCell' = true := fun u hu => by
  obtain ⟨j, _, rfl⟩ := List.mem_map.1 hu
  rfl
theorem src_row {w : World} {base e n : Nat} {v : Value} {xs : List Value} (h : w.ownsRow base e 1 v n xs) (h1 : ∀ u ∈ xs, u.oneCell' = true) : SrcOf w v n xs := by
  refine ⟨by have := h.1; omega, h1, ?_⟩
  rcases h.2 with ⟨rfl, rfl⟩ | ⟨g, cap, cur, rfl, _⟩
  · exact .inl ⟨rfl, rfl⟩
  · exact .inr ⟨_, cap, rfl, h.cells (g := g) rfl⟩
theorem srcs_ifcs (wd : Nat → Nat) (k : Nat) : W104.srcs (.nilIface :: ifcs wd k) = ifcs wd k := by
  unfold W104.srcs
  rw [List.filter_cons, if_neg (by simp [W104.isSrc]), List.filter_eq_self]
  intro x hx
  obtain ⟨j, _, rfl⟩ := List.mem_map.1 hx
  rfl
def NewW (ws : List Int) (w : World) (e : Ending) (w' : World) : Prop :=
  ∃ wb bb v v2 wd, e = .returned (.pointer (some ⟨wb, 0, none⟩)) ∧ w.heap.size ≤ wb ∧ w.heap.size ≤ bb ∧ w'.heap[wb]? = some (.cells #[v, .pointer (some ⟨bb, 0, none⟩)] 103 (0, 0)) ∧ w'.ownsRow w.heap.size 104 1 v (min ws.length 65) (ptrs wd (min ws.length 65)) ∧
    w'.heap[bb]? = some (.cells #[v2, .int .u32 0] 54 (0, 0)) ∧ w'.ownsRow w.heap.size 32 1 v2 (min ws.length 65) (ifcs wd (min ws.length 65)) ∧ (∀ j, j < min ws.length 65 → w.heap.size ≤ wd j ∧ w'.heap[wd j]? = some (.cells #[.int .i64 (ws.getD j 0)] 132 (0, 0))) ∧
    (∀ i j, i < min ws.length 65 → j < min ws.length 65 → wd i = wd j → i = j) ∧ (∀ b, b < w.heap.size → w'.heap[b]? = w.heap[b]?) ∧ w'.os = w.os ∧ w'.output = w.output
set_option maxRecDepth 100000 in
set_option maxHeartbeats 1000000 in
theorem newWorld_walk (ws : List Int) (w : World) {ad : Option Addr} {cap : Nat} (had : ws ≠ [] → ∃ a : Addr, a.spot = none ∧ ad = some a ∧ ∀ j, j < ws.length → w.cell? ⟨a.block, a.off + j, none⟩ = some (.int .i64 (ws.getD j 0))) (hlen : ws.length ≤ 1000000000) :
    Calls Try.prog 28 #[.slice ad ws.length cap] w (NewW ws w) := by
  obtain ⟨i1, hi1, hz1, hz11, hz12⟩ := info_parts info104
  obtain ⟨i2, hi2, hz2, hz21, hz22⟩ := info_parts W104.info32
  have hb0 : (w.alloc (.cells #[.slice none 0 0, .pointer none] 103)).heap[w.heap.size]? = some (.cells #[.slice none 0 0, .pointer none] 103 (0, 0)) := heap_alloc_new _ _
  have H0 : Hid (NWm w w.heap.size w.heap.size ws 0 0 0 (fun _ => 0) (.slice none 0 0) (.slice none 0 0) (w.alloc (.cells #[.slice none 0 0, .pointer none] 103))) :=
    Lib.hid ⟨hb0, World.ownsRow_nil _ _ _ _, World.ownsRow_nil _ _ _ _, fun j hj => by omega, fun i j hi => by omega, fun b hb => Below.heap_alloc _ _ _ hb, Nat.le_refl _, by simp, rfl, rfl⟩
  replace had := Lib.hid had
  clear hb0
  generalize hN : w.heap.size = N at *
  replace hN := Lib.hid hN
  go_enter Try.func28, Try.ntmps28
  go_wp2_with fail
  rw [hN.out]
  go_loopw [4, 12] (fun va iv wr => ∃ (j : Nat) (wd : Nat → Nat) (v : Value), j ≤ ws.length ∧ iv = .int .i64 j ∧ Hid (NWm w N N ws (min j 65) (min j 65) (min j 65) wd v va wr)) (fun _ iv _ => ws.length - (intOf iv).toNat)
  case atStart => exact ⟨0, _, _, by omega, rfl, H0⟩
  case round =>
    obtain ⟨j, wd, v, hj, rfl, HS⟩ := hrel
    obtain ⟨vp, vc, rfl⟩ := slice_of HS.out.row
    obtain ⟨ap, ac, rfl⟩ := slice_of HS.out.all
    by_cases hlt : j < ws.length
    · have hlt' : (j : Int) < (ws.length : Int) := by omega
      obtain ⟨⟨ab, ao, asp⟩, hspot, rfl, hcells⟩ := had.out (by intro z; rw [z] at hlt; simp at hlt)
      simp only at hspot
      subst hspot
      have hc := hcells j hlt
      have hin : wr.cell? ⟨ab, ao + j, none⟩ = some (.int .i64 (ws.getD j 0)) := by
        rw [World.cell?_of_block (w := w)]
        · exact hc
        · have hb : ab < w.heap.size := World.block_lt_of_cell? w _ hc
          rw [hN.out] at hb
          exact HS.out.low ab hb
      clear hcells hc
      generalize hx : ws.getD j 0 = xj at *
      replace hx := Lib.hid hx
      have q1 : IntKind.i64.wrap ((j : Int) + 1) = ((j + 1 : Nat) : Int) := by rw [IntKind.wrap_i64]; omega
      by_cases h64 : j ≤ 64
      · have hle : (j : Int) ≤ 64 := by omega
        have ej : min j 65 = j := by omega
        rw [ej] at HS ⊢
        have HW := Lib.hid (HS.out.word (Nat.le_refl _) (Nat.le_refl _))
        rw [hx.out] at HW
        have cw : (wr.alloc (.cells #[.int .i64 xj] 132)).cell? ⟨N, 0, none⟩ = some (.slice vp j vc) := by rw [cellAt HW.out.fwb 0]; rfl
        have HSx : Hid (SrcOf ((wr.alloc (.cells #[.int .i64 xj] 132)).alloc (.cells #[.pointer (some ⟨wr.heap.size, 0, none⟩)] 104)) (.slice (some ⟨wr.heap.size + 1, 0, none⟩) 1 1) 1 [.pointer (some ⟨wr.heap.size, 0, none⟩)]) := by
          have hs1 : (wr.alloc (.cells #[.int .i64 xj] 132)).heap.size = wr.heap.size + 1 := by simp
          have h := cell_one_new (wr.alloc (.cells #[.int .i64 xj] 132)) (.pointer (some ⟨wr.heap.size, 0, none⟩)) 104
          rw [hs1] at h
          exact ⟨rfl, by intro u hu; simp at hu; subst hu; rfl, .inr ⟨_, 1, rfl, h⟩⟩
        have e1 : ptrs (Go.ConcN.upd wd j wr.heap.size) j = ptrs wd j := ptrs_upd wd (Nat.le_refl _)
        have e2 : ifcs (Go.ConcN.upd wd j wr.heap.size) j = ifcs wd j := ifcs_upd wd (Nat.le_refl _)
        have HO1 := Lib.hid (HW.out.row.alloc (.cells #[.pointer (some ⟨wr.heap.size, 0, none⟩)] 104))
        have HT := Lib.hid (fun v' w1 ha => HW.out.rowed (v' := v') (w1 := w1) (Nat.lt_succ_self j) (Go.ConcN.upd_same _ _ _) ha HW.out.apart)
        have HNW := Lib.hid HW.out.nw
        have hj0 : j ≤ 65 := by omega
        have hwd := Lib.hid (Go.ConcN.upd_same wd j wr.heap.size)
        generalize Go.ConcN.upd wd j wr.heap.size = wd' at *
        replace e1 := Lib.hid e1
        replace e2 := Lib.hid e2
        go_wp2_with (first
          | (go_at_call 42; refine (newWord _ _).mono ?_; rintro e w' ⟨rfl, rfl⟩)
          | (at_builtin; (refine wpList_append_row rfl (.tmp 25) (.tmp 27) 101 rfl N 104 i1 (.pointer none) 8 Try.underlying101 hi1 hz1 hz11 hz12 rfl (.slice vp j vc) j (ptrs wd' j) rfl HO1.out 1 [.pointer (some ⟨wr.heap.size, 0, none⟩)] HSx.out ?l2 ?b2 ?n2 ?_); (case l2 => (unfold maxLen; omega)); (case b2 => omega); (case n2 => (have := HNW.out; simp at this ⊢; omega)); intro v' w1 ha; obtain ⟨g, cp, rfl, hcell, hfz, hH2⟩ := HT.out _ _ ha; have HH := Lib.hid hH2; have HS2 := src_set w1 N (.slice (some ⟨g, 0, none⟩) (j + 1) cp) (.iface 104 (.pointer (some ⟨wr.heap.size, 0, none⟩))) rfl; replace HS2 := Lib.hid HS2; clear hH2 ha)
          | (at_builtin; (refine wpList_append_row rfl (.tmp 31) (.tmp 34) 25 rfl N 32 i2 .nilIface 16 Try.underlying25 hi2 hz2 hz21 hz22 rfl (.slice ap j ac) j (ifcs wd' j) rfl (HH.out.all.alloc _) 1 [.iface 104 (.pointer (some ⟨wr.heap.size, 0, none⟩))] HS2.out ?l3 ?b3 ?n3 ?_); (case l3 => (unfold maxLen; omega)); (case b3 => omega); (case n3 => (have := HH.out.nw; simp at this ⊢; omega)); intro v2 w2 ha; obtain ⟨⟨g2, cp2, rfl⟩, hH3⟩ := HH.out.sourced (Nat.lt_succ_self j) hwd.out ha; have H3 := Lib.hid hH3; clear hH3 ha))
        refine ⟨⟨j + 1, wd', .slice (some ⟨g, 0, none⟩) (j + 1) cp, by omega, by rw [Int.natCast_add]; rfl, ?_⟩, by simp [intOf]; omega⟩
        rw [show min (j + 1) 65 = j + 1 by omega]
        exact H3
      · have hle : ¬ (j : Int) ≤ 64 := by omega
        go_wp2_with fail
        refine ⟨⟨j + 1, wd, .slice vp (min j 65) vc, by omega, by rw [Int.natCast_add]; rfl, ?_⟩, by simp [intOf]; omega⟩
        rw [show min (j + 1) 65 = min j 65 by omega]
        exact HS
    · have hlt' : ¬ (j : Int) < (ws.length : Int) := by omega
      have ej : min j 65 = min ws.length 65 := by omega
      rw [ej] at HS ⊢
      have hk65 : min ws.length 65 ≤ 65 := by omega
      generalize hkk : min ws.length 65 = k at *
      replace hkk := Lib.hid hkk
      go_wp2_with fail
      have hB := src_row HS.out.all (ifcs_one wd k)
      rw [← ifcs_len wd k] at hB
      refine (W104.new_nil (.slice ap k ac) (ifcs wd k) wr (by rw [ifcs_len] at hB ⊢; exact hB) (fun x hx => ?_) (by rw [ifcs_len]; omega)).mono ?_
      · obtain ⟨j, _, rfl⟩ := List.mem_map.1 hx
        exact .inr ⟨wd j, rfl⟩
      · rintro e w' ⟨bb, v2, rfl, z1, z2, z3, z4⟩
        have esr : W104.srcs (.nilIface :: ifcs wd k) = ifcs wd k := srcs_ifcs wd k
        rw [esr, ifcs_len] at z3
        have low : ∀ b, b < wr.heap.size → w'.heap[b]? = wr.heap[b]? := fun b hb => z4.block b hb
        have lt : ∀ {b : Nat} {o : Obj}, wr.heap[b]? = some o → b < wr.heap.size := fun h => (Array.getElem?_eq_some_iff.1 h).1
        have y1 := (low _ (lt HS.out.fwb)).trans HS.out.fwb
        have c1 : w'.cell? ⟨N, 1, none⟩ = some (.pointer none) := by rw [cellAt y1 1]; rfl
        have f1 := freeAt y1 1
        replace y1 := Lib.hid y1
        replace z2 := Lib.hid z2
        replace z3 := Lib.hid z3
        go_wp2_with fail
        go_ret
        have oth : ∀ b, b ≠ N → (w'.setCell ⟨N, 1, none⟩ (.pointer (some ⟨bb, 0, none⟩))).heap[b]? = w'.heap[b]? := fun b hb => Below.heap_setCell _ _ _ _ hb
        have hNw := HS.out.nw
        have keepT : ∀ {b : Nat} {cc : Array Value} {t : Nat}, w'.heap[b]? = some (.cells cc t (0, 0)) → t ≠ 103 → b ≠ N := fun {b cc t} e ht z => by
          rw [z, y1.out] at e
          simp at e
          exact ht e.2.symm
        have keep : ∀ {base n : Nat} {e : TypeId} {u : Value} {xs : List Value}, e ≠ 103 → w'.ownsRow base e 1 u n xs → (w'.setCell ⟨N, 1, none⟩ (.pointer (some ⟨bb, 0, none⟩))).ownsRow base e 1 u n xs := fun he hu => ownsRow_keep hu fun g o hg hh => by
          obtain ⟨cc, hcc⟩ := ownsRow_type hu hg
          rw [oth g (keepT hcc he)]; exact hh
        have row1 : w'.ownsRow N 104 1 (.slice vp k vc) k (ptrs wd k) := ownsRow_keep HS.out.row fun g o hg hh => (low g (lt hh)).trans hh
        have row2 : w'.ownsRow N 32 1 v2 k (ifcs wd k) := ⟨z3.out.1, z3.out.2.imp id fun ⟨g, cp, cur, a1, a2, a3⟩ => ⟨g, cp, cur, a1, Nat.le_trans hNw a2, a3⟩⟩
        unfold NewW
        rw [hkk.out, hN.out]
        refine ⟨N, bb, .slice vp k vc, v2, wd, rfl, Nat.le_refl _, by omega, by have := putAt y1.out 1 (.pointer (some ⟨bb, 0, none⟩)); simpa using this, keep (by decide) row1, (oth _ (keepT z2.out (by decide))).trans z2.out, keep (by decide) row2, fun j hj => ?_, HS.out.inj, fun b hb => ?_, z4.os.trans HS.out.outs.1, z4.output.trans HS.out.outs.2⟩
        · obtain ⟨a1, a2⟩ := HS.out.fwd j hj
          have a3 := (low _ (lt a2)).trans a2
          exact ⟨a1, (oth _ (keepT a3 (by decide))).trans a3⟩
        · rw [oth b (by omega), low b (by omega)]
          exact HS.out.low b hb
end Go.Proofs.Ytimkkeomdkbcjaa

/-
  What doing lays out (f43): the memory. No condition of its own.
-/
namespace Go.Proofs.Ytimkkeomdkbcjaa
open Go.Conc Go.RowKit
def closV (dc ac : Nat) (oc ic : Nat → Nat) (j : Nat) : Value := .func (.func 56) #[] #[.pointer (some ⟨oc j, 0, none⟩), .pointer (some ⟨dc, 0, none⟩), .pointer (some ⟨ic j, 0, none⟩), .pointer (some ⟨ac, 0, none⟩)]
structure DM (w0 : World) (N dc ac ar n : Nat) (dv : Value) (S : Nat → Value) (k : Nat) (oc ic : Nat → Nat) (v : Value) (w : World) : Prop where
  fdc : w.heap[dc]? = some (.cells #[dv] 79 (0, 0))
  fac : w.heap[ac]? = some (.cells #[.slice (some ⟨ar, 0, none⟩) n n] 61 (0, 0))
  far : w.heap[ar]? = some (.cells (madeCells #[.slice none 0 0] n) 75 (0, 0))
  foc : ∀ j, j < k → N ≤ oc j ∧ w.heap[oc j]? = some (.cells #[S j] 92 (0, 0))
  fic : ∀ j, j < k → N ≤ ic j ∧ w.heap[ic j]? = some (.cells #[.int .i64 j] 3 (0, 0))
  row : w.ownsRow N 99 1 v k ((List.range k).map (closV dc ac oc ic))
  low : ∀ b, b < N → w.heap[b]? = w0.heap[b]?
  nd : N ≤ dc ∧ N ≤ ac ∧ N ≤ ar
  nw : N ≤ w.heap.size
  outs : w.os = w0.os ∧ w.output = w0.output
section
variable {w0 w w1 : World} {N dc ac ar n : Nat} {dv : Value} {S : Nat → Value} {k : Nat} {oc ic : Nat → Nat} {v v' : Value}
theorem DM.alloc (h : DM w0 N dc ac ar n dv S k oc ic v w) (o : Obj) : DM w0 N dc ac ar n dv S k oc ic v (w.alloc o) := by
  have kp : ∀ {b : Nat} {ob : Obj}, w.heap[b]? = some ob → (w.alloc o).heap[b]? = some ob := fun hb => (Below.heap_alloc _ _ _ (Array.getElem?_eq_some_iff.1 hb).1).trans hb
  exact ⟨kp h.fdc, kp h.fac, kp h.far, fun j hj => ⟨(h.foc j hj).1, kp (h.foc j hj).2⟩, fun j hj => ⟨(h.fic j hj).1, kp (h.fic j hj).2⟩, h.row.alloc o, fun b hb => (Below.heap_alloc _ _ _ (Nat.lt_of_lt_of_le hb h.nw)).trans (h.low b hb), h.nd, by have := h.nw; simp; omega, h.outs⟩
theorem DM.more (h : DM w0 N dc ac ar n dv S k oc ic v w) {p q : Nat} (hp : N ≤ p ∧ w.heap[p]? = some (.cells #[.int .i64 k] 3 (0, 0))) (hq : N ≤ q ∧ w.heap[q]? = some (.cells #[S k] 92 (0, 0)))
    (hA : Appended (w.alloc (.cells #[closV dc ac (Go.ConcN.upd oc k q) (Go.ConcN.upd ic k p) k] 99)) N 99 v k 1 (((List.range k).map (closV dc ac oc ic)) ++ [closV dc ac (Go.ConcN.upd oc k q) (Go.ConcN.upd ic k p) k]) v' w1) :
    (∃ g cap, v' = .slice (some ⟨g, 0, none⟩) (k + 1) cap) ∧ DM w0 N dc ac ar n dv S (k + 1) (Go.ConcN.upd oc k q) (Go.ConcN.upd ic k p) v' w1 := by
  obtain ⟨ho, hg, hsh⟩ := hA
  have h2 := h.alloc (.cells #[closV dc ac (Go.ConcN.upd oc k q) (Go.ConcN.upd ic k p) k] 99)
  have ka : ∀ {b : Nat} {ob : Obj}, w.heap[b]? = some ob → (w.alloc (.cells #[closV dc ac (Go.ConcN.upd oc k q) (Go.ConcN.upd ic k p) k] 99)).heap[b]? = some ob := fun hb => (Below.heap_alloc _ _ _ (Array.getElem?_eq_some_iff.1 hb).1).trans hb
  have keep : ∀ {b : Nat} {c : Array Value} {t : Nat}, w.heap[b]? = some (.cells c t (0, 0)) → t ≠ 99 → w1.heap[b]? = some (.cells c t (0, 0)) := fun {b c t} hb ht => by
    refine (hg.block b (Array.getElem?_eq_some_iff.1 (ka hb)).1 fun z => ?_).trans (ka hb)
    obtain ⟨cc, hcc⟩ := ownsRow_type h2.row z.symm
    rw [ka hb] at hcc
    simp at hcc
    exact ht hcc.2
  refine ⟨?_, keep h.fdc (by decide), keep h.fac (by decide), keep h.far (by decide), fun j hj => ?_, fun j hj => ?_, ?_, fun b hb => ?_, h.nd, by have := hg.size; have := h2.nw; omega, hg.os.trans h.outs.1, hg.output.trans h.outs.2⟩
  · rcases hsh with ⟨_, _, z, _⟩ | ⟨g, cap, e, _⟩
    · cases z
    · exact ⟨g, cap, e⟩
  · by_cases z : j = k
    · subst z
      rw [Go.ConcN.upd_same]
      exact ⟨hq.1, keep hq.2 (by decide)⟩
    · rw [Go.ConcN.upd_ne _ _ z]
      exact ⟨(h.foc j (by omega)).1, keep (h.foc j (by omega)).2 (by decide)⟩
  · by_cases z : j = k
    · subst z
      rw [Go.ConcN.upd_same]
      exact ⟨hp.1, keep hp.2 (by decide)⟩
    · rw [Go.ConcN.upd_ne _ _ z]
      exact ⟨(h.fic j (by omega)).1, keep (h.fic j (by omega)).2 (by decide)⟩
  · rw [List.range_succ, List.map_append]
    have e : (List.range k).map (closV dc ac (Go.ConcN.upd oc k q) (Go.ConcN.upd ic k p)) = (List.range k).map (closV dc ac oc ic) := List.map_congr_left fun j hj => by
      have := List.mem_range.1 hj
      unfold closV
      rw [Go.ConcN.upd_ne _ _ (by omega), Go.ConcN.upd_ne _ _ (by omega)]
    rw [e]
    exact ho
  · refine (hg.block b (Nat.lt_of_lt_of_le hb h2.nw) fun z => ?_).trans (h2.low b hb)
    have := (h2.row.lt b z.symm).1
    omega
end
end Go.Proofs.Ytimkkeomdkbcjaa
