/-
  The memory of the search for an order: the search's own block, its order's row, its map of dead points; what stays. No walk.
-/
import Derived.Test.YtfcaebceklhbkaaDoorSearch
import Derived.Test.YtfcaebceklhbkaaDoorRefSame
import Derived.Test.YtfcaebceklhbkaaDoorMaps
namespace Go.Proofs.YtfcaebceklhbkaaDoor
open Go.RowKit Go.Maps
set_option linter.unusedVariables false

def ordV (l : List Nat) : List Value := l.map fun i : Nat => Value.int .i64 (i : Int)
theorem ordV_snoc (l : List Nat) (i : Nat) : ordV (l ++ [i]) = ordV l ++ [.int .i64 (i : Int)] := by simp [ordV]

structure OnSt (N sb m : Nat) (cv : Value) (o : Int) (W : World) (ov : Value) (ord : List Nat) (cnt : Nat) (f : Lit → Option (DataW Unit)) : Prop where
  sbk : W.heap[sb]? = some (.cells #[.int .i64 o, cv, ov, .map (some m)] 94 (0, 0))
  row : W.ownsRow N 3 1 ov ord.length (ordV ord)
  map : MapF W 9 (plainElem Tryd.prog 3) m cnt f
  nsb : ov.ownBlock ≠ some sb
  nm : ov.ownBlock ≠ some m
  hsb : N ≤ sb
  hm : N ≤ m
  hne : sb ≠ m
/-- What stays: every block but the search's own, its map, its order's row. -/
structure Fr (sb m : Nat) (W : World) (ov : Value) (W' : World) (ov' : Value) : Prop where
  os : W'.os = W.os
  tape : W'.tape = W.tape
  output : W'.output = W.output
  size : W.heap.size ≤ W'.heap.size
  kept : ∀ k, k < W.heap.size → k ≠ sb → k ≠ m → ov.ownBlock ≠ some k → W'.heap[k]? = W.heap[k]? ∧ ov'.ownBlock ≠ some k

theorem lt_of_heap {w : World} {b : Nat} {x : Obj} (h : w.heap[b]? = some x) : b < w.heap.size := (Array.getElem?_eq_some_iff.1 h).1
section
variable {N sb m : Nat} {cv : Value} {o : Int} {W W' W2 : World} {ov ov' ov2 : Value} {ord : List Nat} {cnt : Nat} {f : Lit → Option (DataW Unit)}

theorem grown_of_below (h : Below W.heap.size W W') (row : Option Nat) : W.grownBy W' row := ⟨h.os, h.tape, h.output, h.size, fun k hk _ => h.block k hk⟩
theorem OnSt.below (h : OnSt N sb m cv o W ov ord cnt f) (hb : Below W.heap.size W W') : OnSt N sb m cv o W' ov ord cnt f :=
  ⟨(hb.block sb (lt_of_heap h.sbk)).trans h.sbk, own_below h.row hb, h.map.kept (grown_of_below hb none) (by simp), h.nsb, h.nm, h.hsb, h.hm, h.hne⟩
theorem Fr.below (hb : Below W.heap.size W W') : Fr sb m W ov W' ov := ⟨hb.os, hb.tape, hb.output, hb.size, fun k hk _ _ h => ⟨hb.block k hk, h⟩⟩
theorem Fr.refl : Fr sb m W ov W ov := .below (Below.refl _ _)
theorem Fr.trans (h : Fr sb m W ov W' ov') (k : Fr sb m W' ov' W2 ov2) : Fr sb m W ov W2 ov2 :=
  ⟨k.os.trans h.os, k.tape.trans h.tape, k.output.trans h.output, Nat.le_trans h.size k.size, fun j hj h1 h2 h3 => by
    obtain ⟨a, b⟩ := h.kept j hj h1 h2 h3
    obtain ⟨c, d⟩ := k.kept j (Nat.lt_of_lt_of_le hj h.size) h1 h2 b
    exact ⟨c.trans a, d⟩⟩
theorem row_block {w : World} {B e k n : Nat} {v : Value} {xs : List Value} (h : w.ownsRow B e k v n xs) {g : Nat} (hg : v.ownBlock = some g) : B ≤ g ∧ g < w.heap.size := by
  rcases h.2 with ⟨rfl, _⟩ | ⟨g', cap, cur, rfl, h1, h2, _⟩
  · simp [Value.ownBlock] at hg
  · simp [Value.ownBlock] at hg
    subst hg
    exact ⟨h1, lt_of_heap h2⟩
theorem Fr.low (h : OnSt N sb m cv o W ov ord cnt f) (k : Fr sb m W ov W' ov') : Below N W W' :=
  ⟨k.os, k.tape, k.output, k.size, fun j hj => (k.kept j (by have := lt_of_heap h.sbk; have := h.hsb; omega) (by have := h.hsb; omega) (by have := h.hm; omega)
    (fun e => by have := (row_block h.row e).1; omega)).1⟩

/-- A state's numbers, in none of the search's blocks. -/
def StOk (sb m : Nat) (ov : Value) (W : World) (v : Value) (s : List Int) : Prop :=
  ∃ ao c, v = .slice ao s.length c ∧ (s = [] ∨ ∃ g p, ao = some ⟨g, p, none⟩ ∧ g ≠ sb ∧ g ≠ m ∧ ov.ownBlock ≠ some g ∧ ∀ i, i < s.length → W.cell? ⟨g, p + i, none⟩ = some (.int .i64 (s.getD i 0)))
theorem StOk.nums {v : Value} {s : List Int} (h : StOk sb m ov W v s) : Nums W v s := by
  obtain ⟨ao, c, e, h⟩ := h
  rcases h with h | ⟨g, p, h1, _, _, _, h2⟩
  · exact ⟨ao, c, e, .inl h⟩
  · exact ⟨ao, c, e, .inr ⟨g, p, h1, h2⟩⟩
theorem StOk.fr {v : Value} {s : List Int} (h : StOk sb m ov W v s) (k : Fr sb m W ov W' ov') : StOk sb m ov' W' v s := by
  obtain ⟨ao, c, e, h⟩ := h
  rcases h with h | ⟨g, p, h1, h2, h3, h4, h5⟩
  · exact ⟨ao, c, e, .inl h⟩
  · cases s with
    | nil => exact ⟨ao, c, e, .inl rfl⟩
    | cons y s =>
      have hlt : g < W.heap.size := World.block_lt_of_cell? W _ (h5 0 (by simp))
      obtain ⟨a, b⟩ := k.kept g hlt h2 h3 h4
      exact ⟨ao, c, e, .inr ⟨g, p, h1, h2, h3, b, fun i hi => (World.cell?_of_block (a := ⟨g, p + i, none⟩) a).trans (h5 i hi)⟩⟩
theorem StOk.new {v : Value} {s : List Int} (h : OnSt N sb m cv o W ov ord cnt f) (hv : OwnNums W.heap.size W' v s) : StOk sb m ov W' v s := by
  rcases hv with ⟨rfl, rfl⟩ | ⟨g, p, c, cur, rfl, hg, hb, hc, hs, hx⟩
  · exact ⟨none, 0, rfl, .inl rfl⟩
  · refine ⟨_, c, rfl, .inr ⟨g, p, rfl, ?_, ?_, ?_, fun i hi => by rw [cell_of hb]; exact hx i hi⟩⟩
    · have := lt_of_heap h.sbk
      omega
    · have := h.map.lt
      omega
    · intro e
      have := (row_block h.row e).2
      omega

theorem OnSt.set2 (h : OnSt N sb m cv o W ov ord cnt f) {v' : Value} {ord' : List Nat} (hr : W.ownsRow N 3 1 v' ord'.length (ordV ord')) (h1 : v'.ownBlock ≠ some sb) (h2 : v'.ownBlock ≠ some m) :
    OnSt N sb m cv o (W.setCell ⟨sb, 2, none⟩ v') v' ord' cnt f := by
  have hg : W.grownBy (W.setCell ⟨sb, 2, none⟩ v') (some sb) := ⟨rfl, rfl, rfl, by simp [World.setCell], fun k _ hk => Below.heap_setCell _ _ _ _ (fun e => hk (by simp [e]))⟩
  exact ⟨set_at h.sbk 2 v', hr.kept hg (.inr h1), h.map.kept hg (by have := h.hne; simp; omega), h1, h2, h.hsb, h.hm, h.hne⟩
theorem Fr.set2 (h : OnSt N sb m cv o W ov ord cnt f) {v' : Value} (h3 : ∀ k, k < W.heap.size → ov.ownBlock ≠ some k → v'.ownBlock ≠ some k) : Fr sb m W ov (W.setCell ⟨sb, 2, none⟩ v') v' :=
  ⟨rfl, rfl, rfl, by simp [World.setCell], fun k hk h1 _ h2 => ⟨Below.heap_setCell _ _ _ _ h1, h3 k hk h2⟩⟩

/-- 's.order = append(s.order, i)'. -/
theorem OnSt.app (h : OnSt N sb m cv o W ov ord cnt f) {i : Nat} {x : Obj} {v' : Value} (ha : Appended (W.alloc x) N 3 1 ov ord.length 1 (ordV ord ++ [.int .i64 (i : Int)]) v' W2) :
    OnSt N sb m cv o (W2.setCell ⟨sb, 2, none⟩ v') v' (ord ++ [i]) cnt f ∧ Fr sb m W ov (W2.setCell ⟨sb, 2, none⟩ v') v' := by
  obtain ⟨h1, h2, h3⟩ := ha
  have hlt := lt_of_heap h.sbk
  have hmlt := h.map.lt
  have hA : OnSt N sb m cv o (W.alloc x) ov ord cnt f := h.below ((Below.refl _ _).alloc (Nat.le_refl _) _)
  have hB : OnSt N sb m cv o W2 ov ord cnt f → True := fun _ => trivial
  obtain ⟨g, cap, rfl, hcap, hg⟩ : ∃ g cap, v' = .slice (some ⟨g, 0, none⟩) (ord.length + 1) cap ∧ ord.length + 1 ≤ cap ∧ (ov.ownBlock = some g ∨ (W.alloc x).heap.size ≤ g) := by
    rcases h3 with ⟨_, _, h, _⟩ | ⟨g, cap, e, h, hg⟩
    · cases h
    · exact ⟨g, cap, e, h, hg⟩
  have hs1 : (W.alloc x).heap.size = W.heap.size + 1 := by simp
  have hgo : (Value.slice (some ⟨g, 0, none⟩) (ord.length + 1) cap).ownBlock = some g := rfl
  have n1 : g ≠ sb := by
    rcases hg with hg | hg
    · exact fun e => h.nsb (e ▸ hg)
    · omega
  have n2 : g ≠ m := by
    rcases hg with hg | hg
    · exact fun e => h.nm (e ▸ hg)
    · omega
  have hsb2 : W2.heap[sb]? = some (.cells #[.int .i64 o, cv, ov, .map (some m)] 94 (0, 0)) := (h2.block sb (by omega) (fun e => h.nsb e.symm)).trans hA.sbk
  have hm2 : MapF W2 9 (plainElem Tryd.prog 3) m cnt f := hA.map.kept h2 (fun e => h.nm e.symm)
  have hrow : W2.ownsRow N 3 1 (.slice (some ⟨g, 0, none⟩) (ord.length + 1) cap) (ord ++ [i]).length (ordV (ord ++ [i])) := by
    rw [ordV_snoc]
    simpa using h1
  have hgr : W2.grownBy (W2.setCell ⟨sb, 2, none⟩ (.slice (some ⟨g, 0, none⟩) (ord.length + 1) cap)) (some sb) := ⟨rfl, rfl, rfl, by simp [World.setCell], fun k _ hk => Below.heap_setCell _ _ _ _ (fun e => hk (by simp [e]))⟩
  refine ⟨⟨set_at hsb2 2 _, hrow.kept hgr (.inr (by rw [hgo]; simp; exact n1)), hm2.kept hgr (by simp; exact fun e => h.hne e.symm), by rw [hgo]; simp; exact n1, by rw [hgo]; simp; exact n2, h.hsb, h.hm, h.hne⟩, ?_⟩
  refine ⟨h2.os, h2.tape, h2.output, ?_, fun k hk k1 k2 k3 => ⟨?_, ?_⟩⟩
  · have := h2.size
    simp [World.setCell] at this ⊢
    omega
  · rw [Below.heap_setCell _ _ _ _ k1, h2.block k (by omega) (fun e => k3 e.symm)]
    exact Below.heap_alloc _ _ _ hk
  · rw [hgo]
    simp only [ne_eq, Option.some.injEq]
    rcases hg with hg | hg
    · exact fun e => k3 (e ▸ hg)
    · omega
theorem OnSt.app0 (h : OnSt N sb m cv o W ov ord cnt f) {i : Nat} {x : Obj} {v' : Value} (ha : Appended (W.alloc x) N 3 1 ov ord.length 1 (ordV ord ++ [.int .i64 (i : Int)]) v' W2) :
    W2.heap[sb]? = some (.cells #[.int .i64 o, cv, ov, .map (some m)] 94 (0, 0)) ∧ ∃ g cap, v' = .slice (some ⟨g, 0, none⟩) (ord.length + 1) cap := by
  obtain ⟨h1, h2, h3⟩ := ha
  have hlt := lt_of_heap h.sbk
  have hA : OnSt N sb m cv o (W.alloc x) ov ord cnt f := h.below ((Below.refl _ _).alloc (Nat.le_refl _) _)
  refine ⟨(h2.block sb (by simp; omega) (fun e => h.nsb e.symm)).trans hA.sbk, ?_⟩
  rcases h3 with ⟨_, _, h, _⟩ | ⟨g, cap, e, h, hg⟩
  · cases h
  · exact ⟨g, cap, e⟩
/-- Where the order's row lies, when it holds something. -/
theorem OnSt.slice {i : Nat} (h : OnSt N sb m cv o W ov (ord ++ [i]) cnt f) : ∃ g cap, ov = .slice (some ⟨g, 0, none⟩) (ord.length + 1) cap ∧ ord.length + 1 ≤ cap ∧ cap ≤ maxLen := by
  rcases h.row.2 with ⟨_, h⟩ | ⟨g, cap, cur, e, _, _, h1, h2, _⟩
  · simp at h
  · exact ⟨g, cap, by rw [e]; simp, by simpa using h1, h2⟩
/-- 's.order = s.order[:len(s.order)-1]'. -/
theorem OnSt.cut {i g cap : Nat} (h : OnSt N sb m cv o W (.slice (some ⟨g, 0, none⟩) (ord.length + 1) cap) (ord ++ [i]) cnt f) :
    OnSt N sb m cv o (W.setCell ⟨sb, 2, none⟩ (.slice (some ⟨g, 0, none⟩) ord.length cap)) (.slice (some ⟨g, 0, none⟩) ord.length cap) ord cnt f ∧
    Fr sb m W (.slice (some ⟨g, 0, none⟩) (ord.length + 1) cap) (W.setCell ⟨sb, 2, none⟩ (.slice (some ⟨g, 0, none⟩) ord.length cap)) (.slice (some ⟨g, 0, none⟩) ord.length cap) := by
  have hr : W.ownsRow N 3 1 (.slice (some ⟨g, 0, none⟩) ord.length cap) ord.length (ordV ord) := by
    rcases h.row.2 with ⟨h, _⟩ | ⟨g', cap', cur, e, h1, h2, h3, h4, h5, h6⟩
    · cases h
    · rw [List.length_append, List.length_singleton] at e
      cases e
      refine ⟨by simp [ordV], .inr ⟨g, cap, cur, rfl, h1, h2, by simp at h3; omega, h4, h5, ?_⟩⟩
      have h7 := congrArg (List.take ord.length) h6
      rw [ordV_snoc, List.take_take, List.length_append, Nat.mul_one, List.take_append_of_le_length (by simp [ordV]), List.take_of_length_le (l := ordV ord) (by simp [ordV])] at h7
      rw [Nat.mul_one, ← h7]
      congr 1
      simp
  exact ⟨h.set2 hr (h.nsb) (h.nm), Fr.set2 h (fun k _ hk => hk)⟩
/-- 's.dead[at] = 1'. -/
theorem OnSt.put (h : OnSt N sb m cv o W ov ord cnt f) {f' : Lit → Option (DataW Unit)} {cnt' : Nat} (hm : MapF W' 9 (plainElem Tryd.prog 3) m cnt' f') (hg : W.grownBy W' (some m)) :
    OnSt N sb m cv o W' ov ord cnt' f' ∧ Fr sb m W ov W' ov :=
  ⟨⟨(hg.block sb (lt_of_heap h.sbk) (by have := h.hne; simp; exact this)).trans h.sbk, h.row.kept hg (.inr h.nm), hm, h.nsb, h.nm, h.hsb, h.hm, h.hne⟩,
    ⟨hg.os, hg.tape, hg.output, hg.size, fun k hk h1 h2 h3 => ⟨hg.block k hk (by simp; exact h2), h3⟩⟩⟩
theorem OnSt.up (h : OnSt N sb m cv o W ov ord cnt f) {cnt' : Nat} (hc : cnt ≤ cnt') : OnSt N sb m cv o W ov ord cnt' f := by
  obtain ⟨D, h1, h2⟩ := h.map
  exact ⟨h.sbk, h.row, ⟨D, h1.mono hc, h2⟩, h.nsb, h.nm, h.hsb, h.hm, h.hne⟩
end

/-- The dead points are dead. -/
def DeadOk (o : Int) (S : List Cl) (f : Lit → Option (DataW Unit)) : Prop :=
  ∀ kl x, f kl = some x → x = .lit (.int .i64 1) ∧ ∀ (d : Nat) s, kl = .string (pointS (d : Int) s) → srch o S (S.length - pc S.length d) d s = none
theorem DeadOk.put {o : Int} {S : List Cl} {f : Lit → Option (DataW Unit)} (h : DeadOk o S f) {d : Nat} {s : List Int} (hd : srch o S (S.length - pc S.length d) d s = none) :
    DeadOk o S (putF f (.string (pointS (d : Int) s)) (.lit (.int .i64 1))) := by
  intro kl x hx
  unfold putF at hx
  by_cases e : kl = .string (pointS (d : Int) s)
  · rw [if_pos e] at hx
    refine ⟨(Option.some.inj hx).symm, fun d2 s2 e2 => ?_⟩
    rw [e] at e2
    obtain ⟨e3, e4⟩ := pointS_inj (Lit.string.inj e2)
    have : d = d2 := by omega
    subst this e4
    exact hd
  · rw [if_neg e] at hx
    exact h kl x hx
theorem key_point {l : List UInt8} (h : l.length ≤ maxLen) : keyOf Tryd.prog 9 (.string ⟨l.toArray⟩) = some (.string l) := by
  have : (ByteArray.mk l.toArray).size ≤ maxLen := by simpa [ByteArray.size] using h
  simp [keyOf, Tryd.underlying9, mapKey, this]
theorem keyed_string : Keyed Tryd.prog 9 := string_keyed Tryd.underlying9
end Go.Proofs.YtfcaebceklhbkaaDoor
