/-
  An append to a slice of the call's own, of elements of k cells each: where the row lies behind it (in the block where it lay, or in a new one). No program in sight.
-/
import Derived.Test.YtdmhlhoimaeacaaDoorRows
import Derived.WalkKit
import Derived.WalkLawsBesides
import Derived.WalkSpells
import Derived.Deep.QuietTactic
import Derived.BigQuiet
import Derived.Lib.Hide
import Derived.Below
import Derived.Lib.OwnKind
import Derived.Laws.OwnMore
namespace Go.Proofs.YtdmhlhoimaeacaaDoor
open Go.RowKit
set_option linter.unusedVariables false

/-- x is a slice of m elements of k cells each that read as news (nil or not). -/
def SrcOf (w : World) (k : Nat) (x : Value) (m : Nat) (news : List Value) : Prop :=
  news.length = m * k ∧ (∀ u ∈ news, u.oneCell' = true) ∧ ((x = .slice none 0 0 ∧ m = 0) ∨ ∃ ad c, x = .slice (some ad) m c ∧ ∀ j u, news[j]? = some u → w.cell? (ad.add j) = some u)

/-- What an append leaves: the old value where nothing was appended to a nil slice; else a row at g: where it lay, or new. -/
def Appended (w : World) (base e k : Nat) (v : Value) (n m : Nat) (ys : List Value) (v' : Value) (w' : World) : Prop :=
  w'.ownsRow base e k v' (n + m) ys ∧ w.grownBy w' v.ownBlock ∧
    ((v' = .slice none 0 0 ∧ v = .slice none 0 0 ∧ m = 0 ∧ n = 0) ∨ ∃ g cap, v' = .slice (some ⟨g, 0, none⟩) (n + m) cap ∧ n + m ≤ cap ∧ (v.ownBlock = some g ∨ w.heap.size ≤ g))

theorem run_append_row {P : Program} (w : World) (base : Nat) (t ty e : TypeId) (i : TypeInfo) (z : Value) (k bytes : Nat) (ht : P.underlying t = some (.slice e)) (hi : P.info? e = some i) (hz : i.zero = some z)
    (hsize : i.size = k) (hk : 0 < k) (hby : i.bytes = bytes) (hzs : z.cells.size = k) (v : Value) (n : Nat) (xs : List Value) (hown : w.ownsRow base e k v n xs) (x : Value) (m : Nat) (news : List Value) (hx : SrcOf w k x m news)
    (h63 : n + m ≤ maxLen) (hbytes : (n + m) * bytes ≤ 140737488355328) (hbase : base ≤ w.heap.size) :
    ∃ v' w', (Builtin.append_ #[t, t] ty #[v, x]).run P w = .ok v' w' ∧ Appended w base e k v n m (xs ++ news) v' w' := by
  obtain ⟨hl, h1, hx⟩ := hx
  rcases hx with ⟨rfl, rfl⟩ | ⟨ad, c, rfl, hnews⟩
  · have hn : news = [] := List.eq_nil_of_length_eq_zero (by simpa using hl)
    subst hn
    refine ⟨v, w, run_append_owned_none (P := P) (w := w) base t ty e i k ht hi v n xs hown, by simpa using hown, ⟨rfl, rfl, rfl, Nat.le_refl _, fun _ _ _ => rfl⟩, ?_⟩
    rcases hown.2 with ⟨rfl, rfl⟩ | ⟨g, cap, cur, rfl, hb, hg, hc, _⟩
    · exact .inl ⟨rfl, rfl, rfl, rfl⟩
    · exact .inr ⟨g, cap, rfl, hc, .inl rfl⟩
  · subst hby
    have hsmall : n + m ≤ 9223372036854775807 := by simp only [maxLen] at h63; omega
    have hl' : news.length = m * i.size := by rw [hl, hsize]
    have hxl : xs.length = n * k := hown.1
    have hlen : (xs ++ news).length = (n + m) * k := by rw [List.length_append, hxl, hl, Nat.add_mul]
    have grown : ∀ (old : Nat), old < n + m → ∀ (row : Option Nat),
        (w.drew.alloc (.cells (xs.toArray ++ news.toArray ++ Builtin.zeroCells z.cells (grownCap w (n + m) old e - (n + m))) e)).ownsRow base e k
          (.slice (some ⟨w.heap.size, 0, none⟩) (n + m) (grownCap w (n + m) old e)) (n + m) (xs ++ news) ∧
        w.grownBy (w.drew.alloc (.cells (xs.toArray ++ news.toArray ++ Builtin.zeroCells z.cells (grownCap w (n + m) old e - (n + m))) e)) row ∧ n + m ≤ grownCap w (n + m) old e := by
      intro old ho row
      have hge := grownCap_ge w (n + m) old e
      have hcm : grownCap w (n + m) old e ≤ maxLen := grownCap_le_maxLen w (n + m) old e h63
      refine ⟨⟨hlen, .inr ⟨w.heap.size, _, _, rfl, hbase, heap_alloc_new w.drew _, hge, hcm, ?_, ?_⟩⟩, ⟨rfl, rfl, rfl, by simp, fun k hk _ => Below.heap_alloc w.drew _ k hk⟩, hge⟩
      · simp only [Array.size_append, List.size_toArray, size_zeroCells, hzs, hxl, hl]
        rw [← Nat.add_mul, ← Nat.add_mul, Nat.add_sub_cancel' hge]
      · simp only [Array.toList_append, List.append_assoc]
        rw [← List.append_assoc, ← hlen]
        exact List.take_left
    rcases hown.2 with ⟨rfl, rfl⟩ | ⟨g, cap, cur, rfl, hbg, hg, hnc, hcm, hcs, htake⟩
    · have hx0 : xs = [] := List.eq_nil_of_length_eq_zero (by simpa using hxl)
      subst hx0
      by_cases hm : m = 0
      · subst hm
        have hn : news = [] := List.eq_nil_of_length_eq_zero (by simpa using hl)
        subst hn
        refine ⟨.slice none 0 0, w, ?_, World.ownsRow_nil w base e k, ⟨rfl, rfl, rfl, Nat.le_refl _, fun _ _ _ => rfl⟩, .inl ⟨rfl, rfl, rfl, rfl⟩⟩
        simp [Builtin.append_, run_underlying ht, sizeOf, typeInfo, hi, Builtin.lenOf, Builtin.firstCells, loadCells, loadCellsFrom]
      · have hr := run_append_nil (P := P) w t ty e i z ht hi hz ad m c news hl' hnews (by omega) (by omega) (by have hb := hbytes; simp only [Nat.zero_add] at hb; omega)
        have hgr := grown 0 (by omega) (Value.ownBlock (.slice none 0 0))
        simp only [Nat.zero_add, List.nil_append, Array.empty_append] at hgr ⊢
        exact ⟨_, _, hr, by rw [Nat.zero_add]; exact hgr.1, hgr.2.1, .inr ⟨w.heap.size, grownCap w m 0 e, by rw [Nat.zero_add], by rw [Nat.zero_add]; exact hgr.2.2, .inr (Nat.le_refl _)⟩⟩
    · by_cases hroom : n + m ≤ cap
      · have hfit : n * i.size + news.length ≤ cur.size := by rw [hl, hcs, hsize, ← Nat.add_mul]; exact Nat.mul_le_mul_right _ hroom
        have hr := run_append_room (P := P) w t ty e i ht hi g n cap cur hg ad m c news hl' hnews h1 hroom hfit
        refine ⟨_, _, hr, ⟨hlen, .inr ⟨g, cap, _, rfl, hbg, setRow_heap w g cur _ e _ hg, hroom, hcm, ?_, ?_⟩⟩, ⟨rfl, rfl, rfl, by simp, fun k _ hk => setRow_other w g k _ (fun e => hk (by simp [Value.ownBlock, e]))⟩, .inr ⟨g, cap, rfl, hroom, .inl rfl⟩⟩
        · simp only [List.size_toArray, List.length_append, List.length_take, List.length_drop, Array.length_toList]
          omega
        · rw [hsize, htake, ← hlen]
          exact List.take_left
      · have holds : ∀ j u, xs[j]? = some u → w.cell? ((⟨g, 0, none⟩ : Addr).add j) = some u := hown.cells (g := g) rfl
        have hr := run_append_grow (P := P) w t ty e i z ht hi hz ⟨g, 0, none⟩ n cap xs (by rw [hxl, hsize]) holds ad m c news hl' hnews (by omega) (by omega) (growslice_fits (by omega) hbytes)
        have hgr := grown cap (by omega) (Value.ownBlock (.slice (some ⟨g, 0, none⟩) n cap))
        exact ⟨_, _, hr, hgr.1, hgr.2.1, .inr ⟨w.heap.size, _, rfl, hgr.2.2, .inr (Nat.le_refl _)⟩⟩

theorem wpList_append_row {P : Program} {w : World} {ops : Array Oper} {rest : List Oper} {o : Oper} {a : Act} {Q : Exit → Act → World → Prop} (hgd : o.guard = none) (s x : Operand) (t : TypeId)
    (ho : o.op = .call { callee := .builtin .append, args := #[s, x], argTypes := #[t, t] })
    (base : Nat) (e : TypeId) (i : TypeInfo) (z : Value) (k bytes : Nat) (ht : P.underlying t = some (.slice e)) (hi : P.info? e = some i) (hz : i.zero = some z)
    (hsize : i.size = k) (hk : 0 < k) (hby : i.bytes = bytes) (hzs : z.cells.size = k)
    (v : Value) (n : Nat) (xs : List Value) (hs : a.eval s = v) (hown : w.ownsRow base e k v n xs) (m : Nat) (news : List Value) (hx : SrcOf w k (a.eval x) m news)
    (h63 : n + m ≤ maxLen) (hbytes : (n + m) * bytes ≤ 140737488355328) (hbase : base ≤ w.heap.size)
    (h : ∀ v' w', Appended w base e k v n m (xs ++ news) v' w' → wpList P ops Q rest (a.put o.dst v') w') : wpList P ops Q (o :: rest) a w := by
  refine wpList_plain hgd fun _ hK => ?_
  obtain ⟨v', w', hr, h2⟩ := run_append_row (P := P) w base t o.type e i z k bytes ht hi hz hsize hk hby hzs v n xs hown (a.eval x) m news hx h63 hbytes hbase
  unfold Oper.wp execOp
  simp only [ho, resolve, invoke, builtin, Sem.run_bind, Sem.run_pure, Result.andThen_ok, List.map_toArray, List.map_cons, List.map_nil, hs, hr]
  exact hK _ _ (h v' w' h2)
/-- What is known, kept out of the walk's sight. -/
theorem cell_of {w : World} {b : Nat} {c : Array Value} {t : TypeId} (h : w.heap[b]? = some (.cells c t (0, 0))) (i : Nat) : w.cell? ⟨b, i, none⟩ = c[i]? := by
  simp [World.cell?, h]
theorem free_of {w : World} {b : Nat} {c : Array Value} {t : TypeId} (h : w.heap[b]? = some (.cells c t (0, 0))) (i : Nat) : w.frozen? ⟨b, i, none⟩ = false := by
  simp [World.frozen?, h]
theorem addr_add (b o i : Nat) : (⟨b, o, none⟩ : Addr).add i = ⟨b, o + i, none⟩ := by
  unfold Addr.add
  split
  · rename_i h; subst h; rfl
  · rfl
theorem cells_new (w : World) (xs : Array Value) (T : TypeId) (j : Nat) (u : Value) (h : xs.toList[j]? = some u) : (w.alloc (.cells xs T)).cell? ((⟨w.heap.size, 0, none⟩ : Addr).add j) = some u := by
  have h1 := heap_alloc_new w (.cells xs T)
  rw [addr_add, cell_of h1, Nat.zero_add]
  simpa using h
theorem info_parts {P : Program} {t : TypeId} {z : Value} {k b : Nat} (h : (P.info? t).map (fun i => (i.zero, i.size, i.bytes)) = some (some z, k, b)) : ∃ i, P.info? t = some i ∧ i.zero = some z ∧ i.size = k ∧ i.bytes = b := by
  cases e : P.info? t with
  | none => rw [e] at h; cases h
  | some i =>
    rw [e] at h
    simp at h
    exact ⟨i, rfl, h.1, h.2.1, h.2.2⟩

/-- One element of k cells, laid behind another block, as append takes it. -/
theorem src_one (w : World) (o1 : Obj) (cs : Array Value) (T k : Nat) (hk : cs.size = k) (h1 : ∀ u ∈ cs.toList, u.oneCell' = true) :
    SrcOf ((w.alloc o1).alloc (.cells cs T)) k (.slice (some ⟨w.heap.size + 1, 0, none⟩) 1 1) 1 cs.toList := by
  refine ⟨by simpa using hk, h1, .inr ⟨⟨w.heap.size + 1, 0, none⟩, 1, rfl, fun j u hu => ?_⟩⟩
  have := cells_new (w.alloc o1) cs T j u hu
  rwa [show (w.alloc o1).heap.size = w.heap.size + 1 by simp] at this
theorem src_one0 (w : World) (cs : Array Value) (T k : Nat) (hk : cs.size = k) (h1 : ∀ u ∈ cs.toList, u.oneCell' = true) :
    SrcOf (w.alloc (.cells cs T)) k (.slice (some ⟨w.heap.size, 0, none⟩) 1 1) 1 cs.toList :=
  ⟨by simpa using hk, h1, .inr ⟨⟨w.heap.size, 0, none⟩, 1, rfl, fun j u hu => cells_new w cs T j u hu⟩⟩
theorem hid_eq {α : Sort _} {a b : α} (h : Hid (a = b)) : a = b := h.out
theorem own_below {w w' : World} {N e k n : Nat} {v : Value} {xs : List Value} (h : w.ownsRow N e k v n xs) (hb : Below w.heap.size w w') : w'.ownsRow N e k v n xs := by
  refine ⟨h.1, ?_⟩
  rcases h.2 with hn | ⟨g, cap, cur, rfl, h1, h2, h3⟩
  · exact .inl hn
  · exact .inr ⟨g, cap, cur, rfl, h1, (hb.block g (Array.getElem?_eq_some_iff.1 h2).1).trans h2, h3⟩
/-- A number of 64 bits. -/
def In64 (n : Int) : Prop := -9223372036854775808 ≤ n ∧ n ≤ 9223372036854775807
theorem own_base {w : World} {B N e k n : Nat} {v : Value} {xs : List Value} (h : w.ownsRow B e k v n xs) (hb : N ≤ B) : w.ownsRow N e k v n xs := by
  refine ⟨h.1, ?_⟩
  rcases h.2 with hn | ⟨g, cap, cur, rfl, h1, h2, h3⟩
  · exact .inl hn
  · exact .inr ⟨g, cap, cur, rfl, by omega, h2, h3⟩

/-- A row of the call's own, while one of another kind grows. -/
theorem own_other {w w1 : World} {N e k n e' : Nat} {v v' : Value} {xs : List Value} {k' n' : Nat} {xs' : List Value} {N' : Nat} (h : w.ownsRow N e k v n xs) (h' : w.ownsRow N' e' k' v' n' xs') (hg : w.grownBy w1 v'.ownBlock) (hne : e ≠ e') : w1.ownsRow N e k v n xs := by
  refine h.kept hg ?_
  cases hv : v.ownBlock with
  | none => exact .inl rfl
  | some g =>
    right
    intro e2
    obtain ⟨c, fz, h1⟩ := Lib.ownsRow_kind h g hv
    obtain ⟨c', fz', h2⟩ := Lib.ownsRow_kind h' g e2.symm
    rw [h1] at h2
    cases h2
    exact hne rfl
theorem results_tmp_cell {fn : Func} {p u : Tmp} {ty : TypeId} (h : fn.results = #[.tmp u, .cell p ty]) (tmps : Array Value) (P : Program) (w : World) (v : Value) (x : Addr) (hp : tmps.getD p undef = .pointer (some x)) (hl : (loadVar ty x).run P w = .ok v w) :
    (results fn tmps).run P w = .ok (.tuple #[tmps.getD u undef, v]) w := by
  simp only [results, h]
  have hp' : tmps[p]?.getD undef = .pointer (some x) := by simpa using hp
  simp [Result.andThen, hp', asAddr, hl]
theorem below_drewN {B : Nat} {a w : World} (h : Below B a w) (k : Nat) : Below B a (w.drewN k) := ⟨h.os, h.tape, h.output, h.size, h.block⟩
end Go.Proofs.YtdmhlhoimaeacaaDoor
