/-
  The law JudgeClean: items and readers as it makes them, in memory.
-/
import Derived.Test.YtfcaebceklhbkaaDoorCleanLaw
import Derived.Test.YtfcaebceklhbkaaDoorAll
import Derived.Lib.OwnKind
import Derived.Laws.OwnMore
namespace Go.Proofs.YtfcaebceklhbkaaDoor
open Go.RowKit
set_option linter.unusedVariables false

def Itm.cells (t : Itm) : List Value := [.int .i64 t.a, .int .i64 t.b, .int .i64 t.d]
def icells (T : List Itm) : List Value := T.flatMap Itm.cells
theorem icells_length : ∀ T : List Itm, (icells T).length = T.length * 3
  | [] => rfl
  | t :: T => by
    have := icells_length T
    unfold icells at this ⊢
    rw [List.flatMap_cons, List.length_append, this]
    simp [Itm.cells]
    omega
theorem icells_snoc (T : List Itm) (t : Itm) : icells (T ++ [t]) = icells T ++ t.cells := by simp [icells]
theorem icells_get : ∀ (T : List Itm) (i j : Nat), i < T.length → j < 3 → (icells T)[i * 3 + j]? = (T.getD i default).cells[j]?
  | [], i, j, h, _ => by simp at h
  | t :: T, 0, j, _, hj => by
    unfold icells
    rw [List.flatMap_cons, List.getElem?_append_left (by simp [Itm.cells]; omega)]
    simp
  | t :: T, i + 1, j, h, hj => by
    have := icells_get T i j (by simpa using h) hj
    unfold icells at this ⊢
    rw [List.flatMap_cons, List.getElem?_append_right (by simp [Itm.cells]; omega), show (i + 1) * 3 + j - t.cells.length = i * 3 + j by simp [Itm.cells]; omega, this]
    simp
theorem itm_one (t : Itm) : ∀ u ∈ t.cells, u.oneCell' = true := by intro u hu; simp [Itm.cells] at hu; rcases hu with rfl | rfl | rfl <;> rfl
def Seen4.cells (t : Seen4) : List Value := [.int .i64 t.q, .int .i64 t.a, .int .i64 t.b, .int .i64 t.d]
def scells (S : List Seen4) : List Value := S.flatMap Seen4.cells
theorem scells_length : ∀ T : List Seen4, (scells T).length = T.length * 4
  | [] => rfl
  | t :: T => by
    have := scells_length T
    unfold scells at this ⊢
    rw [List.flatMap_cons, List.length_append, this]
    simp [Seen4.cells]
    omega
theorem scells_append (S R : List Seen4) : scells (S ++ R) = scells S ++ scells R := by simp [scells]
theorem scells_snoc (T : List Seen4) (t : Seen4) : scells (T ++ [t]) = scells T ++ t.cells := by simp [scells]
theorem scells_get : ∀ (T : List Seen4) (i j : Nat), i < T.length → j < 4 → (scells T)[i * 4 + j]? = (T.getD i default).cells[j]?
  | [], i, j, h, _ => by simp at h
  | t :: T, 0, j, _, hj => by
    unfold scells
    rw [List.flatMap_cons, List.getElem?_append_left (by simp [Seen4.cells]; omega)]
    simp
  | t :: T, i + 1, j, h, hj => by
    have := scells_get T i j (by simpa using h) hj
    unfold scells at this ⊢
    rw [List.flatMap_cons, List.getElem?_append_right (by simp [Seen4.cells]; omega), show (i + 1) * 4 + j - t.cells.length = i * 4 + j by simp [Seen4.cells]; omega, this]
    simp
theorem seen_one' (t : Seen4) : ∀ u ∈ t.cells, u.oneCell' = true := by intro u hu; simp [Seen4.cells] at hu; rcases hu with rfl | rfl | rfl | rfl <;> rfl
theorem scells_one (S : List Seen4) : ∀ u ∈ scells S, u.oneCell' = true := by
  intro u hu
  obtain ⟨c, _, h⟩ := List.mem_flatMap.1 hu
  exact seen_one' c u h

/-- A row of the call's own, while one of another kind grows. -/
theorem own_other {w w1 : World} {N e k n e' : Nat} {v v' : Value} {xs : List Value} {k' n' : Nat} {xs' : List Value} {N' : Nat} (h : w.ownsRow N e k v n xs) (h' : w.ownsRow N' e' k' v' n' xs') (hg : w.grownBy w1 v'.ownBlock) (hne : e ≠ e') : w1.ownsRow N e k v n xs := by
  refine h.kept hg ?_
  cases hv : v.ownBlock with
  | none => exact .inl rfl
  | some g =>
    right
    intro e2
    obtain ⟨c, fz, h1⟩ := Lib.ownsRow_kind h g hv
    obtain ⟨c', fz', h2⟩ := Lib.ownsRow_kind h' g e2.symm
    rw [h1] at h2
    cases h2
    exact hne rfl
theorem item_row {w : World} {N : Nat} {ao : Option Addr} {n c : Nat} {T : List Itm} (hl : T.length = n) (h : w.ownsRow N 73 3 (.slice ao n c) n (icells T)) : ItemRow w ao T := by
  cases T with
  | nil => exact .inl rfl
  | cons t T' =>
    right
    rcases h.2 with ⟨e, h0⟩ | ⟨g, cap, cur, e, _⟩
    · simp at hl; omega
    · cases e
      refine ⟨g, 0, rfl, fun i hi => ?_⟩
      have hc := fun j (hj : j < 3) => h.cellAt (i * 3 + j) (by omega)
      have hg := fun j (hj : j < 3) => icells_get (t :: T') i j hi hj
      refine ⟨?_, ?_, ?_⟩
      · have := (hc 0 (by omega)).trans (hg 0 (by omega)); rw [Nat.zero_add]; exact this
      · have := (hc 1 (by omega)).trans (hg 1 (by omega)); rw [Nat.zero_add]; exact this
      · have := (hc 2 (by omega)).trans (hg 2 (by omega)); rw [Nat.zero_add]; exact this
theorem seen_row {w : World} {N : Nat} {ao : Option Addr} {n c : Nat} {S : List Seen4} (hl : S.length = n) (h : w.ownsRow N 75 4 (.slice ao n c) n (scells S)) : SeenRow w ao S := by
  cases S with
  | nil => exact .inl rfl
  | cons t S' =>
    right
    rcases h.2 with ⟨e, h0⟩ | ⟨g, cap, cur, e, _⟩
    · simp at hl; omega
    · cases e
      refine ⟨g, 0, rfl, fun i hi => ?_⟩
      have hc := fun j (hj : j < 4) => h.cellAt (i * 4 + j) (by omega)
      have hg := fun j (hj : j < 4) => scells_get (t :: S') i j hi hj
      refine ⟨?_, ?_, ?_, ?_⟩
      · have := (hc 0 (by omega)).trans (hg 0 (by omega)); rw [Nat.zero_add]; exact this
      · have := (hc 1 (by omega)).trans (hg 1 (by omega)); rw [Nat.zero_add]; exact this
      · have := (hc 2 (by omega)).trans (hg 2 (by omega)); rw [Nat.zero_add]; exact this
      · have := (hc 3 (by omega)).trans (hg 3 (by omega)); rw [Nat.zero_add]; exact this

/-- The items of these writers. -/
def itemsF (f : Nat → Int) : Nat → List Itm
  | 0 => []
  | i + 1 => itemsF f i ++ [⟨f i % 4, cntA (itemsF f i) (f i % 4) i, (i : Int) * 3⟩]
theorem itemsF_length (f : Nat → Int) : ∀ i, (itemsF f i).length = i
  | 0 => rfl
  | i + 1 => by simp [itemsF, itemsF_length f i]
theorem cntA_append (T R : List Itm) (x : Int) : ∀ i, i ≤ T.length → cntA (T ++ R) x i = cntA T x i
  | 0, _ => rfl
  | i + 1, h => by
    have e : (T ++ R).getD i default = T.getD i default := by
      simp only [List.getD]
      rw [List.getElem?_append_left (by omega)]
    simp only [cntA, cntA_append T R x i (by omega)]
    rw [e]
theorem itemsF_get (f : Nat → Int) : ∀ n i, i < n → (itemsF f n).getD i default = ⟨f i % 4, cntA (itemsF f n) (f i % 4) i, (i : Int) * 3⟩
  | 0, i, h => by omega
  | n + 1, i, h => by
    have hl := itemsF_length f n
    simp only [itemsF]
    rcases Nat.lt_or_ge i n with h1 | h1
    · have ih := itemsF_get f n i h1
      rw [cntA_append _ _ _ i (by omega)]
      rw [← ih]
      simp only [List.getD]
      rw [List.getElem?_append_left (by omega)]
    · obtain rfl : i = n := by omega
      rw [cntA_append _ _ _ i (by omega)]
      simp only [List.getD]
      rw [List.getElem?_append_right (by omega), hl]
      simp
theorem itemsF_good (f : Nat → Int) (n : Nat) (hn : n ≤ 4000000) : GoodT (itemsF f n) := by
  refine ⟨fun i hi => ?_, fun i hi => ?_, by rw [itemsF_length]; exact hn⟩
  · rw [itemsF_length] at hi
    rw [itemsF_get f n i hi]
  · rw [itemsF_length] at hi
    rw [itemsF_get f n i hi]
    show (i : Int) * 3 = 3 * i
    omega
theorem cntA_step (f : Nat → Int) (i : Nat) (x : Int) : cntA (itemsF f (i + 1)) x (i + 1) = cntA (itemsF f i) x i + if f i % 4 = x then 1 else 0 := by
  have hl := itemsF_length f i
  have e : (itemsF f (i + 1)).getD i default = ⟨f i % 4, cntA (itemsF f i) (f i % 4) i, (i : Int) * 3⟩ := by
    simp only [itemsF, List.getD]
    rw [List.getElem?_append_right (by omega), hl]
    simp
  simp only [cntA]
  rw [e]
  simp only [itemsF]
  rw [cntA_append _ _ _ i (by omega)]
/-- A run. -/
def runL (T : List Itm) (p m : Nat) : List Seen4 := (List.range m).map fun i => seenAt T (p + i)
theorem runL_length (T : List Itm) (p m : Nat) : (runL T p m).length = m := by simp [runL]
theorem runL_succ (T : List Itm) (p m : Nat) : runL T p (m + 1) = runL T p m ++ [seenAt T (p + m)] := by simp [runL, List.range_succ]
theorem runL_run {T : List Itm} {p m : Nat} (h : p + m ≤ T.length) : RunFrom T p (runL T p m) := by
  intro i hi
  rw [runL_length] at hi
  refine ⟨by omega, ?_⟩
  simp [runL, List.getD, hi]
theorem itemsF_in64 (f : Nat → Int) (hf : ∀ i, 0 ≤ f i % 4) (n : Nat) (hn : n ≤ 4000000) : Small3 (itemsF f n) := by
  intro i hi
  rw [itemsF_length] at hi
  have := cntA_le (itemsF f n) (f i % 4) i
  have h4 := hf i
  rw [itemsF_get f n i hi]
  unfold In64
  refine ⟨?_, ?_, ?_⟩
  · show _ ≤ f i % 4 ∧ f i % 4 ≤ _; omega
  · show _ ≤ ((cntA _ _ i : Nat) : Int) ∧ ((cntA _ _ i : Nat) : Int) ≤ _; omega
  · show _ ≤ (i : Int) * 3 ∧ (i : Int) * 3 ≤ _; omega
theorem seenAt_in64 {T : List Itm} (h : Small3 T) {q : Nat} (hq : q < T.length) (hl : T.length ≤ 4000000) : In64 (seenAt T q).q ∧ In64 (seenAt T q).a ∧ In64 (seenAt T q).b ∧ In64 (seenAt T q).d := by
  obtain ⟨h1, h2, h3⟩ := h q hq
  refine ⟨?_, h1, h2, h3⟩
  show In64 (q : Int)
  unfold In64
  omega
theorem runL_small {T : List Itm} (h : Small3 T) (hl : T.length ≤ 4000000) {p m : Nat} (hp : p + m ≤ T.length) : Small4 (runL T p m) := by
  intro i hi
  rw [runL_length] at hi
  have e : (runL T p m).getD i default = seenAt T (p + i) := by simp [runL, List.getD, hi]
  rw [e]
  exact seenAt_in64 h (by omega) hl

/-- A part of a row of the call's own, as append takes it. -/
theorem sub_src {w : World} {N g L c c' a m : Nat} {S : List Seen4} (h : w.ownsRow N 75 4 (.slice (some ⟨g, 0, none⟩) L c) L (scells S)) (hl : S.length = L) (ha : a + m ≤ L) : SrcOf w 4 (.slice (some ⟨g, a * 4, none⟩) m c') m (scells ((S.drop a).take m)) := by
  refine ⟨by rw [scells_length]; simp; omega, scells_one _, .inr ⟨_, c', rfl, fun j u hj => ?_⟩⟩
  have hjl : j < m * 4 := by
    have := (List.getElem?_eq_some_iff.1 hj).1
    rw [scells_length] at this
    simp at this
    omega
  rw [addr_add]
  have h1 := h.cellAt (a * 4 + j) (by omega)
  rw [h1]
  have e : j = j / 4 * 4 + j % 4 := by omega
  have h2 := scells_get ((S.drop a).take m) (j / 4) (j % 4) (by simp; omega) (by omega)
  have h3 := scells_get S (a + j / 4) (j % 4) (by omega) (by omega)
  rw [← e, hj] at h2
  rw [show (a + j / 4) * 4 + j % 4 = a * 4 + j by omega] at h3
  rw [h3, h2]
  congr 2
  simp only [List.getD]
  rw [List.getElem?_take_of_lt (by omega), List.getElem?_drop]
/-- A row of what was seen, grown. -/
theorem app_seen {w : World} {M n m : Nat} {v x : Value} {X Y : List Seen4} (hM : M ≤ w.heap.size) (h : w.ownsRow M 75 4 v n (scells X)) (hx : SrcOf w 4 x m (scells Y)) (hn : n ≤ 4000000) (hm : m ≤ 4000000) :
    ∃ v' w', (Builtin.append_ #[56, 56] 56 #[v, x]).run Tryd.prog w = .ok v' w' ∧ w'.ownsRow M 75 4 v' (n + m) (scells (X ++ Y)) ∧ Below M w w' := by
  have info75 : (Tryd.prog.info? 75).map (fun i => (i.zero, i.size, i.bytes)) = some (some (.agg #[.int .i64 0, .int .i64 0, .int .i64 0, .int .i64 0]), 4, 32) := by kernel_rfl
  obtain ⟨i, hi, hz, hs, hb⟩ := info_parts info75
  obtain ⟨v', w', hr, h1, h2, _⟩ := run_append_row (P := Tryd.prog) w M 56 56 75 i _ 4 32 Tryd.underlying56 hi hz hs (by decide) hb rfl v n _ h x m _ hx (by unfold maxLen; omega) (by omega) hM
  exact ⟨v', w', hr, by rw [scells_append]; exact h1, (Below.refl _ _).grown h2 hM (fun q hq => (h.lt q hq).1)⟩
theorem slip_parts (L : List Seen4) (k : Nat) (x : Seen4) (hk : k + 1 < L.length) :
    slip L k x 0 = (L.drop 0).take k ++ (L.drop (k + 1)).take (L.length - (k + 1)) ∧
    slip L k x 1 = ((L.drop 0).take k ++ [L.getD k default]) ++ (L.drop k).take (L.length - k) ∧
    slip L k x 2 = ((L.drop 0).take k ++ [x]) ++ (L.drop (k + 1)).take (L.length - (k + 1)) ∧
    slip L k x 3 = (((L.drop 0).take k ++ [L.getD (k + 1) default]) ++ [L.getD k default]) ++ (L.drop (k + 2)).take (L.length - (k + 2)) := by
  have h : ∀ a, (L.drop a).take (L.length - a) = L.drop a := fun a => List.take_of_length_le (by simp)
  rw [List.drop_zero, h, h, h]
  exact ⟨rfl, rfl, rfl, rfl⟩
theorem slip_length (L : List Seen4) (k : Nat) (x : Seen4) (hk : k + 1 < L.length) (c : Nat) : (slip L k x c).length ≤ L.length + 1 := by
  match c with
  | 0 => simp [slip]; omega
  | 1 => simp [slip]; omega
  | 2 => simp [slip]; omega
  | c + 3 => simp [slip]; omega
theorem mul_bound {n m : Nat} (h : n + m ≤ 1048576) : n * m ≤ 274877906944 := by
  have aux : ∀ a k : Nat, a + (a + k) ≤ 1048576 → a * (a + k) ≤ 274877906944 := by
    intro a k h
    have h1 : (2 * a + k) * (2 * a + k) ≤ 1048576 * 1048576 := Nat.mul_le_mul (by omega) (by omega)
    have h2 : (2 * a + k) * (2 * a + k) = 4 * (a * (a + k)) + k * k := by
      simp only [Nat.mul_add, Nat.add_mul, Nat.mul_assoc, Nat.mul_left_comm a 2, Nat.mul_left_comm k 2, Nat.mul_comm k a]
      omega
    omega
  rcases Nat.le_total n m with hnm | hnm
  · obtain ⟨k, rfl⟩ := Nat.exists_eq_add_of_le hnm
    exact aux n k h
  · obtain ⟨k, rfl⟩ := Nat.exists_eq_add_of_le hnm
    rw [Nat.mul_comm]
    exact aux m k (by omega)
theorem tot_mul {R : Nat → List Seen4} {n : Nat} : ∀ nr, (∀ r, r < nr → (R r).length ≤ n) → tot R nr ≤ nr * n
  | 0, _ => by simp [tot]
  | r + 1, h => by
    have h1 := tot_mul r (fun r' hr => h r' (by omega))
    have h2 := h r (by omega)
    simp only [tot]
    rw [Nat.add_mul]
    omega
theorem tot_one {R : Nat → List Seen4} {S : List Seen4} {r : Nat} (hS : S.length ≤ (R r).length + 1) : ∀ nr, tot (fun i => if i = r then S else R i) nr ≤ tot R nr + 1
  | 0 => by simp [tot]
  | i + 1 => by
    simp only [tot]
    by_cases h : i = r
    · subst h
      rw [if_pos rfl]
      have : ∀ m, m ≤ i → tot (fun j => if j = i then S else R j) m = tot R m := by
        intro m
        induction m with
        | zero => intro _; rfl
        | succ m ih =>
          intro hm
          simp only [tot, ih (by omega)]
          rw [if_neg (by omega)]
      rw [this i (Nat.le_refl _)]
      omega
    · rw [if_neg h]
      have := tot_one hS i
      omega
end Go.Proofs.YtfcaebceklhbkaaDoor
