/-
  What the search for an order seeks, in plain Lean. No program in sight.
-/
import Derived.Test.YtfcaebceklhbkaaDoorText
namespace Go.Proofs.YtfcaebceklhbkaaDoor
open Go.RowKit
set_option linter.unusedVariables false

/-- An operation of a stack (3) or a queue (4). -/
def rowF (o : Int) (s : List Int) (k a : Int) : List Int × Bool × Int :=
  if k = 1 then (if s = [] then (s, false, 0) else if o = 3 then (s.dropLast, true, s.getLastD 0) else (s.tail, true, s.headD 0)) else if k = 2 then (s ++ [a], true, 0) else if k = 3 then (s, true, s.length) else (s, false, 0)
/-- A number in a rising list. -/
def putS (v : Int) : List Int → List Int
  | [] => [v]
  | x :: l => if x < v then x :: putS v l else if x = v then x :: l else v :: x :: l
def riseF (s : List Int) : List Int := s.foldl (fun l v => putS v l) []
/-- An operation of a set. -/
def setF (s : List Int) (k a : Int) : List Int × Bool × Int :=
  if k = 1 then (riseF s, decide (a ∈ riseF s), 0) else if k = 2 then (putS a (riseF s), !decide (a ∈ riseF s), 0) else if k = 3 then ((riseF s).filter (· ≠ a), decide (a ∈ riseF s), 0) else (riseF s, false, 0)
/-- What an operation makes of a state, and what it answers. -/
def doF (o : Int) (s : List Int) (k a b : Int) : List Int × Bool × Int :=
  if o = 1 ∨ o = 2 then ([(singleF o (s.headD 0) k a b).1], (singleF o (s.headD 0) k a b).2) else if o = 3 ∨ o = 4 then rowF o s k a else if o = 5 then setF s k a else (s, false, 0)

theorem wrap_fits (x : Int) : Fits (wrap64 x) := by
  unfold Fits wrap64
  omega
theorem putS_mem {v x : Int} : ∀ {l : List Int}, x ∈ putS v l → x = v ∨ x ∈ l
  | [], h => by simpa [putS] using h
  | y :: l, h => by
    simp only [putS] at h
    split at h
    · rcases List.mem_cons.1 h with h | h
      · exact .inr (h ▸ List.mem_cons_self)
      · rcases putS_mem h with h | h
        · exact .inl h
        · exact .inr (List.mem_cons_of_mem _ h)
    · split at h
      · exact .inr h
      · rcases List.mem_cons.1 h with h | h
        · exact .inl h
        · exact .inr h
theorem rise_mem_aux {x : Int} : ∀ (s l : List Int), x ∈ s.foldl (fun l v => putS v l) l → x ∈ s ∨ x ∈ l
  | [], l, h => .inr h
  | v :: s, l, h => by
    rcases rise_mem_aux s _ h with h | h
    · exact .inl (List.mem_cons_of_mem _ h)
    · rcases putS_mem h with h | h
      · exact .inl (h ▸ List.mem_cons_self)
      · exact .inr h
theorem riseF_mem {x : Int} {s : List Int} (h : x ∈ riseF s) : x ∈ s := by
  rcases rise_mem_aux s [] h with h | h
  · exact h
  · cases h
theorem putS_length (v : Int) : ∀ l : List Int, (putS v l).length ≤ l.length + 1
  | [] => by simp [putS]
  | x :: l => by
    have := putS_length v l
    simp only [putS]
    split
    · simp; omega
    · split <;> simp
theorem rise_length_aux : ∀ (s l : List Int), (s.foldl (fun l v => putS v l) l).length ≤ s.length + l.length
  | [], l => by simp
  | v :: s, l => by
    have h1 := rise_length_aux s (putS v l)
    have h2 := putS_length v l
    simp only [List.foldl_cons, List.length_cons]
    omega
theorem riseF_length (s : List Int) : (riseF s).length ≤ s.length := by
  exact rise_length_aux s []
theorem singleF_fits {o v k a b : Int} (h1 : Fits v) (h2 : Fits a) (h3 : Fits b) : Fits (singleF o v k a b).1 := by
  unfold singleF
  split
  · exact h1
  · split
    · exact h2
    · split
      · exact wrap_fits _
      · split
        · exact ⟨by omega, by omega⟩
        · split
          · exact h3
          · exact h1
theorem doF_fits {o : Int} {s : List Int} {k a b : Int} (hs : ∀ x ∈ s, Fits x) (ha : Fits a) (hb : Fits b) : ∀ x ∈ (doF o s k a b).1, Fits x := by
  unfold doF
  split
  · intro x hx
    simp only [List.mem_singleton] at hx
    subst hx
    refine singleF_fits ?_ ha hb
    cases s with
    | nil => exact ⟨by simp, by simp⟩
    | cons y s => exact hs y List.mem_cons_self
  · split
    · unfold rowF
      split
      · split
        · exact hs
        · split
          · exact fun x hx => hs x (List.dropLast_subset _ hx)
          · exact fun x hx => hs x (List.mem_of_mem_tail hx)
      · split
        · intro x hx
          rcases List.mem_append.1 hx with hx | hx
          · exact hs x hx
          · simp only [List.mem_singleton] at hx
            exact hx ▸ ha
        · split <;> exact hs
    · split
      · have hr : ∀ x ∈ riseF s, Fits x := fun x hx => hs x (riseF_mem hx)
        unfold setF
        split
        · exact hr
        · split
          · intro x hx
            rcases putS_mem hx with hx | hx
            · exact hx ▸ ha
            · exact hr x hx
          · split
            · exact fun x hx => hr x ((List.mem_filter.1 hx).1)
            · exact hr
      · exact hs
theorem doF_length (o : Int) (s : List Int) (k a b : Int) : (doF o s k a b).1.length ≤ s.length + 1 := by
  unfold doF
  split
  · simp
  · split
    · unfold rowF
      split
      · split
        · simp
        · split <;> simp <;> omega
      · split
        · simp
        · split <;> simp
    · split
      · have := riseF_length s
        unfold setF
        split
        · simp; omega
        · split
          · have := putS_length a (riseF s)
            simp; omega
          · split
            · have := List.length_filter_le (fun x => decide (x ≠ a)) (riseF s)
              simp at this ⊢
              omega
            · simp; omega
      · simp

/-- How many of the calls are done. -/
def pc (n d : Nat) : Nat := (List.range n).countP d.testBit
theorem or_test (d i k : Nat) : (d ||| 1 <<< i).testBit k = (d.testBit k || decide (i = k)) := by
  rw [Nat.testBit_or, Nat.one_shiftLeft, Nat.testBit_two_pow]
theorem pc_step {n d i : Nat} (hi : i < n) (h : d.testBit i = false) : pc n (d ||| 1 <<< i) = pc n d + 1 := by
  unfold pc
  have key : ∀ m, (List.range m).countP (d ||| 1 <<< i).testBit = (List.range m).countP d.testBit + (if i < m then 1 else 0) := by
    intro m
    induction m with
    | zero => simp
    | succ m ih =>
      rw [List.range_succ, List.countP_append, List.countP_append, ih]
      simp only [List.countP_cons, List.countP_nil, or_test]
      by_cases e : i = m
      · subst e
        simp [h]
      · have e2 : decide (i = m) = false := by simp [e]
        rw [e2, Bool.or_false]
        by_cases e3 : i < m
        · rw [if_pos e3, if_pos (show i < m + 1 by omega)]
          omega
        · rw [if_neg e3, if_neg (show ¬ i < m + 1 by omega)]
          omega
  rw [key n, if_pos hi]
theorem or_lt {n d i : Nat} (hd : d < 2 ^ n) (hi : i < n) : d ||| 1 <<< i < 2 ^ n := by
  refine Nat.or_lt_two_pow hd ?_
  rw [Nat.one_shiftLeft]
  exact Nat.pow_lt_pow_right (by omega) hi
theorem pc_zero (n : Nat) : pc n 0 = 0 := by
  unfold pc
  rw [List.countP_eq_zero]
  intro x _
  simp

/-- Does a call answer so? -/
def answers (c : Cl) (r : List Int × Bool × Int) : Bool := r.2.1 == c.ok && r.2.2 == c.n && decide (c.ln = 0)
/-- The least order of the r calls that aren't done yet. -/
def srch (o : Int) (S : List Cl) : Nat → Nat → List Int → Option (List Nat)
  | 0, _, _ => some []
  | r + 1, d, s => (List.range S.length).findSome? fun i =>
      if d.testBit i || !mayF S d.testBit i then none
      else if answers (S.getD i default) (doF o s (S.getD i default).k (S.getD i default).x (S.getD i default).y) then
        (srch o S r (d ||| 1 <<< i) (doF o s (S.getD i default).k (S.getD i default).x (S.getD i default).y).1).map (i :: ·)
      else none
/-- What one call gives as the next one. -/
def stepF (o : Int) (S : List Cl) (r d : Nat) (s : List Int) (i : Nat) : Option (List Nat) :=
  if d.testBit i || !mayF S d.testBit i then none
  else if answers (S.getD i default) (doF o s (S.getD i default).k (S.getD i default).x (S.getD i default).y) then
    (srch o S r (d ||| 1 <<< i) (doF o s (S.getD i default).k (S.getD i default).x (S.getD i default).y).1).map (i :: ·)
  else none
/-- What the calls ahead of i give. -/
def upTo (o : Int) (S : List Cl) (r d : Nat) (s : List Int) (i : Nat) : Option (List Nat) := (List.range i).findSome? (stepF o S r d s)
theorem srch_succ (o : Int) (S : List Cl) (r d : Nat) (s : List Int) : srch o S (r + 1) d s = upTo o S r d s S.length := rfl
theorem upTo_succ {o : Int} {S : List Cl} {r d : Nat} {s : List Int} {i : Nat} (h : upTo o S r d s i = none) : upTo o S r d s (i + 1) = stepF o S r d s i := by
  unfold upTo at h ⊢
  rw [List.range_succ, List.findSome?_append, h]
  simp
theorem upTo_some {o : Int} {S : List Cl} {r d : Nat} {s : List Int} {i m : Nat} {l : List Nat} (h : upTo o S r d s i = none) (hs : stepF o S r d s i = some l) (hi : i < m) : upTo o S r d s m = some l := by
  induction m with
  | zero => omega
  | succ m ih =>
    rcases Nat.lt_or_ge i m with h1 | h1
    · have := ih h1
      unfold upTo at this ⊢
      rw [List.range_succ, List.findSome?_append, this]
      rfl
    · obtain rfl : i = m := by omega
      rw [upTo_succ h, hs]
end Go.Proofs.YtfcaebceklhbkaaDoor
