/-
  What Linear tells follows, and is the least; a history played one call behind the other has its own order. No program in sight.
-/
import Derived.Test.YtfcaebceklhbkaaDoorLinear
import Derived.Test.YtfcaebceklhbkaaDoorG4
namespace Go.Proofs.YtfcaebceklhbkaaDoor
open Go.RowKit
set_option linter.unusedVariables false

def intsF (l : List Nat) : List Int := l.map fun i : Nat => (i : Int)
theorem findSome_range {α : Type} {f : Nat → Option α} {x : α} : ∀ {n : Nat}, (List.range n).findSome? f = some x → ∃ i, i < n ∧ f i = some x ∧ ∀ j, j < i → f j = none
  | 0, h => by simp at h
  | n + 1, h => by
    rw [List.range_succ, List.findSome?_append] at h
    cases e : (List.range n).findSome? f with
    | some y =>
      rw [e] at h
      obtain ⟨i, h1, h2, h3⟩ := findSome_range e
      simp at h
      exact ⟨i, by omega, by rw [h2, h], h3⟩
    | none =>
      rw [e] at h
      simp at h
      refine ⟨n, by omega, h, fun j hj => ?_⟩
      rw [List.findSome?_eq_none_iff] at e
      exact e j (by simpa using hj)
theorem findSome_least {α : Type} {f : Nat → Option α} {i : Nat} {x : α} : ∀ {n : Nat}, i < n → f i = some x → ∃ k y, k ≤ i ∧ f k = some y ∧ (List.range n).findSome? f = some y := by
  intro n hi hx
  cases e : (List.range n).findSome? f with
  | none =>
    rw [List.findSome?_eq_none_iff] at e
    have := e i (by simpa using hi)
    rw [hx] at this
    cases this
  | some y =>
    obtain ⟨k, h1, h2, h3⟩ := findSome_range e
    rcases Nat.lt_or_ge i k with h | h
    · have := h3 i h
      rw [hx] at this
      cases this
    · exact ⟨k, y, h, h2, rfl⟩
theorem stepF_some {o : Int} {S : List Cl} {r d : Nat} {s : List Int} {i : Nat} {l : List Nat} (h : stepF o S r d s i = some l) :
    d.testBit i = false ∧ mayF S d.testBit i = true ∧ answers (S.getD i default) (doF o s (S.getD i default).k (S.getD i default).x (S.getD i default).y) = true ∧
      ∃ l', l = i :: l' ∧ srch o S r (d ||| 1 <<< i) (doF o s (S.getD i default).k (S.getD i default).x (S.getD i default).y).1 = some l' := by
  unfold stepF at h
  split at h
  · cases h
  · rename_i h1
    split at h
    · rename_i h2
      rw [Option.map_eq_some_iff] at h
      obtain ⟨l', h3, rfl⟩ := h
      simp only [Bool.or_eq_true, Bool.not_eq_true', not_or, Bool.not_eq_true, Bool.not_eq_false] at h1
      exact ⟨h1.1, h1.2, h2, l', rfl, h3⟩
    · cases h
theorem or_fun (d i : Nat) : (fun k => decide (k = i) || d.testBit k) = (d ||| 1 <<< i).testBit := by
  funext k
  rw [or_test, Bool.or_comm]
  by_cases h : k = i
  · simp [h]
  · simp [h, Ne.symm h]

/-- What is told follows. -/
theorem srch_fol (o : Int) (S : List Cl) : ∀ (r d : Nat) (s : List Int) (l : List Nat), srch o S r d s = some l → folF o S d.testBit (intsF l) s = true ∧ l.length = r
  | 0, d, s, l, h => by
    simp [srch] at h
    subst h
    exact ⟨rfl, rfl⟩
  | r + 1, d, s, l, h => by
    rw [srch_succ] at h
    obtain ⟨i, hi, hs, _⟩ := findSome_range h
    obtain ⟨h1, h2, h3, l', rfl, h4⟩ := stepF_some hs
    obtain ⟨i1, i2⟩ := srch_fol o S r _ _ l' h4
    refine ⟨?_, by simp [i2]⟩
    show folF o S d.testBit ((i : Int) :: intsF l') s = true
    unfold folF
    simp only [Int.toNat_natCast]
    rw [if_neg (by rw [h1, h2]; simp; omega), h3, or_fun, i1]
    rfl
/-- One list of numbers is at most as great as another. -/
def lexLe : List Nat → List Int → Prop
  | [], _ => True
  | _ :: _, [] => False
  | a :: l, b :: q => (a : Int) < b ∨ ((a : Int) = b ∧ lexLe l q)
theorem stepF_of {o : Int} {S : List Cl} {r d : Nat} {s : List Int} {i : Nat} {l' : List Nat} (h1 : d.testBit i = false) (h2 : mayF S d.testBit i = true) (h3 : answers (S.getD i default) (doF o s (S.getD i default).k (S.getD i default).x (S.getD i default).y) = true)
    (h4 : srch o S r (d ||| 1 <<< i) (doF o s (S.getD i default).k (S.getD i default).x (S.getD i default).y).1 = some l') : stepF o S r d s i = some (i :: l') := by
  unfold stepF
  rw [if_neg (by rw [h1, h2]; simp), if_pos h3, h4]
  rfl
/-- What follows is no less than what is told. -/
theorem fol_srch (o : Int) (S : List Cl) : ∀ (r d : Nat) (s q : List Int), folF o S d.testBit q s = true → q.length = r → ∃ l, srch o S r d s = some l ∧ lexLe l q
  | 0, d, s, q, _, hl => ⟨[], rfl, trivial⟩
  | r + 1, d, s, [], _, hl => by simp at hl
  | r + 1, d, s, c :: q, h, hl => by
    unfold folF at h
    split at h
    · cases h
    · rename_i h1
      simp only [not_or, Bool.not_eq_true, Bool.not_eq_false] at h1
      obtain ⟨c1, c2, c3, c4⟩ := h1
      obtain ⟨i, rfl⟩ : ∃ i : Nat, c = (i : Int) := ⟨c.toNat, by omega⟩
      simp only [Int.toNat_natCast] at *
      rw [Bool.and_eq_true] at h
      obtain ⟨h2, h3⟩ := h
      rw [or_fun] at h3
      obtain ⟨l', i1, i2⟩ := fol_srch o S r _ _ q h3 (by simpa using hl)
      have hst := stepF_of c3 c4 h2 i1
      obtain ⟨k, y, hk, hy, hf⟩ := findSome_least (n := S.length) (by omega) hst
      refine ⟨y, by rw [srch_succ]; exact hf, ?_⟩
      rcases Nat.lt_or_ge k i with hlt | hge
      · obtain ⟨_, _, _, l2, rfl, _⟩ := stepF_some hy
        exact .inl (by omega)
      · obtain rfl : k = i := by omega
        rw [hst] at hy
        cases hy
        exact .inr ⟨rfl, i2⟩

/-- Calls that answer so one behind the other, and the state behind them. -/
def chainF (o : Int) : List Cl → List Int → Bool
  | [], _ => true
  | c :: T, s => answers c (doF o s c.k c.x c.y) && chainF o T (doF o s c.k c.x c.y).1
def endF (o : Int) : List Cl → List Int → List Int
  | [], s => s
  | c :: T, s => endF o T (doF o s c.k c.x c.y).1
theorem chainF_snoc (o : Int) (c : Cl) : ∀ (T : List Cl) (s : List Int), chainF o (T ++ [c]) s = (chainF o T s && answers c (doF o (endF o T s) c.k c.x c.y)) ∧ endF o (T ++ [c]) s = (doF o (endF o T s) c.k c.x c.y).1
  | [], s => by simp [chainF, endF]
  | b :: T, s => by
    obtain ⟨h1, h2⟩ := chainF_snoc o c T (doF o s b.k b.x b.y).1
    exact ⟨by simp only [List.cons_append, chainF, h1, Bool.and_assoc]; rfl, h2⟩
theorem chain_srch (o : Int) (S : List Cl) (ht : ∀ i, i < S.length → (S.getD i default).b ≤ 10 * (i : Int) ∧ 10 * (i : Int) + 3 ≤ (S.getD i default).e) :
    ∀ (r d i : Nat) (s : List Int), i + r = S.length → (∀ k, k < S.length → d.testBit k = decide (k < i)) → chainF o (S.drop i) s = true → srch o S r d s = some (List.range' i r)
  | 0, d, i, s, _, _, _ => rfl
  | r + 1, d, i, s, hi, hd, hc => by
    have hlt : i < S.length := by omega
    have hdrop : S.drop i = S.getD i default :: S.drop (i + 1) := by
      rw [List.drop_eq_getElem_cons hlt]
      simp [List.getD, hlt]
    rw [hdrop] at hc
    simp only [chainF, Bool.and_eq_true] at hc
    have hb : d.testBit i = false := by rw [hd i hlt]; simp
    have hm : mayF S d.testBit i = true := by
      unfold mayF
      rw [mayTo_true]
      intro k hk
      rcases Nat.lt_or_ge k i with h | h
      · exact .inl (by rw [hd k hk]; simpa using h)
      · have h1 := (ht k hk).2
        have h2 := (ht i hlt).1
        exact .inr (by omega)
    have hst := stepF_of (r := r) hb hm hc.1 (chain_srch o S ht r (d ||| 1 <<< i) (i + 1) _ (by omega) (fun k hk => by
      rw [or_test, hd k hk]
      by_cases h : k < i
      · have : k < i + 1 := by omega
        simp [h, this]
      · by_cases h2 : i = k
        · subst h2; simp
        · have : ¬ k < i + 1 := by omega
          simp [h, h2, this]) hc.2)
    obtain ⟨k, y, hk, hy, hf⟩ := findSome_least (n := S.length) hlt hst
    rw [srch_succ]
    unfold upTo
    rw [hf]
    rcases Nat.lt_or_ge k i with h | h
    · obtain ⟨h1, _⟩ := stepF_some hy
      rw [hd k (by omega)] at h1
      simp at h1
      omega
    · obtain rfl : k = i := by omega
      rw [hst] at hy
      rw [← hy]
      rfl
end Go.Proofs.YtfcaebceklhbkaaDoor
