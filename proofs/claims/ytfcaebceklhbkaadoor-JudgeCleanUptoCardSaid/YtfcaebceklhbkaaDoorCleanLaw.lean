/-
  Runs of one list are without a fault; a slip in one of them is told. No program in sight.
-/
import Derived.Test.YtfcaebceklhbkaaDoorAllF
namespace Go.Proofs.YtfcaebceklhbkaaDoor
open Go.RowKit
set_option linter.unusedVariables false

/-- What is seen at sequence q of a list of items. -/
def seenAt (T : List Itm) (q : Nat) : Seen4 := ⟨q, (T.getD q default).a, (T.getD q default).b, (T.getD q default).d⟩
/-- A run of a list from p. -/
def RunFrom (T : List Itm) (p : Nat) (S : List Seen4) : Prop := ∀ i, i < S.length → p + i < T.length ∧ S.getD i default = seenAt T (p + i)
/-- How many of the first i items are writer x's. -/
def cntA (T : List Itm) (x : Int) : Nat → Nat
  | 0 => 0
  | i + 1 => cntA T x i + if (T.getD i default).a = x then 1 else 0
theorem cntA_le (T : List Itm) (x : Int) : ∀ i, cntA T x i ≤ i
  | 0 => Nat.le_refl _
  | i + 1 => by
    have := cntA_le T x i
    simp only [cntA]
    split <;> omega
/-- Items as JudgeClean makes them. -/
structure GoodT (T : List Itm) : Prop where
  num : ∀ i, i < T.length → (T.getD i default).b = cntA T (T.getD i default).a i
  val : ∀ i, i < T.length → (T.getD i default).d = 3 * (i : Int)
  len : T.length ≤ 4000000

theorem wrap_small {x : Int} (h0 : 0 ≤ x) (h1 : x ≤ 9000000) : wrap64 x = x := by unfold wrap64; omega

section
variable {T : List Itm} {p : Nat} {S : List Seen4}
theorem run_clean (hT : GoodT T) (h : RunFrom T p S) : ∀ j, j ≤ S.length → runAt S p j = ([], ((p + j : Nat) : Int))
  | 0, _ => rfl
  | j + 1, hj => by
    have ih := run_clean hT h j (by omega)
    obtain ⟨h1, h2⟩ := h j (by omega)
    have hl := hT.len
    have hq : (S.getD j default).q = ((p + j : Nat) : Int) := by rw [h2]; rfl
    have hk : runKind S j ((p + j : Nat) : Int) = 0 := by unfold runKind; rw [hq]; simp
    simp only [runAt, ih, hk, if_true, List.append_nil]
    rw [hq, wrap_small (by omega) (by omega)]
    rw [show ((p + j : Nat) : Int) + 1 = ((p + (j + 1) : Nat) : Int) by omega]
theorem next_clean (hT : GoodT T) (h : RunFrom T p S) : ∀ j, j ≤ S.length → ∀ x y, nextAt S j x = some y → y = cntA T x (p + j)
  | 0, _, x, y, hn => by simp [nextAt] at hn
  | j + 1, hj, x, y, hn => by
    obtain ⟨h1, h2⟩ := h j (by omega)
    have hl := hT.len
    have hle := cntA_le T x (p + j)
    have ha : (S.getD j default).a = (T.getD (p + j) default).a := by rw [h2]; rfl
    have hb : (S.getD j default).b = (T.getD (p + j) default).b := by rw [h2]; rfl
    simp only [nextAt] at hn
    rw [show p + (j + 1) = (p + j) + 1 by omega]
    simp only [cntA]
    split at hn
    · rename_i hx
      rw [ha] at hx
      have hnum := hT.num (p + j) h1
      rw [← hx] at hnum
      rw [if_pos hx.symm]
      simp only [Option.some.injEq] at hn
      rw [← hn, hb, hnum, wrap_small (by omega) (by omega)]
      omega
    · rename_i hx
      rw [ha] at hx
      rw [if_neg (fun e => hx e.symm), Nat.add_zero]
      exact next_clean hT h j (by omega) x y hn
theorem writ_clean (hT : GoodT T) (h : RunFrom T p S) : ∀ j, j ≤ S.length → writAt S j = []
  | 0, _ => rfl
  | j + 1, hj => by
    obtain ⟨h1, h2⟩ := h j (by omega)
    simp only [writAt, writ_clean hT h j (by omega), writTold, List.nil_append]
    split
    · rename_i y hy
      have e := next_clean hT h j (by omega) _ _ hy
      have ha : (S.getD j default).a = (T.getD (p + j) default).a := by rw [h2]; rfl
      have hb : (S.getD j default).b = (T.getD (p + j) default).b := by rw [h2]; rfl
      rw [if_pos (by rw [e, ha, hb]; exact hT.num (p + j) h1)]
    · rfl
theorem there_of {a b d : Int} {i : Nat} (h : (T.getD i default).a = a ∧ (T.getD i default).b = b ∧ (T.getD i default).d = d) : ∀ k, i < k → there T a b d k = true
  | 0, hk => by omega
  | k + 1, hk => by
    simp only [there]
    rcases Nat.lt_or_ge i k with h1 | h1
    · rw [there_of h k h1]; rfl
    · obtain rfl : i = k := by omega
      simp only [h.1, h.2.1, h.2.2, decide_true, Bool.and_self, Bool.or_true]
theorem there_some {a b d : Int} : ∀ k, there T a b d k = true → ∃ i, i < k ∧ (T.getD i default).d = d
  | 0, h => by simp [there] at h
  | k + 1, h => by
    simp only [there, Bool.or_eq_true, Bool.and_eq_true, decide_eq_true_eq] at h
    rcases h with h | h
    · obtain ⟨i, hi, e⟩ := there_some k h
      exact ⟨i, by omega, e⟩
    · exact ⟨k, by omega, h.2⟩
theorem wrt_clean (h : RunFrom T p S) : ∀ j, j ≤ S.length → wrtAt S T j = []
  | 0, _ => rfl
  | j + 1, hj => by
    obtain ⟨h1, h2⟩ := h j (by omega)
    simp only [wrtAt, wrt_clean h j (by omega), wrtTold, List.nil_append]
    rw [if_pos (there_of (i := p + j) (by rw [h2]; exact ⟨rfl, rfl, rfl⟩) _ h1)]
theorem own_clean (hT : GoodT T) (h : RunFrom T p S) : ownF S T = [] := by
  unfold ownF runF writF wrtF
  rw [writ_clean hT h _ (Nat.le_refl _), wrt_clean h _ (Nat.le_refl _)]
  cases hS : S with
  | nil => rfl
  | cons x l =>
    have h0 := h 0 (by rw [hS]; simp)
    have hq : (S.getD 0 default).q = ((p : Nat) : Int) := by rw [h0.2]; simp [seenAt]
    rw [← hS, hq, run_clean hT h _ (Nat.le_refl _)]
    rfl
end

theorem fi_some {S : List Seen4} {q : Int} : ∀ {n : Nat} {s : Seen4}, n ≤ S.length → fi S q n = some s → ∃ i, i < n ∧ s = S.getD i default ∧ s.q = q
  | 0, s, _, h => by simp [fi] at h
  | n + 1, s, hn, h => by
    rw [fi] at h
    cases e : fi S q n with
    | some t =>
      rw [e] at h
      obtain ⟨i, hi, h1, h2⟩ := fi_some (by omega) e
      simp at h
      subst h
      exact ⟨i, by omega, h1, h2⟩
    | none =>
      rw [e] at h
      simp only at h
      split at h
      · rename_i hq
        simp at h
        subst h
        exact ⟨n, by omega, rfl, by simpa using hq⟩
      · cases h
theorem er_some {R : Nat → List Seen4} {q : Int} : ∀ {r : Nat} {x : Nat × Seen4}, er R q r = some x → ∃ r' i, r' < r ∧ i < (R r').length ∧ x.2 = (R r').getD i default ∧ x.2.q = q
  | 0, x, h => by simp [er] at h
  | r + 1, x, h => by
    rw [er] at h
    cases e : er R q r with
    | some t =>
      rw [e] at h
      obtain ⟨r', i, h1, h2, h3, h4⟩ := er_some e
      simp at h
      subst h
      exact ⟨r', i, by omega, h2, h3, h4⟩
    | none =>
      rw [e] at h
      simp only at h
      rw [Option.map_eq_some_iff] at h
      obtain ⟨s, hs, rfl⟩ := h
      obtain ⟨i, hi, h1, h2⟩ := fi_some (Nat.le_refl _) hs
      exact ⟨r, i, by omega, hi, h1, h2⟩
theorem cur_some {R : Nat → List Seen4} {q : Int} {r i : Nat} {x : Nat × Seen4} (hi : i ≤ (R r).length) (h : cur R q r i = some x) : ∃ r' i', r' ≤ r ∧ i' < (R r').length ∧ x.2 = (R r').getD i' default ∧ x.2.q = q := by
  unfold cur at h
  cases e : er R q r with
  | some t =>
    rw [e] at h
    simp at h
    subst h
    obtain ⟨r', i', h1, h2, h3, h4⟩ := er_some e
    exact ⟨r', i', by omega, h2, h3, h4⟩
  | none =>
    rw [e] at h
    simp only at h
    rw [Option.map_eq_some_iff] at h
    obtain ⟨s, hs, rfl⟩ := h
    obtain ⟨i', hi', h1, h2⟩ := fi_some hi hs
    exact ⟨r, i', Nat.le_refl _, by omega, h1, h2⟩
theorem sam_clean {T : List Itm} {R : Nat → List Seen4} : ∀ nr, (∀ r, r < nr → ∃ p, RunFrom T p (R r)) → samAt R nr = []
  | 0, _ => rfl
  | r + 1, h => by
    have ih := sam_clean r (fun r' hr => h r' (by omega))
    have hin : ∀ i, i ≤ (R r).length → inT R r i = [] := by
      intro i
      induction i with
      | zero => intro _; rfl
      | succ i ih2 =>
        intro hi
        simp only [inT, ih2 (by omega), List.nil_append]
        cases hc : cur R ((R r).getD i default).q r i with
        | none => rfl
        | some x =>
          obtain ⟨r0, s0⟩ := x
          obtain ⟨r', i', h1, h2, h3, h4⟩ := cur_some (by omega) hc
          obtain ⟨p, hp⟩ := h r (by omega)
          obtain ⟨p', hp'⟩ := h r' (by omega)
          obtain ⟨_, e1⟩ := hp i (by omega)
          obtain ⟨_, e2⟩ := hp' i' h2
          simp only at h3 h4
          have hq : s0 = (R r).getD i default := by
            rw [h3, e2, e1]
            have h5 : ((p' + i' : Nat) : Int) = ((p + i : Nat) : Int) := by
              rw [h3, e2] at h4
              rw [e1] at h4
              exact h4
            have h6 : p' + i' = p + i := by omega
            rw [h6]
          simp only [tell]
          rw [if_pos (by rw [hq]; simp [eqItem])]
    rw [samAt, ih, hin _ (Nat.le_refl _)]
    rfl
theorem allAt_clean {T : List Itm} {R : Nat → List Seen4} (hT : GoodT T) : ∀ nr, (∀ r, r < nr → ∃ p, RunFrom T p (R r)) → allAt R T nr = []
  | 0, _ => rfl
  | r + 1, h => by
    obtain ⟨p, hp⟩ := h r (by omega)
    rw [allAt, allAt_clean hT r (fun r' hr => h r' (by omega)), own_clean hT hp]
    rfl
/-- Runs of one list are clean. -/
theorem all_clean {T : List Itm} {R : Nat → List Seen4} {nr : Nat} (hT : GoodT T) (h : ∀ r, r < nr → ∃ p, RunFrom T p (R r)) : allF R nr T = [] := by
  unfold allF
  rw [allAt_clean hT nr h, sam_clean nr h]
  rfl

/-! A slip is told. -/
theorem runAt_mono (S : List Seen4) (x : Int) (j : Nat) : ∀ m, j ≤ m → ∀ f ∈ (runAt S x j).1, f ∈ (runAt S x m).1
  | 0, hm, f, hf => by
    obtain rfl : j = 0 := by omega
    exact hf
  | m + 1, hm, f, hf => by
    by_cases e : j = m + 1
    · subst e; exact hf
    · simp only [runAt, List.mem_append]
      exact .inl (runAt_mono S x j m (by omega) f hf)
theorem run_slip {S : List Seen4} {p k : Nat} (hp : p + k ≤ 8000000) (h : ∀ i, i < k → (S.getD i default).q = ((p + i : Nat) : Int)) (hk : k < S.length) (hne : (S.getD k default).q ≠ ((p + k : Nat) : Int)) (h0 : 0 < k) : ∃ f, f ∈ runF S (S.getD 0 default).q := by
  have h1 : ∀ j, j ≤ k → runAt S p j = ([], ((p + j : Nat) : Int)) := by
    intro j
    induction j with
    | zero => intro _; rfl
    | succ j ih =>
      intro hj
      have hq := h j (by omega)
      have hkd : runKind S j ((p + j : Nat) : Int) = 0 := by unfold runKind; rw [hq]; simp
      simp only [runAt, ih (by omega), hkd, if_true, List.append_nil]
      rw [hq, wrap_small (by omega) (by omega), show ((p + j : Nat) : Int) + 1 = ((p + (j + 1) : Nat) : Int) by omega]
  have hq0 : (S.getD 0 default).q = ((p : Nat) : Int) := by rw [h 0 h0]; simp
  have hkd : runKind S k ((p + k : Nat) : Int) ≠ 0 := by
    unfold runKind
    split
    · omega
    · split
      · split <;> omega
      · omega
  refine ⟨⟨runKind S k ((p + k : Nat) : Int), 0, k, (S.getD k default).q, ((p + k : Nat) : Int)⟩, ?_⟩
  unfold runF
  rw [hq0]
  refine runAt_mono S p (k + 1) _ hk _ ?_
  simp only [runAt, h1 k (Nat.le_refl _), if_neg hkd, List.nil_append, List.mem_singleton]
theorem wrtAt_mono (S : List Seen4) (T : List Itm) (j : Nat) : ∀ m, j ≤ m → ∀ f ∈ wrtAt S T j, f ∈ wrtAt S T m
  | 0, hm, f, hf => by
    obtain rfl : j = 0 := by omega
    exact hf
  | m + 1, hm, f, hf => by
    by_cases e : j = m + 1
    · subst e; exact hf
    · simp only [wrtAt, List.mem_append]
      exact .inl (wrtAt_mono S T j m (by omega) f hf)
theorem wrt_slip {S : List Seen4} {T : List Itm} {k : Nat} (hk : k < S.length) (h : there T (S.getD k default).a (S.getD k default).b (S.getD k default).d T.length = false) : ∃ f, f ∈ wrtF S T := by
  refine ⟨⟨6, 0, k, (S.getD k default).q, 0⟩, wrtAt_mono S T (k + 1) _ hk _ ?_⟩
  simp only [wrtAt, wrtTold, List.mem_append]
  right
  rw [if_neg (by rw [h]; simp)]
  simp
theorem allAt_mem {R : Nat → List Seen4} {T : List Itm} {r : Nat} {f : Flt} (hf : f ∈ ownF (R r) T) : ∀ nr, r < nr → f.by r ∈ allAt R T nr
  | 0, h => by omega
  | n + 1, h => by
    simp only [allAt, List.mem_append, List.mem_map]
    rcases Nat.lt_or_ge r n with h1 | h1
    · exact .inl (allAt_mem hf n h1)
    · obtain rfl : r = n := by omega
      exact .inr ⟨f, hf, rfl⟩
/-- The slips. -/
def slip (L : List Seen4) (k : Nat) (x : Seen4) : Nat → List Seen4
  | 0 => L.take k ++ L.drop (k + 1)
  | 1 => L.take k ++ [L.getD k default] ++ L.drop k
  | 2 => L.take k ++ [x] ++ L.drop (k + 1)
  | _ => L.take k ++ [L.getD (k + 1) default] ++ [L.getD k default] ++ L.drop (k + 2)
theorem slip_get {L : List Seen4} {k : Nat} {x : Seen4} (c : Nat) (hk : k + 1 < L.length) (i : Nat) (hi : i < k) : (slip L k x c).getD i default = L.getD i default := by
  have h : i < (L.take k).length := by simp; omega
  match c with
  | 0 => simp only [slip, List.getD]; rw [List.getElem?_append_left h, List.getElem?_take_of_lt hi]
  | 1 => simp only [slip, List.getD, List.append_assoc]; rw [List.getElem?_append_left h, List.getElem?_take_of_lt hi]
  | 2 => simp only [slip, List.getD, List.append_assoc]; rw [List.getElem?_append_left h, List.getElem?_take_of_lt hi]
  | c + 3 => simp only [slip, List.getD, List.append_assoc]; rw [List.getElem?_append_left h, List.getElem?_take_of_lt hi]
theorem slip_told {T : List Itm} (hT : GoodT T) {L : List Seen4} {p : Nat} (hL : RunFrom T p L) {k : Nat} (h0 : 0 < k) (hk : k + 1 < L.length) (c : Nat) (x : Seen4) (hx : x.d = (L.getD k default).d + 1) :
    ∃ f, f ∈ ownF (slip L k x c) T := by
  have hq : ∀ i, i < L.length → (L.getD i default).q = ((p + i : Nat) : Int) := fun i hi => by rw [(hL i hi).2]; rfl
  have hpl := (hL (k + 1) hk).1
  have hlen := hT.len
  have htk : (L.take k).length = k := by simp; omega
  have hpre : ∀ i, i < k → ((slip L k x c).getD i default).q = ((p + i : Nat) : Int) := fun i hi => by rw [slip_get c hk i hi]; exact hq i (by omega)
  match c with
  | 0 =>
    have hg : (slip L k x 0).getD k default = L.getD (k + 1) default := by
      simp only [slip, List.getD]
      rw [List.getElem?_append_right (by omega), htk, Nat.sub_self, List.getElem?_drop]
      try simp
    obtain ⟨f, hf⟩ := run_slip (p := p) (k := k) (by omega) hpre (by simp [slip]; omega) (by rw [hg, hq (k + 1) hk]; omega) h0
    exact ⟨f, List.mem_append_left _ (List.mem_append_left _ hf)⟩
  | 1 =>
    have hg0 : (slip L k x 1).getD k default = L.getD k default := by
      simp only [slip, List.getD, List.append_assoc]
      rw [List.getElem?_append_right (by omega), htk, Nat.sub_self]
      simp
    have hg : (slip L k x 1).getD (k + 1) default = L.getD k default := by
      simp only [slip, List.getD, List.append_assoc]
      rw [List.getElem?_append_right (by omega), htk, Nat.add_sub_cancel_left]
      simp
    obtain ⟨f, hf⟩ := run_slip (p := p) (k := k + 1) (by omega) (fun i hi => by
        rcases Nat.lt_or_ge i k with h | h
        · exact hpre i h
        · obtain rfl : i = k := by omega
          rw [hg0]
          exact hq i (by omega)) (by simp [slip]; omega) (by rw [hg, hq k (by omega)]; omega) (by omega)
    exact ⟨f, List.mem_append_left _ (List.mem_append_left _ hf)⟩
  | 2 =>
    have hg : (slip L k x 2).getD k default = x := by
      simp only [slip, List.getD, List.append_assoc]
      rw [List.getElem?_append_right (by omega), htk, Nat.sub_self]
      simp
    have hd : (L.getD k default).d = 3 * ((p + k : Nat) : Int) := by
      rw [(hL k (by omega)).2]
      exact hT.val (p + k) (hL k (by omega)).1
    obtain ⟨f, hf⟩ := wrt_slip (S := slip L k x 2) (T := T) (k := k) (by simp [slip]; omega) (by
      cases e : there T _ _ _ T.length with
      | false => rfl
      | true =>
        obtain ⟨i, hi, h1⟩ := there_some _ e
        rw [hT.val i hi, hg, hx, hd] at h1
        omega)
    exact ⟨f, List.mem_append_right _ hf⟩
  | c + 3 =>
    have hg : (slip L k x (c + 3)).getD k default = L.getD (k + 1) default := by
      simp only [slip, List.getD, List.append_assoc]
      rw [List.getElem?_append_right (by omega), htk, Nat.sub_self]
      simp
    obtain ⟨f, hf⟩ := run_slip (p := p) (k := k) (by omega) hpre (by simp [slip]; omega) (by rw [hg, hq (k + 1) hk]; omega) h0
    exact ⟨f, List.mem_append_left _ (List.mem_append_left _ hf)⟩
/-- One reader's slip is told as his. -/
theorem all_slip {T : List Itm} (hT : GoodT T) {R : Nat → List Seen4} {r nr : Nat} (hr : r < nr) {f : Flt} (hf : f ∈ ownF (R r) T) : ∃ g, g ∈ allF R nr T ∧ g.r = r := by
  refine ⟨f.by r, ?_, rfl⟩
  simp only [allF, List.mem_append]
  exact .inl (allAt_mem hf nr hr)
end Go.Proofs.YtfcaebceklhbkaaDoor
