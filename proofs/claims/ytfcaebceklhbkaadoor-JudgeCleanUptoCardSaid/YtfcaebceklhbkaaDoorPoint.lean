/-
  The string of a point of the search tells the point. No program in sight.
-/
import Derived.Lib.ItoaMem
namespace Go.Proofs.YtfcaebceklhbkaaDoor
open Go.Lib
set_option linter.unusedVariables false

def pval (l : List UInt8) : Nat := l.foldl (fun a c => a * 10 + (c.toNat - 48)) 0
theorem pval_snoc (l : List UInt8) (c : UInt8) : pval (l ++ [c]) = pval l * 10 + (c.toNat - 48) := by simp [pval]
theorem dig_nat {d : Nat} (h : d < 10) : (UInt8.ofNat (48 + d)).toNat = 48 + d := by
  simp only [UInt8.toNat_ofNat']
  omega
theorem pval_dec (u : Nat) : pval (decDigits u) = u := by
  induction u using Nat.strongRecOn with
  | _ u ih =>
    by_cases h : u < 10
    · rw [decDigits, dif_pos h]
      simp only [pval, List.foldl_cons, List.foldl_nil, dig_nat h]
      omega
    · rw [decDigits, dif_neg h, pval_snoc, ih (u / 10) (by omega), dig_nat (by omega)]
      omega
theorem dec_range (u : Nat) : ∀ c ∈ decDigits u, 48 ≤ c.toNat ∧ c.toNat ≤ 57 := by
  induction u using Nat.strongRecOn with
  | _ u ih =>
    intro c hc
    by_cases h : u < 10
    · rw [decDigits, dif_pos h] at hc
      simp only [List.mem_singleton] at hc
      subst hc
      rw [dig_nat h]
      omega
    · rw [decDigits, dif_neg h] at hc
      rcases List.mem_append.1 hc with hc | hc
      · exact ih (u / 10) (by omega) c hc
      · simp only [List.mem_singleton] at hc
        subst hc
        rw [dig_nat (by omega)]
        omega
theorem itoa_space (v : Int) : ∀ c ∈ itoa v, c ≠ 32 := by
  intro c hc h
  subst h
  unfold itoa at hc
  split at hc
  · rcases List.mem_cons.1 hc with hc | hc
    · cases hc
    · have := dec_range _ _ hc
      simp at this
  · have := dec_range _ _ hc
    simp at this
theorem itoa_inj {a b : Int} (h : itoa a = itoa b) : a = b := by
  unfold itoa at h
  split at h <;> split at h
  · have := congrArg pval (List.cons.inj h).2
    rw [pval_dec, pval_dec] at this
    omega
  · have hm : (45 : UInt8) ∈ decDigits b.toNat := by rw [← h]; exact List.mem_cons_self
    have := dec_range _ _ hm
    simp at this
  · have hm : (45 : UInt8) ∈ decDigits a.toNat := by rw [h]; exact List.mem_cons_self
    have := dec_range _ _ hm
    simp at this
  · have := congrArg pval h
    rw [pval_dec, pval_dec] at this
    omega

/-- A list without a space ahead of a space (or of the end): where it ends is told. -/
theorem split_space : ∀ {x y p q : List UInt8}, (∀ c ∈ x, c ≠ 32) → (∀ c ∈ y, c ≠ 32) → (p = [] ∨ ∃ t, p = 32 :: t) → (q = [] ∨ ∃ t, q = 32 :: t) → x ++ p = y ++ q → x = y ∧ p = q
  | [], [], p, q, _, _, _, _, h => ⟨rfl, by simpa using h⟩
  | [], c :: y, p, q, _, hy, hp, _, h => by
    rcases hp with rfl | ⟨t, rfl⟩
    · simp at h
    · simp only [List.nil_append, List.cons_append, List.cons.injEq] at h
      exact absurd h.1.symm (hy c List.mem_cons_self)
  | c :: x, [], p, q, hx, _, _, hq, h => by
    rcases hq with rfl | ⟨t, rfl⟩
    · simp at h
    · simp only [List.nil_append, List.cons_append, List.cons.injEq] at h
      exact absurd h.1 (hx c List.mem_cons_self)
  | c :: x, d :: y, p, q, hx, hy, hp, hq, h => by
    simp only [List.cons_append, List.cons.injEq] at h
    obtain ⟨rfl, h⟩ := h
    obtain ⟨h1, h2⟩ := split_space (fun c hc => hx c (List.mem_cons_of_mem _ hc)) (fun c hc => hy c (List.mem_cons_of_mem _ hc)) hp hq h
    exact ⟨by rw [h1], h2⟩

def numsS (s : List Int) : List UInt8 := s.flatMap fun v => 32 :: itoa v
def pointS (done : Int) (s : List Int) : List UInt8 := itoa done ++ numsS s
theorem numsS_cons (v : Int) (s : List Int) : numsS (v :: s) = 32 :: (itoa v ++ numsS s) := by simp [numsS]
theorem numsS_snoc (s : List Int) (v : Int) : numsS (s ++ [v]) = numsS s ++ (32 :: itoa v) := by simp [numsS]
theorem numsS_head (s : List Int) : numsS s = [] ∨ ∃ t, numsS s = 32 :: t := by
  cases s with
  | nil => exact .inl rfl
  | cons v s => exact .inr ⟨_, numsS_cons v s⟩
theorem numsS_inj : ∀ {s t : List Int}, numsS s = numsS t → s = t
  | [], [], _ => rfl
  | [], v :: t, h => by rw [numsS_cons] at h; cases h
  | v :: s, [], h => by rw [numsS_cons] at h; cases h
  | v :: s, x :: t, h => by
    rw [numsS_cons, numsS_cons, List.cons.injEq] at h
    obtain ⟨h1, h2⟩ := split_space (itoa_space v) (itoa_space x) (numsS_head s) (numsS_head t) h.2
    rw [itoa_inj h1, numsS_inj h2]
theorem pointS_inj {d e : Int} {s t : List Int} (h : pointS d s = pointS e t) : d = e ∧ s = t := by
  obtain ⟨h1, h2⟩ := split_space (itoa_space d) (itoa_space e) (numsS_head s) (numsS_head t) h
  exact ⟨itoa_inj h1, numsS_inj h2⟩
theorem nDigits_le (u : Nat) (h : u < 10 ^ 19 * 2) : nDigits u ≤ 20 := by
  rcases Nat.lt_or_ge 20 (nDigits u) with h1 | h1
  · have : 10 ^ (nDigits u - 1) ≤ u := by
      have key : ∀ u, u ≠ 0 → 10 ^ (nDigits u - 1) ≤ u := by
        intro u
        induction u using Nat.strongRecOn with
        | _ u ih =>
          intro h0
          by_cases h : u < 10
          · rw [nDigits_small h]; simp; omega
          · rw [nDigits_big h]
            have := ih (u / 10) (by omega) (by omega)
            have hp := nDigits_pos (u / 10)
            rw [show nDigits (u / 10) + 1 - 1 = (nDigits (u / 10) - 1) + 1 by omega, Nat.pow_succ]
            omega
      refine key u ?_
      rintro rfl
      rw [nDigits_small (by omega)] at h1
      omega
    have h2 : 10 ^ 20 ≤ 10 ^ (nDigits u - 1) := Nat.pow_le_pow_right (by omega) (by omega)
    omega
  · exact h1
theorem itoa_len {v : Int} (h1 : -9223372036854775808 ≤ v) (h2 : v ≤ 9223372036854775807) : (itoa v).length ≤ 21 := by
  unfold itoa
  split
  · rw [List.length_cons, decDigits_length]
    have := nDigits_le v.natAbs (by omega)
    omega
  · rw [decDigits_length]
    have := nDigits_le v.toNat (by omega)
    omega
theorem numsS_len {s : List Int} (h : ∀ v ∈ s, -9223372036854775808 ≤ v ∧ v ≤ 9223372036854775807) : (numsS s).length ≤ 22 * s.length := by
  induction s with
  | nil => simp [numsS]
  | cons v s ih =>
    rw [numsS_cons]
    have h1 := ih fun x hx => h x (List.mem_cons_of_mem _ hx)
    have h2 := itoa_len (h v List.mem_cons_self).1 (h v List.mem_cons_self).2
    simp only [List.length_cons, List.length_append]
    omega
end Go.Proofs.YtfcaebceklhbkaaDoor
