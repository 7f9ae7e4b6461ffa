/-
  Merged out of: Rely1 Rely2 Rely3. No condition of its own.
-/
import Derived.Test.YtimkkeomdkbcjaaFarP36
import Derived.Test.YtimkkeomdkbcjaaFarP37
/-
  THE PLAIN LAW OF far: where words only grow, what is told has been reached by all, and stays so. No program in sight.
-/
namespace Go.Proofs.Ytimkkeomdkbcjaa
open Go.ConcN (upd_ne upd_same)
set_option linter.unusedVariables false
set_option linter.unusedSimpArgs false

theorem sumJ_congr {f g : Nat → Int} : ∀ {n : Nat}, (∀ i, i < n → f i = g i) → sumJ f n = sumJ g n
  | 0, _ => rfl
  | n + 1, h => by simp only [sumJ]; rw [sumJ_congr fun i hi => h i (by omega), h n (by omega)]
theorem minJ_congr {f g : Nat → Int} (h0 : f 0 = g 0) : ∀ {n : Nat}, (∀ i, i < n → f i = g i) → minJ f n = minJ g n
  | 0, _ => h0
  | n + 1, h => by simp only [minJ]; rw [minJ_congr h0 fun i hi => h i (by omega), h n (by omega)]
theorem sumJ_upd {f g : Nat → Int} {a : Nat} (h : ∀ i, i ≠ a → g i = f i) : ∀ {n : Nat}, sumJ g n = sumJ f n + (if a < n then g a - f a else 0)
  | 0 => by simp [sumJ]
  | n + 1 => by
    simp only [sumJ]
    rw [sumJ_upd h (n := n)]
    by_cases e : n = a
    · subst e
      rw [if_neg (by omega), if_pos (by omega)]; omega
    · rw [h n e]
      by_cases hl : a < n
      · rw [if_pos hl, if_pos (by omega)]; omega
      · rw [if_neg hl, if_neg (by omega)]; omega
theorem sumJ_le {f : Nat → Int} : ∀ {n : Nat}, (∀ i, i < n → 0 ≤ f i) → ∀ i, i < n → f i ≤ sumJ f n
  | 0, _, i, hi => by omega
  | n + 1, h, i, hi => by
    have h0 : 0 ≤ sumJ f n := by
      have : ∀ m, m ≤ n → 0 ≤ sumJ f m := fun m => by
        induction m with
        | zero => intro; simp [sumJ]
        | succ m ih => intro hm; have := ih (by omega); have := h m (by omega); simp only [sumJ]; omega
      exact this n (Nat.le_refl _)
    have hn := h n (by omega)
    simp only [sumJ]
    by_cases e : i = n
    · subst e; omega
    · have := sumJ_le (fun i hi => h i (by omega)) i (show i < n by omega)
      omega
theorem sumJ_sub (f g : Nat → Int) : ∀ n, sumJ (fun i => f i - g i) n = sumJ f n - sumJ g n
  | 0 => by simp [sumJ]
  | n + 1 => by simp only [sumJ]; rw [sumJ_sub f g n]; omega

/-- An operation of such a thread. -/
def FarOp (k : Nat) (o : OpD) : Prop := (o.kind = 7 ∧ 0 ≤ o.a ∧ o.a < k ∧ 0 ≤ o.b ∧ o.b ≤ 3) ∨ o.kind = 2 ∨ (o.kind = 1 ∧ 1 ≤ o.b ∧ o.b ≤ 6 ∧ 1 ≤ o.c ∧ o.c ≤ 3)
/-- The world of such threads. -/
structure FW where
  k : Nat
  n : Nat
  ws : Nat → Int
  LL : Nat → List OpD
structure FW.Ok (F : FW) : Prop where
  k1 : 1 ≤ F.k
  k4 : F.k ≤ 4
  n4 : F.n ≤ 4
  ws : ∀ j, j < F.k → 0 ≤ F.ws j ∧ F.ws j ≤ 3
  len : ∀ i, i < F.n → (F.LL i).length ≤ 8
  ops : ∀ i, i < F.n → ∀ o ∈ F.LL i, FarOp F.k o
def FW.first (F : FW) : Int := minJ F.ws F.k
def FW.bsum (F : FW) (i : Nat) (m : BM) : Int := sumJ (fun t => addB (opA (F.LL i) t)) (m.an i).length
structure InvB (F : FW) (m : BM) : Prop where
  al : m.al = false
  ge : ∀ j, j < F.k → F.ws j ≤ m.wv j
  sum : sumJ m.wv F.k = sumJ F.ws F.k + sumJ (fun i => F.bsum i m) F.n
  len : ∀ i, i < F.n → (m.an i).length ≤ (F.LL i).length
def RB (F : FW) (i : Nat) (m m' : BM) : Prop := InvB F m' ∧ (∀ j, j < F.k → m.wv j ≤ m'.wv j) ∧ m'.an i = m.an i
def GB (F : FW) (i : Nat) (m m' : BM) : Prop := InvB F m' ∧ (∀ j, j < F.k → m.wv j ≤ m'.wv j) ∧ ∀ j, j ≠ i → m'.an j = m.an j
def ToldM (F : FW) (m : BM) (last : Int) (o : OpD) (a : Bool × Int) : Prop :=
  (o.kind = 7 ∧ 0 ≤ o.b ∧ o.b ≤ 3) ∨ (o.kind = 2 ∧ a.1 = true ∧ last ≤ a.2 ∧ (∀ j, j < F.k → a.2 ≤ m.wv j) ∧ F.first ≤ a.2) ∨ (o.kind = 1 ∧ a.1 = true ∧ (∀ j, j < F.k → a.2 ≤ m.wv j) ∧ F.first ≤ a.2 ∧ o.a ≤ a.2) ∨ (o.kind = 1 ∧ a.1 = false ∧ a.2 = 4 ∧ ¬ ((F.k : Int) ≤ o.b ∧ o.a ≤ F.first))
structure HistB (F : FW) (i : Nat) (m : BM) : Prop where
  ok : ∀ t, t < (m.an i).length → ToldM F m (lastJ F.first (F.LL i) (m.an i) t) (opA (F.LL i) t) (ansA (m.an i) t)
  le : ∀ j, j < F.k → lastJ F.first (F.LL i) (m.an i) (m.an i).length ≤ m.wv j
  ge : F.first ≤ lastJ F.first (F.LL i) (m.an i) (m.an i).length
def FinB (F : FW) (i : Nat) (m : BM) : Prop := (m.an i).length = (F.LL i).length ∧ HistB F i m
section
variable {F : FW} {i : Nat} {m m' : BM}
theorem ToldM.grow {last : Int} {o : OpD} {a : Bool × Int} (h : ToldM F m last o a) (hg : ∀ j, j < F.k → m.wv j ≤ m'.wv j) : ToldM F m' last o a := by
  rcases h with h | ⟨a1, a2, a3, a4, a5⟩ | ⟨a1, a2, a3, a4, a5⟩ | h
  · exact .inl h
  · exact .inr (.inl ⟨a1, a2, a3, fun j hj => Int.le_trans (a4 j hj) (hg j hj), a5⟩)
  · exact .inr (.inr (.inl ⟨a1, a2, fun j hj => Int.le_trans (a3 j hj) (hg j hj), a4, a5⟩))
  · exact .inr (.inr (.inr h))
theorem HistB.grow (h : HistB F i m) (hg : ∀ j, j < F.k → m.wv j ≤ m'.wv j) (ha : m'.an i = m.an i) : HistB F i m' :=
  ⟨fun t ht => by rw [ha] at ht ⊢; exact (h.ok t ht).grow hg, fun j hj => by rw [ha]; exact Int.le_trans (h.le j hj) (hg j hj), by rw [ha]; exact h.ge⟩
/-- Where a thread stands between two of its operations. -/
structure AtB (F : FW) (i d : Nat) (m : BM) : Prop where
  inv : InvB F m
  len : (m.an i).length = d
  hist : HistB F i m
theorem AtB.grow {d : Nat} (h : AtB F i d m) (hr : RB F i m m') : AtB F i d m' := ⟨hr.1, by rw [hr.2.2]; exact h.len, h.hist.grow hr.2.1 hr.2.2⟩
theorem rb_refl (h : InvB F m) : RB F i m m := ⟨h, fun _ _ => Int.le_refl _, rfl⟩
theorem rb_trans {a b c : BM} (h1 : RB F i a b) (h2 : RB F i b c) : RB F i a c := ⟨h2.1, fun j hj => Int.le_trans (h1.2.1 j hj) (h2.2.1 j hj), h2.2.2.trans h1.2.2⟩
theorem gb_refl (h : InvB F m) : GB F i m m := ⟨h, fun _ _ => Int.le_refl _, fun _ _ => rfl⟩
theorem gb_trans {a b c : BM} (h1 : GB F i a b) (h2 : GB F i b c) : GB F i a c := ⟨h2.1, fun j hj => Int.le_trans (h1.2.1 j hj) (h2.2.1 j hj), fun j hj => (h2.2.2 j hj).trans (h1.2.2 j hj)⟩
theorem gb_rb {i j : Nat} {a b : BM} (hij : i ≠ j) (h : GB F i a b) : RB F j a b := ⟨h.1, h.2.1, h.2.2 j fun e => hij e.symm⟩
theorem opA_get {L : List OpD} {d : Nat} {o : OpD} {l : List OpD} (h : L.drop d = o :: l) : opA L d = o ∧ d < L.length ∧ L.drop (d + 1) = l := by
  have hd : d < L.length := by
    rcases Nat.lt_or_ge d L.length with q | q
    · exact q
    · rw [List.drop_eq_nil_of_le q] at h; cases h
  rw [List.drop_eq_getElem_cons hd] at h
  injection h with h1 h2
  refine ⟨?_, hd, h2⟩
  unfold opA
  rw [List.getD_eq_getElem?_getD, List.getElem?_eq_getElem hd]
  exact h1
theorem ansA_app {A : List (Bool × Int)} {r : Bool × Int} {t : Nat} (h : t < A.length) : ansA (A ++ [r]) t = ansA A t := by
  unfold ansA
  rw [List.getD_eq_getElem?_getD, List.getD_eq_getElem?_getD, List.getElem?_append_left h]
theorem ansA_last {A : List (Bool × Int)} {r : Bool × Int} : ansA (A ++ [r]) A.length = r := by
  unfold ansA
  rw [List.getD_eq_getElem?_getD]
  simp
theorem lastJ_app {first : Int} {L : List OpD} {A : List (Bool × Int)} {r : Bool × Int} : ∀ t, t ≤ A.length → lastJ first L (A ++ [r]) t = lastJ first L A t
  | 0, _ => rfl
  | t + 1, h => by
    simp only [lastJ]
    rw [lastJ_app t (by omega), ansA_app (by omega)]
/-- The last answer that counted, behind one more. -/
def lastN (last : Int) (o : OpD) (r : Bool × Int) : Int := if o.kind = 7 then last else if r.1 then max last r.2 else last
theorem bsum_upd {m : BM} {r : Bool × Int} {o : OpD} (ho : opA (F.LL i) (m.an i).length = o) {wv : Nat → Int} (hi : i < F.n) :
    sumJ (fun x => F.bsum x { m with wv := wv, an := Go.ConcN.upd m.an i (m.an i ++ [r]) }) F.n = sumJ (fun x => F.bsum x m) F.n + addB o := by
  rw [sumJ_upd (f := fun x => F.bsum x m) (g := fun x => F.bsum x { m with wv := wv, an := Go.ConcN.upd m.an i (m.an i ++ [r]) }) (a := i) (fun x hx => by unfold FW.bsum; simp only [upd_ne _ _ hx]), if_pos hi]
  have e : F.bsum i { m with wv := wv, an := Go.ConcN.upd m.an i (m.an i ++ [r]) } = F.bsum i m + addB o := by
    unfold FW.bsum
    simp only [upd_same, List.length_append, List.length_cons, List.length_nil]
    show sumJ _ ((m.an i).length + 1) = _
    simp only [sumJ]
    rw [ho]
  rw [e]
  omega
/-- An answer is laid, maybe with words that grew. -/
theorem at_more {d : Nat} (h : AtB F i d m) (hi : i < F.n) {o : OpD} {l : List OpD} (hL : (F.LL i).drop d = o :: l) {r : Bool × Int} {wv : Nat → Int} (hw : ∀ j, j < F.k → m.wv j ≤ wv j) (hs : sumJ wv F.k = sumJ m.wv F.k + addB o)
    (hr : ToldM F { m with wv := wv } (lastJ F.first (F.LL i) (m.an i) d) o r) (hl : ∀ j, j < F.k → lastN (lastJ F.first (F.LL i) (m.an i) d) o r ≤ wv j) :
    AtB F i (d + 1) { m with wv := wv, an := Go.ConcN.upd m.an i (m.an i ++ [r]) } ∧ GB F i m { m with wv := wv, an := Go.ConcN.upd m.an i (m.an i ++ [r]) } := by
  obtain ⟨ho, hd, _⟩ := opA_get hL
  obtain ⟨hI, rfl, hH⟩ := h
  have hI2 : InvB F { m with wv := wv, an := Go.ConcN.upd m.an i (m.an i ++ [r]) } := by
    refine ⟨hI.al, fun j hj => Int.le_trans (hI.ge j hj) (hw j hj), ?_, fun x hx => ?_⟩
    · rw [bsum_upd ho hi]
      show sumJ wv F.k = _
      rw [hs, hI.sum]
      omega
    · by_cases e : x = i
      · subst e
        simp only [upd_same]
        simp; omega
      · simp only [upd_ne _ _ e]
        exact hI.len x hx
  have hlast : lastJ F.first (F.LL i) (m.an i ++ [r]) ((m.an i).length + 1) = lastN (lastJ F.first (F.LL i) (m.an i) (m.an i).length) o r := by
    simp only [lastJ, lastN]
    rw [lastJ_app _ (Nat.le_refl _), ho, ansA_last]
  refine ⟨⟨hI2, ?_, ⟨fun t ht => ?_, fun j hj => ?_, ?_⟩⟩, hI2, hw, fun j hj => ?_⟩
  · simp only [upd_same]; simp
  · simp only [upd_same] at ht ⊢
    rw [List.length_append] at ht
    simp only [List.length_cons, List.length_nil] at ht
    by_cases e : t = (m.an i).length
    · subst e
      rw [lastJ_app _ (Nat.le_refl _), ho, ansA_last]
      exact hr
    · rw [lastJ_app t (by omega), ansA_app (by omega)]
      exact (hH.ok t (by omega)).grow hw
  · simp only [upd_same, List.length_append, List.length_cons, List.length_nil]
    show lastJ F.first (F.LL i) (m.an i ++ [r]) ((m.an i).length + 1) ≤ wv j
    rw [hlast]
    exact hl j hj
  · simp only [upd_same, List.length_append, List.length_cons, List.length_nil]
    show _ ≤ lastJ F.first (F.LL i) (m.an i ++ [r]) ((m.an i).length + 1)
    rw [hlast]
    have := hH.ge
    unfold lastN
    split
    · exact this
    · split
      · omega
      · exact this
  · simp only [upd_ne _ _ hj]
end
end Go.Proofs.Ytimkkeomdkbcjaa

/-
  THE PLAIN LAW OF far: the threads of barrier. No program in sight.
-/
namespace Go.Proofs.Ytimkkeomdkbcjaa
open Go.ConcN (upd_ne upd_same)
set_option linter.unusedVariables false
set_option linter.unusedSimpArgs false

section
variable {F : FW} {i N : Nat} {Fin : BM → Prop} {St : BM → Prop} {lo : Int}
/-- Limit. -/
theorem lim_ok (hSt : ∀ m m', St m → RB F i m m' → St m') (hI : ∀ m, St m → InvB F m) (hlo : ∀ m, St m → ∀ j, j < F.k → lo ≤ m.wv j) {κ : Int → Fu BM}
    (hκ : ∀ m n, St m → lo ≤ n → (∀ j, j < F.k → n ≤ m.wv j) → OkF (RB F i) (GB F i) Fin N m (κ n)) :
    ∀ r j n m, St m → j + r = F.k → lo ≤ n → (∀ x, x < j → n ≤ m.wv x) → OkF (RB F i) (GB F i) Fin (N + r) m (limL κ r j n)
  | 0, j, n, m, h, hj, hn, hx => hκ m n h hn fun x hk => hx x (by omega)
  | r + 1, j, n, m, h, hj, hn, hx => by
    refine okF_step (gb_refl (hI m h)) fun m' hr => ?_
    have h' := hSt m m' h hr
    have hl := hlo m' h' j (by omega)
    exact lim_ok hSt hI hlo hκ r (j + 1) (min n (m'.wv j)) m' h' (by omega) (by omega) fun x hxj => by
      by_cases e : x = j
      · subst e; omega
      · have h1 := hx x (by omega)
        have h2 := hr.2.1 x (by omega)
        omega
theorem limF_ok (hk : 1 ≤ F.k) (hSt : ∀ m m', St m → RB F i m m' → St m') (hI : ∀ m, St m → InvB F m) (hlo : ∀ m, St m → ∀ j, j < F.k → lo ≤ m.wv j) {κ : Int → Fu BM}
    (hκ : ∀ m n, St m → lo ≤ n → (∀ j, j < F.k → n ≤ m.wv j) → OkF (RB F i) (GB F i) Fin N m (κ n)) {m : BM} (h : St m) : OkF (RB F i) (GB F i) Fin (N + F.k) m (limF F.k κ) := by
  have e : N + F.k = N + (F.k - 1) + 1 := by omega
  rw [e]
  unfold limF
  rw [if_neg (by omega)]
  refine okF_step (gb_refl (hI m h)) fun m' hr => ?_
  have h' := hSt m m' h hr
  exact lim_ok hSt hI hlo hκ (F.k - 1) 1 (m'.wv 0) m' h' (by omega) (hlo m' h' 0 (by omega)) fun x hx => by
    obtain rfl : x = 0 := by omega
    exact Int.le_refl _
/-- Eager and rare waits. -/
theorem eager_ok (hk : 1 ≤ F.k) (hSt : ∀ m m', St m → RB F i m m' → St m') (hI : ∀ m, St m → InvB F m) (hlo : ∀ m, St m → ∀ j, j < F.k → lo ≤ m.wv j) (hf : F.first ≤ lo) {q : Int} {κ : Int → Int → Fu BM}
    (h0 : ∀ m n, St m → lo ≤ n → (∀ j, j < F.k → n ≤ m.wv j) → q ≤ n → OkF (RB F i) (GB F i) Fin N m (κ n 0)) (h4 : ∀ m, St m → F.first < q → OkF (RB F i) (GB F i) Fin N m (κ 0 4)) (eager : Bool) :
    ∀ r j m, St m → (r = 0 → F.first < q) → OkF (RB F i) (GB F i) Fin (N + r * (F.k + 1)) m (eagerL κ F.k q eager r j)
  | 0, j, m, h, hz => (h4 m h (hz rfl)).mono (by omega)
  | r + 1, j, m, h, hz => by
    have eN : N + (r + 1) * (F.k + 1) = (N + r * (F.k + 1)) + F.k + 1 := by rw [Nat.add_mul]; omega
    have lim : ∀ m', St m' → OkF (RB F i) (GB F i) Fin ((N + r * (F.k + 1)) + F.k) m' (limF F.k (eagerG κ q (eagerL κ F.k q eager r (j + 1)))) := fun m' h' => by
      refine limF_ok hk hSt hI hlo (fun m n h hn hx => ?_) h'
      unfold eagerG
      by_cases hq : q ≤ n
      · rw [if_pos hq]
        exact (h0 m n h hn hx hq).mono (by omega)
      · rw [if_neg hq]
        exact eager_ok hk hSt hI hlo hf h0 h4 eager r (j + 1) m h fun _ => by omega
    rw [eN]
    unfold eagerL
    split
    · refine okF_step (gb_refl (hI m h)) fun m' hr => ?_
      have h' := hSt m m' h hr
      have hl := lim m' h'
      show OkF (RB F i) (GB F i) Fin _ m' (eagerB κ F.k q (eagerL κ F.k q eager r (j + 1)) m'.al)
      unfold eagerB
      rw [(hI m' h').al, if_neg (by decide)]
      exact hl
    · exact (lim m h).mono (by omega)
/-- Lean waits. -/
theorem lean_ok {T : Nat} (hSt : ∀ m m', St m → RB F i m m' → St m') (hI : ∀ m, St m → InvB F m) (hlo : ∀ m, St m → ∀ j, j < F.k → lo ≤ m.wv j) (hf : F.first ≤ lo) {q : Int} {κ : Int → Int → Fu BM}
    (h0 : ∀ m n, St m → lo ≤ n → (∀ j, j < F.k → n ≤ m.wv j) → q ≤ n → OkF (RB F i) (GB F i) Fin N m (κ n 0)) (h4 : ∀ m, St m → ¬ (F.k ≤ T ∧ q ≤ F.first) → OkF (RB F i) (GB F i) Fin N m (κ 0 4)) :
    ∀ r j n m, St m → j < F.k → (∀ x, x < j → n ≤ m.wv x) → (0 < j → lo ≤ n ∧ q ≤ n) → (q ≤ F.first → j + r = T) → OkF (RB F i) (GB F i) Fin (N + 2 * r) m (leanL κ F.k q r j n)
  | 0, j, n, m, h, hj, hx, hn, hT => h4 m h fun z => by have := hT z.2; omega
  | r + 1, j, n, m, h, hj, hx, hn, hT => by
    have eN : N + 2 * (r + 1) = (N + 2 * r) + 1 + 1 := by omega
    rw [eN]
    unfold leanL
    refine okF_step (gb_refl (hI m h)) fun m' hr => ?_
    have h' := hSt m m' h hr
    show OkF (RB F i) (GB F i) Fin _ m' ((fun b : Bool => if b = true then κ 0 5 else stepF fun m => leanV κ F.k q (leanL κ F.k q r) j n (m.wv j) m) m'.al)
    rw [(hI m' h').al]
    show OkF (RB F i) (GB F i) Fin _ m' (stepF fun m => leanV κ F.k q (leanL κ F.k q r) j n (m.wv j) m)
    refine okF_step (gb_refl (hI m' h')) fun m2 hr2 => ?_
    have h2 := hSt m' m2 h' hr2
    show OkF (RB F i) (GB F i) Fin _ m2 (leanV κ F.k q (leanL κ F.k q r) j n (m2.wv j))
    have hv := hlo m2 h2 j hj
    have hx2 : ∀ x, x < j → n ≤ m2.wv x := fun x hxj => by
      have a := hx x hxj
      have b := hr.2.1 x (by omega)
      have c := hr2.2.1 x (by omega)
      omega
    unfold leanV
    by_cases hq : m2.wv j < q
    · rw [if_pos hq]
      exact lean_ok hSt hI hlo hf h0 h4 r j n m2 h2 hj hx2 hn fun z => by omega
    · rw [if_neg hq]
      have hl : lo ≤ leanN j n (m2.wv j) ∧ q ≤ leanN j n (m2.wv j) ∧ ∀ x, x < j + 1 → leanN j n (m2.wv j) ≤ m2.wv x := by
        unfold leanN
        by_cases e : j = 0 ∨ m2.wv j < n
        · rw [if_pos e]
          refine ⟨hv, by omega, fun x hxj => ?_⟩
          by_cases e2 : x = j
          · subst e2; omega
          · have := hx2 x (by omega)
            rcases e with e | e <;> omega
        · rw [if_neg e]
          have := hn (by omega)
          refine ⟨this.1, this.2, fun x hxj => ?_⟩
          by_cases e2 : x = j
          · subst e2; omega
          · exact hx2 x (by omega)
      split
      · rename_i ek
        exact (h0 m2 _ h2 hl.1 (fun x hxk => hl.2.2 x (by omega)) hl.2.1).mono (by omega)
      · exact lean_ok hSt hI hlo hf h0 h4 r (j + 1) _ m2 h2 (by omega) hl.2.2 (fun _ => ⟨hl.1, hl.2.1⟩) fun z => by have := hT z; omega
end
theorem addW_small {x y : Int} (h0 : 0 ≤ x) (h1 : x ≤ 1000) (h2 : 0 ≤ y) (h3 : y ≤ 3) : addW x y = x + y := by
  unfold addW
  rw [IntKind.wrap_i64]
  omega
section
variable {F : FW} {i : Nat}
/-- No word is great. -/
theorem inv_small (hF : F.Ok) {m : BM} (h : InvB F m) : ∀ j, j < F.k → 0 ≤ m.wv j ∧ m.wv j ≤ 1000 := fun j hj => by
  have g := fun j hj => h.ge j hj
  have w := hF.ws
  have p : ∀ j, j < F.k → 0 ≤ m.wv j := fun j hj => by have := g j hj; have := w j hj; omega
  refine ⟨p j hj, ?_⟩
  have a := sumJ_le p j hj
  have b := sumJ_bound (f := F.ws) (lo := 0) (hi := 3) (n := F.k) (fun j hj => w j hj) (by omega) (by omega) F.k (Nat.le_refl _)
  have c := sumJ_bound (f := fun i => F.bsum i m) (lo := 0) (hi := 24) (n := F.n) (fun x hx => by
    have := sumJ_bound (f := fun t => addB (opA (F.LL x) t)) (lo := 0) (hi := 3) (n := (m.an x).length) (fun t ht => by
      have hl := h.len x hx
      have ho := hF.ops x hx (opA (F.LL x) t) (by
        unfold opA
        rw [List.getD_eq_getElem?_getD, List.getElem?_eq_getElem (by omega)]
        exact List.getElem_mem _)
      unfold addB
      unfold FarOp at ho
      split <;> omega) (by omega) (by omega) (m.an x).length (Nat.le_refl _)
    have hl := h.len x hx
    have hl8 := hF.len x hx
    unfold FW.bsum
    omega) (by omega) (by omega) F.n (Nat.le_refl _)
  have e := h.sum
  have k4 := hF.k4
  have n4 := hF.n4
  omega
theorem ops_ok (hF : F.Ok) (hi : i < F.n) : ∀ (l : List OpD) (d : Nat), (F.LL i).drop d = l → ∀ m, AtB F i d m → OkF (RB F i) (GB F i) (FinB F i) (50 * l.length) m (opsT F.k i l)
  | [], d, hL, m, h => by
    refine okF_fin (gb_refl h.inv) fun m' hr => ?_
    have h' := h.grow hr
    have hd : (F.LL i).length ≤ d := by simpa using hL
    have := h'.inv.len i hi
    have e := h'.len
    exact ⟨by omega, h'.hist⟩
  | o :: l, d, hL, m, h => by
    obtain ⟨ho, hd, hl⟩ := opA_get hL
    have hop : FarOp F.k o := hF.ops i hi o (by rw [← List.take_append_drop d (F.LL i), hL]; simp)
    have ih := ops_ok hF hi l (d + 1) hl
    have k1 := hF.k1
    have k4 := hF.k4
    -- the last answer that counted
    have hSt : ∀ (A : List (Bool × Int)) (m m' : BM), (AtB F i d m ∧ m.an i = A) → RB F i m m' → AtB F i d m' ∧ m'.an i = A := fun A m m' hh hr => ⟨hh.1.grow hr, hr.2.2.trans hh.2⟩
    -- an answer that leaves the words
    have tell : ∀ (r : Bool × Int) (m : BM), AtB F i d m → o.kind ≠ 7 → ToldM F m (lastJ F.first (F.LL i) (m.an i) d) o r → (r.1 = true → ∀ j, j < F.k → r.2 ≤ m.wv j) → OkF (RB F i) (GB F i) (FinB F i) (50 * l.length) m (fun m => opsT F.k i l { m with an := Go.ConcN.upd m.an i (m.an i ++ [r]) }) := fun r m h h7 hr hw => by
      have h2 := at_more h hi hL (r := r) (wv := m.wv) (fun j _ => Int.le_refl _) (by unfold addB; rw [if_neg h7]; omega) hr (fun j hj => by
        unfold lastN
        rw [if_neg h7]
        have hle := h.hist.le j hj
        rw [h.len] at hle
        split
        · rename_i e
          have := hw e j hj
          omega
        · exact hle)
      exact (ih _ h2.1).back (G := GB F i) (fun a b c x y => gb_trans x y) h2.2
    have e50 : 50 * (o :: l).length = 50 * l.length + 50 := by simp; omega
    rw [e50]
    unfold opsT
    unfold doF
    rcases hop with ⟨h7, ha0, ha1, hb0, hb3⟩ | h2 | ⟨h1, hb1, hb6, hc1, hc3⟩
    · rw [if_neg (by omega), if_neg (by omega), if_neg (by omega), if_neg (by omega), if_neg (by omega), if_pos (.inr h7)]
      unfold changeF
      rw [if_neg (by omega), if_neg (by omega)]
      refine OkF.mono (N := 50 * l.length + 1) (okF_step (gb_refl h.inv) fun m' hr => ?_) (by omega)
      have h' := h.grow hr
      have hat : o.a.toNat < F.k := by omega
      obtain ⟨s0, s1⟩ := inv_small hF h'.inv _ hat
      have hadd := addW_small s0 s1 hb0 hb3
      have hm := at_more h' hi hL (r := (true, addW (m'.wv o.a.toNat) o.b)) (wv := Go.ConcN.upd m'.wv o.a.toNat (addW (m'.wv o.a.toNat) o.b)) (fun j hj => by
          by_cases e : j = o.a.toNat
          · rw [e, upd_same]; omega
          · rw [upd_ne _ _ e]; exact Int.le_refl _)
        (by
          rw [sumJ_upd (f := m'.wv) (g := Go.ConcN.upd m'.wv o.a.toNat (addW (m'.wv o.a.toNat) o.b)) (a := o.a.toNat) (fun x hx => upd_ne _ _ hx), if_pos hat, upd_same, hadd]
          unfold addB
          rw [if_pos h7]; omega)
        (.inl ⟨h7, hb0, hb3⟩) (fun j hj => by
          unfold lastN
          rw [if_pos h7]
          have hle := h'.hist.le j hj
          rw [h'.len] at hle
          by_cases e : j = o.a.toNat
          · rw [e, upd_same]; rw [e] at hle; omega
          · rw [upd_ne _ _ e]; exact hle)
      have hx := (ih _ hm.1).back (G := GB F i) (fun a b c x y => gb_trans x y) hm.2
      exact hx
    · rw [if_neg (by omega), if_pos h2]
      refine OkF.mono (N := 50 * l.length + F.k) (limF_ok hF.k1 (St := fun x => AtB F i d x ∧ x.an i = m.an i) (lo := lastJ F.first (F.LL i) (m.an i) d) (hSt _) (fun x hx => hx.1.inv) (fun x hx j hj => ?_) (fun x n hx hn hw => ?_) ⟨h, rfl⟩) (by omega)
      · have := hx.1.hist.le j hj
        rw [hx.1.len, hx.2] at this
        exact this
      · have hg := hx.1.hist.ge
        rw [hx.1.len, hx.2] at hg
        exact tell (true, n) x hx.1 (by omega) (.inr (.inl ⟨h2, rfl, by rw [hx.2]; exact hn, hw, by show F.first ≤ n; omega⟩)) fun _ => hw
    · rw [if_pos h1]
      have hT : triesT (min (max o.b 0) 1024) = o.b.toNat := by unfold triesT; omega
      have hTb : o.b.toNat ≤ 6 := by omega
      unfold waitF
      rw [if_neg (by omega), if_neg (by omega), hT]
      have hlo : ∀ x, (AtB F i d x ∧ x.an i = m.an i) → ∀ j, j < F.k → lastJ F.first (F.LL i) (m.an i) d ≤ x.wv j := fun x hx j hj => by
        have := hx.1.hist.le j hj
        rw [hx.1.len, hx.2] at this
        exact this
      have hge : F.first ≤ lastJ F.first (F.LL i) (m.an i) d := by
        have := h.hist.ge
        rw [h.len] at this
        exact this
      have h0 : ∀ x n, (AtB F i d x ∧ x.an i = m.an i) → lastJ F.first (F.LL i) (m.an i) d ≤ n → (∀ j, j < F.k → n ≤ x.wv j) → o.a ≤ n → OkF (RB F i) (GB F i) (FinB F i) (50 * l.length) x (waitK (fun r m => opsT F.k i l { m with an := Go.ConcN.upd m.an i (m.an i ++ [r]) }) n 0) := fun x n hx hn hw hq => by
        unfold waitK
        rw [if_pos rfl]
        exact tell (true, n) x hx.1 (by omega) (.inr (.inr (.inl ⟨h1, rfl, hw, by show F.first ≤ n; omega, hq⟩))) fun _ => hw
      have h4 : ∀ x, (AtB F i d x ∧ x.an i = m.an i) → ¬ (F.k ≤ o.b.toNat ∧ o.a ≤ F.first) → OkF (RB F i) (GB F i) (FinB F i) (50 * l.length) x (waitK (fun r m => opsT F.k i l { m with an := Go.ConcN.upd m.an i (m.an i ++ [r]) }) 0 4) := fun x hx hq => by
        unfold waitK
        rw [if_neg (by decide)]
        exact tell (false, 4) x hx.1 (by omega) (.inr (.inr (.inr ⟨h1, rfl, rfl, fun z => hq ⟨by omega, z.2⟩⟩))) fun z => by cases z
      unfold waitT
      split
      · refine OkF.mono (N := 50 * l.length + 2 * o.b.toNat) (lean_ok (St := fun x => AtB F i d x ∧ x.an i = m.an i) (hSt _) (fun x hx => hx.1.inv) hlo hge h0 h4 o.b.toNat 0 0 m ⟨h, rfl⟩ (by omega) (fun x hx => by omega) (fun z => by omega) (fun z => by omega)) (by omega)
      · have hb : o.b.toNat * (F.k + 1) ≤ 6 * 5 := Nat.mul_le_mul hTb (by omega)
        exact OkF.mono (N := 50 * l.length + o.b.toNat * (F.k + 1)) (eager_ok hF.k1 (St := fun x => AtB F i d x ∧ x.an i = m.an i) (hSt _) (fun x hx => hx.1.inv) hlo hge h0 (fun x hx hq => h4 x hx fun z => by omega) (o.c == 1) o.b.toNat 0 m ⟨h, rfl⟩ (fun z => by omega)) (by omega)
end
end Go.Proofs.Ytimkkeomdkbcjaa

/-
  THE PLAIN LAW OF far: the trace is as it should be. No program in sight.
-/
namespace Go.Proofs.Ytimkkeomdkbcjaa
open Go.ConcN (upd_ne upd_same)
set_option linter.unusedVariables false
set_option linter.unusedSimpArgs false

theorem far_trace {ws : List Int} {LL : List (List OpD)} (hw : 1 ≤ ws.length ∧ ws.length ≤ 4) (hv : ∀ x ∈ ws, 0 ≤ x ∧ x ≤ 3) (hn : LL.length ≤ 4) (hl : ∀ l ∈ LL, l.length ≤ 8 ∧ ∀ o ∈ l, FarOp ws.length o) (sch : List Int) : FarOk ws LL (trB ws LL sch 1048576) := by
  let F : FW := ⟨ws.length, LL.length, fun j => ws.getD j 0, fun i => LL.getD i []⟩
  have hget : ∀ i, i < LL.length → LL.getD i [] ∈ LL := fun i hi => by
    rw [List.getD_eq_getElem?_getD, List.getElem?_eq_getElem hi]
    exact List.getElem_mem _
  have hF : F.Ok := ⟨hw.1, hw.2, hn, fun j hj => hv _ (by
    show ws.getD j 0 ∈ ws
    rw [List.getD_eq_getElem?_getD, List.getElem?_eq_getElem hj]
    exact List.getElem_mem _), fun i hi => (hl _ (hget i hi)).1, fun i hi o ho => (hl _ (hget i hi)).2 o ho⟩
  have hz : ∀ (f : Nat → Int) n, (∀ i, f i = 0) → sumJ f n = 0 := fun f n h => by
    induction n with
    | zero => rfl
    | succ n ih => simp only [sumJ]; rw [ih, h]; rfl
  have h0 : InvB F ⟨fun j => ws.getD j 0, false, fun _ => []⟩ := by
    refine ⟨rfl, fun j hj => Int.le_refl _, ?_, fun i hi => Nat.zero_le _⟩
    rw [hz (fun i => F.bsum i ⟨fun j => ws.getD j 0, false, fun _ => []⟩) F.n fun i => rfl]
    show sumJ (fun j => ws.getD j 0) F.k = sumJ (fun j => ws.getD j 0) F.k + 0
    omega
  have hS : ∀ i m, i < LL.length → m.an i = [] → InvB F m → OkF (RB F i) (GB F i) (FinB F i) 400 m (opsT ws.length i (LL.getD i [])) := fun i m hi hP hI => by
    have h8 := hF.len i hi
    refine (ops_ok hF hi (LL.getD i []) 0 rfl m ⟨hI, by rw [hP]; rfl, ⟨fun t ht => by rw [hP] at ht; exact absurd ht (by simp), fun j hj => ?_, ?_⟩⟩).mono (by
      have h8' : (LL.getD i []).length ≤ 8 := h8
      omega)
    · rw [hP]
      show F.first ≤ m.wv j
      have a := minJ_le F.ws F.k j hj
      have b := hI.ge j hj
      exact Int.le_trans a b
    · rw [hP]
      exact Int.le_refl _
  have hmo : (min (max (1048576 : Int) 0) 1048576).toNat = 1048576 := by decide
  obtain ⟨gI, gl, gF⟩ := game_over (n := LL.length) (mo := 1048576) (R := RB F) (G := GB F) (Fin := FinB F) (Inv := InvB F) (fun i m h => rb_refl h) (fun i a b c => rb_trans) (fun i j a b hij h => gb_rb hij h) (fun i a b h => h.1)
    (P := fun i m => m.an i = []) (fun i j a b hij hP hG => (hG.2.2 j fun e => hij e.symm).trans hP) (B := 400) hS h0 (fun _ => rfl) (by omega) sch
  have e1 : min ws.length 65 = ws.length := by omega
  have e2 : min LL.length 64 = LL.length := by omega
  have e3 : gameB (min ws.length 65) ws LL sch 1048576 = playO LL.length 1048576 (fun i => opsT ws.length i (LL.getD i [])) ⟨fun j => ws.getD j 0, false, fun _ => []⟩ sch := by
    unfold gameB
    rw [hmo, e1, e2]
    congr 1
    funext i
    have h8 : (LL.getD i []).length ≤ 8 := by
      rcases Nat.lt_or_ge i LL.length with h | h
      · exact hF.len i h
      · rw [List.getD_eq_getElem?_getD, List.getElem?_eq_none h]; simp
    rw [List.take_of_length_le (by omega)]
  generalize hg : playO LL.length 1048576 (fun i => opsT ws.length i (LL.getD i [])) ⟨fun j => ws.getD j 0, false, fun _ => []⟩ sch = gf at *
  have eT : trB ws LL sch 1048576 = ⟨(List.range LL.length).map gf.m.an, gf.ord, wordsL ws.length gf.m ++ [bit gf.m.al], decide (0 < leftO gf.co LL.length)⟩ := by
    unfold trB
    rw [e3, e1, e2]
  rw [eT]
  have st1 : ∀ j, j < ws.length → (wordsL ws.length gf.m ++ [bit gf.m.al]).getD j 0 = gf.m.wv j := fun j hj => by
    rw [List.getD_eq_getElem?_getD, List.getElem?_append_left (by rw [wordsL_len]; exact hj)]
    simp [wordsL, hj]
  have an1 : ∀ i, i < LL.length → ((List.range LL.length).map gf.m.an).getD i [] = gf.m.an i := fun i hi => by
    rw [List.getD_eq_getElem?_getD]
    simp [hi]
  have sm := inv_small hF gI
  have m1 : minJ (fun i => (wordsL ws.length gf.m ++ [bit gf.m.al]).getD i 0) ws.length = minJ gf.m.wv ws.length := minJ_congr (st1 0 (by omega)) st1
  refine ⟨?_, ?_, ?_, ?_, hw, hn, fun j hj => ?_, fun i hi => ?_, fun i t hi ht => ?_, ?_⟩
  · show decide (0 < leftO gf.co LL.length) = false
    rw [gl]; rfl
  · show ((List.range LL.length).map gf.m.an).length = LL.length
    simp
  · show (wordsL ws.length gf.m ++ [bit gf.m.al]).length = ws.length + 1
    rw [List.length_append, wordsL_len]; rfl
  · show (wordsL ws.length gf.m ++ [bit gf.m.al]).getD ws.length 0 = 0
    rw [List.getD_eq_getElem?_getD, List.getElem?_append_right (by rw [wordsL_len]; exact Nat.le_refl _), wordsL_len, gI.al]
    simp [bit]
  · show 0 ≤ ws.getD j 0 ∧ ws.getD j 0 ≤ (wordsL ws.length gf.m ++ [bit gf.m.al]).getD j 0 ∧ (wordsL ws.length gf.m ++ [bit gf.m.al]).getD j 0 ≤ 1000
    rw [st1 j hj]
    exact ⟨(hF.ws j hj).1, gI.ge j hj, (sm j hj).2⟩
  · show (((List.range LL.length).map gf.m.an).getD i []).length = (LL.getD i []).length ∧ (LL.getD i []).length ≤ 8
    rw [an1 i hi]
    exact ⟨(gF i hi).1, hF.len i hi⟩
  · show OkStep (minJ (fun i => (wordsL ws.length gf.m ++ [bit gf.m.al]).getD i 0) ws.length) (minJ (fun i => ws.getD i 0) ws.length) ws.length (lastJ (minJ (fun i => ws.getD i 0) ws.length) (LL.getD i []) (((List.range LL.length).map gf.m.an).getD i []) t) (opA (LL.getD i []) t) (ansA (((List.range LL.length).map gf.m.an).getD i []) t)
    rw [an1 i hi, m1]
    have hlen : (gf.m.an i).length = (LL.getD i []).length := (gF i hi).1
    have hs : ToldM F gf.m (lastJ F.first (F.LL i) (gf.m.an i) t) (opA (F.LL i) t) (ansA (gf.m.an i) t) := (gF i hi).2.ok t (by rw [hlen]; exact ht)
    have le : ∀ x : Int, (∀ j, j < F.k → x ≤ gf.m.wv j) → x ≤ minJ gf.m.wv ws.length := fun x h => le_minJ _ _ (by omega) h
    rcases hs with h | ⟨a1, a2, a3, a4, a5⟩ | ⟨a1, a2, a3, a4, a5⟩ | h
    · exact .inl h
    · exact .inr (.inl ⟨a1, a2, a3, le _ a4, a5⟩)
    · exact .inr (.inr (.inl ⟨a1, a2, le _ a3, a4, a5⟩))
    · exact .inr (.inr (.inr h))
  · show sumJ (fun i => (wordsL ws.length gf.m ++ [bit gf.m.al]).getD i 0 - ws.getD i 0) ws.length = sumJ (fun i => sumJ (fun t => addB (opA (LL.getD i []) t)) (LL.getD i []).length) LL.length
    rw [sumJ_congr (g := fun i => gf.m.wv i - ws.getD i 0) fun i hi => by rw [st1 i hi], sumJ_sub]
    have hs : sumJ gf.m.wv ws.length = sumJ (fun j => ws.getD j 0) ws.length + sumJ (fun i => F.bsum i gf.m) LL.length := gI.sum
    rw [hs, sumJ_congr (f := fun i => F.bsum i gf.m) (g := fun i => sumJ (fun t => addB (opA (LL.getD i []) t)) (LL.getD i []).length) fun i hi => by
      show sumJ (fun t => addB (opA (LL.getD i []) t)) (gf.m.an i).length = _
      rw [show (gf.m.an i).length = (LL.getD i []).length from (gF i hi).1]]
    omega
theorem firstsL_ok {zs : List Int} (hz : ∀ z ∈ zs, 0 ≤ z ∧ z ≤ 255) : (1 ≤ (firstsL zs).length ∧ (firstsL zs).length ≤ 4) ∧ ∀ x ∈ firstsL zs, 0 ≤ x ∧ x ≤ 3 := by
  unfold firstsL
  refine ⟨by rw [firstsJ_len zs (by omega)]; omega, fun x hx => ?_⟩
  unfold firstsJ at hx
  split at hx
  · simp at hx; omega
  · obtain ⟨y, _, rfl⟩ := List.mem_map.1 hx
    omega
theorem growOp_ok {n k : Nat} (hn : 1 ≤ n ∧ n ≤ 4) (o : OpD) : FarOp n (growOp n k o) ∧ (growOp n k o).Ok := by
  have a := u64_rem o.a (k := n) (by omega) (by omega)
  have a9 := u64_rem o.a (k := 9) (by omega) (by omega)
  have b4 := u64_rem o.b (k := 4) (by omega) (by omega)
  have b6 := u64_rem o.b (k := 6) (by omega) (by omega)
  have c3 := u64_rem o.c (k := 3) (by omega) (by omega)
  unfold growOp
  split
  · exact ⟨.inl ⟨rfl, a.2.1, a.2.2, b4.2.1, by show u64w o.b % 4 ≤ 3; omega⟩, by constructor <;> simp only [In64] <;> omega⟩
  · split
    · exact ⟨.inr (.inl rfl), by constructor <;> simp only [In64] <;> omega⟩
    · refine ⟨.inr (.inr ⟨rfl, ?_, ?_, ?_, ?_⟩), by constructor <;> simp only [In64] <;> omega⟩
      · show 1 ≤ 1 + u64w o.b % 6; omega
      · show 1 + u64w o.b % 6 ≤ 6; omega
      · show 1 ≤ 1 + u64w o.c % 3; omega
      · show 1 + u64w o.c % 3 ≤ 3; omega
theorem grownL_ok {n : Nat} (hn : 1 ≤ n ∧ n ≤ 4) (LL : List (List OpD)) : (grownL n LL).length = min LL.length 4 ∧ ∀ l ∈ grownL n LL, l.length ≤ 8 ∧ (∀ o ∈ l, FarOp n o) ∧ ∀ o ∈ l, o.Ok := by
  unfold grownL grownJ
  refine ⟨by simp, fun l hl => ?_⟩
  obtain ⟨k, _, rfl⟩ := List.mem_map.1 hl
  unfold growL
  refine ⟨by simp; omega, fun o ho => ?_, fun o ho => ?_⟩
  · obtain ⟨p, _, rfl⟩ := List.mem_map.1 ho
    exact (growOp_ok hn p).1
  · obtain ⟨p, _, rfl⟩ := List.mem_map.1 ho
    exact (growOp_ok hn p).2
end Go.Proofs.Ytimkkeomdkbcjaa
