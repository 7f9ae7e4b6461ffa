/-
  Merged out of: PrintF NumT BackF GoodF.
-/
import Derived.Test.YtdmhlhoimaeacaaDoorPlain
import Derived.Lib.ItoaMem
/-
  What a script is printed as, in plain words. No program in sight.
-/
namespace Go.Proofs.YtdmhlhoimaeacaaDoor
open Go.Lib
set_option linter.unusedVariables false

def filtF : Nat → Word
  | 0 => wAll
  | 1 => wWriter
  | 2 => wRange
  | _ => wEach
/-- Each number within its bounds. -/
def fitsF : List Int → List (Int × Int) → Bool
  | [], [] => true
  | n :: ns, b :: bs => decide (b.1 ≤ n) && decide (n ≤ b.2) && fitsF ns bs
  | _, _ => false
/-- The numbers' text. -/
def numsT : List Int → Word
  | [] => []
  | n :: ns => 32 :: itoa n ++ numsT ns
/-- An operation's numbers, by its form. -/
def opNums (f : Form) (o : Opn) : List Int := [o.a, o.b, o.c].take f.bounds.length
def opRest (f : Form) (o : Opn) : List Int := [o.a, o.b, o.c].drop f.bounds.length
/-- An operation's line; none where it cannot be told. -/
def tellF (o : Opn) : Option Word :=
  if o.k = 4 then
    (if o.c < 0 ∨ 3 < o.c ∨ (o.c = 0 ∧ o.b ≠ 0) then none
     else if o.c = 0 then some (wSubscribe ++ (32 :: itoa o.a) ++ (32 :: wAll))
     else some (wSubscribe ++ (32 :: itoa o.a) ++ (32 :: filtF o.c.toNat) ++ (32 :: itoa o.b)))
  else (formsF.find? fun f => f.kind = o.k).bind fun f =>
    if fitsF (opNums f o) f.bounds && (opRest f o).all (· == 0) then some (f.word ++ numsT (opNums f o)) else none
def saysF (o : Opn) : Bool := (tellF o).isSome
def tellD (o : Opn) : Word := (tellF o).getD []

/-! What can be written. -/
def fieldsF (S : Scr) : Bool :=
  decide (0 ≤ S.most) && decide (S.most ≤ 1048576) && S.tops.all (fun t => decide (0 ≤ t.s) && decide (t.s ≤ 65536)) && S.sch.all (fun n => decide (0 ≤ n) && decide (n ≤ 2147483647)) &&
    S.thrs.all (fun t => nameF t.name && t.ops.all saysF)
/-- No name twice. -/
def onceF : List Word → Bool
  | [] => true
  | w :: ws => !ws.contains w && onceF ws
def checkF (S : Scr) : Int :=
  if 64 < S.thrs.length ∨ 65536 < S.tops.length ∨ 1048576 < S.sch.length then 3
  else if S.thrs.any (fun t => decide (65536 < t.ops.length)) then 3
  else if ¬ (S.thrs.map Thr.name).Nodup then 7
  else if fieldsF S then 0 else 9

/-! Runs of the same. -/
section
variable {α : Type} [DecidableEq α]
/-- How many of a list are x, from the first on, up to m. -/
def sameN (x : α) : Nat → List α → Nat
  | 0, _ => 0
  | _ + 1, [] => 0
  | m + 1, y :: r => if y = x then sameN x m r + 1 else 0
theorem sameN_le (x : α) : ∀ (m : Nat) (l : List α), sameN x m l ≤ l.length ∧ sameN x m l ≤ m
  | 0, l => ⟨Nat.zero_le _, Nat.le_refl _⟩
  | m + 1, [] => ⟨Nat.le_refl _, Nat.zero_le _⟩
  | m + 1, y :: r => by
    have := sameN_le x m r
    unfold sameN
    split
    · simp; omega
    · exact ⟨Nat.zero_le _, Nat.zero_le _⟩
/-- The length of the first run. -/
def alikeF : List α → Nat
  | [] => 1
  | x :: r => sameN x 65535 r + 1
theorem alikeF_pos (l : List α) : 1 ≤ alikeF l := by
  cases l with
  | nil => exact Nat.le_refl _
  | cons x r => show 1 ≤ sameN x 65535 r + 1; omega
theorem alikeF_le {l : List α} (h : l ≠ []) : alikeF l ≤ l.length ∧ alikeF l ≤ 65536 := by
  cases l with
  | nil => exact absurd rfl h
  | cons x r =>
    have := sameN_le x 65535 r
    unfold alikeF
    simp
    omega
end
/-- The text of runs: each first one's, and how many. -/
def runsT {α : Type} [DecidableEq α] (f : α → Word) (g : Nat → Word) : Nat → List α → Word
  | 0, _ => []
  | _ + 1, [] => []
  | fu + 1, x :: r => f x ++ g (alikeF (x :: r)) ++ runsT f g fu ((x :: r).drop (alikeF (x :: r)))
def starT (n : Nat) : Word := if 1 < n then 42 :: itoa (n : Int) else []
def timesT (n : Nat) : Word := (if 1 < n then 32 :: 120 :: itoa (n : Int) else []) ++ [10]
def topT (t : Top) : Word := wTopic ++ (32 :: itoa t.n) ++ (32 :: itoa t.s) ++ [10]
def mostT (n : Int) : Word := if n = 0 then [] else wMost ++ (32 :: itoa n) ++ [10]
def schRuns (l : List Int) : Word := runsT (fun n => 32 :: itoa n) starT l.length l
def schT (l : List Int) : Word := if l = [] then [] else wSchedule ++ schRuns l ++ [10]
def opsRuns (l : List Opn) : Word := runsT (fun o => 32 :: 32 :: tellD o) timesT l.length l
def thrT (t : Thr) : Word := wThread ++ (32 :: t.name) ++ [10] ++ opsRuns t.ops
def topsT (l : List Top) : Word := l.flatMap topT
def thrsT (l : List Thr) : Word := l.flatMap thrT
/-- A script's text. -/
def printF (S : Scr) : Word := topsT S.tops ++ mostT S.most ++ schT S.sch ++ thrsT S.thrs

/-! Lengths. -/
theorem dec_len (u : Nat) : ∀ k, u < 10 ^ k → (decDigits u).length ≤ k + 1 := by
  induction u using Nat.strongRecOn with
  | _ u ih =>
    intro k hk
    by_cases h : u < 10
    · rw [decDigits, dif_pos h]; simp
    · rw [decDigits, dif_neg h, List.length_append]
      cases k with
      | zero => simp at hk; omega
      | succ k =>
        have := ih (u / 10) (by omega) k (by rw [Nat.pow_succ] at hk; omega)
        simp
        omega
theorem itoa_len {v : Int} (h1 : -9223372036854775808 ≤ v) (h2 : v ≤ 9223372036854775807) : (itoa v).length ≤ 21 := by
  have h10 : (10 : Nat) ^ 19 = 10000000000000000000 := by decide
  unfold itoa
  split
  · have := dec_len v.natAbs 19 (by rw [h10]; omega)
    simp only [List.length_cons]
    omega
  · have := dec_len v.toNat 19 (by rw [h10]; omega)
    omega
theorem runsT_fuel {α : Type} [DecidableEq α] (f : α → Word) (g : Nat → Word) : ∀ (a b : Nat) (l : List α), l.length ≤ a → l.length ≤ b → runsT f g a l = runsT f g b l
  | 0, b, l, h, _ => by
    have : l = [] := List.eq_nil_of_length_eq_zero (by omega)
    subst this
    cases b <;> rfl
  | a + 1, 0, l, _, h => by
    have : l = [] := List.eq_nil_of_length_eq_zero (by omega)
    subst this
    rfl
  | a + 1, b + 1, [], _, _ => rfl
  | a + 1, b + 1, x :: r, h, h' => by
    have hp := alikeF_pos (x :: r)
    simp only [runsT]
    rw [runsT_fuel f g a b _ (by simp at h ⊢; omega) (by simp at h' ⊢; omega)]
theorem runsT_cons {α : Type} [DecidableEq α] (f : α → Word) (g : Nat → Word) {l : List α} (h : l ≠ []) (d : α) : runsT f g l.length l = f (l.getD 0 d) ++ g (alikeF l) ++ runsT f g (l.drop (alikeF l)).length (l.drop (alikeF l)) := by
  cases l with
  | nil => exact absurd rfl h
  | cons x r =>
    have hp := alikeF_pos (x :: r)
    show runsT f g (r.length + 1) (x :: r) = _
    simp only [runsT]
    rw [runsT_fuel f g r.length ((x :: r).drop (alikeF (x :: r))).length _ (by simp; omega) (Nat.le_refl _)]
    rfl
end Go.Proofs.YtdmhlhoimaeacaaDoor

/-
  A number's text is read as the number; a name's text and a line's words are read as they are. No program in sight.
-/
namespace Go.Proofs.YtdmhlhoimaeacaaDoor.PL
open Go.Lib
set_option linter.unusedVariables false

/-! Digits. -/
theorem dig_byte {i : Nat} (h : i < 10) : (UInt8.ofNat (48 + i)).toNat = 48 + i := by simp; omega
theorem dec_dig (u : Nat) : ∀ c ∈ decDigits u, isDig c = true := by
  induction u using Nat.strongRecOn with
  | _ u ih =>
    intro c hc
    by_cases h : u < 10
    · rw [decDigits, dif_pos h] at hc
      simp only [List.mem_singleton] at hc
      subst hc
      rw [isDig_iff, dig_byte h]
      omega
    · rw [decDigits, dif_neg h] at hc
      rcases List.mem_append.1 hc with hc | hc
      · exact ih (u / 10) (by omega) c hc
      · simp only [List.mem_singleton] at hc
        subst hc
        rw [isDig_iff, dig_byte (by omega)]
        omega
theorem valD_append (a : Nat) (l r : Word) : valD a (l ++ r) = valD (valD a l) r := by unfold valD; rw [List.foldl_append]
theorem dec_val (u : Nat) : valD 0 (decDigits u) = u := by
  induction u using Nat.strongRecOn with
  | _ u ih =>
    by_cases h : u < 10
    · rw [decDigits, dif_pos h, valD_cons, valD_nil, dig_byte h]
      omega
    · rw [decDigits, dif_neg h, valD_append, ih (u / 10) (by omega), valD_cons, valD_nil, dig_byte (by omega)]
      omega
theorem dec_head (u : Nat) : 1 ≤ (decDigits u).length ∧ (1 ≤ u → (decDigits u).head? ≠ some 48) ∧ (u = 0 → decDigits u = [48]) := by
  induction u using Nat.strongRecOn with
  | _ u ih =>
    by_cases h : u < 10
    · rw [decDigits, dif_pos h]
      refine ⟨by simp, fun h1 e => ?_, fun e => by subst e; rfl⟩
      simp only [List.head?_cons, Option.some.injEq] at e
      have := congrArg UInt8.toNat e
      rw [dig_byte h] at this
      have h48 : (48 : UInt8).toNat = 48 := rfl
      omega
    · rw [decDigits, dif_neg h]
      obtain ⟨h1, h2, _⟩ := ih (u / 10) (by omega)
      refine ⟨by simp, fun _ => ?_, fun e => by omega⟩
      rw [List.head?_append]
      cases hd : (decDigits (u / 10)).head? with
      | none => rw [List.head?_eq_none_iff] at hd; rw [hd] at h1; simp at h1
      | some c => have := h2 (by omega); rw [hd] at this; simpa using this
theorem dig_ne {c : UInt8} (h : isDig c = true) : c ≠ 45 ∧ c ≠ 32 ∧ c ≠ 9 ∧ c ≠ 10 ∧ c ≠ 42 ∧ c ≠ 120 ∧ c ≠ 35 := by
  rw [isDig_iff] at h
  refine ⟨?_, ?_, ?_, ?_, ?_, ?_, ?_⟩ <;> (rintro rfl; revert h; decide)
theorem dec_neg (u : Nat) : negW (decDigits u) = false := by
  unfold negW
  cases h : decDigits u with
  | nil => rfl
  | cons c r =>
    have := (dig_ne (dec_dig u c (by rw [h]; simp))).1
    simpa using this
theorem num_itoa {n : Int} (h : -9223372036854775808 ≤ n ∧ n ≤ 9223372036854775807) : numF (itoa n) = some n := by
  unfold itoa
  by_cases hn : n < 0
  · rw [if_pos hn]
    have h1 : negW (45 :: decDigits n.natAbs) = true := rfl
    have h2 : digW (45 :: decDigits n.natAbs) = decDigits n.natAbs := by simp [digW, h1]
    have hv : valW (45 :: decDigits n.natAbs) = n := by
      unfold valW
      rw [if_pos h1, h2, dec_val]
      omega
    obtain ⟨g1, g2, _⟩ := dec_head n.natAbs
    have g3 := g2 (by omega)
    have hg : goodNum (45 :: decDigits n.natAbs) = true := by
      unfold goodNum
      rw [h1, h2]
      have e1 : (decDigits n.natAbs).isEmpty = false := by cases hd : decDigits n.natAbs with
        | nil => rw [hd] at g1; simp at g1
        | cons _ _ => rfl
      have e2 : (decDigits n.natAbs).all isDig = true := List.all_eq_true.2 (dec_dig _)
      rw [e1, e2]
      have e3 : ((decDigits n.natAbs).head? == some 48) = false := by simpa using g3
      rw [e3]
      rfl
    unfold numF
    rw [hg, hv]
    have : in64B n = true := by unfold in64B; simp; omega
    rw [this]
    rfl
  · rw [if_neg hn]
    have h1 := dec_neg n.toNat
    have h2 : digW (decDigits n.toNat) = decDigits n.toNat := by simp [digW, h1]
    have hv : valW (decDigits n.toNat) = n := by
      unfold valW
      rw [if_neg (by rw [h1]; simp), h2, dec_val]
      omega
    obtain ⟨g1, g2, g0⟩ := dec_head n.toNat
    have hg : goodNum (decDigits n.toNat) = true := by
      unfold goodNum
      rw [h1, h2]
      have e1 : (decDigits n.toNat).isEmpty = false := by cases hd : decDigits n.toNat with
        | nil => rw [hd] at g1; simp at g1
        | cons _ _ => rfl
      have e2 : (decDigits n.toNat).all isDig = true := List.all_eq_true.2 (dec_dig _)
      rw [e1, e2]
      by_cases h0 : n.toNat = 0
      · rw [g0 h0]; rfl
      · have e3 : ((decDigits n.toNat).head? == some 48) = false := by simpa using g2 (by omega)
        rw [e3]
        rfl
    unfold numF
    rw [hg, hv]
    have : in64B n = true := by unfold in64B; simp; omega
    rw [this]
    rfl
theorem itoa_ne (n : Int) : itoa n ≠ [] := by
  intro e
  unfold itoa at e
  split at e
  · cases e
  · have := (dec_head n.toNat).1
    rw [e] at this
    simp at this
theorem itoa_in (n : Int) : ∀ c ∈ itoa n, isDig c = true ∨ c = 45 := by
  intro c hc
  unfold itoa at hc
  split at hc
  · rcases List.mem_cons.1 hc with rfl | hc
    · exact .inr rfl
    · exact .inl (dec_dig _ c hc)
  · exact .inl (dec_dig _ c hc)
/-- A word's bytes: no blank, no line's end. -/
def Sound (w : Word) : Prop := w ≠ [] ∧ ∀ c ∈ w, c ≠ 32 ∧ c ≠ 9 ∧ c ≠ 10
theorem itoa_sound (n : Int) : Sound (itoa n) := ⟨itoa_ne n, fun c hc => by
  rcases itoa_in n c hc with h | rfl
  · have := dig_ne h; exact ⟨this.2.1, this.2.2.1, this.2.2.2.1⟩
  · decide⟩
theorem itoa_star (n : Int) : ∀ c ∈ itoa n, c ≠ 42 := fun c hc => by
  rcases itoa_in n c hc with h | rfl
  · exact (dig_ne h).2.2.2.2.1
  · decide
theorem name_sound {w : Word} (h : nameF w = true) : Sound w := by
  unfold nameF at h
  simp only [Bool.and_eq_true, Bool.not_eq_true'] at h
  refine ⟨fun e => by rw [e] at h; simp at h, fun c hc => ?_⟩
  have := List.all_eq_true.1 h.2 c hc
  refine ⟨?_, ?_, ?_⟩ <;> (rintro rfl; revert this; decide)

/-! Words of a line. -/
theorem blank_ne {c : UInt8} (h : c ≠ 32 ∧ c ≠ 9 ∧ c ≠ 10) : isBlank c = false := by
  unfold isBlank
  simp [h.1, h.2.1]
theorem words_run : ∀ (w cur r : Word), (∀ c ∈ w, c ≠ 32 ∧ c ≠ 9 ∧ c ≠ 10) → wordsG cur (w ++ r) = wordsG (cur ++ w) r
  | [], cur, r, _ => by simp
  | c :: w, cur, r, h => by
    have hc := blank_ne (h c (by simp))
    have ih := words_run w (cur ++ [c]) r (fun d hd => h d (by simp [hd]))
    show wordsG cur (c :: (w ++ r)) = _
    rw [wordsG]
    rw [hc]
    simp only [Bool.false_eq_true, if_false, ih, List.append_assoc, List.singleton_append]
theorem words_stop {cur : Word} (h : cur ≠ []) (r : Word) : wordsG cur (32 :: r) = cur :: wordsG [] r := by
  rw [wordsG]
  simp [isBlank, h]
theorem words_skip (r : Word) : wordsG [] (32 :: r) = wordsG [] r := by
  rw [wordsG]
  simp [isBlank]
/-- Words joined by blanks. -/
def joinW : List Word → Word
  | [] => []
  | w :: ws => w ++ ws.flatMap (fun x => 32 :: x)
theorem words_more : ∀ (ws : List Word) (w : Word), Sound w → (∀ x ∈ ws, Sound x) → wordsG w (ws.flatMap (fun x => 32 :: x)) = w :: ws
  | [], w, h, _ => by
    show wordsG w [] = [w]
    rw [wordsG, if_neg h.1]
  | x :: ws, w, h, hs => by
    have hx := hs x (by simp)
    show wordsG w (32 :: x ++ ws.flatMap _) = _
    rw [List.cons_append, words_stop h.1, words_run x [] _ hx.2, List.nil_append, words_more ws x hx (fun y hy => hs y (by simp [hy]))]
theorem words_join {ws : List Word} (h : ∀ x ∈ ws, Sound x) : wordsF (joinW ws) = ws := by
  cases ws with
  | nil => rfl
  | cons w ws =>
    have hw := h w (by simp)
    unfold wordsF joinW
    rw [words_run w [] _ hw.2, List.nil_append, words_more ws w hw (fun y hy => h y (by simp [hy]))]
theorem join_clean : ∀ {ws : List Word}, (∀ x ∈ ws, Sound x) → ∀ c ∈ joinW ws, c ≠ 10
  | [], _, c, hc => by cases hc
  | w :: ws, h, c, hc => by
    rcases List.mem_append.1 hc with hc | hc
    · exact (h w (by simp)).2 c hc |>.2.2
    · obtain ⟨x, hx, hc⟩ := List.mem_flatMap.1 hc
      rcases List.mem_cons.1 hc with rfl | hc
      · decide
      · exact ((h x (by simp [hx])).2 c hc).2.2
theorem words_pad {l : Word} : wordsF (32 :: 32 :: l) = wordsF l := by
  unfold wordsF
  rw [words_skip, words_skip]

/-! Lines of a text. -/
def joinL (ls : List Word) : Word := ls.flatMap (fun l => l ++ [10])
theorem joinL_cons (l : Word) (ls : List Word) : joinL (l :: ls) = l ++ 10 :: joinL ls := by simp [joinL]
theorem joinL_app (a b : List Word) : joinL (a ++ b) = joinL a ++ joinL b := by simp [joinL]
theorem lineOf_at : ∀ (u r : Word), (∀ c ∈ u, c ≠ 10) → lineOf (u ++ 10 :: r) = (u, r)
  | [], r, _ => by simp [lineOf]
  | c :: u, r, h => by
    have hc : ¬ c = 10 := h c (by simp)
    have ih := lineOf_at u r (fun d hd => h d (by simp [hd]))
    show lineOf (c :: (u ++ 10 :: r)) = _
    rw [lineOf, if_neg hc, ih]
theorem lineOf_all : ∀ (u : Word), (∀ c ∈ u, c ≠ 10) → lineOf u = (u, [])
  | [], _ => rfl
  | c :: u, h => by
    have hc : ¬ c = 10 := h c (by simp)
    have ih := lineOf_all u (fun d hd => h d (by simp [hd]))
    rw [lineOf, if_neg hc, ih]
theorem lines_join (f : Nat) : ∀ (ls : List Word) (r : Word), (∀ l ∈ ls, ∀ c ∈ l, c ≠ 10) → linesF (ls.length + f) (joinL ls ++ r) = ls ++ linesF f r
  | [], r, _ => by simp [joinL]
  | l :: ls, r, h => by
    have hl := h l (by simp)
    have ih := lines_join f ls r (fun x hx => h x (by simp [hx]))
    rw [joinL_cons, List.append_assoc, List.cons_append, show (l :: ls).length + f = (ls.length + f) + 1 by simp; omega]
    have hne : ∃ c t, l ++ 10 :: (joinL ls ++ r) = c :: t := by
      cases l with
      | nil => exact ⟨_, _, rfl⟩
      | cons c t => exact ⟨_, _, rfl⟩
    obtain ⟨c, t, e⟩ := hne
    have h2 := lineOf_at l (joinL ls ++ r) hl
    rw [e] at h2 ⊢
    rw [linesF, h2, ih]
    rfl
theorem joinL_len (ls : List Word) : ls.length ≤ (joinL ls).length := by
  induction ls with
  | nil => simp [joinL]
  | cons l ls ih => rw [joinL_cons]; simp; omega
theorem linesF_nil (f : Nat) : linesF f [] = [] := by cases f <;> rfl
theorem linesF_one (f : Nat) (l : Word) (h : ∀ c ∈ l, c ≠ 10) (hne : l ≠ []) : linesF (f + 1) l = [l] := by
  cases l with
  | nil => exact absurd rfl hne
  | cons c t => rw [linesF, lineOf_all _ h, linesF_nil]
theorem linesT_join {ls : List Word} (h : ∀ l ∈ ls, ∀ c ∈ l, c ≠ 10) : linesF (joinL ls).length (joinL ls) = ls := by
  have hl := joinL_len ls
  have := lines_join ((joinL ls).length - ls.length) ls [] h
  rw [List.append_nil, show ls.length + ((joinL ls).length - ls.length) = (joinL ls).length by omega, linesF_nil, List.append_nil] at this
  exact this
/-- Lines, and one more without its end. -/
theorem linesT_last {ls : List Word} {l : Word} (h : ∀ x ∈ ls, ∀ c ∈ x, c ≠ 10) (hl : ∀ c ∈ l, c ≠ 10) (hne : l ≠ []) : linesF (joinL ls ++ l).length (joinL ls ++ l) = ls ++ [l] := by
  have h1 := joinL_len ls
  have h2 : 0 < l.length := List.length_pos_iff.2 hne
  have := lines_join ((joinL ls ++ l).length - ls.length) ls l h
  rw [show ls.length + ((joinL ls ++ l).length - ls.length) = (joinL ls ++ l).length by simp; omega] at this
  rw [this, show (joinL ls ++ l).length - ls.length = ((joinL ls ++ l).length - ls.length - 1) + 1 by simp; omega, linesF_one _ l hl hne]
end Go.Proofs.YtdmhlhoimaeacaaDoor.PL

/-
  What is printed is read as the same. No program in sight.
-/
namespace Go.Proofs.YtdmhlhoimaeacaaDoor.PL
open Go.Lib
set_option linter.unusedVariables false

def I64 (n : Int) : Prop := -9223372036854775808 ≤ n ∧ n ≤ 9223372036854775807
theorem within_itoa {n lo hi : Int} (h : I64 n) (h1 : lo ≤ n) (h2 : n ≤ hi) : withinF (itoa n) lo hi = some n := by
  unfold withinF
  rw [num_itoa h]
  simp [h1, h2]
theorem joinW_snoc {ws : List Word} (h : ws ≠ []) (x : Word) : joinW (ws ++ [x]) = joinW ws ++ 32 :: x := by
  cases ws with
  | nil => exact absurd rfl h
  | cons w ws => simp [joinW]
theorem nums_len : ∀ {ws : List Word} {bs : List (Int × Int)} {l : List Int}, numsF ws bs = some l → ws.length = bs.length
  | [], [], _, _ => rfl
  | [], _ :: _, _, h => by simp [numsF] at h
  | _ :: _, [], _, h => by simp [numsF] at h
  | w :: ws, b :: bs, l, h => by
    simp only [numsF, Option.bind_eq_some_iff, Option.map_eq_some_iff] at h
    obtain ⟨n, _, k, hk, _⟩ := h
    simp [nums_len hk]

/-! An operation's line. -/
def timesW (n : Nat) : List Word := if 1 < n then [120 :: itoa (n : Int)] else []
structure OpWords (o : Opn) (ws : List Word) : Prop where
  text : tellD o = joinW ws
  sound : ∀ x ∈ ws, Sound x
  said : saidF ws = some o
  more : ∀ x, saidF (ws ++ [120 :: x]) = none
  head : ∃ x r, ws = x :: r ∧ x ≠ wTopic ∧ x ≠ wMost ∧ x ≠ wSchedule ∧ x ≠ wThread ∧ x.head? ≠ some 35
theorem sound_dec {w : Word} (h : (!w.isEmpty && w.all fun c => !(c == 32) && !(c == 9) && !(c == 10)) = true) : Sound w := by
  simp only [Bool.and_eq_true, Bool.not_eq_true'] at h
  refine ⟨fun e => by rw [e] at h; simp at h, fun c hc => ?_⟩
  have := List.all_eq_true.1 h.2 c hc
  simpa [and_assoc] using this
theorem said_cons (x : Word) (ws : List Word) : saidF (x :: ws) = if x = wSubscribe then subsF ws else (formsF.find? fun f => f.word = x).bind fun f => (numsF ws f.bounds).map (opnOf f.kind) := rfl
theorem subs_2 (n f : Word) : subsF [n, f] = if f = wAll then (numF n).map fun n => ⟨4, n, 0, 0⟩ else none := rfl
theorem subs_3 (n f b : Word) : subsF [n, f, b] = (numF n).bind fun n => (if f = wWriter then some 1 else if f = wRange then some 2 else if f = wEach then some 3 else none).bind fun c => (numF b).map fun b => ⟨4, n, b, c⟩ := rfl
theorem subs_4 (a b c d : Word) : subsF [a, b, c, d] = none := rfl
theorem said_more {f : Form} (ws : List Word) (x : Word) (hf : formsF.find? (fun g => g.word = f.word) = some f) (hs : f.word ≠ wSubscribe) (hl : ws.length = f.bounds.length) : saidF (f.word :: ws ++ [x]) = none := by
  show saidF (f.word :: (ws ++ [x])) = none
  rw [said_cons, if_neg hs]
  have hf' : (formsF.find? fun g => decide (g.word = f.word)) = some f := hf
  rw [hf']
  simp only [Option.bind_some]
  cases h : numsF (ws ++ [x]) f.bounds with
  | none => rfl
  | some l => have := nums_len h; simp at this; omega
theorem said_form {f : Form} (ws : List Word) (l : List Int) (hf : formsF.find? (fun g => g.word = f.word) = some f) (hs : f.word ≠ wSubscribe) (hl : numsF ws f.bounds = some l) : saidF (f.word :: ws) = some (opnOf f.kind l) := by
  rw [said_cons, if_neg hs]
  have hf' : (formsF.find? fun g => decide (g.word = f.word)) = some f := hf
  rw [hf']
  simp only [Option.bind_some, hl, Option.map_some]
theorem nums_itoa : ∀ (ns : List Int) (bs : List (Int × Int)), (∀ n ∈ ns, I64 n) → fitsF ns bs = true → numsF (ns.map itoa) bs = some ns
  | [], [], _, _ => rfl
  | [], _ :: _, _, h => by simp [fitsF] at h
  | _ :: _, [], _, h => by simp [fitsF] at h
  | n :: ns, b :: bs, hi, h => by
    simp only [fitsF, Bool.and_eq_true, decide_eq_true_eq] at h
    simp only [List.map_cons, numsF]
    rw [within_itoa (hi n (by simp)) h.1.1 h.1.2, nums_itoa ns bs (fun m hm => hi m (by simp [hm])) h.2]
    rfl
theorem numsT_flat : ∀ ns : List Int, numsT ns = (ns.map itoa).flatMap (fun x => 32 :: x)
  | [] => rfl
  | n :: ns => by rw [numsT, numsT_flat ns]; simp
theorem op_form {f : Form} (o : Opn) (hO : I64 o.a ∧ I64 o.b ∧ I64 o.c) (hk : formsF.find? (fun g => g.kind = o.k) = some f) (hk4 : o.k ≠ 4) (hf : formsF.find? (fun g => g.word = f.word) = some f) (hs : f.word ≠ wSubscribe)
    (hsd : Sound f.word) (hx : f.word ≠ wTopic ∧ f.word ≠ wMost ∧ f.word ≠ wSchedule ∧ f.word ≠ wThread ∧ f.word.head? ≠ some 35) (hl : f.bounds.length ≤ 3)
    (h : (fitsF (opNums f o) f.bounds && (opRest f o).all (· == 0)) = true) (he : opnOf f.kind (opNums f o) = o) : OpWords o (f.word :: (opNums f o).map itoa) := by
  have hn : ∀ n ∈ opNums f o, I64 n := fun n hn => by
    have := List.mem_of_mem_take hn
    simp only [List.mem_cons, List.not_mem_nil, or_false] at this
    rcases this with rfl | rfl | rfl
    · exact hO.1
    · exact hO.2.1
    · exact hO.2.2
  have hfit := (Bool.and_eq_true _ _ ▸ h : _ ∧ _).1
  have hlen : (opNums f o).length = f.bounds.length := by unfold opNums; simp; omega
  refine ⟨?_, ?_, ?_, ?_, ⟨_, _, rfl, hx⟩⟩
  · have hk' : (formsF.find? fun g => decide (g.kind = o.k)) = some f := hk
    unfold tellD tellF
    rw [if_neg hk4, hk']
    simp only [Option.bind_some]
    rw [h, if_pos rfl, numsT_flat]
    rfl
  · intro x hx
    rcases List.mem_cons.1 hx with rfl | hx
    · exact hsd
    · obtain ⟨n, _, rfl⟩ := List.mem_map.1 hx
      exact itoa_sound n
  · rw [said_form _ _ hf hs (nums_itoa _ _ hn hfit), he]
  · intro x
    exact said_more _ _ hf hs (by simpa using hlen)
theorem opn_eq {f : Form} {o : Opn} (hk : f.kind = o.k) (hl : f.bounds.length ≤ 3) (hr : (opRest f o).all (· == 0) = true) : opnOf f.kind (opNums f o) = o := by
  obtain ⟨k, a, b, c⟩ := o
  simp only at hk
  subst hk
  unfold opnOf opNums
  unfold opRest at hr
  generalize f.bounds.length = m at *
  rcases (by omega : m = 0 ∨ m = 1 ∨ m = 2 ∨ m = 3) with rfl | rfl | rfl | rfl
  all_goals simp at hr ⊢
  all_goals simp [hr]
theorem find_kind {k : Int} {f : Form} (h : formsF.find? (fun g => g.kind = k) = some f) : f.kind = k ∧ f ∈ formsF := by
  have h1 := List.find?_some h
  exact ⟨by simpa using h1, List.mem_of_find?_eq_some h⟩
theorem form_facts {f : Form} (h : f ∈ formsF) : formsF.find? (fun g => g.word = f.word) = some f ∧ f.word ≠ wSubscribe ∧ Sound f.word ∧ (f.word ≠ wTopic ∧ f.word ≠ wMost ∧ f.word ≠ wSchedule ∧ f.word ≠ wThread ∧ f.word.head? ≠ some 35) ∧ f.bounds.length ≤ 3 := by
  simp only [formsF, List.mem_cons, List.not_mem_nil, or_false] at h
  rcases h with rfl | rfl | rfl | rfl | rfl | rfl
  all_goals exact ⟨rfl, by decide, sound_dec (by decide), by decide, by decide⟩
theorem op_words (o : Opn) (hO : I64 o.a ∧ I64 o.b ∧ I64 o.c) (h : saysF o = true) : ∃ ws, OpWords o ws := by
  by_cases hk : o.k = 4
  · obtain ⟨k, a, b, c⟩ := o
    simp only at hk hO
    subst hk
    unfold saysF tellF at h
    rw [if_pos rfl] at h
    by_cases hbad : c < 0 ∨ 3 < c ∨ (c = 0 ∧ b ≠ 0)
    · simp only [if_pos hbad] at h; cases h
    have hna := num_itoa hO.1
    by_cases h0 : c = 0
    · subst h0
      have hb0 : b = 0 := by omega
      subst hb0
      refine ⟨[wSubscribe, itoa a, wAll], ⟨?_, ?_, ?_, ?_, ⟨_, _, rfl, by decide⟩⟩⟩
      · unfold tellD tellF
        rw [if_pos rfl]
        simp [joinW]
      · intro x hx
        simp only [List.mem_cons, List.not_mem_nil, or_false] at hx
        rcases hx with rfl | rfl | rfl
        · exact sound_dec (by decide)
        · exact itoa_sound a
        · exact sound_dec (by decide)
      · show saidF (wSubscribe :: [itoa a, wAll]) = _
        rw [said_cons, if_pos rfl, subs_2, if_pos rfl, hna]
        rfl
      · intro x
        show saidF (wSubscribe :: [itoa a, wAll, 120 :: x]) = _
        rw [said_cons, if_pos rfl, subs_3, hna, if_neg (by decide), if_neg (by decide), if_neg (by decide)]
        rfl
    · have hnb := num_itoa hO.2.1
      have hw : Sound (filtF c.toNat) ∧ (if filtF c.toNat = wWriter then some (1 : Int) else if filtF c.toNat = wRange then some 2 else if filtF c.toNat = wEach then some 3 else none) = some c := by
        rcases (by omega : c = 1 ∨ c = 2 ∨ c = 3) with rfl | rfl | rfl
        all_goals exact ⟨sound_dec (by decide), by decide⟩
      refine ⟨[wSubscribe, itoa a, filtF c.toNat, itoa b], ⟨?_, ?_, ?_, ?_, ⟨_, _, rfl, by decide⟩⟩⟩
      · unfold tellD tellF
        rw [if_pos rfl]
        simp only [if_neg hbad, if_neg h0]
        simp [joinW]
      · intro x hx
        simp only [List.mem_cons, List.not_mem_nil, or_false] at hx
        rcases hx with rfl | rfl | rfl | rfl
        · exact sound_dec (by decide)
        · exact itoa_sound a
        · exact hw.1
        · exact itoa_sound b
      · show saidF (wSubscribe :: [itoa a, filtF c.toNat, itoa b]) = _
        rw [said_cons, if_pos rfl, subs_3, hna, hw.2, hnb]
        rfl
      · intro x
        show saidF (wSubscribe :: [itoa a, filtF c.toNat, itoa b, 120 :: x]) = _
        rw [said_cons, if_pos rfl, subs_4]
  · unfold saysF tellF at h
    rw [if_neg hk] at h
    cases hf : formsF.find? (fun g => g.kind = o.k) with
    | none =>
      have hf' : (formsF.find? fun f => decide (f.kind = o.k)) = none := hf
      rw [hf'] at h
      cases h
    | some f =>
      have hf' : (formsF.find? fun f => decide (f.kind = o.k)) = some f := hf
      rw [hf'] at h
      simp only [Option.bind_some] at h
      by_cases hfit : (fitsF (opNums f o) f.bounds && (opRest f o).all (· == 0)) = true
      · obtain ⟨k1, k2⟩ := find_kind hf
        obtain ⟨g1, g2, g3, g4, g5⟩ := form_facts k2
        exact ⟨_, op_form o hO hf hk g1 g2 g3 g4 g5 hfit (opn_eq k1 g5 (by simp only [Bool.and_eq_true] at hfit; exact hfit.2))⟩
      · rw [if_neg hfit] at h; cases h

theorem times_sound (n : Nat) : ∀ x ∈ timesW n, Sound x := by
  intro x hx
  unfold timesW at hx
  split at hx
  · simp only [List.mem_singleton] at hx
    subst hx
    refine ⟨by simp, fun c hc => ?_⟩
    rcases List.mem_cons.1 hc with rfl | hc
    · decide
    · exact (itoa_sound (n : Int)).2 c hc
  · cases hx
/-- A run's line is read as the run. -/
theorem op_run {o : Opn} {ws : List Word} (h : OpWords o ws) {n : Nat} (h1 : 1 ≤ n) (h2 : n ≤ 65536) : opF (ws ++ timesW n) = some (o, n) := by
  unfold timesW
  by_cases hn : 1 < n
  · rw [if_pos hn]
    unfold opF
    rw [h.more]
    simp only [List.getLast?_append, List.getLast?_singleton, Option.some_or, List.dropLast_concat]
    rw [within_itoa (by unfold I64; omega) (by omega) (by omega)]
    simp only [Option.bind_some, h.said, Option.map_some, Int.toNat_natCast]
  · rw [if_neg hn, List.append_nil]
    unfold opF
    rw [h.said, show n = 1 by omega]
def opLine (o : Opn) (n : Nat) : Word := 32 :: 32 :: tellD o ++ (if 1 < n then 32 :: 120 :: itoa (n : Int) else [])
theorem op_line {o : Opn} {ws : List Word} (h : OpWords o ws) (n : Nat) : opLine o n = 32 :: 32 :: joinW (ws ++ timesW n) := by
  have hne : ws ≠ [] := by obtain ⟨x, r, e, _⟩ := h.head; rw [e]; simp
  unfold opLine timesW
  rw [h.text]
  split
  · rw [joinW_snoc hne]; rfl
  · simp
theorem op_line_words {o : Opn} {ws : List Word} (h : OpWords o ws) (n : Nat) : wordsF (opLine o n) = ws ++ timesW n ∧ ∀ c ∈ opLine o n, c ≠ 10 := by
  have hs : ∀ x ∈ ws ++ timesW n, Sound x := fun x hx => by
    rcases List.mem_append.1 hx with hx | hx
    · exact h.sound x hx
    · exact times_sound n x hx
  rw [op_line h, words_pad, words_join hs]
  refine ⟨rfl, fun c hc => ?_⟩
  rcases List.mem_cons.1 hc with rfl | hc
  · decide
  rcases List.mem_cons.1 hc with rfl | hc
  · decide
  exact join_clean hs c hc

/-! Runs. -/
section
variable {α : Type} [DecidableEq α]
def runsL : Nat → List α → List (α × Nat)
  | 0, _ => []
  | _ + 1, [] => []
  | fu + 1, x :: r => (x, alikeF (x :: r)) :: runsL fu ((x :: r).drop (alikeF (x :: r)))
theorem runsT_eq (f : α → Word) (g : Nat → Word) : ∀ (fu : Nat) (l : List α), runsT f g fu l = (runsL fu l).flatMap (fun p => f p.1 ++ g p.2)
  | 0, _ => rfl
  | _ + 1, [] => rfl
  | fu + 1, x :: r => by rw [runsT, runsL, runsT_eq f g fu]; rfl
theorem sameN_take (x : α) : ∀ (m : Nat) (l : List α), l.take (sameN x m l) = List.replicate (sameN x m l) x
  | 0, l => rfl
  | _ + 1, [] => rfl
  | m + 1, y :: r => by
    unfold sameN
    split
    · rename_i h
      subst h
      rw [List.take_succ_cons, sameN_take y m r, List.replicate_succ]
    · rfl
theorem alike_take (x : α) (r : List α) : (x :: r).take (alikeF (x :: r)) = List.replicate (alikeF (x :: r)) x := by
  show (x :: r).take (sameN x 65535 r + 1) = List.replicate (sameN x 65535 r + 1) x
  rw [List.take_succ_cons, sameN_take, List.replicate_succ]
theorem runsL_all : ∀ (fu : Nat) (l : List α), l.length ≤ fu → (runsL fu l).flatMap (fun p => List.replicate p.2 p.1) = l
  | 0, l, h => by
    have : l = [] := List.eq_nil_of_length_eq_zero (by omega)
    subst this
    rfl
  | _ + 1, [], _ => rfl
  | fu + 1, x :: r, h => by
    have hp := alikeF_pos (x :: r)
    rw [runsL, List.flatMap_cons, runsL_all fu _ (by simp at h ⊢; omega), ← alike_take x r]
    exact List.take_append_drop _ _
theorem runsL_in : ∀ (fu : Nat) (l : List α), ∀ p ∈ runsL fu l, p.1 ∈ l ∧ 1 ≤ p.2 ∧ p.2 ≤ 65536
  | 0, _, p, h => by cases h
  | _ + 1, [], p, h => by cases h
  | fu + 1, x :: r, p, h => by
    rw [runsL] at h
    rcases List.mem_cons.1 h with rfl | h
    · exact ⟨by simp, alikeF_pos (x :: r), (alikeF_le (List.cons_ne_nil x r)).2⟩
    · obtain ⟨h1, h2⟩ := runsL_in fu _ p h
      exact ⟨List.mem_of_mem_drop h1, h2⟩
end

/-! Lines that are read one behind the other. -/
def Reads (st : Rdg) (ls : List Word) (st' : Rdg) : Prop := ∀ n more, readG st n (ls ++ more) = readG st' (n + ls.length) more
theorem Reads.nil (st : Rdg) : Reads st [] st := fun n more => by simp
theorem Reads.trans {a b c : Rdg} {l m : List Word} (h : Reads a l b) (h2 : Reads b m c) : Reads a (l ++ m) c := fun n more => by
  rw [List.append_assoc, h, h2, List.length_append, Nat.add_assoc]
theorem Reads.one {st st' : Rdg} {l : Word} {x : Word} {ws : List Word} (hw : wordsF l = x :: ws) (hm : x.head? ≠ some 35) (h : lineF st (x :: ws) = (0, st')) : Reads st [l] st' := fun n more => by
  show readG st n (l :: more) = _
  rw [readG, hw]
  have : mute (x :: ws) = false := by unfold mute; simpa using hm
  rw [if_neg (by rw [this]; simp), h]
  simp
theorem flat_len {ps : List (Opn × Nat)} : (ps.flatMap (fun p => List.replicate p.2 p.1)).length = (ps.map Prod.snd).sum := by
  induction ps with
  | nil => rfl
  | cons p ps ih => simp [ih]
theorem reads_ops (tops : List Top) (thrs : List Thr) (nm : Word) (sch : List Int) (most : Int) (has : Bool) : ∀ (ps : List (Opn × Nat)) (pre : List Opn),
    (∀ p ∈ ps, (I64 p.1.a ∧ I64 p.1.b ∧ I64 p.1.c) ∧ saysF p.1 = true ∧ 1 ≤ p.2 ∧ p.2 ≤ 65536) → pre.length + (ps.flatMap (fun p => List.replicate p.2 p.1)).length ≤ 65536 →
    Reads ⟨⟨tops, thrs ++ [⟨nm, pre⟩], sch, most⟩, has⟩ (ps.map fun p => opLine p.1 p.2) ⟨⟨tops, thrs ++ [⟨nm, pre ++ ps.flatMap (fun p => List.replicate p.2 p.1)⟩], sch, most⟩, has⟩
  | [], pre, _, _ => by simpa using Reads.nil _
  | p :: ps, pre, h, hl => by
    obtain ⟨h1, h2, h3, h4⟩ := h p (by simp)
    obtain ⟨ws, hw⟩ := op_words p.1 h1 h2
    have ih := reads_ops tops thrs nm sch most has ps (pre ++ List.replicate p.2 p.1) (fun q hq => h q (by simp [hq])) (by simp at hl ⊢; omega)
    rw [List.append_assoc] at ih
    rw [List.flatMap_cons, List.map_cons]
    refine Reads.trans (l := [_]) ?_ ih
    obtain ⟨x, r, e, g1, g2, g3, g4, g5⟩ := hw.head
    have hwl := (op_line_words hw p.2).1
    have hop := op_run hw h3 h4
    rw [e, List.cons_append] at hwl
    refine Reads.one hwl g5 ?_
    unfold lineF
    simp only [if_neg g1, if_neg g2, if_neg g3, if_neg g4]
    unfold opsF
    rw [e, List.cons_append] at hop
    rw [hop]
    simp only [List.getLast?_append, List.getLast?_singleton, Option.some_or, List.dropLast_concat]
    rw [if_neg (by simp at hl; omega)]

/-! A thread's lines. -/
def thrLine (t : Thr) : Word := joinW [wThread, t.name]
def opLines (l : List Opn) : List Word := (runsL l.length l).map fun p => opLine p.1 p.2
def thrLines (t : Thr) : List Word := thrLine t :: opLines t.ops
theorem opsRuns_eq (l : List Opn) : opsRuns l = joinL (opLines l) := by
  unfold opsRuns opLines joinL
  rw [runsT_eq, List.flatMap_map]
  congr 1
  funext p
  simp [timesT, opLine]
theorem thrT_eq (t : Thr) : thrT t = joinL (thrLines t) := by
  unfold thrT thrLines
  rw [joinL_cons, ← opsRuns_eq]
  simp [thrLine, joinW]
structure GoodThr (t : Thr) : Prop where
  name : nameF t.name = true
  len : t.ops.length ≤ 65536
  ops : ∀ o ∈ t.ops, (I64 o.a ∧ I64 o.b ∧ I64 o.c) ∧ saysF o = true
theorem thr_sound {t : Thr} (h : nameF t.name = true) : ∀ x ∈ [wThread, t.name], Sound x := by
  intro x hx
  simp only [List.mem_cons, List.not_mem_nil, or_false] at hx
  rcases hx with rfl | rfl
  · exact sound_dec (by decide)
  · exact name_sound h
theorem reads_thr (tops : List Top) (thrs : List Thr) (t : Thr) (sch : List Int) (most : Int) (has : Bool) (h : GoodThr t) (hl : thrs.length < 64) (hn : t.name ∉ thrs.map Thr.name) :
    Reads ⟨⟨tops, thrs, sch, most⟩, has⟩ (thrLines t) ⟨⟨tops, thrs ++ [t], sch, most⟩, has⟩ := by
  obtain ⟨nm, ops⟩ := t
  have hall := runsL_all ops.length ops (Nat.le_refl _)
  have h2 := reads_ops tops thrs nm sch most has (runsL ops.length ops) [] (fun p hp => by
    obtain ⟨q1, q2, q3⟩ := runsL_in _ _ p hp
    obtain ⟨q4, q5⟩ := h.ops p.1 q1
    exact ⟨q4, q5, q2, q3⟩) (by rw [hall]; have := h.len; simpa using this)
  rw [hall, List.nil_append] at h2
  refine Reads.trans (l := [_]) ?_ h2
  refine Reads.one (words_join (thr_sound h.name)) (by decide) ?_
  unfold lineF
  simp only
  rw [if_neg (by decide), if_neg (by decide), if_neg (by decide), if_pos trivial]
  unfold threadF
  simp only
  rw [if_pos h.name, if_neg (by omega), if_neg hn]
theorem reads_thrs (tops : List Top) (sch : List Int) (most : Int) (has : Bool) : ∀ (L pre : List Thr), (∀ t ∈ L, GoodThr t) → (pre ++ L).length ≤ 64 → ((pre ++ L).map Thr.name).Nodup →
    Reads ⟨⟨tops, pre, sch, most⟩, has⟩ (L.flatMap thrLines) ⟨⟨tops, pre ++ L, sch, most⟩, has⟩
  | [], pre, _, _, _ => by simpa using Reads.nil _
  | t :: L, pre, h, hl, hn => by
    have ih := reads_thrs tops sch most has L (pre ++ [t]) (fun u hu => h u (by simp [hu])) (by simpa using hl) (by simpa using hn)
    rw [List.append_assoc] at ih
    rw [List.flatMap_cons]
    refine Reads.trans (reads_thr tops pre t sch most has (h t (by simp)) (by simp at hl; omega) ?_) ih
    intro hm
    rw [List.map_append, List.nodup_append] at hn
    exact hn.2.2 _ hm t.name (by simp) rfl

/-! The schedule's line. -/
def schWord (p : Int × Nat) : Word := itoa p.1 ++ starT p.2
def schWords (l : List Int) : List Word := (runsL l.length l).map schWord
theorem sch_sound (l : List Int) : ∀ x ∈ wSchedule :: schWords l, Sound x := by
  intro x hx
  rcases List.mem_cons.1 hx with rfl | hx
  · exact sound_dec (by decide)
  · obtain ⟨p, _, rfl⟩ := List.mem_map.1 hx
    have h1 := itoa_sound p.1
    refine ⟨fun e => h1.1 (List.append_eq_nil_iff.1 e).1, fun c hc => ?_⟩
    rcases List.mem_append.1 hc with hc | hc
    · exact h1.2 c hc
    · unfold starT at hc
      split at hc
      · rcases List.mem_cons.1 hc with rfl | hc
        · decide
        · exact (itoa_sound _).2 c hc
      · cases hc
theorem schT_eq {l : List Int} (h : l ≠ []) : schT l = joinL [joinW (wSchedule :: schWords l)] := by
  unfold schT schRuns
  rw [if_neg h, runsT_eq]
  show wSchedule ++ _ ++ [10] = [wSchedule ++ (schWords l).flatMap (fun x => 32 :: x)].flatMap (fun l => l ++ [10])
  unfold schWords
  rw [List.flatMap_map]
  simp [schWord]
theorem before_star : ∀ (u r : Word), (∀ c ∈ u, c ≠ 42) → beforeStar (u ++ r) = u ++ beforeStar r ∧ behindStar (u ++ r) = behindStar r
  | [], r, _ => ⟨rfl, rfl⟩
  | c :: u, r, h => by
    have hc : ¬ c = 42 := h c (by simp)
    obtain ⟨h1, h2⟩ := before_star u r (fun d hd => h d (by simp [hd]))
    constructor
    · show beforeStar (c :: (u ++ r)) = _
      rw [beforeStar, if_neg hc, h1]
      rfl
    · show behindStar (c :: (u ++ r)) = _
      rw [behindStar, if_neg hc, h2]
theorem piece_word {p : Int × Nat} (h1 : 0 ≤ p.1) (h2 : p.1 ≤ 2147483647) (h3 : 1 ≤ p.2) (h4 : p.2 ≤ 65536) : pieceF (schWord p) = some p := by
  obtain ⟨n, k⟩ := p
  simp only at *
  unfold schWord pieceF
  obtain ⟨e1, e2⟩ := before_star (itoa n) (starT k) (itoa_star n)
  rw [e1, e2]
  unfold starT
  by_cases hk : 1 < k
  · rw [if_pos hk]
    simp only [beforeStar, behindStar, if_pos, List.append_nil]
    rw [within_itoa (by unfold I64; omega) (by omega) (by omega)]
    simp only [Option.bind_some]
    rw [within_itoa (by unfold I64; omega) (by omega) (by omega)]
    simp
  · rw [if_neg hk]
    simp only [beforeStar, behindStar, List.append_nil]
    rw [within_itoa (by unfold I64; omega) (by omega) (by omega)]
    simp only [Option.bind_some]
    rw [show k = 1 by omega]
theorem pieces_words : ∀ (ps : List (Int × Nat)), (∀ p ∈ ps, 0 ≤ p.1 ∧ p.1 ≤ 2147483647 ∧ 1 ≤ p.2 ∧ p.2 ≤ 65536) → piecesF (ps.map schWord) = some ps
  | [], _ => rfl
  | p :: ps, h => by
    obtain ⟨h1, h2, h3, h4⟩ := h p (by simp)
    rw [List.map_cons, piecesF, piece_word h1 h2 h3 h4, pieces_words ps (fun q hq => h q (by simp [hq]))]
    rfl
theorem spread_eq : ∀ ps : List (Int × Nat), spread ps = ps.flatMap (fun p => List.replicate p.2 p.1)
  | [] => rfl
  | p :: ps => by rw [spread, spread_eq ps]; rfl
theorem reads_sch (tops : List Top) (l : List Int) (most : Int) (has : Bool) (hne : l ≠ []) (h : ∀ n ∈ l, 0 ≤ n ∧ n ≤ 2147483647) (hl : l.length ≤ 1048576) :
    Reads ⟨⟨tops, [], [], most⟩, has⟩ [joinW (wSchedule :: schWords l)] ⟨⟨tops, [], l, most⟩, has⟩ := by
  refine Reads.one (words_join (sch_sound l)) (by decide) ?_
  unfold lineF
  simp only
  rw [if_neg (by decide), if_neg (by decide), if_pos trivial]
  unfold schedF
  have hw : schWords l ≠ [] := by
    cases l with
    | nil => exact absurd rfl hne
    | cons x r => simp [schWords, runsL]
  rw [if_neg hw]
  unfold schWords
  rw [pieces_words _ (fun p hp => by
    obtain ⟨q1, q2, q3⟩ := runsL_in _ _ p hp
    obtain ⟨q4, q5⟩ := h p.1 q1
    exact ⟨q4, q5, q2, q3⟩)]
  simp only
  rw [spread_eq, runsL_all _ _ (Nat.le_refl _)]
  rw [if_neg (by simp; omega)]
  simp

/-! The other lines. -/
def topLine (t : Top) : Word := joinW [wTopic, itoa t.n, itoa t.s]
def mostLine (n : Int) : Word := joinW [wMost, itoa n]
theorem top_sound (t : Top) : ∀ x ∈ [wTopic, itoa t.n, itoa t.s], Sound x := by
  intro x hx
  simp only [List.mem_cons, List.not_mem_nil, or_false] at hx
  rcases hx with rfl | rfl | rfl
  · exact sound_dec (by decide)
  · exact itoa_sound _
  · exact itoa_sound _
theorem most_sound (n : Int) : ∀ x ∈ [wMost, itoa n], Sound x := by
  intro x hx
  simp only [List.mem_cons, List.not_mem_nil, or_false] at hx
  rcases hx with rfl | rfl
  · exact sound_dec (by decide)
  · exact itoa_sound _
theorem topT_eq (t : Top) : topT t = joinL [topLine t] := by simp [topT, joinL, topLine, joinW]
theorem topsT_eq (l : List Top) : topsT l = joinL (l.map topLine) := by
  unfold topsT joinL
  rw [List.flatMap_map]
  congr 1
  funext t
  rw [topT_eq]
  simp [joinL]
theorem thrsT_eq (l : List Thr) : thrsT l = joinL (l.flatMap thrLines) := by
  induction l with
  | nil => rfl
  | cons t l ih => rw [List.flatMap_cons, joinL_app, ← ih, ← thrT_eq]; rfl
theorem reads_tops (most : Int) (has : Bool) : ∀ (L pre : List Top), (∀ t ∈ L, I64 t.n ∧ 0 ≤ t.s ∧ t.s ≤ 65536) → (pre ++ L).length ≤ 65536 → Reads ⟨⟨pre, [], [], most⟩, has⟩ (L.map topLine) ⟨⟨pre ++ L, [], [], most⟩, has⟩
  | [], pre, _, _ => by simpa using Reads.nil _
  | t :: L, pre, h, hl => by
    have ih := reads_tops most has L (pre ++ [t]) (fun u hu => h u (by simp [hu])) (by simpa using hl)
    rw [List.append_assoc] at ih
    obtain ⟨h1, h2, h3⟩ := h t (by simp)
    refine Reads.trans (l := [_]) ?_ ih
    refine Reads.one (words_join (top_sound t)) (by decide) ?_
    unfold lineF
    simp only
    rw [if_pos trivial]
    unfold topicF
    simp only
    rw [num_itoa h1, within_itoa (by unfold I64; omega) h2 h3]
    simp only
    rw [if_neg (by simp at hl; omega)]
/-- A script's lines. -/
def linesS (S : Scr) : List Word := S.tops.map topLine ++ ((if S.most = 0 then [] else [mostLine S.most]) ++ ((if S.sch = [] then [] else [joinW (wSchedule :: schWords S.sch)]) ++ S.thrs.flatMap thrLines))
theorem printF_eq (S : Scr) : printF S = joinL (linesS S) := by
  unfold printF linesS
  rw [joinL_app, joinL_app, joinL_app, ← topsT_eq, ← thrsT_eq, ← List.append_assoc, ← List.append_assoc]
  congr 1
  congr 1
  · congr 1
    unfold mostT
    split
    · rfl
    · simp [joinL, mostLine, joinW]
  · by_cases h : S.sch = []
    · rw [if_pos h, h]; rfl
    · rw [if_neg h, schT_eq h]
structure GoodScr (S : Scr) : Prop where
  tops : ∀ t ∈ S.tops, I64 t.n ∧ 0 ≤ t.s ∧ t.s ≤ 65536
  topsL : S.tops.length ≤ 65536
  most : 0 ≤ S.most ∧ S.most ≤ 1048576
  sch : ∀ n ∈ S.sch, 0 ≤ n ∧ n ≤ 2147483647
  schL : S.sch.length ≤ 1048576
  thrs : ∀ t ∈ S.thrs, GoodThr t
  thrsL : S.thrs.length ≤ 64
  once : (S.thrs.map Thr.name).Nodup
theorem lines_clean {S : Scr} (h : GoodScr S) : ∀ l ∈ linesS S, ∀ c ∈ l, c ≠ 10 := by
  intro l hl
  unfold linesS at hl
  rcases List.mem_append.1 hl with hl | hl
  · obtain ⟨t, _, rfl⟩ := List.mem_map.1 hl
    exact join_clean (top_sound t)
  rcases List.mem_append.1 hl with hl | hl
  · split at hl
    · cases hl
    · simp only [List.mem_singleton] at hl
      subst hl
      exact join_clean (most_sound _)
  rcases List.mem_append.1 hl with hl | hl
  · split at hl
    · cases hl
    · simp only [List.mem_singleton] at hl
      subst hl
      exact join_clean (sch_sound _)
  obtain ⟨t, ht, hl⟩ := List.mem_flatMap.1 hl
  have ht := h.thrs t ht
  rcases List.mem_cons.1 hl with rfl | hl
  · exact join_clean (thr_sound ht.name)
  · obtain ⟨p, hp, rfl⟩ := List.mem_map.1 hl
    obtain ⟨q1, _⟩ := runsL_in _ _ p hp
    obtain ⟨q4, q5⟩ := ht.ops p.1 q1
    obtain ⟨ws, hw⟩ := op_words p.1 q4 q5
    exact (op_line_words hw p.2).2
theorem reads_scr {S : Scr} (h : GoodScr S) : ∃ has, Reads ⟨Scr.empty, false⟩ (linesS S) ⟨S, has⟩ := by
  have h1 := reads_tops 0 false S.tops [] h.tops (by simpa using h.topsL)
  rw [List.nil_append] at h1
  have h2 : ∃ has, Reads ⟨⟨S.tops, [], [], 0⟩, false⟩ (if S.most = 0 then [] else [mostLine S.most]) ⟨⟨S.tops, [], [], S.most⟩, has⟩ := by
    by_cases e : S.most = 0
    · rw [if_pos e, e]; exact ⟨false, Reads.nil _⟩
    · rw [if_neg e]
      refine ⟨true, Reads.one (words_join (most_sound S.most)) (by decide) ?_⟩
      unfold lineF
      simp only
      rw [if_neg (by decide), if_pos trivial]
      unfold mostF
      simp only
      have hm := h.most
      rw [within_itoa (by unfold I64; omega) hm.1 hm.2]
      rfl
  obtain ⟨has, h2⟩ := h2
  have h3 : Reads ⟨⟨S.tops, [], [], S.most⟩, has⟩ (if S.sch = [] then [] else [joinW (wSchedule :: schWords S.sch)]) ⟨⟨S.tops, [], S.sch, S.most⟩, has⟩ := by
    by_cases e : S.sch = []
    · rw [if_pos e, e]; exact Reads.nil _
    · rw [if_neg e]; exact reads_sch _ _ _ _ e h.sch h.schL
  have h4 := reads_thrs S.tops S.sch S.most has S.thrs [] h.thrs (by simpa using h.thrsL) (by simpa using h.once)
  rw [List.nil_append] at h4
  exact ⟨has, h1.trans (h2.trans (h3.trans h4))⟩
/-- What is printed is read as the same. -/
theorem parse_print {S : Scr} (h : GoodScr S) : parseF (printF S) = (0, 0, S) := by
  unfold parseF
  rw [printF_eq, linesT_join (lines_clean h)]
  obtain ⟨has, hr⟩ := reads_scr h
  have := hr 1 []
  rw [List.append_nil] at this
  rw [this]
  rfl
end Go.Proofs.YtdmhlhoimaeacaaDoor.PL

/-
  What is read can be printed; lines that say nothing change nothing; the line that is told is the first one that is wrong. No program in sight.
-/
namespace Go.Proofs.YtdmhlhoimaeacaaDoor.PL
open Go.Lib
set_option linter.unusedVariables false

/-! Check. -/
theorem good_of_check {S : Scr} (h : checkF S = 0) (ht : ∀ t ∈ S.tops, I64 t.n) (ho : ∀ t ∈ S.thrs, ∀ o ∈ t.ops, I64 o.a ∧ I64 o.b ∧ I64 o.c) : GoodScr S := by
  unfold checkF at h
  by_cases h1 : 64 < S.thrs.length ∨ 65536 < S.tops.length ∨ 1048576 < S.sch.length
  · rw [if_pos h1] at h; cases h
  rw [if_neg h1] at h
  by_cases h2 : S.thrs.any (fun t => decide (65536 < t.ops.length)) = true
  · rw [if_pos h2] at h; cases h
  rw [if_neg h2] at h
  by_cases h3 : ¬ (S.thrs.map Thr.name).Nodup
  · rw [if_pos h3] at h; cases h
  rw [if_neg h3] at h
  by_cases h4 : fieldsF S = true
  · unfold fieldsF at h4
    simp only [Bool.and_eq_true, decide_eq_true_eq, List.all_eq_true] at h4
    obtain ⟨⟨⟨⟨m0, m1⟩, tp⟩, sc⟩, th⟩ := h4
    refine ⟨fun t h => ⟨ht t h, tp t h⟩, by omega, ⟨m0, m1⟩, sc, by omega, fun t hh => ⟨(th t hh).1, ?_, fun o h5 => ⟨ho t hh o h5, (th t hh).2 o h5⟩⟩, by omega, by simpa using h3⟩
    rw [Bool.not_eq_true, List.any_eq_false] at h2
    have := h2 t hh
    simp only [decide_eq_true_eq] at this
    omega
  · rw [if_neg h4] at h; cases h
theorem check_of_good {S : Scr} (h : GoodScr S) : checkF S = 0 := by
  unfold checkF
  have h1 := h.thrsL
  have h2 := h.topsL
  have h3 := h.schL
  rw [if_neg (by omega)]
  have h4 : S.thrs.any (fun t => decide (65536 < t.ops.length)) = false := by
    rw [List.any_eq_false]
    intro t ht
    have := (h.thrs t ht).len
    simp only [decide_eq_true_eq]
    omega
  rw [h4, if_neg (by simp), if_neg (by simpa using h.once)]
  have h5 : fieldsF S = true := by
    unfold fieldsF
    simp only [Bool.and_eq_true, decide_eq_true_eq, List.all_eq_true]
    exact ⟨⟨⟨h.most, fun t ht => (h.tops t ht).2⟩, h.sch⟩, fun t ht => ⟨(h.thrs t ht).name, fun o ho => ((h.thrs t ht).ops o ho).2⟩⟩
  rw [if_pos h5]

/-! What is read is good. -/
theorem num_in {w : Word} {n : Int} (h : numF w = some n) : I64 n := by
  unfold numF at h
  split at h
  · rename_i hg
    cases h
    simp only [Bool.and_eq_true, in64B, decide_eq_true_eq] at hg
    exact hg.2
  · cases h
theorem within_in {w : Word} {lo hi n : Int} (h : withinF w lo hi = some n) : I64 n ∧ lo ≤ n ∧ n ≤ hi := by
  unfold withinF at h
  rw [Option.bind_eq_some_iff] at h
  obtain ⟨m, hm, h⟩ := h
  split at h
  · rename_i hb
    cases h
    exact ⟨num_in hm, hb⟩
  · cases h
theorem nums_in : ∀ {ws : List Word} {bs : List (Int × Int)} {l : List Int}, numsF ws bs = some l → fitsF l bs = true ∧ ∀ n ∈ l, I64 n
  | [], [], l, h => by simp [numsF] at h; subst h; exact ⟨rfl, by simp⟩
  | [], _ :: _, _, h => by simp [numsF] at h
  | _ :: _, [], _, h => by simp [numsF] at h
  | w :: ws, b :: bs, l, h => by
    simp only [numsF, Option.bind_eq_some_iff, Option.map_eq_some_iff] at h
    obtain ⟨n, hn, k, hk, rfl⟩ := h
    obtain ⟨h1, h2, h3⟩ := within_in hn
    obtain ⟨h4, h5⟩ := nums_in hk
    refine ⟨by simp [fitsF, h2, h3, h4], fun m hm => ?_⟩
    rcases List.mem_cons.1 hm with rfl | hm
    · exact h1
    · exact h5 m hm
def GoodOp (o : Opn) : Prop := (I64 o.a ∧ I64 o.b ∧ I64 o.c) ∧ saysF o = true
theorem fits_len : ∀ {l : List Int} {bs : List (Int × Int)}, fitsF l bs = true → l.length = bs.length
  | [], [], _ => rfl
  | [], _ :: _, h => by simp [fitsF] at h
  | _ :: _, [], h => by simp [fitsF] at h
  | n :: l, b :: bs, h => by
    simp only [fitsF, Bool.and_eq_true] at h
    simp [fits_len h.2]
theorem form_kind {f : Form} (h : f ∈ formsF) : formsF.find? (fun g => g.kind = f.kind) = some f ∧ f.kind ≠ 4 := by
  simp only [formsF, List.mem_cons, List.not_mem_nil, or_false] at h
  rcases h with rfl | rfl | rfl | rfl | rfl | rfl
  all_goals exact ⟨rfl, by decide⟩
theorem i64_zero : I64 0 := by unfold I64; omega
theorem tellF_other {o : Opn} {f : Form} (h4 : o.k ≠ 4) (hf : formsF.find? (fun g => g.kind = o.k) = some f) : tellF o = if fitsF (opNums f o) f.bounds && (opRest f o).all (· == 0) then some (f.word ++ numsT (opNums f o)) else none := by
  unfold tellF
  rw [if_neg h4]
  have hf' : (formsF.find? fun g => decide (g.kind = o.k)) = some f := hf
  rw [hf']
  rfl
theorem form_good {f : Form} (hf : f ∈ formsF) {l : List Int} (h : fitsF l f.bounds = true) (hi : ∀ n ∈ l, I64 n) : GoodOp (opnOf f.kind l) := by
  have hl := fits_len h
  have h3 := (form_facts hf).2.2.2.2
  have hg : ∀ i, I64 (l.getD i 0) := fun i => by
    by_cases hi2 : i < l.length
    · simp only [List.getD, List.getElem?_eq_getElem hi2, Option.getD_some]
      exact hi _ (List.getElem_mem hi2)
    · simp only [List.getD, List.getElem?_eq_none (Nat.le_of_not_lt hi2), Option.getD_none]
      exact i64_zero
  refine ⟨⟨hg 0, hg 1, hg 2⟩, ?_⟩
  obtain ⟨k1, k4⟩ := form_kind hf
  unfold saysF
  rw [tellF_other (f := f) k4 k1]
  have e : (fitsF (opNums f ⟨f.kind, l.getD 0 0, l.getD 1 0, l.getD 2 0⟩) f.bounds && (opRest f ⟨f.kind, l.getD 0 0, l.getD 1 0, l.getD 2 0⟩).all (· == 0)) = true := by
    have e1 : opNums f ⟨f.kind, l.getD 0 0, l.getD 1 0, l.getD 2 0⟩ = l := by
      unfold opNums
      rw [← hl]
      simp only
      match l, (by omega : l.length ≤ 3) with
      | [], _ => rfl
      | [_], _ => rfl
      | [_, _], _ => rfl
      | [_, _, _], _ => rfl
    have e2 : (opRest f ⟨f.kind, l.getD 0 0, l.getD 1 0, l.getD 2 0⟩).all (· == 0) = true := by
      unfold opRest
      rw [← hl]
      simp only
      match l, (by omega : l.length ≤ 3) with
      | [], _ => rfl
      | [_], _ => rfl
      | [_, _], _ => rfl
      | [_, _, _], _ => rfl
    rw [e1, h, e2]
    rfl
  rw [show opnOf f.kind l = ⟨f.kind, l.getD 0 0, l.getD 1 0, l.getD 2 0⟩ from rfl, if_pos e]
  rfl
theorem subs_good {w : List Word} {o : Opn} (h : subsF w = some o) : GoodOp o := by
  unfold subsF at h
  split at h
  · split at h
    · rw [Option.map_eq_some_iff] at h
      obtain ⟨n, hn, rfl⟩ := h
      exact ⟨⟨num_in hn, i64_zero, i64_zero⟩, rfl⟩
    · cases h
  · rw [Option.bind_eq_some_iff] at h
    obtain ⟨n, hn, h⟩ := h
    rw [Option.bind_eq_some_iff] at h
    obtain ⟨c, hc, h⟩ := h
    rw [Option.map_eq_some_iff] at h
    obtain ⟨b, hb, rfl⟩ := h
    have h3 : c = 1 ∨ c = 2 ∨ c = 3 := by
      split at hc
      · cases hc; simp
      split at hc
      · cases hc; simp
      split at hc
      · cases hc; simp
      · cases hc
    refine ⟨⟨num_in hn, num_in hb, by show I64 c; unfold I64; omega⟩, ?_⟩
    rcases h3 with rfl | rfl | rfl <;> rfl
  · cases h
theorem said_good {w : List Word} {o : Opn} (h : saidF w = some o) : GoodOp o := by
  cases w with
  | nil => cases h
  | cons x ws =>
    rw [said_cons] at h
    split at h
    · exact subs_good h
    · rw [Option.bind_eq_some_iff] at h
      obtain ⟨f, hf, h⟩ := h
      rw [Option.map_eq_some_iff] at h
      obtain ⟨l, hl, rfl⟩ := h
      obtain ⟨h1, h2⟩ := nums_in hl
      exact form_good (List.mem_of_find?_eq_some hf) h1 h2
theorem opF_good {w : List Word} {o : Opn} {k : Nat} (h : opF w = some (o, k)) : GoodOp o := by
  unfold opF at h
  split at h
  · rename_i o' ho
    cases h
    exact said_good ho
  · split at h
    · rw [Option.bind_eq_some_iff] at h
      obtain ⟨n, hn, h⟩ := h
      rw [Option.map_eq_some_iff] at h
      obtain ⟨o', ho, h⟩ := h
      cases h
      exact said_good ho
    · cases h
theorem piece_good {w : Word} {p : Int × Nat} (h : pieceF w = some p) : 0 ≤ p.1 ∧ p.1 ≤ 2147483647 := by
  unfold pieceF at h
  rw [Option.bind_eq_some_iff] at h
  obtain ⟨n, hn, h⟩ := h
  have := (within_in hn).2
  split at h
  · cases h; exact this
  · rw [Option.map_eq_some_iff] at h
    obtain ⟨k, _, rfl⟩ := h
    exact this
theorem pieces_good : ∀ {ws : List Word} {ps : List (Int × Nat)}, piecesF ws = some ps → ∀ n ∈ spread ps, 0 ≤ n ∧ n ≤ 2147483647
  | [], ps, h, n, hn => by simp [piecesF] at h; subst h; cases hn
  | w :: ws, ps, h, n, hn => by
    simp only [piecesF, Option.bind_eq_some_iff, Option.map_eq_some_iff] at h
    obtain ⟨p, hp, qs, hq, rfl⟩ := h
    rw [spread] at hn
    rcases List.mem_append.1 hn with hn | hn
    · rw [(List.mem_replicate.1 hn).2]; exact piece_good hp
    · exact pieces_good hq n hn
theorem topic_good {st : Rdg} {ws : List Word} (h : GoodScr st.s) (he : (topicF st ws).1 = 0) : GoodScr (topicF st ws).2.s := by
  unfold topicF at he ⊢
  split
  · simp only at he ⊢
    split
    · rename_i n s hn hs
      rw [hn, hs] at he
      simp only at he
      by_cases hl : 65536 ≤ st.s.tops.length
      · rw [if_pos hl] at he; cases he
      · rw [if_neg hl]
        simp only
        refine { h with tops := fun t ht => ?_, topsL := by simp; omega }
        rcases List.mem_append.1 ht with ht | ht
        · exact h.tops t ht
        · simp only [List.mem_singleton] at ht
          subst ht
          exact ⟨num_in hn, (within_in hs).2⟩
    · exact h
  · exact h
theorem most_good {st : Rdg} {ws : List Word} (h : GoodScr st.s) (he : (mostF st ws).1 = 0) : GoodScr (mostF st ws).2.s := by
  unfold mostF at he ⊢
  split
  · simp only at he ⊢
    split
    · rename_i n hn
      split
      · exact h
      · exact { h with most := (within_in hn).2 }
    · exact h
  · exact h
theorem sched_good {st : Rdg} {ws : List Word} (h : GoodScr st.s) (he : (schedF st ws).1 = 0) : GoodScr (schedF st ws).2.s := by
  unfold schedF at he ⊢
  split
  · exact h
  · split
    · rename_i ps hp
      split
      · exact h
      · refine { h with sch := fun n hn => ?_, schL := by simp at *; omega }
        rcases List.mem_append.1 hn with hn | hn
        · exact h.sch n hn
        · exact pieces_good hp n hn
    · exact h
theorem thread_good {st : Rdg} {ws : List Word} (h : GoodScr st.s) (he : (threadF st ws).1 = 0) : GoodScr (threadF st ws).2.s := by
  unfold threadF at he ⊢
  split
  · rename_i n
    simp only at he ⊢
    by_cases hn : nameF n = true
    · rw [if_pos hn] at he ⊢
      split
      · exact h
      · split
        · exact h
        · rename_i hl hm
          refine { h with thrs := fun t ht => ?_, thrsL := by simp; omega, once := ?_ }
          · rcases List.mem_append.1 ht with ht | ht
            · exact h.thrs t ht
            · simp only [List.mem_singleton] at ht
              subst ht
              exact ⟨hn, by simp, by simp⟩
          · simp only [List.map_append, List.map_cons, List.map_nil]
            rw [List.nodup_append]
            refine ⟨h.once, by simp, fun a ha b hb e => ?_⟩
            simp only [List.mem_singleton] at hb
            subst hb
            subst e
            exact hm ha
    · rw [if_neg hn]; exact h
  · exact h
theorem ops_good {st : Rdg} {ws : List Word} (h : GoodScr st.s) (he : (opsF st ws).1 = 0) : GoodScr (opsF st ws).2.s := by
  unfold opsF at he ⊢
  split
  · rename_i o k t ho ht
    split
    · exact h
    · rename_i hl
      have hd : st.s.thrs = st.s.thrs.dropLast ++ [t] := by
        have hne : st.s.thrs ≠ [] := by intro e; rw [e] at ht; cases ht
        have := List.dropLast_concat_getLast hne
        rw [List.getLast?_eq_some_getLast hne] at ht
        injection ht with ht
        rw [ht] at this
        exact this.symm
      have hg := opF_good ho
      refine { h with thrs := fun u hu => ?_, thrsL := ?_, once := ?_ }
      · rcases List.mem_append.1 hu with hu | hu
        · exact h.thrs u (List.dropLast_subset _ hu)
        · simp only [List.mem_singleton] at hu
          subst hu
          have h0 := h.thrs t (by rw [hd]; simp)
          refine ⟨h0.name, by simp; omega, fun q hq => ?_⟩
          rcases List.mem_append.1 hq with hq | hq
          · exact h0.ops q hq
          · rw [(List.mem_replicate.1 hq).2]; exact hg
      · have := h.thrsL
        rw [hd] at this
        simpa using this
      · have := h.once
        rw [hd] at this
        simpa using this
  · exact h
theorem line_good {st : Rdg} {w : List Word} (h : GoodScr st.s) (he : (lineF st w).1 = 0) : GoodScr (lineF st w).2.s := by
  unfold lineF at he ⊢
  split
  · exact h
  · simp only at he ⊢
    split
    · rename_i hx
      rw [if_pos hx] at he
      exact topic_good h he
    · rename_i hx
      rw [if_neg hx] at he
      split
      · rename_i hx
        rw [if_pos hx] at he
        exact most_good h he
      · rename_i hx
        rw [if_neg hx] at he
        split
        · rename_i hx
          rw [if_pos hx] at he
          exact sched_good h he
        · rename_i hx
          rw [if_neg hx] at he
          split
          · rename_i hx
            rw [if_pos hx] at he
            exact thread_good h he
          · rename_i hx
            rw [if_neg hx] at he
            exact ops_good h he
theorem read_cons (st : Rdg) (n : Nat) (l : Word) (ls : List Word) : readG st n (l :: ls) = if mute (wordsF l) then readG st (n + 1) ls else
      if (lineF st (wordsF l)).1 = 0 then readG (lineF st (wordsF l)).2 (n + 1) ls else ((lineF st (wordsF l)).1, n, Scr.empty) := rfl
/-- What reading says. -/
theorem read_good : ∀ (ls : List Word) (st : Rdg) (n : Nat), GoodScr st.s → (GoodScr (readG st n ls).2.2 ∧ (readG st n ls).1 = 0 ∧ (readG st n ls).2.1 = 0) ∨ ((readG st n ls).1 ≠ 0 ∧ n ≤ (readG st n ls).2.1 ∧ (readG st n ls).2.1 < n + ls.length ∧ (readG st n ls).2.2 = Scr.empty)
  | [], st, n, h => .inl ⟨h, rfl, rfl⟩
  | l :: ls, st, n, h => by
    rw [read_cons]
    split
    · rcases read_good ls st (n + 1) h with h1 | ⟨h1, h2, h3, h4⟩
      · exact .inl h1
      · exact .inr ⟨h1, by omega, by simp; omega, h4⟩
    · split
      · rename_i he
        rcases read_good ls _ (n + 1) (line_good h he) with h1 | ⟨h1, h2, h3, h4⟩
        · exact .inl h1
        · exact .inr ⟨h1, by omega, by simp; omega, h4⟩
      · rename_i he
        exact .inr ⟨he, Nat.le_refl _, by simp, rfl⟩
theorem good_empty : GoodScr Scr.empty := ⟨by simp [Scr.empty], by simp [Scr.empty], by simp [Scr.empty], by simp [Scr.empty], by simp [Scr.empty], by simp [Scr.empty], by simp [Scr.empty], by simp [Scr.empty]⟩
theorem parse_good_or (t : Word) : (GoodScr (parseF t).2.2 ∧ (parseF t).1 = 0 ∧ (parseF t).2.1 = 0) ∨ ((parseF t).1 ≠ 0 ∧ 1 ≤ (parseF t).2.1 ∧ (parseF t).2.1 ≤ (linesF t.length t).length ∧ (parseF t).2.2 = Scr.empty) := by
  rcases read_good (linesF t.length t) ⟨Scr.empty, false⟩ 1 good_empty with h | ⟨h1, h2, h3, h4⟩
  · exact .inl h
  · exact .inr ⟨h1, h2, by unfold parseF; omega, h4⟩

/-! Lines that say nothing, and other blanks. -/
def wComment : Word := [35, 32, 116, 111, 112, 105, 99, 32, 51]
def wBlank : Word := [32, 9, 32]
def padF (l : Word) : Word := 9 :: 32 :: (l ++ [32, 32])
theorem words_tail : ∀ (l cur : Word), wordsG cur (l ++ [32, 32]) = wordsG cur l
  | [], cur => by
    by_cases h : cur = []
    · subst h; rfl
    · show wordsG cur (32 :: [32]) = wordsG cur []
      rw [words_stop h, words_skip, wordsG, wordsG, if_pos rfl, if_neg h]
  | c :: l, cur => by
    show wordsG cur (c :: (l ++ [32, 32])) = wordsG cur (c :: l)
    rw [wordsG, wordsG, words_tail l [], words_tail l (cur ++ [c])]
theorem words_padF (l : Word) : wordsF (padF l) = wordsF l := by
  unfold padF wordsF
  have h9 : ∀ r, wordsG [] (9 :: r) = wordsG [] r := fun r => by rw [wordsG]; simp [isBlank]
  rw [h9, words_skip, words_tail]
/-- The lines of the law's own text. -/
def mixF (k : Nat) : Nat → List Word → List Word
  | _, [] => []
  | i, l :: ls => (if i = k then [wComment, wBlank] else []) ++ padF l :: mixF k (i + 1) ls
theorem read_mute {l : Word} (h : mute (wordsF l) = true) (st : Rdg) (n : Nat) (ls : List Word) : readG st n (l :: ls) = readG st (n + 1) ls := by rw [read_cons, if_pos h]
theorem read_mix (k : Nat) : ∀ (ls : List Word) (i : Nat) (st : Rdg) (n m : Nat) (S : Scr), readG st n ls = (0, 0, S) → readG st m (mixF k i ls) = (0, 0, S)
  | [], i, st, n, m, S, h => h
  | l :: ls, i, st, n, m, S, h => by
    have key : ∀ m2, readG st m2 (padF l :: mixF k (i + 1) ls) = (0, 0, S) := fun m2 => by
      rw [read_cons, words_padF]
      rw [read_cons] at h
      split
      · rename_i hm
        rw [if_pos hm] at h
        exact read_mix k ls (i + 1) st _ _ S h
      · rename_i hm
        rw [if_neg hm] at h
        split
        · rename_i he
          rw [if_pos he] at h
          exact read_mix k ls (i + 1) _ _ _ S h
        · rename_i he
          rw [if_neg he] at h
          exact absurd (congrArg Prod.fst h) he
    rw [mixF]
    split
    · show readG st m (wComment :: wBlank :: _) = _
      rw [read_mute (by decide), read_mute (by decide)]
      exact key _
    · exact key _
theorem lineOf_clean : ∀ (t : Word), ∀ c ∈ (lineOf t).1, c ≠ 10
  | [], c, hc => by cases hc
  | d :: t, c, hc => by
    rw [lineOf] at hc
    split at hc
    · cases hc
    · rename_i hd
      rcases List.mem_cons.1 hc with rfl | hc
      · exact hd
      · exact lineOf_clean t c hc
theorem linesF_clean : ∀ (f : Nat) (t : Word), ∀ l ∈ linesF f t, ∀ c ∈ l, c ≠ 10
  | 0, t, l, hl => by cases hl
  | f + 1, [], l, hl => by cases hl
  | f + 1, d :: t, l, hl => by
    rw [linesF] at hl
    rcases List.mem_cons.1 hl with rfl | hl
    · exact lineOf_clean _
    · exact linesF_clean f _ l hl
theorem mix_clean (k : Nat) : ∀ (ls : List Word) (i : Nat), (∀ l ∈ ls, ∀ c ∈ l, c ≠ 10) → ∀ l ∈ mixF k i ls, ∀ c ∈ l, c ≠ 10
  | [], i, h, l, hl => by cases hl
  | x :: ls, i, h, l, hl => by
    rw [mixF] at hl
    rcases List.mem_append.1 hl with hl | hl
    · split at hl
      · simp only [List.mem_cons, List.not_mem_nil, or_false] at hl
        rcases hl with rfl | rfl <;> decide
      · cases hl
    · rcases List.mem_cons.1 hl with rfl | hl
      · intro c hc
        unfold padF at hc
        rcases List.mem_cons.1 hc with rfl | hc
        · decide
        rcases List.mem_cons.1 hc with rfl | hc
        · decide
        rcases List.mem_append.1 hc with hc | hc
        · exact h x (by simp) c hc
        · simp only [List.mem_cons, List.not_mem_nil, or_false, or_self] at hc
          subst hc
          decide
      · exact mix_clean k ls (i + 1) (fun y hy => h y (by simp [hy])) l hl
/-- Lines that say nothing, and other blanks, change nothing. -/
theorem parse_mix {t : Word} {k : Nat} (h : (parseF t).1 = 0) : parseF (joinL (mixF k 0 (linesF t.length t))) = (0, 0, (parseF t).2.2) := by
  have h0 : parseF t = (0, 0, (parseF t).2.2) := by
    rcases parse_good_or t with ⟨_, h1, h2⟩ | ⟨h1, _⟩
    · generalize parseF t = x at *
      obtain ⟨a, b, c⟩ := x
      simp only at *
      rw [h1, h2]
    · exact absurd h h1
  have hc := mix_clean k (linesF t.length t) 0 (linesF_clean _ _)
  generalize hS : (parseF t).2.2 = S at *
  unfold parseF at h0 ⊢
  rw [linesT_join hc]
  exact read_mix k _ 0 _ 1 1 S h0

/-! The line that is told. -/
theorem read_first : ∀ (ls : List Word) (st : Rdg) (m n : Nat) (e : Int), e ≠ 0 → readG st m ls = (e, n, Scr.empty) → m ≤ n ∧ n < m + ls.length ∧ (readG st m (ls.take (n - m))).1 = 0 ∧ ∃ l, ls[n - m]? = some l ∧ l ≠ [] ∧ readG st m (ls.take (n - m) ++ [l]) = (e, n, Scr.empty)
  | [], st, m, n, e, he, h => by
    have := congrArg Prod.fst h
    exact absurd this.symm he
  | l :: ls, st, m, n, e, he, h => by
    have hgo : ∀ st2, readG st2 (m + 1) ls = (e, n, Scr.empty) → (∀ xs, readG st m (l :: xs) = readG st2 (m + 1) xs) → m ≤ n ∧ n < m + (l :: ls).length ∧ (readG st m ((l :: ls).take (n - m))).1 = 0 ∧ ∃ x, (l :: ls)[n - m]? = some x ∧ x ≠ [] ∧ readG st m ((l :: ls).take (n - m) ++ [x]) = (e, n, Scr.empty) := by
      intro st2 h2 hs
      obtain ⟨h1, h3, h4, x, h5, h6, h7⟩ := read_first ls st2 (m + 1) n e he h2
      have e1 : n - m = (n - (m + 1)) + 1 := by omega
      rw [e1]
      refine ⟨by omega, by simp; omega, ?_, x, by simpa using h5, h6, ?_⟩
      · rw [List.take_succ_cons, hs]; exact h4
      · rw [List.take_succ_cons, List.cons_append, hs]; exact h7
    by_cases hm : mute (wordsF l) = true
    · exact hgo st (by rw [read_mute hm] at h; exact h) (fun xs => read_mute hm _ _ _)
    · by_cases hz : (lineF st (wordsF l)).1 = 0
      · refine hgo (lineF st (wordsF l)).2 ?_ (fun xs => by rw [read_cons, if_neg hm, if_pos hz])
        rw [read_cons, if_neg hm, if_pos hz] at h
        exact h
      · have h' := h
        rw [read_cons, if_neg hm, if_neg hz] at h
        have hn : m = n := congrArg (fun x => x.2.1) h
        subst hn
        simp only [Nat.sub_self, List.take_zero, List.nil_append]
        refine ⟨Nat.le_refl _, by simp, rfl, l, rfl, ?_, ?_⟩
        · intro e2
          subst e2
          exact hm rfl
        · rw [read_cons, if_neg hm, if_neg hz]
          exact h
/-- What stands ahead of the line that is told is read, with it it isn't. -/
theorem parse_first {t : Word} (he : (parseF t).1 ≠ 0) : 1 ≤ (parseF t).2.1 ∧ (parseF t).2.1 ≤ (linesF t.length t).length ∧ (parseF (joinL ((linesF t.length t).take ((parseF t).2.1 - 1)))).1 = 0 ∧
    (parseF (joinL ((linesF t.length t).take ((parseF t).2.1 - 1)))).2.1 = 0 ∧
    ∃ l, (linesF t.length t)[(parseF t).2.1 - 1]? = some l ∧ parseF (joinL ((linesF t.length t).take ((parseF t).2.1 - 1)) ++ l) = ((parseF t).1, (parseF t).2.1, Scr.empty) := by
  rcases parse_good_or t with ⟨_, h1, _⟩ | ⟨_, g1, g2, g3⟩
  · exact absurd h1 he
  have h0 : readG ⟨Scr.empty, false⟩ 1 (linesF t.length t) = ((parseF t).1, (parseF t).2.1, Scr.empty) := by
    have e : readG ⟨Scr.empty, false⟩ 1 (linesF t.length t) = parseF t := rfl
    rw [e]
    generalize parseF t = x at *
    obtain ⟨a, b, c⟩ := x
    simp only at *
    rw [g3]
  obtain ⟨h1, h2, h3, l, h4, h5, h6⟩ := read_first _ _ _ _ _ he h0
  have hcl := linesF_clean t.length t
  generalize (parseF t).2.1 = n at *
  generalize (parseF t).1 = e at *
  generalize linesF t.length t = ls at *
  have hct : ∀ x ∈ ls.take (n - 1), ∀ c ∈ x, c ≠ 10 := fun x hx => hcl x (List.mem_of_mem_take hx)
  have p1 : parseF (joinL (ls.take (n - 1))) = readG ⟨Scr.empty, false⟩ 1 (ls.take (n - 1)) := by unfold parseF; rw [linesT_join hct]
  have p2 : parseF (joinL (ls.take (n - 1)) ++ l) = readG ⟨Scr.empty, false⟩ 1 (ls.take (n - 1) ++ [l]) := by unfold parseF; rw [linesT_last hct (hcl l (List.mem_of_getElem? h4)) h5]
  refine ⟨g1, g2, by rw [p1]; exact h3, ?_, l, h4, by rw [p2]; exact h6⟩
  rcases parse_good_or (joinL (ls.take (n - 1))) with ⟨_, _, q⟩ | ⟨q, _⟩
  · exact q
  · rw [p1] at q; exact absurd h3 q
end Go.Proofs.YtdmhlhoimaeacaaDoor.PL
