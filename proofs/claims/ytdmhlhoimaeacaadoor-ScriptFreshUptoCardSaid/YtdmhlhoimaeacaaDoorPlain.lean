/-
  What a script's text is read as, in plain words. No program in sight.
-/
import Derived.Lib.ParseIntB
import Derived.Lib.ItoaNum
namespace Go.Proofs.YtdmhlhoimaeacaaDoor
set_option linter.unusedVariables false

abbrev Word := List UInt8
structure Opn where
  k : Int
  a : Int
  b : Int
  c : Int
  deriving DecidableEq, Inhabited
structure Top where
  n : Int
  s : Int
  deriving DecidableEq, Inhabited
structure Thr where
  name : Word
  ops : List Opn
  deriving DecidableEq, Inhabited
structure Scr where
  tops : List Top
  thrs : List Thr
  sch : List Int
  most : Int
  deriving DecidableEq, Inhabited
def Scr.empty : Scr := ⟨[], [], [], 0⟩

/-! Numbers. -/
def isDig (c : UInt8) : Bool := decide (48 ≤ c.toNat) && decide (c.toNat ≤ 57)
def valD (a : Nat) (D : Word) : Nat := D.foldl (fun a c => a * 10 + (c.toNat - 48)) a
def negW (w : Word) : Bool := w.head? == some 45
def digW (w : Word) : Word := if negW w then w.tail else w
/-- The word is a number's, whatever its size. -/
def goodNum (w : Word) : Bool :=
  !(digW w).isEmpty && !((digW w).head? == some 48 && (negW w || decide (1 < (digW w).length))) && (digW w).all isDig
def valW (w : Word) : Int := if negW w then -(valD 0 (digW w) : Int) else (valD 0 (digW w) : Int)
def in64B (n : Int) : Bool := decide (-9223372036854775808 ≤ n) && decide (n ≤ 9223372036854775807)
def numF (w : Word) : Option Int := if goodNum w && in64B (valW w) then some (valW w) else none
def withinF (w : Word) (lo hi : Int) : Option Int := (numF w).bind fun n => if lo ≤ n ∧ n ≤ hi then some n else none

/-! Names. -/
def isLow (c : UInt8) : Bool := decide (97 ≤ c.toNat) && decide (c.toNat ≤ 122)
def nameC (c : UInt8) : Bool := isLow c || isDig c || c == 95
def nameF (w : Word) : Bool := !w.isEmpty && decide (w.length ≤ 40) && (w.head?.elim false isLow) && w.all nameC

/-! Lines and words. -/
def isBlank (c : UInt8) : Bool := c == 32 || c == 9
/-- The words behind what has been read of one. -/
def wordsG : Word → Word → List Word
  | cur, [] => if cur = [] then [] else [cur]
  | cur, c :: r => if isBlank c then (if cur = [] then wordsG [] r else cur :: wordsG [] r) else wordsG (cur ++ [c]) r
def wordsF (l : Word) : List Word := wordsG [] l
/-- The first line, and what is behind it. -/
def lineOf : Word → Word × Word
  | [] => ([], [])
  | c :: r => if c = 10 then ([], r) else ((c :: (lineOf r).1), (lineOf r).2)
theorem lineOf_le : ∀ t : Word, (lineOf t).2.length ≤ t.length
  | [] => Nat.le_refl _
  | c :: r => by
    have := lineOf_le r
    simp only [lineOf]
    split <;> simp <;> omega
theorem lineOf_lt (c : UInt8) (r : Word) : (lineOf (c :: r)).2.length < (c :: r).length := by
  have := lineOf_le r
  simp only [lineOf]
  split <;> simp <;> omega
def linesF : Nat → Word → List Word
  | 0, _ => []
  | _ + 1, [] => []
  | f + 1, c :: r => (lineOf (c :: r)).1 :: linesF f (lineOf (c :: r)).2

/-! What a line says. -/
def wTopic : Word := [116, 111, 112, 105, 99]
def wMost : Word := [109, 111, 115, 116]
def wSchedule : Word := [115, 99, 104, 101, 100, 117, 108, 101]
def wThread : Word := [116, 104, 114, 101, 97, 100]
def wOpen : Word := [111, 112, 101, 110]
def wClose : Word := [99, 108, 111, 115, 101]
def wPublish : Word := [112, 117, 98, 108, 105, 115, 104]
def wSubscribe : Word := [115, 117, 98, 115, 99, 114, 105, 98, 101]
def wFollow : Word := [102, 111, 108, 108, 111, 119]
def wPoll : Word := [112, 111, 108, 108]
def wEnd : Word := [101, 110, 100]
def wAll : Word := [97, 108, 108]
def wWriter : Word := [119, 114, 105, 116, 101, 114]
def wRange : Word := [114, 97, 110, 103, 101]
def wEach : Word := [101, 97, 99, 104]
/-- A form: the word, the kind, the least and the most of its numbers. -/
structure Form where
  word : Word
  kind : Int
  bounds : List (Int × Int)
  deriving Inhabited
def lo64 : Int := -9223372036854775808
def hi64 : Int := 9223372036854775807
def formsF : List Form := [⟨wOpen, 1, [(lo64, hi64), (0, 65536)]⟩, ⟨wClose, 2, [(lo64, hi64)]⟩, ⟨wPublish, 3, [(lo64, hi64), (lo64, hi64), (0, 65536)]⟩,
  ⟨wFollow, 5, [(lo64, hi64), (lo64, hi64)]⟩, ⟨wPoll, 6, [(0, 2147483647), (0, 2147483647)]⟩, ⟨wEnd, 7, [(0, 2147483647)]⟩]
def numsF : List Word → List (Int × Int) → Option (List Int)
  | [], [] => some []
  | w :: ws, b :: bs => (withinF w b.1 b.2).bind fun n => (numsF ws bs).map (n :: ·)
  | _, _ => none
def opnOf (k : Int) (l : List Int) : Opn := ⟨k, l.getD 0 0, l.getD 1 0, l.getD 2 0⟩
def subsF (w : List Word) : Option Opn :=
  match w with
  | [n, f] => if f = wAll then (numF n).map fun n => ⟨4, n, 0, 0⟩ else none
  | [n, f, b] => (numF n).bind fun n => (if f = wWriter then some 1 else if f = wRange then some 2 else if f = wEach then some 3 else none).bind fun c => (numF b).map fun b => ⟨4, n, b, c⟩
  | _ => none
def saidF (w : List Word) : Option Opn :=
  match w with
  | [] => none
  | x :: ws => if x = wSubscribe then subsF ws else (formsF.find? fun f => f.word = x).bind fun f => (numsF ws f.bounds).map (opnOf f.kind)
/-- An operation's line: the operation, how many times. -/
def opF (w : List Word) : Option (Opn × Nat) :=
  match saidF w with
  | some o => some (o, 1)
  | none => match w.getLast? with
    | some (120 :: r) => (withinF r 1 65536).bind fun n => (saidF w.dropLast).map fun o => (o, n.toNat)
    | _ => none
/-- A piece of a schedule. -/
def beforeStar : Word → Word
  | [] => []
  | c :: r => if c = 42 then [] else c :: beforeStar r
def behindStar : Word → Option Word
  | [] => none
  | c :: r => if c = 42 then some r else behindStar r
def pieceF (w : Word) : Option (Int × Nat) :=
  (withinF (beforeStar w) 0 2147483647).bind fun n => match behindStar w with
    | none => some (n, 1)
    | some r => (withinF r 1 65536).map fun k => (n, k.toNat)
def piecesF : List Word → Option (List (Int × Nat))
  | [] => some []
  | w :: ws => (pieceF w).bind fun p => (piecesF ws).map (p :: ·)
def spread : List (Int × Nat) → List Int
  | [] => []
  | p :: ps => List.replicate p.2 p.1 ++ spread ps
/-- What has been read: the script, and whether there was a most line. -/
structure Rdg where
  s : Scr
  has : Bool
  deriving Inhabited
def topicF (st : Rdg) (ws : List Word) : Int × Rdg :=
  match ws with
  | [n, s] => match numF n, withinF s 0 65536 with
    | some n, some s => if 65536 ≤ st.s.tops.length then (3, st) else (0, { st with s := { st.s with tops := st.s.tops ++ [⟨n, s⟩] } })
    | _, _ => (9, st)
  | _ => (9, st)
def mostF (st : Rdg) (ws : List Word) : Int × Rdg :=
  match ws with
  | [n] => match withinF n 0 1048576 with
    | some n => if st.has then (7, st) else (0, { s := { st.s with most := n }, has := true })
    | none => (9, st)
  | _ => (9, st)
def schedF (st : Rdg) (ws : List Word) : Int × Rdg :=
  if ws = [] then (9, st) else match piecesF ws with
    | some ps => if 1048576 < st.s.sch.length + (spread ps).length then (3, st) else (0, { st with s := { st.s with sch := st.s.sch ++ spread ps } })
    | none => (9, st)
def threadF (st : Rdg) (ws : List Word) : Int × Rdg :=
  match ws with
  | [n] => if nameF n then (if 64 ≤ st.s.thrs.length then (3, st) else if n ∈ st.s.thrs.map Thr.name then (7, st) else (0, { st with s := { st.s with thrs := st.s.thrs ++ [⟨n, []⟩] } })) else (9, st)
  | _ => (9, st)
def opsF (st : Rdg) (ws : List Word) : Int × Rdg :=
  match opF ws, st.s.thrs.getLast? with
  | some (o, k), some t => if 65536 < t.ops.length + k then (3, st) else (0, { st with s := { st.s with thrs := st.s.thrs.dropLast ++ [{ t with ops := t.ops ++ List.replicate k o }] } })
  | _, _ => (9, st)
/-- A line's words: the error's number, or what has been read then. -/
def lineF (st : Rdg) (w : List Word) : Int × Rdg :=
  match w with
  | [] => (0, st)
  | x :: ws => if x = wTopic then topicF st ws else if x = wMost then mostF st ws else if x = wSchedule then schedF st ws else if x = wThread then threadF st ws else opsF st (x :: ws)
/-- Does a line say nothing? -/
def mute (w : List Word) : Bool := match w with | [] => true | x :: _ => x.head? == some 35
/-- The lines from the n-th on. -/
def readG : Rdg → Nat → List Word → Int × Nat × Scr
  | st, _, [] => (0, 0, st.s)
  | st, n, l :: ls => if mute (wordsF l) then readG st (n + 1) ls else
      if (lineF st (wordsF l)).1 = 0 then readG (lineF st (wordsF l)).2 (n + 1) ls else ((lineF st (wordsF l)).1, n, Scr.empty)
/-- What a text is read as: the error, the line, the script. -/
def parseF (t : Word) : Int × Nat × Scr := readG ⟨Scr.empty, false⟩ 1 (linesF t.length t)

/-! The library's reader of a number. -/
theorem valD_cons (a : Nat) (c : UInt8) (r : Word) : valD a (c :: r) = valD (a * 10 + (c.toNat - 48)) r := by unfold valD; rw [List.foldl_cons]
theorem valD_nil (a : Nat) : valD a [] = a := by unfold valD; rw [List.foldl_nil]
theorem valD_ge (D : Word) : ∀ a : Nat, a ≤ valD a D := by
  induction D with
  | nil => intro a; rw [valD_nil]; exact Nat.le_refl _
  | cons c r ih =>
    intro a
    have h := ih (a * 10 + (c.toNat - 48))
    rw [valD_cons]
    omega
theorem isDig_iff (c : UInt8) : isDig c = true ↔ 48 ≤ c.toNat ∧ c.toNat ≤ 57 := by simp [isDig]
theorem parseUintM_good (M : Nat) (hM : M = 18446744073709551615) (D : Word) : ∀ a : Nat, D.all isDig = true → a ≤ M → Lib.parseUintM M a D = if valD a D ≤ M then .ok (valD a D) else .range := by
  induction D with
  | nil =>
    intro a _ ha
    rw [valD_nil, if_pos ha]
    simp only [Lib.parseUintM]
  | cons c r ih =>
    intro a h ha
    simp only [List.all_cons, Bool.and_eq_true] at h
    have hc := (isDig_iff c).1 h.1
    have hg := valD_ge r (a * 10 + (c.toNat - 48))
    rw [valD_cons]
    simp only [Lib.parseUintM]
    rw [if_pos hc]
    by_cases h1 : 1844674407370955162 ≤ a
    · rw [if_pos h1, if_neg (by omega)]
    · rw [if_neg h1]
      by_cases h2 : M < a * 10 + (c.toNat - 48)
      · rw [if_pos h2, if_neg (by omega)]
      · rw [if_neg h2, ih _ h.2 (by omega)]
theorem parse_good {l : Word} (h : goodNum l = true) : Lib.parseIntB 64 l = if in64B (valW l) = true then .ok (valW l) else .range := by
  unfold goodNum at h
  simp only [Bool.and_eq_true, Bool.not_eq_true'] at h
  obtain ⟨⟨h1, h2⟩, h3⟩ := h
  have hp := parseUintM_good 18446744073709551615 rfl (digW l) 0 h3 (by omega)
  have hne : digW l ≠ [] := by intro e; rw [e] at h1; simp at h1
  cases l with
  | nil => exact absurd rfl hne
  | cons c r =>
    unfold Lib.parseIntB
    by_cases hc : c = 45
    · subst hc
      have hn : negW (45 :: r) = true := by simp [negW]
      have hd : digW (45 :: r) = r := by simp [digW, hn]
      rw [hd] at hp hne
      have hv : valW (45 :: r) = -(valD 0 r : Int) := by simp [valW, hn, hd]
      rw [hv]
      generalize valD 0 r = u at *
      simp only [show (45 : UInt8).toNat = 45 from rfl, or_true, if_true, Lib.parseUintB, if_neg hne]
      rw [show 2 ^ 64 - 1 = 18446744073709551615 from rfl, hp]
      simp only [in64B, Bool.and_eq_true, decide_eq_true_eq, show (2 : Nat) ^ (64 - 1) = 9223372036854775808 from rfl]
      by_cases hu : u ≤ 18446744073709551615
      · rw [if_pos hu]
        simp only [not_true_eq_false, false_and, if_false, true_and]
        repeat' split
        all_goals first | rfl | (exfalso; omega)
      · rw [if_neg hu]
        show Lib.NumEnd.range = _
        rw [if_neg (by omega)]
    · have hn : negW (c :: r) = false := by simp [negW, hc]
      have hd : digW (c :: r) = c :: r := by simp [digW, hn]
      rw [hd] at hp hne h3
      have hv : valW (c :: r) = (valD 0 (c :: r) : Int) := by simp [valW, hn, hd]
      rw [hv]
      generalize valD 0 (c :: r) = u at *
      simp only [List.all_cons, Bool.and_eq_true] at h3
      have hcd := (isDig_iff c).1 h3.1
      have h43 : ¬ (c.toNat = 43 ∨ c.toNat = 45) := by omega
      have h45 : ¬ c.toNat = 45 := by omega
      simp only [if_neg h43, Lib.parseUintB, if_neg hne]
      rw [show 2 ^ 64 - 1 = 18446744073709551615 from rfl, hp]
      simp only [in64B, Bool.and_eq_true, decide_eq_true_eq, show (2 : Nat) ^ (64 - 1) = 9223372036854775808 from rfl]
      by_cases hu : u ≤ 18446744073709551615
      · rw [if_pos hu]
        simp only [h45, not_false_eq_true, true_and, false_and, if_false]
        repeat' split
        all_goals first | rfl | (exfalso; omega)
      · rw [if_neg hu]
        show Lib.NumEnd.range = _
        rw [if_neg (by omega)]
end Go.Proofs.YtdmhlhoimaeacaaDoor
