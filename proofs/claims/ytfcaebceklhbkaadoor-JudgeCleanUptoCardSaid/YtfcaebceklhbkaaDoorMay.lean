/-
  The contract of judge.may: may a call come next, when some are done?
-/
import Derived.Test.YtfcaebceklhbkaaDoorSameA
import Derived.Laws.BitsLemmas
namespace Go.Proofs.YtfcaebceklhbkaaDoor
open Go.RowKit
set_option linter.unusedVariables false

/-- A call: its thread, when it began and ended, its operation, its answer. -/
structure Cl where
  t : Int
  b : Int
  e : Int
  k : Int
  x : Int
  y : Int
  z : Int
  ok : Bool
  n : Int
  lo : Option Addr
  ln : Nat
  lc : Nat
deriving Inhabited
def Cl.cells (c : Cl) : List Value := [.int .i64 c.t, .int .i64 c.b, .int .i64 c.e, .int .i64 c.k, .int .i64 c.x, .int .i64 c.y, .int .i64 c.z, .bool c.ok, .int .i64 c.n, .slice c.lo c.ln c.lc]

/-- A slice of calls, as it reads. -/
def CallRow (w : World) (ao : Option Addr) (S : List Cl) : Prop :=
  S = [] ∨ ∃ g o, ao = some ⟨g, o, none⟩ ∧ ∀ i, i < S.length → ∀ j, j < 10 → w.cell? ⟨g, o + i * 10 + j, none⟩ = (S.getD i default).cells[j]?
theorem CallRow.below {w w' : World} {ao : Option Addr} {S : List Cl} (h : CallRow w ao S) (hb : Below w.heap.size w w') : CallRow w' ao S := by
  rcases h with h | ⟨g, o, e, hc⟩
  · exact .inl h
  · refine .inr ⟨g, o, e, fun i hi j hj => ?_⟩
    have h1 := hc i hi j hj
    obtain ⟨v, hv⟩ : ∃ v, (S.getD i default).cells[j]? = some v := ⟨_, List.getElem?_eq_getElem (by simpa [Cl.cells] using hj)⟩
    rw [hv] at h1 ⊢
    exact (hb.cell (p := ⟨g, o + i * 10 + j, none⟩) (World.block_lt_of_cell? w _ h1)).trans h1

/-- May call i come next, when D is done? -/
def mayTo (S : List Cl) (D : Nat → Bool) (i : Nat) : Nat → Bool
  | 0 => true
  | k + 1 => mayTo S D i k && (D k || !decide ((S.getD k default).e < (S.getD i default).b))
def mayF (S : List Cl) (D : Nat → Bool) (i : Nat) : Bool := mayTo S D i S.length
theorem mayTo_false {S : List Cl} {D : Nat → Bool} {i k m : Nat} (h : mayTo S D i k = false) (hk : k ≤ m) : mayTo S D i m = false := by
  induction m with
  | zero => obtain rfl : k = 0 := by omega
            exact h
  | succ m ih =>
    rcases Nat.lt_or_ge m k with h1 | h1
    · obtain rfl : k = m + 1 := by omega
      exact h
    · simp [mayTo, ih h1]

theorem CallRow.at {w : World} {g o : Nat} {S : List Cl} {i : Nat} (h : ∀ j, j < 10 → w.cell? ⟨g, o + i * 10 + j, none⟩ = (S.getD i default).cells[j]?) :
    w.cell? ⟨g, o + i * 10, none⟩ = some (.int .i64 (S.getD i default).t) ∧ w.cell? ⟨g, o + i * 10 + 1, none⟩ = some (.int .i64 (S.getD i default).b) ∧ w.cell? ⟨g, o + i * 10 + 2, none⟩ = some (.int .i64 (S.getD i default).e) ∧
    w.cell? ⟨g, o + i * 10 + 3, none⟩ = some (.int .i64 (S.getD i default).k) ∧ w.cell? ⟨g, o + i * 10 + 4, none⟩ = some (.int .i64 (S.getD i default).x) ∧ w.cell? ⟨g, o + i * 10 + 5, none⟩ = some (.int .i64 (S.getD i default).y) ∧
    w.cell? ⟨g, o + i * 10 + 6, none⟩ = some (.int .i64 (S.getD i default).z) ∧ w.cell? ⟨g, o + i * 10 + 7, none⟩ = some (.bool (S.getD i default).ok) ∧ w.cell? ⟨g, o + i * 10 + 8, none⟩ = some (.int .i64 (S.getD i default).n) ∧
    w.cell? ⟨g, o + i * 10 + 9, none⟩ = some (.slice (S.getD i default).lo (S.getD i default).ln (S.getD i default).lc) :=
  ⟨h 0 (by omega), h 1 (by omega), h 2 (by omega), h 3 (by omega), h 4 (by omega), h 5 (by omega), h 6 (by omega), h 7 (by omega), h 8 (by omega), h 9 (by omega)⟩

theorem below_drewN {B : Nat} {a w : World} (h : Below B a w) (n : Nat) : Below B a (w.drewN n) := h.trans ⟨rfl, rfl, rfl, Nat.le_refl _, fun _ _ => rfl⟩

set_option maxRecDepth 100000 in
set_option maxHeartbeats 4000000 in
theorem may_walk (ao : Option Addr) (n c i : Nat) (S : List Cl) (D : Nat → Bool) (p : Value) (w : World) (h0 : CallRow w ao S) (hSn : S.length = n) (hn : n ≤ 2000000) (hi : i < n)
    (hD : ∀ W k, Below w.heap.size w W → k < n → Calls Tryd.prog 61 #[.int .i64 k, p] W fun e w' => e = .returned (.bool (D k)) ∧ w' = W) :
    Calls Tryd.prog 50 #[.slice ao n c, .int .i64 i, .func (.func 61) #[] #[p]] w fun e w' => e = .returned (.bool (mayF S D i)) ∧ Below w.heap.size w w' := by
  obtain ⟨g, o, rfl, hc⟩ : ∃ g o, ao = some ⟨g, o, none⟩ ∧ ∀ i, i < n → ∀ j, j < 10 → w.cell? ⟨g, o + i * 10 + j, none⟩ = (S.getD i default).cells[j]? := by
    rcases h0 with h | ⟨g, o, h1, h2⟩
    · subst h; simp at hSn; omega
    · exact ⟨g, o, h1, by rw [← hSn]; exact h2⟩
  have HC := Lib.hid (fun k hk => CallRow.at (hc k hk))
  have HD := Lib.hid hD
  have HM : Hid (mayF S D i = mayTo S D i n) := by rw [← hSn]; rfl
  clear h0 hc hD hSn
  generalize hN : w.heap.size = N at *
  have HN := Lib.hid hN
  clear hN
  go_enter Tryd.func50, Tryd.ntmps50
  go_wp2_with fail
  go_loopw [11] (fun kv wr => ∃ k : Nat, k ≤ n ∧ kv = .int .i64 k ∧ mayTo S D i k = true ∧ Below N w wr) (fun kv _ => n - (intOf kv).toNat)
  case atStart => exact ⟨0, by omega, rfl, rfl, Below.refl _ _⟩
  case round =>
    obtain ⟨k, hk, rfl, hm, hb⟩ := hrel
    have HMK := Lib.hid hm
    have HB := Lib.hid hb
    by_cases hlt : k < n
    · have hsz : N ≤ wr.heap.size := by have := hb.size; have := HN.out; omega
      have hget : ∀ {q : Nat} {v : Value}, w.cell? ⟨g, q, none⟩ = some v → wr.cell? ⟨g, q, none⟩ = some v ∧ ∀ o1, (wr.alloc o1).cell? ⟨g, q, none⟩ = some v := by
        intro q v h
        have h1 : wr.cell? ⟨g, q, none⟩ = some v := (hb.cell (p := ⟨g, q, none⟩) (by rw [← HN.out]; exact World.block_lt_of_cell? w _ h)).trans h
        exact ⟨h1, fun o1 => (World.cell?_of_block (Below.heap_alloc _ _ _ (World.block_lt_of_cell? _ _ h1))).trans h1⟩
      obtain ⟨h0, h1, h2, h3, h4, h5, h6, h7, h8, h9⟩ := HC.out k hlt
      have b1 := (hget (HC.out i hi).2.1).2
      replace h0 := (hget h0).1
      replace h1 := (hget h1).1
      replace h2 := (hget h2).1
      replace h3 := (hget h3).1
      replace h4 := (hget h4).1
      replace h5 := (hget h5).1
      replace h6 := (hget h6).1
      replace h7 := (hget h7).1
      replace h8 := (hget h8).1
      replace h9 := (hget h9).1
      have HNX : Hid (mayTo S D i (k + 1) = (mayTo S D i k && (D k || !decide ((S.getD k default).e < (S.getD i default).b)))) := rfl
      have HST := Lib.hid (fun h => mayTo_false (S := S) (D := D) (i := i) (k := k + 1) (m := n) h (by omega))
      have HDK := Lib.hid (fun W hW => HD.out W k hW hlt)
      clear hget hm hb
      generalize (S.getD i default).b = bi at *
      generalize S.getD k default = s at *
      obtain ⟨st, sb, se, sk, sx, sy, sz, sok, sn, slo, sln, slc⟩ := s
      simp only at h0 h1 h2 h3 h4 h5 h6 h7 h8 h9 HNX
      generalize D k = dk at *
      cases dk with
      | true =>
        have HX := Lib.hid (show mayTo S D i (k + 1) = true from by rw [hid_eq HNX, hid_eq HMK]; rfl)
        clear HNX HST HMK
        go_wp2_with (go_quiet (first | (go_at_call 61; refine Calls.quiet_of_same (HDK.out _ ?_); exact below_drewN (HB.out.alloc hsz _) _)))
        go_roundw
        case rel => exact ⟨k + 1, by omega, by go_num, HX.out, below_drewN (HB.out.alloc hsz _) _⟩
        case measure => simp [intOf]; omega
      | false =>
        by_cases hlt2 : se < bi
        · have HX := Lib.hid (show mayTo S D i n = false from HST.out (by rw [hid_eq HNX]; simp [hlt2]))
          have hd : decide (se < bi) = true := by simp [hlt2]
          clear HNX HST HMK
          go_wp2_with (go_quiet (first | (go_at_call 61; refine Calls.quiet_of_same (HDK.out _ ?_); exact below_drewN (HB.out.alloc hsz _) _)))
          go_ret
          exact ⟨by rw [hid_eq HM, HX.out]; rfl, below_drewN (HB.out.alloc hsz _) _⟩
        · have HX := Lib.hid (show mayTo S D i (k + 1) = true from by rw [hid_eq HNX, hid_eq HMK]; simp [hlt2])
          have hd : decide (se < bi) = false := by simp [hlt2]
          clear HNX HST HMK hlt2
          go_wp2_with (go_quiet (first | (go_at_call 61; refine Calls.quiet_of_same (HDK.out _ ?_); exact below_drewN (HB.out.alloc hsz _) _)))
          go_roundw
          case rel => exact ⟨k + 1, by omega, by go_num, HX.out, below_drewN (HB.out.alloc hsz _) _⟩
          case measure => simp [intOf]; omega
    · obtain rfl : k = n := by omega
      clear hm hb
      go_wp2_with fail
      go_ret
      exact ⟨by rw [hid_eq HM, HMK.out]; rfl, HB.out⟩

theorem wraps_i64 (n : Int) (h₀ : 0 ≤ n) (h₁ : n < 2 ^ 63) : IntKind.i64.wrap n = n := by rw [IntKind.wrap_i64]; omega
theorem bit_and (d k : Nat) (hd : d < 8192) (hk : k < 64) : (bits .and .i64 ((d : Int) / 2 ^ min k 64) 1 == 1) = d.testBit k := by
  have e : ((d : Int) / 2 ^ min k 64) = ((d / 2 ^ k : Nat) : Int) := by rw [Nat.min_eq_left (by omega)]; norm_cast
  have hlt : d / 2 ^ k < 2 ^ 63 := Nat.lt_of_le_of_lt (Nat.div_le_self _ _) (by omega)
  have h := (bits_nat .i64 63 (by decide) wraps_i64 (d / 2 ^ k) 1 hlt (by decide)).1
  rw [e, show (1 : Int) = ((1 : Nat) : Int) from rfl, h, Nat.testBit]
  rw [Nat.and_comm, Nat.shiftRight_eq_div_pow, Nat.one_and_eq_mod_two]
  have : d / 2 ^ k % 2 < 2 := Nat.mod_lt _ (by omega)
  rcases (by omega : d / 2 ^ k % 2 = 0 ∨ d / 2 ^ k % 2 = 1) with h | h <;> simp [h]
set_option maxRecDepth 100000 in
theorem bit_walk (d k : Nat) (p : Addr) (w : World) (hp : w.cell? p = some (.int .i64 d)) (hd : d < 8192) (hk : k < 64) :
    Calls Tryd.prog 61 #[.int .i64 k, .pointer (some p)] w fun e w' => e = .returned (.bool (d.testBit k)) ∧ w' = w := by
  have hb := bit_and d k hd hk
  rw [Nat.min_eq_left (by omega)] at hb
  go_enter Tryd.func61, Tryd.ntmps61
  go_wp2_with fail
  go_ret
  exact ⟨by rw [← hb]; rfl, rfl⟩
end Go.Proofs.YtfcaebceklhbkaaDoor
