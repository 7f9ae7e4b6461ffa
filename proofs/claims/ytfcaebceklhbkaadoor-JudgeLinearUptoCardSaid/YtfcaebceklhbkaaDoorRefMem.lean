/-
  The document's search: sameState, may, and its memory.
-/
import Derived.Test.YtfcaebceklhbkaaDoorLeast
import Derived.Test.YtfcaebceklhbkaaDoorPlayed
import Derived.Lib.OwnKind
import Derived.BigRegion
namespace Go.Proofs.YtfcaebceklhbkaaDoor
open Go.RowKit
set_option linter.unusedVariables false

theorem getD_eq_of {l m : List Int} (h : l.length = m.length) (hh : ∀ i, i < l.length → l.getD i 0 = m.getD i 0) : l = m := by
  apply List.ext_getElem h
  intro i h1 h2
  have := hh i h1
  simpa [List.getD, h1, h2] using this

set_option maxRecDepth 100000 in
set_option maxHeartbeats 4000000 in
theorem sameState_walk (a b : Value) (l m : List Int) (w : World) (ha : Nums w a l) (hb : Nums w b m) (hl : l.length ≤ 4000000) (hm : m.length ≤ 4000000) :
    Calls Tryd.prog 62 #[a, b] w fun e w' => e = .returned (.bool (decide (l = m))) ∧ Below w.heap.size w w' := by
  obtain ⟨ao, ac, rfl⟩ := nums_len ha
  obtain ⟨bo, bc, rfl⟩ := nums_len hb
  have HA := Lib.hid ha
  have HB := Lib.hid hb
  obtain ⟨n, hn⟩ : ∃ n, l.length = n := ⟨_, rfl⟩
  obtain ⟨k, hk⟩ : ∃ k, m.length = k := ⟨_, rfl⟩
  have HN := Lib.hid hn
  have HK := Lib.hid hk
  clear ha hb
  rw [hn] at HA hl ⊢
  rw [hk] at HB hm ⊢
  clear hn hk
  go_enter Tryd.func62, Tryd.ntmps62
  by_cases hnk : n = k
  · subst hnk
    go_wp2_with fail
    go_loopw [5] (fun iv wr => ∃ i : Nat, i ≤ n ∧ iv = .int .i64 i ∧ Below w.heap.size w wr ∧ ∀ j, j < i → l.getD j 0 = m.getD j 0) (fun iv _ => n - (intOf iv).toNat)
    case atStart => exact ⟨0, by omega, rfl, Below.refl _ _, fun j hj => by omega⟩
    case round =>
      obtain ⟨i, hi, rfl, hlow, hsame⟩ := hrel
      have HS := Lib.hid hsame
      have HL := Lib.hid hlow
      by_cases hlt : i < n
      · obtain ⟨_, ga, oa, rfl, hca⟩ := nums_cell HA.out hlt
        obtain ⟨_, gb, ob, rfl, hcb⟩ := nums_cell HB.out hlt
        have h1 := (hlow.cell (p := ⟨ga, oa + i, none⟩) (World.block_lt_of_cell? w _ hca)).trans hca
        have h2 := (hlow.cell (p := ⟨gb, ob + i, none⟩) (World.block_lt_of_cell? w _ hcb)).trans hcb
        have HEQ : Hid (l.getD i 0 = l.getD i 0 ∧ m.getD i 0 = m.getD i 0) := ⟨rfl, rfl⟩
        clear hlow hca hcb hsame
        by_cases hab : l.getD i 0 = m.getD i 0
        · have HS2 : Hid (∀ j, j < i + 1 → l.getD j 0 = m.getD j 0) := Lib.hid (fun j hj => by
            rcases Nat.lt_or_ge j i with h | h
            · exact HS.out j h
            · obtain rfl : j = i := by omega
              exact hab)
          rw [← hab] at h2
          clear hab HEQ
          generalize l.getD i 0 = x at *
          go_wp2_with (go_quiet (fail))
          go_roundw
          case rel => exact ⟨i + 1, by omega, by go_num, below_drewN HL.out _, HS2.out⟩
          case measure => simp [intOf]; omega
        · have HD : Hid (decide (l = m) = false) := Lib.hid (by
            rw [decide_eq_false_iff_not]
            intro e
            rw [e] at hab
            exact hab rfl)
          generalize l.getD i 0 = x at *
          generalize m.getD i 0 = y at *
          have hxy : (x == y) = false := by rw [beq_eq_false_iff_ne]; exact hab
          clear hab HEQ
          go_wp2_with (go_quiet (fail))
          go_ret
          exact ⟨by rw [HD.out]; rfl, below_drewN HL.out _⟩
      · obtain rfl : i = n := by omega
        have HD : Hid (decide (l = m) = true) := Lib.hid (by
          rw [decide_eq_true_eq]
          exact getD_eq_of (by rw [HN.out, HK.out]) (by rw [HN.out]; exact hsame))
        clear hlow hsame
        go_wp2_with fail
        go_ret
        exact ⟨by rw [HD.out]; rfl, HL.out⟩
  · have HD : Hid (decide (l = m) = false) := Lib.hid (by
      rw [decide_eq_false_iff_not]
      intro e
      apply hnk
      rw [← HN.out, ← HK.out, e])
    have hne : ((n : Int) == (k : Int)) = false := by rw [beq_eq_false_iff_ne]; omega
    go_wp2_with fail
    go_ret
    exact ⟨by rw [HD.out]; rfl, Below.refl _ _⟩

theorem shr_fdiv (d k : Nat) : (d : Int) / 2 ^ k = ((d >>> k : Nat) : Int) := by
  rw [Nat.shiftRight_eq_div_pow]
  norm_cast
theorem shr_bit (d k : Nat) (b : Bool) (h : d.testBit k = b) : (d >>> k) % 2 = if b then 1 else 0 := by
  rw [Nat.testBit, Nat.and_comm, Nat.and_one_is_mod] at h
  cases b <;> simp at h ⊢ <;> omega

set_option maxRecDepth 100000 in
set_option maxHeartbeats 4000000 in
theorem refMay_walk (o : Int) (sb : Nat) (ao : Option Addr) (n c d i : Nat) (nv : Value) (S : List Cl) (w : World) (hsb : w.heap[sb]? = some (.cells #[.int .i64 o, .slice ao n c, nv] 99 (0, 0))) (h0 : CallRow w ao S) (hSn : S.length = n) (hn : n ≤ 12) (hi : i < n) (hd : d < 8192) :
    Calls Tryd.prog 63 #[.pointer (some ⟨sb, 0, none⟩), .int .i64 d, .int .i64 i] w fun e w' => e = .returned (.bool (mayF S d.testBit i)) ∧ Below w.heap.size w w' := by
  obtain ⟨g, p, rfl, hc⟩ : ∃ g o, ao = some ⟨g, o, none⟩ ∧ ∀ i, i < n → ∀ j, j < 10 → w.cell? ⟨g, o + i * 10 + j, none⟩ = (S.getD i default).cells[j]? := by
    rcases h0 with h | ⟨g, o, h1, h2⟩
    · subst h; simp at hSn; omega
    · exact ⟨g, o, h1, by rw [← hSn]; exact h2⟩
  have HC := Lib.hid (fun k hk => CallRow.at (hc k hk))
  have HM : Hid (mayF S d.testBit i = mayTo S d.testBit i n) := by rw [← hSn]; rfl
  have HSB := Lib.hid hsb
  clear h0 hc hSn hsb
  go_enter Tryd.func63, Tryd.ntmps63
  go_wp2_with fail
  go_loopw [7] (fun kv wr => ∃ k : Nat, k ≤ n ∧ kv = .int .i64 k ∧ mayTo S d.testBit i k = true ∧ Below w.heap.size w wr) (fun kv _ => n - (intOf kv).toNat)
  case atStart => exact ⟨0, by omega, rfl, rfl, Below.refl _ _⟩
  case round =>
    obtain ⟨k, hk, rfl, hm, hb⟩ := hrel
    have HMK := Lib.hid hm
    have HB := Lib.hid hb
    have hsbr := (hb.block sb (Array.getElem?_eq_some_iff.1 HSB.out).1).trans HSB.out
    have s1 := (cell_of hsbr 1).trans rfl
    clear hsbr
    by_cases hlt : k < n
    · have hget : ∀ {q : Nat} {v : Value}, w.cell? ⟨g, q, none⟩ = some v → wr.cell? ⟨g, q, none⟩ = some v := fun {q v} h => (hb.cell (p := ⟨g, q, none⟩) (World.block_lt_of_cell? w _ h)).trans h
      have b1 := hget (HC.out i hi).2.1
      have h2 := hget (HC.out k hlt).2.2.1
      have HNX : Hid (mayTo S d.testBit i (k + 1) = (mayTo S d.testBit i k && (d.testBit k || !decide ((S.getD k default).e < (S.getD i default).b)))) := rfl
      have HST := Lib.hid (fun h => mayTo_false (S := S) (D := d.testBit) (i := i) (k := k + 1) (m := n) h (by omega))
      have HBIT := Lib.hid (shr_bit d k (d.testBit k) rfl)
      have hmin : min k 64 = k := by omega
      have hfd := shr_fdiv d k
      have hq0 : 0 ≤ ((d >>> k : Nat) : Int) := Int.natCast_nonneg _
      clear hget hm hb
      generalize (S.getD i default).b = bi at *
      generalize (S.getD k default).e = se at *
      generalize d.testBit k = dk at *
      generalize d >>> k = q at *
      cases dk with
      | true =>
        have hq2 : q % 2 = 1 := HBIT.out
        have hq : ((q : Int).tmod 2) = 1 := by rw [Int.tmod_eq_emod_of_nonneg hq0]; omega
        have hq' : ((q : Int) % 2) = 1 := by omega
        have HX := Lib.hid (show mayTo S d.testBit i (k + 1) = true from by rw [hid_eq HNX, HMK.out]; rfl)
        clear HNX HST HBIT hq2
        go_wp2_with (go_quiet (fail))
        go_roundw
        case rel => exact ⟨k + 1, by omega, by go_num, HX.out, below_drewN HB.out _⟩
        case measure => simp [intOf]; omega
      | false =>
        have hq2 : q % 2 = 0 := HBIT.out
        have hq : ((q : Int).tmod 2) = 0 := by rw [Int.tmod_eq_emod_of_nonneg hq0]; omega
        have hq' : ((q : Int) % 2) = 0 := by omega
        by_cases hlt2 : se < bi
        · have HX := Lib.hid (show mayTo S d.testBit i n = false from HST.out (by rw [hid_eq HNX]; simp [hlt2]))
          have hd2 : decide (se < bi) = true := by simp [hlt2]
          clear HNX HST HBIT hq2
          go_wp2_with (go_quiet (fail))
          go_ret
          exact ⟨by rw [hid_eq HM, HX.out]; rfl, below_drewN HB.out _⟩
        · have HX := Lib.hid (show mayTo S d.testBit i (k + 1) = true from by rw [hid_eq HNX, HMK.out]; simp [hlt2])
          have hd2 : decide (se < bi) = false := by simp [hlt2]
          clear HNX HST HBIT hq2
          go_wp2_with (go_quiet (fail))
          go_roundw
          case rel => exact ⟨k + 1, by omega, by go_num, HX.out, below_drewN HB.out _⟩
          case measure => simp [intOf]; omega
    · obtain rfl : k = n := by omega
      clear hm hb
      go_wp2_with fail
      go_ret
      exact ⟨by rw [hid_eq HM, HMK.out]; rfl, HB.out⟩
end Go.Proofs.YtfcaebceklhbkaaDoor
