/-
  The contract of judge.Linear, over a contract of Do.
-/
import Derived.Test.YtfcaebceklhbkaaDoorOnStep
import Derived.OwnWalk
namespace Go.Proofs.YtfcaebceklhbkaaDoor
open Go.RowKit Go.Maps
set_option linter.unusedVariables false

theorem on_walk (w0 : World) (o : Int) (S : List Cl) (sb m : Nat) (ao : Option Addr) (n co : Nat) (hn : n ≤ 12) (hSn : S.length = n) (hC : CallRow w0 ao S) (hT : Tab w0) (hDo : DoOk o) (hSf : ∀ c ∈ S, Fits c.x ∧ Fits c.y ∧ c.ln ≤ 9223372036854775807) :
    ∀ (r : Nat) (W : World) (ov : Value) (ord : List Nat) (f : Lit → Option (DataW Unit)) (cnt d : Nat) (v : Value) (s : List Int), OnIn w0 o S sb m ao n co r W ov ord f cnt d v s →
      Calls Tryd.prog 48 #[.pointer (some ⟨sb, 0, none⟩), .int .i64 (d : Int), v] W (OnPost w0.heap.size o S sb m (.slice ao n co) W ov ord cnt r d s)
  | 0, W, ov, ord, f, cnt, d, v, s, h => on_last w0.heap.size o S sb m ao n co W ov ord f cnt d v s hn h.st h.dead (by have := h.left; omega)
  | r + 1, W, ov, ord, f, cnt, d, v, s, h => on_step w0 o S sb m ao n co hn hSn hC hT hDo hSf r (fun W ov ord f cnt d v s h => on_walk w0 o S sb m ao n co hn hSn hC hT hDo hSf r W ov ord f cnt d v s h) W ov ord f cnt d v s h

/-- What Linear answers. -/
def linF (o : Int) (S : List Cl) (s : List Int) : Option (List Nat) × Int :=
  if 12 < S.length then (none, 1) else if o < 1 ∨ 5 < o then (none, 2) else (srch o S S.length 0 s, 0)
/-- An order's row of the call's own, and what is told of it. -/
def DoneL (r : Option (List Nat) × Int) (w : World) (e : Ending) (w' : World) : Prop :=
  Below w.heap.size w w' ∧ match r.1 with
    | none => e = .returned (.tuple #[.slice none 0 0, .bool false, .int .i64 r.2])
    | some l => ∃ v, e = .returned (.tuple #[v, .bool true, .int .i64 r.2]) ∧ w'.ownsRow w.heap.size 3 1 v l.length (ordV l)

theorem pow_13 (n : Nat) (h : n ≤ 12) : 0 + 13 ^ n ≤ 13 ^ 12 := by
  rw [Nat.zero_add]
  exact Nat.pow_le_pow_right (by omega) h

set_option maxRecDepth 100000 in
set_option maxHeartbeats 8000000 in
theorem linear_walk (o : Int) (S : List Cl) (ao : Option Addr) (n co : Nat) (v : Value) (s : List Int) (w : World) (hSn : S.length = n) (hC : CallRow w ao S) (hT : Tab w) (hDo : DoOk o) (hSf : ∀ c ∈ S, Fits c.x ∧ Fits c.y ∧ c.ln ≤ 9223372036854775807)
    (hn : n ≤ 4000000) (hs : Nums w v s) (hsf : ∀ x ∈ s, Fits x) (hsl : s.length ≤ 2000000) :
    Calls Tryd.prog 16 #[.int .i64 o, v, .slice ao n co] w (DoneL (linF o S s) w) := by
  have HL : Hid (linF o S s = if 12 < n then (none, 1) else if o < 1 ∨ 5 < o then (none, 2) else (srch o S n 0 s, 0)) := by rw [← hSn]; rfl
  by_cases h12 : 12 < n
  · have h12' : (n : Int) > 12 := by omega
    have HX := Lib.hid (show linF o S s = (none, 1) from by rw [hid_eq HL, if_pos h12])
    clear HL hSn hC hT hDo hSf hs hsf
    go_enter Tryd.func16, Tryd.ntmps16
    go_wp2_with fail
    go_ret3
    rw [HX.out]
    exact ⟨Below.refl _ _, rfl⟩
  · have h12' : ¬ (n : Int) > 12 := by omega
    by_cases ho1 : o < 1
    · have HX := Lib.hid (show linF o S s = (none, 2) from by rw [hid_eq HL, if_neg h12, if_pos (.inl ho1)])
      clear HL hSn hC hT hDo hSf hs hsf
      go_enter Tryd.func16, Tryd.ntmps16
      go_wp2_with fail
      go_ret3
      rw [HX.out]
      exact ⟨Below.refl _ _, rfl⟩
    · by_cases ho5 : 5 < o
      · have HX := Lib.hid (show linF o S s = (none, 2) from by rw [hid_eq HL, if_neg h12, if_pos (.inr ho5)])
        have ho5' : o > 5 := ho5
        clear HL hSn hC hT hDo hSf hs hsf
        go_enter Tryd.func16, Tryd.ntmps16
        go_wp2_with fail
        go_ret3
        rw [HX.out]
        exact ⟨Below.refl _ _, rfl⟩
      · have HX := Lib.hid (show linF o S s = (srch o S n 0 s, 0) from by rw [hid_eq HL, if_neg h12, if_neg (by omega)])
        have HON := Lib.hid (on_walk w o S (w.heap.size + 1) w.heap.size ao n co (by omega) hSn hC hT hDo hSf n)
        have hmk := run_makeMap (P := Tryd.prog) 92 w
        have HIN : Hid (OnIn w o S (w.heap.size + 1) w.heap.size ao n co n ((w.alloc (.map #[] 0)).alloc (.cells #[.int .i64 o, .slice ao n co, .slice none 0 0, .map (some w.heap.size)] 94)) (.slice none 0 0) [] (fun _ => none) 0 0 v s) := by
          have hb := below_two w (.map #[] 0) (.cells #[.int .i64 o, .slice ao n co, .slice none 0 0, .map (some w.heap.size)] 94)
          have hsb := heap_alloc_new (w.alloc (.map #[] 0)) (.cells #[.int .i64 o, .slice ao n co, .slice none 0 0, .map (some w.heap.size)] 94)
          rw [show (w.alloc (.map #[] 0)).heap.size = w.heap.size + 1 by simp] at hsb
          refine ⟨hb, ⟨hsb, World.ownsRow_nil _ _ _ _, (mapF_new w 9 (plainElem Tryd.prog 3)).alloc _, by simp [Value.ownBlock], by simp [Value.ownBlock], by omega, by omega, by omega⟩, ?_, ?_, ?_, ?_, ?_, hsf, by omega, pow_13 n (by omega)⟩
          · intro kl x hx
            cases hx
          · simp
          · exact pc_zero n
          · exact Nat.two_pow_pos n
          · obtain ⟨ao', c', e, h⟩ := hs.below hb
            refine ⟨ao', c', e, ?_⟩
            rcases h with h | ⟨g, p, e1, h⟩
            · exact .inl h
            · cases s with
              | nil => exact .inl rfl
              | cons y s =>
                obtain ⟨ao2, c2, e2, h2⟩ := hs
                rcases h2 with h2 | ⟨g2, p2, e3, h2⟩
                · cases h2
                · rw [e] at e2
                  cases e2
                  rw [e1] at e3
                  cases e3
                  have hlt := World.block_lt_of_cell? w _ (h2 0 (by simp))
                  simp only at hlt
                  exact .inr ⟨g, p, e1, by omega, by omega, by simp [Value.ownBlock], h⟩
        clear HL hSn hC hT hDo hSf hs hsf
        go_enter Tryd.func16, Tryd.ntmps16
        go_wp2_with fail
        generalize (w.alloc (.map #[] 0)).alloc (.cells #[.int .i64 o, .slice ao n co, .slice none 0 0, .map (some w.heap.size)] 94) = w1 at *
        refine (HON.out _ _ _ _ _ _ _ _ HIN.out).mono ?_
        rintro e w2 ⟨ov, ord, f, hst, hdead, hfr, hres⟩
        have HLOW := Lib.hid (HIN.out.low.trans (hfr.low HIN.out.st))
        have hsbk := hst.sbk
        have HRW := Lib.hid hst.row
        clear hdead hfr HON hmk
        rcases hres with ⟨l, hl, rfl, rfl⟩ | ⟨hl, rfl, rfl⟩
        · have HRES := Lib.hid hl
          clear hl
          obtain ⟨og, ol, oc, rfl⟩ : ∃ og ol oc, ov = .slice og ol oc := by
            rcases HRW.out.2 with ⟨e, h⟩ | ⟨g, cap, cur, e, _⟩
            · exact ⟨none, _, 0, e⟩
            · exact ⟨_, _, cap, e⟩
          have c2 := (cell_of hsbk 2).trans rfl
          clear hst
          go_wp2_with fail
          go_ret3
          rw [HX.out]
          refine ⟨HLOW.out, ?_⟩
          show match srch o S n 0 s with | none => _ | some l => _
          rw [HRES.out]
          exact ⟨_, rfl, HRW.out⟩
        · have HRES := Lib.hid hl
          clear hl hst
          go_wp2_with fail
          go_ret3
          rw [HX.out]
          refine ⟨HLOW.out, ?_⟩
          show match srch o S n 0 s with | none => _ | some l => _
          rw [HRES.out]
          rfl
end Go.Proofs.YtfcaebceklhbkaaDoor
