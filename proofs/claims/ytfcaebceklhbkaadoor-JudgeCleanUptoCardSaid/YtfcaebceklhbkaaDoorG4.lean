/-
  Merged out of: Fol FolLaw Refs RefFol Copy Follows.
-/
import Derived.Test.YtfcaebceklhbkaaDoorG3
import Derived.Deep.RegionHeld3
import Derived.Deep.OwnRows
/-
  The contract of judge.Follows: is this an order in which the calls answer so?
-/
namespace Go.Proofs.YtfcaebceklhbkaaDoor
open Go.RowKit
set_option linter.unusedVariables false

set_option maxRecDepth 100000 in
set_option maxHeartbeats 4000000 in
theorem mayFol_walk (ao : Option Addr) (n c i : Nat) (S : List Cl) (D : Nat → Bool) (p : Value) (w : World) (h0 : CallRow w ao S) (hSn : S.length = n) (hn : n ≤ 2000000) (hi : i < n)
    (hD : ∀ W k, Below w.heap.size w W → k < n → Calls Tryd.prog 51 #[.int .i64 k, p] W fun e w' => e = .returned (.bool (D k)) ∧ w' = W) :
    Calls Tryd.prog 50 #[.slice ao n c, .int .i64 i, .func (.func 51) #[] #[p]] w fun e w' => e = .returned (.bool (mayF S D i)) ∧ Below w.heap.size w w' := by
  obtain ⟨g, o, rfl, hc⟩ : ∃ g o, ao = some ⟨g, o, none⟩ ∧ ∀ i, i < n → ∀ j, j < 10 → w.cell? ⟨g, o + i * 10 + j, none⟩ = (S.getD i default).cells[j]? := by
    rcases h0 with h | ⟨g, o, h1, h2⟩
    · subst h; simp at hSn; omega
    · exact ⟨g, o, h1, by rw [← hSn]; exact h2⟩
  have HC := Lib.hid (fun k hk => CallRow.at (hc k hk))
  have HD := Lib.hid hD
  have HM : Hid (mayF S D i = mayTo S D i n) := by rw [← hSn]; rfl
  clear h0 hc hD hSn
  generalize hN : w.heap.size = N at *
  have HN := Lib.hid hN
  clear hN
  go_enter Tryd.func50, Tryd.ntmps50
  go_wp2_with fail
  go_loopw [11] (fun kv wr => ∃ k : Nat, k ≤ n ∧ kv = .int .i64 k ∧ mayTo S D i k = true ∧ Below N w wr) (fun kv _ => n - (intOf kv).toNat)
  case atStart => exact ⟨0, by omega, rfl, rfl, Below.refl _ _⟩
  case round =>
    obtain ⟨k, hk, rfl, hm, hb⟩ := hrel
    have HMK := Lib.hid hm
    have HB := Lib.hid hb
    by_cases hlt : k < n
    · have hsz : N ≤ wr.heap.size := by have := hb.size; have := HN.out; omega
      have hget : ∀ {q : Nat} {v : Value}, w.cell? ⟨g, q, none⟩ = some v → wr.cell? ⟨g, q, none⟩ = some v ∧ ∀ o1, (wr.alloc o1).cell? ⟨g, q, none⟩ = some v := by
        intro q v h
        have h1 : wr.cell? ⟨g, q, none⟩ = some v := (hb.cell (p := ⟨g, q, none⟩) (by rw [← HN.out]; exact World.block_lt_of_cell? w _ h)).trans h
        exact ⟨h1, fun o1 => (World.cell?_of_block (Below.heap_alloc _ _ _ (World.block_lt_of_cell? _ _ h1))).trans h1⟩
      obtain ⟨h0, h1, h2, h3, h4, h5, h6, h7, h8, h9⟩ := HC.out k hlt
      have b1 := (hget (HC.out i hi).2.1).2
      replace h0 := (hget h0).1
      replace h1 := (hget h1).1
      replace h2 := (hget h2).1
      replace h3 := (hget h3).1
      replace h4 := (hget h4).1
      replace h5 := (hget h5).1
      replace h6 := (hget h6).1
      replace h7 := (hget h7).1
      replace h8 := (hget h8).1
      replace h9 := (hget h9).1
      have HNX : Hid (mayTo S D i (k + 1) = (mayTo S D i k && (D k || !decide ((S.getD k default).e < (S.getD i default).b)))) := rfl
      have HST := Lib.hid (fun h => mayTo_false (S := S) (D := D) (i := i) (k := k + 1) (m := n) h (by omega))
      have HDK := Lib.hid (fun W hW => HD.out W k hW hlt)
      clear hget hm hb
      generalize (S.getD i default).b = bi at *
      generalize S.getD k default = s at *
      obtain ⟨st, sb, se, sk, sx, sy, sz, sok, sn, slo, sln, slc⟩ := s
      simp only at h0 h1 h2 h3 h4 h5 h6 h7 h8 h9 HNX
      generalize D k = dk at *
      cases dk with
      | true =>
        have HX := Lib.hid (show mayTo S D i (k + 1) = true from by rw [hid_eq HNX, hid_eq HMK]; rfl)
        clear HNX HST HMK
        go_wp2_with (go_quiet (first | (go_at_call 51; refine Calls.quiet_of_same (HDK.out _ ?_); exact below_drewN (HB.out.alloc hsz _) _)))
        go_roundw
        case rel => exact ⟨k + 1, by omega, by go_num, HX.out, below_drewN (HB.out.alloc hsz _) _⟩
        case measure => simp [intOf]; omega
      | false =>
        by_cases hlt2 : se < bi
        · have HX := Lib.hid (show mayTo S D i n = false from HST.out (by rw [hid_eq HNX]; simp [hlt2]))
          have hd : decide (se < bi) = true := by simp [hlt2]
          clear HNX HST HMK
          go_wp2_with (go_quiet (first | (go_at_call 51; refine Calls.quiet_of_same (HDK.out _ ?_); exact below_drewN (HB.out.alloc hsz _) _)))
          go_ret
          exact ⟨by rw [hid_eq HM, HX.out]; rfl, below_drewN (HB.out.alloc hsz _) _⟩
        · have HX := Lib.hid (show mayTo S D i (k + 1) = true from by rw [hid_eq HNX, hid_eq HMK]; simp [hlt2])
          have hd : decide (se < bi) = false := by simp [hlt2]
          clear HNX HST HMK hlt2
          go_wp2_with (go_quiet (first | (go_at_call 51; refine Calls.quiet_of_same (HDK.out _ ?_); exact below_drewN (HB.out.alloc hsz _) _)))
          go_roundw
          case rel => exact ⟨k + 1, by omega, by go_num, HX.out, below_drewN (HB.out.alloc hsz _) _⟩
          case measure => simp [intOf]; omega
    · obtain rfl : k = n := by omega
      clear hm hb
      go_wp2_with fail
      go_ret
      exact ⟨by rw [hid_eq HM, HMK.out]; rfl, HB.out⟩


/-- Is this an order in which the calls answer so, those of D done? -/
def folF (o : Int) (S : List Cl) : (Nat → Bool) → List Int → List Int → Bool
  | _, [], _ => true
  | D, c :: rest, s =>
    if c < 0 ∨ (S.length : Int) ≤ c ∨ D c.toNat = true ∨ mayF S D c.toNat = false then false
    else answers (S.getD c.toNat default) (doF o s (S.getD c.toNat default).k (S.getD c.toNat default).x (S.getD c.toNat default).y) &&
      folF o S (fun k => decide (k = c.toNat) || D k) rest (doF o s (S.getD c.toNat default).k (S.getD c.toNat default).x (S.getD c.toNat default).y).1
def followsF (o : Int) (S : List Cl) (q : List Int) (s : List Int) : Bool := decide (q.length = S.length) && folF o S (fun _ => false) q s

/-- What is done, in memory. -/
structure FSt (w0 : World) (N nd n : Nat) (D : Nat → Bool) (W : World) : Prop where
  low : Below N w0 W
  row : ∃ cs : Array Value, W.heap[nd]? = some (.cells cs 4 (0, 0)) ∧ cs.size = n ∧ ∀ k, k < n → cs[k]? = some (.bool (D k))
  cell : W.heap[nd + 1]? = some (.cells #[.slice (some ⟨nd, 0, none⟩) n n] 103 (0, 0))
  nw : N ≤ nd
theorem FSt.below {w0 W W' : World} {N nd n : Nat} {D : Nat → Bool} (h : FSt w0 N nd n D W) (hb : Below W.heap.size W W') : FSt w0 N nd n D W' := by
  obtain ⟨h1, ⟨cs, h2, h3, h4⟩, h5, h6⟩ := h
  have hl := (Array.getElem?_eq_some_iff.1 h2).1
  exact ⟨h1.trans (hb.mono (by omega)), ⟨cs, (hb.block _ hl).trans h2, h3, h4⟩, (hb.block _ (Array.getElem?_eq_some_iff.1 h5).1).trans h5, h6⟩
theorem FSt.get {w0 W : World} {N nd n k : Nat} {D : Nat → Bool} (h : FSt w0 N nd n D W) (hk : k < n) : W.cell? ⟨nd, k, none⟩ = some (.bool (D k)) ∧ W.frozen? ⟨nd, k, none⟩ = false := by
  obtain ⟨cs, h2, h3, h4⟩ := h.row
  exact ⟨(cell_of h2 k).trans (h4 k hk), free_of h2 k⟩
theorem FSt.put {w0 W : World} {N nd n c : Nat} {D : Nat → Bool} (h : FSt w0 N nd n D W) (hc : c < n) : FSt w0 N nd n (fun k => decide (k = c) || D k) (W.setCell ⟨nd, c, none⟩ (.bool true)) := by
  obtain ⟨h1, ⟨cs, h2, h3, h4⟩, h5, h6⟩ := h
  refine ⟨h1.setCell h6 _, ⟨cs.setIfInBounds c (.bool true), set_at h2 c _, by simpa using h3, fun k hk => ?_⟩, (Below.heap_setCell _ _ _ _ (by show nd + 1 ≠ nd; omega)).trans h5, h6⟩
  by_cases e : k = c
  · subst e
    simp [h3, hk]
  · rw [Array.getElem?_setIfInBounds_ne (by omega), h4 k hk]
    simp [e]
theorem FSt.drew {w0 W : World} {N nd n : Nat} {D : Nat → Bool} (h : FSt w0 N nd n D W) : FSt w0 N nd n D W.drew := h.below (Below.refl _ _).drew

theorem doneAt_walk (nd n k : Nat) (b : Bool) (W : World) (hn : n ≤ 4000000) (hk : k < n) (h1 : W.cell? ⟨nd + 1, 0, none⟩ = some (.slice (some ⟨nd, 0, none⟩) n n)) (h2 : W.cell? ⟨nd, k, none⟩ = some (.bool b)) :
    Calls Tryd.prog 51 #[.int .i64 k, .pointer (some ⟨nd + 1, 0, none⟩)] W fun e w' => e = .returned (.bool b) ∧ w' = W := by
  go_enter Tryd.func51, Tryd.ntmps51
  go_wp2_with fail
  go_ret
  exact ⟨rfl, rfl⟩
theorem info4 : (Tryd.prog.info? 4).map (fun i => (i.zero, i.size, i.bytes)) = some (some (.bool false), 1, 1) := by kernel_rfl

set_option maxRecDepth 100000 in
set_option maxHeartbeats 8000000 in
theorem follows_walk (o : Int) (v : Value) (s : List Int) (ao qo : Option Addr) (n co m qc : Nat) (S : List Cl) (q : List Int) (w : World) (hSn : S.length = n) (hC : CallRow w ao S) (hn : n ≤ 1000000) (hln : ∀ c ∈ S, c.ln ≤ 9223372036854775807)
    (hq : Nums w (.slice qo m qc) q) (hqm : q.length = m) (hs : Nums w v s) (hsl : s.length ≤ 2000000) (hm : m ≤ 9223372036854775807) :
    Calls Tryd.prog 20 #[.int .i64 o, v, .slice ao n co, .slice qo m qc] w fun e w' => e = .returned (.bool (followsF o S q s)) ∧ Below w.heap.size w w' := by
  have HF : Hid (followsF o S q s = (decide (m = n) && folF o S (fun _ => false) q s)) := by unfold followsF; rw [hqm, hSn]; exact Lib.hid rfl
  by_cases hmn : m = n
  · subst hmn
    have hmk := run_make_row' (P := Tryd.prog) 103 4 (.bool false) 1 Tryd.underlying103 info4 rfl .i64 .i64 m (by omega) (by omega)
    have HX := Lib.hid (show followsF o S q s = folF o S (fun _ => false) q s from by rw [hid_eq HF]; simp)
    have HC := Lib.hid hC
    have HQ := Lib.hid hq
    have HQM := Lib.hid hqm
    have HSN := Lib.hid hSn
    have HS := Lib.hid hs
    have HLN := Lib.hid hln
    have HDo := Lib.hid (doOk_all o)
    clear HF hC hq hs hSn hqm hln
    go_enter Tryd.func20, Tryd.ntmps20
    go_wp2_with fail
    generalize hN : w.heap.size = N at *
    have HN := Lib.hid hN
    clear hN
    go_loopw [10, 26] (fun sv pv wr => ∃ p : Nat, p ≤ m ∧ pv = .int .i64 p ∧ ∃ (D : Nat → Bool) (st : List Int), FSt w N N m D wr ∧ folF o S (fun _ => false) q s = folF o S D (q.drop p) st ∧ Nums wr sv st ∧ st.length ≤ 2000000 + p) (fun _ pv _ => m - (intOf pv).toNat)
    case atStart =>
      have hb : Below w.heap.size w ((w.alloc (.cells (madeCells #[.bool false] m) 4)).alloc (.cells #[.slice (some ⟨N, 0, none⟩) m m] 103)) := below_two _ _ _
      refine ⟨0, by omega, rfl, fun _ => false, s, ⟨by have e := HN.out; subst e; exact hb, ⟨madeCells #[.bool false] m, ?_, by simp [size_madeCells], fun k hk => ?_⟩, ?_, Nat.le_refl _⟩, rfl, HS.out.below hb, by omega⟩
      · have e := HN.out
        subst e
        exact (Below.heap_alloc _ _ _ (by simp)).trans (heap_alloc_new _ _)
      · rw [← Array.getElem?_toList, toList_madeCells_one]
        simp [hk]
      · have e := HN.out
        subst e
        have := heap_alloc_new (w.alloc (.cells (madeCells #[.bool false] m) 4)) (.cells #[.slice (some ⟨w.heap.size, 0, none⟩) m m] 103)
        simpa using this
    case round =>
      obtain ⟨p, hp, rfl, D, st, hF, hE, hSt, hstl⟩ := hrel
      have HFS := Lib.hid hF
      have HE := Lib.hid hE
      have HST := Lib.hid hSt
      clear hF hE hSt
      by_cases hlt : p < m
      · obtain ⟨_, gq, oq, rfl, hcq⟩ := nums_cell HQ.out hlt
        have h1 := (HFS.out.low.cell (p := ⟨gq, oq + p, none⟩) (by rw [← HN.out]; exact World.block_lt_of_cell? w _ hcq)).trans hcq
        have HDR : Hid (q.drop p = q.getD p 0 :: q.drop (p + 1)) := by
          refine Lib.hid ?_
          rw [List.drop_eq_getElem_cons (by rw [HQM.out]; exact hlt)]
          simp [List.getD, HQM.out, hlt]
        have HQ2 := HQ
        clear hcq
        generalize q.getD p 0 = c at *
        have HSTEP : Hid (folF o S D (q.drop p) st = if c < 0 ∨ (m : Int) ≤ c ∨ D c.toNat = true ∨ mayF S D c.toNat = false then false
            else answers (S.getD c.toNat default) (doF o st (S.getD c.toNat default).k (S.getD c.toNat default).x (S.getD c.toNat default).y) &&
              folF o S (fun k => decide (k = c.toNat) || D k) (q.drop (p + 1)) (doF o st (S.getD c.toNat default).k (S.getD c.toNat default).x (S.getD c.toNat default).y).1) := by
          refine Lib.hid ?_
          rw [hid_eq HDR, ← HSN.out]
          rfl
        by_cases hc0 : c < 0
        · have HX2 := Lib.hid (show folF o S D (q.drop p) st = false from by rw [hid_eq HSTEP, if_pos (.inl hc0)])
          clear HSTEP
          go_wp2_with fail
          go_ret
          exact ⟨by rw [HX.out, HE.out, HX2.out]; rfl, by rw [HN.out]; exact HFS.out.low⟩
        · by_cases hcm : (m : Int) ≤ c
          · have HX2 := Lib.hid (show folF o S D (q.drop p) st = false from by rw [hid_eq HSTEP, if_pos (.inr (.inl hcm))])
            have hcm' : c ≥ (m : Int) := hcm
            clear HSTEP
            go_wp2_with fail
            go_ret
            exact ⟨by rw [HX.out, HE.out, HX2.out]; rfl, by rw [HN.out]; exact HFS.out.low⟩
          · have hcm' : ¬ c ≥ (m : Int) := hcm
            obtain ⟨k, rfl⟩ : ∃ k : Nat, c = (k : Int) := ⟨c.toNat, by omega⟩
            have hkm : k < m := by omega
            simp only [Int.toNat_natCast] at HSTEP
            obtain ⟨d1, d2⟩ := HFS.out.get hkm
            have c0 := (cell_of HFS.out.cell 0).trans rfl
            cases hDk : D k with
            | true =>
              have HX2 := Lib.hid (show folF o S D (q.drop p) st = false from by rw [hid_eq HSTEP, if_pos (.inr (.inr (.inl hDk)))])
              rw [hDk] at d1
              clear HSTEP
              go_wp2_with fail
              go_ret
              exact ⟨by rw [HX.out, HE.out, HX2.out]; rfl, by rw [HN.out]; exact HFS.out.low⟩
            | false =>
              rw [hDk] at d1
              have HMAY := Lib.hid (mayFol_walk ao m co k S D (.pointer (some ⟨N + 1, 0, none⟩)) wr (HC.out.below (by rw [HN.out]; exact HFS.out.low)) HSN.out (by omega) hkm (fun W i hW hi => doneAt_walk N m i (D i) W (by omega) hi ((cell_of (HFS.out.below hW).cell 0).trans rfl) ((HFS.out.below hW).get hi).1))
              go_wp2_with fail
              refine HMAY.out.mono ?_
              rintro e w2 ⟨rfl, hb2⟩
              have HF2 := Lib.hid (HFS.out.below hb2)
              have HST2 := Lib.hid (HST.out.below hb2)
              clear hb2 d1 d2 c0
              cases hmf : mayF S D k with
              | false =>
                have HX2 := Lib.hid (show folF o S D (q.drop p) st = false from by rw [hid_eq HSTEP, if_pos (.inr (.inr (.inr hmf)))])
                clear HSTEP
                go_wp2_with fail
                go_ret
                exact ⟨by rw [HX.out, HE.out, HX2.out]; rfl, by rw [HN.out]; exact HF2.out.low⟩
              | true =>
                rw [if_neg (by rw [hDk, hmf]; simp; omega)] at HSTEP
                obtain ⟨gc, oc, rfl, hcall⟩ : ∃ g o, ao = some ⟨g, o, none⟩ ∧ ∀ j, j < 10 → w.cell? ⟨g, o + k * 10 + j, none⟩ = (S.getD k default).cells[j]? := by
                  rcases HC.out with h | ⟨g, o, e, h⟩
                  · have := HSN.out; subst h; simp at this; omega
                  · exact ⟨g, o, e, h k (by rw [HSN.out]; exact hkm)⟩
                have HCALL : Hid (∀ W, Below N w W → _) := Lib.hid (fun W hW => CallRow.at (fun j hj => show W.cell? ⟨gc, oc + k * 10 + j, none⟩ = (S.getD k default).cells[j]? from by
                  have h1 := hcall j hj
                  obtain ⟨v, hv⟩ : ∃ v, (S.getD k default).cells[j]? = some v := ⟨_, List.getElem?_eq_getElem (by simpa [Cl.cells] using hj)⟩
                  rw [hv] at h1 ⊢
                  exact (hW.cell (p := ⟨gc, oc + k * 10 + j, none⟩) (by rw [← HN.out]; exact World.block_lt_of_cell? w _ h1)).trans h1))
                have hcl : (S.getD k default).ln ≤ 9223372036854775807 := HLN.out _ (by
                  have : k < S.length := by rw [HSN.out]; exact hkm
                  simp [List.getD, this])
                clear hcall
                generalize S.getD k default = cl at *
                obtain ⟨ct, cb, ce, ck, cx, cy, cz, cok, cn, clo, cln, clc⟩ := cl
                simp only at HSTEP HCALL hcl
                have HD1 := Lib.hid (HDo.out u10 st ck cx cy cz w2 HST2.out (by omega))
                have hxl := doF_length o st ck cx cy
                unfold opV at HD1
                generalize doF o st ck cx cy = x at *
                obtain ⟨xl, xo, xn⟩ := x
                simp only at hxl HSTEP
                obtain ⟨a0, a1, a2, a3, a4, a5, a6, a7, a8, a9⟩ := HCALL.out w2 HF2.out.low
                go_wp2_with fail
                refine HD1.out.mono ?_
                rintro e w4 ⟨v4, rfl, ho4, hb4⟩
                have hsz4 : w2.heap.size ≤ w4.heap.size := hb4.size
                have hb5 : Below w2.heap.size w2 (w4.alloc (.cells #[.bool xo, .int .i64 xn, .slice none 0 0] 26)) := hb4.alloc hsz4 _
                have HF5 := Lib.hid (HF2.out.below hb5)
                obtain ⟨b0, b1, b2, b3, b4, b5, b6, b7, b8, b9⟩ := HCALL.out _ HF5.out.low
                have HX5 := Lib.hid (ho4.nums.below ((Below.refl _ _).alloc (Nat.le_refl _) (.cells #[.bool xo, .int .i64 xn, .slice none 0 0] 26)))
                have hA5 : (w4.alloc (.cells #[.bool xo, .int .i64 xn, .slice none 0 0] 26)).heap[w4.heap.size]? = some (.cells #[.bool xo, .int .i64 xn, .slice none 0 0] 26 (0, 0)) := heap_alloc_new _ _
                have e0 := (cell_of hA5 0).trans rfl
                have e1 := (cell_of hA5 1).trans rfl
                have e2 := (cell_of hA5 2).trans rfl
                have H52 : Hid (∀ W, Calls Tryd.prog 52 #[.agg #[.bool xo, .int .i64 xn, .slice none 0 0], .agg #[.bool cok, .int .i64 cn, .slice clo cln clc]] W fun e w' => e = .returned (.bool (xo == cok && xn == cn && decide (cln = 0))) ∧ Below W.heap.size W w') := Lib.hid (fun W => sameA_walk xo cok xn cn clo cln clc W hcl)
                clear hb4 hb5 ho4 a0 a1 a2 a3 a4 a5 a6 a7 a8 a9 hA5
                unfold ansV at *
                simp only at *
                go_wp2_with fail
                generalize w4.alloc (.cells #[.bool xo, .int .i64 xn, .slice none 0 0] 26) = w5 at *
                generalize w4.heap.size = p4 at *
                obtain ⟨B, hB⟩ : ∃ B, (xo == cok && xn == cn && decide (cln = 0)) = B := ⟨_, rfl⟩
                rw [hB] at H52
                have HST5 : Hid (folF o S D (q.drop p) st = (B && folF o S (fun i => decide (i = k) || D i) (q.drop (p + 1)) xl)) := by
                  refine Lib.hid ?_
                  rw [hid_eq HSTEP, ← hB]
                  rfl
                clear HSTEP hB
                go_region_with (first | (go_at_call 52; refine (H52.out _).mono ?_; rintro e w6 ⟨rfl, hb6⟩))
                all_goals
                  have hb7 : Below w5.heap.size w5 w6 := ((Below.refl _ _).drew).trans hb6
                  have HF6 := Lib.hid (HF5.out.below hb7)
                  have HX6 := Lib.hid (HX5.out.below hb7)
                  clear hb6 hb7
                  cases B with
                  | false =>
                    have HX2 := Lib.hid (show folF o S D (q.drop p) st = false from by rw [hid_eq HST5]; rfl)
                    clear HST5
                    go_wp2_with fail
                    go_ret
                    exact ⟨by rw [HX.out, HE.out, HX2.out]; rfl, by rw [HN.out]; exact HF6.out.low⟩
                  | true =>
                    have HX2 := Lib.hid (show folF o S D (q.drop p) st = folF o S (fun i => decide (i = k) || D i) (q.drop (p + 1)) xl from by rw [hid_eq HST5]; rfl)
                    clear HST5
                    obtain ⟨d1, d2⟩ := HF6.out.get hkm
                    have s0 := (cell_of HF6.out.cell 0).trans rfl
                    have HPUT := Lib.hid (HF6.out.put hkm)
                    have HXP : Hid (Nums (w6.setCell ⟨N, k, none⟩ (.bool true)) v4 xl) := by
                      refine Lib.hid ?_
                      obtain ⟨cs, h2, _, _⟩ := HF6.out.row
                      obtain ⟨ao', c', e, h⟩ := HX6.out
                      refine ⟨ao', c', e, ?_⟩
                      rcases h with h | ⟨g, o', e', h⟩
                      · exact .inl h
                      · refine .inr ⟨g, o', e', fun i hi => ?_⟩
                        by_cases hg : g = N
                        · subst hg
                          by_cases hk : o' + i = k
                          · have := h i hi
                            rw [hk] at this
                            rw [d1] at this
                            cases this
                          · rw [← h i hi]
                            have hne : (⟨g, k, none⟩ : Addr) ≠ ⟨g, o' + i, none⟩ := by intro e; injection e with e1 e2; omega
                            apply World.cell?_setCell_other; exact hne
                        · rw [← h i hi]
                          exact World.cell?_of_block (Below.heap_setCell _ _ _ _ hg)
                    go_wp2_with fail
                    go_roundw
                    case rel => exact ⟨p + 1, by omega, by go_num, _, xl, HPUT.out, by rw [HE.out, HX2.out], HXP.out, by omega⟩
                    case measure => simp [intOf]; omega
      · obtain rfl : p = m := by omega
        have HX2 := Lib.hid (show folF o S D (q.drop p) st = true from by rw [List.drop_of_length_le (by rw [HQM.out]; omega)]; rfl)
        go_wp2_with fail
        go_ret
        exact ⟨by rw [HX.out, HE.out, HX2.out]; rfl, by rw [HN.out]; exact HFS.out.low⟩
  · have hne : ¬ (m : Int) = (n : Int) := by omega
    have HX := Lib.hid (show followsF o S q s = false from by rw [hid_eq HF]; simp [hmn])
    clear HF hC hq hs hSn hqm hln
    go_enter Tryd.func20, Tryd.ntmps20
    go_wp2_with fail
    go_ret
    exact ⟨by rw [HX.out]; rfl, Below.refl _ _⟩
end Go.Proofs.YtfcaebceklhbkaaDoor

/-
  The document's Follows in plain Lean, and that it is judge's. No program in sight.
-/
namespace Go.Proofs.YtfcaebceklhbkaaDoor
open Go.RowKit
set_option linter.unusedVariables false

/-- Is every number in range, and none come ahead? -/
def freshF (n : Nat) : List Int → List Int → Bool
  | _, [] => true
  | pre, c :: rest => if c < 0 ∨ (n : Int) ≤ c then false else if pre.any (fun d => d == c) = true then false else freshF n (pre ++ [c]) rest
/-- The document's: none that stands behind had ended ahead; each answers so. -/
def refF (o : Int) (S : List Cl) : List Int → List Int → Bool
  | [], s => true
  | c :: rest, s =>
    if ((c :: rest).all fun d => !decide ((S.getD d.toNat default).e < (S.getD c.toNat default).b)) = false then false
    else answers (S.getD c.toNat default) (doF o s (S.getD c.toNat default).k (S.getD c.toNat default).x (S.getD c.toNat default).y) &&
      refF o S rest (doF o s (S.getD c.toNat default).k (S.getD c.toNat default).x (S.getD c.toNat default).y).1
def refFollowsF (o : Int) (S : List Cl) (q : List Int) (s : List Int) : Bool := decide (q.length = S.length) && (freshF S.length [] q && refF o S q s)

theorem nodup_len : ∀ (n : Nat) (l : List Int), l.Nodup → (∀ x ∈ l, 0 ≤ x ∧ x < (n : Int)) → l.length ≤ n
  | 0, [], _, _ => Nat.le_refl _
  | 0, x :: l, _, h => by have := h x List.mem_cons_self; omega
  | n + 1, l, hn, h => by
    have h1 : (l.filter (fun x => decide (x ≠ (n : Int)))).length ≤ n := by
      refine nodup_len n _ (hn.sublist List.filter_sublist) fun x hx => ?_
      have h2 := List.mem_filter.1 hx
      have h3 := h x h2.1
      have h4 : x ≠ (n : Int) := by simpa using h2.2
      omega
    have h2 : l.length ≤ (l.filter (fun x => decide (x ≠ (n : Int)))).length + 1 := by
      clear h h1
      induction l with
      | nil => simp
      | cons x l ih =>
        obtain ⟨hx, hl⟩ := List.nodup_cons.1 hn
        by_cases e : x = (n : Int)
        · subst e
          have : l.filter (fun x => decide (x ≠ (n : Int))) = l := by
            rw [List.filter_eq_self]
            intro y hy
            simp
            rintro rfl
            exact hx hy
          rw [List.filter_cons, if_neg (by simp), this]
          simp
        · have := ih hl
          rw [List.filter_cons, if_pos (by simpa using e)]
          simp
          simp at this
          omega
    omega

theorem fresh_parts {n : Nat} : ∀ {pre rest : List Int}, freshF n pre rest = true → (∀ x ∈ rest, 0 ≤ x ∧ x < (n : Int)) ∧ rest.Nodup ∧ ∀ x ∈ rest, x ∉ pre
  | pre, [], _ => by simp
  | pre, c :: rest, h => by
    unfold freshF at h
    split at h
    · cases h
    · rename_i h1
      split at h
      · cases h
      · rename_i h2
        have h2' : c ∉ pre := fun hc => h2 (List.any_eq_true.2 ⟨c, hc, by simp⟩)
        obtain ⟨i1, i2, i3⟩ := fresh_parts h
        refine ⟨fun x hx => ?_, List.nodup_cons.2 ⟨fun hc => i3 c hc (by simp), i2⟩, fun x hx => ?_⟩
        · rcases List.mem_cons.1 hx with rfl | hx
          · omega
          · exact i1 x hx
        · rcases List.mem_cons.1 hx with rfl | hx
          · exact h2'
          · exact fun hp => i3 x hx (List.mem_append.2 (.inl hp))
theorem fresh_cover {n : Nat} {q : List Int} (h : freshF n [] q = true) (hl : q.length = n) : ∀ k : Nat, k < n → (k : Int) ∈ q := by
  intro k hk
  obtain ⟨h1, h2, _⟩ := fresh_parts h
  by_cases hq : (k : Int) ∈ q
  · exact hq
  · have := nodup_len n ((k : Int) :: q) (List.nodup_cons.2 ⟨hq, h2⟩) (fun x hx => by
      rcases List.mem_cons.1 hx with rfl | hx
      · omega
      · exact h1 x hx)
    simp at this
    omega

theorem mayTo_true {S : List Cl} {D : Nat → Bool} {i : Nat} : ∀ {m : Nat}, mayTo S D i m = true ↔ ∀ k, k < m → D k = true ∨ ¬ (S.getD k default).e < (S.getD i default).b
  | 0 => by simp [mayTo]
  | m + 1 => by
    simp only [mayTo, Bool.and_eq_true, Bool.or_eq_true, Bool.not_eq_true', decide_eq_false_iff_not]
    rw [mayTo_true]
    constructor
    · rintro ⟨h1, h2⟩ k hk
      rcases Nat.lt_or_ge k m with h | h
      · exact h1 k h
      · obtain rfl : k = m := by omega
        exact h2
    · exact fun h => ⟨fun k hk => h k (by omega), h m (by omega)⟩

theorem fol_unfresh (o : Int) (S : List Cl) : ∀ (pre rest : List Int) (D : Nat → Bool) (s : List Int), (∀ k : Nat, D k = decide ((k : Int) ∈ pre)) → freshF S.length pre rest = false → folF o S D rest s = false
  | pre, [], D, s, _, h => by simp [freshF] at h
  | pre, c :: rest, D, s, hD, h => by
    unfold freshF at h
    unfold folF
    split
    · rfl
    · rename_i h1
      have hc0 : ¬ c < 0 := fun h => h1 (.inl h)
      have hc1 : ¬ (S.length : Int) ≤ c := fun h => h1 (.inr (.inl h))
      have hDc : D c.toNat = false := by
        cases e : D c.toNat with
        | false => rfl
        | true => exact absurd (.inr (.inr (.inl e))) h1
      rw [if_neg (by omega), if_neg] at h
      · rw [fol_unfresh o S (pre ++ [c]) rest _ _ _ h]
        · simp
        · intro k
          show (decide (k = c.toNat) || D k) = _
          rw [hD k]
          simp only [List.mem_append, List.mem_cons, List.not_mem_nil, or_false]
          by_cases hk : k = c.toNat
          · have : (k : Int) = c := by omega
            simp [hk]
            omega
          · have : ¬ (k : Int) = c := by omega
            simp [hk, this]
      · intro hany
        obtain ⟨d, hd, he⟩ := List.any_eq_true.1 hany
        have : d = c := by simpa using he
        subst this
        rw [hD d.toNat] at hDc
        have e2 : ((d.toNat : Nat) : Int) = d := by omega
        rw [e2] at hDc
        simp [hd] at hDc

theorem fol_fresh (o : Int) (S : List Cl) : ∀ (pre rest : List Int) (D : Nat → Bool) (s : List Int), (∀ k : Nat, D k = decide ((k : Int) ∈ pre)) → freshF S.length pre rest = true → (∀ k : Nat, k < S.length → (k : Int) ∈ pre ∨ (k : Int) ∈ rest) →
    folF o S D rest s = refF o S rest s
  | pre, [], D, s, _, _, _ => rfl
  | pre, c :: rest, D, s, hD, h, hcov => by
    obtain ⟨hr, hnd, hpre⟩ := fresh_parts h
    have hc := hr c List.mem_cons_self
    have hDc : D c.toNat = false := by
      rw [hD, show ((c.toNat : Nat) : Int) = c by omega]
      simpa using hpre c List.mem_cons_self
    have hmay : mayF S D c.toNat = ((c :: rest).all fun d => !decide ((S.getD d.toNat default).e < (S.getD c.toNat default).b)) := by
      rw [Bool.eq_iff_iff]
      unfold mayF
      rw [mayTo_true, List.all_eq_true]
      constructor
      · intro hm d hd
        have hd2 := hr d hd
        rcases hm d.toNat (by omega) with e | e
        · rw [hD, show ((d.toNat : Nat) : Int) = d by omega] at e
          exact absurd (by simpa using e) (hpre d hd)
        · simpa using e
      · intro ha k hk
        rcases hcov k hk with e | e
        · exact .inl (by rw [hD]; simpa using e)
        · have := ha _ e
          exact .inr (by simpa using this)
    unfold folF refF
    rw [← hmay]
    cases hm : mayF S D c.toNat with
    | false => rw [if_pos (.inr (.inr (.inr rfl))), if_pos rfl]
    | true =>
      rw [if_neg (by rw [hDc]; simp; omega), if_neg (by simp)]
      congr 1
      refine fol_fresh o S (pre ++ [c]) rest _ _ (fun k => ?_) ?_ (fun k hk => ?_)
      · show (decide (k = c.toNat) || D k) = _
        rw [hD k]
        simp only [List.mem_append, List.mem_cons, List.not_mem_nil, or_false]
        by_cases hk : k = c.toNat
        · have : (k : Int) = c := by omega
          simp [hk]
          omega
        · have : ¬ (k : Int) = c := by omega
          simp [hk, this]
      · unfold freshF at h
        rw [if_neg (by omega)] at h
        split at h
        · cases h
        · exact h
      · rcases hcov k hk with e | e
        · exact .inl (List.mem_append.2 (.inl e))
        · rcases List.mem_cons.1 e with e | e
          · exact .inl (by rw [e]; simp)
          · exact .inr e

/-- Both say the same. -/
theorem follows_same (o : Int) (S : List Cl) (q s : List Int) : followsF o S q s = refFollowsF o S q s := by
  unfold followsF refFollowsF
  by_cases hl : q.length = S.length
  · rw [decide_eq_true hl]
    simp only [Bool.true_and]
    cases hf : freshF S.length [] q with
    | false => exact (fol_unfresh o S [] q _ s (fun k => by simp) hf).trans rfl
    | true => exact (fol_fresh o S [] q _ s (fun k => by simp) hf (fun k hk => .inr (fresh_cover hf hl k hk))).trans rfl
  · rw [decide_eq_false hl]
    rfl
end Go.Proofs.YtfcaebceklhbkaaDoor

/-
  The contracts of refs (f18) and of the document's SameAnswer (f53); rows of calls.
-/
namespace Go.Proofs.YtfcaebceklhbkaaDoor
open Go.RowKit
set_option linter.unusedVariables false

theorem info81 : (Tryd.prog.info? 81).map (fun i => (i.zero, i.size, i.bytes)) = some (some (.agg #[.int .i64 0, .int .i64 0, .int .i64 0, .int .i64 0, .int .i64 0, .int .i64 0, .int .i64 0, .bool false, .int .i64 0, .slice none 0 0]), 10, 96) := by kernel_rfl
theorem info102 : (Tryd.prog.info? 102).map (fun i => (i.zero, i.size, i.bytes)) = some (some (.agg #[.int .i64 0, .int .i64 0, .int .i64 0, .int .i64 0, .int .i64 0, .int .i64 0, .int .i64 0, .bool false, .int .i64 0, .slice none 0 0]), 10, 96) := by kernel_rfl

def callsV (S : List Cl) : List Value := S.flatMap Cl.cells
theorem callsV_length : ∀ S : List Cl, (callsV S).length = S.length * 10
  | [] => rfl
  | c :: S => by
    have := callsV_length S
    unfold callsV at this ⊢
    rw [List.flatMap_cons, List.length_append, this]
    simp [Cl.cells]
    omega
theorem callsV_snoc (S : List Cl) (c : Cl) : callsV (S ++ [c]) = callsV S ++ c.cells := by simp [callsV]
theorem callsV_get : ∀ (S : List Cl) (i j : Nat), i < S.length → j < 10 → (callsV S)[i * 10 + j]? = (S.getD i default).cells[j]?
  | [], i, j, h, _ => by simp at h
  | c :: S, 0, j, _, hj => by
    unfold callsV
    rw [List.flatMap_cons, List.getElem?_append_left (by simp [Cl.cells]; omega)]
    simp
  | c :: S, i + 1, j, h, hj => by
    have := callsV_get S i j (by simpa using h) hj
    unfold callsV at this ⊢
    rw [List.flatMap_cons, List.getElem?_append_right (by simp [Cl.cells]; omega), show (i + 1) * 10 + j - c.cells.length = i * 10 + j by simp [Cl.cells]; omega, this]
    simp
theorem callsV_one (S : List Cl) : ∀ u ∈ callsV S, u.oneCell' = true := by
  intro u hu
  obtain ⟨c, _, h⟩ := List.mem_flatMap.1 hu
  simp [Cl.cells] at h
  rcases h with rfl | rfl | rfl | rfl | rfl | rfl | rfl | rfl | rfl | rfl <;> rfl
theorem src_calls {w : World} {ao : Option Addr} {S : List Cl} {n c : Nat} (h : CallRow w ao S) (hn : S.length = n) (hc : ao = none → n = 0 ∧ c = 0) : SrcOf w 10 (.slice ao n c) n (callsV S) := by
  refine ⟨by rw [callsV_length, hn], callsV_one S, ?_⟩
  rcases h with rfl | ⟨g, o, rfl, h⟩
  · cases ao with
    | none => obtain ⟨rfl, rfl⟩ := hc rfl; exact .inl ⟨rfl, rfl⟩
    | some a => exact .inr ⟨a, c, rfl, fun j u hj => by simp [callsV] at hj⟩
  · refine .inr ⟨_, c, rfl, fun j u hj => ?_⟩
    have hlt : j < S.length * 10 := by rw [← callsV_length]; exact (List.getElem?_eq_some_iff.1 hj).1
    have e : j = j / 10 * 10 + j % 10 := by omega
    have h1 := callsV_get S (j / 10) (j % 10) (by omega) (by omega)
    have h2 := h (j / 10) (by omega) (j % 10) (by omega)
    rw [← h1, ← e, hj] at h2
    rw [addr_add, ← h2]
    congr 2
    omega
theorem row_calls {w : World} {N e : Nat} {v : Value} {S : List Cl} (h : w.ownsRow N e 10 v S.length (callsV S)) : ∃ ao c, v = .slice ao S.length c ∧ CallRow w ao S ∧ (ao = none → S.length = 0 ∧ c = 0) := by
  have hc := fun g => h.cells (g := g)
  rcases h.2 with ⟨rfl, h0⟩ | ⟨g, cap, cur, rfl, _⟩
  · exact ⟨none, 0, by rw [h0], .inl (List.eq_nil_of_length_eq_zero h0), fun _ => ⟨h0, rfl⟩⟩
  · refine ⟨_, cap, rfl, .inr ⟨g, 0, rfl, fun i hi j hj => ?_⟩, fun h => by cases h⟩
    have h1 := callsV_get S i j hi hj
    obtain ⟨u, hu⟩ : ∃ u, (S.getD i default).cells[j]? = some u := ⟨_, List.getElem?_eq_getElem (by simpa [Cl.cells] using hj)⟩
    rw [hu] at h1 ⊢
    have := hc g rfl _ u h1
    rw [addr_add] at this
    rw [← this]
    congr 2
    omega

/-- A row of calls of the call's own, what lies below as it was. -/
structure CSt (w0 : World) (N : Nat) (S : List Cl) (v : Value) (w : World) : Prop where
  row : w.ownsRow N 102 10 v S.length (callsV S)
  low : Below N w0 w
  nw : N ≤ w.heap.size
theorem CSt.app {w0 wr w1 : World} {N : Nat} {S : List Cl} {v v' : Value} {c : Cl} {o o2 : Obj} (h : CSt w0 N S v wr) (ha : Appended ((wr.alloc o).alloc o2) N 102 10 v S.length 1 (callsV S ++ c.cells) v' w1) : CSt w0 N (S ++ [c]) v' w1 := by
  obtain ⟨h1, h2, _⟩ := ha
  have hs := h2.size
  have := h.nw
  simp at hs
  exact ⟨by rw [callsV_snoc]; simpa using h1, ((h.low.alloc h.nw _).alloc (by simp; omega) _).grown h2 (by simp; omega) (fun k hk => (h.row.lt k hk).1), by omega⟩

set_option maxRecDepth 100000 in
set_option maxHeartbeats 8000000 in
theorem refs_walk (ao : Option Addr) (n c : Nat) (S : List Cl) (w : World) (h : CallRow w ao S) (hSn : S.length = n) (hn : n ≤ 1000000) :
    Calls Tryd.prog 18 #[.slice ao n c] w fun e w' => ∃ ao' c', e = .returned (.slice ao' n c') ∧ CallRow w' ao' S ∧ Below w.heap.size w w' := by
  obtain ⟨i0, hi0, hz0, hz1, hz2⟩ := info_parts info102
  have HC := Lib.hid h
  have HSN := Lib.hid hSn
  clear h hSn
  generalize hN : w.heap.size = N at *
  have HN := Lib.hid hN
  clear hN
  go_enter Tryd.func18, Tryd.ntmps18
  go_wp2_with fail
  go_loopw [3, 4] (fun rv jv wr => ∃ j : Nat, j ≤ n ∧ jv = .int .i64 j ∧ CSt w N (S.take j) rv wr) (fun _ jv _ => n - (intOf jv).toNat)
  case atStart => exact ⟨0, by omega, rfl, World.ownsRow_nil _ _ _ _, Below.refl _ _, by have := HN.out; omega⟩
  case round =>
    obtain ⟨j, hj, rfl, hR⟩ := hrel
    have HR := Lib.hid hR
    by_cases hlt : j < n
    · obtain ⟨gc, oc, rfl, hcall⟩ : ∃ g o, ao = some ⟨g, o, none⟩ ∧ ∀ k, k < 10 → w.cell? ⟨g, o + j * 10 + k, none⟩ = (S.getD j default).cells[k]? := by
        rcases HC.out with h | ⟨g, o, e, h⟩
        · have := HSN.out; subst h; simp at this; omega
        · exact ⟨g, o, e, h j (by rw [HSN.out]; exact hlt)⟩
      have hcr := CallRow.at (fun k hk => show wr.cell? ⟨gc, oc + j * 10 + k, none⟩ = (S.getD j default).cells[k]? from by
        have h1 := hcall k hk
        obtain ⟨v, hv⟩ : ∃ v, (S.getD j default).cells[k]? = some v := ⟨_, List.getElem?_eq_getElem (by simpa [Cl.cells] using hk)⟩
        rw [hv] at h1 ⊢
        exact (hR.low.cell (p := ⟨gc, oc + j * 10 + k, none⟩) (by rw [← HN.out]; exact World.block_lt_of_cell? w _ h1)).trans h1)
      have HTK : Hid (S.take (j + 1) = S.take j ++ [S.getD j default]) := by
        refine Lib.hid ?_
        have : j < S.length := by rw [HSN.out]; exact hlt
        rw [List.take_add_one, List.getElem?_eq_getElem this]
        simp [List.getD, this]
      have hlen : (S.take j).length = j := by rw [List.length_take, HSN.out]; omega
      clear hcall hR
      generalize S.take j = T at *
      generalize S.getD j default = cl at *
      obtain ⟨ct, cb, ce, ck, cx, cy, cz, cok, cn, clo, cln, clc⟩ := cl
      simp only at hcr
      obtain ⟨a0, a1, a2, a3, a4, a5, a6, a7, a8, a9⟩ := hcr
      have HOW : Hid (((wr.alloc (.cells #[.int .i64 ct, .int .i64 cb, .int .i64 ce, .int .i64 ck, .int .i64 cx, .int .i64 cy, .int .i64 cz, .bool cok, .int .i64 cn, .slice clo cln clc] 81)).alloc (.cells #[.int .i64 ct, .int .i64 cb, .int .i64 ce, .int .i64 ck, .int .i64 cx, .int .i64 cy, .int .i64 cz, .bool cok, .int .i64 cn, .slice clo cln clc] 102)).ownsRow N 102 10 u3 T.length (callsV T)) := (HR.out.row.alloc _).alloc _
      have HSX : Hid (SrcOf ((wr.alloc (.cells #[.int .i64 ct, .int .i64 cb, .int .i64 ce, .int .i64 ck, .int .i64 cx, .int .i64 cy, .int .i64 cz, .bool cok, .int .i64 cn, .slice clo cln clc] 81)).alloc (.cells #[.int .i64 ct, .int .i64 cb, .int .i64 ce, .int .i64 ck, .int .i64 cx, .int .i64 cy, .int .i64 cz, .bool cok, .int .i64 cn, .slice clo cln clc] 102)) 10 (.slice (some ⟨wr.heap.size + 1, 0, none⟩) 1 1) 1 (Cl.cells ⟨ct, cb, ce, ck, cx, cy, cz, cok, cn, clo, cln, clc⟩)) := by
        have := src_one0 (wr.alloc (.cells #[.int .i64 ct, .int .i64 cb, .int .i64 ce, .int .i64 ck, .int .i64 cx, .int .i64 cy, .int .i64 cz, .bool cok, .int .i64 cn, .slice clo cln clc] 81)) #[.int .i64 ct, .int .i64 cb, .int .i64 ce, .int .i64 ck, .int .i64 cx, .int .i64 cy, .int .i64 cz, .bool cok, .int .i64 cn, .slice clo cln clc] 102 10 rfl (by intro u hu; simp at hu; rcases hu with rfl | rfl | rfl | rfl | rfl | rfl | rfl | rfl | rfl | rfl <;> rfl)
        rw [show (wr.alloc (.cells #[.int .i64 ct, .int .i64 cb, .int .i64 ce, .int .i64 ck, .int .i64 cx, .int .i64 cy, .int .i64 cz, .bool cok, .int .i64 cn, .slice clo cln clc] 81)).heap.size = wr.heap.size + 1 by simp] at this
        exact Lib.hid this
      have hsz := HR.out.nw
      go_wp2_with (at_builtin; go_must (refine wpList_append_row rfl (.tmp 16) (.tmp 28) 43 rfl N 102 i0 _ 10 96 Tryd.underlying43 hi0 hz0 hz1 (by decide) hz2 rfl u3 T.length (callsV T) rfl HOW.out 1 (Cl.cells ⟨ct, cb, ce, ck, cx, cy, cz, cok, cn, clo, cln, clc⟩) HSX.out ?l2 ?b2 ?n2 ?_); go_must (case l2 => (unfold maxLen; omega)); go_must (case b2 => omega); go_must (case n2 => (simp; omega)); intro v2 w2 ha; have HA := Lib.hid (HR.out.app (c := ⟨ct, cb, ce, ck, cx, cy, cz, cok, cn, clo, cln, clc⟩) ha); clear ha)
      go_roundw
      case rel => exact ⟨j + 1, by omega, by go_num, by rw [hid_eq HTK]; exact HA.out⟩
      case measure => simp [intOf]; omega
    · obtain rfl : j = n := by omega
      clear hR
      go_wp2_with fail
      go_ret
      have hr := HR.out.row
      rw [show S.take j = S from List.take_of_length_le (by rw [HSN.out]; omega)] at hr
      obtain ⟨ao', c', e, hcr, _⟩ := row_calls hr
      rw [HSN.out] at e
      exact ⟨ao', c', by rw [← e]; rfl, hcr, HR.out.low⟩

set_option maxRecDepth 100000 in
set_option maxHeartbeats 4000000 in
theorem refSameA_walk (ok ok2 : Bool) (n n2 : Int) (lo : Option Addr) (ln lc : Nat) (w : World) (hl : ln ≤ 9223372036854775807) :
    Calls Tryd.prog 53 #[.agg #[.bool ok, .int .i64 n, .slice none 0 0], .agg #[.bool ok2, .int .i64 n2, .slice lo ln lc]] w fun e w' => e = .returned (.bool (ok == ok2 && n == n2 && decide (ln = 0))) ∧ Below w.heap.size w w' := by
  have hb : Below w.heap.size w ((w.alloc (.cells #[.bool ok, .int .i64 n, .slice none 0 0] 26)).alloc (.cells #[.bool ok2, .int .i64 n2, .slice lo ln lc] 26)) := below_two _ _ _
  have HB := Lib.hid hb
  clear hb
  by_cases hok : ok = ok2
  · subst hok
    by_cases hnn : n = n2
    · subst hnn
      by_cases hl0 : ln = 0
      · subst hl0
        go_enter Tryd.func53, Tryd.ntmps53
        go_wp2_with fail
        go_loopw [5] (fun jv wr => jv = .int .i64 0 ∧ wr = (w.alloc (.cells #[.bool ok, .int .i64 n, .slice none 0 0] 26)).alloc (.cells #[.bool ok, .int .i64 n, .slice lo 0 lc] 26)) (fun jv _ => 0)
        case atStart => exact ⟨rfl, rfl⟩
        case round =>
          obtain ⟨rfl, rfl⟩ := hrel
          go_wp2_with fail
          go_ret
          exact ⟨by simp, HB.out⟩
      · have hne : ¬ (0 : Int) = (ln : Int) := by omega
        have hne2 : (0 : Int) ≠ (ln : Int) := by omega
        go_enter Tryd.func53, Tryd.ntmps53
        go_wp2_with fail
        go_ret
        exact ⟨by simp [hl0], HB.out⟩
    · go_enter Tryd.func53, Tryd.ntmps53
      go_wp2_with fail
      go_ret
      exact ⟨by simp [hnn], HB.out⟩
  · go_enter Tryd.func53, Tryd.ntmps53
    go_wp2_with fail
    go_ret
    exact ⟨by simp [hok], HB.out⟩
end Go.Proofs.YtfcaebceklhbkaaDoor

/-
  The contract of the document's Follows.
-/
namespace Go.Proofs.YtfcaebceklhbkaaDoor
open Go.RowKit
set_option linter.unusedVariables false

theorem drop_cons {q : List Int} {p : Nat} (h : p < q.length) : q.drop p = q.getD p 0 :: q.drop (p + 1) := by
  rw [List.drop_eq_getElem_cons h]
  simp [List.getD, h]
theorem take_snoc {q : List Int} {p : Nat} (h : p < q.length) : q.take (p + 1) = q.take p ++ [q.getD p 0] := by
  rw [List.take_add_one, List.getElem?_eq_getElem h]
  simp [List.getD, h]
theorem take_drop_cons {q : List Int} {i k : Nat} (h : k < i) (hi : i ≤ q.length) : (q.take i).drop k = q.getD k 0 :: (q.take i).drop (k + 1) := by
  have hk : k < (q.take i).length := by rw [List.length_take]; omega
  rw [drop_cons hk]
  congr 1
  simp [List.getD, h]

set_option maxRecDepth 100000 in
set_option maxHeartbeats 8000000 in
theorem refFollows_walk (o : Int) (v : Value) (s : List Int) (ao qo : Option Addr) (n co m qc : Nat) (S : List Cl) (q : List Int) (w : World) (hSn : S.length = n) (hC : CallRow w ao S) (hn : n ≤ 1000000) (hln : ∀ c ∈ S, c.ln ≤ 9223372036854775807)
    (hq : Nums w (.slice qo m qc) q) (hqm : q.length = m) (hs : Nums w v s) (hsl : s.length ≤ 2000000) (hm : m ≤ 9223372036854775807) :
    Calls Tryd.prog 21 #[.int .i64 o, v, .slice ao n co, .slice qo m qc] w fun e w' => e = .returned (.bool (refFollowsF o S q s)) ∧ Below w.heap.size w w' := by
  have HF : Hid (refFollowsF o S q s = (decide (m = n) && (freshF n [] q && refF o S q s))) := by unfold refFollowsF; rw [hqm, hSn]; exact Lib.hid rfl
  by_cases hmn : m = n
  · subst hmn
    have HX := Lib.hid (show refFollowsF o S q s = (freshF m [] q && refF o S q s) from by rw [hid_eq HF]; simp)
    have HC := Lib.hid hC
    have HQ := Lib.hid hq
    have HQM := Lib.hid hqm
    have HSN := Lib.hid hSn
    have HS := Lib.hid hs
    have HLN := Lib.hid hln
    have HQC := Lib.hid (fun (W : World) (i : Nat) (hW : Below w.heap.size w W) (hi : i < m) => show ∃ g o, qo = some ⟨g, o, none⟩ ∧ W.cell? ⟨g, o + i, none⟩ = some (.int .i64 (q.getD i 0)) from by
      obtain ⟨_, g, o, e, h⟩ := nums_cell hq hi
      exact ⟨g, o, e, (hW.cell (p := ⟨g, o + i, none⟩) (World.block_lt_of_cell? w _ h)).trans h⟩)
    clear HF hC hq hs hSn hqm hln
    go_enter Tryd.func21, Tryd.ntmps21
    go_wp2_with fail
    generalize hN : w.heap.size = N at *
    have HN := Lib.hid hN
    clear hN
    go_loopw [9, 10] (fun iv kv wr => ∃ i : Nat, i ≤ m ∧ iv = .int .i64 i ∧ freshF m [] q = freshF m (q.take i) (q.drop i) ∧ Below N w wr) (fun iv _ _ => m - (intOf iv).toNat)
    case atStart => exact ⟨0, by omega, rfl, by simp, Below.refl _ _⟩
    case round =>
      obtain ⟨i, hi, rfl, hE, hlow⟩ := hrel
      have HE := Lib.hid hE
      have HL := Lib.hid hlow
      clear hE
      by_cases hlt : i < m
      · obtain ⟨gq, oq, rfl, hcq⟩ := HQC.out wr i hlow hlt
        have HSTEP : Hid (freshF m (q.take i) (q.drop i) = if q.getD i 0 < 0 ∨ (m : Int) ≤ q.getD i 0 then false else if (q.take i).any (fun d => d == q.getD i 0) = true then false else freshF m (q.take (i + 1)) (q.drop (i + 1))) := by
          refine Lib.hid ?_
          rw [drop_cons (by rw [HQM.out]; exact hlt), take_snoc (by rw [HQM.out]; exact hlt)]
          rfl
        clear hlow
        generalize hc : q.getD i 0 = c at *
        have HCC := Lib.hid hc
        clear hc
        by_cases hc0 : c < 0
        · have HX2 := Lib.hid (show freshF m (q.take i) (q.drop i) = false from by rw [hid_eq HSTEP, if_pos (.inl hc0)])
          clear HSTEP
          go_wp2_with fail
          go_ret
          exact ⟨by rw [HX.out, HE.out, HX2.out]; rfl, by rw [HN.out]; exact HL.out⟩
        · by_cases hcm : (m : Int) ≤ c
          · have HX2 := Lib.hid (show freshF m (q.take i) (q.drop i) = false from by rw [hid_eq HSTEP, if_pos (.inr hcm)])
            have hcm' : c ≥ (m : Int) := hcm
            clear HSTEP
            go_wp2_with fail
            go_ret
            exact ⟨by rw [HX.out, HE.out, HX2.out]; rfl, by rw [HN.out]; exact HL.out⟩
          · have hcm' : ¬ c ≥ (m : Int) := hcm
            rw [if_neg (by omega)] at HSTEP
            go_wp2_with fail
            generalize wr = w1 at *
            go_loopw [10] (fun kv wr => ∃ k : Nat, k ≤ i ∧ kv = .int .i64 k ∧ (q.take i).any (fun d => d == c) = ((q.take i).drop k).any (fun d => d == c) ∧ Below N w wr) (fun kv _ => i - (intOf kv).toNat)
            case atStart => exact ⟨0, by omega, rfl, by simp, HL.out⟩
            case round =>
              obtain ⟨k, hk, rfl, hA, hlow⟩ := hrel
              have HA := Lib.hid hA
              have HL2 := Lib.hid hlow
              clear hA
              by_cases hlt2 : k < i
              · obtain ⟨gq2, oq2, eq2, hd⟩ := HQC.out wr k hlow (by omega)
                cases eq2
                obtain ⟨gq3, oq3, eq3, hcc⟩ := HQC.out wr i hlow hlt
                cases eq3
                rw [HCC.out] at hcc
                have HST2 : Hid (((q.take i).drop k).any (fun d => d == c) = ((q.getD k 0 == c) || ((q.take i).drop (k + 1)).any (fun d => d == c))) := by
                  refine Lib.hid ?_
                  rw [take_drop_cons hlt2 (by rw [HQM.out]; omega)]
                  rfl
                clear hlow
                generalize q.getD k 0 = d at *
                by_cases hdc : d = c
                · have HX2 := Lib.hid (show freshF m (q.take i) (q.drop i) = false from by rw [hid_eq HSTEP, if_pos (by rw [HA.out, HST2.out, hdc]; simp)])
                  clear HSTEP HST2
                  subst hdc
                  go_wp2_with (go_quiet (fail))
                  go_ret
                  exact ⟨by rw [HX.out, HE.out, HX2.out]; rfl, by rw [HN.out]; exact below_drewN HL2.out _⟩
                · have HA2 := Lib.hid (show (q.take i).any (fun d => d == c) = ((q.take i).drop (k + 1)).any (fun d => d == c) from by rw [HA.out, HST2.out]; simp [hdc])
                  have hdc' : (d == c) = false := by simpa using hdc
                  clear HST2
                  go_wp2_with (go_quiet (fail))
                  go_roundw
                  case rel => exact ⟨k + 1, by omega, by go_num, HA2.out, below_drewN HL2.out _⟩
                  case measure => simp [intOf]; omega
              · obtain rfl : k = i := by omega
                have HX2 := Lib.hid (show freshF m (q.take k) (q.drop k) = freshF m (q.take (k + 1)) (q.drop (k + 1)) from by
                  rw [hid_eq HSTEP, if_neg]
                  rw [HA.out, List.drop_of_length_le (by rw [List.length_take]; omega)]
                  simp)
                clear HSTEP hlow
                go_wp2_with fail
                go_roundw
                case rel => exact ⟨k + 1, by omega, by go_num, by rw [HE.out, HX2.out], HL2.out⟩
                case measure => simp [intOf]; omega
      · obtain rfl : i = m := by omega
        have hfr : freshF i [] q = true := by
          rw [HE.out, List.drop_of_length_le (by rw [HQM.out]; omega)]
          rfl
        have HFR := Lib.hid hfr
        have HX2 := Lib.hid (show refFollowsF o S q s = refF o S q s from by rw [HX.out, hfr]; rfl)
        have HRG := Lib.hid (fun (j : Nat) (hj : j < i) => show ∃ d : Nat, q.getD j 0 = (d : Int) ∧ d < i from by
          obtain ⟨h1, _, _⟩ := fresh_parts hfr
          have hj' : j < q.length := by rw [HQM.out]; exact hj
          have := h1 (q.getD j 0) (by simp [List.getD, hj'])
          exact ⟨(q.getD j 0).toNat, by omega, by omega⟩)
        have HCALL := Lib.hid (fun (W : World) (d : Nat) (hW : Below N w W) (hd : d < i) => show ∃ g oo, ao = some ⟨g, oo, none⟩ ∧ (W.cell? ⟨g, oo + d * 10, none⟩ = some (.int .i64 (S.getD d default).t) ∧ W.cell? ⟨g, oo + d * 10 + 1, none⟩ = some (.int .i64 (S.getD d default).b) ∧ W.cell? ⟨g, oo + d * 10 + 2, none⟩ = some (.int .i64 (S.getD d default).e) ∧
            W.cell? ⟨g, oo + d * 10 + 3, none⟩ = some (.int .i64 (S.getD d default).k) ∧ W.cell? ⟨g, oo + d * 10 + 4, none⟩ = some (.int .i64 (S.getD d default).x) ∧ W.cell? ⟨g, oo + d * 10 + 5, none⟩ = some (.int .i64 (S.getD d default).y) ∧
            W.cell? ⟨g, oo + d * 10 + 6, none⟩ = some (.int .i64 (S.getD d default).z) ∧ W.cell? ⟨g, oo + d * 10 + 7, none⟩ = some (.bool (S.getD d default).ok) ∧ W.cell? ⟨g, oo + d * 10 + 8, none⟩ = some (.int .i64 (S.getD d default).n) ∧
            W.cell? ⟨g, oo + d * 10 + 9, none⟩ = some (.slice (S.getD d default).lo (S.getD d default).ln (S.getD d default).lc)) from by
          rcases HC.out with h | ⟨g, oo, e, h⟩
          · have := HSN.out; subst h; simp at this; omega
          · refine ⟨g, oo, e, CallRow.at fun j hj => ?_⟩
            have h1 := h d (by rw [HSN.out]; exact hd) j hj
            obtain ⟨v, hv⟩ : ∃ v, (S.getD d default).cells[j]? = some v := ⟨_, List.getElem?_eq_getElem (by simpa [Cl.cells] using hj)⟩
            rw [hv] at h1 ⊢
            exact (hW.cell (p := ⟨g, oo + d * 10 + j, none⟩) (by rw [← HN.out]; exact World.block_lt_of_cell? w _ h1)).trans h1)
        have HS1 := Lib.hid (HS.out.below (by rw [HN.out]; exact HL.out))
        clear hfr hlow HE HX hlt hi
        go_wp2_with fail
        generalize wr = w1 at *
        go_loopw [11, 12, 13] (fun sv pv kv wr => ∃ p : Nat, p ≤ i ∧ pv = .int .i64 p ∧ ∃ st : List Int, refF o S q s = refF o S (q.drop p) st ∧ Nums wr sv st ∧ st.length ≤ 2000000 + p ∧ Below N w wr) (fun _ pv _ _ => i - (intOf pv).toNat)
        case atStart => exact ⟨0, by omega, rfl, s, rfl, HS1.out, by omega, HL.out⟩
        case round =>
          obtain ⟨p, hp, rfl, st, hE, hSt, hstl, hlow⟩ := hrel
          have HE := Lib.hid hE
          have HST := Lib.hid hSt
          have HL2 := Lib.hid hlow
          clear hE hSt
          by_cases hlt : p < i
          · obtain ⟨c, hc, hci⟩ := HRG.out p hlt
            have HCC := Lib.hid hc
            obtain ⟨gc, oc, rfl, HCL0⟩ := HCALL.out wr c hlow hci
            clear HCL0
            have HSTEP : Hid (refF o S (q.drop p) st = if ((q.drop p).all fun d => !decide ((S.getD d.toNat default).e < (S.getD c default).b)) = false then false
                else answers (S.getD c default) (doF o st (S.getD c default).k (S.getD c default).x (S.getD c default).y) &&
                  refF o S (q.drop (p + 1)) (doF o st (S.getD c default).k (S.getD c default).x (S.getD c default).y).1) := by
              refine Lib.hid ?_
              rw [drop_cons (by rw [HQM.out]; exact hlt), hc]
              rfl
            have hcl : (S.getD c default).ln ≤ 9223372036854775807 := HLN.out _ (by
              have : c < S.length := by rw [HSN.out]; exact hci
              simp [List.getD, this])
            clear hlow hc
            go_wp2_with fail
            generalize wr = w2 at *
            go_loopw [13] (fun kv wr => ∃ k : Nat, p ≤ k ∧ k ≤ i ∧ kv = .int .i64 k ∧ ((q.drop p).all fun d => !decide ((S.getD d.toNat default).e < (S.getD c default).b)) = ((q.drop k).all fun d => !decide ((S.getD d.toNat default).e < (S.getD c default).b)) ∧ Below w2.heap.size w2 wr) (fun kv _ => i - (intOf kv).toNat)
            case atStart => exact ⟨p, by omega, by omega, rfl, rfl, Below.refl _ _⟩
            case round =>
              obtain ⟨k, hpk, hk, rfl, hA, hlow⟩ := hrel
              have HA := Lib.hid hA
              have HL3 := Lib.hid hlow
              have HL4 := Lib.hid (HL2.out.trans (hlow.mono (by have := HL2.out.size; have := HN.out; omega)))
              clear hA hlow
              by_cases hlt2 : k < i
              · obtain ⟨d, hd, hdi⟩ := HRG.out k hlt2
                obtain ⟨gq, oq, rfl, q1⟩ := HQC.out wr k HL4.out hlt2
                obtain ⟨gq2, oq2, eq2, q2⟩ := HQC.out wr p HL4.out hlt
                cases eq2
                rw [HCC.out] at q2
                rw [hd] at q1
                obtain ⟨g1, o1, eg1, _, _, ed, _⟩ := HCALL.out wr d HL4.out hdi
                cases eg1
                obtain ⟨g2, o2, eg2, _, ec, _, _⟩ := HCALL.out wr c HL4.out hci
                cases eg2
                have HST2 : Hid (((q.drop k).all fun d => !decide ((S.getD d.toNat default).e < (S.getD c default).b)) = (!decide ((S.getD d default).e < (S.getD c default).b) && ((q.drop (k + 1)).all fun d => !decide ((S.getD d.toNat default).e < (S.getD c default).b)))) := by
                  refine Lib.hid ?_
                  rw [drop_cons (by rw [HQM.out]; exact hlt2), hd]
                  rfl
                clear hd
                by_cases hbad : (S.getD d default).e < (S.getD c default).b
                · have HX3 := Lib.hid (show refF o S (q.drop p) st = false from by rw [hid_eq HSTEP, if_pos (by rw [HA.out, HST2.out, decide_eq_true hbad]; rfl)])
                  clear HSTEP HST2
                  generalize (S.getD d default).e = de at *
                  generalize (S.getD c default).b = cb at *
                  go_wp2_with (go_quiet (fail))
                  go_ret
                  exact ⟨by rw [HX2.out, HE.out, HX3.out]; rfl, by rw [HN.out]; exact below_drewN HL4.out _⟩
                · have HA2 := Lib.hid (show ((q.drop p).all fun d => !decide ((S.getD d.toNat default).e < (S.getD c default).b)) = ((q.drop (k + 1)).all fun d => !decide ((S.getD d.toNat default).e < (S.getD c default).b)) from by rw [HA.out, HST2.out, decide_eq_false hbad]; rfl)
                  clear HST2 HSTEP
                  generalize (S.getD d default).e = de at *
                  generalize hcb : (S.getD c default).b = cb at *
                  have HCB := Lib.hid hcb
                  clear hcb
                  go_wp2_with (go_quiet (fail))
                  go_roundw
                  case rel => exact ⟨k + 1, by omega, by omega, by go_num, HA2.out, below_drewN HL3.out _⟩
                  case measure => simp [intOf]; omega
              · obtain rfl : k = i := by omega
                have HX3 : Hid (refF o S (q.drop p) st = (answers (S.getD c default) (doF o st (S.getD c default).k (S.getD c default).x (S.getD c default).y) &&
                  refF o S (q.drop (p + 1)) (doF o st (S.getD c default).k (S.getD c default).x (S.getD c default).y).1)) := by
                  refine Lib.hid ?_
                  rw [hid_eq HSTEP, if_neg]
                  rw [HA.out, List.drop_of_length_le (by rw [HQM.out]; omega)]
                  simp
                obtain ⟨gq2, oq2, rfl, q2⟩ := HQC.out wr p HL4.out hlt
                rw [HCC.out] at q2
                obtain ⟨g2, o2, eg2, a0, a1, a2, a3, a4, a5, a6, a7, a8, a9⟩ := HCALL.out wr c HL4.out hci
                cases eg2
                have HSTW := Lib.hid (HST.out.below HL3.out)
                clear HSTEP HA
                generalize S.getD c default = cl at *
                obtain ⟨ct, cb, ce, ck, cx, cy, cz, cok, cn, clo, cln, clc⟩ := cl
                simp only at HX3 hcl a0 a1 a2 a3 a4 a5 a6 a7 a8 a9
                have HD1 := Lib.hid (refDo_walk o u11 st ck cx cy cz (wr.alloc (.cells #[.int .i64 ct, .int .i64 cb, .int .i64 ce, .int .i64 ck, .int .i64 cx, .int .i64 cy, .int .i64 cz, .bool cok, .int .i64 cn, .slice clo cln clc] 102)) (HSTW.out.below ((Below.refl _ _).alloc (Nat.le_refl _) _)) (by omega))
                have hxl := doF_length o st ck cx cy
                unfold opV at HD1
                generalize doF o st ck cx cy = x at *
                obtain ⟨xl, xo, xn⟩ := x
                simp only at hxl HX3
                have HA5 : Hid ((wr.alloc (.cells #[.int .i64 ct, .int .i64 cb, .int .i64 ce, .int .i64 ck, .int .i64 cx, .int .i64 cy, .int .i64 cz, .bool cok, .int .i64 cn, .slice clo cln clc] 102)).heap[wr.heap.size]? = some (.cells #[.int .i64 ct, .int .i64 cb, .int .i64 ce, .int .i64 ck, .int .i64 cx, .int .i64 cy, .int .i64 cz, .bool cok, .int .i64 cn, .slice clo cln clc] 102 (0, 0))) := heap_alloc_new _ _
                have HB5 : Hid (Below w2.heap.size w2 (wr.alloc (.cells #[.int .i64 ct, .int .i64 cb, .int .i64 ce, .int .i64 ck, .int .i64 cx, .int .i64 cy, .int .i64 cz, .bool cok, .int .i64 cn, .slice clo cln clc] 102))) := HL3.out.alloc HL3.out.size _
                go_wp2_with fail
                refine HD1.out.mono ?_
                rintro e w4 ⟨v4, rfl, ho4, hb4⟩
                generalize hw5 : wr.alloc (.cells #[.int .i64 ct, .int .i64 cb, .int .i64 ce, .int .i64 ck, .int .i64 cx, .int .i64 cy, .int .i64 cz, .bool cok, .int .i64 cn, .slice clo cln clc] 102) = w5 at *
                generalize wr.heap.size = p5 at *
                have hsz4 : w5.heap.size ≤ w4.heap.size := hb4.size
                have hb6 : Below w5.heap.size w5 (w4.alloc (.cells #[.bool xo, .int .i64 xn, .slice none 0 0] 26)) := hb4.alloc hsz4 _
                have HX6 := Lib.hid (ho4.nums.below ((Below.refl _ _).alloc (Nat.le_refl _) (.cells #[.bool xo, .int .i64 xn, .slice none 0 0] 26)))
                have ha6 : (w4.alloc (.cells #[.bool xo, .int .i64 xn, .slice none 0 0] 26)).heap[w4.heap.size]? = some (.cells #[.bool xo, .int .i64 xn, .slice none 0 0] 26 (0, 0)) := heap_alloc_new _ _
                have hc6 := (hb6.block p5 (Array.getElem?_eq_some_iff.1 HA5.out).1).trans HA5.out
                have hz2 : N ≤ w2.heap.size := by have := HL2.out.size; have := HN.out; omega
                have HL6 := Lib.hid (HL2.out.trans ((HB5.out.trans (hb6.mono HB5.out.size)).mono hz2))
                have e0 := (cell_of ha6 0).trans rfl
                have e1 := (cell_of ha6 1).trans rfl
                have e2 := (cell_of ha6 2).trans rfl
                have f7 := (cell_of hc6 7).trans rfl
                have f8 := (cell_of hc6 8).trans rfl
                have f9 := (cell_of hc6 9).trans rfl
                have H53 : Hid (∀ W, Calls Tryd.prog 53 #[.agg #[.bool xo, .int .i64 xn, .slice none 0 0], .agg #[.bool cok, .int .i64 cn, .slice clo cln clc]] W fun e w' => e = .returned (.bool (xo == cok && xn == cn && decide (cln = 0))) ∧ Below W.heap.size W w') := Lib.hid (fun W => refSameA_walk xo cok xn cn clo cln clc W hcl)
                obtain ⟨B, hB⟩ : ∃ B, (xo == cok && xn == cn && decide (cln = 0)) = B := ⟨_, rfl⟩
                rw [hB] at H53
                have HST5 : Hid (refF o S (q.drop p) st = (B && refF o S (q.drop (p + 1)) xl)) := by
                  refine Lib.hid ?_
                  rw [hid_eq HX3, ← hB]
                  rfl
                clear HX3 hB hb4 hb6 ho4 ha6 hc6 a0 a1 a2 a3 a4 a5 a6 a7 a8 a9
                unfold ansV at *
                simp only at *
                go_wp2_with fail
                generalize w4.alloc (.cells #[.bool xo, .int .i64 xn, .slice none 0 0] 26) = w6 at *
                generalize w4.heap.size = p4 at *
                refine (H53.out _).mono ?_
                rintro e w7 ⟨rfl, hb7⟩
                have HX7 := Lib.hid (HX6.out.below hb7)
                have HL7 := Lib.hid (HL6.out.trans (hb7.mono (by have := HL6.out.size; have := HN.out; omega)))
                clear hb7 e0 e1 e2 f7 f8 f9
                cases B with
                | false =>
                  have HX3 := Lib.hid (show refF o S (q.drop p) st = false from by rw [hid_eq HST5]; rfl)
                  clear HST5
                  go_wp2_with fail
                  go_ret
                  exact ⟨by rw [HX2.out, HE.out, HX3.out]; rfl, by rw [HN.out]; exact HL7.out⟩
                | true =>
                  have HX3 := Lib.hid (show refF o S (q.drop p) st = refF o S (q.drop (p + 1)) xl from by rw [hid_eq HST5]; rfl)
                  clear HST5
                  go_wp2_with fail
                  go_roundw
                  case rel => exact ⟨p + 1, by omega, by go_num, xl, by rw [HE.out, HX3.out], HX7.out, by omega, HL7.out⟩
                  case measure => simp [intOf]; omega
          · obtain rfl : p = i := by omega
            have HX3 := Lib.hid (show refF o S (q.drop p) st = true from by rw [List.drop_of_length_le (by rw [HQM.out]; omega)]; rfl)
            clear hlow
            go_wp2_with fail
            go_ret
            exact ⟨by rw [HX2.out, HE.out, HX3.out]; rfl, by rw [HN.out]; exact HL2.out⟩
  · have hne : ¬ (m : Int) = (n : Int) := by omega
    have HX := Lib.hid (show refFollowsF o S q s = false from by rw [hid_eq HF]; simp [hmn])
    clear HF hC hq hs hSn hqm hln
    go_enter Tryd.func21, Tryd.ntmps21
    go_wp2_with fail
    go_ret
    exact ⟨by rw [HX.out]; rfl, Below.refl _ _⟩
end Go.Proofs.YtfcaebceklhbkaaDoor

/-
  append([]T{}, x...): a copy.
-/
namespace Go.Proofs.YtfcaebceklhbkaaDoor
open Go.RowKit
set_option linter.unusedVariables false

theorem wpList_append_copy {P : Program} {w : World} {ops : Array Oper} {rest : List Oper} {o : Oper} {a : Act} {Q : Exit → Act → World → Prop} (hgd : o.guard = none) (s x : Operand) (t : TypeId)
    (ho : o.op = .call { callee := .builtin .append, args := #[s, x], argTypes := #[t, t] })
    (e : TypeId) (i : TypeInfo) (z : Value) (k bytes : Nat) (ht : P.underlying t = some (.slice e)) (hi : P.info? e = some i) (hz : i.zero = some z)
    (hsize : i.size = k) (hk : 0 < k) (hby : i.bytes = bytes) (hzs : z.cells.size = k)
    (hs : a.eval s = .slice (some ⟨w.heap.size, 0, none⟩) 0 0) (m : Nat) (news : List Value) (hx : SrcOf w k (a.eval x) m news)
    (h63 : m ≤ maxLen) (hbytes : m * bytes ≤ 140737488355328)
    (h : ∀ v' w', w'.ownsRow w.heap.size e k v' m news → Below w.heap.size w w' → wpList P ops Q rest (a.put o.dst v') w') : wpList P ops Q (o :: rest) a (w.alloc (.cells #[] e)) := by
  have hb : Below w.heap.size w (w.alloc (.cells #[] e)) := (Below.refl _ _).alloc (Nat.le_refl _) _
  have hown : (w.alloc (.cells #[] e)).ownsRow w.heap.size e k (.slice (some ⟨w.heap.size, 0, none⟩) 0 0) 0 [] :=
    ⟨by simp, .inr ⟨w.heap.size, 0, #[], rfl, Nat.le_refl _, heap_alloc_new w _, Nat.le_refl _, Nat.zero_le _, by simp, by simp⟩⟩
  refine wpList_append_row hgd s x t ho w.heap.size e i z k bytes ht hi hz hsize hk hby hzs _ 0 [] hs hown m news (hx.below hb) (by omega) (by simpa using hbytes) (by simp) fun v' w' ha => ?_
  obtain ⟨h1, h2, _⟩ := ha
  simp only [Nat.zero_add, List.nil_append] at h1
  exact h v' w' h1 (hb.grown h2 (by simp) (fun k hk => by cases hk; exact Nat.le_refl _))
theorem nums_row {w : World} {N e : Nat} {v : Value} {l : List Int} (h : w.ownsRow N e 1 v l.length (numV l)) : Nums w v l := by
  have hc := fun g => h.cells (g := g)
  rcases h.2 with ⟨rfl, h0⟩ | ⟨g, cap, cur, rfl, _⟩
  · exact ⟨none, 0, by rw [h0], .inl (List.eq_nil_of_length_eq_zero h0)⟩
  · refine ⟨_, cap, rfl, .inr ⟨g, 0, rfl, fun i hi => ?_⟩⟩
    have := hc g rfl i (.int .i64 (l.getD i 0)) (by simp [numV, List.getD, hi])
    rwa [addr_add] at this
end Go.Proofs.YtfcaebceklhbkaaDoor

/-
  The law JudgeFollows (f5): the walk.
-/
namespace Go.Proofs.YtfcaebceklhbkaaDoor
open Go.RowKit
set_option linter.unusedVariables false

set_option maxRecDepth 100000 in
set_option maxHeartbeats 8000000 in
theorem followsLaw_walk (o : Int) (v : Value) (s : List Int) (ao qo : Option Addr) (n co m qc : Nat) (S : List Cl) (q : List Int) (w : World) (hSn : S.length = n) (hC : CallRow w ao S) (hCn : ao = none → n = 0 ∧ co = 0) (hn : n ≤ 1000000) (hln : ∀ c ∈ S, c.ln ≤ 9223372036854775807)
    (hq : Nums w (.slice qo m qc) q) (hqs : SrcOf w 1 (.slice qo m qc) m (numV q)) (hqm : q.length = m) (hs : Nums w v s) (hss : SrcOf w 1 v s.length (numV s)) (hsl : s.length ≤ 2000000) (hm : m ≤ 2000000)
    (hfix : Calls Tryd.prog 11 #[] w fun e w' => e = .returned (.bool true) ∧ Below w.heap.size w w') :
    Calls Tryd.prog 5 #[.int .i64 o, v, .slice ao n co, .slice qo m qc] w fun e w' => e = .returned (.bool true) ∧ Below w.heap.size w w' := by
  obtain ⟨i2, hi2, z2, s2, b2⟩ := info_parts info2
  obtain ⟨i3, hi3, z3, s3, b3⟩ := info_parts info3
  obtain ⟨i81, hi81, z81, s81, b81⟩ := info_parts info81
  have HFX := Lib.hid hfix
  have HC := Lib.hid hC
  have HCS := Lib.hid (src_calls hC hSn hCn)
  have HQ := Lib.hid hq
  have HQS := Lib.hid hqs
  have HS := Lib.hid hs
  have HSS := Lib.hid hss
  have H20 := Lib.hid (fun (v1 v2 v3 : Value) (W : World) (h1 : Nums W v1 s) (h2 : ∃ a2 c2, v2 = .slice a2 n c2 ∧ CallRow W a2 S) (h3 : Nums W v3 q) => show Calls Tryd.prog 20 #[.int .i64 o, v1, v2, v3] W (fun e w' => e = .returned (.bool (followsF o S q s)) ∧ Below W.heap.size W w') from by
    obtain ⟨a2, c2, e2, hc2⟩ := h2
    obtain ⟨a3, c3, e3⟩ := nums_len h3
    rw [e2, e3]
    exact follows_walk o v1 s a2 a3 n c2 q.length c3 S q W hSn hc2 hn hln (e3 ▸ h3) rfl h1 hsl (by omega))
  have H18 := Lib.hid (fun W h => refs_walk ao n co S W h hSn hn)
  have H21 := Lib.hid (fun a2 c2 W h1 h2 h3 => refFollows_walk o v s a2 qo n c2 m qc S q W hSn h1 hn hln h2 hqm h3 hsl (by omega))
  have HSAME := Lib.hid (follows_same o S q s)
  clear hfix hC hq hqs hs hss hln
  go_enter Tryd.func5, Tryd.ntmps5
  go_wp2_with fail
  refine HFX.out.mono ?_
  rintro e w1 ⟨rfl, hb1⟩
  have HB1 := Lib.hid hb1
  have HSS1 := Lib.hid (HSS.out.below hb1)
  clear hb1
  go_wp2_with (first
    | (at_builtin; refine wpList_append_copy rfl (.tmp 12) (.tmp 13) 22 rfl 2 i2 _ 1 8 Tryd.underlying22 hi2 z2 s2 (by decide) b2 rfl rfl s.length (numV s) HSS1.out ?l1 ?l2 ?_; go_must (case l1 => (unfold maxLen; omega)); go_must (case l2 => omega); intro v2 w2 h2 hb2; have HN2 := Lib.hid (nums_row h2); have HB2 := Lib.hid (HB1.out.trans (hb2.mono HB1.out.size)); have HCS2 := Lib.hid (HCS.out.below HB2.out); clear h2 hb2)
    | (at_builtin; refine wpList_append_copy rfl (.tmp 15) (.tmp 16) 37 rfl 81 i81 _ 10 96 Tryd.underlying37 hi81 z81 s81 (by decide) b81 rfl rfl n (callsV S) HCS2.out ?l1 ?l2 ?_; go_must (case l1 => (unfold maxLen; omega)); go_must (case l2 => omega); intro v3 w3 h3 hb3; have HR3 := Lib.hid h3; have HN3 := Lib.hid (HN2.out.below hb3); have HB3 := Lib.hid (HB2.out.trans (hb3.mono HB2.out.size)); have HQS3 := Lib.hid (HQS.out.below HB3.out); clear h3 hb3)
    | (at_builtin; go_must (refine wpList_append_copy rfl (.tmp 18) (.tmp 19) 38 rfl 3 i3 _ 1 8 Tryd.underlying38 hi3 z3 s3 (by decide) b3 rfl rfl m (numV q) HQS3.out ?l1 ?l2 ?_); go_must (case l1 => (unfold maxLen; omega)); go_must (case l2 => omega); intro v4 w4 h4 hb4; have HR4 := Lib.hid h4; have HB34 := Lib.hid hb4; clear h4 hb4))
  have hcr : ∃ a2 c2, v3 = .slice a2 n c2 ∧ CallRow w4 a2 S := by
    obtain ⟨a2, c2, e2, hc2, _⟩ := row_calls (S := S) (by rw [hSn]; exact HR3.out)
    exact ⟨a2, c2, by rw [e2, hSn], hc2.below HB34.out⟩
  refine (H20.out v2 v3 v4 w4 (HN3.out.below HB34.out) hcr (nums_row (by rw [hqm]; exact HR4.out))).mono ?_
  rintro e w5 ⟨rfl, hb5⟩
  have HB5 := Lib.hid (HB3.out.trans ((HB34.out.trans (hb5.mono HB34.out.size)).mono HB3.out.size))
  clear hcr hb5
  go_wp2_with fail
  refine (H18.out w5 (HC.out.below HB5.out)).mono ?_
  rintro e w6 ⟨a6, c6, rfl, hc6, hb6⟩
  have HC6 := Lib.hid hc6
  have HB6 := Lib.hid (HB5.out.trans (hb6.mono HB5.out.size))
  clear hc6 hb6
  go_wp2_with fail
  refine (H21.out a6 c6 w6 HC6.out (HQ.out.below HB6.out) (HS.out.below HB6.out)).mono ?_
  rintro e w7 ⟨rfl, hb7⟩
  have HB7 := Lib.hid (HB6.out.trans (hb7.mono HB6.out.size))
  clear hb7
  rw [HSAME.out]
  generalize refFollowsF o S q s = B at *
  go_wp2_with fail
  go_ret
  exact ⟨by simp, HB7.out⟩
end Go.Proofs.YtfcaebceklhbkaaDoor
