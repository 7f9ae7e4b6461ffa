/-
  The contract of judge's search.on: one step.
-/
import Derived.Test.YtfcaebceklhbkaaDoorOn
import Derived.Deep.DeepCutAuto
import Derived.Deep.LoopGhost
namespace Go.Proofs.YtfcaebceklhbkaaDoor
open Go.RowKit Go.Maps
set_option linter.unusedVariables false

/-- What the search stands on. -/
structure OnIn (w0 : World) (o : Int) (S : List Cl) (sb m : Nat) (ao : Option Addr) (n co : Nat) (r : Nat) (W : World) (ov : Value) (ord : List Nat) (f : Lit → Option (DataW Unit)) (cnt d : Nat) (v : Value) (s : List Int) : Prop where
  low : Below w0.heap.size w0 W
  st : OnSt w0.heap.size sb m (.slice ao n co) o W ov ord cnt f
  dead : DeadOk o S f
  left : ord.length + r = n
  pcs : pc n d = ord.length
  dlt : d < 2 ^ n
  ok : StOk sb m ov W v s
  fit : ∀ x ∈ s, Fits x
  len : s.length + r ≤ 3000000
  bound : cnt + 13 ^ r ≤ 13 ^ 12

/-- Ahead of the k-th round. -/
structure OnLp (N : Nat) (o : Int) (S : List Cl) (sb m : Nat) (cv : Value) (W2 : World) (ov : Value) (ord : List Nat) (cnt r d : Nat) (s : List Int) (k : Nat) (ov' : Value) (f' : Lit → Option (DataW Unit)) (wr : World) : Prop where
  st : OnSt N sb m cv o wr ov' ord (cnt + k * 13 ^ r) f'
  dead : DeadOk o S f'
  fr : Fr sb m W2 ov wr ov'
  none' : upTo o S r d s k = none
theorem OnLp.next {N : Nat} {o : Int} {S : List Cl} {sb m : Nat} {cv : Value} {W2 : World} {ov : Value} {ord : List Nat} {cnt r d : Nat} {s : List Int} {k : Nat} {ov' : Value} {f' : Lit → Option (DataW Unit)} {wr wr' : World}
    (h : OnLp N o S sb m cv W2 ov ord cnt r d s k ov' f' wr) (hb : Below wr.heap.size wr wr') (hs : stepF o S r d s k = none) : OnLp N o S sb m cv W2 ov ord cnt r d s (k + 1) ov' f' wr' :=
  ⟨(h.st.below hb).up (by rw [Nat.add_mul]; omega), h.dead, h.fr.trans (Fr.below hb), by rw [upTo_succ h.none', hs]⟩

theorem OwnNums.keep {N N0 : Nat} {w w' : World} {v : Value} {l : List Int} (h : OwnNums N w v l) (hN : N0 ≤ N) (hk : ∀ g, N ≤ g → g < w.heap.size → w'.heap[g]? = w.heap[g]?) : OwnNums N0 w' v l := by
  rcases h with h | ⟨g, p, c, cur, rfl, hg, hb, hc, hs, hx⟩
  · exact .inl h
  · exact .inr ⟨g, p, c, cur, rfl, by omega, (hk g hg (lt_of_heap hb)).trans hb, hc, hs, hx⟩
theorem nextA {w5 w' : World} {v : Value} {l : List Int} (h : OwnNums w5.drew.heap.size w' v l) (x : Obj) : OwnNums w5.heap.size (w'.alloc x) v l :=
  h.keep (Nat.le_refl _) fun g _ hg => Below.heap_alloc _ _ _ hg
theorem nextB {w5 w' : World} {v : Value} {l : List Int} {a b c : Value} {x : Obj} (h : OwnNums (w5.alloc x).drew.heap.size w' v l) :
    OwnNums w5.heap.size (((w'.setCell ⟨w5.heap.size, 0, none⟩ a).setCell ⟨w5.heap.size, 1, none⟩ b).setCell ⟨w5.heap.size, 2, none⟩ c) v l := by
  have hs : (w5.alloc x).drew.heap.size = w5.heap.size + 1 := by show (w5.alloc x).heap.size = _; simp
  refine h.keep (by omega) fun g hg _ => ?_
  rw [Below.heap_setCell _ _ _ _ (by show g ≠ w5.heap.size; omega), Below.heap_setCell _ _ _ _ (by show g ≠ w5.heap.size; omega), Below.heap_setCell _ _ _ _ (by show g ≠ w5.heap.size; omega)]

theorem pow_small {k : Nat} (hk : k < 62) : 2 ^ k < 9223372036854775808 := Nat.lt_of_lt_of_le (Nat.pow_lt_pow_right (by decide) (show k < 63 by omega)) (by decide)
theorem bit_or (d k : Nat) (hd : d < 8192) (hk : k < 62) : bits .or .i64 (d : Int) (wrap64 (2 ^ k)) = ((d ||| 1 <<< k : Nat) : Int) := by
  have h2 := pow_small hk
  have h4 : (2 : Int) ^ k = ((2 ^ k : Nat) : Int) := by norm_cast
  rw [h4, Nat.one_shiftLeft]
  generalize 2 ^ k = x at *
  have e : wrap64 (x : Int) = (x : Int) := by
    unfold wrap64
    omega
  rw [e, (bits_nat .i64 63 (by decide) wraps_i64 d x (by omega) h2).2]
theorem info3 : (Tryd.prog.info? 3).map (fun i => (i.zero, i.size, i.bytes)) = some (some (.int .i64 0), 1, 8) := by kernel_rfl
theorem elem3 : plainElem (H := Unit) Tryd.prog 3 (.int .i64 1) = some (.lit (.int .i64 1), []) := elem_int 1 (by decide)

set_option maxRecDepth 100000 in
set_option maxHeartbeats 16000000 in
theorem on_step (w0 : World) (o : Int) (S : List Cl) (sb m : Nat) (ao : Option Addr) (n co : Nat) (hn : n ≤ 12) (hSn : S.length = n) (hC : CallRow w0 ao S) (hT : Tab w0) (hDo : DoOk o) (hSf : ∀ c ∈ S, Fits c.x ∧ Fits c.y ∧ c.ln ≤ 9223372036854775807)
    (r : Nat) (ih : ∀ W ov ord f cnt d v s, OnIn w0 o S sb m ao n co r W ov ord f cnt d v s → Calls Tryd.prog 48 #[.pointer (some ⟨sb, 0, none⟩), .int .i64 ((d : Nat) : Int), v] W (OnPost w0.heap.size o S sb m (.slice ao n co) W ov ord cnt r d s))
    (W : World) (ov : Value) (ord : List Nat) (f : Lit → Option (DataW Unit)) (cnt d : Nat) (v : Value) (s : List Int) (h : OnIn w0 o S sb m ao n co (r + 1) W ov ord f cnt d v s) :
    Calls Tryd.prog 48 #[.pointer (some ⟨sb, 0, none⟩), .int .i64 (d : Int), v] W (OnPost w0.heap.size o S sb m (.slice ao n co) W ov ord cnt (r + 1) d s) := by
  have hb1 : Below W.heap.size W (W.alloc (.cells #[.int .i64 d] 3)) := (Below.refl _ _).alloc (Nat.le_refl _) _
  have h1 := h.st.below hb1
  have HIN := Lib.hid h
  have HIH := Lib.hid ih
  have HC := Lib.hid hC
  have HT := Lib.hid hT
  have HDO := Lib.hid hDo
  have HSF := Lib.hid hSf
  have HSN := Lib.hid hSn
  have HN0 := Lib.hid (show w0.heap.size ≤ W.heap.size from h.low.size)
  have hW1 : (W.alloc (.cells #[.int .i64 d] 3)).heap.size = W.heap.size + 1 := by simp
  have hbx : (W.alloc (.cells #[.int .i64 d] 3)).heap[W.heap.size]? = some (.cells #[.int .i64 d] 3 (0, 0)) := heap_alloc_new W _
  obtain ⟨og, ol, oc, rfl, hol⟩ : ∃ og ol oc, ov = .slice og ol oc ∧ ol = ord.length := by
    rcases h.st.row.2 with ⟨e, h⟩ | ⟨g, cap, cur, e, _⟩
    · exact ⟨none, _, 0, e, h.symm⟩
    · exact ⟨_, _, cap, e, rfl⟩
  have HOL := Lib.hid hol
  have hlt : ol < n := by have := h.left; omega
  have hd12 : d < 8192 := by
    have h1 := h.dlt
    have h2 : 2 ^ n ≤ 2 ^ 12 := Nat.pow_le_pow_right (by omega) hn
    omega
  have HLOW := Lib.hid (h.low.trans (hb1.mono h.low.size))
  have HOK := Lib.hid (h.ok.fr (Fr.below hb1))
  have HFR := Lib.hid (Fr.below (sb := sb) (m := m) (ov := .slice og ol oc) hb1)
  have HS1 := Lib.hid h1
  have hsl : s.length ≤ 2999999 := by have := h.len; omega
  have HBX := Lib.hid hbx
  have hobx : Hid ((Value.slice og ol oc).ownBlock ≠ some W.heap.size) := fun e => by have := (row_block h.st.row e).2; omega
  have hmx : m ≠ W.heap.size := by have := h.st.map.lt; omega
  have hsx : sb ≠ W.heap.size := by have := lt_of_heap h.st.sbk; omega
  have c1 := (cell_of h1.sbk 1).trans rfl
  have c2 := (cell_of h1.sbk 2).trans rfl
  have c3 := (cell_of h1.sbk 3).trans rfl
  have cx := (cell_of hbx 0).trans rfl
  have H60 := Lib.hid (fun W' hW' => point_walk (d : Int) v s W' ⟨by omega, by omega⟩ ((h.ok.fr (Fr.below hb1)).nums.below hW') (by omega) h.fit (hT.below (HLOW.out.trans (hW'.mono (Nat.le_trans HN0.out (by rw [hW1]; omega))))))
  have hne : ((ol : Int) == (n : Int)) = false := by rw [beq_eq_false_iff_ne]; omega
  have HKEY : Hid ((pointS (d : Int) s).length ≤ maxLen) := by
    have h1 := itoa_len (v := (d : Int)) (by omega) (by omega)
    have h2 := numsS_len (s := s) (fun x hx => h.fit x hx)
    show (pointS (d : Int) s).length ≤ maxLen
    simp only [pointS, List.length_append, maxLen]
    omega
  clear h h1 ih hC hT hDo hSf hSn hb1 hol hbx
  go_enter Tryd.func48, Tryd.ntmps48
  go_wp2_with fail
  generalize W.alloc (.cells #[.int .i64 d] 3) = W1 at *
  generalize hb : W.heap.size = b at *
  have HB4 := Lib.hid hb
  clear hb
  go_wp2_with (go_quiet (fail))
  refine (H60.out _ (below_drewN (Below.refl _ _) _)).mono ?_
  rintro e W2 ⟨rfl, hb2⟩
  have hb2' : Below W1.heap.size W1 W2 := (below_drewN (Below.refl _ _) nq).trans hb2
  have hs2 := HS1.out.below hb2'
  have HS2 := Lib.hid hs2
  have HOK2 := Lib.hid (HOK.out.fr (Fr.below hb2'))
  have HFR2 := Lib.hid (HFR.out.trans (Fr.below hb2'))
  have HLOW2 := Lib.hid (HLOW.out.trans (hb2'.mono (by rw [hW1]; exact Nat.le_trans HN0.out (by omega))))
  have hbx2 := (hb2'.block b (by rw [hW1]; omega)).trans HBX.out
  have HBX2 := Lib.hid hbx2
  have hW2 : b + 1 ≤ W2.heap.size := by have := hb2'.size; omega
  have HM2 := Lib.hid hs2.map
  have HKO : Hid (keyOf Tryd.prog 9 (.string ⟨(pointS (d : Int) s).toArray⟩) = some (.string (pointS (d : Int) s))) := key_point HKEY.out
  have HDE := Lib.hid (HIN.out.dead (.string (pointS (d : Int) s)))
  have d1 := (cell_of hs2.sbk 1).trans rfl
  have d2 := (cell_of hs2.sbk 2).trans rfl
  have d3 := (cell_of hs2.sbk 3).trans rfl
  have dx := (cell_of hbx2 0).trans rfl
  clear hb2 hb2' hs2 c1 c2 c3 cx hbx2
  cases hfk : f (.string (pointS (d : Int) s)) with
  | some x =>
    obtain ⟨e1, e2⟩ := HDE.out x hfk
    subst e1
    have HNO := Lib.hid (e2 d s rfl)
    have HLK : Hid ((f (.string (pointS (d : Int) s)) = none ∧ (1 : Int) = 0) ∨ f (.string (pointS (d : Int) s)) = some (.lit (.int .i64 1))) := .inr hfk
    clear e2 hfk
    go_wp2_with (at_lookup; go_must (refine wpList_look rfl _ _ 92 rfl 9 3 keyed_string Tryd.underlying92 Tryd.underlying3 (zero_int _) m cnt f rfl HM2.out _ (.string (pointS (d : Int) s)) rfl HKO.out 1 HLK.out ?_))
    go_ret
    refine ⟨_, ord, f, HS2.out.up (by have := Nat.pos_of_neZero (13 ^ (r + 1)); omega), HIN.out.dead, HFR2.out, .inr ⟨?_, rfl, rfl⟩⟩
    have h1 := HNO.out
    rw [HSN.out, HIN.out.pcs] at h1
    have h2 := HIN.out.left
    rwa [show n - ord.length = r + 1 by omega] at h1
  | none =>
    have HLK := Lib.hid hfk
    clear hfk
    go_wp2_with (at_lookup; go_must (refine wpList_look rfl _ _ 92 rfl 9 3 keyed_string Tryd.underlying92 Tryd.underlying3 (zero_int _) m cnt f rfl HM2.out _ (.string (pointS (d : Int) s)) rfl HKO.out 0 (.inl ⟨HLK.out, rfl⟩) ?_))
    go_loopw [38] (fun kv wr => ∃ k : Nat, ∃ ov' f', k ≤ n ∧ kv = .int .i64 k ∧ OnLp w0.heap.size o S sb m (.slice ao n co) W2 (.slice og ol oc) ord cnt r d s k ov' f' wr) (fun kv _ => n - (intOf kv).toNat)
    case atStart => exact ⟨0, _, f, by omega, rfl, (HS2.out.up (by omega)), HIN.out.dead, .refl, rfl⟩
    case round =>
      obtain ⟨k, ov', f', hk, rfl, hl⟩ := hrel
      have HL := Lib.hid hl
      have hst := hl.st
      have hkb := hl.fr.kept b (by omega) (fun e => hsx e.symm) (fun e => hmx e.symm) hobx.out
      have hbxr := hkb.1.trans HBX2.out
      have HBXR := Lib.hid hbxr
      have HOB := Lib.hid hkb.2
      have HLOWR := Lib.hid (HLOW2.out.trans (hl.fr.low HS2.out))
      have HST := Lib.hid hst
      have hszb : b + 1 ≤ wr.heap.size := by have := hl.fr.size; omega
      by_cases hlt2 : k < n
      · have hk64 : k < 64 := by omega
        obtain ⟨g, p, rfl, hc⟩ : ∃ g o, ao = some ⟨g, o, none⟩ ∧ ∀ i, i < n → ∀ j, j < 10 → wr.cell? ⟨g, o + i * 10 + j, none⟩ = (S.getD i default).cells[j]? := by
          rcases HC.out.below HLOWR.out with h | ⟨g, o, h1, h2⟩
          · have := HSN.out; rw [h] at this; simp at this; omega
          · exact ⟨g, o, h1, by rw [← HSN.out]; exact h2⟩
        obtain ⟨h0, h1, h2, h3, h4, h5, h6, h7, h8, h9⟩ := CallRow.at (hc k hlt2)
        have HSTEP : Hid (stepF o S r d s k = if d.testBit k || !mayF S d.testBit k then none
          else if answers (S.getD k default) (doF o s (S.getD k default).k (S.getD k default).x (S.getD k default).y) then
            (srch o S r (d ||| 1 <<< k) (doF o s (S.getD k default).k (S.getD k default).x (S.getD k default).y).1).map (k :: ·)
          else none) := rfl
        have HXY := Lib.hid (HSF.out (S.getD k default) (by rw [List.getD_eq_getElem?_getD, List.getElem?_eq_getElem (by rw [HSN.out]; exact hlt2)]; exact List.getElem_mem _))
        clear hc
        generalize S.getD k default = cl at *
        obtain ⟨ct, cb, ce, ck, cx, cy, cz, cok, cn, clo, cln, clc⟩ := cl
        simp only at h0 h1 h2 h3 h4 h5 h6 h7 h8 h9 HSTEP HXY
        have hal : Below wr.heap.size wr (wr.alloc (.cells #[.int .i64 ct, .int .i64 cb, .int .i64 ce, .int .i64 ck, .int .i64 cx, .int .i64 cy, .int .i64 cz, .bool cok, .int .i64 cn, .slice clo cln clc] 81)) := (Below.refl _ _).alloc (Nat.le_refl _) _
        have hst4 := hst.below hal
        have HST4 := Lib.hid hst4
        have hbx4 := (hal.block b (by omega)).trans hbxr
        have HBX4 := Lib.hid hbx4
        have e0 := (cell_of hst4.sbk 0).trans rfl
        have e1 := (cell_of hst4.sbk 1).trans rfl
        have e2 := (cell_of hst4.sbk 2).trans rfl
        have ex := (cell_of hbx4 0).trans rfl
        have HAL := Lib.hid hal
        have hbit := bit_and d k hd12 hk64
        rw [Nat.min_eq_left (by omega)] at hbit
        have HMAY := Lib.hid (fun W' (hW' : Below (wr.alloc (.cells #[.int .i64 ct, .int .i64 cb, .int .i64 ce, .int .i64 ck, .int .i64 cx, .int .i64 cy, .int .i64 cz, .bool cok, .int .i64 cn, .slice clo cln clc] 81)).heap.size (wr.alloc (.cells #[.int .i64 ct, .int .i64 cb, .int .i64 ce, .int .i64 ck, .int .i64 cx, .int .i64 cy, .int .i64 cz, .bool cok, .int .i64 cn, .slice clo cln clc] 81)) W') => may_walk (some ⟨g, p, none⟩) n co k S d.testBit (.pointer (some ⟨b, 0, none⟩)) W' (HC.out.below ((HLOWR.out.trans (hal.mono (Nat.le_trans (Nat.le_trans HN0.out (by omega)) hszb))).trans (hW'.mono (Nat.le_trans (Nat.le_trans HN0.out (by omega)) (Nat.le_trans hszb hal.size))))) HSN.out (by omega) hlt2
          (fun W5 k5 h5 hk5 => bit_walk d k5 _ W5 ((h5.cell (p := ⟨b, 0, none⟩) (Nat.lt_of_lt_of_le (Nat.lt_of_lt_of_le (Nat.lt_of_succ_le hszb) hal.size) hW'.size)).trans ((hW'.cell (p := ⟨b, 0, none⟩) (Nat.lt_of_lt_of_le (Nat.lt_of_succ_le hszb) hal.size)).trans ((cell_of hbx4 0).trans rfl))) hd12 (by omega)))
        clear hl hst hkb hbxr hst4 hbx4
        have hn4 : (wr.alloc (.cells #[.int .i64 ct, .int .i64 cb, .int .i64 ce, .int .i64 ck, .int .i64 cx, .int .i64 cy, .int .i64 cz, .bool cok, .int .i64 cn, .slice clo cln clc] 81)).heap[wr.heap.size]? = some (.cells #[.int .i64 ct, .int .i64 cb, .int .i64 ce, .int .i64 ck, .int .i64 cx, .int .i64 cy, .int .i64 cz, .bool cok, .int .i64 cn, .slice clo cln clc] 81 (0, 0)) := heap_alloc_new wr _
        have HN4 := Lib.hid hn4
        have hs4 : (wr.alloc (.cells #[.int .i64 ct, .int .i64 cb, .int .i64 ce, .int .i64 ck, .int .i64 cx, .int .i64 cy, .int .i64 cz, .bool cok, .int .i64 cn, .slice clo cln clc] 81)).heap.size = wr.heap.size + 1 := by simp
        have HS4 := Lib.hid hs4
        clear hal hn4 hs4
        cases htb : d.testBit k with
        | true =>
          rw [htb] at hbit
          have HNO := Lib.hid (show stepF o S r d s k = none from by rw [hid_eq HSTEP, htb]; rfl)
          clear HSTEP htb
          go_wp2_with fail
          go_roundw
          case rel => exact ⟨k + 1, ov', f', by omega, by go_num, HL.out.next HAL.out HNO.out⟩
          case measure => simp [intOf]; omega
        | false =>
          rw [htb] at hbit
          go_wp2_with fail
          generalize wr.alloc (.cells #[.int .i64 ct, .int .i64 cb, .int .i64 ce, .int .i64 ck, .int .i64 cx, .int .i64 cy, .int .i64 cz, .bool cok, .int .i64 cn, .slice clo cln clc] 81) = w4 at *
          refine (HMAY.out w4 (Below.refl _ _)).mono ?_
          rintro e w5 ⟨rfl, hb5⟩
          have HB5 := Lib.hid (HAL.out.trans (hb5.mono (by rw [HS4.out]; omega)))
          cases hmf : mayF S d.testBit k with
          | false =>
            have HNO := Lib.hid (show stepF o S r d s k = none from by rw [hid_eq HSTEP, htb, hmf]; rfl)
            clear HSTEP htb hmf hb5 HMAY
            go_wp2_with fail
            go_roundw
            case rel => exact ⟨k + 1, ov', f', by omega, by go_num, HL.out.next HB5.out HNO.out⟩
            case measure => simp [intOf]; omega
          | true =>
            have HSTEP2 := Lib.hid (show stepF o S r d s k = if answers ⟨ct, cb, ce, ck, cx, cy, cz, cok, cn, clo, cln, clc⟩ (doF o s ck cx cy) then (srch o S r (d ||| 1 <<< k) (doF o s ck cx cy).1).map (k :: ·) else none from by rw [hid_eq HSTEP, htb, hmf]; rfl)
            have hst5 := HST4.out.below hb5
            have HST5 := Lib.hid hst5
            have hn5 := (hb5.block wr.heap.size (by rw [HS4.out]; omega)).trans HN4.out
            have HN5 := Lib.hid hn5
            have hbx5 := (hb5.block b (by rw [HS4.out]; omega)).trans HBX4.out
            have HBX5 := Lib.hid hbx5
            have HL5 := Lib.hid (HL.out.fr.trans (Fr.below HB5.out))
            have hnu5 := (HOK2.out.fr HL5.out).nums
            have HNU5 := Lib.hid hnu5
            have x0 := (cell_of hst5.sbk 0).trans rfl
            have y3 := (cell_of hn5 3).trans rfl
            have y4 := (cell_of hn5 4).trans rfl
            have y5 := (cell_of hn5 5).trans rfl
            have y6 := (cell_of hn5 6).trans rfl
            have x0' : ∀ o1, (w5.alloc o1).cell? ⟨sb, 0, none⟩ = some (.int .i64 o) := fun o1 => (World.cell?_of_block (Below.heap_alloc _ _ _ (World.block_lt_of_cell? _ _ x0))).trans x0
            have y3' : ∀ o1, (w5.alloc o1).cell? ⟨wr.heap.size, 3, none⟩ = some (.int .i64 ck) := fun o1 => (World.cell?_of_block (Below.heap_alloc _ _ _ (World.block_lt_of_cell? _ _ y3))).trans y3
            have y4' : ∀ o1, (w5.alloc o1).cell? ⟨wr.heap.size, 4, none⟩ = some (.int .i64 cx) := fun o1 => (World.cell?_of_block (Below.heap_alloc _ _ _ (World.block_lt_of_cell? _ _ y4))).trans y4
            have y5' : ∀ o1, (w5.alloc o1).cell? ⟨wr.heap.size, 5, none⟩ = some (.int .i64 cy) := fun o1 => (World.cell?_of_block (Below.heap_alloc _ _ _ (World.block_lt_of_cell? _ _ y5))).trans y5
            have y6' : ∀ o1, (w5.alloc o1).cell? ⟨wr.heap.size, 6, none⟩ = some (.int .i64 cz) := fun o1 => (World.cell?_of_block (Below.heap_alloc _ _ _ (World.block_lt_of_cell? _ _ y6))).trans y6
            have HF1 := Lib.hid (doF_fits (o := o) (k := ck) HIN.out.fit HXY.out.1 HXY.out.2.1)
            have HF2 := Lib.hid (doF_length o s ck cx cy)
            have H12 : Hid (∀ W, Nums W v s → Calls Tryd.prog 12 #[.int .i64 o, v, .agg #[.int .i64 ck, .int .i64 cx, .int .i64 cy, .int .i64 cz]] W fun e w' => ∃ v', e = .returned (.tuple #[v', .agg #[.bool (doF o s ck cx cy).2.1, .int .i64 (doF o s ck cx cy).2.2, .slice none 0 0]]) ∧ OwnNums W.heap.size w' v' (doF o s ck cx cy).1 ∧ Below W.heap.size W w') :=
              fun W h => HDO.out v s ck cx cy cz W h (by omega)
            generalize doF o s ck cx cy = z at *
            obtain ⟨zl, zok, zn⟩ := z
            simp only at H12 HF1 HF2
            clear HSTEP hmf hst5 hn5 hbx5 hnu5 HMAY hb5 h0 h1 h2 h3 h4 h5 h6 h7 h8 h9 e0 e1 e2 ex d1 d2 d3 dx hbit
            go_wp2_with fail
            go_cut [10, 11] (fun y p wx => OwnNums w5.heap.size wx y zl ∧ AnsAt w5 zok zn p wx)
            case first =>
              go_region_with (first
                | (go_at_call 12; refine (H12.out _ ?_).mono ?_; (first | exact HNU5.out | exact HNU5.out.below (((Below.refl _ _).alloc (Nat.le_refl _) _).drew)); rintro e w' ⟨v', rfl, hv', hb⟩; try (have hk := ans_kept hb; have k0 := (cell_of hk 0).trans rfl; have k1 := (cell_of hk 1).trans rfl; have k2 := (cell_of hk 2).trans rfl; have k3 := free_of hk 0; have k4 := free_of hk 1; have k5 := free_of hk 2; have HK := Lib.hid hk; clear hk)))
              all_goals (go_wp2_with fail; go_meet)
              all_goals (first | exact ⟨nextA hv' _, ansA hb⟩ | exact ⟨nextB hv', ansB hb⟩)
            case rest =>
              obtain ⟨hnx, q, rfl, hq, hqs, hb6⟩ := hcut
              have HNX := Lib.hid hnx
              have hst6 := HST5.out.below hb6
              have hn6 := (hb6.block wr.heap.size (lt_of_heap HN5.out)).trans HN5.out
              have hbx6 := (hb6.block b (lt_of_heap HBX5.out)).trans HBX5.out
              have HST6 := Lib.hid hst6
              have HBX6 := Lib.hid hbx6
              have HN6 := Lib.hid hn6
              have HB6 := Lib.hid (HB5.out.trans (hb6.mono HB5.out.size))
              have z0 := (cell_of hq 0).trans rfl
              have z1 := (cell_of hq 1).trans rfl
              have z2 := (cell_of hq 2).trans rfl
              have y7 := (cell_of hn6 7).trans rfl
              have y8 := (cell_of hn6 8).trans rfl
              have y9 := (cell_of hn6 9).trans rfl
              have H52 : Hid (∀ W, Calls Tryd.prog 52 #[.agg #[.bool zok, .int .i64 zn, .slice none 0 0], .agg #[.bool cok, .int .i64 cn, .slice clo cln clc]] W fun e w' => e = .returned (.bool (zok == cok && zn == cn && decide (cln = 0))) ∧ Below W.heap.size W w') :=
                fun W => sameA_walk zok cok zn cn clo cln clc W HXY.out.2.2
              have HANS : Hid (answers ⟨ct, cb, ce, ck, cx, cy, cz, cok, cn, clo, cln, clc⟩ (zl, zok, zn) = (zok == cok && zn == cn && decide (cln = 0))) := rfl
              clear hnx hq hqs hst6 hn6 hbx6 hb6 x0 y3 y4 y5 y6 x0' y3' y4' y5' y6'
              generalize (zok == cok && zn == cn && decide (cln = 0)) = B at *
              generalize answers ⟨ct, cb, ce, ck, cx, cy, cz, cok, cn, clo, cln, clc⟩ (zl, zok, zn) = A at *
              go_wp2_with fail
              refine (H52.out wc).mono ?_
              rintro e w7 ⟨rfl, hb7⟩
              have hst7 := HST6.out.below hb7
              have HST7 := Lib.hid hst7
              have hbx7 := (hb7.block b (lt_of_heap HBX6.out)).trans HBX6.out
              have HBX7 := Lib.hid hbx7
              have HB7 := Lib.hid (HB6.out.trans (hb7.mono HB6.out.size))
              have HNX7 := Lib.hid (HNX.out.keep (Nat.le_refl _) fun g _ hg => hb7.block g hg)
              clear z0 z1 z2 y7 y8 y9 hb7
              cases B with
              | false =>
                have HNO := Lib.hid (show stepF o S r d s k = none from by rw [hid_eq HSTEP2, hid_eq HANS]; rfl)
                clear HSTEP2 HANS hst7 hbx7
                go_wp2_with fail
                go_roundw
                case rel => exact ⟨k + 1, ov', f', by omega, by go_num, HL.out.next HB7.out HNO.out⟩
                case measure => simp [intOf]; omega
              | true =>
                have htb' := htb
                have HSTEP3 := Lib.hid (show stepF o S r d s k = (srch o S r (d ||| 1 <<< k) zl).map (k :: ·) from by rw [hid_eq HSTEP2, hid_eq HANS]; rfl)
                clear HSTEP2 HANS
                obtain ⟨i0, hi0, hz0, hz1, hz2⟩ := info_parts info3
                obtain ⟨og', ol', oc', rfl, hol'⟩ : ∃ og ol oc, ov' = .slice og ol oc ∧ ol = ord.length := by
                  rcases hst7.row.2 with ⟨e, h⟩ | ⟨g, cap, cur, e, _⟩
                  · exact ⟨none, _, 0, e, h.symm⟩
                  · exact ⟨_, _, cap, e, rfl⟩
                subst hol'
                have s1 := (cell_of hst7.sbk 1).trans rfl
                have s2 := (cell_of hst7.sbk 2).trans rfl
                have HOW := Lib.hid (hst7.row.alloc (.cells #[.int .i64 (k : Int)] 3))
                have HSX := Lib.hid (src_one0 w7 #[.int .i64 (k : Int)] 3 1 rfl (by intro u hu; simp at hu; subst hu; rfl))
                have HAPP := Lib.hid (fun v' w' ha => hst7.app (i := k) (x := .cells #[.int .i64 (k : Int)] 3) (v' := v') (W2 := w') ha)
                have HAP0 := Lib.hid (fun v' w' ha => hst7.app0 (i := k) (x := .cells #[.int .i64 (k : Int)] 3) (v' := v') (W2 := w') ha)
                have HBASE := Lib.hid (show w0.heap.size ≤ (w7.alloc (.cells #[.int .i64 (k : Int)] 3)).heap.size from by have h1 := lt_of_heap hbx7; have h2 := HN0.out; simp; omega)
                have hord : ord.length ≤ 12 := by have := HIN.out.left; omega
                clear hst7 hbx7
                go_wp2_with (at_builtin; go_must (refine wpList_append_row rfl (.tmp 78) (.tmp 80) 38 rfl w0.heap.size 3 i0 _ 1 8 Tryd.underlying38 hi0 hz0 hz1 (by decide) hz2 rfl (.slice og' ord.length oc') ord.length (ordV ord) rfl HOW.out 1 [.int .i64 (k : Int)] HSX.out ?l2 ?b2 ?n2 ?_); go_must (case l2 => (unfold maxLen; omega)); go_must (case b2 => omega); go_must (case n2 => exact HBASE.out); intro v' w8 ha; have ha0 := HAP0.out _ _ ha; have HAA := Lib.hid (HAPP.out _ _ ha); clear ha; obtain ⟨hs8, g8, cap8, rfl⟩ := ha0; have HS8 := Lib.hid hs8; have t0 := (cell_of hs8 2).trans rfl; have t1 := free_of hs8 2; clear hs8)
                generalize w8.setCell ⟨sb, 2, none⟩ (.slice (some ⟨g8, 0, none⟩) (ord.length + 1) cap8) = w9 at *
                have HST9 := Lib.hid HAA.out.1
                have HFR9 := Lib.hid HAA.out.2
                have hk9 := HFR9.out.kept b (lt_of_heap HBX7.out) (fun e => hsx e.symm) (fun e => hmx e.symm) HOB.out
                have hbx9 := hk9.1.trans HBX7.out
                have HBX9 := Lib.hid hbx9
                have HOB9 := Lib.hid hk9.2
                have bx9 := (cell_of hbx9 0).trans rfl
                clear HAA hk9 hbx9 t0 t1 s1 s2 HS8 HAP0 HAPP HOW HSX HBASE
                go_still_tail 6, (by kernel_rfl)
                change wpList _ _ _ _ _ w9.drew
                go_wp2_with fail
                rw [bit_or d k hd12 (by omega)]
                have h13 : (k + 1) * 13 ^ r ≤ 13 * 13 ^ r := Nat.mul_le_mul_right _ (by omega)
                rw [Nat.add_mul, Nat.one_mul] at h13
                have HP := Lib.hid h13
                have HRE : Hid (OnIn w0 o S sb m (some ⟨g, p, none⟩) n co r w9.drew (.slice (some ⟨g8, 0, none⟩) (ord.length + 1) cap8) (ord ++ [k]) f' (cnt + k * 13 ^ r) (d ||| 1 <<< k) u10 zl) := by
                  refine ⟨?_, HST9.out.below ((Below.refl _ _).drew), HL.out.dead, ?_, ?_, ?_, ?_, HF1.out, ?_, ?_⟩
                  · exact ((HLOWR.out.trans (HB7.out.mono (by have := HN0.out; omega))).trans (HFR9.out.low HST7.out)).drew
                  · have := HIN.out.left; simp; omega
                  · rw [pc_step hlt2 htb', HIN.out.pcs]; simp
                  · exact or_lt HIN.out.dlt hlt2
                  · exact ((StOk.new HST5.out HNX7.out).fr HFR9.out).fr (Fr.below ((Below.refl _ _).drew))
                  · have h1 := HF2.out; have h2 := HIN.out.len; omega
                  · have h1 := HIN.out.bound; rw [Nat.pow_succ] at h1; have h2 := HP.out; omega
                clear h13
                refine (HIH.out _ _ _ _ _ _ _ _ HRE.out).mono ?_
                rintro e w11 ⟨ov11, ord11, f11, hst11, hdead11, hfr11, hres⟩
                have HDEAD11 := Lib.hid hdead11
                have HFR11 := Lib.hid (((Fr.below HB7.out).trans HFR9.out).trans ((Fr.below ((Below.refl _ _).drew)).trans hfr11))
                clear hdead11 hfr11
                rcases hres with ⟨l, hl1, rfl, rfl⟩ | ⟨hl1, rfl, rfl⟩
                · have HST11 := Lib.hid hst11
                  have HRES := Lib.hid hl1
                  clear hst11 hl1
                  go_wp2_with fail
                  go_ret
                  refine ⟨ov11, _, f11, HST11.out.up ?_, HDEAD11.out, HFR2.out.trans (HL.out.fr.trans HFR11.out), .inl ⟨k :: l, ?_, rfl, by simp⟩⟩
                  · rw [Nat.pow_succ]; have h2 := HP.out; omega
                  · rw [srch_succ]
                    exact upTo_some HL.out.none' (by rw [hid_eq HSTEP3, hid_eq HRES]; rfl) (by rw [HSN.out]; exact hlt2)
                · obtain ⟨g11, cap11, rfl, hc1, hc2⟩ := hst11.slice
                  have v2 := (cell_of hst11.sbk 2).trans rfl
                  have v3 := free_of hst11.sbk 2
                  have HST11 := Lib.hid hst11
                  have HCUT := Lib.hid hst11.cut
                  have HNO := Lib.hid (show stepF o S r d s k = none from by rw [hid_eq HSTEP3, hl1]; rfl)
                  clear hst11 hl1
                  have hc3 : cap11 ≤ 9223372036854775807 := by unfold maxLen at hc2; omega
                  clear hc2
                  go_wp2_with fail
                  go_region
                  all_goals (go_wp2_with fail)
                  go_roundw
                  case rel =>
                    refine ⟨k + 1, _, f11, by omega, by go_num, (HCUT.out.1.up ?_).below ((Below.refl _ _).drew), HDEAD11.out, HL.out.fr.trans (HFR11.out.trans (HCUT.out.2.trans (Fr.below ((Below.refl _ _).drew)))), by rw [upTo_succ HL.out.none', HNO.out]⟩
                    rw [Nat.add_mul]; omega
                  case measure => simp [intOf]; omega
      · obtain rfl : k = n := by omega
        have hm6 := hst.sbk
        have w3 := (cell_of hst.sbk 3).trans rfl
        have HM := Lib.hid hst.map
        have HPUT := Lib.hid (fun f2 cnt2 W' h1 h2 => hst.put (W' := W') (f' := f2) (cnt' := cnt2) h1 h2)
        have HSR : Hid (srch o S (r + 1) d s = none) := by
          have h1 := hl.none'
          rw [← HSN.out, ← srch_succ] at h1
          exact h1
        have hcnt : cnt + k * 13 ^ r < maxLen := by
          have h1 := HIN.out.bound
          have h2 : k * 13 ^ r ≤ 13 * 13 ^ r := Nat.mul_le_mul_right _ (by omega)
          rw [Nat.pow_succ] at h1
          have h3 : 13 ^ 12 < maxLen := by decide
          omega
        have HCN := Lib.hid hcnt
        clear hl hst hkb hbxr hm6 hcnt
        go_wp2_with (at_mapUpdate; go_must (refine wpList_put rfl _ _ _ 92 rfl 9 3 keyed_string Tryd.underlying92 (plainElem Tryd.prog 3) m (cnt + k * 13 ^ r) f' rfl HM.out HCN.out _ _ (.string (pointS (d : Int) s)) rfl rfl HKO.out (.lit (.int .i64 1)) [] elem3 ?_); intro w6 hm6 hg6; have HM6 := Lib.hid hm6; have HG6 := Lib.hid hg6; clear hm6 hg6)
        go_ret
        obtain ⟨hq1, hq2⟩ := HPUT.out _ _ _ HM6.out HG6.out
        refine ⟨ov', ord, _, hq1.up ?_, HL.out.dead.put ?_, HFR2.out.trans (HL.out.fr.trans hq2), .inr ⟨HSR.out, rfl, rfl⟩⟩
        · have h2 : k * 13 ^ r ≤ 12 * 13 ^ r := Nat.mul_le_mul_right _ (by omega)
          have h3 : 0 < 13 ^ r := Nat.pow_pos (by omega)
          rw [Nat.pow_succ]
          omega
        · rw [HSN.out, HIN.out.pcs, show k - ord.length = r + 1 by have := HIN.out.left; omega]
          exact HSR.out
end Go.Proofs.YtfcaebceklhbkaaDoor
