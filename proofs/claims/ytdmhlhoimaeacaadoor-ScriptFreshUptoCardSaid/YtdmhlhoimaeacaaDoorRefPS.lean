/-
  The reference's schedule (f41): a schedule's line.
-/
import Derived.Test.YtdmhlhoimaeacaaDoorPrint1
import Derived.Test.YtdmhlhoimaeacaaDoorRefSays
import Derived.Lib.SlBytesConst
namespace Go.Proofs.YtdmhlhoimaeacaaDoor
open Go.RowKit Go.Maps
set_option linter.unusedVariables false

/-- A text that is being appended to: a row of bytes of the call's own, or one that is full. -/
structure Tx (B : Nat) (w0 : World) (v : Value) (T : Word) (W : World) : Prop where
  row : W.ownsRow B 5 1 v T.length (Lib.byteCells T) ∨ ∃ g fz, v = .slice (some ⟨g, 0, none⟩) T.length T.length ∧ B ≤ g ∧ W.heap[g]? = some (.cells (Lib.byteCells T).toArray 5 fz)
  low : Below B w0 W
  nw : B ≤ W.heap.size
theorem Tx.up {B : Nat} {w0 W W' : World} {v : Value} {T : Word} (h : Tx B w0 v T W) (hb : Below W.heap.size W W') : Tx B w0 v T W' := by
  refine ⟨?_, h.low.trans (hb.mono h.nw), Nat.le_trans h.nw hb.size⟩
  rcases h.row with h1 | ⟨g, fz, e, hB, hg⟩
  · exact .inl (own_below h1 hb)
  · exact .inr ⟨g, fz, e, hB, (hb.block g (Array.getElem?_eq_some_iff.1 hg).1).trans hg⟩
theorem Tx.slice {B : Nat} {w0 W : World} {v : Value} {T : Word} (h : Tx B w0 v T W) : ∃ p c, v = .slice p T.length c := by
  rcases h.row with h1 | ⟨g, fz, e, _⟩
  · exact own_slice h1
  · exact ⟨_, _, e⟩
theorem Tx.of {B : Nat} {w0 W W' : World} {v v' : Value} {T : Word} (h : Tx B w0 v T W) {xs : List Value} {n : Nat} {T' : Word} (hT : Lib.byteCells T' = xs) (hn : T'.length = n) (h1 : W'.ownsRow B 5 1 v' n xs) {row : Option Nat} (hg : W.grownBy W' row) (hr : ∀ q, row = some q → B ≤ q) : Tx B w0 v' T' W' := by
  subst hT hn
  exact ⟨.inl h1, h.low.grown hg h.nw hr, Nat.le_trans h.nw hg.size⟩
/-- A full row, appended to. -/
theorem append_full (W : World) (B g : Nat) (T x : Word) (fz : Nat × Nat) (ty : TypeId) (hg : W.heap[g]? = some (.cells (Lib.byteCells T).toArray 5 fz)) (hx : x ≠ []) (hlen : T.length + x.length ≤ 140737488355328) (hB : B ≤ W.heap.size) :
    ∃ v' w', (Builtin.append_ #[42, 9] ty #[.slice (some ⟨g, 0, none⟩) T.length T.length, .string ⟨x.toArray⟩]).run Tryd.prog W = .ok v' w' ∧ w'.ownsRow B 5 1 v' (T.length + x.length) (Lib.byteCells T ++ Lib.byteCells x) ∧ W.grownBy w' none := by
  obtain ⟨i, hi, hz, hsize, hby⟩ := info_parts info5
  have hxp : 0 < x.length := List.length_pos_iff.2 hx
  have hxl : (Lib.byteCells T).length = T.length := bytes_len T
  have hss : (ByteArray.mk x.toArray).size = x.length := size_mk x
  have hr := Lib.run_append_grow_string (P := Tryd.prog) W 42 9 ty 5 i (.int .u8 0) Tryd.underlying42 Tryd.underlying9 hi hz ⟨g, 0, none⟩ T.length T.length (Lib.byteCells T) (by rw [hsize, hxl]; omega) (fun j u hu => by
    rw [addr_add]
    simp only [World.cell?, hg, Nat.zero_add]
    simpa using hu) ⟨x.toArray⟩ (by omega) (by omega) (by rw [hby]; exact growslice_fits (by omega) (by omega))
  have hge := grownCap_ge W (T.length + x.length) T.length 5
  have hcm : grownCap W (T.length + x.length) T.length 5 ≤ maxLen := grownCap_le_maxLen W (T.length + x.length) T.length 5 (by unfold maxLen; omega)
  rw [hss] at hr
  refine ⟨_, _, hr, ⟨by rw [List.length_append, bytes_len, bytes_len, Nat.mul_one], .inr ⟨W.heap.size, _, _, rfl, hB, heap_alloc_new W.drew _, hge, hcm, ?_, ?_⟩⟩, ⟨rfl, rfl, rfl, by simp, fun k hk _ => heap_alloc_old W.drew _ hk⟩⟩
  · have hz1 : (Value.int IntKind.u8 0).cells.size = 1 := rfl
    simp only [Array.size_append, List.size_toArray, size_zeroCells, hz1, hxl, Lib.strCells_length, hss]
    omega
  · rw [str_bytes]
    have e : (Lib.byteCells T ++ Lib.byteCells x).length = (T.length + x.length) * 1 := by rw [List.length_append, bytes_len, bytes_len, Nat.mul_one]
    simp only [Array.toList_append, List.append_assoc]
    rw [← List.append_assoc, ← e]
    exact List.take_left
theorem tx_append {B : Nat} {w0 W : World} {v : Value} {T : Word} (h : Tx B w0 v T W) (x : Word) (hx : x ≠ []) (hlen : T.length + x.length ≤ 140737488355328) (ty : TypeId) :
    ∃ v' w', (Builtin.append_ #[42, 9] ty #[v, .string ⟨x.toArray⟩]).run Tryd.prog W = .ok v' w' ∧ Tx B w0 v' (T ++ x) w' ∧ (w'.ownsRow B 5 1 v' (T ++ x).length (Lib.byteCells (T ++ x))) := by
  have hss : (ByteArray.mk x.toArray).size = x.length := size_mk x
  rcases h.row with h1 | ⟨g, fz, rfl, hB, hg⟩
  · obtain ⟨i, hi, hz, hsize, hby⟩ := info_parts info5
    obtain ⟨v', w', r1, r2, r3, _⟩ := Lib.run_append_own_string (P := Tryd.prog) W B 42 9 ty 5 i Tryd.underlying42 Tryd.underlying9 hi hz hsize hby v T.length _ h1 ⟨x.toArray⟩ (by rw [hss]; unfold maxLen; omega) (by rw [hss]; exact hlen) h.nw
    rw [hss, str_bytes] at r2
    have e := bytes_app T x
    refine ⟨v', w', r1, h.of e (List.length_append ..) r2 r3 (fun q hq => (h1.lt q hq).1), ?_⟩
    rw [e, List.length_append]
    exact r2
  · obtain ⟨v', w', r1, r2, r3⟩ := append_full W B g T x fz ty hg hx hlen h.nw
    have e := bytes_app T x
    refine ⟨v', w', r1, h.of e (List.length_append ..) r2 r3 (fun q hq => by cases hq), ?_⟩
    rw [e, List.length_append]
    exact r2
structure TxO (B : Nat) (w0 : World) (v : Value) (T : Word) (W : World) : Prop where
  tx : Tx B w0 v T W
  own : W.ownsRow B 5 1 v T.length (Lib.byteCells T)
theorem TxO.up {B : Nat} {w0 W W' : World} {v : Value} {T : Word} (h : TxO B w0 v T W) (hb : Below W.heap.size W W') : TxO B w0 v T W' := ⟨h.tx.up hb, own_below h.own hb⟩
theorem wpList_tx {w : World} {ops : Array Oper} {rest : List Oper} {o : Oper} {a : Act} {Q : Exit → Act → World → Prop} (hgd : o.guard = none) (sl x : Operand)
    (ho : o.op = .call { callee := .builtin .append, args := #[sl, x], argTypes := #[42, 9] }) {B : Nat} {w0 : World} (v : Value) (T X T' : Word) (hs : a.eval sl = v) (hT : Tx B w0 v T w) (s : ByteArray) (hx : a.eval x = .string s) (hX : s = ⟨X.toArray⟩) (hne : X ≠ []) (hlen : T.length + X.length ≤ 140737488355328) (he : T' = T ++ X)
    (h : ∀ v' w', TxO B w0 v' T' w' → wpList Tryd.prog ops Q rest (a.put o.dst v') w') : wpList Tryd.prog ops Q (o :: rest) a w := by
  subst hX he
  refine wpList_plain hgd fun K hK => ?_
  obtain ⟨v', w', hr, h2, h3⟩ := tx_append hT X hne hlen o.type
  unfold Oper.wp execOp
  simp only [ho, resolve, invoke, builtin, Sem.run_bind, Sem.run_pure, Result.andThen_ok, List.map_toArray, List.map_cons, List.map_nil, hs, hx, hr]
  exact hK _ _ (h v' w' ⟨h2, h3⟩)
theorem tx_string {B : Nat} {W : World} {v : Value} {T : Word} (h : W.ownsRow B 5 1 v T.length (Lib.byteCells T)) : (convert 42 9 v).run Tryd.prog W = .ok (.string ⟨T.toArray⟩) W := by
  rcases h.2 with ⟨rfl, h0⟩ | ⟨g, cap, cur, rfl, _⟩
  · have hT : T = [] := List.eq_nil_of_length_eq_zero h0
    subst hT
    rw [run_convert_bytes_string W 42 9 5 none 0 0 Tryd.underlying42 Tryd.underlying5 Tryd.underlying9]
    rfl
  · refine run_convert_bytes_back W 42 9 5 ⟨g, 0, none⟩ cap T Tryd.underlying42 Tryd.underlying5 Tryd.underlying9 (fun j hj => ?_)
    refine h.cells (g := g) rfl j _ ?_
    simp [Lib.byteCells, List.getElem?_eq_getElem hj]
theorem src_nl (w : World) : SrcOf (w.alloc (.cells #[.int .u8 10] 5)) 1 (.slice (some ⟨w.heap.size, 0, none⟩) 1 1) 1 (Lib.byteCells [10]) :=
  src_one0 w #[.int .u8 10] 5 1 rfl (by intro u hu; simp at hu; subst hu; rfl)
/-- A line's end more. -/
theorem TxO.line {B : Nat} {w0 W W' : World} {v v' : Value} {T T' : Word} (h : TxO B w0 v T W) (he : T' = T ++ [10]) (ha : Appended (W.alloc (.cells #[.int .u8 10] 5)) B 5 1 v T.length 1 (Lib.byteCells T ++ Lib.byteCells [10]) v' W') : TxO B w0 v' T' W' := by
  subst he
  have h1 := ha.1
  rw [← bytes_app] at h1
  have hl : (T ++ [10]).length = T.length + 1 := by simp
  have h2 : W'.ownsRow B 5 1 v' (T ++ [10]).length (Lib.byteCells (T ++ [10])) := by rw [hl]; exact h1
  have hnw : B ≤ (W.alloc (.cells #[.int .u8 10] 5)).heap.size := by simp; have := h.tx.nw; omega
  exact ⟨⟨.inl h2, (h.tx.low.alloc h.tx.nw _).grown ha.2.1 hnw (fun q hq => (h.own.lt q hq).1), Nat.le_trans hnw ha.2.1.size⟩, h2⟩

set_option maxRecDepth 100000 in
set_option maxHeartbeats 16000000 in
theorem rsched_walk (N : Nat) (v : Value) (L : List Int) (w : World) (hE : Env N w) (hv : RowAt w v L.length (ncells L)) (hl : L.length ≤ 4000000) (hi : ∀ n ∈ L, In64 n) :
    Calls Tryd.prog 41 #[v] w fun e w' => e = .returned (.string ⟨(schT L).toArray⟩) ∧ Below w.heap.size w w' := by
  have HV := Lib.hid hv
  have HE := Lib.hid hE
  have HI := Lib.hid hi
  obtain ⟨p, c, rfl, hc, _⟩ := hv
  have HR : Hid (schT L = if L = [] then [] else wSchedule ++ schRuns L ++ [10]) := Lib.hid rfl
  generalize schT L = r at *
  obtain ⟨i5, hi5, z0, z1, z2⟩ := info_parts info5
  clear hE hi
  generalize hln : L.length = len at *
  have HLN := Lib.hid hln
  clear hln
  go_enter Tryd.func41, Tryd.ntmps41
  by_cases h0 : len = 0
  · subst h0
    have HF : Hid (r = []) := Lib.hid (by rw [HR.out, if_pos (List.eq_nil_of_length_eq_zero HLN.out)])
    go_wp2_with fail
    go_ret
    exact ⟨by rw [HF.out]; rfl, Below.refl _ _⟩
  have hne : L ≠ [] := fun e => h0 (by rw [← HLN.out, e]; rfl)
  have HF : Hid (r = wSchedule ++ schRuns L ++ [10]) := Lib.hid (by rw [HR.out, if_neg hne])
  have hb0 : ((len : Int) == 0) = false := by rw [beq_eq_false_iff_ne]; omega
  clear HR hne
  have hcv := fun W : World => Lib.run_convert_bytes_const (P := Tryd.prog) W 42 5 #[.int .u8 115, .int .u8 99, .int .u8 104, .int .u8 101, .int .u8 100, .int .u8 117, .int .u8 108, .int .u8 101] 8 8 Tryd.underlying42 Tryd.underlying5
  have HT0 : Hid (Tx w.heap.size w (.slice (some ⟨w.heap.size, 0, none⟩) 8 8) wSchedule (w.alloc (.cells #[.int .u8 115, .int .u8 99, .int .u8 104, .int .u8 101, .int .u8 100, .int .u8 117, .int .u8 108, .int .u8 101] 5 (8, 9)))) := Lib.hid ⟨.inr ⟨w.heap.size, (8, 9), rfl, Nat.le_refl _, heap_alloc_new w _⟩, (Below.refl _ _).alloc (Nat.le_refl _) _, by simp⟩
  go_wp2_with fail
  generalize w.alloc (.cells #[.int .u8 115, .int .u8 99, .int .u8 104, .int .u8 101, .int .u8 100, .int .u8 117, .int .u8 108, .int .u8 101] 5 (8, 9)) = w0 at *
  obtain ⟨ov0, hov0⟩ : ∃ ov, ov = Value.slice (some ⟨w.heap.size, 0, none⟩) 8 8 := ⟨_, rfl⟩
  rw [← hov0] at HT0 ⊢
  clear hov0 hcv hb0
  generalize hB : w.heap.size = B at *
  have HBE := Lib.hid hB
  clear hB
  go_loopw [3, 4] (fun ov iv wr => ∃ (k : Nat) (R : Word), k ≤ len ∧ iv = .int .i64 k ∧ schRuns L = R ++ schRuns (L.drop k) ∧ R.length ≤ 60 * k ∧ ∃ T, T = wSchedule ++ R ∧ Tx B w ov T wr ∧ (k ≠ 0 → TxO B w ov T wr)) (fun _ iv _ => len - (intOf iv).toNat)
  case atStart => exact ⟨0, [], Nat.zero_le _, rfl, rfl, Nat.le_refl _, wSchedule, by rw [List.append_nil], HT0.out, fun h => absurd rfl h⟩
  case round =>
    obtain ⟨k, R, hk, rfl, hR, hRl, T, hTe, hT, hown⟩ := hrel
    have HTE := Lib.hid hTe
    have htl : T.length ≤ 8 + R.length := by rw [hTe, List.length_append]; exact Nat.le_refl _
    clear hTe
    have HRR := Lib.hid hR
    have HT := Lib.hid hT
    have HOWN := Lib.hid hown
    obtain ⟨po, co, hov⟩ := hT.slice
    have HOV := Lib.hid hov
    clear hR hT hown hov
    by_cases hin : k < len
    · have hiL : k < L.length := by rw [HLN.out]; exact hin
      have hne : L.drop k ≠ [] := by intro e; have := congrArg List.length e; simp at this; omega
      have HST := Lib.hid (schRuns_step L hiL)
      have HSP := Lib.hid (fun n h1 hn h6 h hs => alike_spec (L := L.drop k) (n := n) (0 : Int) h1 hn h6 h hs)
      have HDL : Hid ((L.drop k).length = len - k) := Lib.hid (by rw [List.length_drop, HLN.out])
      have HGD : Hid (∀ j, (L.drop k).getD j 0 = L.getD (k + j) 0) := Lib.hid (fun j => by simp [List.getD, List.getElem?_drop])
      have HIX := Lib.hid (HI.out (L.getD k 0) (by simp only [List.getD, List.getElem?_eq_getElem hiL, Option.getD_some]; exact List.getElem_mem hiL))
      generalize hal : alikeF (L.drop k) = al at *
      clear hal hne
      go_wp2_with fail
      generalize wr = w1 at *
      go_loopw [5] (fun nv wr => ∃ n : Nat, 1 ≤ n ∧ k + n ≤ len ∧ n ≤ 65536 ∧ nv = .int .i64 n ∧ (∀ j, j < n → j < (L.drop k).length → (L.drop k).getD j 0 = (L.drop k).getD 0 0) ∧ ∃ m, wr = w1.drewN m) (fun nv _ => 65536 - (intOf nv).toNat)
      case atStart => exact ⟨1, Nat.le_refl _, by omega, by omega, rfl, (fun j hj _ => by rw [show j = 0 by omega]), 0, rfl⟩
      case round =>
        obtain ⟨n, hn1, hn, hn6, rfl, hall, m, hwr⟩ := hrel
        have HALL := Lib.hid hall
        have HWR := Lib.hid hwr
        have hb1 : Below w1.heap.size w1 wr := by rw [hwr]; exact below_drewN (Below.refl _ _) m
        have HB1 := Lib.hid hb1
        have HTr := Lib.hid (HT.out.up hb1)
        have hVr := HV.out.below (show Below w.heap.size w wr by rw [HBE.out]; exact HTr.out.low)
        obtain ⟨q1, c1, e1, _, hA1⟩ := hVr
        injection e1 with e11 e12 e13
        subst e11
        clear e12 e13
        obtain ⟨ga, oa, rfl, hA2⟩ := hA1.resolve_left (by intro e; have := congrArg List.length e; simp [ncells] at this; rw [this] at hiL; simp at hiL)
        have cx := sch_cell hA2 hiL
        clear hall hwr hb1 hA1
        have hx0 := sch_cell hA2 hiL
        rw [show L.getD k 0 = L.getD k 0 from rfl] at hx0
        generalize hxx : L.getD k 0 = x at *
        have HXX := Lib.hid hxx
        clear hxx hx0
        have HEr : Hid (∀ W, Below wr.heap.size wr W → Env N W) := Lib.hid (fun W hW => HE.out.up (by
          have h1 : Below w.heap.size w wr := by rw [HBE.out]; exact HTr.out.low
          exact h1.trans (hW.mono h1.size)))
        have HTW := Lib.hid (fun W (hW : Below wr.heap.size wr W) => HTr.out.up hW)
        have hla := itoa_len HIX.out.1 HIX.out.2
        by_cases hnl : k + n < len
        · have g1 : decide ((k : Int) + (n : Int) < (len : Int)) = true := decide_eq_true (by omega)
          have hnL : k + n < L.length := by rw [HLN.out]; exact hnl
          have cy := sch_cell hA2 hnL
          generalize hyy : L.getD (k + n) 0 = y at *
          have HYY := Lib.hid hyy
          clear hyy
          by_cases he : y = x
          · have heq : (y == x) = true := by simpa using he
            by_cases h65 : n < 65536
            · have g2 : decide ((n : Int) < 65536) = true := decide_eq_true (by omega)
              have HAL2 : Hid (∀ j, j < n + 1 → j < (L.drop k).length → (L.drop k).getD j 0 = (L.drop k).getD 0 0) := Lib.hid (fun j hj hjl => by
                by_cases e : j = n
                · subst e; rw [HGD.out, HGD.out, HYY.out, Nat.add_zero, HXX.out]; exact he
                · exact HALL.out j (by omega) hjl)
              clear he
              go_upto_region 7 with fail
              go_quiet (fail)
              go_wp2_with fail
              go_roundw
              case rel => exact ⟨n + 1, by omega, by omega, by omega, by go_num, HAL2.out, _, by rw [HWR.out]; exact World.drewN_drewN _ _ _⟩
              case measure => simp [intOf]; omega
            · have g2 : decide ((n : Int) < 65536) = false := decide_eq_false (by omega)
              have HAL : Hid (al = n) := Lib.hid (HSP.out n hn1 (.inl (by rw [HDL.out]; omega)) hn6 HALL.out (.inr (.inl (by omega))))
              have HST2 : Hid (schRuns (L.drop k) = (32 :: Lib.itoa x) ++ starT n ++ schRuns (L.drop (k + n))) := Lib.hid (by rw [HST.out, HAL.out])
              have hal6 : n ≤ 65536 := hn6
              go_upto_region 7 with fail
              go_quiet (fail)
              go_wp2_with fail
              refine (num_walk N x _ (HEr.out _ (below_drewN (Below.refl _ _) _)) HIX.out).mono ?_
              rintro e w5 ⟨rfl, hb5⟩
              have HT5 := Lib.hid ((HTW.out _ (below_drewN (Below.refl _ _) _)).up hb5)
              have HE5 := Lib.hid (HEr.out _ ((below_drewN (Below.refl _ _) _).trans hb5))
              clear hb5
              obtain ⟨T6, hT6e⟩ : ∃ T', T' = T ++ (32 :: Lib.itoa x) := ⟨_, rfl⟩
              have HTE6 : Hid (T6 = wSchedule ++ (R ++ (32 :: Lib.itoa x))) := Lib.hid (by rw [hT6e, HTE.out, List.append_assoc])
              have htl6 : T6.length ≤ T.length + ((Lib.itoa x).length + 1) := by rw [hT6e, List.length_append, List.length_cons]; exact Nat.le_refl _
              have HX6 := Lib.hid hT6e
              clear hT6e
              have hss := size_mk (Lib.itoa x)
              have hq1 : ¬ 9223372036854775807 < 1 + (Lib.itoa x).length := by omega
              go_wp2_with (at_builtin; refine wpList_tx rfl (.tmp 40) (.tmp 46) rfl _ T (32 :: Lib.itoa x) T6 rfl HT5.out _ rfl ?e2 (by simp) ?l2 HX6.out ?_)
              case e2 => (apply ByteArray.ext; apply Array.toList_inj.1; simp)
              case l2 => (rw [List.length_cons]; omega)
              intro v6 w6 hT6
              have HT6 := Lib.hid hT6
              obtain ⟨p6, c6, hv6⟩ := hT6.tx.slice
              subst hv6
              clear hT6 hq1
              by_cases hgt : n = 1
              · subst hgt
                go_wp2_with fail
                go_roundw
                case rel => exact ⟨k + 1, R ++ (32 :: Lib.itoa x), by omega, by go_num, by rw [HRR.out, HST2.out, show starT 1 = [] from rfl]; simp, by simp; omega, T6, HTE6.out, HT6.out.tx, fun _ => HT6.out⟩
                case measure => simp [intOf]; omega
              · have hgg : (n : Int) > 1 := by omega
                have hin2 : In64 (n : Int) := by unfold In64; omega
                have HIN2 := Lib.hid hin2
                have hlb := itoa_len hin2.1 hin2.2
                clear hin2
                have HE6 : Hid (Env N w6) := Lib.hid (HE.out.up (by rw [HBE.out]; exact HT6.out.tx.low))
                have HSTN : Hid (starT n = 42 :: Lib.itoa (n : Int)) := Lib.hid (by unfold starT; rw [if_pos (by omega)])
                clear hgt
                go_wp2_with fail
                refine (num_walk N (n : Int) _ HE6.out HIN2.out).mono ?_
                rintro e w7 ⟨rfl, hb7⟩
                have HT7 := Lib.hid (HT6.out.tx.up hb7)
                clear hb7
                generalize hdn : Lib.itoa (n : Int) = dn at *
                clear hdn
                obtain ⟨T8, hT8e⟩ : ∃ T', T' = T6 ++ (42 :: dn) := ⟨_, rfl⟩
                have HTE8 : Hid (T8 = wSchedule ++ (R ++ ((32 :: Lib.itoa x) ++ (42 :: dn)))) := Lib.hid (by rw [hT8e, HTE6.out, List.append_assoc, List.append_assoc])
                have HX8 := Lib.hid hT8e
                clear hT8e
                have hss2 := size_mk (dn)
                have hq2 : ¬ 9223372036854775807 < 1 + (dn).length := by omega
                go_wp2_with (at_builtin; refine wpList_tx rfl (.tmp 50) (.tmp 53) rfl _ T6 (42 :: dn) T8 rfl HT7.out _ rfl ?e3 (by simp) ?l3 HX8.out ?_)
                case e3 => (apply ByteArray.ext; apply Array.toList_inj.1; simp)
                case l3 => (rw [List.length_cons]; omega)
                intro v8 w8 hT8
                have HT8 := Lib.hid hT8
                obtain ⟨p8, c8, hv8⟩ := hT8.tx.slice
                subst hv8
                clear hT8 hq2
                go_wp2_with fail
                go_roundw
                case rel => exact ⟨k + n, R ++ ((32 :: Lib.itoa x) ++ (42 :: dn)), by omega, by go_num, by rw [HRR.out, HST2.out, HSTN.out]; simp, by simp only [List.length_append, List.length_cons]; omega, T8, HTE8.out, HT8.out.tx, fun _ => HT8.out⟩
                case measure => simp [intOf]; omega
          · have heq : (y == x) = false := by simpa using he
            have HAL : Hid (al = n) := Lib.hid (HSP.out n hn1 (.inl (by rw [HDL.out]; omega)) hn6 HALL.out (.inr (.inr (by rw [HGD.out, HGD.out, HYY.out, Nat.add_zero, HXX.out]; exact he))))
            have HST2 : Hid (schRuns (L.drop k) = (32 :: Lib.itoa x) ++ starT n ++ schRuns (L.drop (k + n))) := Lib.hid (by rw [HST.out, HAL.out])
            have hal6 : n ≤ 65536 := hn6
            go_upto_region 7 with fail
            go_quiet (fail)
            go_wp2_with fail
            refine (num_walk N x _ (HEr.out _ (below_drewN (Below.refl _ _) _)) HIX.out).mono ?_
            rintro e w5 ⟨rfl, hb5⟩
            have HT5 := Lib.hid ((HTW.out _ (below_drewN (Below.refl _ _) _)).up hb5)
            have HE5 := Lib.hid (HEr.out _ ((below_drewN (Below.refl _ _) _).trans hb5))
            clear hb5
            obtain ⟨T6, hT6e⟩ : ∃ T', T' = T ++ (32 :: Lib.itoa x) := ⟨_, rfl⟩
            have HTE6 : Hid (T6 = wSchedule ++ (R ++ (32 :: Lib.itoa x))) := Lib.hid (by rw [hT6e, HTE.out, List.append_assoc])
            have htl6 : T6.length ≤ T.length + ((Lib.itoa x).length + 1) := by rw [hT6e, List.length_append, List.length_cons]; exact Nat.le_refl _
            have HX6 := Lib.hid hT6e
            clear hT6e
            have hss := size_mk (Lib.itoa x)
            have hq1 : ¬ 9223372036854775807 < 1 + (Lib.itoa x).length := by omega
            go_wp2_with (at_builtin; refine wpList_tx rfl (.tmp 40) (.tmp 46) rfl _ T (32 :: Lib.itoa x) T6 rfl HT5.out _ rfl ?e2 (by simp) ?l2 HX6.out ?_)
            case e2 => (apply ByteArray.ext; apply Array.toList_inj.1; simp)
            case l2 => (rw [List.length_cons]; omega)
            intro v6 w6 hT6
            have HT6 := Lib.hid hT6
            obtain ⟨p6, c6, hv6⟩ := hT6.tx.slice
            subst hv6
            clear hT6 hq1
            by_cases hgt : n = 1
            · subst hgt
              go_wp2_with fail
              go_roundw
              case rel => exact ⟨k + 1, R ++ (32 :: Lib.itoa x), by omega, by go_num, by rw [HRR.out, HST2.out, show starT 1 = [] from rfl]; simp, by simp; omega, T6, HTE6.out, HT6.out.tx, fun _ => HT6.out⟩
              case measure => simp [intOf]; omega
            · have hgg : (n : Int) > 1 := by omega
              have hin2 : In64 (n : Int) := by unfold In64; omega
              have HIN2 := Lib.hid hin2
              have hlb := itoa_len hin2.1 hin2.2
              clear hin2
              have HE6 : Hid (Env N w6) := Lib.hid (HE.out.up (by rw [HBE.out]; exact HT6.out.tx.low))
              have HSTN : Hid (starT n = 42 :: Lib.itoa (n : Int)) := Lib.hid (by unfold starT; rw [if_pos (by omega)])
              clear hgt
              go_wp2_with fail
              refine (num_walk N (n : Int) _ HE6.out HIN2.out).mono ?_
              rintro e w7 ⟨rfl, hb7⟩
              have HT7 := Lib.hid (HT6.out.tx.up hb7)
              clear hb7
              generalize hdn : Lib.itoa (n : Int) = dn at *
              clear hdn
              obtain ⟨T8, hT8e⟩ : ∃ T', T' = T6 ++ (42 :: dn) := ⟨_, rfl⟩
              have HTE8 : Hid (T8 = wSchedule ++ (R ++ ((32 :: Lib.itoa x) ++ (42 :: dn)))) := Lib.hid (by rw [hT8e, HTE6.out, List.append_assoc, List.append_assoc])
              have HX8 := Lib.hid hT8e
              clear hT8e
              have hss2 := size_mk (dn)
              have hq2 : ¬ 9223372036854775807 < 1 + (dn).length := by omega
              go_wp2_with (at_builtin; refine wpList_tx rfl (.tmp 50) (.tmp 53) rfl _ T6 (42 :: dn) T8 rfl HT7.out _ rfl ?e3 (by simp) ?l3 HX8.out ?_)
              case e3 => (apply ByteArray.ext; apply Array.toList_inj.1; simp)
              case l3 => (rw [List.length_cons]; omega)
              intro v8 w8 hT8
              have HT8 := Lib.hid hT8
              obtain ⟨p8, c8, hv8⟩ := hT8.tx.slice
              subst hv8
              clear hT8 hq2
              go_wp2_with fail
              go_roundw
              case rel => exact ⟨k + n, R ++ ((32 :: Lib.itoa x) ++ (42 :: dn)), by omega, by go_num, by rw [HRR.out, HST2.out, HSTN.out]; simp, by simp only [List.length_append, List.length_cons]; omega, T8, HTE8.out, HT8.out.tx, fun _ => HT8.out⟩
              case measure => simp [intOf]; omega
        · have g1 : decide ((k : Int) + (n : Int) < (len : Int)) = false := decide_eq_false (by omega)
          have HAL : Hid (al = n) := Lib.hid (HSP.out n hn1 (.inl (by rw [HDL.out]; omega)) hn6 HALL.out (.inl (by rw [HDL.out]; omega)))
          have HST2 : Hid (schRuns (L.drop k) = (32 :: Lib.itoa x) ++ starT n ++ schRuns (L.drop (k + n))) := Lib.hid (by rw [HST.out, HAL.out])
          have hal6 : n ≤ 65536 := hn6
          go_upto_region 7 with fail
          go_quiet (fail)
          go_wp2_with fail
          refine (num_walk N x _ (HEr.out _ (below_drewN (Below.refl _ _) _)) HIX.out).mono ?_
          rintro e w5 ⟨rfl, hb5⟩
          have HT5 := Lib.hid ((HTW.out _ (below_drewN (Below.refl _ _) _)).up hb5)
          have HE5 := Lib.hid (HEr.out _ ((below_drewN (Below.refl _ _) _).trans hb5))
          clear hb5
          obtain ⟨T6, hT6e⟩ : ∃ T', T' = T ++ (32 :: Lib.itoa x) := ⟨_, rfl⟩
          have HTE6 : Hid (T6 = wSchedule ++ (R ++ (32 :: Lib.itoa x))) := Lib.hid (by rw [hT6e, HTE.out, List.append_assoc])
          have htl6 : T6.length ≤ T.length + ((Lib.itoa x).length + 1) := by rw [hT6e, List.length_append, List.length_cons]; exact Nat.le_refl _
          have HX6 := Lib.hid hT6e
          clear hT6e
          have hss := size_mk (Lib.itoa x)
          have hq1 : ¬ 9223372036854775807 < 1 + (Lib.itoa x).length := by omega
          go_wp2_with (at_builtin; refine wpList_tx rfl (.tmp 40) (.tmp 46) rfl _ T (32 :: Lib.itoa x) T6 rfl HT5.out _ rfl ?e2 (by simp) ?l2 HX6.out ?_)
          case e2 => (apply ByteArray.ext; apply Array.toList_inj.1; simp)
          case l2 => (rw [List.length_cons]; omega)
          intro v6 w6 hT6
          have HT6 := Lib.hid hT6
          obtain ⟨p6, c6, hv6⟩ := hT6.tx.slice
          subst hv6
          clear hT6 hq1
          by_cases hgt : n = 1
          · subst hgt
            go_wp2_with fail
            go_roundw
            case rel => exact ⟨k + 1, R ++ (32 :: Lib.itoa x), by omega, by go_num, by rw [HRR.out, HST2.out, show starT 1 = [] from rfl]; simp, by simp; omega, T6, HTE6.out, HT6.out.tx, fun _ => HT6.out⟩
            case measure => simp [intOf]; omega
          · have hgg : (n : Int) > 1 := by omega
            have hin2 : In64 (n : Int) := by unfold In64; omega
            have HIN2 := Lib.hid hin2
            have hlb := itoa_len hin2.1 hin2.2
            clear hin2
            have HE6 : Hid (Env N w6) := Lib.hid (HE.out.up (by rw [HBE.out]; exact HT6.out.tx.low))
            have HSTN : Hid (starT n = 42 :: Lib.itoa (n : Int)) := Lib.hid (by unfold starT; rw [if_pos (by omega)])
            clear hgt
            go_wp2_with fail
            refine (num_walk N (n : Int) _ HE6.out HIN2.out).mono ?_
            rintro e w7 ⟨rfl, hb7⟩
            have HT7 := Lib.hid (HT6.out.tx.up hb7)
            clear hb7
            generalize hdn : Lib.itoa (n : Int) = dn at *
            clear hdn
            obtain ⟨T8, hT8e⟩ : ∃ T', T' = T6 ++ (42 :: dn) := ⟨_, rfl⟩
            have HTE8 : Hid (T8 = wSchedule ++ (R ++ ((32 :: Lib.itoa x) ++ (42 :: dn)))) := Lib.hid (by rw [hT8e, HTE6.out, List.append_assoc, List.append_assoc])
            have HX8 := Lib.hid hT8e
            clear hT8e
            have hss2 := size_mk (dn)
            have hq2 : ¬ 9223372036854775807 < 1 + (dn).length := by omega
            go_wp2_with (at_builtin; refine wpList_tx rfl (.tmp 50) (.tmp 53) rfl _ T6 (42 :: dn) T8 rfl HT7.out _ rfl ?e3 (by simp) ?l3 HX8.out ?_)
            case e3 => (apply ByteArray.ext; apply Array.toList_inj.1; simp)
            case l3 => (rw [List.length_cons]; omega)
            intro v8 w8 hT8
            have HT8 := Lib.hid hT8
            obtain ⟨p8, c8, hv8⟩ := hT8.tx.slice
            subst hv8
            clear hT8 hq2
            go_wp2_with fail
            go_roundw
            case rel => exact ⟨k + n, R ++ ((32 :: Lib.itoa x) ++ (42 :: dn)), by omega, by go_num, by rw [HRR.out, HST2.out, HSTN.out]; simp, by simp only [List.length_append, List.length_cons]; omega, T8, HTE8.out, HT8.out.tx, fun _ => HT8.out⟩
            case measure => simp [intOf]; omega
    have hke : k = len := by omega
    subst hke
    have HRF : Hid (schRuns L = R) := Lib.hid (by
      have h := HRR.out
      rw [List.drop_of_length_le (by rw [HLN.out]; exact Nat.le_refl _)] at h
      rw [h]
      show R ++ [] = R
      rw [List.append_nil])
    have HO := Lib.hid (HOWN.out h0)
    have HTE2 : Hid (T = wSchedule ++ schRuns L) := Lib.hid (by rw [HTE.out, HRF.out])
    clear HT HOWN
    go_wp2_with (at_builtin; refine wpList_append_row rfl (.tmp 58) (.tmp 59) 42 rfl B 5 i5 _ 1 1 Tryd.underlying42 hi5 z0 z1 (by decide) z2 rfl _ T.length (Lib.byteCells T) rfl (HO.out.own.alloc _) 1 (Lib.byteCells [10]) (src_nl _) ?l2 ?b2 ?n2 ?_)
    case l2 => (unfold maxLen; omega)
    case b2 => omega
    case n2 => (have := HO.out.tx.nw; simp; omega)
    intro v60 w60 hap
    have HAP := Lib.hid (HO.out.line (T' := T ++ [10]) rfl hap)
    clear hap
    obtain ⟨p60, c60, hv60⟩ := HAP.out.tx.slice
    subst hv60
    have hst := tx_string HAP.out.own
    obtain ⟨T9, hT9⟩ : ∃ T', T' = T ++ [10] := ⟨_, rfl⟩
    rw [← hT9] at HAP hst ⊢
    have HT9 := Lib.hid hT9
    clear hT9
    go_wp2_with fail
    go_ret
    exact ⟨by rw [HF.out, HT9.out, HTE2.out]; rfl, by rw [HBE.out]; exact HAP.out.tx.low⟩
end Go.Proofs.YtdmhlhoimaeacaaDoor
