/-
  The contract of judge.Written.
-/
import Derived.Test.YtfcaebceklhbkaaDoorItem
namespace Go.Proofs.YtfcaebceklhbkaaDoor
open Go.RowKit Go.Maps Go.ChangeMaps
set_option linter.unusedVariables false

/-- An item: its writer, number, value. -/
structure Itm where
  a : Int
  b : Int
  d : Int
deriving Inhabited

def ItemRow (w : World) (ao : Option Addr) (T : List Itm) : Prop :=
  T = [] ∨ ∃ g o, ao = some ⟨g, o, none⟩ ∧ ∀ i, i < T.length → w.cell? ⟨g, o + i * 3, none⟩ = some (.int .i64 (T.getD i default).a) ∧ w.cell? ⟨g, o + i * 3 + 1, none⟩ = some (.int .i64 (T.getD i default).b) ∧ w.cell? ⟨g, o + i * 3 + 2, none⟩ = some (.int .i64 (T.getD i default).d)
theorem ItemRow.below {w w' : World} {ao : Option Addr} {T : List Itm} (h : ItemRow w ao T) (hb : Below w.heap.size w w') : ItemRow w' ao T := by
  rcases h with h | ⟨g, o, e, hc⟩
  · exact .inl h
  · refine .inr ⟨g, o, e, fun i hi => ?_⟩
    obtain ⟨h1, h2, h3⟩ := hc i hi
    exact ⟨(hb.cell (p := ⟨g, o + i * 3, none⟩) (World.block_lt_of_cell? w _ h1)).trans h1, (hb.cell (p := ⟨g, o + i * 3 + 1, none⟩) (World.block_lt_of_cell? w _ h2)).trans h2,
      (hb.cell (p := ⟨g, o + i * 3 + 2, none⟩) (World.block_lt_of_cell? w _ h3)).trans h3⟩
def Small3 (T : List Itm) : Prop := ∀ i, i < T.length → In64 (T.getD i default).a ∧ In64 (T.getD i default).b ∧ In64 (T.getD i default).d

/-- An item's key. -/
noncomputable def keyL (a b d : Int) : Lit := (keyOf Tryd.prog 73 (itemV a b d)).getD (.bool false)
theorem key_item (a b d : Int) (ha : In64 a) (hb : In64 b) (hd : In64 d) : keyOf Tryd.prog 73 (itemV a b d) = some (keyL a b d) := by
  obtain ⟨kl, h⟩ := key_item_some a b d ha hb hd
  unfold keyL
  rw [h]
  rfl
theorem keyL_inj {a b d a' b' d' : Int} (ha : In64 a) (hb : In64 b) (hd : In64 d) (ha' : In64 a') (hb' : In64 b') (hd' : In64 d') (h : keyL a b d = keyL a' b' d') : a = a' ∧ b = b' ∧ d = d' := by
  have := keyed_item.inj (key_item a b d ha hb hd) (by rw [h]; exact key_item a' b' d' ha' hb' hd')
  simpa [itemV] using this

noncomputable def keyT (T : List Itm) (i : Nat) : Lit := keyL (T.getD i default).a (T.getD i default).b (T.getD i default).d

open Classical in
/-- How many of the first k items bear this key. -/
noncomputable def cntN (T : List Itm) : Nat → Lit → Nat
  | 0, _ => 0
  | k + 1, x => cntN T k x + if x = keyT T k then 1 else 0
open Classical in
noncomputable def cntF (T : List Itm) (k : Nat) : Lit → Option (DataW Unit) := fun x => if cntN T k x = 0 then none else some (.lit (.int .i64 (cntN T k x)))

theorem cntN_le (T : List Itm) (x : Lit) : ∀ k, cntN T k x ≤ k
  | 0 => Nat.le_refl _
  | k + 1 => by
    have := cntN_le T x k
    simp only [cntN]
    split <;> omega
theorem cntN_succ (T : List Itm) (k : Nat) (x : Lit) : (x = keyT T k → cntN T (k + 1) x = cntN T k x + 1) ∧ (x ≠ keyT T k → cntN T (k + 1) x = cntN T k x) := by
  constructor
  · intro h
    rw [cntN, if_pos h]
  · intro h
    rw [cntN, if_neg h]
    omega
theorem cntF_put (T : List Itm) (k : Nat) : putF (cntF T k) (keyT T k) (.lit (.int .i64 ((cntN T k (keyT T k) : Int) + 1))) = cntF T (k + 1) := by
  have hs := cntN_succ T k
  generalize keyT T k = y at *
  funext x
  unfold putF cntF
  by_cases e : x = y
  · subst e
    rw [if_pos rfl, (hs x).1 rfl, if_neg (by omega)]
    rfl
  · rw [if_neg e, (hs x).2 e]
theorem cntF_at (T : List Itm) (k : Nat) (x : Lit) : (cntF T k x = none ∧ (cntN T k x : Int) = 0) ∨ cntF T k x = some (.lit (.int .i64 (cntN T k x))) := by
  by_cases h : cntN T k x = 0
  · exact .inl ⟨by unfold cntF; rw [if_pos h], by omega⟩
  · exact .inr (by unfold cntF; rw [if_neg h])

/-- Is it among the first k items? -/
def there (T : List Itm) (a b d : Int) : Nat → Bool
  | 0 => false
  | k + 1 => there T a b d k || (decide ((T.getD k default).a = a) && decide ((T.getD k default).b = b) && decide ((T.getD k default).d = d))
theorem cntN_there {T : List Itm} (hT : Small3 T) {a b d : Int} (ha : In64 a) (hb : In64 b) (hd : In64 d) : ∀ k, k ≤ T.length → (cntN T k (keyL a b d) = 0 ↔ there T a b d k = false)
  | 0, _ => by simp [cntN, there]
  | k + 1, hk => by
    have ih := cntN_there hT ha hb hd k (by omega)
    obtain ⟨h1, h2, h3⟩ := hT k (by omega)
    simp only [cntN, there]
    by_cases e : keyL a b d = keyT T k
    · obtain ⟨e1, e2, e3⟩ := keyL_inj ha hb hd h1 h2 h3 e
      rw [if_pos e]
      have e4 : (decide ((T.getD k default).a = a) && decide ((T.getD k default).b = b) && decide ((T.getD k default).d = d)) = true := by
        rw [decide_eq_true e1.symm, decide_eq_true e2.symm, decide_eq_true e3.symm]; rfl
      rw [e4]
      simp
    · rw [if_neg e]
      have : ¬ ((T.getD k default).a = a ∧ (T.getD k default).b = b ∧ (T.getD k default).d = d) := by
        rintro ⟨e1, e2, e3⟩
        exact e (by unfold keyT; rw [e1, e2, e3])
      rw [Nat.add_zero, ih]
      simp
      intro _ x y
      exact fun z => this ⟨x, y, z⟩

def wrtTold (S : List Seen4) (T : List Itm) (j : Nat) : List Flt :=
  if there T (S.getD j default).a (S.getD j default).b (S.getD j default).d T.length = true then [] else [⟨6, 0, j, (S.getD j default).q, 0⟩]
def wrtAt (S : List Seen4) (T : List Itm) : Nat → List Flt
  | 0 => []
  | j + 1 => wrtAt S T j ++ wrtTold S T j
def wrtF (S : List Seen4) (T : List Itm) : List Flt := wrtAt S T S.length
theorem wrtAt_length (S : List Seen4) (T : List Itm) : ∀ j, (wrtAt S T j).length ≤ j
  | 0 => by simp [wrtAt]
  | j + 1 => by
    have := wrtAt_length S T j
    simp only [wrtAt, wrtTold]
    split <;> simp <;> omega

theorem WSt.put2 {w0 wr : World} {N e5 kt j j' : Nat} {R : RdM} {l : List Flt} {f f' : Lit → Option (DataW Unit)} {v : Value} (h : WSt w0 N e5 kt R j l f v wr) {w' : World} (hm : MapF w' kt R N j' f') (hg : wr.grownBy w' (some N)) : WSt w0 N e5 kt R j' l f' v w' := by
  have hs := hg.size
  have hn := h.nw
  refine ⟨h.row.kept hg ?_, hm, h.low.grown hg (by omega) (fun k hk => by simp at hk; omega), by omega⟩
  right
  intro e
  have := (h.row.lt N e).1
  omega

theorem run_makeMap_hint {t k e : TypeId} (ht : Tryd.prog.underlying t = some (.map k e)) (n : Int) (w : World) : (Instr.makeMap t (some (.int .i64 n))).run Tryd.prog w = .ok (.map (some w.heap.size)) (w.alloc (.map #[] 0)) := by
  simp [Instr.makeMap, run_underlying ht, asInt, asIntOf, Result.andThen]

set_option maxRecDepth 100000 in
set_option maxHeartbeats 600000000000 in
theorem written_walk (ao : Option Addr) (n c : Nat) (S : List Seen4) (io : Option Addr) (ni ci : Nat) (T : List Itm) (w : World) (h0 : SeenRow w ao S) (hsm : Small4 S) (hSn : S.length = n) (hn : n ≤ 300000000000)
    (h1 : ItemRow w io T) (hst : Small3 T) (hTn : T.length = ni) (hni : ni ≤ 300000000000) :
    Calls Tryd.prog 28 #[.slice ao n c, .slice io ni ci] w (DoneF 77 (wrtF S T) w) := by
  obtain ⟨i0, hi0, hz0, hz1, hz2⟩ := info_parts info77
  have H0 := Lib.hid h0
  have H1 := Lib.hid h1
  have HSn := Lib.hid hSn
  have HSM := Lib.hid hsm
  have HTn := Lib.hid hTn
  have HST := Lib.hid hst
  clear h0 h1 hSn hsm hTn hst
  have HST0 : Hid (WSt w w.heap.size 77 73 (plainElem Tryd.prog 3) 0 [] (cntF T 0) (.slice none 0 0) (w.alloc (.map #[] 0))) := by
    refine ⟨World.ownsRow_nil _ _ _ _, ?_, (Below.refl _ _).alloc (Nat.le_refl _) _, by simp⟩
    have := mapF_new w 73 (plainElem Tryd.prog 3)
    have e : cntF T 0 = fun _ => none := by
      funext kl
      simp [cntF, cntN]
    rw [e]
    exact this
  have hmk := run_makeMap_hint Tryd.underlying110 ni w
  generalize hN : w.heap.size = N at *
  have HN := Lib.hid hN
  clear hN
  go_enter Tryd.func28, Tryd.ntmps28
  go_wp2_with fail
  clear hmk
  go_loopw [16] (fun jv wr => ∃ k : Nat, k ≤ ni ∧ jv = .int .i64 k ∧ WSt w N 77 73 (plainElem Tryd.prog 3) (2 * k) [] (cntF T k) (.slice none 0 0) wr) (fun jv _ => ni - (intOf jv).toNat)
  case atStart => exact ⟨0, by omega, rfl, HST0.out⟩
  case round =>
    obtain ⟨k, hk, rfl, hR⟩ := hrel
    have HR := Lib.hid hR
    clear hR
    by_cases hlt : k < ni
    · have hrow := H1.out.below (HR.out.low.mono (by have := HN.out; omega))
      obtain ⟨g, o, rfl, hc⟩ : ∃ g o, io = some ⟨g, o, none⟩ ∧ ∀ i, i < ni → wr.cell? ⟨g, o + i * 3, none⟩ = some (.int .i64 (T.getD i default).a) ∧ wr.cell? ⟨g, o + i * 3 + 1, none⟩ = some (.int .i64 (T.getD i default).b) ∧
          wr.cell? ⟨g, o + i * 3 + 2, none⟩ = some (.int .i64 (T.getD i default).d) := by
        rcases hrow with h | ⟨g, o, h1, h2⟩
        · have := HTn.out; subst h; simp at this; omega
        · exact ⟨g, o, h1, by rw [← HTn.out]; exact h2⟩
      obtain ⟨c1, c2, c3⟩ := hc k hlt
      clear hc hrow
      obtain ⟨ha, hb, hd⟩ := HST.out k (by rw [HTn.out]; exact hlt)
      have hle := cntN_le T (keyT T k) k
      have HPF := Lib.hid (cntF_put T k)
      have hkey := key_item _ _ _ ha hb hd
      have hcs := cntF_at T k (keyT T k)
      have HKT : Hid (keyT T k = keyL (T.getD k default).a (T.getD k default).b (T.getD k default).d) := rfl
      rw [← hid_eq HKT] at hkey
      clear ha hb hd
      generalize (T.getD k default).a = a at *
      generalize (T.getD k default).b = b at *
      generalize (T.getD k default).d = d at *
      generalize keyT T k = kl at *
      generalize cntN T k kl = cc at *
      have HD := Lib.hid ((HR.out.alloc (.cells #[.int .i64 a, .int .i64 b, .int .i64 d] 73)).draws 1)
      obtain ⟨w2, w3, born, hl1, hme, hl2, hes, hm3, hg2, hg3⟩ := count_step (w := (wr.alloc (.cells #[.int .i64 a, .int .i64 b, .int .i64 d] 73)).drew) (v := (cc : Int) + 1) (HD.out.map) keyed_item Tryd.underlying110 (by unfold maxLen; omega) hkey hcs (In64.wf (by unfold In64; omega))
      have HM3 := Lib.hid hm3
      have HG3 := Lib.hid hg3
      unfold itemV at hl1 hme hl2
      clear hm3 hg3 hg2 hcs hkey
      go_wp2_with (go_region)
      go_roundw
      case rel => exact ⟨k + 1, by omega, by go_num, by have := HD.out.put2 (j' := 2 * (k + 1)) (by have := HM3.out; rw [hid_eq HPF] at this; exact this) HG3.out; exact this⟩
      case measure => simp [intOf]; omega
    · obtain rfl : k = ni := by omega
      have HM := Lib.hid HR.out.map
      have HST1 : Hid (WSt w N 77 73 (plainElem Tryd.prog 3) (2 * k) (wrtAt S T 0) (cntF T k) (.slice none 0 0) wr) := HR.out
      clear HR
      go_wp2_with fail
      go_loopw [5, 29] (fun v jv wq => ∃ j : Nat, j ≤ n ∧ jv = .int .i64 j ∧ WSt w N 77 73 (plainElem Tryd.prog 3) (2 * k) (wrtAt S T j) (cntF T k) v wq) (fun _ jv _ => n - (intOf jv).toNat)
      case atStart => exact ⟨0, by omega, rfl, HST1.out⟩
      case round =>
        obtain ⟨j, hj, rfl, hR⟩ := hrel
        have HR := Lib.hid hR
        have hlen := wrtAt_length S T j
        clear hR
        by_cases hlt : j < n
        · have hrow := H0.out.below (HR.out.low.mono (by have := HN.out; omega))
          obtain ⟨g, o, rfl, hc⟩ : ∃ g o, ao = some ⟨g, o, none⟩ ∧ ∀ i, i < n → wr.cell? ⟨g, o + i * 4, none⟩ = some (.int .i64 (S.getD i default).q) ∧ wr.cell? ⟨g, o + i * 4 + 1, none⟩ = some (.int .i64 (S.getD i default).a) ∧
              wr.cell? ⟨g, o + i * 4 + 2, none⟩ = some (.int .i64 (S.getD i default).b) ∧ wr.cell? ⟨g, o + i * 4 + 3, none⟩ = some (.int .i64 (S.getD i default).d) := by
            rcases hrow with h | ⟨g, o, h1, h2⟩
            · have := HSn.out; subst h; simp at this; omega
            · exact ⟨g, o, h1, by rw [← HSn.out]; exact h2⟩
          obtain ⟨c1, c2, c3, c4⟩ := hc j hlt
          clear hc hrow
          obtain ⟨hq, ha, hb, hd⟩ := HSM.out j (by rw [HSn.out]; exact hlt)
          have HKEY := Lib.hid (key_item _ _ _ ha hb hd)
          have hth := cntN_there HST.out ha hb hd k (by rw [HTn.out]; omega)
          have HAT := Lib.hid (cntF_at T k (keyL (S.getD j default).a (S.getD j default).b (S.getD j default).d))
          have HW1 : Hid (wrtAt S T (j + 1) = wrtAt S T j ++ (if there T (S.getD j default).a (S.getD j default).b (S.getD j default).d T.length = true then [] else [⟨6, 0, j, (S.getD j default).q, 0⟩])) := rfl
          rw [hid_eq HTn] at HW1
          clear hq ha hb hd
          generalize (S.getD j default).q = q at *
          generalize (S.getD j default).a = a at *
          generalize (S.getD j default).b = b at *
          generalize (S.getD j default).d = d at *
          generalize wrtAt S T j = l at *
          have HD := Lib.hid (HR.out.alloc (.cells #[.int .i64 q, .int .i64 a, .int .i64 b, .int .i64 d] 75))
          have HM2 := Lib.hid HD.out.map
          have hNW := HR.out.nw
          generalize cntN T k (keyL a b d) = cc at *
          cases hx : there T a b d k with
          | true =>
            have hcc : ¬ (cc : Int) = 0 := by
              intro h0
              have := hth.1 (by omega)
              rw [hx] at this
              cases this
            have HW2 := Lib.hid (show wrtAt S T (j + 1) = l from by rw [hid_eq HW1, hx]; simp)
            have hcb : ((cc : Int) == 0) = false := by rw [beq_eq_false_iff_ne]; exact hcc
            clear HW1 hth hx hcc
            go_wp2_with (at_lookup; go_must (refine wpList_look rfl _ _ 110 rfl 73 3 keyed_item Tryd.underlying110 Tryd.underlying3 (zero_int _) N (2 * k) (cntF T k) rfl HM2.out _ (keyL a b d) rfl HKEY.out cc HAT.out ?_))
            go_roundw
            case rel => exact ⟨j + 1, by omega, by go_num, by rw [HW2.out]; exact HD.out⟩
            case measure => simp [intOf]; omega
          | false =>
            have hcc : cc = 0 := hth.2 hx
            subst hcc
            have HW2 := Lib.hid (show wrtAt S T (j + 1) = l ++ [⟨6, 0, j, q, 0⟩] from by rw [hid_eq HW1, hx]; simp)
            have HSX := Lib.hid (src_one wr (.cells #[.int .i64 q, .int .i64 a, .int .i64 b, .int .i64 d] 75) (Flt.cells ⟨6, 0, j, q, 0⟩).toArray 77 5 rfl (flt_one _))
            have HOW := Lib.hid (HD.out.row.alloc (.cells (Flt.cells ⟨6, 0, j, q, 0⟩).toArray 77))
            have HAP := Lib.hid (fun v' w' ha => HD.out.app (o := .cells (Flt.cells ⟨6, 0, j, q, 0⟩).toArray 77) (x := ⟨6, 0, j, q, 0⟩) (v' := v') (w1 := w') ha)
            clear HW1 hth hx
            go_wp2_with (first | (at_lookup; go_must (refine wpList_look rfl _ _ 110 rfl 73 3 keyed_item Tryd.underlying110 Tryd.underlying3 (zero_int _) N (2 * k) (cntF T k) rfl HM2.out _ (keyL a b d) rfl HKEY.out 0 HAT.out ?_)) | (at_builtin; go_must (refine wpList_append_row rfl (.tmp 39) (.tmp 44) 58 rfl (N + 1) 77 i0 _ 5 40 Tryd.underlying58 hi0 hz0 hz1 (by decide) hz2 rfl u5 l.length (fcells l) rfl HOW.out 1 (Flt.cells ⟨6, 0, j, q, 0⟩) HSX.out ?l2 ?b2 ?n2 ?_); go_must (case l2 => (unfold maxLen; omega)); go_must (case b2 => omega); go_must (case n2 => (simp; omega)); intro v' w' ha; have HA := Lib.hid (HAP.out _ _ ha); clear ha))
            go_roundw
            case rel => exact ⟨j + 1, by omega, by go_num, by rw [HW2.out]; exact HA.out⟩
            case measure => simp [intOf]; omega
        · obtain rfl : j = n := by omega
          go_wp2_with fail
          go_ret
          have h := HR.out.row
          exact ⟨_, rfl, by rw [wrtF, HSn.out, HN.out]; exact own_base h (by omega), by rw [HN.out]; exact HR.out.low⟩
end Go.Proofs.YtfcaebceklhbkaaDoor
