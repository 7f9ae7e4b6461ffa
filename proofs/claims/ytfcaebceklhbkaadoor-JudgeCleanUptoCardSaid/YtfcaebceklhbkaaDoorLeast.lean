/-
  The law JudgeLeast (f7): the walk.
-/
import Derived.Test.YtfcaebceklhbkaaDoorLeastLaw
import Derived.Test.YtfcaebceklhbkaaDoorFixed
namespace Go.Proofs.YtfcaebceklhbkaaDoor
open Go.RowKit
set_option linter.unusedVariables false

theorem copy_run {w : World} (t e : TypeId) (z : Value) (k bytes : Nat) (ht : Tryd.prog.underlying t = some (.slice e)) (info : (Tryd.prog.info? e).map (fun i => (i.zero, i.size, i.bytes)) = some (some z, k, bytes)) (hk : 0 < k) (hzs : z.cells.size = k)
    {x : Value} {m : Nat} {news : List Value} (hx : SrcOf w k x m news) (h63 : m ≤ maxLen) (hbytes : m * bytes ≤ 140737488355328) :
    ∃ v' w', (Builtin.append_ #[t, t] t #[.slice (some ⟨w.heap.size, 0, none⟩) 0 0, x]).run Tryd.prog (w.alloc (.cells #[] e)) = .ok v' w' ∧ w'.ownsRow w.heap.size e k v' m news ∧ Below w.heap.size w w' := by
  obtain ⟨i, hi, hz, hsize, hby⟩ := info_parts info
  have hb : Below w.heap.size w (w.alloc (.cells #[] e)) := (Below.refl _ _).alloc (Nat.le_refl _) _
  have hown : (w.alloc (.cells #[] e)).ownsRow w.heap.size e k (.slice (some ⟨w.heap.size, 0, none⟩) 0 0) 0 [] :=
    ⟨by simp, .inr ⟨w.heap.size, 0, #[], rfl, Nat.le_refl _, heap_alloc_new w _, Nat.le_refl _, Nat.zero_le _, by simp, by simp⟩⟩
  obtain ⟨v', w', hr, h1, h2, _⟩ := run_append_row (P := Tryd.prog) (w.alloc (.cells #[] e)) w.heap.size t t e i z k bytes ht hi hz hsize hk hby hzs _ 0 [] hown x m news (hx.below hb) (by omega) (by simpa using hbytes) (by simp)
  simp only [Nat.zero_add, List.nil_append] at h1
  exact ⟨v', w', hr, h1, hb.grown h2 (by simp) (fun k hk => by cases hk; exact Nat.le_refl _)⟩

/-- Copies of a state and of calls. -/
theorem copies2 {W : World} {v : Value} {s : List Int} {ao : Option Addr} {n co : Nat} {S : List Cl} (hss : SrcOf W 1 v s.length (numV s)) (hcs : SrcOf W 10 (.slice ao n co) n (callsV S)) (hSn : S.length = n) (hsl : s.length ≤ 4000000) (hn : n ≤ 1000000) :
    ∃ v1 w1 v2 w2, (Builtin.append_ #[22, 22] 22 #[.slice (some ⟨W.heap.size, 0, none⟩) 0 0, v]).run Tryd.prog (W.alloc (.cells #[] 2)) = .ok v1 w1 ∧
      (Builtin.append_ #[37, 37] 37 #[.slice (some ⟨w1.heap.size, 0, none⟩) 0 0, .slice ao n co]).run Tryd.prog (w1.alloc (.cells #[] 81)) = .ok v2 w2 ∧
      Nums w2 v1 s ∧ (∃ a2 c2, v2 = .slice a2 n c2 ∧ CallRow w2 a2 S) ∧ Below W.heap.size W w2 := by
  obtain ⟨v1, w1, r1, o1, b1⟩ := copy_run 22 2 _ 1 8 Tryd.underlying22 info2 (by decide) rfl hss (by unfold maxLen; omega) (by omega)
  obtain ⟨v2, w2, r2, o2, b2⟩ := copy_run 37 81 _ 10 96 Tryd.underlying37 info81 (by decide) rfl (hcs.below b1) (by unfold maxLen; omega) (by omega)
  obtain ⟨a2, c2, e2, h2, _⟩ := row_calls (S := S) (by rw [hSn]; exact o2)
  exact ⟨v1, w1, v2, w2, r1, r2, (nums_row o1).below b2, ⟨a2, c2, by rw [e2, hSn], h2⟩, b1.trans (b2.mono b1.size)⟩
/-- .. and of an order. -/
theorem copies3 {W : World} {v x : Value} {s q : List Int} {ao : Option Addr} {n co : Nat} {S : List Cl} (hss : SrcOf W 1 v s.length (numV s)) (hcs : SrcOf W 10 (.slice ao n co) n (callsV S)) (hqs : SrcOf W 1 x q.length (numV q)) (hSn : S.length = n) (hsl : s.length ≤ 4000000) (hn : n ≤ 1000000) (hql : q.length ≤ 4000000) :
    ∃ v1 w1 v2 w2 v3 w3, (Builtin.append_ #[22, 22] 22 #[.slice (some ⟨W.heap.size, 0, none⟩) 0 0, v]).run Tryd.prog (W.alloc (.cells #[] 2)) = .ok v1 w1 ∧
      (Builtin.append_ #[37, 37] 37 #[.slice (some ⟨w1.heap.size, 0, none⟩) 0 0, .slice ao n co]).run Tryd.prog (w1.alloc (.cells #[] 81)) = .ok v2 w2 ∧
      (Builtin.append_ #[38, 38] 38 #[.slice (some ⟨w2.heap.size, 0, none⟩) 0 0, x]).run Tryd.prog (w2.alloc (.cells #[] 3)) = .ok v3 w3 ∧
      Nums w3 v1 s ∧ (∃ a2 c2, v2 = .slice a2 n c2 ∧ CallRow w3 a2 S) ∧ Nums w3 v3 q ∧ Below W.heap.size W w3 := by
  obtain ⟨v1, w1, v2, w2, r1, r2, h1, ⟨a2, c2, e2, h2⟩, b2⟩ := copies2 hss hcs hSn hsl hn
  obtain ⟨v3, w3, r3, o3, b3⟩ := copy_run 38 3 _ 1 8 Tryd.underlying38 info3 (by decide) rfl (hqs.below b2) (by unfold maxLen; omega) (by omega)
  exact ⟨v1, w1, v2, w2, v3, w3, r1, r2, r3, h1.below b3, ⟨a2, c2, e2, h2.below b3⟩, nums_row o3, b2.trans (b3.mono b2.size)⟩

theorem ordV_ints (l : List Nat) : ordV l = numV (intsF l) := by simp [ordV, numV, intsF]
theorem row_src {w : World} {N e : Nat} {v : Value} {l : List Int} (h : w.ownsRow N e 1 v l.length (numV l)) : SrcOf w 1 v l.length (numV l) := by
  refine ⟨by simp [numV], fun u hu => ?_, ?_⟩
  · obtain ⟨x, _, rfl⟩ := List.mem_map.1 hu
    rfl
  · have hc := fun g => h.cells (g := g)
    rcases h.2 with ⟨rfl, h0⟩ | ⟨g, cap, cur, rfl, _⟩
    · exact .inl ⟨rfl, h0⟩
    · exact .inr ⟨_, cap, rfl, fun j u hj => hc g rfl j u hj⟩

/-- The same of lists of ints. -/
def lexI : List Int → List Int → Prop
  | [], _ => True
  | _ :: _, [] => False
  | a :: l, b :: q => a < b ∨ (a = b ∧ lexI l q)
theorem lexI_of : ∀ {l : List Nat} {q : List Int}, lexLe l q → lexI (intsF l) q
  | [], _, _ => trivial
  | _ :: _, [], h => h.elim
  | a :: l, b :: q, h => by
    rcases h with h | ⟨h1, h2⟩
    · exact .inl h
    · exact .inr ⟨h1, lexI_of h2⟩
theorem follows_srch {o : Int} {S : List Cl} {q s : List Int} (h : followsF o S q s = true) : q.length = S.length ∧ ∃ l, srch o S S.length 0 s = some l ∧ lexI (intsF l) q := by
  unfold followsF at h
  rw [Bool.and_eq_true, decide_eq_true_eq] at h
  have h0 : (fun _ => false) = (0 : Nat).testBit := by funext k; simp
  rw [h0] at h
  obtain ⟨l, h1, h2⟩ := fol_srch o S S.length 0 s q h.2 h.1
  exact ⟨h.1, l, h1, lexI_of h2⟩
theorem srch_follows {o : Int} {S : List Cl} {s : List Int} {l : List Nat} (h : srch o S S.length 0 s = some l) : followsF o S (intsF l) s = true ∧ l.length = S.length := by
  obtain ⟨h1, h2⟩ := srch_fol o S _ _ _ _ h
  have h0 : (fun _ => false) = (0 : Nat).testBit := by funext k; simp
  refine ⟨?_, h2⟩
  unfold followsF
  rw [h0, h1]
  simp [intsF, h2]

/-- An append behind a guard that says yes, by its equation. -/
theorem wpList_append_runG {P : Program} {w : World} {ops : Array Oper} {rest : List Oper} {o : Oper} {a : Act} {Q : Exit → Act → World → Prop} (hw : Region.wanted o (yielded ops a.tmps) = true) (s x : Operand) (t tn : TypeId)
    (ho : o.op = .call { callee := .builtin .append, args := #[s, x], argTypes := #[t, tn] }) (vs vx : Value) (hs : a.eval s = vs) (hx : a.eval x = vx)
    (v' : Value) (w' : World) (hr : (Builtin.append_ #[t, tn] o.type #[vs, vx]).run P w = .ok v' w') (h : wpList P ops Q rest (a.put o.dst v') w') : wpList P ops Q (o :: rest) a w :=
  wpList_step fun K hK => by
    rw [if_pos hw]
    exact Lib.wp_append_run w s x t tn ho vs vx hs hx v' w' hr (hK _ _ h)

theorem linear_none {o : Int} {S : List Cl} {v : Value} {s : List Int} {ao : Option Addr} {n co : Nat} {W : World} {k : Int} (h : Calls Tryd.prog 16 #[.int .i64 o, v, .slice ao n co] W (DoneL (linF o S s) W)) (he : linF o S s = (none, k)) :
    Calls Tryd.prog 16 #[.int .i64 o, v, .slice ao n co] W (fun e w' => e = .returned (.tuple #[.slice none 0 0, .bool false, .int .i64 k]) ∧ Below W.heap.size W w') :=
  h.mono fun e w' h => by rw [he] at h; exact ⟨h.2, h.1⟩
theorem linear_some {o : Int} {S : List Cl} {v : Value} {s : List Int} {ao : Option Addr} {n co : Nat} {W : World} {k : Int} {l : List Nat} (h : Calls Tryd.prog 16 #[.int .i64 o, v, .slice ao n co] W (DoneL (linF o S s) W)) (he : linF o S s = (some l, k)) :
    Calls Tryd.prog 16 #[.int .i64 o, v, .slice ao n co] W (fun e w' => ∃ lo lc, e = .returned (.tuple #[.slice lo (intsF l).length lc, .bool true, .int .i64 k]) ∧ (Nums w' (.slice lo (intsF l).length lc) (intsF l) ∧ SrcOf w' 1 (.slice lo (intsF l).length lc) (intsF l).length (numV (intsF l))) ∧ Below W.heap.size W w') :=
  h.mono fun e w' h => by
    rw [he] at h
    obtain ⟨hb, v', e', hr⟩ := h
    rw [ordV_ints, show l.length = (intsF l).length by simp [intsF]] at hr
    obtain ⟨lo, lc, ev⟩ := nums_len (nums_row hr)
    rw [ev] at hr e'
    exact ⟨lo, lc, e', ⟨nums_row hr, row_src hr⟩, hb⟩

set_option maxRecDepth 100000 in
set_option maxHeartbeats 8000000 in
theorem leastLaw_walk (z : Int) (hz : 0 ≤ z ∧ z < 256) (v : Value) (s : List Int) (ao qo : Option Addr) (n co m qc : Nat) (S : List Cl) (q : List Int) (w : World) (hSn : S.length = n) (hC : CallRow w ao S) (hCn : ao = none → n = 0 ∧ co = 0) (hn : n ≤ 1000000)
    (hSf : ∀ c ∈ S, Fits c.x ∧ Fits c.y ∧ c.ln ≤ 9223372036854775807)
    (hq : Nums w (.slice qo m qc) q) (hqs : SrcOf w 1 (.slice qo m qc) m (numV q)) (hqm : q.length = m) (hs : Nums w v s) (hss : SrcOf w 1 v s.length (numV s)) (hsf : ∀ x ∈ s, Fits x) (hsl : s.length ≤ 2000000) (hm : m ≤ 2000000) (ht : Tab w) :
    Calls Tryd.prog 7 #[.int .u8 z, v, .slice ao n co, .slice qo m qc] w fun e w' => e = .returned (.bool true) ∧ Below w.heap.size w w' := by
  have HFX := Lib.hid (fixed_walk w ht)
  go_enter Tryd.func7, Tryd.ntmps7
  go_wp2_with fail
  refine HFX.out.mono ?_
  rintro e w1 ⟨rfl, hb1⟩
  by_cases h12 : 12 < n
  · have h12' : (n : Int) > 12 := by omega
    obtain ⟨v1, w2, v2, w3, r1, r2, hn3, ⟨a2, c2, rfl, hc3⟩, hb3⟩ := copies2 (W := w1) (hss.below hb1) ((src_calls hC hSn hCn).below hb1) hSn (by omega) hn
    have H16 := Lib.hid (linear_none (linear_walk (1 + z % 5) S a2 n c2 v1 s w3 hSn hc3 ((ht.below hb1).below hb3) (doOk_all _) hSf (by omega) hn3 hsf hsl) (k := 1) (by unfold linF; rw [if_pos (by omega)]))
    have HR1 := Lib.hid r1
    have HR2 := Lib.hid r2
    have HB3 := Lib.hid (hb1.trans (hb3.mono hb1.size))
    clear hSf hC hq hqs hs hss r1 r2 hn3 hc3 hb3 hb1
    go_wp2_with (first
      | (at_builtin; refine Lib.wpList_append_run _ rfl _ _ _ _ rfl _ _ rfl rfl _ _ HR1.out ?_)
      | (at_builtin; refine Lib.wpList_append_run _ rfl _ _ _ _ rfl _ _ rfl rfl _ _ HR2.out ?_))
    refine H16.out.mono ?_
    rintro e w4 ⟨rfl, hb4⟩
    have HB4 := Lib.hid (HB3.out.trans (hb4.mono HB3.out.size))
    clear hb4
    go_wp2_with fail
    go_ret
    exact ⟨rfl, HB4.out⟩
  · have h12' : ¬ (n : Int) > 12 := by omega
    obtain ⟨v1, w2, v2, w3, r1, r2, hn3, ⟨a2, c2, rfl, hc3⟩, hb3⟩ := copies2 (W := w1) (hss.below hb1) ((src_calls hC hSn hCn).below hb1) hSn (by omega) hn
    have hlin : linF (1 + z % 5) S s = (srch (1 + z % 5) S S.length 0 s, 0) := by
      unfold linF
      rw [if_neg (by omega), if_neg (by omega)]
    have H16 := Lib.hid (linear_walk (1 + z % 5) S a2 n c2 v1 s w3 hSn hc3 ((ht.below hb1).below hb3) (doOk_all _) hSf (by omega) hn3 hsf hsl)
    have H20 := Lib.hid (fun (v1 v3 : Value) (a2 : Option Addr) (c2 : Nat) (q : List Int) (W : World) (h1 : Nums W v1 s) (h2 : CallRow W a2 S) (h3 : Nums W v3 q) (hq : q.length ≤ 2000000) => show Calls Tryd.prog 20 #[.int .i64 (1 + z % 5), v1, .slice a2 n c2, v3] W (fun e w' => e = .returned (.bool (followsF (1 + z % 5) S q s)) ∧ Below W.heap.size W w') from by
      obtain ⟨a3, c3, e3⟩ := nums_len h3
      rw [e3]
      exact follows_walk (1 + z % 5) v1 s a2 a3 n c2 q.length c3 S q W hSn h2 hn (fun c hc => (hSf c hc).2.2) (e3 ▸ h3) rfl h1 hsl (by omega))
    have HR1 := Lib.hid r1
    have HR2 := Lib.hid r2
    have HB3 := Lib.hid (hb1.trans (hb3.mono hb1.size))
    have HSS := Lib.hid hss
    have HCS := Lib.hid (src_calls hC hSn hCn)
    have HQS := Lib.hid hqs
    have HQ := Lib.hid hq
    clear hSf hC hq hqs hs hss r1 r2 hn3 hc3 hb3 hb1
    cases hsr : srch (1 + z % 5) S S.length 0 s with
    | none =>
      have H16n := Lib.hid (linear_none H16.out (by rw [hlin, hsr]))
      have hff : followsF (1 + z % 5) S q s = false := by
        cases e : followsF (1 + z % 5) S q s with
        | false => rfl
        | true =>
          obtain ⟨_, l, h, _⟩ := follows_srch e
          rw [hsr] at h
          cases h
      have HFF := Lib.hid hff
      clear hlin hsr hff
      go_wp2_with (first
        | (at_builtin; refine Lib.wpList_append_run _ rfl _ _ _ _ rfl _ _ rfl rfl _ _ HR1.out ?_)
        | (at_builtin; refine Lib.wpList_append_run _ rfl _ _ _ _ rfl _ _ rfl rfl _ _ HR2.out ?_))
      refine H16n.out.mono ?_
      rintro e w4 ⟨rfl, hb4⟩
      have HB4 := Lib.hid (HB3.out.trans (hb4.mono HB3.out.size))
      clear hb4
      obtain ⟨v5, w5, v6, w6, v7, w7, r1, r2, r3, hn7, ⟨a6, c6, rfl, hc7⟩, hq7, hb7⟩ := copies3 (W := w4) (q := q) (HSS.out.below HB4.out) (HCS.out.below HB4.out) (by rw [hqm]; exact HQS.out.below HB4.out) hSn (by omega) hn (by omega)
      have HR3 := Lib.hid r1
      have HR4 := Lib.hid r2
      have HR5 := Lib.hid r3
      have HB7 := Lib.hid (HB4.out.trans (hb7.mono HB4.out.size))
      have H20q := Lib.hid (H20.out v5 v7 a6 c6 q w7 hn7 hc7 hq7 (by omega))
      clear r1 r2 r3 hn7 hc7 hq7 hb7
      rw [HFF.out] at H20q
      go_wp2_with (first
        | (at_builtin; refine Lib.wpList_append_run _ rfl _ _ _ _ rfl _ _ rfl rfl _ _ HR3.out ?_)
        | (at_builtin; refine Lib.wpList_append_run _ rfl _ _ _ _ rfl _ _ rfl rfl _ _ HR4.out ?_)
        | (at_builtin; refine Lib.wpList_append_run _ rfl _ _ _ _ rfl _ _ rfl rfl _ _ HR5.out ?_))
      refine H20q.out.mono ?_
      rintro e w8 ⟨rfl, hb8⟩
      have HB8 := Lib.hid (HB7.out.trans (hb8.mono HB7.out.size))
      clear hb8
      go_wp2_with fail
      go_ret
      exact ⟨rfl, HB8.out⟩
    | some l =>
      obtain ⟨hfl, hll⟩ := srch_follows hsr
      have H16s := Lib.hid (linear_some H16.out (by rw [hlin, hsr]))
      have hil : (intsF l).length = n := by simp [intsF, hll, hSn]
      rw [hil] at H16s
      have HLX : Hid (followsF (1 + z % 5) S q s = true → lexI (intsF l) q) := Lib.hid (fun e => by
        obtain ⟨_, l', h1, h2⟩ := follows_srch e
        rw [hsr] at h1
        cases h1
        exact h2)
      have HQN := Lib.hid (fun e => (follows_srch (o := 1 + z % 5) (S := S) (s := s) (q := q) e).1)
      have HFL := Lib.hid hfl
      have HIL := Lib.hid hil
      clear hlin hsr hfl hll hil
      go_wp2_with (first
        | (at_builtin; refine Lib.wpList_append_run _ rfl _ _ _ _ rfl _ _ rfl rfl _ _ HR1.out ?_)
        | (at_builtin; refine Lib.wpList_append_run _ rfl _ _ _ _ rfl _ _ rfl rfl _ _ HR2.out ?_))
      refine H16s.out.mono ?_
      rintro e w4 ⟨lo, lc, rfl, ⟨hnl, hsl4⟩, hb4⟩
      have HNL := Lib.hid hnl
      have HB4 := Lib.hid (HB3.out.trans (hb4.mono HB3.out.size))
      obtain ⟨v5, w5, v6, w6, v7, w7, r1, r2, r3, hn7, ⟨a6, c6, rfl, hc7⟩, hq7, hb7⟩ := copies3 (W := w4) (q := intsF l) (HSS.out.below HB4.out) (HCS.out.below HB4.out) (by rw [HIL.out]; exact hsl4) hSn (by omega) hn (by rw [HIL.out]; omega)
      have HR3 := Lib.hid r1
      have HR4 := Lib.hid r2
      have HR5 := Lib.hid r3
      have HB7 := Lib.hid (HB4.out.trans (hb7.mono HB4.out.size))
      have HNL7 := Lib.hid (hnl.below hb7)
      have H20q := Lib.hid (H20.out v5 v7 a6 c6 (intsF l) w7 hn7 hc7 hq7 (by rw [HIL.out]; omega))
      clear r1 r2 r3 hn7 hc7 hq7 hb7 hb4 hnl hsl4
      rw [HFL.out] at H20q
      go_wp2_with (first
        | (at_builtin; refine wpList_append_runG rfl _ _ _ _ rfl _ _ rfl rfl _ _ HR3.out ?_)
        | (at_builtin; refine wpList_append_runG rfl _ _ _ _ rfl _ _ rfl rfl _ _ HR4.out ?_)
        | (at_builtin; refine wpList_append_runG rfl _ _ _ _ rfl _ _ rfl rfl _ _ HR5.out ?_))
      refine H20q.out.mono ?_
      rintro e w8 ⟨rfl, hb8⟩
      have HB8 := Lib.hid (HB7.out.trans (hb8.mono HB7.out.size))
      have HNL8 := Lib.hid (HNL7.out.below hb8)
      clear hb8
      obtain ⟨v9, w9, va, wa, vb, wb, r1, r2, r3, hnb, ⟨aa, ca, rfl, hcb⟩, hqb, hbb⟩ := copies3 (W := w8) (q := q) (HSS.out.below HB8.out) (HCS.out.below HB8.out) (by rw [hqm]; exact HQS.out.below HB8.out) hSn (by omega) hn (by omega)
      have HR6 := Lib.hid r1
      have HR7 := Lib.hid r2
      have HR8 := Lib.hid r3
      have HBB := Lib.hid (HB8.out.trans (hbb.mono HB8.out.size))
      have HNLB := Lib.hid (HNL8.out.below hbb)
      have H20r := Lib.hid (H20.out v9 vb aa ca q wb hnb hcb hqb (by omega))
      clear r1 r2 r3 hnb hcb hqb hbb
      cases hff : followsF (1 + z % 5) S q s with
      | false =>
        rw [hff] at H20r
        clear hff
        go_wp2_with (first
          | (at_builtin; refine Lib.wpList_append_run _ rfl _ _ _ _ rfl _ _ rfl rfl _ _ HR6.out ?_)
          | (at_builtin; refine Lib.wpList_append_run _ rfl _ _ _ _ rfl _ _ rfl rfl _ _ HR7.out ?_)
          | (at_builtin; refine Lib.wpList_append_run _ rfl _ _ _ _ rfl _ _ rfl rfl _ _ HR8.out ?_))
        refine H20r.out.mono ?_
        rintro e wc ⟨rfl, hbc⟩
        have HBC := Lib.hid (HBB.out.trans (hbc.mono HBB.out.size))
        clear hbc
        go_wp2_with fail
        go_ret
        exact ⟨rfl, HBC.out⟩
      | true =>
        rw [hff] at H20r
        have hlx := HLX.out hff
        have hqn := HQN.out hff
        obtain rfl : m = n := by rw [← hqm, hqn, hSn]
        have HX0 := Lib.hid hlx
        clear hff hlx hqn
        go_wp2_with (first
          | (at_builtin; refine Lib.wpList_append_run _ rfl _ _ _ _ rfl _ _ rfl rfl _ _ HR6.out ?_)
          | (at_builtin; refine Lib.wpList_append_run _ rfl _ _ _ _ rfl _ _ rfl rfl _ _ HR7.out ?_)
          | (at_builtin; refine Lib.wpList_append_run _ rfl _ _ _ _ rfl _ _ rfl rfl _ _ HR8.out ?_))
        refine H20r.out.mono ?_
        rintro e wc ⟨rfl, hbc⟩
        have HBC := Lib.hid (HBB.out.trans (hbc.mono HBB.out.size))
        have HNLC := Lib.hid (HNLB.out.below hbc)
        have HQC := Lib.hid (HQ.out.below HBC.out)
        clear hbc
        go_wp2_with fail
        go_loopw [16] (fun iv wr => ∃ i : Nat, i ≤ m ∧ iv = .int .i64 i ∧ lexI ((intsF l).drop i) (q.drop i) ∧ Below wc.heap.size wc wr) (fun iv _ => m - (intOf iv).toNat)
        case atStart => exact ⟨0, by omega, rfl, HX0.out, Below.refl _ _⟩
        case round =>
          obtain ⟨i, hi, rfl, hx, hlow⟩ := hrel
          have HL := Lib.hid hlow
          by_cases hlt : i < m
          · obtain ⟨_, ga, oa, rfl, hca⟩ := nums_cell HNLC.out hlt
            obtain ⟨_, gb, ob, rfl, hcb⟩ := nums_cell HQC.out hlt
            have h1 := (hlow.cell (p := ⟨ga, oa + i, none⟩) (World.block_lt_of_cell? wc _ hca)).trans hca
            have h2 := (hlow.cell (p := ⟨gb, ob + i, none⟩) (World.block_lt_of_cell? wc _ hcb)).trans hcb
            rw [drop_cons (by rw [HIL.out]; exact hlt), drop_cons (q := q) (by rw [hqm]; exact hlt)] at hx
            have HX := Lib.hid hx
            clear hlow hca hcb hx
            generalize (intsF l).getD i 0 = a at *
            generalize q.getD i 0 = b at *
            by_cases hab : a = b
            · subst hab
              have HX2 := Lib.hid (show lexI ((intsF l).drop (i + 1)) (q.drop (i + 1)) from by
                rcases HX.out with h | h
                · omega
                · exact h.2)
              clear HX
              go_wp2_with (go_quiet (fail))
              go_roundw
              case rel => exact ⟨i + 1, by omega, by go_num, HX2.out, below_drewN HL.out _⟩
              case measure => simp [intOf]; omega
            · have hlt2 : a < b := by
                rcases HX.out with h | h
                · exact h
                · exact absurd h.1 hab
              have hab' : (a == b) = false := by rw [beq_eq_false_iff_ne]; exact hab
              have hd : decide (a < b) = true := by simp [hlt2]
              clear HX
              go_wp2_with (go_quiet (fail))
              go_ret
              exact ⟨by simp, HBC.out.trans ((below_drewN (below_drewN HL.out _) _).mono HBC.out.size)⟩
          · obtain rfl : i = m := by omega
            clear hlow hx
            go_wp2_with fail
            go_ret
            exact ⟨rfl, HBC.out.trans (HL.out.mono HBC.out.size)⟩
end Go.Proofs.YtfcaebceklhbkaaDoor
