/-
  Merged out of: Gate27 Gate28. No condition of its own.
-/
import Derived.Test.YtofacoojpgkbiaaNoneP30
set_option linter.unusedVariables false
set_option linter.unusedSimpArgs false
/-
  What the law calls upon a gate: call, however one goes on. No condition of its own.
-/
namespace Go.Proofs.Ytofacoojpgkbiaa
open Go.Conc Go.RowKit
open Go.ConcN (upd upd_ne upd_same)
set_option maxRecDepth 100000
noncomputable def c21 : Code := (Try.f21.body).getD .skip
def A21 (x : Nat → Value) : Act := ⟨#[x 0, x 1, x 2, x 3, x 4, x 5, x 6, x 7, x 8, x 9, x 10, x 11, x 12, x 13, x 14, x 15, x 16, x 17, x 18, x 19, x 20, x 21, x 22, x 23, x 24, x 25, x 26, x 27, x 28, x 29, x 30, x 31, x 32, x 33, x 34, x 35, x 36, x 37, x 38, x 39, x 40, x 41, x 42, x 43, x 44, x 45, x 46, x 47, x 48, x 49, x 50, x 51, x 52, x 53, x 54, x 55, x 56, x 57, x 58, x 59, x 60, x 61, x 62, x 63, x 64, x 65, x 66, x 67, x 68, x 69, x 70, x 71, x 72, x 73, x 74, x 75, x 76, x 77, x 78, x 79, x 80, x 81, x 82, x 83, x 84, x 85, x 86, x 87], []⟩
theorem a21_of (l : Array Value) (hl : l.size = 88) : (⟨l, []⟩ : Act) = A21 fun j => l.getD j undef := by
  have e : ∀ x : Nat → Value, (A21 x).tmps = ((List.range 88).map x).toArray := fun x => rfl
  have h1 : l = (A21 fun j => l.getD j undef).tmps := by
    rw [e]
    apply Array.ext_getElem?
    intro i
    by_cases h : i < 88
    · have h' : i < l.size := by omega
      simp [h, h', List.getElem?_range]
    · have h' : ¬ i < l.size := by omega
      rw [Array.getElem?_eq_none (by omega), Array.getElem?_eq_none (by simp; omega)]
  exact congrArg (Act.mk · []) h1
def toldC (v e : Int) : Ans := if e = 0 then ⟨true, v, []⟩ else ⟨false, e, []⟩
theorem told2_walk (v e : Int) (w : World) : Calls Try.prog 84 #[.int .i64 v, .int .i64 e] w fun x w' => x = .returned (ansV (toldC v e) (.slice none 0 0)) ∧ w.alloc (cellsA (toldC v e) (.slice none 0 0)) = w' := by
  by_cases he : e = 0
  · have h1 : (e != 0) = false := by simp [he]
    have ht : toldC v e = ⟨true, v, []⟩ := if_pos he
    rw [ht]
    clear he ht
    go_enter Try.func84, Try.ntmps84
    go_wp2_with fail
    refine bodyPost_ret (results_cell_row rfl _ _ w.heap.size 42 #[.bool true, .int .i64 v, .slice none 0 0] (0, 0) _ rfl (heap_alloc_new _ _) Try.underlying42 (by rfl) (by rw [info42]; rfl)) rfl ?_
    exact ⟨rfl, rfl⟩
  · have h1 : (e != 0) = true := by simpa using he
    have ht : toldC v e = ⟨false, e, []⟩ := if_neg he
    rw [ht]
    clear he ht
    go_enter Try.func84, Try.ntmps84
    go_wp2_with fail
    refine bodyPost_ret (results_cell_row rfl _ _ w.heap.size 42 #[.bool false, .int .i64 e, .slice none 0 0] (0, 0) _ rfl (heap_alloc_new _ _) Try.underlying42 (by rfl) (by rw [info42]; rfl)) rfl ?_
    exact ⟨rfl, rfl⟩
set_option maxHeartbeats 2000000 in
theorem wide_walk {v : Value} {l : List Int} (w : World) (hv : IntsAt w v l) (hl : l.length ≤ 1000000) : Calls Try.prog 24 #[v] w fun e w' => ∃ v', e = .returned v' ∧ w'.ownsRow w.heap.size 2 1 v' l.length (intsV l) ∧ Below w.heap.size w w' := by
  obtain ⟨i1, hi1, hz1, hz11, hz12⟩ := info_parts info2g
  obtain ⟨va, vc, rfl, hcell⟩ := hv
  obtain ⟨n, hn⟩ : ∃ n, l.length = n := ⟨_, rfl⟩
  rw [hn] at hl ⊢
  replace hcell := Lib.hid hcell
  replace hn := Lib.hid hn
  generalize hN : w.heap.size = N at *
  replace hN := Lib.hid hN
  go_enter Try.func24, Try.ntmps24
  go_wp2_with fail
  go_loopw [3, 4] (fun va' iv wr => ∃ (j : Nat), j ≤ n ∧ iv = .int .i64 j ∧ Hid (wr.ownsRow N 2 1 va' j (intsV (l.take j))) ∧ Hid (Below N w wr)) (fun _ iv _ => n - (intOf iv).toNat)
  case atStart => exact ⟨0, by omega, rfl, Lib.hid (World.ownsRow_nil _ _ _ _), Lib.hid (Below.refl _ _)⟩
  case round =>
    obtain ⟨j, hj, rfl, HS, HB⟩ := hrel
    obtain ⟨vp, vcc, rfl⟩ := slice_of HS.out
    by_cases hlt2 : j < n
    · have hlt' : (j : Int) < (n : Int) := by omega
      have hj0 : (0 : Int) ≤ (j : Int) := by omega
      obtain ⟨x, hx⟩ : ∃ x, l[j]? = some x := ⟨_, List.getElem?_eq_getElem (by rw [hn.out]; exact hlt2)⟩
      obtain ⟨b, off, hva, hcl⟩ := hcell.out (by intro z; rw [z] at hx; simp at hx)
      have q0 := hcl j x hx
      have hb := World.block_lt_of_cell? w _ q0
      have q1 : wr.cell? ⟨b, off + j, none⟩ = some (.int .i64 x) := (World.cell?_of_block (w := w) (HB.out.block _ (by rw [← hN.out]; exact hb))).trans q0
      have hsz := Lib.hid (hN.out ▸ HB.out.size)
      have HSx := Lib.hid (src_new wr x 2)
      have HO1 := Lib.hid (HS.out.alloc (.cells #[.int .i64 x] 2))
      have HBa := Lib.hid (HB.out.alloc (by have := hsz.out; omega) (.cells #[.int .i64 x] 2))
      have htk : l.take (j + 1) = l.take j ++ [x] := by rw [List.take_add_one, hx]; rfl
      replace htk := Lib.hid htk
      have e1 : IntKind.i64.wrap ((j : Int) + 1) = ((j + 1 : Nat) : Int) := by rw [IntKind.wrap_i64]; omega
      clear hx hb hcl q0
      subst hva
      go_wp2_with (at_builtin; (refine wpList_append_row rfl (.tmp 11) (.tmp 16) 22 rfl N 2 i1 _ _ Try.underlying22 hi1 hz1 hz11 hz12 rfl (.slice vp j vcc) j _ rfl HO1.out 1 _ HSx.out ?l2 ?b2 ?n2 ?_); (case l2 => (unfold maxLen; omega)); (case b2 => omega); (case n2 => (have h1 := hsz.out; simp; omega)); intro v' w1 ha; obtain ⟨ho, hg, hsh⟩ := ha; have HH := Lib.hid ho; have HB2 := Lib.hid (grown_below HO1.out HBa.out (by have h1 := hsz.out; simp; omega) hg); clear ho hg hsh)
      refine ⟨⟨j + 1, by omega, by rw [Int.natCast_add]; rfl, ?_, HB2⟩, by simp [intOf]; omega⟩
      rw [htk.out, intsV_snoc]
      exact HH
    · have hlt' : ¬ (j : Int) < (n : Int) := by omega
      obtain rfl : j = n := by omega
      go_wp2_with fail
      go_ret
      refine ⟨_, rfl, ?_, HB.out⟩
      have := HS.out
      rwa [List.take_of_length_le (by rw [hn.out]; exact Nat.le_refl _)] at this
theorem prgC : Prg true Try.prog (· ∈ [24, 26, 83, 84, 87]) := prg_of ext_ok (by kernel_rfl) (by kernel_rfl) (by kernel_rfl)
structure Api {S : Type} (md : Md (SM S)) (gv : Value) where
  J : Int → Int → (Int → Fu (SM S)) → Fu (SM S)
  V : Int → (Int → Fu (SM S)) → Fu (SM S)
  T : Int → Int → (Int → Fu (SM S)) → Fu (SM S)
  E : Int → (Int → Int → Fu (SM S)) → Fu (SM S)
  I : (List Int → Fu (SM S)) → Fu (SM S)
  M : Int → (Int → Int → Fu (SM S)) → Fu (SM S)
  Y : Int → Int → (Bool → Int → Fu (SM S)) → Fu (SM S)
  join : ∀ {p a : Int} {κ A w₀ c cs}, In64 a → md.End A w₀ c cs → (∀ e, md.F (κ e) A w₀ (G (c.finish (.int .i64 e)) cs)) → md.F (J p a κ) A w₀ (G (Frame.enter Try.prog 73 #[gv, md.sv, .int .i64 p, .int .i64 a] .normal) (c :: cs))
  leave : ∀ {p : Int} {κ A w₀ c cs}, md.End A w₀ c cs → (∀ e, md.F (κ e) A w₀ (G (c.finish (.int .i64 e)) cs)) → md.F (V p κ) A w₀ (G (Frame.enter Try.prog 76 #[gv, md.sv, .int .i64 p] .normal) (c :: cs))
  set : ∀ {p a : Int} {κ A w₀ c cs}, In64 a → md.End A w₀ c cs → (∀ e, md.F (κ e) A w₀ (G (c.finish (.int .i64 e)) cs)) → md.F (T p a κ) A w₀ (G (Frame.enter Try.prog 27 #[gv, md.sv, .int .i64 p, .int .i64 a] .normal) (c :: cs))
  get : ∀ {p : Int} {κ A w₀ c cs}, md.End A w₀ c cs → (∀ v e, md.F (κ v e) A w₀ (G (c.finish (.tuple #[.int .i64 v, .int .i64 e])) cs)) → md.F (E p κ) A w₀ (G (Frame.enter Try.prog 85 #[gv, md.sv, .int .i64 p] .normal) (c :: cs))
  list : ∀ {κ A w₀ c cs}, md.End A w₀ c cs → (∀ l v A₁ w₁, Less md.i A w₀ A₁ w₁ → RowTh md.i w₁.own w₁.heap v l → (∀ b, rowOf v l b → A₁ b ∧ ¬ A b) → l.length ≤ 64 → md.F (κ l) A₁ w₁ (G (c.finish v) cs)) → md.F (I κ) A w₀ (G (Frame.enter Try.prog 86 #[gv, md.sv] .normal) (c :: cs))
  least : ∀ {n : Int} {κ A w₀ c cs}, In64 n → md.End A w₀ c cs → (∀ v p, md.F (κ v p) A w₀ (G (c.finish (.tuple #[.int .i64 v, .int .i64 p])) cs)) → md.F (M n κ) A w₀ (G (Frame.enter Try.prog 74 #[gv, md.sv, .int .i64 n] .normal) (c :: cs))
  may : ∀ {q z : Int} {κ A w₀ c cs}, In64 q → In64 z → md.End A w₀ c cs → (∀ t p, md.F (κ t p) A w₀ (G (c.finish (.tuple #[.bool t, .int .i64 p])) cs)) → md.F (Y q z κ) A w₀ (G (Frame.enter Try.prog 75 #[gv, md.sv, .int .i64 q, .int .i64 z] .normal) (c :: cs))
def gateApi {S : Type} {md : Md (SM S)} {L : Lens S GateS} {gb : Nat} (O : md.Ok) (Pt : Part md L (GateAt gb) gb TS2) (f : Nat) : Api md (gpv gb) where
  J := joinF L f
  V := leaveF L f
  T := setF L
  E := getF L
  I := fun κ => stepF fun m => κ (L.get m.st).mem m
  M := leastF L
  Y := mayF L
  join := fun ha he h => join_cps O Pt ha f he fun e _ => h e
  leave := fun he h => leave_cps O Pt f he fun e _ => h e
  set := fun ha he h => set_cps O Pt ha he fun e _ => h e
  get := fun he h => get_cps O Pt he fun v e _ _ => h v e
  list := fun {κ} _ _ _ _ he h => list_cps O Pt (κ := κ) (.inr rfl) he fun l v A₁ w₁ h1 h2 h3 h4 => h l v A₁ w₁ h1 h2 h3 (memOk_len h4)
  least := fun hn he h => least_cps O Pt hn he fun n p _ _ => h n p
  may := fun hq hz he h => may_cps O Pt hq hz he fun t p _ => h t p
noncomputable def ch21 : Nat → Code
  | 0 => cA (cB (cA (cB c21)))
  | k + 1 => cB (cB (ch21 k))
section
variable {S : Type} {md : Md (SM S)} {gv : Value} {lo : Nat} {A : Nat → Prop} {w₀ : W0 (SM S)} {c : Frame} {cs : List Frame} {κ : Ans → Fu (SM S)} {o : OpD} {y : md.β} {own1 : Nat → Owner} {w1 : World} {m : SM S} {N : Nat} {x : Nat → Value} {R : List Item}
structure In21 (md : Md (SM S)) (gv : Value) (lo : Nat) (A : Nat → Prop) (w₀ : W0 (SM S)) (c : Frame) (cs : List Frame) (κ : Ans → Fu (SM S)) (o : OpD) (y : md.β) (own1 : Nat → Owner) (w1 : World) (m : SM S) (N : Nat) (x : Nat → Value) : Prop where
  ho : o.Ok
  hend : md.End A w₀ c cs
  hret : ∀ r v y own w m, md.C y own A w₀ w m → LRow (.th md.i) lo own w v r.l → (∀ g, v.ownBlock = some g → ¬ A g) → md.GO y own w (κ r m) (G (c.finish (ansV r v)) cs) w
  C : md.C y own1 (fun b => own1 b = .th md.i) ⟨w1.heap, m, own1⟩ w1 m
  LL : Less md.i A w₀ (fun b => own1 b = .th md.i) ⟨w1.heap, m, own1⟩
  hA : ∀ b, A b → b < N
  lo : lo ≤ N
  oN : own1 N = .th md.i
  eN : w1.heap[N]? = some (.cells #[.int .i64 o.kind, .int .i64 o.a, .int .i64 o.b, .int .i64 o.c] 45 (0, 0))
  oB : own1 (N + 1) = .th md.i
  eB : w1.heap[N + 1]? = some (.cells #[.bool false, .int .i64 0, .slice none 0 0] 42 (0, 0))
  hN : w1.heap.size = N + 2
  x0 : x 0 = gv
  x1 : x 1 = md.sv
  x5 : x 5 = .pointer (some ⟨N, 0, none⟩)
  x6 : x 6 = .pointer (some ⟨N + 1, 0, none⟩)
set_option maxHeartbeats 2000000 in
theorem call_join (O : md.Ok) (P : Api md gv) (I : In21 md gv lo A w₀ c cs κ o y own1 w1 m N x) :
    md.GO y own1 w1 (P.J o.a o.b (fun e => κ (toldC 0 e)) m) (G ((base 21).at (A21 x) (.code (cA (cB (ch21 0))) :: R)) (c :: cs)) w1 := by
  obtain ⟨ho, hend, hret, C1, LL, hA, hlo, oN, eN, oB, eB, hN, x0, x1, x5, x6⟩ := I
  generalize hmc : P.J o.a o.b (fun e => κ (toldC 0 e)) m = mc
  replace hmc := Lib.hid hmc
  replace hret := Lib.hid hret
  replace eB := Lib.hid eB
  replace hN := Lib.hid hN
  replace hA := Lib.hid hA
  replace hlo := Lib.hid hlo
  rw [show cA (cB (ch21 0)) = Code.seq (Code.region _ _ _) _ from rfl]
  unfold A21
  simp only [x0, x1, x5, x6]
  refine x_seqR (O.xc ..) fun R0 hR0 => ?_
  refine x_reg (O.xc ..) 6 (by decide) (by decide) (calm0 (by kernel_rfl)) (C1.st O) fun wp hp => ?_
  simp only [List.take_succ_cons, List.take_zero]
  have f1 := (simCellT hp ⟨N, 1, none⟩).trans (cellAt eN 1)
  have f2 := (simCellT hp ⟨N, 2, none⟩).trans (cellAt eN 2)
  simp only [List.getElem?_toArray, List.getElem?_cons_zero, List.getElem?_cons_succ] at f1 f2
  replace hp := Lib.hid hp
  go_wp2_with fail
  refine after_same hp.out (C1.st O).okd ?_
  clear hp f1 f2 wp
  refine x_callF (O.xc ..) rfl rfl (by decide) rfl Try.func73 (by kernel_rfl) (by kernel_rfl) ?_
  walk_nrm
  obtain rfl := hmc.out
  clear hmc
  refine P.join (p := o.a) (a := o.b) ho.b (O.endUp (calmRes_of Try.func21) rfl rfl (O.endMore hend LL)) (fun e => ?_) _ _ _ _ C1
  intro y2 own2 w2 m2 C2
  rw [Frame.finish_at]
  walk_nrm
  obtain ⟨oB1, q2⟩ := C2.mine (N + 1) oB
  have eB1 := q2.trans eB.out
  clear q2
  generalize hmc : κ (toldC 0 e) m2 = mc
  replace hmc := Lib.hid hmc
  have hlt : N + 1 < w2.heap.size := C2.lt (by rw [oB1]; simp)
  have hnl : (toldC 0 e).l = [] := by unfold toldC; split <;> rfl
  refine O.callA C2 prgC (f := 84) (by simp) rfl rfl (by decide) rfl Try.func84 (by kernel_rfl) (by kernel_rfl) fun wp hp => ?_
  walk_nrm
  refine (told2_walk 0 e wp).mono ?_
  rintro e' w' ⟨rfl, rfl⟩
  refine ⟨_, rfl, fun w4 q1 q2 q3 => O.one C2 hp rfl rfl q1 q2 (q3.trans (by simp; rw [hp.heap, poi_size])) fun own4 C4 e4 s4 o4 L4 low4 => ?_⟩
  have oB2 := (low4 (N + 1) hlt).2.trans oB1
  have eB2 := (low4 (N + 1) hlt).1.trans eB1
  clear q1 q2 q3 low4 e4 s4 o4 hp wp hlt oB1 eB1
  have hrow : LRow (.th md.i) lo own4 w4 (.slice none 0 0) (toldC 0 e).l := by rw [hnl]; exact .nil
  clear hnl
  generalize toldC 0 e = rr at *
  refine x_more (O.xc ..) 8 1 (by decide) (by decide) (calm0 (by kernel_rfl)) (C4.st O) fun wp hp => ?_
  simp only [List.drop_succ_cons, List.drop_zero, List.take_succ_cons, List.take_zero]
  have hg := (poi_at hp (C4.dm O (by rw [oB2]; simp))).trans eB2
  have c0 := cellAt hg 0
  have c1 := cellAt hg 1
  have c2 := cellAt hg 2
  have z0 := freeAt hg 0
  have z1 := freeAt hg 1
  have z2 := freeAt hg 2
  simp only [List.getElem?_toArray, List.getElem?_cons_zero, List.getElem?_cons_succ] at c0 c1 c2
  replace hg := Lib.hid hg
  replace hp := Lib.hid hp
  try unfold ansV at *
  go_wp2_with fail
  refine ⟨⟨rfl, rfl⟩, put3 _ (N + 1) rr (.slice none 0 0), rfl, put3_okd (C4.st O).okd _ _ _, put3_sim hp.out _ rr (.slice none 0 0), ?_⟩
  clear hg hp c0 c1 c2 z0 z1 z2 wp
  refine x_regionEnd (O.xc ..) ?_
  obtain rfl := hR0.out
  clear hR0
  obtain rfl := hmc.out
  exact ans_out O C4 (LL.trans L4) (fun h => by have := hA.out _ h; omega) oB2 eB2 rfl rr hrow (fun g hg => by cases hg) (hret.out rr _) Try.func21 (calmRes_of Try.func21) rfl rfl
set_option maxHeartbeats 2000000 in
theorem call_leave (O : md.Ok) (P : Api md gv) (I : In21 md gv lo A w₀ c cs κ o y own1 w1 m N x) :
    md.GO y own1 w1 (P.V o.a (fun e => κ (toldC 0 e)) m) (G ((base 21).at (A21 x) (.code (cA (cB (ch21 1))) :: R)) (c :: cs)) w1 := by
  obtain ⟨ho, hend, hret, C1, LL, hA, hlo, oN, eN, oB, eB, hN, x0, x1, x5, x6⟩ := I
  generalize hmc : P.V o.a (fun e => κ (toldC 0 e)) m = mc
  replace hmc := Lib.hid hmc
  replace hret := Lib.hid hret
  replace eB := Lib.hid eB
  replace hN := Lib.hid hN
  replace hA := Lib.hid hA
  replace hlo := Lib.hid hlo
  rw [show cA (cB (ch21 1)) = Code.seq (Code.region _ _ _) _ from rfl]
  unfold A21
  simp only [x0, x1, x5, x6]
  refine x_seqR (O.xc ..) fun R0 hR0 => ?_
  refine x_reg (O.xc ..) 4 (by decide) (by decide) (calm0 (by kernel_rfl)) (C1.st O) fun wp hp => ?_
  simp only [List.take_succ_cons, List.take_zero]
  have f1 := (simCellT hp ⟨N, 1, none⟩).trans (cellAt eN 1)
  have f2 := (simCellT hp ⟨N, 2, none⟩).trans (cellAt eN 2)
  simp only [List.getElem?_toArray, List.getElem?_cons_zero, List.getElem?_cons_succ] at f1 f2
  replace hp := Lib.hid hp
  go_wp2_with fail
  refine after_same hp.out (C1.st O).okd ?_
  clear hp f1 f2 wp
  refine x_callF (O.xc ..) rfl rfl (by decide) rfl Try.func76 (by kernel_rfl) (by kernel_rfl) ?_
  walk_nrm
  obtain rfl := hmc.out
  clear hmc
  refine P.leave (p := o.a) (O.endUp (calmRes_of Try.func21) rfl rfl (O.endMore hend LL)) (fun e => ?_) _ _ _ _ C1
  intro y2 own2 w2 m2 C2
  rw [Frame.finish_at]
  walk_nrm
  obtain ⟨oB1, q2⟩ := C2.mine (N + 1) oB
  have eB1 := q2.trans eB.out
  clear q2
  generalize hmc : κ (toldC 0 e) m2 = mc
  replace hmc := Lib.hid hmc
  have hlt : N + 1 < w2.heap.size := C2.lt (by rw [oB1]; simp)
  have hnl : (toldC 0 e).l = [] := by unfold toldC; split <;> rfl
  refine O.callA C2 prgC (f := 84) (by simp) rfl rfl (by decide) rfl Try.func84 (by kernel_rfl) (by kernel_rfl) fun wp hp => ?_
  walk_nrm
  refine (told2_walk 0 e wp).mono ?_
  rintro e' w' ⟨rfl, rfl⟩
  refine ⟨_, rfl, fun w4 q1 q2 q3 => O.one C2 hp rfl rfl q1 q2 (q3.trans (by simp; rw [hp.heap, poi_size])) fun own4 C4 e4 s4 o4 L4 low4 => ?_⟩
  have oB2 := (low4 (N + 1) hlt).2.trans oB1
  have eB2 := (low4 (N + 1) hlt).1.trans eB1
  clear q1 q2 q3 low4 e4 s4 o4 hp wp hlt oB1 eB1
  have hrow : LRow (.th md.i) lo own4 w4 (.slice none 0 0) (toldC 0 e).l := by rw [hnl]; exact .nil
  clear hnl
  generalize toldC 0 e = rr at *
  refine x_more (O.xc ..) 6 1 (by decide) (by decide) (calm0 (by kernel_rfl)) (C4.st O) fun wp hp => ?_
  simp only [List.drop_succ_cons, List.drop_zero, List.take_succ_cons, List.take_zero]
  have hg := (poi_at hp (C4.dm O (by rw [oB2]; simp))).trans eB2
  have c0 := cellAt hg 0
  have c1 := cellAt hg 1
  have c2 := cellAt hg 2
  have z0 := freeAt hg 0
  have z1 := freeAt hg 1
  have z2 := freeAt hg 2
  simp only [List.getElem?_toArray, List.getElem?_cons_zero, List.getElem?_cons_succ] at c0 c1 c2
  replace hg := Lib.hid hg
  replace hp := Lib.hid hp
  try unfold ansV at *
  go_wp2_with fail
  refine ⟨⟨rfl, rfl⟩, put3 _ (N + 1) rr (.slice none 0 0), rfl, put3_okd (C4.st O).okd _ _ _, put3_sim hp.out _ rr (.slice none 0 0), ?_⟩
  clear hg hp c0 c1 c2 z0 z1 z2 wp
  refine x_regionEnd (O.xc ..) ?_
  obtain rfl := hR0.out
  clear hR0
  obtain rfl := hmc.out
  exact ans_out O C4 (LL.trans L4) (fun h => by have := hA.out _ h; omega) oB2 eB2 rfl rr hrow (fun g hg => by cases hg) (hret.out rr _) Try.func21 (calmRes_of Try.func21) rfl rfl
set_option maxHeartbeats 2000000 in
theorem call_set (O : md.Ok) (P : Api md gv) (I : In21 md gv lo A w₀ c cs κ o y own1 w1 m N x) :
    md.GO y own1 w1 (P.T o.a o.b (fun e => κ (toldC 0 e)) m) (G ((base 21).at (A21 x) (.code (cA (cB (ch21 2))) :: R)) (c :: cs)) w1 := by
  obtain ⟨ho, hend, hret, C1, LL, hA, hlo, oN, eN, oB, eB, hN, x0, x1, x5, x6⟩ := I
  generalize hmc : P.T o.a o.b (fun e => κ (toldC 0 e)) m = mc
  replace hmc := Lib.hid hmc
  replace hret := Lib.hid hret
  replace eB := Lib.hid eB
  replace hN := Lib.hid hN
  replace hA := Lib.hid hA
  replace hlo := Lib.hid hlo
  rw [show cA (cB (ch21 2)) = Code.seq (Code.region _ _ _) _ from rfl]
  unfold A21
  simp only [x0, x1, x5, x6]
  refine x_seqR (O.xc ..) fun R0 hR0 => ?_
  refine x_reg (O.xc ..) 6 (by decide) (by decide) (calm0 (by kernel_rfl)) (C1.st O) fun wp hp => ?_
  simp only [List.take_succ_cons, List.take_zero]
  have f1 := (simCellT hp ⟨N, 1, none⟩).trans (cellAt eN 1)
  have f2 := (simCellT hp ⟨N, 2, none⟩).trans (cellAt eN 2)
  simp only [List.getElem?_toArray, List.getElem?_cons_zero, List.getElem?_cons_succ] at f1 f2
  replace hp := Lib.hid hp
  go_wp2_with fail
  refine after_same hp.out (C1.st O).okd ?_
  clear hp f1 f2 wp
  refine x_callF (O.xc ..) rfl rfl (by decide) rfl Try.func27 (by kernel_rfl) (by kernel_rfl) ?_
  walk_nrm
  obtain rfl := hmc.out
  clear hmc
  refine P.set (p := o.a) (a := o.b) ho.b (O.endUp (calmRes_of Try.func21) rfl rfl (O.endMore hend LL)) (fun e => ?_) _ _ _ _ C1
  intro y2 own2 w2 m2 C2
  rw [Frame.finish_at]
  walk_nrm
  obtain ⟨oB1, q2⟩ := C2.mine (N + 1) oB
  have eB1 := q2.trans eB.out
  clear q2
  generalize hmc : κ (toldC 0 e) m2 = mc
  replace hmc := Lib.hid hmc
  have hlt : N + 1 < w2.heap.size := C2.lt (by rw [oB1]; simp)
  have hnl : (toldC 0 e).l = [] := by unfold toldC; split <;> rfl
  refine O.callA C2 prgC (f := 84) (by simp) rfl rfl (by decide) rfl Try.func84 (by kernel_rfl) (by kernel_rfl) fun wp hp => ?_
  walk_nrm
  refine (told2_walk 0 e wp).mono ?_
  rintro e' w' ⟨rfl, rfl⟩
  refine ⟨_, rfl, fun w4 q1 q2 q3 => O.one C2 hp rfl rfl q1 q2 (q3.trans (by simp; rw [hp.heap, poi_size])) fun own4 C4 e4 s4 o4 L4 low4 => ?_⟩
  have oB2 := (low4 (N + 1) hlt).2.trans oB1
  have eB2 := (low4 (N + 1) hlt).1.trans eB1
  clear q1 q2 q3 low4 e4 s4 o4 hp wp hlt oB1 eB1
  have hrow : LRow (.th md.i) lo own4 w4 (.slice none 0 0) (toldC 0 e).l := by rw [hnl]; exact .nil
  clear hnl
  generalize toldC 0 e = rr at *
  refine x_more (O.xc ..) 8 1 (by decide) (by decide) (calm0 (by kernel_rfl)) (C4.st O) fun wp hp => ?_
  simp only [List.drop_succ_cons, List.drop_zero, List.take_succ_cons, List.take_zero]
  have hg := (poi_at hp (C4.dm O (by rw [oB2]; simp))).trans eB2
  have c0 := cellAt hg 0
  have c1 := cellAt hg 1
  have c2 := cellAt hg 2
  have z0 := freeAt hg 0
  have z1 := freeAt hg 1
  have z2 := freeAt hg 2
  simp only [List.getElem?_toArray, List.getElem?_cons_zero, List.getElem?_cons_succ] at c0 c1 c2
  replace hg := Lib.hid hg
  replace hp := Lib.hid hp
  try unfold ansV at *
  go_wp2_with fail
  refine ⟨⟨rfl, rfl⟩, put3 _ (N + 1) rr (.slice none 0 0), rfl, put3_okd (C4.st O).okd _ _ _, put3_sim hp.out _ rr (.slice none 0 0), ?_⟩
  clear hg hp c0 c1 c2 z0 z1 z2 wp
  refine x_regionEnd (O.xc ..) ?_
  obtain rfl := hR0.out
  clear hR0
  obtain rfl := hmc.out
  exact ans_out O C4 (LL.trans L4) (fun h => by have := hA.out _ h; omega) oB2 eB2 rfl rr hrow (fun g hg => by cases hg) (hret.out rr _) Try.func21 (calmRes_of Try.func21) rfl rfl
set_option maxHeartbeats 2000000 in
theorem call_may (O : md.Ok) (P : Api md gv) (I : In21 md gv lo A w₀ c cs κ o y own1 w1 m N x) :
    md.GO y own1 w1 (P.Y o.a o.b (fun t p => κ ⟨t, p, []⟩) m) (G ((base 21).at (A21 x) (.code (cA (cB (ch21 6))) :: R)) (c :: cs)) w1 := by
  obtain ⟨ho, hend, hret, C1, LL, hA, hlo, oN, eN, oB, eB, hN, x0, x1, x5, x6⟩ := I
  generalize hmc : P.Y o.a o.b (fun t p => κ ⟨t, p, []⟩) m = mc
  replace hmc := Lib.hid hmc
  replace hret := Lib.hid hret
  replace eB := Lib.hid eB
  replace hN := Lib.hid hN
  replace hA := Lib.hid hA
  replace hlo := Lib.hid hlo
  rw [show cA (cB (ch21 6)) = Code.seq (Code.region _ _ _) _ from rfl]
  unfold A21
  simp only [x0, x1, x5, x6]
  refine x_seqR (O.xc ..) fun R0 hR0 => ?_
  refine x_reg (O.xc ..) 6 (by decide) (by decide) (calm0 (by kernel_rfl)) (C1.st O) fun wp hp => ?_
  simp only [List.take_succ_cons, List.take_zero]
  have f1 := (simCellT hp ⟨N, 1, none⟩).trans (cellAt eN 1)
  have f2 := (simCellT hp ⟨N, 2, none⟩).trans (cellAt eN 2)
  simp only [List.getElem?_toArray, List.getElem?_cons_zero, List.getElem?_cons_succ] at f1 f2
  replace hp := Lib.hid hp
  go_wp2_with fail
  refine after_same hp.out (C1.st O).okd ?_
  clear hp f1 f2 wp
  refine x_callF (O.xc ..) rfl rfl (by decide) rfl Try.func75 (by kernel_rfl) (by kernel_rfl) ?_
  walk_nrm
  obtain rfl := hmc.out
  clear hmc
  refine P.may (q := o.a) (z := o.b) ho.a ho.b (O.endUp (calmRes_of Try.func21) rfl rfl (O.endMore hend LL)) (fun t p => ?_) _ _ _ _ C1
  intro y2 own2 w2 m2 C2
  rw [Frame.finish_at]
  walk_nrm
  obtain ⟨oB2, q2⟩ := C2.mine (N + 1) oB
  have eB2 := q2.trans eB.out
  clear q2
  generalize hmc : κ ⟨t, p, []⟩ m2 = mc
  replace hmc := Lib.hid hmc
  refine x_more (O.xc ..) 7 5 (by decide) (by decide) (calm0 (by kernel_rfl)) (C2.st O) fun wp hp => ?_
  simp only [List.drop_succ_cons, List.drop_zero, List.take_succ_cons, List.take_zero]
  replace hp := Lib.hid hp
  go_wp2_with fail
  refine after_same hp.out (C2.st O).okd ?_
  clear hp  wp
  refine x_regionEnd (O.xc ..) ?_
  obtain rfl := hR0.out
  clear hR0
  refine x_seqR (O.xc ..) fun R0 hR0 => ?_
  refine x_reg (O.xc ..) 4 (by decide) (by decide) (calm0 (by kernel_rfl)) (C2.st O) fun wp hp => ?_
  simp only [List.take_succ_cons, List.take_zero]
  have hg := (poi_at hp (C2.dm O (by rw [oB2]; simp))).trans eB2
  have c0 := cellAt hg 0
  have c1 := cellAt hg 1
  have c2 := cellAt hg 2
  have z0 := freeAt hg 0
  have z1 := freeAt hg 1
  have z2 := freeAt hg 2
  simp only [List.getElem?_toArray, List.getElem?_cons_zero, List.getElem?_cons_succ] at c0 c1 c2
  replace hg := Lib.hid hg
  replace hp := Lib.hid hp
  try unfold ansV at *
  go_wp2_with fail
  refine ⟨⟨rfl, rfl⟩, put3 _ (N + 1) ⟨t, p, []⟩ (.slice none 0 0), rfl, put3_okd (C2.st O).okd _ _ _, put3_sim hp.out _ ⟨t, p, []⟩ (.slice none 0 0), ?_⟩
  clear hg hp c0 c1 c2 z0 z1 z2 wp
  refine x_regionEnd (O.xc ..) ?_
  obtain rfl := hR0.out
  clear hR0
  obtain rfl := hmc.out
  exact ans_out O C2 LL (fun h => by have := hA.out _ h; omega) oB2 eB2 rfl ⟨t, p, []⟩ LRow.nil (fun g hg => by cases hg) (hret.out ⟨t, p, []⟩ _) Try.func21 (calmRes_of Try.func21) rfl rfl
set_option maxHeartbeats 2000000 in
theorem call_least (O : md.Ok) (P : Api md gv) (I : In21 md gv lo A w₀ c cs κ o y own1 w1 m N x) :
    md.GO y own1 w1 (P.M o.a (fun n p => κ ⟨true, n, [p]⟩) m) (G ((base 21).at (A21 x) (.code (cA (cB (ch21 5))) :: R)) (c :: cs)) w1 := by
  obtain ⟨ho, hend, hret, C1, LL, hA, hlo, oN, eN, oB, eB, hN, x0, x1, x5, x6⟩ := I
  generalize hmc : P.M o.a (fun n p => κ ⟨true, n, [p]⟩) m = mc
  replace hmc := Lib.hid hmc
  replace hret := Lib.hid hret
  replace eB := Lib.hid eB
  replace hN := Lib.hid hN
  replace hA := Lib.hid hA
  replace hlo := Lib.hid hlo
  rw [show cA (cB (ch21 5)) = Code.seq (Code.region _ _ _) _ from rfl]
  unfold A21
  simp only [x0, x1, x5, x6]
  refine x_seqR (O.xc ..) fun R0 hR0 => ?_
  refine x_reg (O.xc ..) 4 (by decide) (by decide) (calm0 (by kernel_rfl)) (C1.st O) fun wp hp => ?_
  simp only [List.take_succ_cons, List.take_zero]
  have f1 := (simCellT hp ⟨N, 1, none⟩).trans (cellAt eN 1)
  have f2 := (simCellT hp ⟨N, 2, none⟩).trans (cellAt eN 2)
  simp only [List.getElem?_toArray, List.getElem?_cons_zero, List.getElem?_cons_succ] at f1 f2
  replace hp := Lib.hid hp
  go_wp2_with fail
  refine after_same hp.out (C1.st O).okd ?_
  clear hp f1 f2 wp
  refine x_callF (O.xc ..) rfl rfl (by decide) rfl Try.func74 (by kernel_rfl) (by kernel_rfl) ?_
  walk_nrm
  obtain rfl := hmc.out
  clear hmc
  refine P.least (n := o.a) ho.a (O.endUp (calmRes_of Try.func21) rfl rfl (O.endMore hend LL)) (fun n p => ?_) _ _ _ _ C1
  intro y2 own2 w2 m2 C2
  rw [Frame.finish_at]
  walk_nrm
  obtain ⟨oB2, q2⟩ := C2.mine (N + 1) oB
  have eB2 := q2.trans eB.out
  clear q2
  generalize hmc : κ ⟨true, n, [p]⟩ m2 = mc
  replace hmc := Lib.hid hmc
  refine x_more (O.xc ..) 5 5 (by decide) (by decide) (calm0 (by kernel_rfl)) (C2.st O) fun wp hp => ?_
  simp only [List.drop_succ_cons, List.drop_zero, List.take_succ_cons, List.take_zero]
  replace hp := Lib.hid hp
  go_wp2_with fail
  refine after_same hp.out (C2.st O).okd ?_
  clear hp  wp
  refine x_regionEnd (O.xc ..) ?_
  obtain rfl := hR0.out
  clear hR0
  refine x_seqR (O.xc ..) fun R0 hR0 => ?_
  refine x_reg (O.xc ..) 2 (by decide) (by decide) (calm0 (by kernel_rfl)) (C2.st O) fun wp hp => ?_
  simp only [List.take_succ_cons, List.take_zero]
  replace hp := Lib.hid hp
  go_wp2_with fail
  refine after_same hp.out (C2.st O).okd ?_
  clear hp  wp
  have hlt : N + 1 < w2.heap.size := C2.lt (by rw [oB2]; simp)
  obtain ⟨K, hK⟩ : ∃ K, w2.heap.size = K := ⟨_, rfl⟩
  refine O.opD C2 rfl rfl (by decide) (calm0 (l := [_]) (by kernel_rfl) _ (List.mem_singleton.2 rfl)) fun wp hp => ⟨.slice (some ⟨wp.heap.size, 0, none⟩) 1 1, wp.alloc (.cells #[.int .i64 p] 2), ?_, fun w4 q1 q2 q3 => ?_⟩
  · first | (go_simp; done) | (go_simp; with_reducible rfl) | (go_simp; rfl)
  have hsz : wp.heap.size = K := by rw [hp.heap, poi_size]; exact hK
  rw [hsz]
  refine O.one C2 hp rfl hK q1 q2 (q3.trans (by simp; exact hsz)) fun own4 C4 e4 s4 o4 L4 low4 => ?_
  have oB3 := (low4 (N + 1) (by omega)).2.trans oB2
  have eB3 := (low4 (N + 1) (by omega)).1.trans eB2
  clear oB2 eB2
  have oB2 := oB3
  have eB2 := eB3
  clear oB3 eB3 q1 q2 q3 low4 hp hsz wp
  walk_nrm
  refine x_more (O.xc ..) 3 2 (by decide) (by decide) (calm0 (by kernel_rfl)) (C4.st O) fun wp hp => ?_
  simp only [List.drop_succ_cons, List.drop_zero, List.take_succ_cons, List.take_zero]
  have hg := (poi_at hp (C4.dm O (by rw [oB2]; simp))).trans eB2
  have c0 := cellAt hg 0
  have c1 := cellAt hg 1
  have c2 := cellAt hg 2
  have z0 := freeAt hg 0
  have z1 := freeAt hg 1
  have z2 := freeAt hg 2
  simp only [List.getElem?_toArray, List.getElem?_cons_zero, List.getElem?_cons_succ] at c0 c1 c2
  replace hg := Lib.hid hg
  replace hp := Lib.hid hp
  try unfold ansV at *
  go_wp2_with fail
  refine ⟨⟨rfl, rfl⟩, put3 _ (N + 1) ⟨true, n, [p]⟩ (.slice (some ⟨K, 0, none⟩) 1 1), rfl, put3_okd (C4.st O).okd _ _ _, put3_sim hp.out _ ⟨true, n, [p]⟩ (.slice (some ⟨K, 0, none⟩) 1 1), ?_⟩
  clear hg hp c0 c1 c2 z0 z1 z2 wp
  refine x_regionEnd (O.xc ..) ?_
  obtain rfl := hR0.out
  clear hR0
  have hKN : N + 1 < K := by omega
  have hrow : LRow (.th md.i) lo own4 w4 (.slice (some ⟨K, 0, none⟩) 1 1) [p] := ⟨⟨rfl, .inr ⟨K, 1, #[.int .i64 p], rfl, by have := hlo.out; omega, e4, by simp, by decide, rfl, rfl⟩⟩, fun g hg => by cases hg; exact o4⟩
  obtain rfl := hmc.out
  exact ans_out O C4 (LL.trans L4) (fun h => by have := hA.out _ h; omega) oB2 eB2 rfl ⟨true, n, [p]⟩ hrow (fun g hg => by cases hg; exact ⟨fun h => by have : K < N := hA.out _ h; omega, by show K ≠ N + 1; omega⟩) (hret.out ⟨true, n, [p]⟩ _) Try.func21 (calmRes_of Try.func21) rfl rfl
set_option maxHeartbeats 2000000 in
theorem call_get (O : md.Ok) (P : Api md gv) (I : In21 md gv lo A w₀ c cs κ o y own1 w1 m N x) :
    md.GO y own1 w1 (P.E o.a (fun n e => κ (toldC n e)) m) (G ((base 21).at (A21 x) (.code (cA (cB (ch21 3))) :: R)) (c :: cs)) w1 := by
  obtain ⟨ho, hend, hret, C1, LL, hA, hlo, oN, eN, oB, eB, hN, x0, x1, x5, x6⟩ := I
  generalize hmc : P.E o.a (fun n e => κ (toldC n e)) m = mc
  replace hmc := Lib.hid hmc
  replace hret := Lib.hid hret
  replace eB := Lib.hid eB
  replace hN := Lib.hid hN
  replace hA := Lib.hid hA
  replace hlo := Lib.hid hlo
  rw [show cA (cB (ch21 3)) = Code.seq (Code.region _ _ _) _ from rfl]
  unfold A21
  simp only [x0, x1, x5, x6]
  refine x_seqR (O.xc ..) fun R0 hR0 => ?_
  refine x_reg (O.xc ..) 4 (by decide) (by decide) (calm0 (by kernel_rfl)) (C1.st O) fun wp hp => ?_
  simp only [List.take_succ_cons, List.take_zero]
  have f1 := (simCellT hp ⟨N, 1, none⟩).trans (cellAt eN 1)
  have f2 := (simCellT hp ⟨N, 2, none⟩).trans (cellAt eN 2)
  simp only [List.getElem?_toArray, List.getElem?_cons_zero, List.getElem?_cons_succ] at f1 f2
  replace hp := Lib.hid hp
  go_wp2_with fail
  refine after_same hp.out (C1.st O).okd ?_
  clear hp f1 f2 wp
  refine x_callF (O.xc ..) rfl rfl (by decide) rfl Try.func85 (by kernel_rfl) (by kernel_rfl) ?_
  walk_nrm
  obtain rfl := hmc.out
  clear hmc
  refine P.get (p := o.a) (O.endUp (calmRes_of Try.func21) rfl rfl (O.endMore hend LL)) (fun n e => ?_) _ _ _ _ C1
  intro y2 own2 w2 m2 C2
  rw [Frame.finish_at]
  walk_nrm
  obtain ⟨oB1, q2⟩ := C2.mine (N + 1) oB
  have eB1 := q2.trans eB.out
  clear q2
  generalize hmc : κ (toldC n e) m2 = mc
  replace hmc := Lib.hid hmc
  refine x_more (O.xc ..) 5 2 (by decide) (by decide) (calm0 (by kernel_rfl)) (C2.st O) fun wp hp => ?_
  simp only [List.drop_succ_cons, List.drop_zero, List.take_succ_cons, List.take_zero]
  replace hp := Lib.hid hp
  go_wp2_with fail
  refine after_same hp.out (C2.st O).okd ?_
  clear hp  wp
  have hlt : N + 1 < w2.heap.size := C2.lt (by rw [oB1]; simp)
  have hnl : (toldC n e).l = [] := by unfold toldC; split <;> rfl
  refine O.callA C2 prgC (f := 84) (by simp) rfl rfl (by decide) rfl Try.func84 (by kernel_rfl) (by kernel_rfl) fun wp hp => ?_
  walk_nrm
  refine (told2_walk n e wp).mono ?_
  rintro e' w' ⟨rfl, rfl⟩
  refine ⟨_, rfl, fun w4 q1 q2 q3 => O.one C2 hp rfl rfl q1 q2 (q3.trans (by simp; rw [hp.heap, poi_size])) fun own4 C4 e4 s4 o4 L4 low4 => ?_⟩
  have oB2 := (low4 (N + 1) hlt).2.trans oB1
  have eB2 := (low4 (N + 1) hlt).1.trans eB1
  clear q1 q2 q3 low4 e4 s4 o4 hp wp hlt oB1 eB1
  have hrow : LRow (.th md.i) lo own4 w4 (.slice none 0 0) (toldC n e).l := by rw [hnl]; exact .nil
  clear hnl
  generalize toldC n e = rr at *
  refine x_more (O.xc ..) 8 1 (by decide) (by decide) (calm0 (by kernel_rfl)) (C4.st O) fun wp hp => ?_
  simp only [List.drop_succ_cons, List.drop_zero, List.take_succ_cons, List.take_zero]
  have hg := (poi_at hp (C4.dm O (by rw [oB2]; simp))).trans eB2
  have c0 := cellAt hg 0
  have c1 := cellAt hg 1
  have c2 := cellAt hg 2
  have z0 := freeAt hg 0
  have z1 := freeAt hg 1
  have z2 := freeAt hg 2
  simp only [List.getElem?_toArray, List.getElem?_cons_zero, List.getElem?_cons_succ] at c0 c1 c2
  replace hg := Lib.hid hg
  replace hp := Lib.hid hp
  try unfold ansV at *
  go_wp2_with fail
  refine ⟨⟨rfl, rfl⟩, put3 _ (N + 1) rr (.slice none 0 0), rfl, put3_okd (C4.st O).okd _ _ _, put3_sim hp.out _ rr (.slice none 0 0), ?_⟩
  clear hg hp c0 c1 c2 z0 z1 z2 wp
  refine x_regionEnd (O.xc ..) ?_
  obtain rfl := hR0.out
  clear hR0
  obtain rfl := hmc.out
  exact ans_out O C4 (LL.trans L4) (fun h => by have := hA.out _ h; omega) oB2 eB2 rfl rr hrow (fun g hg => by cases hg) (hret.out rr _) Try.func21 (calmRes_of Try.func21) rfl rfl
set_option maxHeartbeats 2000000 in
theorem call_list (O : md.Ok) (P : Api md gv) (I : In21 md gv lo A w₀ c cs κ o y own1 w1 m N x) :
    md.GO y own1 w1 (P.I (fun l => κ ⟨true, 0, l⟩) m) (G ((base 21).at (A21 x) (.code (cA (cB (ch21 4))) :: R)) (c :: cs)) w1 := by
  obtain ⟨ho, hend, hret, C1, LL, hA, hlo, oN, eN, oB, eB, hN, x0, x1, x5, x6⟩ := I
  generalize hmc : P.I (fun l => κ ⟨true, 0, l⟩) m = mc
  replace hmc := Lib.hid hmc
  replace hret := Lib.hid hret
  replace eB := Lib.hid eB
  replace hN := Lib.hid hN
  replace hA := Lib.hid hA
  replace hlo := Lib.hid hlo
  rw [show cA (cB (ch21 4)) = Code.seq (Code.region _ _ _) _ from rfl]
  unfold A21
  simp only [x0, x1, x5, x6]
  refine x_seqR (O.xc ..) fun R0 hR0 => ?_
  refine x_reg (O.xc ..) 2 (by decide) (by decide) (calm0 (by kernel_rfl)) (C1.st O) fun wp hp => ?_
  simp only [List.take_succ_cons, List.take_zero]
  replace hp := Lib.hid hp
  go_wp2_with fail
  refine after_same hp.out (C1.st O).okd ?_
  clear hp  wp
  refine x_callF (O.xc ..) rfl rfl (by decide) rfl Try.func86 (by kernel_rfl) (by kernel_rfl) ?_
  walk_nrm
  obtain rfl := hmc.out
  clear hmc
  refine P.list (κ := fun l => κ ⟨true, 0, l⟩) (O.endUp (calmRes_of Try.func21) rfl rfl (O.endMore hend LL)) (fun l v A₁ w₁ L1 hrow hrb hlen => ?_) y own1 w1 m C1
  intro y5 own5 w5 m5 C5
  rw [Frame.finish_at]
  obtain ⟨oB5, q5⟩ := C5.mine (N + 1) (L1.own _ oB).1
  have eB5 := q5.trans ((L1.own _ oB).2.trans eB.out)
  clear q5
  generalize hmc : κ ⟨true, 0, l⟩ m5 = mc
  replace hmc := Lib.hid hmc
  have hlt : N + 1 < w5.heap.size := C5.lt (by rw [oB5]; simp)
  obtain ⟨va, vc, rfl, hcell⟩ : ∃ va vc, v = .slice va l.length vc ∧ (l ≠ [] → ∃ b off, va = some ⟨b, off, none⟩ ∧ md.D b = none ∧ ∀ j x, l[j]? = some x → w5.cell? ⟨b, off + j, none⟩ = some (.int .i64 x)) := by
    obtain ⟨_, va, vc, rfl, _, q⟩ := hrow
    refine ⟨va, vc, rfl, fun hne => ?_⟩
    obtain ⟨b, off, cc, rfl, q1, q2, q3⟩ := q hne
    have hb := C5.mine b (hrb b ⟨hne, off, _, vc, rfl⟩).1
    exact ⟨b, off, rfl, C5.dm O (by rw [hb.1]; simp), fun j x hj => (cellAt (hb.2.trans q2) _).trans (q3 j x hj)⟩
  walk_nrm
  refine O.callA C5 prgC (f := 24) (by simp) rfl rfl (by decide) rfl Try.func24 (by kernel_rfl) (by kernel_rfl) fun wp hp => ?_
  walk_nrm
  have hiv : IntsAt wp (.slice va l.length vc) l := ⟨va, vc, rfl, fun hne => by
    obtain ⟨b, off, e, hD, q⟩ := hcell hne
    exact ⟨b, off, e, fun j x hj => (simCellT hp _).trans (q j x hj)⟩⟩
  refine (wide_walk wp hiv (by omega)).mono ?_
  rintro e' w' ⟨v', rfl, hr, hB⟩
  refine ⟨v', rfl, fun w6 q1 q2 q3 => ?_⟩
  have hsz : wp.heap.size = w5.heap.size := by rw [hp.heap, poi_size]
  obtain ⟨own6, C6, hO6, hF6, hn6, ho6⟩ := C5.growW (own0 := own5) (w0 := w5) (w1 := w6) O .refl .refl none (fun b z => by cases z) (by rw [q3, ← hsz]; exact hB.size) fun b hb _ => q2 b (hB.block b (by omega))
  have low6 : ∀ b, b < w5.heap.size → w6.heap[b]? = w5.heap[b]? := fun b hb => q2 b (hB.block b (by omega))
  have oB2 := (ho6 (N + 1) hlt).trans oB5
  have eB2 := (low6 (N + 1) hlt).trans eB5
  have hrow6 : LRow (.th md.i) lo own6 w6 v' l := by
    rw [hsz] at hr
    obtain ⟨h1, h2⟩ := hr
    rcases h2 with ⟨rfl, h2⟩ | ⟨g, cap, cur, rfl, g1, g2, g3⟩
    · exact ⟨⟨h1, .inl ⟨rfl, h2⟩⟩, fun g hg => by cases hg⟩
    · have e4 := (q1 g (C5.dn O g1)).trans g2
      exact ⟨⟨h1, .inr ⟨g, cap, cur, rfl, by have := hlo.out; have := hN.out; omega, e4, g3⟩⟩, fun b hb => by cases hb; exact hn6 g g1 (Array.getElem?_eq_some_iff.1 e4).1⟩
  have hvA : ∀ g, v'.ownBlock = some g → w5.heap.size ≤ g := fun g hg => by
    have := (ownsRow_lt hr hg).1
    omega
  refine O.rebase hO6 hF6 ?_
  obtain ⟨ua, un, uc, rfl⟩ : ∃ ua un uc, v' = .slice ua un uc := by
    rcases hrow6.row.2 with ⟨e, _⟩ | ⟨g', cap, cur, e, _⟩ <;> exact ⟨_, _, _, e⟩
  replace hrow6 := Lib.hid hrow6
  replace hvA := Lib.hid hvA
  clear hr hB q1 q2 q3 hiv hcell hp wp hrow hrb C5 low6 hn6 ho6 hO6 hF6 hsz oB5 eB5
  try walk_nrm
  refine x_more (O.xc ..) 4 2 (by decide) (by decide) (calm0 (by kernel_rfl)) (C6.st O) fun wp hp => ?_
  simp only [List.drop_succ_cons, List.drop_zero, List.take_succ_cons, List.take_zero]
  have hg := (poi_at hp (C6.dm O (by rw [oB2]; simp))).trans eB2
  have c0 := cellAt hg 0
  have c1 := cellAt hg 1
  have c2 := cellAt hg 2
  have z0 := freeAt hg 0
  have z1 := freeAt hg 1
  have z2 := freeAt hg 2
  simp only [List.getElem?_toArray, List.getElem?_cons_zero, List.getElem?_cons_succ] at c0 c1 c2
  replace hg := Lib.hid hg
  replace hp := Lib.hid hp
  try unfold ansV at *
  go_wp2_with fail
  refine ⟨⟨rfl, rfl⟩, put3 _ (N + 1) ⟨true, 0, l⟩ (.slice ua un uc), rfl, put3_okd (C6.st O).okd _ _ _, put3_sim hp.out _ ⟨true, 0, l⟩ (.slice ua un uc), ?_⟩
  clear hg hp c0 c1 c2 z0 z1 z2 wp
  refine x_regionEnd (O.xc ..) ?_
  obtain rfl := hR0.out
  clear hR0
  obtain rfl := hmc.out
  have hlen5 := hN.out
  exact ans_out O C6 (LL.trans L1) (fun h => by have := hA.out _ h; omega) oB2 eB2 rfl ⟨true, 0, l⟩ hrow6.out (fun g hg => ⟨fun h => by have h1 := hA.out _ h; have h2 := hvA.out g hg; omega, by have h2 := hvA.out g hg; omega⟩) (hret.out ⟨true, 0, l⟩ _) Try.func21 (calmRes_of Try.func21) rfl rfl
end
end Go.Proofs.Ytofacoojpgkbiaa

/-
  call of the gate laws. No condition of its own.
-/
namespace Go.Proofs.Ytofacoojpgkbiaa
open Go.Conc Go.RowKit
open Go.ConcN (upd upd_ne upd_same)
set_option maxRecDepth 100000
def callA {S : Type} {md : Md (SM S)} {gv : Value} (P : Api md gv) (o : OpD) (κ : Ans → Fu (SM S)) : Fu (SM S) :=
  if o.kind = 1 then P.J o.a o.b (fun e => κ (toldC 0 e))
  else if o.kind = 2 then P.V o.a (fun e => κ (toldC 0 e))
  else if o.kind = 3 then P.T o.a o.b (fun e => κ (toldC 0 e))
  else if o.kind = 4 then P.E o.a (fun n e => κ (toldC n e))
  else if o.kind = 5 then P.I (fun l => κ ⟨true, 0, l⟩)
  else if o.kind = 6 then P.M o.a (fun n p => κ ⟨true, n, [p]⟩)
  else if o.kind = 7 then P.Y o.a o.b (fun t p => κ ⟨t, p, []⟩)
  else κ ⟨false, 0, []⟩
section
variable {S : Type} {md : Md (SM S)} {gv : Value} {lo : Nat}
set_option maxHeartbeats 4000000 in
theorem call_cps (O : md.Ok) (P : Api md gv) (hlo : ∀ {m own w}, md.Rep m own w → lo ≤ w.heap.size) {o : OpD} {κ : Ans → Fu (SM S)} {A : Nat → Prop} {w₀ : W0 (SM S)} {c : Frame} {cs : List Frame} (ho : o.Ok) (hend : md.End A w₀ c cs)
    (hret : ∀ r v y own w m, md.C y own A w₀ w m → LRow (.th md.i) lo own w v r.l → (∀ g, v.ownBlock = some g → ¬ A g) → md.GO y own w (κ r m) (G (c.finish (ansV r v)) cs) w) :
    md.F (callA P o κ) A w₀ (G (Frame.enter Try.prog 21 #[gv, md.sv, opV o] .normal) (c :: cs)) := by
  intro y own w m C
  unfold opV
  rw [enter_at _ Try.func21 rfl]
  simp only [Try.ntmps21, List.size_toArray, List.length_cons, List.length_nil, Nat.reduceAdd, Nat.reduceSub, Array.replicate_succ,
     Array.replicate_zero, List.push_toArray, List.append_toArray, List.nil_append, List.cons_append]
  generalize hmc : callA P o κ m = mc
  replace hmc := Lib.hid hmc
  replace hret := Lib.hid hret
  obtain ⟨N, hN⟩ : ∃ N, w.heap.size = N := ⟨_, rfl⟩
  have hloN := hlo C.rep
  refine x_seqR (O.xc ..) fun R0 hR0 => ?_
  refine O.segA C prgC (calmCode_of ext_ok (by kernel_rfl)) rfl (calmRes_of Try.func21) rfl fun wp hp => ?_
  have hsz : wp.heap.size = N := by rw [hp.heap, poi_size]; exact hN
  replace hp := Lib.hid hp
  replace hsz := Lib.hid hsz
  replace hN := Lib.hid hN
  replace hloN := Lib.hid hloN
  go_wp2_with fail
  rw [hsz.out]
  refine fun w1 q1 q2 q3 => O.two C hp.out rfl hN.out q1 q2 q3 fun own1 C1 e1 e2 s1 o1 o2 LL low => ?_
  have hA : ∀ b, A b → b < N := fun b hb => by
    rw [← hN.out]
    exact C.lt (by rw [(C.mine b hb).1]; simp)
  clear q1 q2 q3 hp hsz wp low
  obtain rfl := hR0.out
  clear hR0
  replace C := Lib.hid C
  replace hA := Lib.hid hA
  have mkI : ∀ x : Nat → Value, x 0 = gv → x 1 = md.sv → x 5 = .pointer (some ⟨N, 0, none⟩) → x 6 = .pointer (some ⟨N + 1, 0, none⟩) → In21 md gv lo A w₀ c cs κ o y own1 w1 m N x := fun x z0 z1 z7 z8 => ⟨ho, hend, hret.out, C1, LL, hA.out, by have := hloN.out; have := hN.out; omega, o1, e1, o2, e2, s1, z0, z1, z7, z8⟩
  replace mkI := Lib.hid mkI
  replace hend := Lib.hid hend
  replace ho := Lib.hid ho
  replace LL := Lib.hid LL
  replace s1 := Lib.hid s1
  clear hlo
  refine x_seqR (O.xc ..) fun R0 hR0 => ?_
  refine x_seqR (O.xc ..) fun R1 hR1 => ?_
  refine O.seg0 C1 prgC (calmCode_of ext_ok (by kernel_rfl)) rfl (calmRes_of Try.func21) rfl fun wp hp => ?_
  have k0 := (cellAt ((poi_at hp (C1.dm O (by rw [o1]; simp))).trans e1) 0)
  simp only [List.getElem?_toArray, List.getElem?_cons_zero] at k0
  replace hp := Lib.hid hp
  go_wp2_with fail
  refine ⟨hp.out, ?_⟩
  clear hp k0 wp
  obtain rfl := hR1.out
  clear hR1
  refine x_block (O.xc ..) ?_
  refine x_seqR (O.xc ..) fun R1 hR1 => ?_
  refine O.seg0 C1 prgC (calmCode_of ext_ok (by kernel_rfl)) rfl (calmRes_of Try.func21) rfl fun wp hp => ?_
  replace hp := Lib.hid hp
  go_wp2_with fail
  refine ⟨hp.out, ?_⟩
  clear hp  wp
  obtain rfl := hR1.out
  clear hR1
  by_cases k1 : o.kind = 1
  · have e : callA P o κ = P.J o.a o.b (fun e => κ (toldC 0 e)) := by unfold callA; rw [if_pos k1]
    have hz : (o.kind == 1) = true := by simpa using k1
    refine x_cond (O.xc ..) (t := true) (by show Value.bool (o.kind == 1) = _; rw [hz]) ?_
    obtain rfl := hmc.out
    rw [e, a21_of _ rfl]
    exact call_join O P (mkI.out _ rfl rfl rfl rfl)
  have hz1 : (o.kind == 1) = false := by simpa using k1
  refine x_cond (O.xc ..) (t := false) (by show Value.bool (o.kind == 1) = _; rw [hz1]) ?_
  replace k1 := Lib.hid k1
  clear hz1
  refine x_seqR (O.xc ..) fun R1 hR1 => ?_
  refine O.seg0 C1 prgC (calmCode_of ext_ok (by kernel_rfl)) rfl (calmRes_of Try.func21) rfl fun wp hp => ?_
  replace hp := Lib.hid hp
  go_wp2_with fail
  refine ⟨hp.out, ?_⟩
  clear hp  wp
  obtain rfl := hR1.out
  clear hR1
  by_cases k2 : o.kind = 2
  · have e : callA P o κ = P.V o.a (fun e => κ (toldC 0 e)) := by unfold callA; rw [if_neg k1.out, if_pos k2]
    have hz : (o.kind == 2) = true := by simpa using k2
    refine x_cond (O.xc ..) (t := true) (by show Value.bool (o.kind == 2) = _; rw [hz]) ?_
    obtain rfl := hmc.out
    rw [e, a21_of _ rfl]
    exact call_leave O P (mkI.out _ rfl rfl rfl rfl)
  have hz2 : (o.kind == 2) = false := by simpa using k2
  refine x_cond (O.xc ..) (t := false) (by show Value.bool (o.kind == 2) = _; rw [hz2]) ?_
  replace k2 := Lib.hid k2
  clear hz2
  refine x_seqR (O.xc ..) fun R1 hR1 => ?_
  refine O.seg0 C1 prgC (calmCode_of ext_ok (by kernel_rfl)) rfl (calmRes_of Try.func21) rfl fun wp hp => ?_
  replace hp := Lib.hid hp
  go_wp2_with fail
  refine ⟨hp.out, ?_⟩
  clear hp  wp
  obtain rfl := hR1.out
  clear hR1
  by_cases k3 : o.kind = 3
  · have e : callA P o κ = P.T o.a o.b (fun e => κ (toldC 0 e)) := by unfold callA; rw [if_neg k1.out, if_neg k2.out, if_pos k3]
    have hz : (o.kind == 3) = true := by simpa using k3
    refine x_cond (O.xc ..) (t := true) (by show Value.bool (o.kind == 3) = _; rw [hz]) ?_
    obtain rfl := hmc.out
    rw [e, a21_of _ rfl]
    exact call_set O P (mkI.out _ rfl rfl rfl rfl)
  have hz3 : (o.kind == 3) = false := by simpa using k3
  refine x_cond (O.xc ..) (t := false) (by show Value.bool (o.kind == 3) = _; rw [hz3]) ?_
  replace k3 := Lib.hid k3
  clear hz3
  refine x_seqR (O.xc ..) fun R1 hR1 => ?_
  refine O.seg0 C1 prgC (calmCode_of ext_ok (by kernel_rfl)) rfl (calmRes_of Try.func21) rfl fun wp hp => ?_
  replace hp := Lib.hid hp
  go_wp2_with fail
  refine ⟨hp.out, ?_⟩
  clear hp  wp
  obtain rfl := hR1.out
  clear hR1
  by_cases k4 : o.kind = 4
  · have e : callA P o κ = P.E o.a (fun n e => κ (toldC n e)) := by unfold callA; rw [if_neg k1.out, if_neg k2.out, if_neg k3.out, if_pos k4]
    have hz : (o.kind == 4) = true := by simpa using k4
    refine x_cond (O.xc ..) (t := true) (by show Value.bool (o.kind == 4) = _; rw [hz]) ?_
    obtain rfl := hmc.out
    rw [e, a21_of _ rfl]
    exact call_get O P (mkI.out _ rfl rfl rfl rfl)
  have hz4 : (o.kind == 4) = false := by simpa using k4
  refine x_cond (O.xc ..) (t := false) (by show Value.bool (o.kind == 4) = _; rw [hz4]) ?_
  replace k4 := Lib.hid k4
  clear hz4
  refine x_seqR (O.xc ..) fun R1 hR1 => ?_
  refine O.seg0 C1 prgC (calmCode_of ext_ok (by kernel_rfl)) rfl (calmRes_of Try.func21) rfl fun wp hp => ?_
  replace hp := Lib.hid hp
  go_wp2_with fail
  refine ⟨hp.out, ?_⟩
  clear hp  wp
  obtain rfl := hR1.out
  clear hR1
  by_cases k5 : o.kind = 5
  · have e : callA P o κ = P.I (fun l => κ ⟨true, 0, l⟩) := by unfold callA; rw [if_neg k1.out, if_neg k2.out, if_neg k3.out, if_neg k4.out, if_pos k5]
    have hz : (o.kind == 5) = true := by simpa using k5
    refine x_cond (O.xc ..) (t := true) (by show Value.bool (o.kind == 5) = _; rw [hz]) ?_
    obtain rfl := hmc.out
    rw [e, a21_of _ rfl]
    exact call_list O P (mkI.out _ rfl rfl rfl rfl)
  have hz5 : (o.kind == 5) = false := by simpa using k5
  refine x_cond (O.xc ..) (t := false) (by show Value.bool (o.kind == 5) = _; rw [hz5]) ?_
  replace k5 := Lib.hid k5
  clear hz5
  refine x_seqR (O.xc ..) fun R1 hR1 => ?_
  refine O.seg0 C1 prgC (calmCode_of ext_ok (by kernel_rfl)) rfl (calmRes_of Try.func21) rfl fun wp hp => ?_
  replace hp := Lib.hid hp
  go_wp2_with fail
  refine ⟨hp.out, ?_⟩
  clear hp  wp
  obtain rfl := hR1.out
  clear hR1
  by_cases k6 : o.kind = 6
  · have e : callA P o κ = P.M o.a (fun n p => κ ⟨true, n, [p]⟩) := by unfold callA; rw [if_neg k1.out, if_neg k2.out, if_neg k3.out, if_neg k4.out, if_neg k5.out, if_pos k6]
    have hz : (o.kind == 6) = true := by simpa using k6
    refine x_cond (O.xc ..) (t := true) (by show Value.bool (o.kind == 6) = _; rw [hz]) ?_
    obtain rfl := hmc.out
    rw [e, a21_of _ rfl]
    exact call_least O P (mkI.out _ rfl rfl rfl rfl)
  have hz6 : (o.kind == 6) = false := by simpa using k6
  refine x_cond (O.xc ..) (t := false) (by show Value.bool (o.kind == 6) = _; rw [hz6]) ?_
  replace k6 := Lib.hid k6
  clear hz6
  refine x_seqR (O.xc ..) fun R1 hR1 => ?_
  refine O.seg0 C1 prgC (calmCode_of ext_ok (by kernel_rfl)) rfl (calmRes_of Try.func21) rfl fun wp hp => ?_
  replace hp := Lib.hid hp
  go_wp2_with fail
  refine ⟨hp.out, ?_⟩
  clear hp  wp
  obtain rfl := hR1.out
  clear hR1
  by_cases k7 : o.kind = 7
  · have e : callA P o κ = P.Y o.a o.b (fun t p => κ ⟨t, p, []⟩) := by unfold callA; rw [if_neg k1.out, if_neg k2.out, if_neg k3.out, if_neg k4.out, if_neg k5.out, if_neg k6.out, if_pos k7]
    have hz : (o.kind == 7) = true := by simpa using k7
    refine x_cond (O.xc ..) (t := true) (by show Value.bool (o.kind == 7) = _; rw [hz]) ?_
    obtain rfl := hmc.out
    rw [e, a21_of _ rfl]
    exact call_may O P (mkI.out _ rfl rfl rfl rfl)
  have hz7 : (o.kind == 7) = false := by simpa using k7
  refine x_cond (O.xc ..) (t := false) (by show Value.bool (o.kind == 7) = _; rw [hz7]) ?_
  replace k7 := Lib.hid k7
  clear hz7
  have e : callA P o κ = κ ⟨false, 0, []⟩ := by unfold callA; rw [if_neg k1.out, if_neg k2.out, if_neg k3.out, if_neg k4.out, if_neg k5.out, if_neg k6.out, if_neg k7.out]
  rw [e] at hmc
  refine x_skip (O.xc ..) ?_
  refine x_inBlock (O.xc ..) ?_
  obtain rfl := hR0.out
  clear hR0
  have oB2 := o2
  have eB2 := e2
  refine x_seqR (O.xc ..) fun R0 hR0 => ?_
  refine x_reg (O.xc ..) 2 (by decide) (by decide) (calm0 (by kernel_rfl)) (C1.st O) fun wp hp => ?_
  simp only [List.take_succ_cons, List.take_zero]
  have hg := (poi_at hp (C1.dm O (by rw [oB2]; simp))).trans eB2
  have c0 := cellAt hg 0
  have c1 := cellAt hg 1
  have c2 := cellAt hg 2
  have z0 := freeAt hg 0
  have z1 := freeAt hg 1
  have z2 := freeAt hg 2
  simp only [List.getElem?_toArray, List.getElem?_cons_zero, List.getElem?_cons_succ] at c0 c1 c2
  replace hg := Lib.hid hg
  replace hp := Lib.hid hp
  try unfold ansV at *
  go_wp2_with fail
  refine ⟨⟨rfl, rfl⟩, put3 _ (N + 1) ⟨false, 0, []⟩ (.slice none 0 0), rfl, put3_okd (C1.st O).okd _ _ _, put3_sim hp.out _ ⟨false, 0, []⟩ (.slice none 0 0), ?_⟩
  clear hg hp c0 c1 c2 z0 z1 z2 wp
  refine x_regionEnd (O.xc ..) ?_
  obtain rfl := hR0.out
  clear hR0
  obtain rfl := hmc.out
  exact ans_out O C1 LL.out (fun h => by have := hA.out _ h; omega) oB2 eB2 rfl ⟨false, 0, []⟩ LRow.nil (fun g hg => by cases hg) (hret.out ⟨false, 0, []⟩ _) Try.func21 (calmRes_of Try.func21) rfl rfl
end
def callR (s : GateS) (o : OpD) : Ans × GateS :=
  if o.kind = 1 then (toldC 0 (joinR s o.a o.b).1, (joinR s o.a o.b).2)
  else if o.kind = 2 then (toldC 0 (leaveR s o.a).1, (leaveR s o.a).2)
  else if o.kind = 3 then (toldC 0 (setR s o.a o.b).1, (setR s o.a o.b).2)
  else if o.kind = 4 then (toldC (getR s o.a).1 (getR s o.a).2, s)
  else if o.kind = 5 then (⟨true, 0, s.mem⟩, s)
  else if o.kind = 6 then (⟨true, (leastR s.num s.mem o.a (-1)).1, [(leastR s.num s.mem o.a (-1)).2]⟩, s)
  else if o.kind = 7 then (⟨(mayR s o.a o.b).1, (mayR s o.a o.b).2, []⟩, s)
  else (⟨false, 0, []⟩, s)
section
variable {Q : Nat → SM GateS → Prop} {s : GateS}
theorem ff_setR {κ : Int → Fu (SM GateS)} {p a : Int} (h : ∀ x, x ≤ 1000 → FF Q (κ (setR s p a).1) x ⟨(setR s p a).2, fun _ => []⟩) : FF Q (setF (idL GateS) p a κ) 0 ⟨s, fun _ => []⟩ := by
  unfold setF
  unfold setR at h
  by_cases hb : p < 0 ∨ 64 ≤ p
  · rw [if_pos hb] at h ⊢
    exact h 0 (by omega)
  · rw [if_neg hb] at h ⊢
    exact ff_step (by omega) (h 1 (by omega))
theorem ff_getR {κ : Int → Int → Fu (SM GateS)} {p : Int} (h : ∀ x, x ≤ 1000 → FF Q (κ (getR s p).1 (getR s p).2) x ⟨s, fun _ => []⟩) : FF Q (getF (idL GateS) p κ) 0 ⟨s, fun _ => []⟩ := by
  unfold getF
  unfold getR at h
  by_cases hb : p < 0 ∨ 64 ≤ p
  · rw [if_pos hb] at h ⊢
    exact h 0 (by omega)
  · rw [if_neg hb] at h ⊢
    exact ff_step (by omega) (h 1 (by omega))
theorem ff_joinR {κ : Int → Fu (SM GateS)} {p a : Int} (h : ∀ x, x ≤ 1000 → FF Q (κ (joinR s p a).1) x ⟨(joinR s p a).2, fun _ => []⟩) : FF Q (joinF (idL GateS) 1 p a κ) 0 ⟨s, fun _ => []⟩ := by
  unfold joinR at h
  by_cases hb : p < 0 ∨ 64 ≤ p
  · unfold joinF
    rw [if_pos hb] at h ⊢
    exact h 0 (by omega)
  · rw [if_neg hb] at h
    by_cases hm : p ∈ s.mem
    · rw [if_pos hm] at h
      unfold joinF
      rw [if_neg hb]
      unfold joinL
      refine ff_step (by omega) ?_
      show FF Q (joinB (idL GateS) p a κ _ s.ser s.mem) 1 ⟨s, fun _ => []⟩
      unfold joinB
      rw [if_pos hm]
      exact h 1 (by omega)
    · rw [if_neg hm] at h
      exact ff_join (by omega) (by omega) hm (by omega) (h 3 (by omega))
theorem ff_leaveR {κ : Int → Fu (SM GateS)} {p : Int} (h : ∀ x, x ≤ 1000 → FF Q (κ (leaveR s p).1) x ⟨(leaveR s p).2, fun _ => []⟩) : FF Q (leaveF (idL GateS) 1 p κ) 0 ⟨s, fun _ => []⟩ := by
  unfold leaveR at h
  unfold leaveF
  by_cases hb : p < 0 ∨ 64 ≤ p
  · rw [if_pos hb] at h ⊢
    exact h 0 (by omega)
  · rw [if_neg hb] at h ⊢
    unfold leaveL
    refine ff_step (by omega) ?_
    show FF Q (leaveB (idL GateS) p κ _ s.ser s.mem) 1 ⟨s, fun _ => []⟩
    unfold leaveB
    by_cases hm : p ∈ s.mem
    · rw [if_pos hm] at h ⊢
      refine ff_step (by omega) ?_
      unfold FF casP
      rw [if_pos (show ((idL GateS).get (SM.mk s fun _ => []).st).ser = s.ser from rfl)]
      exact h 2 (by omega)
    · rw [if_neg hm] at h ⊢
      exact h 1 (by omega)
theorem ff_leastR {κ : Int → Int → Fu (SM GateS)} {n : Int} (hm : MemOk s.mem) (h : ∀ x, x ≤ 1000 → FF Q (κ (leastR s.num s.mem n (-1)).1 (leastR s.num s.mem n (-1)).2) x ⟨s, fun _ => []⟩) : FF Q (leastF (idL GateS) n κ) 0 ⟨s, fun _ => []⟩ := by
  refine ff_step (by omega) ?_
  exact ff_least s.mem n (-1) 1 hm.2 (by have := memOk_len hm; omega) h
theorem ff_mayR {κ : Bool → Int → Fu (SM GateS)} {q size : Int} (hm : MemOk s.mem) (h : ∀ x, x ≤ 1000 → FF Q (κ (mayR s q size).1 (mayR s q size).2) x ⟨s, fun _ => []⟩) : FF Q (mayF (idL GateS) q size κ) 0 ⟨s, fun _ => []⟩ := by
  unfold mayF
  refine ff_leastR hm fun x hx => ?_
  unfold mayR at h
  split
  · rename_i hc
    rw [if_pos hc] at h
    exact h x hx
  · rename_i hc
    rw [if_neg hc] at h
    exact h x hx
theorem ff_callR {Z : Machine → Trace → Prop} {Q2 : Nat → SM GateS → Prop} {oo : Os × Array (Nat × ByteArray)} {gb : Nat} {κ : Ans → Fu (SM GateS)} {o : OpD} (hm : MemOk s.mem) (h : ∀ x, x ≤ 1000 → FF Q (κ (callR s o).1) x ⟨(callR s o).2, fun _ => []⟩) : FF Q (callA (gateApi (md := niMd (RepG gb) 0 Z Q2 oo) ni_ok partNi 1) o κ) 0 ⟨s, fun _ => []⟩ := by
  unfold callA
  unfold callR at h
  by_cases k1 : o.kind = 1
  · rw [if_pos k1] at h ⊢; exact ff_joinR h
  rw [if_neg k1] at h ⊢
  by_cases k2 : o.kind = 2
  · rw [if_pos k2] at h ⊢; exact ff_leaveR h
  rw [if_neg k2] at h ⊢
  by_cases k3 : o.kind = 3
  · rw [if_pos k3] at h ⊢; exact ff_setR h
  rw [if_neg k3] at h ⊢
  by_cases k4 : o.kind = 4
  · rw [if_pos k4] at h ⊢; exact ff_getR h
  rw [if_neg k4] at h ⊢
  by_cases k5 : o.kind = 5
  · rw [if_pos k5] at h ⊢
    exact ff_step (by omega) (h 1 (by omega))
  rw [if_neg k5] at h ⊢
  by_cases k6 : o.kind = 6
  · rw [if_pos k6] at h ⊢; exact ff_leastR hm h
  rw [if_neg k6] at h ⊢
  by_cases k7 : o.kind = 7
  · rw [if_pos k7] at h ⊢; exact ff_mayR hm h
  rw [if_neg k7] at h ⊢
  exact h 0 (by omega)
end
section
variable {Z : Machine → Trace → Prop} {gb : Nat} {s : GateS} {own : Nat → Owner} {w : World} {c : Frame} {cs : List Frame}
open Classical in
theorem call_runs (G0 : GW gb s own w) {o : OpD} (ho : o.Ok) (h : ∀ own' w' v, GW gb (callR s o).2 own' w' → Left own own' w w' → LRow .out 0 own' w' v (callR s o).1.l → (∀ b, v.ownBlock = some b → w.heap.size ≤ b ∨ own b ≠ .out) → RM Try.prog Z (G (c.finish (ansV (callR s o).1 v)) cs) w') :
    RM Try.prog Z (G (Frame.enter Try.prog 21 #[gpv gb, .nilIface, opV o] .normal) (c :: cs)) w := by
  have := call_cps (md := niMd (RepG gb) 0 Z (fun _ m => m = ⟨(callR s o).2, fun _ => []⟩) (w.os, w.output)) (lo := 0) (A := fun _ => False) (w₀ := ⟨w.heap, ⟨s, fun _ => []⟩, own0G own w.heap.size⟩) (c := c) (cs := cs) ni_ok (gateApi ni_ok partNi 1) (fun _ => Nat.zero_le _) (κ := fun r => if r = (callR s o).1 then finF else cutF) ho trivial (fun r v y own4 w4 m4 C4 hL _ hk hQ => ?_) _ _ _ _ G0.ctx ⟨rfl, rfl⟩ (ff_callR G0.rep.mem fun x _ => by rw [if_pos rfl]; rfl)
  · exact this
  · by_cases hr : r = (callR s o).1
    · subst hr
      rw [if_pos rfl] at hQ
      obtain ⟨G1, L1⟩ := G0.after C4 .refl (show m4 = _ from hQ) hk
      have hg : GateAt gb m4.st own4 w4 := C4.rep
      refine h _ _ v G1 L1 ⟨hL.row, fun b hb => ?_⟩ fun b hb => ?_
      rotate_left
      · rcases Nat.lt_or_ge b w.heap.size with z | z
        · refine .inr fun ho => ?_
          have h1 := hL.mine b hb
          rw [(C4.tg b 0 (if_pos ⟨ho, z⟩)).1] at h1
          cases h1
        · exact .inl z
      have h1 := hL.mine b hb
      have hne : b ≠ gb := fun z => by rw [z, hg.sh] at h1; cases h1
      unfold own1G
      rw [if_neg hne, if_neg (by rintro ⟨t, _, z⟩; rw [h1] at z; cases z)]
    · rw [if_neg hr] at hQ
      exact hQ.elim
end
end Go.Proofs.Ytofacoojpgkbiaa
