/-
  Merged out of: GSame Gate31 Gate32 Gate33 Gate34 Gate35. No condition of its own.
-/
import Derived.Test.YtofacoojpgkbiaaNoneP32
import Derived.Deep.DeepCutAuto
import Derived.Deep.RegionHeld3
set_option linter.unusedVariables false
set_option linter.unusedSimpArgs false
/-
  The document's comparing: SameNumbers (f23), SameAnswers (f22), walked: two that read the same are the same (printed by gen/gsame.py). No condition of its own.
-/
namespace Go.Proofs.Ytofacoojpgkbiaa
open Go.Conc Go.RowKit
set_option maxRecDepth 100000 in
set_option maxHeartbeats 1000000 in
theorem sameN_walk {a b : Value} {l : List Int} {w : World} (ha : IntsAt w a l) (hb : IntsAt w b l) (hl : l.length ≤ 1000000000) :
    Calls Try.prog 23 #[a, b] w fun e w' => e = .returned (.bool true) ∧ Below w.heap.size w w' := by
  obtain ⟨pa, ca, rfl, qa⟩ := ha
  obtain ⟨pb, cb, rfl, qb⟩ := hb
  have H0 := Lib.hid (Below.refl w.heap.size w)
  generalize hN : w.heap.size = N at *
  replace hN := Lib.hid hN
  go_enter Try.func23, Try.ntmps23
  go_wp2_with fail
  go_loopw [5] (fun iv wr => ∃ j : Nat, j ≤ l.length ∧ iv = .int .i64 j ∧ Hid (Below N w wr)) (fun iv _ => l.length - (intOf iv).toNat)
  case atStart => exact ⟨0, by omega, rfl, H0⟩
  case round =>
    obtain ⟨j, hj, rfl, HB⟩ := hrel
    by_cases hlt : j < l.length
    · have hlt' : (j : Int) < (l.length : Int) := by omega
      have hne : l ≠ [] := fun z => by rw [z] at hlt; simp at hlt
      obtain ⟨ba, oa, rfl, ka⟩ := qa hne
      obtain ⟨bb, ob, rfl, kb⟩ := qb hne
      have hx := List.getElem?_eq_getElem hlt
      have k1 := ka j _ hx
      have k2 := kb j _ hx
      generalize l[j] = x at *
      have k1 : wr.cell? ⟨ba, oa + j, none⟩ = some (.int .i64 x) := cell_keep (w := w) (fun b hb => HB.out.block b (by rw [← hN.out]; exact hb)) k1
      have k2 : wr.cell? ⟨bb, ob + j, none⟩ = some (.int .i64 x) := cell_keep (w := w) (fun b hb => HB.out.block b (by rw [← hN.out]; exact hb)) k2
      have e2 : IntKind.i64.wrap ((j : Int) + 1) = ((j + 1 : Nat) : Int) := by rw [IntKind.wrap_i64]; omega
      clear ka kb qa qb hx
      have HD := Lib.hid HB.out.drew
      go_upto_region 6 with fail
      go_region
      all_goals
        go_wp2_with fail
        exact ⟨⟨j + 1, by omega, by rw [Int.natCast_add]; rfl, HD⟩, by simp [intOf]; omega⟩
    · obtain rfl : j = l.length := by omega
      go_wp2_with fail
      go_ret
      exact ⟨rfl, HB.out⟩
set_option maxRecDepth 100000 in
set_option maxHeartbeats 4000000 in
theorem sameA_walk {a b : Value} {l : List Ans} {w : World} (hll : ∀ r ∈ l, r.l.length ≤ 1000000000) (ha : AnsIn w a l) (hb : AnsIn w b l) (hl : l.length ≤ 1000000000) :
    Calls Try.prog 22 #[a, b] w fun e w' => e = .returned (.bool true) ∧ Below w.heap.size w w' := by
  obtain ⟨pa, ca, rfl, qa⟩ := ha
  obtain ⟨pb, cb, rfl, qb⟩ := hb
  have H0 := Lib.hid (Below.refl w.heap.size w)
  generalize hN : w.heap.size = N at *
  replace hN := Lib.hid hN
  go_enter Try.func22, Try.ntmps22
  go_wp2_with fail
  go_loopw [5] (fun iv wr => ∃ j : Nat, j ≤ l.length ∧ iv = .int .i64 j ∧ Hid (Below N w wr)) (fun iv _ => l.length - (intOf iv).toNat)
  case atStart => exact ⟨0, by omega, rfl, H0⟩
  case round =>
    obtain ⟨j, hj, rfl, HB⟩ := hrel
    by_cases hlt : j < l.length
    · have hlt' : (j : Int) < (l.length : Int) := by omega
      have hne : l ≠ [] := fun z => by rw [z] at hlt; simp at hlt
      obtain ⟨ba, oa, rfl, ka⟩ := qa hne
      obtain ⟨bb, ob, rfl, kb⟩ := qb hne
      have hx := List.getElem?_eq_getElem hlt
      obtain ⟨a0, a1, ua, a2, ia⟩ := ka j _ hx
      obtain ⟨b0, b1, ub, b2, ib⟩ := kb j _ hx
      have hrl := hll _ (List.getElem_mem hlt)
      generalize l[j] = x at *
      obtain ⟨ok, m, rl⟩ := x
      have HN : Hid (∀ w', Below wr.heap.size wr w' → Calls Try.prog 23 #[ua, ub] w' fun e w'' => e = .returned (.bool true) ∧ Below w'.heap.size w' w'') := Lib.hid fun w' hb' => by
        have kk : ∀ b, b < w.heap.size → w'.heap[b]? = w.heap[b]? := fun b hb => (hb'.block b (by have h1 := HB.out.size; have h2 := hN.out; omega)).trans (HB.out.block b (by rw [← hN.out]; exact hb))
        exact sameN_walk (ia.mono kk) (ib.mono kk) hrl
      have eua : ∃ x1 x2 x3, ua = .slice x1 x2 x3 := by obtain ⟨x1, x2, e, _⟩ := ia; exact ⟨_, _, _, e⟩
      have eub : ∃ x1 x2 x3, ub = .slice x1 x2 x3 := by obtain ⟨x1, x2, e, _⟩ := ib; exact ⟨_, _, _, e⟩
      obtain ⟨y1, y2, y3, rfl⟩ := eua
      obtain ⟨z1, z2, z3, rfl⟩ := eub
      clear ia ib hrl
      have kp : ∀ {ad : Addr} {v : Value}, w.cell? ad = some v → wr.cell? ad = some v := fun {ad v} h => cell_keep (w := w) (fun b hb => HB.out.block b (by rw [← hN.out]; exact hb)) h
      replace a0 := kp a0
      replace a1 := kp a1
      replace a2 := kp a2
      replace b0 := kp b0
      replace b1 := kp b1
      replace b2 := kp b2
      have e2 : IntKind.i64.wrap ((j : Int) + 1) = ((j + 1 : Nat) : Int) := by rw [IntKind.wrap_i64]; omega
      clear kp ka kb qa qb hx
      have hmm : (m != m) = false := by simp
      have hsz : N ≤ wr.heap.size := by have := HB.out.size; have := hN.out; omega
      replace hsz := Lib.hid hsz
      have HD := Lib.hid HB.out.drew
      simp only at a0 a1 b0 b1
      go_upto_region 6 with fail
      go_cut [54] (fun v wx => v = .bool false ∧ Below N w wx)
      case first =>
        cases ok
        · have HK : Hid (∀ w', Below wr.heap.size wr w' → (w'.cell? ⟨ba, oa + j * 3, none⟩ = some (.bool false) ∧ w'.cell? ⟨ba, oa + j * 3 + 1, none⟩ = some (.int .i64 m) ∧ w'.cell? ⟨ba, oa + j * 3 + 2, none⟩ = some (.slice y1 y2 y3) ∧ w'.cell? ⟨bb, ob + j * 3, none⟩ = some (.bool false) ∧ w'.cell? ⟨bb, ob + j * 3 + 1, none⟩ = some (.int .i64 m) ∧ w'.cell? ⟨bb, ob + j * 3 + 2, none⟩ = some (.slice z1 z2 z3))) := Lib.hid (fun w' h => ⟨cell_keep h.block a0, cell_keep h.block a1, cell_keep h.block a2, cell_keep h.block b0, cell_keep h.block b1, cell_keep h.block b2⟩)
          go_region_held3 (fun w' => w'.cell? ⟨ba, oa + j * 3, none⟩ = some (.bool false) ∧ w'.cell? ⟨ba, oa + j * 3 + 1, none⟩ = some (.int .i64 m) ∧ w'.cell? ⟨ba, oa + j * 3 + 2, none⟩ = some (.slice y1 y2 y3) ∧ w'.cell? ⟨bb, ob + j * 3, none⟩ = some (.bool false) ∧ w'.cell? ⟨bb, ob + j * 3 + 1, none⟩ = some (.int .i64 m) ∧ w'.cell? ⟨bb, ob + j * 3 + 2, none⟩ = some (.slice z1 z2 z3))
            (first | exact HK.out _ (Below.refl _ _).drew | exact HK.out _ HB5.out)
            ((go_at_call 23; refine (HN.out _ (Below.refl _ _).drew).mono ?_; rintro e w5 ⟨rfl, hb5⟩; (have HB5 : Hid (Below wr.heap.size wr w5) := Lib.hid ((Below.refl wr.heap.size wr).drew.trans hb5)); clear hb5))
          all_goals (go_wp2_with fail; go_meet)
          all_goals exact ⟨rfl, HB.out.trans (HB5.out.mono hsz.out)⟩
        · have HK : Hid (∀ w', Below wr.heap.size wr w' → (w'.cell? ⟨ba, oa + j * 3, none⟩ = some (.bool true) ∧ w'.cell? ⟨ba, oa + j * 3 + 1, none⟩ = some (.int .i64 m) ∧ w'.cell? ⟨ba, oa + j * 3 + 2, none⟩ = some (.slice y1 y2 y3) ∧ w'.cell? ⟨bb, ob + j * 3, none⟩ = some (.bool true) ∧ w'.cell? ⟨bb, ob + j * 3 + 1, none⟩ = some (.int .i64 m) ∧ w'.cell? ⟨bb, ob + j * 3 + 2, none⟩ = some (.slice z1 z2 z3))) := Lib.hid (fun w' h => ⟨cell_keep h.block a0, cell_keep h.block a1, cell_keep h.block a2, cell_keep h.block b0, cell_keep h.block b1, cell_keep h.block b2⟩)
          go_region_held3 (fun w' => w'.cell? ⟨ba, oa + j * 3, none⟩ = some (.bool true) ∧ w'.cell? ⟨ba, oa + j * 3 + 1, none⟩ = some (.int .i64 m) ∧ w'.cell? ⟨ba, oa + j * 3 + 2, none⟩ = some (.slice y1 y2 y3) ∧ w'.cell? ⟨bb, ob + j * 3, none⟩ = some (.bool true) ∧ w'.cell? ⟨bb, ob + j * 3 + 1, none⟩ = some (.int .i64 m) ∧ w'.cell? ⟨bb, ob + j * 3 + 2, none⟩ = some (.slice z1 z2 z3))
            (first | exact HK.out _ (Below.refl _ _).drew | exact HK.out _ HB5.out)
            ((go_at_call 23; refine (HN.out _ (Below.refl _ _).drew).mono ?_; rintro e w5 ⟨rfl, hb5⟩; (have HB5 : Hid (Below wr.heap.size wr w5) := Lib.hid ((Below.refl wr.heap.size wr).drew.trans hb5)); clear hb5))
          all_goals (go_wp2_with fail; go_meet)
          all_goals exact ⟨rfl, HB.out.trans (HB5.out.mono hsz.out)⟩
      case rest =>
        obtain ⟨rfl, hb6⟩ := hcut
        have HB6 := Lib.hid hb6
        clear hb6
        go_wp2_with fail
        exact ⟨⟨j + 1, by omega, by rw [Int.natCast_add]; rfl, HB6⟩, by simp [intOf]; omega⟩
    · obtain rfl : j = l.length := by omega
      go_wp2_with fail
      go_ret
      exact ⟨rfl, HB.out⟩
end Go.Proofs.Ytofacoojpgkbiaa

/-
  GateNone: the zero gate, and one whose numbers are laid to nought. No condition of its own.
-/
namespace Go.Proofs.Ytofacoojpgkbiaa
open Go.Conc Go.RowKit
open Go.ConcN (upd upd_ne upd_same)
set_option maxRecDepth 100000
noncomputable def c5 : Code := (Try.f5.body).getD .skip
def A5 (x : Nat → Value) : Act := ⟨#[x 0, x 1, x 2, x 3, x 4, x 5, x 6, x 7, x 8, x 9, x 10, x 11, x 12, x 13, x 14, x 15, x 16, x 17, x 18, x 19, x 20, x 21, x 22, x 23, x 24, x 25, x 26, x 27, x 28, x 29, x 30, x 31, x 32, x 33, x 34, x 35, x 36, x 37, x 38, x 39, x 40, x 41, x 42, x 43, x 44, x 45, x 46, x 47, x 48, x 49, x 50, x 51, x 52, x 53, x 54, x 55, x 56, x 57, x 58, x 59, x 60, x 61, x 62, x 63, x 64, x 65, x 66, x 67, x 68, x 69, x 70, x 71, x 72, x 73, x 74, x 75, x 76, x 77, x 78, x 79, x 80, x 81, x 82, x 83, x 84, x 85, x 86, x 87, x 88, x 89, x 90, x 91, x 92, x 93, x 94, x 95, x 96, x 97, x 98, x 99, x 100, x 101, x 102, x 103, x 104, x 105, x 106, x 107, x 108, x 109, x 110, x 111, x 112, x 113, x 114, x 115, x 116, x 117, x 118, x 119, x 120, x 121, x 122, x 123, x 124, x 125, x 126, x 127, x 128, x 129, x 130, x 131, x 132, x 133, x 134], []⟩
theorem a5_of (l : Array Value) (hl : l.size = 135) : (⟨l, []⟩ : Act) = A5 fun j => l.getD j undef := by
  have e : ∀ x : Nat → Value, (A5 x).tmps = ((List.range 135).map x).toArray := fun x => rfl
  have h1 : l = (A5 fun j => l.getD j undef).tmps := by
    rw [e]
    apply Array.ext_getElem?
    intro i
    by_cases h : i < 135
    · have h' : i < l.size := by omega
      simp [h, h', List.getElem?_range]
    · have h' : ¬ i < l.size := by omega
      rw [Array.getElem?_eq_none (by omega), Array.getElem?_eq_none (by simp; omega)]
  exact congrArg (Act.mk · []) h1
def sJ (j : Nat) : GateS := ⟨0, [], fun i => if i < j then -1 else 0⟩
def sW (j : Nat) : GateS := ⟨0, [], fun i => if i < j then 0 else -1⟩
def sZ : GateS := ⟨0, [], fun _ => 0⟩
theorem NewG.gateJ {w w1 : World} {N j : Nat} (h : NewG N j w w1) (hN : w.heap.size = N) : GW N (sJ j) (fun b => if b = N then .sh else .out) w1 ∧ LeftW w w1 := by
  obtain ⟨hb, hs, c, c1, c2, c3, c4⟩ := h
  have hno : ∀ b t, (if b = N then Owner.sh else .out) ≠ .tag t := fun b t => by split <;> simp
  refine ⟨⟨⟨if_pos rfl, ⟨none, c, c1, c2, c3, fun i hi => c4 i hi, .inl ⟨rfl, rfl, rfl⟩⟩, fun i _ => ?_, ⟨List.nodup_nil, fun x hx => by cases hx⟩, fun b b' t q _ => absurd q (hno b _), fun b t q => absurd q (hno b _)⟩, fun b hb => if_neg (by omega), fun b hb => ?_⟩, ⟨fun b hb' => hb.block b (by omega), by omega, hb.os, hb.output⟩⟩
  · unfold sJ
    by_cases hi : i < j
    · simp only [if_pos hi]; constructor <;> decide
    · simp only [if_neg hi]; constructor <;> decide
  · by_cases h : b = N
    · exact .inl h
    · rw [if_neg h] at hb; exact absurd rfl hb
theorem setW (j : Nat) (hj : j < 64) : (setR (sW j) j 0).1 = 0 ∧ (setR (sW j) j 0).2.ser = (sW (j + 1)).ser ∧ (setR (sW j) j 0).2.mem = (sW (j + 1)).mem ∧ ∀ i, i < 64 → (sW (j + 1)).num i = (setR (sW j) j 0).2.num i := by
  unfold setR
  rw [if_neg (by omega)]
  refine ⟨rfl, rfl, rfl, fun i hi => ?_⟩
  show (if i < j + 1 then (0 : Int) else -1) = upd (fun i => if i < j then (0 : Int) else -1) ((j : Int)).toNat 0 i
  rw [show ((j : Int)).toNat = j by omega]
  by_cases h : i = j
  · subst h
    rw [upd_same, if_pos (by omega)]
  · rw [upd_ne _ _ h]
    by_cases h2 : i < j
    · rw [if_pos h2, if_pos (by omega)]
    · rw [if_neg h2, if_neg (by omega)]
structure NS (w0 : World) (gz gw : Nat) (sz sw : GateS) (oz ow : Nat → Owner) (w : World) : Prop where
  z : GW gz sz oz w
  wt : GW gw sw ow w
  dis : ∀ b, oz b = .out ∨ ow b = .out
  l : LeftW w0 w
  oz0 : ∀ b, b < w0.heap.size → oz b = .out
  ow0 : ∀ b, b < w0.heap.size → ow b = .out
section
variable {w0 w w' : World} {gz gw : Nat} {sz sw s' : GateS} {oz ow o' : Nat → Owner}
theorem NS.left (h : NS w0 gz gw sz sw oz ow w) (l : LeftW w w') : NS w0 gz gw sz sw oz ow w' :=
  ⟨h.z.keep l.size fun b hb _ => l.same b hb, h.wt.keep l.size fun b hb _ => l.same b hb, h.dis, h.l.trans l, h.oz0, h.ow0⟩
theorem NS.sim (h : NS w0 gz gw sz sw oz ow w) (e : w'.heap = w.heap) (ho : w'.os = w.os ∧ w'.output = w.output) : NS w0 gz gw sz sw oz ow w' := h.left (.of_sim e ho)
theorem NS.stepZ (h : NS w0 gz gw sz sw oz ow w) (g : GW gz s' o' w') (l : Left oz o' w w') : NS w0 gz gw s' sw o' ow w' := by
  obtain ⟨h1, h2⟩ := GW.beside (g1 := gz) (s1 := sz) h.wt h.dis l
  have hs := h.l.size
  exact ⟨g, h1, h2, ⟨fun b hb => (l.same b (by omega) (h.oz0 b hb)).2.trans (h.l.same b hb), Nat.le_trans hs l.size, l.outs.1.trans h.l.outs.1, l.outs.2.trans h.l.outs.2⟩, fun b hb => (l.same b (by omega) (h.oz0 b hb)).1, h.ow0⟩
theorem NS.stepW (h : NS w0 gz gw sz sw oz ow w) (g : GW gw s' o' w') (l : Left ow o' w w') : NS w0 gz gw sz s' oz o' w' := by
  obtain ⟨h1, h2⟩ := GW.beside (g1 := gw) (s1 := sw) h.z (fun b => (h.dis b).symm) l
  have hs := h.l.size
  exact ⟨h1, g, fun b => (h2 b).symm, ⟨fun b hb => (l.same b (by omega) (h.ow0 b hb)).2.trans (h.l.same b hb), Nat.le_trans hs l.size, l.outs.1.trans h.l.outs.1, l.outs.2.trans h.l.outs.2⟩, h.oz0, fun b hb => (l.same b (by omega) (h.ow0 b hb)).1⟩
end
noncomputable def tail5 : Code := cB (cB (cB (cB (cB c5))))
noncomputable def set5 : Code := cA (cA (cB (cA tail5)))
noncomputable def ops5 : Code := cA (cA (cB (cA (cB tail5))))
structure X5 (va : Value) (gz gw : Nat) (x : Nat → Value) : Prop where
  x0 : x 0 = va
  x3 : x 3 = .pointer none
  x4 : x 4 = gpv gz
  x5 : x 5 = gpv gw
section
variable {Z : Machine → Trace → Prop} {c : Frame} {cs : List Frame} {gz gw : Nat} {oz : Nat → Owner} {R : List Item} {w0 : World} {va : Value}
set_option maxHeartbeats 2000000 in
theorem sets_loop (hret : ∀ x ow w', X5 va gz gw x → NS w0 gz gw sZ (sW 64) oz ow w' → RM Try.prog Z (G ((base 5).at (A5 x) R) cs) w') :
    ∀ (k j : Nat), j + k = 64 → ∀ x ow w, X5 va gz gw x → x 6 = .int .i64 j → NS w0 gz gw sZ (sW j) oz ow w → RM Try.prog Z (G ((base 5).at (A5 x) (.code set5 :: .inLoop set5 :: .inBlock 0 :: R)) cs) w := by
  intro k
  induction k with
  | zero =>
    intro j hj x ow w hx h6 I
    obtain rfl : j = 64 := by omega
    replace hret := Lib.hid hret
    refine x_seqB rm_xc rfl fun R0 hR0 => ?_
    rw [show cA set5 = Code.seq _ _ from rfl]
    unfold A5
    simp only [hx.x0, hx.x3, hx.x4, hx.x5, h6]
    unfold gpv
    refine x_seqR rm_xc fun R1 hR1 => ?_
    refine rm_seg prgN (calmCode_of ext_ok (by kernel_rfl)) rfl (calmRes_of Try.func5) rfl fun wp hp => ?_
    replace hp := Lib.hid hp
    go_wp2_with fail
    refine fun w1 h1 => ?_
    replace I := I.sim (h1.heap.trans hp.out.heap) ⟨h1.outs.1.trans hp.out.outs.1, h1.outs.2.trans hp.out.outs.2⟩
    clear h1 hp wp
    obtain rfl := hR1.out
    clear hR1
    refine x_cond rm_xc (t := false) rfl ?_
    obtain rfl := hR0.out
    refine x_exit rm_xc rfl ?_
    rw [a5_of _ rfl]
    exact hret.out _ ow _ ⟨rfl, rfl, rfl, rfl⟩ I
  | succ k ih =>
    intro j hj x ow w hx h6 I
    have hlt : j < 64 := by omega
    have hlt' : (j : Int) < 64 := by omega
    obtain ⟨t1, t2, t3, t4⟩ := setW j hlt
    have nx : IntKind.i64.wrap ((j : Int) + 1) = ((j + 1 : Nat) : Int) := by rw [IntKind.wrap_i64]; omega
    replace hret := Lib.hid hret
    replace ih := Lib.hid ih
    refine x_seqB rm_xc rfl fun R0 hR0 => ?_
    rw [show cA set5 = Code.seq _ _ from rfl]
    unfold A5
    simp only [hx.x0, hx.x3, hx.x4, hx.x5, h6]
    unfold gpv
    refine x_seqR rm_xc fun R1 hR1 => ?_
    refine rm_seg prgN (calmCode_of ext_ok (by kernel_rfl)) rfl (calmRes_of Try.func5) rfl fun wp hp => ?_
    replace hp := Lib.hid hp
    go_wp2_with fail
    refine fun w1 h1 => ?_
    replace I := I.sim (h1.heap.trans hp.out.heap) ⟨h1.outs.1.trans hp.out.outs.1, h1.outs.2.trans hp.out.outs.2⟩
    clear h1 hp wp
    obtain rfl := hR1.out
    clear hR1
    refine x_cond rm_xc (t := true) rfl ?_
    refine x_skip rm_xc ?_
    obtain rfl := hR0.out
    clear hR0
    refine x_seqB rm_xc rfl fun R0 hR0 => ?_
    rw [show cA (cB set5) = Code.block _ _ from rfl]
    refine x_block rm_xc ?_
    refine rm_reg 2 (by decide) (by decide) (calm0 (by kernel_rfl)) fun wp hp => ?_
    simp only [List.take_succ_cons, List.take_zero]
    replace hp := Lib.hid hp
    go_wp2_with fail
    refine rm_after rfl fun w2 h2 => ?_
    replace I := I.sim (h2.heap.trans hp.out.heap) ⟨h2.outs.1.trans hp.out.outs.1, h2.outs.2.trans hp.out.outs.2⟩
    clear h2 hp wp
    refine x_callF rm_xc rfl rfl (by decide) rfl Try.func27 (by kernel_rfl) (by kernel_rfl) ?_
    walk_nrm
    rw [show Value.pointer (some ⟨gw, 0, none⟩) = gpv gw from rfl]
    refine set_runs I.wt (by constructor <;> decide) fun ow' w3 Gw Lw => ?_
    replace I := I.stepW (Gw.nums t2.symm t3.symm t4) Lw
    clear Gw Lw t2 t3 t4 t1
    rw [Frame.finish_at]
    walk_nrm
    unfold gpv
    refine x_regionEnd rm_xc ?_
    refine x_inBlock rm_xc ?_
    obtain rfl := hR0.out
    clear hR0
    rw [show cB (cB set5) = Code.region _ _ _ from rfl]
    refine rm_seg prgN (calmCode_of ext_ok (by kernel_rfl)) rfl (calmRes_of Try.func5) rfl fun wp hp => ?_
    replace hp := Lib.hid hp
    go_wp2_with fail
    refine fun w1 h1 => ?_
    replace I := I.sim (h1.heap.trans hp.out.heap) ⟨h1.outs.1.trans hp.out.outs.1, h1.outs.2.trans hp.out.outs.2⟩
    clear h1 hp wp
    refine x_inLoop rm_xc ?_
    rw [a5_of _ rfl]
    exact ih.out (j + 1) (by omega) _ _ _ ⟨rfl, rfl, rfl, rfl⟩ rfl I
end
end Go.Proofs.Ytofacoojpgkbiaa

/-
  GateNone: one operation upon both gates. No condition of its own.
-/
namespace Go.Proofs.Ytofacoojpgkbiaa
open Go.Conc Go.RowKit
open Go.ConcN (upd upd_ne upd_same)
set_option maxRecDepth 100000
structure AnsAt (oz ow : Nat → Owner) (w : World) (u : Value) (r : Ans) : Prop where
  at_ : ∃ v, u = ansV r v ∧ w.ownsRow 0 2 1 v r.l.length (intsV r.l) ∧ ∀ b, v.ownBlock = some b → oz b = .out ∧ ow b = .out
theorem AnsAt.keep {oz ow oz' ow' : Nat → Owner} {w w' : World} {u : Value} {r : Ans} (h : AnsAt oz ow w u r) (hk : ∀ b, b < w.heap.size → oz b = .out → ow b = .out → (oz' b = .out ∧ ow' b = .out) ∧ w'.heap[b]? = w.heap[b]?) : AnsAt oz' ow' w' u r := by
  obtain ⟨v, e, hr, hb⟩ := h
  exact ⟨v, e, ownsRow_keep hr fun g ob hg hh => by
    obtain ⟨h1, h2⟩ := hb g hg
    exact (hk g (ownsRow_lt hr hg).2 h1 h2).2.trans hh, fun b hg => by
    obtain ⟨h1, h2⟩ := hb b hg
    exact (hk b (ownsRow_lt hr hg).2 h1 h2).1⟩
structure BlkAt (oz ow : Nat → Owner) (w : World) (K : Nat) (o : Obj) : Prop where
  z : oz K = .out
  wt : ow K = .out
  at_ : w.heap[K]? = some o
theorem BlkAt.keep {oz ow oz' ow' : Nat → Owner} {w w' : World} {K : Nat} {o : Obj} (h : BlkAt oz ow w K o) (hk : ∀ b, b < w.heap.size → oz b = .out → ow b = .out → (oz' b = .out ∧ ow' b = .out) ∧ w'.heap[b]? = w.heap[b]?) : BlkAt oz' ow' w' K o := by
  have := hk K (Array.getElem?_eq_some_iff.1 h.at_).1 h.z h.wt
  exact ⟨this.1.1, this.1.2, this.2.trans h.at_⟩
def opO (o : OpD) : Obj := .cells #[.int .i64 o.kind, .int .i64 o.a, .int .i64 o.b, .int .i64 o.c] 45 (0, 0)
def ansO : Obj := .cells #[.bool false, .int .i64 0, .slice none 0 0] 42 (0, 0)
def tv5 (gz gw : Nat) (o : OpD) : Nat → Option Value
  | 0 => some (gpv gz) | 1 => some (opV o) | 3 => some (gpv gw) | 4 => some (opV o)
  | _ => none
structure I14 (w0 : World) (gz gw N : Nat) (s : GateS) (o : OpD) (z : Nat → Value) (listed : Array Bool) (x : Nat → Value) (oz ow : Nat → Owner) (w : World) : Prop where
  xs : ∀ j, j < 9 → x j = z j
  tab : Tab (tv5 gz gw o) 35 listed x
  ns : NS w0 gz gw (if listed.getD 2 false = true then (callR s o).2 else s) (if listed.getD 5 false = true then (callR s o).2 else s) oz ow w
  op : BlkAt oz ow w N (opO o)
  c2 : listed.getD 2 false = true → AnsAt oz ow w (x 37) (callR s o).1
  c5 : listed.getD 5 false = true → AnsAt oz ow w (x 40) (callR s o).1
  c6 : listed.getD 6 false = true → ∃ K, x 9 = .pointer (some ⟨K, 0, none⟩) ∧ w0.heap.size ≤ K ∧ BlkAt oz ow w K ansO
  c7 : listed.getD 7 false = true → ∃ K, x 10 = .pointer (some ⟨K, 0, none⟩) ∧ w0.heap.size ≤ K ∧ BlkAt oz ow w K ansO
  c67 : listed.getD 6 false = true → listed.getD 7 false = true → x 9 ≠ x 10
section
variable {w0 w w' : World} {gz gw N : Nat} {s : GateS} {o : OpD} {z x : Nat → Value} {listed : Array Bool} {oz ow oz' ow' : Nat → Owner}
theorem getD_set_other {listed : Array Bool} {i j : Nat} (h : j ≠ i) : (listed.setIfInBounds i true).getD j false = listed.getD j false := by
  by_cases hj : j < listed.size
  · simp only [Array.getD, Array.size_setIfInBounds, hj, dite_true, Array.getInternal_eq_getElem]
    rw [Array.getElem_setIfInBounds_ne _ (fun e => h e.symm)]
  · simp [Array.getD, hj]
theorem I14.put (h : I14 w0 gz gw N s o z listed x oz ow w) {i : Nat} {u : Value} (hi : i = 0 ∨ i = 1 ∨ i = 3 ∨ i = 4) (ht : tv5 gz gw o i = some u) : I14 w0 gz gw N s o z (listed.setIfInBounds i true) (upd x (35 + i) u) oz ow w := by
  refine ⟨fun j hj => by rw [upd_ne _ _ (by omega)]; exact h.xs j hj, h.tab.put (.inl ht), ?_, h.op, fun q => ?_, fun q => ?_, fun q => ?_, fun q => ?_, fun q1 q2 => ?_⟩
  · rw [getD_set_other (by omega), getD_set_other (by omega)]; exact h.ns
  · rw [upd_ne _ _ (by omega)]; exact h.c2 (by rwa [getD_set_other (by omega)] at q)
  · rw [upd_ne _ _ (by omega)]; exact h.c5 (by rwa [getD_set_other (by omega)] at q)
  · rw [upd_ne _ _ (by omega)]; exact h.c6 (by rwa [getD_set_other (by omega)] at q)
  · rw [upd_ne _ _ (by omega)]; exact h.c7 (by rwa [getD_set_other (by omega)] at q)
  · rw [upd_ne _ _ (by omega), upd_ne _ _ (by omega)]; exact h.c67 (by rwa [getD_set_other (by omega)] at q1) (by rwa [getD_set_other (by omega)] at q2)
theorem I14.world (h : I14 w0 gz gw N s o z listed x oz ow w) (hn : NS w0 gz gw (if listed.getD 2 false = true then (callR s o).2 else s) (if listed.getD 5 false = true then (callR s o).2 else s) oz' ow' w')
    (hk : ∀ b, b < w.heap.size → oz b = .out → ow b = .out → (oz' b = .out ∧ ow' b = .out) ∧ w'.heap[b]? = w.heap[b]?) : I14 w0 gz gw N s o z listed x oz' ow' w' :=
  ⟨h.xs, h.tab, hn, h.op.keep hk, fun q => (h.c2 q).keep hk, fun q => (h.c5 q).keep hk, fun q => (h.c6 q).imp fun K ⟨e, e1, e2⟩ => ⟨e, e1, e2.keep hk⟩, fun q => (h.c7 q).imp fun K ⟨e, e1, e2⟩ => ⟨e, e1, e2.keep hk⟩, h.c67⟩
end
end Go.Proofs.Ytofacoojpgkbiaa

/-
  GateNone: one operation upon both gates, in whatever order. No condition of its own.
-/
namespace Go.Proofs.Ytofacoojpgkbiaa
open Go.Conc Go.RowKit
open Go.ConcN (upd upd_ne upd_same)
set_option maxRecDepth 100000
theorem rm_op1 {P : Program} {Z : Machine → Trace → Prop} {b : Frame} {a : Act} {k : List Item} {cs : List Frame} {w : World} {ops : Array Oper} {i : Nat} {rest : List Nat} {o : Oper} {v : Value} (ho : ops[i]? = some o) (hw : Region.wanted o (yielded ops a.tmps) = true) (hk : b.kind ≠ .early) (hc : CalmOp true P (fun _ => False) o)
    (hr : ∀ wp, Sim wp w → (execOp a.eval o).run P wp = .ok (.value v) wp) (h : RM P Z (G (b.at (a.put o.dst v) (.inRegion ops rest :: k)) cs) w) : RM P Z (G (b.at a (.inRegion ops (i :: rest) :: k)) cs) w :=
  x_op rm_xc (none_seats w) ho hw hk hc (n := .value v) (.inl rfl) (hr _ (by rw [poi_none]; exact .refl _)) rfl fun d w1 h1 h2 h3 => by
    have hw1 : w1 = w.at d := poi_inj h2.okd (show Okd _ (w.at d) from (none_seats w).okd) h1
    subst hw1
    exact rm_xc.at_ _ _ _ h
theorem put3_outs (w : World) (b : Nat) (r : Ans) (v : Value) : (put3 w b r v).os = w.os ∧ (put3 w b r v).output = w.output := ⟨rfl, rfl⟩
theorem LeftW.trans' {w0 w w' : World} (h : LeftW w0 w) (hs : w.heap.size ≤ w'.heap.size) (ho : w'.os = w.os ∧ w'.output = w.output) (hk : ∀ b, b < w0.heap.size → w'.heap[b]? = w.heap[b]?) : LeftW w0 w' := ⟨fun b hb => (hk b hb).trans (h.same b hb), Nat.le_trans h.size hs, ho.1.trans h.outs.1, ho.2.trans h.outs.2⟩
noncomputable def body3 : Code := cA (cA (cB ops5))
noncomputable def reg14 : Code := cA (cB body3)
section
variable {Z : Machine → Trace → Prop} {c : Frame} {cs : List Frame} {w0 w : World} {gz gw N : Nat} {s : GateS} {o : OpD} {z : Nat → Value} {oz ow : Nat → Owner} {R : List Item}
set_option maxHeartbeats 4000000 in
theorem pair_draw (ho : o.Ok) (z4 : z 4 = gpv gz) (z5 : z 5 = gpv gw) (z8 : z 8 = .pointer (some ⟨N, 0, none⟩)) (I : NS w0 gz gw s s oz ow w) (hN : BlkAt oz ow w N (opO o))
    (hret : ∀ x oz ow w' K K' u1 u2, (∀ j, j < 9 → x j = z j) → x 9 = .pointer (some ⟨K, 0, none⟩) → x 10 = .pointer (some ⟨K', 0, none⟩) → K ≠ K' → NS w0 gz gw (callR s o).2 (callR s o).2 oz ow w' → BlkAt oz ow w' N (opO o) →
      BlkAt oz ow w' K (.cells #[.bool (callR s o).1.ok, .int .i64 (callR s o).1.n, u1] 42 (0, 0)) → BlkAt oz ow w' K' (.cells #[.bool (callR s o).1.ok, .int .i64 (callR s o).1.n, u2] 42 (0, 0)) → IntsAt w' u1 (callR s o).1.l → IntsAt w' u2 (callR s o).1.l → RM Try.prog Z (G ((base 5).at (A5 x) R) cs) w') :
    RM Try.prog Z (G ((base 5).at (A5 z) (.code reg14 :: R)) cs) w := by
  replace hret := Lib.hid hret
  rw [show reg14 = Code.region _ _ _ from rfl]
  refine x_drawH rm_xc 8 [[8, 9]] rfl (by kernel_rfl) (none_seats _) (fun listed a w => ∃ x oz ow, a = A5 x ∧ I14 w0 gz gw N s o z listed x oz ow w) ?i0 ?ie ?ist
  case i0 =>
    refine ⟨z, oz, ow, rfl, fun _ _ => rfl, .zero, ?_, hN, fun q => (by rw [getD_replicate_false] at q; cases q), fun q => (by rw [getD_replicate_false] at q; cases q), fun q => (by rw [getD_replicate_false] at q; cases q), fun q => (by rw [getD_replicate_false] at q; cases q), fun q => (by rw [getD_replicate_false] at q; cases q)⟩
    rw [getD_replicate_false, getD_replicate_false]
    exact I
  case ie =>
    rintro a w3 ⟨x, oz3, ow3, rfl, hI⟩ r hr
    obtain rfl : r = [8, 9] := by simpa using hr
    obtain ⟨v1, t37, r1, b1⟩ := hI.c2 rfl
    obtain ⟨v2, t40, r2, b2⟩ := hI.c5 rfl
    obtain ⟨K, t9, hK, hK1⟩ := hI.c6 rfl
    obtain ⟨K', t10, hK', hK1'⟩ := hI.c7 rfl
    have hne : K ≠ K' := fun z => hI.c67 rfl rfl (by rw [t9, t10, z])
    have hns : NS w0 gz gw (callR s o).2 (callR s o).2 oz3 ow3 w3 := hI.ns
    have hop := hI.op
    have hxs := hI.xs
    clear hI hr
    generalize (callR s o).1 = rr at *
    obtain ⟨a1, n1, c1, rfl⟩ : ∃ a n c, v1 = .slice a n c := by rcases r1.2 with ⟨e, _⟩ | ⟨g', cap, cur, e, _⟩ <;> exact ⟨_, _, _, e⟩
    obtain ⟨a2, n2, c2, rfl⟩ : ∃ a n c, v2 = .slice a n c := by rcases r2.2 with ⟨e, _⟩ | ⟨g', cap, cur, e, _⟩ <;> exact ⟨_, _, _, e⟩
    refine rm_pre (rest := []) (by decide) [8, 9] [_, _] rfl (calm0 (by kernel_rfl)) fun wp hp => ?_
    have gk : wp.heap[K]? = some ansO := (congrArg (·[K]?) hp.heap).trans hK1.at_
    have gk' : wp.heap[K']? = some ansO := (congrArg (·[K']?) hp.heap).trans hK1'.at_
    unfold ansO at gk gk'
    have k0 := cellAt gk 0
    have k1 := cellAt gk 1
    have k2 := cellAt gk 2
    have f0 := freeAt gk 0
    have f1 := freeAt gk 1
    have f2 := freeAt gk 2
    have gp : (put3 wp K rr (.slice a1 n1 c1)).heap[K']? = _ := (put3_off (Ne.symm hne) rr _).trans gk'
    have k3 := cellAt gp 0
    have k4 := cellAt gp 1
    have k5 := cellAt gp 2
    have f3 := freeAt gp 0
    have f4 := freeAt gp 1
    have f5 := freeAt gp 2
    simp only [List.getElem?_toArray, List.getElem?_cons_zero, List.getElem?_cons_succ] at k0 k1 k2 k3 k4 k5
    unfold put3 at k3 k4 k5 f3 f4 f5
    replace gk := Lib.hid gk
    replace gp := Lib.hid gp
    replace gk' := Lib.hid gk'
    replace hp := Lib.hid hp
    replace hxs := Lib.hid hxs
    clear z4 z5 z8
    unfold A5
    simp only [t37, t40, t9, t10]
    unfold ansV
    go_wp2_with fail
    refine rm_after rfl fun w4 h4 => ?_
    have e4 : w4.heap = (put3 (put3 wp K rr (.slice a1 n1 c1)) K' rr (.slice a2 n2 c2)).heap := h4.heap
    have h4' : Sim w4 (put3 (put3 wp K rr (.slice a1 n1 c1)) K' rr (.slice a2 n2 c2)) := h4
    have o4 : w4.os = w3.os ∧ w4.output = w3.output := ⟨h4'.outs.1.trans ((put3_outs _ _ _ _).1.trans ((put3_outs _ _ _ _).1.trans hp.out.outs.1)), h4'.outs.2.trans ((put3_outs _ _ _ _).2.trans ((put3_outs _ _ _ _).2.trans hp.out.outs.2))⟩
    clear h4
    have h4 := h4'
    clear h4'
    have ek : w4.heap[K]? = some (.cells #[.bool rr.ok, .int .i64 rr.n, .slice a1 n1 c1] 42 (0, 0)) := by rw [e4, put3_off hne]; exact putA_at gk.out rfl rr _
    have ek' : w4.heap[K']? = some (.cells #[.bool rr.ok, .int .i64 rr.n, .slice a2 n2 c2] 42 (0, 0)) := by rw [e4]; exact putA_at gp.out rfl rr _
    have oth : ∀ b, b ≠ K → b ≠ K' → w4.heap[b]? = w3.heap[b]? := fun b h1 h2 => by rw [e4, put3_off h2, put3_off h1, hp.out.heap]
    have sz : w4.heap.size = w3.heap.size := by rw [e4, put3_size, put3_size, hp.out.heap]
    have nty : ∀ b cc t, w3.heap[b]? = some (.cells cc t (0, 0)) → t ≠ 42 → b ≠ K ∧ b ≠ K' := fun b cc t hb ht => by
      refine ⟨fun z => ?_, fun z => ?_⟩
      · rw [z, hK1.at_] at hb
        simp only [ansO, Option.some.injEq, Obj.cells.injEq] at hb
        exact ht hb.2.1.symm
      · rw [z, hK1'.at_] at hb
        simp only [ansO, Option.some.injEq, Obj.cells.injEq] at hb
        exact ht hb.2.1.symm
    have kr : ∀ {v : Value} {n : Nat} {xs : List Value}, w3.ownsRow 0 2 1 v n xs → w4.ownsRow 0 2 1 v n xs := fun hr => ownsRow_keep hr fun g ob hg hh => by
      obtain ⟨cc, hcc⟩ := ownsRow_type hr hg
      obtain ⟨h1, h2⟩ := nty g cc 2 hcc (by decide)
      exact (oth g h1 h2).trans hh
    have hopN := nty N _ 45 hop.at_ (by decide)
    clear h4 hp gk gk' gp k0 k1 k2 k3 k4 k5 f0 f1 f2 f3 f4 f5
    refine x_regionEnd rm_xc ?_
    rw [a5_of _ rfl]
    refine hret.out _ oz3 ow3 w4 K K' _ _ ?xs ?x9 ?x10 hne ⟨hns.z.keep (by omega) fun b hb h0 => oth b (fun q => h0 (q ▸ hK1.z)) (fun q => h0 (q ▸ hK1'.z)), hns.wt.keep (by omega) fun b hb h0 => oth b (fun q => h0 (q ▸ hK1.wt)) (fun q => h0 (q ▸ hK1'.wt)), hns.dis, hns.l.trans' (by omega) o4 (fun b hb => oth b (by omega) (by omega)), hns.oz0, hns.ow0⟩ ⟨hop.z, hop.wt, (oth N hopN.1 hopN.2).trans hop.at_⟩ ⟨hK1.z, hK1.wt, ek⟩ ⟨hK1'.z, hK1'.wt, ek'⟩ (intsAt_row (kr r1)) (intsAt_row (kr r2))
    case x9 => rfl
    case x10 => rfl
    case xs =>
      intro j hj
      rcases j with _ | _ | _ | _ | _ | _ | _ | _ | _ | j <;> first | (exact hxs.out _ (by decide)) | omega
  case ist =>
    rintro listed i hi8 hir a w3 r ⟨x, oz3, ow3, rfl, hI⟩ hnext
    obtain ⟨hun, op, hop, hdep⟩ := mem_ready.1 hir
    have x4 : x 4 = gpv gz := (hI.xs 4 (by decide)).trans z4
    have x5 : x 5 = gpv gw := (hI.xs 5 (by decide)).trans z5
    have x8 : x 8 = .pointer (some ⟨N, 0, none⟩) := (hI.xs 8 (by decide)).trans z8
    have hop3 := hI.op.at_
    have hcase : i = 0 ∨ i = 1 ∨ i = 2 ∨ i = 3 ∨ i = 4 ∨ i = 5 ∨ i = 6 ∨ i = 7 := by omega
    rcases hcase with rfl | rfl | rfl | rfl | rfl | rfl | rfl | rfl
    · -- 0
      refine rm_op1 rfl rfl (by decide) (calm0 (l := [_]) (by kernel_rfl) _ (List.mem_singleton.2 rfl)) (v := gpv gz) (fun wp hp => by
        unfold A5
        try unfold gpv opV at *
        first | (go_simp; done) | (go_simp; with_reducible rfl) | (go_simp; rfl)) ?_
      exact hnext (A5 (upd x 35 (gpv gz))) w3 ⟨_, oz3, ow3, rfl, hI.put (i := 0) (by omega) rfl⟩
    · -- 1
      refine rm_op1 rfl rfl (by decide) (calm0 (l := [_]) (by kernel_rfl) _ (List.mem_singleton.2 rfl)) (v := opV o) (fun wp hp => by
        have g := (congrArg (·[N]?) hp.heap).trans hop3
        have k0 := cellAt g 0
        have k1 := cellAt g 1
        have k2 := cellAt g 2
        have k3 := cellAt g 3
        simp only [List.getElem?_toArray, List.getElem?_cons_zero, List.getElem?_cons_succ] at k0 k1 k2 k3
        unfold A5
        try unfold gpv opV at *
        first | (go_simp; done) | (go_simp; with_reducible rfl) | (go_simp; rfl)) ?_
      exact hnext (A5 (upd x 36 (opV o))) w3 ⟨_, oz3, ow3, rfl, hI.put (i := 1) (by omega) rfl⟩
    · -- 2
      have hop' := Option.some.inj hop
      subst hop'
      have d0 : listed.getD 0 false = true := hdep ⟨0, .data⟩ (by simp) rfl
      have d1 : listed.getD 1 false = true := hdep ⟨1, .data⟩ (by simp) rfl
      have t0 : x 35 = gpv gz := hI.tab 0 _ rfl d0
      have t1 : x 36 = opV o := hI.tab 1 _ rfl d1
      have hno : listed.getD 2 false = false := getD_both hun
      obtain ⟨hsz, _⟩ := getD_listed hun
      have hself : (listed.setIfInBounds 2 true).getD 2 false = true := by simp [Array.getD, hsz]
      have hg := hI.ns.z
      rw [hno, if_neg (by decide)] at hg
      refine x_callF rm_xc rfl rfl (by decide) rfl Try.func21 (by kernel_rfl) (by kernel_rfl) ?_
      unfold A5
      simp only [t0, t1]
      walk_nrm
      refine call_runs hg ho fun oz4 w4 v G4 L4 hrow hnew => ?_
      rw [Frame.finish_at]
      walk_nrm
      rw [← t0, ← t1]
      have hns := hI.ns.stepZ G4 L4
      have hk : ∀ b, b < w3.heap.size → oz3 b = .out → ow3 b = .out → (oz4 b = .out ∧ ow3 b = .out) ∧ w4.heap[b]? = w3.heap[b]? := fun b hb h1 h2 => ⟨⟨(L4.same b hb h1).1, h2⟩, (L4.same b hb h1).2⟩
      refine hnext (A5 (upd x 37 (ansV (callR s o).1 v))) w4 ⟨_, oz4, ow3, rfl, fun j hj => by rw [upd_ne _ _ (by omega)]; exact hI.xs j hj, hI.tab.put (i := 2) (.inr rfl), ?_, hI.op.keep hk, fun _ => ⟨v, upd_same _ _ _, hrow.row, fun b hb => ⟨hrow.mine b hb, (hnew b hb).elim (fun q => hI.ns.wt.new b q) fun q => (hI.ns.dis b).resolve_left q⟩⟩, fun q => by rw [upd_ne _ _ (by decide)]; exact (hI.c5 (by rwa [getD_set_other (by decide)] at q)).keep hk, fun q => ?_, fun q => ?_, fun q1 q2 => ?_⟩
      · rw [hself, if_pos rfl, getD_set_other (by decide)]
        exact hns
      · rw [upd_ne _ _ (by decide)]
        exact (hI.c6 (by rwa [getD_set_other (by decide)] at q)).imp fun K ⟨e, e1, e2⟩ => ⟨e, e1, e2.keep hk⟩
      · rw [upd_ne _ _ (by decide)]
        exact (hI.c7 (by rwa [getD_set_other (by decide)] at q)).imp fun K ⟨e, e1, e2⟩ => ⟨e, e1, e2.keep hk⟩
      · rw [upd_ne _ _ (by decide), upd_ne _ _ (by decide)]
        exact hI.c67 (by rwa [getD_set_other (by decide)] at q1) (by rwa [getD_set_other (by decide)] at q2)
    · -- 3
      refine rm_op1 rfl rfl (by decide) (calm0 (l := [_]) (by kernel_rfl) _ (List.mem_singleton.2 rfl)) (v := gpv gw) (fun wp hp => by
        unfold A5
        try unfold gpv opV at *
        first | (go_simp; done) | (go_simp; with_reducible rfl) | (go_simp; rfl)) ?_
      exact hnext (A5 (upd x 38 (gpv gw))) w3 ⟨_, oz3, ow3, rfl, hI.put (i := 3) (by omega) rfl⟩
    · -- 4
      refine rm_op1 rfl rfl (by decide) (calm0 (l := [_]) (by kernel_rfl) _ (List.mem_singleton.2 rfl)) (v := opV o) (fun wp hp => by
        have g := (congrArg (·[N]?) hp.heap).trans hop3
        have k0 := cellAt g 0
        have k1 := cellAt g 1
        have k2 := cellAt g 2
        have k3 := cellAt g 3
        simp only [List.getElem?_toArray, List.getElem?_cons_zero, List.getElem?_cons_succ] at k0 k1 k2 k3
        unfold A5
        try unfold gpv opV at *
        first | (go_simp; done) | (go_simp; with_reducible rfl) | (go_simp; rfl)) ?_
      exact hnext (A5 (upd x 39 (opV o))) w3 ⟨_, oz3, ow3, rfl, hI.put (i := 4) (by omega) rfl⟩
    · -- 5
      have hop' := Option.some.inj hop
      subst hop'
      have d0 : listed.getD 3 false = true := hdep ⟨3, .data⟩ (by simp) rfl
      have d1 : listed.getD 4 false = true := hdep ⟨4, .data⟩ (by simp) rfl
      have t0 : x 38 = gpv gw := hI.tab 3 _ rfl d0
      have t1 : x 39 = opV o := hI.tab 4 _ rfl d1
      have hno : listed.getD 5 false = false := getD_both hun
      obtain ⟨hsz, _⟩ := getD_listed hun
      have hself : (listed.setIfInBounds 5 true).getD 5 false = true := by simp [Array.getD, hsz]
      have hg := hI.ns.wt
      rw [hno, if_neg (by decide)] at hg
      refine x_callF rm_xc rfl rfl (by decide) rfl Try.func21 (by kernel_rfl) (by kernel_rfl) ?_
      unfold A5
      simp only [t0, t1]
      walk_nrm
      refine call_runs hg ho fun ow4 w4 v G4 L4 hrow hnew => ?_
      rw [Frame.finish_at]
      walk_nrm
      rw [← t0, ← t1]
      have hns := hI.ns.stepW G4 L4
      have hk : ∀ b, b < w3.heap.size → oz3 b = .out → ow3 b = .out → (oz3 b = .out ∧ ow4 b = .out) ∧ w4.heap[b]? = w3.heap[b]? := fun b hb h1 h2 => ⟨⟨h1, (L4.same b hb h2).1⟩, (L4.same b hb h2).2⟩
      refine hnext (A5 (upd x 40 (ansV (callR s o).1 v))) w4 ⟨_, oz3, ow4, rfl, fun j hj => by rw [upd_ne _ _ (by omega)]; exact hI.xs j hj, hI.tab.put (i := 5) (.inr rfl), ?_, hI.op.keep hk, fun q => by rw [upd_ne _ _ (by decide)]; exact (hI.c2 (by rwa [getD_set_other (by decide)] at q)).keep hk, fun _ => ⟨v, upd_same _ _ _, hrow.row, fun b hb => ⟨(hnew b hb).elim (fun q => hI.ns.z.new b q) fun q => (hI.ns.dis b).resolve_right q, hrow.mine b hb⟩⟩, fun q => ?_, fun q => ?_, fun q1 q2 => ?_⟩
      · rw [hself, if_pos rfl, getD_set_other (by decide)]
        exact hns
      · rw [upd_ne _ _ (by decide)]
        exact (hI.c6 (by rwa [getD_set_other (by decide)] at q)).imp fun K ⟨e, e1, e2⟩ => ⟨e, e1, e2.keep hk⟩
      · rw [upd_ne _ _ (by decide)]
        exact (hI.c7 (by rwa [getD_set_other (by decide)] at q)).imp fun K ⟨e, e1, e2⟩ => ⟨e, e1, e2.keep hk⟩
      · rw [upd_ne _ _ (by decide), upd_ne _ _ (by decide)]
        exact hI.c67 (by rwa [getD_set_other (by decide)] at q1) (by rwa [getD_set_other (by decide)] at q2)
    · -- 6
      clear x4 x5 x8 hop3
      refine rm_pre (rest := r) (by decide) [6] [_] rfl (calm0 (by kernel_rfl)) fun wp hp => ?_
      have hsz : wp.heap.size = w3.heap.size := by rw [hp.heap]
      replace hp := Lib.hid hp
      replace hsz := Lib.hid hsz
      unfold A5
      go_wp2_with fail
      refine rm_after rfl fun w4 h4 => ?_
      have L4 : LeftW w3 w4 := ((LeftW.of_sim hp.out.heap hp.out.outs).alloc _).sim h4
      have hnew : w4.heap[w3.heap.size]? = some ansO := by rw [h4.heap, ← hsz.out]; exact heap_alloc_new _ _
      rw [hsz.out]
      have hk : ∀ b, b < w3.heap.size → oz3 b = .out → ow3 b = .out → (oz3 b = .out ∧ ow3 b = .out) ∧ w4.heap[b]? = w3.heap[b]? := fun b hb h1 h2 => ⟨⟨h1, h2⟩, L4.same b hb⟩
      have hns := hI.ns.left L4
      clear h4 hp hsz wp
      refine hnext (A5 (upd x 9 (.pointer (some ⟨w3.heap.size, 0, none⟩)))) w4 ⟨_, oz3, ow3, rfl, fun j hj => by rw [upd_ne _ _ (by omega)]; exact hI.xs j hj, fun j u hj hl => ?_, ?_, hI.op.keep hk, fun q => by rw [upd_ne _ _ (by decide)]; exact (hI.c2 (by rwa [getD_set_other (by decide)] at q)).keep hk, fun q => by rw [upd_ne _ _ (by decide)]; exact (hI.c5 (by rwa [getD_set_other (by decide)] at q)).keep hk, fun _ => ⟨w3.heap.size, upd_same _ _ _, hI.ns.l.size, hI.ns.z.new _ (Nat.le_refl _), hI.ns.wt.new _ (Nat.le_refl _), hnew⟩, fun q => by rw [upd_ne _ _ (by decide)]; exact (hI.c7 (by rwa [getD_set_other (by decide)] at q)).imp fun K ⟨e, e1, e2⟩ => ⟨e, e1, e2.keep hk⟩, fun q1 q2 => ?_⟩
      · have hji : j ≠ 6 := fun z => by rw [z] at hj; cases hj
        rw [getD_set_other hji] at hl
        rw [upd_ne _ _ (by omega)]
        exact hI.tab j u hj hl
      · rw [getD_set_other (by decide), getD_set_other (by decide)]
        exact hns
      · obtain ⟨K, e, _, hb⟩ := hI.c7 (by rwa [getD_set_other (by decide)] at q2)
        have hlt := (Array.getElem?_eq_some_iff.1 hb.at_).1
        intro q
        rw [upd_same, upd_ne _ _ (by decide), e] at q
        simp only [Value.pointer.injEq, Option.some.injEq, Addr.mk.injEq] at q
        omega
    · -- 7
      clear x4 x5 x8 hop3
      refine rm_pre (rest := r) (by decide) [7] [_] rfl (calm0 (by kernel_rfl)) fun wp hp => ?_
      have hsz : wp.heap.size = w3.heap.size := by rw [hp.heap]
      replace hp := Lib.hid hp
      replace hsz := Lib.hid hsz
      unfold A5
      go_wp2_with fail
      refine rm_after rfl fun w4 h4 => ?_
      have L4 : LeftW w3 w4 := ((LeftW.of_sim hp.out.heap hp.out.outs).alloc _).sim h4
      have hnew : w4.heap[w3.heap.size]? = some ansO := by rw [h4.heap, ← hsz.out]; exact heap_alloc_new _ _
      rw [hsz.out]
      have hk : ∀ b, b < w3.heap.size → oz3 b = .out → ow3 b = .out → (oz3 b = .out ∧ ow3 b = .out) ∧ w4.heap[b]? = w3.heap[b]? := fun b hb h1 h2 => ⟨⟨h1, h2⟩, L4.same b hb⟩
      have hns := hI.ns.left L4
      clear h4 hp hsz wp
      refine hnext (A5 (upd x 10 (.pointer (some ⟨w3.heap.size, 0, none⟩)))) w4 ⟨_, oz3, ow3, rfl, fun j hj => by rw [upd_ne _ _ (by omega)]; exact hI.xs j hj, fun j u hj hl => ?_, ?_, hI.op.keep hk, fun q => by rw [upd_ne _ _ (by decide)]; exact (hI.c2 (by rwa [getD_set_other (by decide)] at q)).keep hk, fun q => by rw [upd_ne _ _ (by decide)]; exact (hI.c5 (by rwa [getD_set_other (by decide)] at q)).keep hk, fun q => by rw [upd_ne _ _ (by decide)]; exact (hI.c6 (by rwa [getD_set_other (by decide)] at q)).imp fun K ⟨e, e1, e2⟩ => ⟨e, e1, e2.keep hk⟩, fun _ => ⟨w3.heap.size, upd_same _ _ _, hI.ns.l.size, hI.ns.z.new _ (Nat.le_refl _), hI.ns.wt.new _ (Nat.le_refl _), hnew⟩, fun q1 q2 => ?_⟩
      · have hji : j ≠ 7 := fun z => by rw [z] at hj; cases hj
        rw [getD_set_other hji] at hl
        rw [upd_ne _ _ (by omega)]
        exact hI.tab j u hj hl
      · rw [getD_set_other (by decide), getD_set_other (by decide)]
        exact hns
      · obtain ⟨K, e, _, hb⟩ := hI.c6 (by rwa [getD_set_other (by decide)] at q1)
        have hlt := (Array.getElem?_eq_some_iff.1 hb.at_).1
        intro q
        rw [upd_same, upd_ne _ _ (by decide), e] at q
        simp only [Value.pointer.injEq, Option.some.injEq, Addr.mk.injEq] at q
        omega
end
end Go.Proofs.Ytofacoojpgkbiaa

/-
  GateNone: what two gates are compared by. No condition of its own.
-/
namespace Go.Proofs.Ytofacoojpgkbiaa
open Go.Conc Go.RowKit
open Go.ConcN (upd upd_ne upd_same)
set_option maxRecDepth 100000
theorem prgS : Prg true Try.prog (· ∈ [22, 23, 24, 26, 83, 84, 87]) := prg_of ext_ok (by kernel_rfl) (by kernel_rfl) (by kernel_rfl)
structure RowA (oz ow : Nat → Owner) (w : World) (v : Value) (l : List Int) : Prop where
  row : w.ownsRow 0 2 1 v l.length (intsV l)
  mine : ∀ b, v.ownBlock = some b → oz b = .out ∧ ow b = .out
theorem RowA.keep {oz ow oz' ow' : Nat → Owner} {w w' : World} {v : Value} {l : List Int} (h : RowA oz ow w v l) (hk : ∀ b, b < w.heap.size → oz b = .out → ow b = .out → (oz' b = .out ∧ ow' b = .out) ∧ w'.heap[b]? = w.heap[b]?) : RowA oz' ow' w' v l :=
  ⟨ownsRow_keep h.row fun g ob hg hh => by
    obtain ⟨h1, h2⟩ := h.mine g hg
    exact (hk g (ownsRow_lt h.row hg).2 h1 h2).2.trans hh, fun b hg => by
    obtain ⟨h1, h2⟩ := h.mine b hg
    exact (hk b (ownsRow_lt h.row hg).2 h1 h2).1⟩
theorem rowA_new {oz ow : Nat → Owner} {w : World} {v : Value} {l : List Int} {N : Nat} (h : w.ownsRow N 2 1 v l.length (intsV l)) (hz : ∀ b, N ≤ b → oz b = .out) (hw : ∀ b, N ≤ b → ow b = .out) : RowA oz ow w v l :=
  ⟨⟨h.1, h.2.imp id fun ⟨g, cap, cur, e, q1, q2⟩ => ⟨g, cap, cur, e, Nat.zero_le _, q2⟩⟩, fun b hb => ⟨hz b (ownsRow_lt h hb).1, hw b (ownsRow_lt h hb).1⟩⟩
theorem leftW_below {w w' : World} (h : Below w.heap.size w w') : LeftW w w' := ⟨fun b hb => h.block b hb, h.size, h.os, h.output⟩
theorem leftW_re {w w' : World} (τ : Nat → Question → Nat) (d : Nat) (h : LeftW w w') : LeftW w (re τ d w') := ⟨h.same, h.size, h.outs⟩
theorem leftW_reL {w w' : World} {τ : Nat → Question → Nat} {d : Nat} (h : LeftW (re τ d w) w') : LeftW w w' := ⟨h.same, h.size, h.outs⟩
theorem ansIn_one {w : World} {M : Nat} {r : Ans} {u : Value} {t : TypeId} (h : w.heap[M]? = some (.cells #[.bool r.ok, .int .i64 r.n, u] t (0, 0))) (hi : IntsAt w u r.l) : AnsIn w (.slice (some ⟨M, 0, none⟩) 1 1) [r] :=
  ⟨_, _, rfl, fun _ => ⟨M, 0, rfl, fun j x hj => by
    rcases j with _ | j
    · obtain rfl : r = x := by simpa using hj
      exact ⟨cellAt h 0, cellAt h 1, u, cellAt h 2, hi⟩
    · simp at hj⟩⟩
section
variable {Z : Machine → Trace → Prop} {c : Frame} {cs : List Frame} {w : World}
theorem sameA_runs {a b : Value} {l : List Ans} (hll : ∀ r ∈ l, r.l.length ≤ 1000000000) (ha : AnsIn w a l) (hb : AnsIn w b l) (hl : l.length ≤ 1000000000) (h : ∀ w', LeftW w w' → RM Try.prog Z (G (c.finish (.bool true)) cs) w') : RM Try.prog Z (G (Frame.enter Try.prog 22 #[a, b] .normal) (c :: cs)) w :=
  rm_enter prgS (f := 22) (by simp) (R := fun v w' => v = .bool true ∧ LeftW w w') (fun v w' τ d hx => ⟨hx.1, leftW_re τ d hx.2⟩)
    (fun τ d => (sameA_walk (w := re τ d w) hll (AnsIn.keep (w := w) (w' := re τ d w) (fun _ _ => rfl) ha) (AnsIn.keep (w := w) (w' := re τ d w) (fun _ _ => rfl) hb) hl).mono fun e w' ⟨he, hb⟩ => ⟨_, he, rfl, leftW_reL (leftW_below hb)⟩)
    fun v w' ⟨e, L⟩ => by subst e; exact h w' L
theorem sameN_runs {a b : Value} {l : List Int} (ha : IntsAt w a l) (hb : IntsAt w b l) (hl : l.length ≤ 1000000000) (h : ∀ w', LeftW w w' → RM Try.prog Z (G (c.finish (.bool true)) cs) w') : RM Try.prog Z (G (Frame.enter Try.prog 23 #[a, b] .normal) (c :: cs)) w :=
  rm_enter prgS (f := 23) (by simp) (R := fun v w' => v = .bool true ∧ LeftW w w') (fun v w' τ d hx => ⟨hx.1, leftW_re τ d hx.2⟩)
    (fun τ d => (sameN_walk (w := re τ d w) (IntsAt.mono (w := w) (w' := re τ d w) ha (fun _ _ => rfl)) (IntsAt.mono (w := w) (w' := re τ d w) hb (fun _ _ => rfl)) hl).mono fun e w' ⟨he, hb⟩ => ⟨_, he, rfl, leftW_reL (leftW_below hb)⟩)
    fun v w' ⟨e, L⟩ => by subst e; exact h w' L
theorem wide_runs {v : Value} {l : List Int} (hv : IntsAt w v l) (hl : l.length ≤ 1000000) (h : ∀ v' w', LeftW w w' → w'.ownsRow w.heap.size 2 1 v' l.length (intsV l) → RM Try.prog Z (G (c.finish v') cs) w') : RM Try.prog Z (G (Frame.enter Try.prog 24 #[v] .normal) (c :: cs)) w :=
  rm_enter prgS (f := 24) (by simp) (R := fun v w' => w'.ownsRow w.heap.size 2 1 v l.length (intsV l) ∧ LeftW w w') (fun v w' τ d hx => ⟨hx.1, leftW_re τ d hx.2⟩)
    (fun τ d => (wide_walk (re τ d w) (IntsAt.mono (w := w) (w' := re τ d w) hv (fun _ _ => rfl)) hl).mono fun e w' ⟨v', he, hr, hb⟩ => ⟨v', he, hr, leftW_reL (leftW_below hb)⟩)
    fun v' w' ⟨hr, L⟩ => h v' w' L hr
theorem numbers_runs {gb : Nat} {s : GateS} {own : Nat → Owner} (G0 : GW gb s own w) (h : ∀ v' w', LeftW w w' → w'.ownsRow w.heap.size 2 1 v' (numsL s.num 64).length (intsV (numsL s.num 64)) → RM Try.prog Z (G (c.finish v') cs) w') : RM Try.prog Z (G (Frame.enter Try.prog 26 #[gpv gb] .normal) (c :: cs)) w := by
  obtain ⟨p, cc, c1, c2, c3, c4, c5⟩ := G0.rep.cell
  have hlt := (Array.getElem?_eq_some_iff.1 c1).1
  exact rm_enter prgS (f := 26) (by simp) (R := fun v w' => w'.ownsRow w.heap.size 2 1 v (numsL s.num 64).length (intsV (numsL s.num 64)) ∧ LeftW w w') (fun v w' τ d hx => ⟨hx.1, leftW_re τ d hx.2⟩)
    (fun τ d => (numbers_walk (num := s.num) (re τ d w) hlt fun j hj => (cellAt (w := re τ d w) c1 _).trans (c4 j hj)).mono fun e w' ⟨v', he, hr, hb⟩ => ⟨v', he, hr, leftW_reL (leftW_below hb)⟩)
    fun v' w' ⟨hr, L⟩ => h v' w' L hr
end
end Go.Proofs.Ytofacoojpgkbiaa

/-
  GateNone: the zero gate and the other one are compared (region 15). No condition of its own.
-/
namespace Go.Proofs.Ytofacoojpgkbiaa
open Go.Conc Go.RowKit
open Go.ConcN (upd upd_ne upd_same)
set_option maxRecDepth 100000
noncomputable def cmp15 : Code := cA (cB (cB body3))
noncomputable def rest17 : Code := cB (cB (cB body3))
theorem slice_ints {w : World} {v : Value} {l : List Int} (h : IntsAt w v l) : ∃ a c, v = .slice a l.length c := by obtain ⟨a, c, e, _⟩ := h; exact ⟨a, c, e⟩
theorem slice_row {w : World} {N : Nat} {v : Value} {n : Nat} {l : List Value} {t : TypeId} {z : Nat} (h : w.ownsRow N t z v n l) : ∃ a k c, v = .slice a k c := by rcases h.2 with ⟨e, _⟩ | ⟨g', cap, cur, e, _⟩ <;> exact ⟨_, _, _, e⟩
theorem hk_left {oz ow : Nat → Owner} {w w' : World} (L : LeftW w w') : ∀ b, b < w.heap.size → oz b = .out → ow b = .out → (oz b = .out ∧ ow b = .out) ∧ w'.heap[b]? = w.heap[b]? := fun b hb h1 h2 => ⟨⟨h1, h2⟩, L.same b hb⟩
theorem hk_Z {oz ow o2 : Nat → Owner} {w w' : World} (L : Left oz o2 w w') : ∀ b, b < w.heap.size → oz b = .out → ow b = .out → (o2 b = .out ∧ ow b = .out) ∧ w'.heap[b]? = w.heap[b]? := fun b hb h1 h2 => ⟨⟨(L.same b hb h1).1, h2⟩, (L.same b hb h1).2⟩
theorem hk_W {oz ow o2 : Nat → Owner} {w w' : World} (L : Left ow o2 w w') : ∀ b, b < w.heap.size → oz b = .out → ow b = .out → (oz b = .out ∧ o2 b = .out) ∧ w'.heap[b]? = w.heap[b]? := fun b hb h1 h2 => ⟨⟨h1, (L.same b hb h2).1⟩, (L.same b hb h2).2⟩
theorem alloc2W {w W : World} {a b : Obj} {N : Nat} (hN : w.heap.size = N) (h : W.heap = ((w.alloc a).alloc b).heap) : W.heap[N]? = some a ∧ W.heap[N + 1]? = some b := by
  subst hN
  have s1 : (w.alloc a).heap.size = w.heap.size + 1 := by simp
  rw [h]
  refine ⟨?_, ?_⟩
  · rw [Below.heap_alloc _ _ _ (by omega)]
    exact heap_alloc_new _ _
  · rw [← s1]
    exact heap_alloc_new _ _
section
variable {Z : Machine → Trace → Prop} {c : Frame} {cs : List Frame} {w0 w : World} {gz gw N K K' : Nat} {s : GateS} {o : OpD} {r : Ans} {u1 u2 : Value} {z : Nat → Value} {oz ow : Nat → Owner} {R : List Item}
set_option maxHeartbeats 4000000 in
theorem cmp15_runs (z4 : z 4 = gpv gz) (z5 : z 5 = gpv gw) (z9 : z 9 = .pointer (some ⟨K, 0, none⟩)) (z10 : z 10 = .pointer (some ⟨K', 0, none⟩)) (I : NS w0 gz gw s s oz ow w) (hN : BlkAt oz ow w N (opO o))
    (hK : BlkAt oz ow w K (.cells #[.bool r.ok, .int .i64 r.n, u1] 42 (0, 0))) (hK' : BlkAt oz ow w K' (.cells #[.bool r.ok, .int .i64 r.n, u2] 42 (0, 0))) (i1 : IntsAt w u1 r.l) (i2 : IntsAt w u2 r.l) (hr : r.l.length ≤ 1000000000)
    (hret : ∀ x oz ow w', (∀ j, j < 9 → x j = z j) → NS w0 gz gw s s oz ow w' → BlkAt oz ow w' N (opO o) → RM Try.prog Z (G ((base 5).at (A5 x) R) cs) w') :
    RM Try.prog Z (G ((base 5).at (A5 z) (.code cmp15 :: R)) cs) w := by
  have hxs : Hid (∀ x : Nat → Value, (∀ j, j < 9 → x j = z j) → ∀ oz ow w', NS w0 gz gw s s oz ow w' → BlkAt oz ow w' N (opO o) → RM Try.prog Z (G ((base 5).at (A5 x) R) cs) w') := Lib.hid fun x hx oz ow w' h1 h2 => hret x oz ow w' hx h1 h2
  clear hret
  have hsl := I.z.rep.mem
  have hlen := memOk_len hsl
  have hj1 := i1
  have hj2 := i2
  obtain ⟨a1, c1, rfl⟩ := slice_ints i1
  obtain ⟨a2, c2, rfl⟩ := slice_ints i2
  obtain ⟨n, hn⟩ : ∃ n, r.l.length = n := ⟨_, rfl⟩
  replace hj1 := Lib.hid hj1
  replace hj2 := Lib.hid hj2
  replace hsl := Lib.hid hsl
  clear i1 i2
  rw [hn] at hK hK' hj1 hj2
  replace hn := Lib.hid hn
  rw [show cmp15 = Code.seq (Code.region _ _ _) _ from rfl]
  refine x_seqR rm_xc fun R0 hR0 => ?_
  refine rm_reg 4 (by decide) (by decide) (calm0 (by kernel_rfl)) fun wp hp => ?_
  simp only [List.take_succ_cons, List.take_zero]
  obtain ⟨M, hM⟩ : ∃ M, wp.heap.size = M := ⟨_, rfl⟩
  have gk : wp.heap[K]? = some (.cells #[.bool r.ok, .int .i64 r.n, .slice a1 n c1] 42 (0, 0)) := (congrArg (·[K]?) hp.heap).trans hK.at_
  have gk' : wp.heap[K']? = some (.cells #[.bool r.ok, .int .i64 r.n, .slice a2 n c2] 42 (0, 0)) := (congrArg (·[K']?) hp.heap).trans hK'.at_
  have kl : K < wp.heap.size := (Array.getElem?_eq_some_iff.1 gk).1
  have kl' : K' < wp.heap.size := (Array.getElem?_eq_some_iff.1 gk').1
  have k0 := cellAt gk 0
  have k1 := cellAt gk 1
  have k2 := cellAt gk 2
  have ga : (wp.alloc (.cells #[.bool r.ok, .int .i64 r.n, .slice a1 n c1] 42)).heap[K']? = some (.cells #[.bool r.ok, .int .i64 r.n, .slice a2 n c2] 42 (0, 0)) := (Below.heap_alloc _ _ _ kl').trans gk'
  have k3 := cellAt ga 0
  have k4 := cellAt ga 1
  have k5 := cellAt ga 2
  simp only [List.getElem?_toArray, List.getElem?_cons_zero, List.getElem?_cons_succ] at k0 k1 k2 k3 k4 k5
  replace gk := Lib.hid gk
  replace gk' := Lib.hid gk'
  replace ga := Lib.hid ga
  replace kl := Lib.hid kl
  replace kl' := Lib.hid kl'
  replace hM := Lib.hid hM
  unfold A5
  simp only [z4, z5, z9, z10]
  unfold gpv
  replace hp := Lib.hid hp
  go_wp2_with fail
  refine rm_after rfl fun w1 h1 => ?_
  have L := ((LeftW.of_sim hp.out.heap hp.out.outs).alloc (.cells #[.bool r.ok, .int .i64 r.n, .slice a1 n c1] 42)).alloc (.cells #[.bool r.ok, .int .i64 r.n, .slice a2 n c2] 42) |>.sim h1
  obtain ⟨b1, b2⟩ := alloc2W hM.out h1.heap
  have hMM := hM.out
  rw [hMM]
  have j1 : IntsAt w1 (.slice a1 n c1) r.l := hj1.out.mono L.same
  have j2 : IntsAt w1 (.slice a2 n c2) r.l := hj2.out.mono L.same
  clear h1 hMM hM kl kl' ga gk gk' k0 k1 k2 k3 k4 k5 hK hK' hj1 hj2
  clear hp wp
  refine x_callF rm_xc rfl rfl (by decide) rfl Try.func22 (by kernel_rfl) (by kernel_rfl) ?_
  walk_nrm
  refine sameA_runs (l := [r]) (fun q hq => by have h := List.mem_singleton.1 hq; rw [h]; exact hr) (ansIn_one b1 j1) (ansIn_one b2 j2) (by simp) fun w2 L2 => ?_
  replace I := I.left (L.trans L2)
  replace hN := hN.keep (hk_left (L.trans L2))
  clear b1 b2 j1 j2 L L2 w1
  rw [Frame.finish_at]
  walk_nrm
  refine rm_more 5 3 (by decide) (by decide) (calm0 (by kernel_rfl)) fun wp hp => ?_
  simp only [List.drop_succ_cons, List.drop_zero, List.take_succ_cons, List.take_zero]
  replace hp := Lib.hid hp
  go_wp2_with fail
  refine rm_after rfl fun w3 h1 => ?_
  have L := (LeftW.of_sim hp.out.heap hp.out.outs).sim h1
  clear h1 hp wp
  replace I := I.left L
  replace hN := hN.keep (hk_left L)
  clear L
  refine x_callF rm_xc rfl rfl (by decide) rfl Try.func26 (by kernel_rfl) (by kernel_rfl) ?_
  walk_nrm
  try rw [show Value.pointer (some ⟨gz, 0, none⟩) = gpv gz from rfl]
  refine numbers_runs I.z fun v1 w4 L hr1 => ?_
  have r1 := rowA_new hr1 I.z.new I.wt.new
  have hv1 := slice_row hr1
  replace I := I.left L
  replace hN := hN.keep (hk_left L)
  clear L hr1
  rw [Frame.finish_at]
  walk_nrm
  refine rm_more 9 1 (by decide) (by decide) (calm0 (by kernel_rfl)) fun wp hp => ?_
  simp only [List.drop_succ_cons, List.drop_zero, List.take_succ_cons, List.take_zero]
  obtain ⟨x1, x2, x3, rfl⟩ := slice_row r1.row
  replace r1 := Lib.hid r1
  replace hp := Lib.hid hp
  go_wp2_with fail
  refine rm_after rfl fun w5 h1 => ?_
  have L := (LeftW.of_sim hp.out.heap hp.out.outs).sim h1
  clear h1 hp wp
  replace I := I.left L
  replace hN := hN.keep (hk_left L)
  replace r1 := Lib.hid (r1.out.keep (hk_left L))
  clear L
  refine x_callF rm_xc rfl rfl (by decide) rfl Try.func26 (by kernel_rfl) (by kernel_rfl) ?_
  walk_nrm
  try rw [show Value.pointer (some ⟨gw, 0, none⟩) = gpv gw from rfl]
  refine numbers_runs I.wt fun v2 w6 L hr2 => ?_
  have r2 := rowA_new hr2 I.z.new I.wt.new
  have hv2 := slice_row hr2
  replace I := I.left L
  replace hN := hN.keep (hk_left L)
  replace r1 := Lib.hid (r1.out.keep (hk_left L))
  clear L hr2
  rw [Frame.finish_at]
  walk_nrm
  refine x_callF rm_xc rfl rfl (by decide) rfl Try.func23 (by kernel_rfl) (by kernel_rfl) ?_
  walk_nrm
  refine sameN_runs (intsAt_row r1.out.row) (intsAt_row r2.row) (by simp [numsL]) fun w7 L => ?_
  replace I := I.left L
  replace hN := hN.keep (hk_left L)
  clear L r1 r2
  rw [Frame.finish_at]
  walk_nrm
  refine rm_more 12 4 (by decide) (by decide) (calm0 (by kernel_rfl)) fun wp hp => ?_
  simp only [List.drop_succ_cons, List.drop_zero, List.take_succ_cons, List.take_zero]
  obtain ⟨y1, y2, y3, rfl⟩ : ∃ a k c, v2 = .slice a k c := hv2
  replace hp := Lib.hid hp
  go_wp2_with fail
  refine rm_after rfl fun w8 h1 => ?_
  have L := (LeftW.of_sim hp.out.heap hp.out.outs).sim h1
  clear h1 hp wp
  replace I := I.left L
  replace hN := hN.keep (hk_left L)
  clear L
  refine x_callF rm_xc rfl rfl (by decide) rfl Try.func25 (by kernel_rfl) (by kernel_rfl) ?_
  walk_nrm
  try rw [show Value.pointer (some ⟨gz, 0, none⟩) = gpv gz from rfl]
  refine members_runs I.z fun ow9 w9 vm1 G1 L1 m1 hrow => ?_
  have hk := hk_Z (oz := oz) (ow := ow) L1
  replace I := I.stepZ G1 L1
  replace hN := hN.keep hk
  clear hk G1 L1 hrow
  rw [Frame.finish_at]
  walk_nrm
  refine x_callF rm_xc rfl rfl (by decide) rfl Try.func24 (by kernel_rfl) (by kernel_rfl) ?_
  walk_nrm
  refine wide_runs m1 (by omega) fun vr3 w10 L hr3 => ?_
  have r3 := rowA_new hr3 I.z.new I.wt.new
  replace m1 := m1.mono L.same
  replace I := I.left L
  replace hN := hN.keep (hk_left L)
  clear L hr3
  rw [Frame.finish_at]
  walk_nrm
  refine rm_more 18 1 (by decide) (by decide) (calm0 (by kernel_rfl)) fun wp hp => ?_
  simp only [List.drop_succ_cons, List.drop_zero, List.take_succ_cons, List.take_zero]
  obtain ⟨q1, q2, q3, rfl⟩ := slice_ints m1
  obtain ⟨t1, t2, t3, rfl⟩ := slice_row r3.row
  replace r3 := Lib.hid r3
  clear m1
  replace hp := Lib.hid hp
  go_wp2_with fail
  refine rm_after rfl fun w11 h1 => ?_
  have L := (LeftW.of_sim hp.out.heap hp.out.outs).sim h1
  clear h1 hp wp
  replace I := I.left L
  replace hN := hN.keep (hk_left L)
  replace r3 := Lib.hid (r3.out.keep (hk_left L))
  clear L
  refine x_callF rm_xc rfl rfl (by decide) rfl Try.func25 (by kernel_rfl) (by kernel_rfl) ?_
  walk_nrm
  try rw [show Value.pointer (some ⟨gw, 0, none⟩) = gpv gw from rfl]
  refine members_runs I.wt fun ow12 w12 vm2 G1 L1 m2 hrow => ?_
  have hk := hk_W (oz := ow9) (ow := ow) L1
  replace I := I.stepW G1 L1
  replace hN := hN.keep hk
  replace r3 := Lib.hid (r3.out.keep hk)
  clear hk G1 L1 hrow
  rw [Frame.finish_at]
  walk_nrm
  refine x_callF rm_xc rfl rfl (by decide) rfl Try.func24 (by kernel_rfl) (by kernel_rfl) ?_
  walk_nrm
  refine wide_runs m2 (by omega) fun vr4 w13 L hr4 => ?_
  have r4 := rowA_new hr4 I.z.new I.wt.new
  replace m2 := m2.mono L.same
  replace I := I.left L
  replace hN := hN.keep (hk_left L)
  replace r3 := Lib.hid (r3.out.keep (hk_left L))
  clear L hr4
  rw [Frame.finish_at]
  walk_nrm
  refine x_callF rm_xc rfl rfl (by decide) rfl Try.func23 (by kernel_rfl) (by kernel_rfl) ?_
  walk_nrm
  refine sameN_runs (intsAt_row r3.out.row) (intsAt_row r4.row) (by omega) fun w14 L => ?_
  replace I := I.left L
  replace hN := hN.keep (hk_left L)
  obtain ⟨p1, p2, p3, rfl⟩ := slice_ints m2
  obtain ⟨d1, d2, d3, rfl⟩ := slice_row r4.row
  clear L r3 r4 m2
  rw [Frame.finish_at]
  walk_nrm
  refine rm_more 22 2 (by decide) (by decide) (calm0 (by kernel_rfl)) fun wp hp => ?_
  simp only [List.drop_succ_cons, List.drop_zero, List.take_succ_cons, List.take_zero]
  replace hp := Lib.hid hp
  go_wp2_with fail
  refine rm_after rfl fun w15 h1 => ?_
  have L := (LeftW.of_sim hp.out.heap hp.out.outs).sim h1
  clear h1 hp wp
  replace I := I.left L
  replace hN := hN.keep (hk_left L)
  clear L
  refine x_regionEnd rm_xc ?_
  obtain rfl := hR0.out
  clear hR0
  refine x_cond rm_xc (t := false) rfl ?_
  refine x_skip rm_xc ?_
  rw [a5_of _ rfl]
  refine hxs.out _ ?_ _ _ _ I hN
  intro j hj
  rcases j with _ | _ | _ | _ | _ | _ | _ | _ | _ | j <;> first | rfl | exact z4.symm | exact z5.symm | omega
end
end Go.Proofs.Ytofacoojpgkbiaa
