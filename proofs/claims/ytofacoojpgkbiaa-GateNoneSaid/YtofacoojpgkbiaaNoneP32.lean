/-
  Merged out of: Gate29 Gate30. No condition of its own.
-/
import Derived.Test.YtofacoojpgkbiaaNoneP31
set_option linter.unusedVariables false
set_option linter.unusedSimpArgs false
/-
  A nil gate, however one goes on. No condition of its own.
-/
namespace Go.Proofs.Ytofacoojpgkbiaa
open Go.Conc Go.RowKit
open Go.ConcN (upd upd_ne upd_same)
set_option maxRecDepth 100000
theorem refN_cases (p : Int) : refF none p = 1 ∨ refF none p = 6 := by
  unfold refF
  split
  · exact .inl rfl
  · exact .inr (if_pos rfl)
section
variable {S : Type} {md : Md (SM S)} {A : Nat → Prop} {w₀ : W0 (SM S)} {c : Frame} {cs : List Frame}
set_option maxHeartbeats 1000000 in
theorem nil_join (O : md.Ok) {p at_ : Int} {κ : Int → Fu (SM S)} (hret : ∀ e, md.F (κ e) A w₀ (G (c.finish (.int .i64 e)) cs)) :
    md.F (κ (refF none p)) A w₀ (G (Frame.enter Try.prog 73 #[.pointer none, md.sv, .int .i64 p, .int .i64 at_] .normal) (c :: cs)) := by
  intro x own w m C
  rw [enter_at _ Try.func73 rfl]
  simp only [Try.ntmps73, List.size_toArray, List.length_cons, List.length_nil, Nat.reduceAdd, Nat.reduceSub, Array.replicate_succ,
     Array.replicate_zero, List.push_toArray, List.append_toArray, List.nil_append, List.cons_append]
  replace hret := Lib.hid hret
  generalize hmc : κ (refF none p) m = mc
  replace hmc := Lib.hid hmc
  refine x_seqR (O.xc ..) fun R0 hR0 => ?_
  refine O.seg0 C prgG (calmCode_of ext_ok (by kernel_rfl)) rfl (calmRes_of Try.func73) rfl fun wp hp => ?_
  replace hp := Lib.hid hp
  go_wp2_with fail
  refine ⟨hp.out, ?_⟩
  clear hp  wp
  obtain rfl := hR0.out
  clear hR0
  refine x_seqR (O.xc ..) fun R0 hR0 => ?_
  refine x_seqR (O.xc ..) fun R1 hR1 => ?_
  refine O.seg0 C prgG (calmCode_of ext_ok (by kernel_rfl)) rfl (calmRes_of Try.func73) rfl fun wp hp => ?_
  replace hp := Lib.hid hp
  go_wp2_with (go_at_call 88; refine (refused_walk none p wp).mono ?_; rintro e w' ⟨rfl, rfl⟩)
  refine ⟨hp.out, ?_⟩
  clear hp  wp
  obtain rfl := hR1.out
  clear hR1
  refine x_seqR (O.xc ..) fun R1 hR1 => ?_
  rcases refN_cases p with e1 | e1
  · rw [e1] at hmc ⊢
    clear e1
    refine O.seg0 C prgG (calmCode_of ext_ok (by kernel_rfl)) rfl (calmRes_of Try.func73) rfl fun wp hp => ?_
    replace hp := Lib.hid hp
    go_wp2_with fail
    refine ⟨hp.out, ?_⟩
    clear hp  wp
    obtain rfl := hR1.out
    clear hR1
    refine x_cond (O.xc ..) (t := true) rfl ?_
    refine x_seqR (O.xc ..) fun R2 hR2 => ?_
    refine O.seg0 C prgG (calmCode_of ext_ok (by kernel_rfl)) rfl (calmRes_of Try.func73) rfl fun wp hp => ?_
    replace hp := Lib.hid hp
    go_wp2_with fail
    refine ⟨hp.out, ?_⟩
    clear hp  wp
    obtain rfl := hR2.out
    clear hR2
    refine x_ret (O.xc ..) ?_
    refine x_leave (O.xc ..) (calmRes_of Try.func73) (C.st O) ⟨rfl, rfl, rfl, _, Try.func73, results_tmp rfl _ _ _⟩ ?_
    obtain rfl := hmc.out
    exact hret.out 1 _ _ _ _ C
  · rw [e1] at hmc ⊢
    clear e1
    refine O.seg0 C prgG (calmCode_of ext_ok (by kernel_rfl)) rfl (calmRes_of Try.func73) rfl fun wp hp => ?_
    replace hp := Lib.hid hp
    go_wp2_with fail
    refine ⟨hp.out, ?_⟩
    clear hp  wp
    obtain rfl := hR1.out
    clear hR1
    refine x_cond (O.xc ..) (t := true) rfl ?_
    refine x_seqR (O.xc ..) fun R2 hR2 => ?_
    refine O.seg0 C prgG (calmCode_of ext_ok (by kernel_rfl)) rfl (calmRes_of Try.func73) rfl fun wp hp => ?_
    replace hp := Lib.hid hp
    go_wp2_with fail
    refine ⟨hp.out, ?_⟩
    clear hp  wp
    obtain rfl := hR2.out
    clear hR2
    refine x_ret (O.xc ..) ?_
    refine x_leave (O.xc ..) (calmRes_of Try.func73) (C.st O) ⟨rfl, rfl, rfl, _, Try.func73, results_tmp rfl _ _ _⟩ ?_
    obtain rfl := hmc.out
    exact hret.out 6 _ _ _ _ C
set_option maxHeartbeats 1000000 in
theorem nil_leave (O : md.Ok) {p : Int} {κ : Int → Fu (SM S)} (hret : ∀ e, md.F (κ e) A w₀ (G (c.finish (.int .i64 e)) cs)) :
    md.F (κ (refF none p)) A w₀ (G (Frame.enter Try.prog 76 #[.pointer none, md.sv, .int .i64 p] .normal) (c :: cs)) := by
  intro x own w m C
  rw [enter_at _ Try.func76 rfl]
  simp only [Try.ntmps76, List.size_toArray, List.length_cons, List.length_nil, Nat.reduceAdd, Nat.reduceSub, Array.replicate_succ,
     Array.replicate_zero, List.push_toArray, List.append_toArray, List.nil_append, List.cons_append]
  replace hret := Lib.hid hret
  generalize hmc : κ (refF none p) m = mc
  replace hmc := Lib.hid hmc
  refine x_seqR (O.xc ..) fun R0 hR0 => ?_
  refine O.seg0 C prgG (calmCode_of ext_ok (by kernel_rfl)) rfl (calmRes_of Try.func76) rfl fun wp hp => ?_
  replace hp := Lib.hid hp
  go_wp2_with fail
  refine ⟨hp.out, ?_⟩
  clear hp  wp
  obtain rfl := hR0.out
  clear hR0
  refine x_seqR (O.xc ..) fun R0 hR0 => ?_
  refine x_seqR (O.xc ..) fun R1 hR1 => ?_
  refine O.seg0 C prgG (calmCode_of ext_ok (by kernel_rfl)) rfl (calmRes_of Try.func76) rfl fun wp hp => ?_
  replace hp := Lib.hid hp
  go_wp2_with (go_at_call 88; refine (refused_walk none p wp).mono ?_; rintro e w' ⟨rfl, rfl⟩)
  refine ⟨hp.out, ?_⟩
  clear hp  wp
  obtain rfl := hR1.out
  clear hR1
  refine x_seqR (O.xc ..) fun R1 hR1 => ?_
  rcases refN_cases p with e1 | e1
  · rw [e1] at hmc ⊢
    clear e1
    refine O.seg0 C prgG (calmCode_of ext_ok (by kernel_rfl)) rfl (calmRes_of Try.func76) rfl fun wp hp => ?_
    replace hp := Lib.hid hp
    go_wp2_with fail
    refine ⟨hp.out, ?_⟩
    clear hp  wp
    obtain rfl := hR1.out
    clear hR1
    refine x_cond (O.xc ..) (t := true) rfl ?_
    refine x_seqR (O.xc ..) fun R2 hR2 => ?_
    refine O.seg0 C prgG (calmCode_of ext_ok (by kernel_rfl)) rfl (calmRes_of Try.func76) rfl fun wp hp => ?_
    replace hp := Lib.hid hp
    go_wp2_with fail
    refine ⟨hp.out, ?_⟩
    clear hp  wp
    obtain rfl := hR2.out
    clear hR2
    refine x_ret (O.xc ..) ?_
    refine x_leave (O.xc ..) (calmRes_of Try.func76) (C.st O) ⟨rfl, rfl, rfl, _, Try.func76, results_tmp rfl _ _ _⟩ ?_
    obtain rfl := hmc.out
    exact hret.out 1 _ _ _ _ C
  · rw [e1] at hmc ⊢
    clear e1
    refine O.seg0 C prgG (calmCode_of ext_ok (by kernel_rfl)) rfl (calmRes_of Try.func76) rfl fun wp hp => ?_
    replace hp := Lib.hid hp
    go_wp2_with fail
    refine ⟨hp.out, ?_⟩
    clear hp  wp
    obtain rfl := hR1.out
    clear hR1
    refine x_cond (O.xc ..) (t := true) rfl ?_
    refine x_seqR (O.xc ..) fun R2 hR2 => ?_
    refine O.seg0 C prgG (calmCode_of ext_ok (by kernel_rfl)) rfl (calmRes_of Try.func76) rfl fun wp hp => ?_
    replace hp := Lib.hid hp
    go_wp2_with fail
    refine ⟨hp.out, ?_⟩
    clear hp  wp
    obtain rfl := hR2.out
    clear hR2
    refine x_ret (O.xc ..) ?_
    refine x_leave (O.xc ..) (calmRes_of Try.func76) (C.st O) ⟨rfl, rfl, rfl, _, Try.func76, results_tmp rfl _ _ _⟩ ?_
    obtain rfl := hmc.out
    exact hret.out 6 _ _ _ _ C
set_option maxHeartbeats 1000000 in
theorem nil_set (O : md.Ok) {p at_ : Int} {κ : Int → Fu (SM S)} (hret : ∀ e, md.F (κ e) A w₀ (G (c.finish (.int .i64 e)) cs)) :
    md.F (κ (refF none p)) A w₀ (G (Frame.enter Try.prog 27 #[.pointer none, md.sv, .int .i64 p, .int .i64 at_] .normal) (c :: cs)) := by
  intro x own w m C
  rw [enter_at _ Try.func27 rfl]
  simp only [Try.ntmps27, List.size_toArray, List.length_cons, List.length_nil, Nat.reduceAdd, Nat.reduceSub, Array.replicate_succ,
     Array.replicate_zero, List.push_toArray, List.append_toArray, List.nil_append, List.cons_append]
  replace hret := Lib.hid hret
  generalize hmc : κ (refF none p) m = mc
  replace hmc := Lib.hid hmc
  refine x_seqR (O.xc ..) fun R0 hR0 => ?_
  refine O.seg0 C prgG (calmCode_of ext_ok (by kernel_rfl)) rfl (calmRes_of Try.func27) rfl fun wp hp => ?_
  replace hp := Lib.hid hp
  go_wp2_with fail
  refine ⟨hp.out, ?_⟩
  clear hp  wp
  obtain rfl := hR0.out
  clear hR0
  refine x_seqR (O.xc ..) fun R0 hR0 => ?_
  refine x_seqR (O.xc ..) fun R1 hR1 => ?_
  refine O.seg0 C prgG (calmCode_of ext_ok (by kernel_rfl)) rfl (calmRes_of Try.func27) rfl fun wp hp => ?_
  replace hp := Lib.hid hp
  go_wp2_with (go_at_call 88; refine (refused_walk none p wp).mono ?_; rintro e w' ⟨rfl, rfl⟩)
  refine ⟨hp.out, ?_⟩
  clear hp  wp
  obtain rfl := hR1.out
  clear hR1
  refine x_seqR (O.xc ..) fun R1 hR1 => ?_
  rcases refN_cases p with e1 | e1
  · rw [e1] at hmc ⊢
    clear e1
    refine O.seg0 C prgG (calmCode_of ext_ok (by kernel_rfl)) rfl (calmRes_of Try.func27) rfl fun wp hp => ?_
    replace hp := Lib.hid hp
    go_wp2_with fail
    refine ⟨hp.out, ?_⟩
    clear hp  wp
    obtain rfl := hR1.out
    clear hR1
    refine x_cond (O.xc ..) (t := true) rfl ?_
    refine x_seqR (O.xc ..) fun R2 hR2 => ?_
    refine O.seg0 C prgG (calmCode_of ext_ok (by kernel_rfl)) rfl (calmRes_of Try.func27) rfl fun wp hp => ?_
    replace hp := Lib.hid hp
    go_wp2_with fail
    refine ⟨hp.out, ?_⟩
    clear hp  wp
    obtain rfl := hR2.out
    clear hR2
    refine x_ret (O.xc ..) ?_
    refine x_leave (O.xc ..) (calmRes_of Try.func27) (C.st O) ⟨rfl, rfl, rfl, _, Try.func27, results_tmp rfl _ _ _⟩ ?_
    obtain rfl := hmc.out
    exact hret.out 1 _ _ _ _ C
  · rw [e1] at hmc ⊢
    clear e1
    refine O.seg0 C prgG (calmCode_of ext_ok (by kernel_rfl)) rfl (calmRes_of Try.func27) rfl fun wp hp => ?_
    replace hp := Lib.hid hp
    go_wp2_with fail
    refine ⟨hp.out, ?_⟩
    clear hp  wp
    obtain rfl := hR1.out
    clear hR1
    refine x_cond (O.xc ..) (t := true) rfl ?_
    refine x_seqR (O.xc ..) fun R2 hR2 => ?_
    refine O.seg0 C prgG (calmCode_of ext_ok (by kernel_rfl)) rfl (calmRes_of Try.func27) rfl fun wp hp => ?_
    replace hp := Lib.hid hp
    go_wp2_with fail
    refine ⟨hp.out, ?_⟩
    clear hp  wp
    obtain rfl := hR2.out
    clear hR2
    refine x_ret (O.xc ..) ?_
    refine x_leave (O.xc ..) (calmRes_of Try.func27) (C.st O) ⟨rfl, rfl, rfl, _, Try.func27, results_tmp rfl _ _ _⟩ ?_
    obtain rfl := hmc.out
    exact hret.out 6 _ _ _ _ C
set_option maxHeartbeats 1000000 in
theorem nil_get (O : md.Ok) {p : Int} {κ : Int → Int → Fu (SM S)} (hret : ∀ v e, md.F (κ v e) A w₀ (G (c.finish (.tuple #[.int .i64 v, .int .i64 e])) cs)) :
    md.F (κ 0 (refF none p)) A w₀ (G (Frame.enter Try.prog 85 #[.pointer none, md.sv, .int .i64 p] .normal) (c :: cs)) := by
  intro x own w m C
  rw [enter_at _ Try.func85 rfl]
  simp only [Try.ntmps85, List.size_toArray, List.length_cons, List.length_nil, Nat.reduceAdd, Nat.reduceSub, Array.replicate_succ,
     Array.replicate_zero, List.push_toArray, List.append_toArray, List.nil_append, List.cons_append]
  replace hret := Lib.hid hret
  generalize hmc : κ 0 (refF none p) m = mc
  replace hmc := Lib.hid hmc
  refine x_seqR (O.xc ..) fun R0 hR0 => ?_
  refine O.seg0 C prgG (calmCode_of ext_ok (by kernel_rfl)) rfl (calmRes_of Try.func85) rfl fun wp hp => ?_
  replace hp := Lib.hid hp
  go_wp2_with fail
  refine ⟨hp.out, ?_⟩
  clear hp  wp
  obtain rfl := hR0.out
  clear hR0
  refine x_seqR (O.xc ..) fun R0 hR0 => ?_
  refine x_seqR (O.xc ..) fun R1 hR1 => ?_
  refine O.seg0 C prgG (calmCode_of ext_ok (by kernel_rfl)) rfl (calmRes_of Try.func85) rfl fun wp hp => ?_
  replace hp := Lib.hid hp
  go_wp2_with (go_at_call 88; refine (refused_walk none p wp).mono ?_; rintro e w' ⟨rfl, rfl⟩)
  refine ⟨hp.out, ?_⟩
  clear hp  wp
  obtain rfl := hR1.out
  clear hR1
  refine x_seqR (O.xc ..) fun R1 hR1 => ?_
  rcases refN_cases p with e1 | e1
  · rw [e1] at hmc ⊢
    clear e1
    refine O.seg0 C prgG (calmCode_of ext_ok (by kernel_rfl)) rfl (calmRes_of Try.func85) rfl fun wp hp => ?_
    replace hp := Lib.hid hp
    go_wp2_with fail
    refine ⟨hp.out, ?_⟩
    clear hp  wp
    obtain rfl := hR1.out
    clear hR1
    refine x_cond (O.xc ..) (t := true) rfl ?_
    refine x_seqR (O.xc ..) fun R2 hR2 => ?_
    refine O.seg0 C prgG (calmCode_of ext_ok (by kernel_rfl)) rfl (calmRes_of Try.func85) rfl fun wp hp => ?_
    replace hp := Lib.hid hp
    go_wp2_with fail
    refine ⟨hp.out, ?_⟩
    clear hp  wp
    obtain rfl := hR2.out
    clear hR2
    refine x_ret (O.xc ..) ?_
    refine x_leave (O.xc ..) (calmRes_of Try.func85) (C.st O) ⟨rfl, rfl, rfl, _, Try.func85, results_tmp2 rfl _ _ _⟩ ?_
    obtain rfl := hmc.out
    exact hret.out 0 1 _ _ _ _ C
  · rw [e1] at hmc ⊢
    clear e1
    refine O.seg0 C prgG (calmCode_of ext_ok (by kernel_rfl)) rfl (calmRes_of Try.func85) rfl fun wp hp => ?_
    replace hp := Lib.hid hp
    go_wp2_with fail
    refine ⟨hp.out, ?_⟩
    clear hp  wp
    obtain rfl := hR1.out
    clear hR1
    refine x_cond (O.xc ..) (t := true) rfl ?_
    refine x_seqR (O.xc ..) fun R2 hR2 => ?_
    refine O.seg0 C prgG (calmCode_of ext_ok (by kernel_rfl)) rfl (calmRes_of Try.func85) rfl fun wp hp => ?_
    replace hp := Lib.hid hp
    go_wp2_with fail
    refine ⟨hp.out, ?_⟩
    clear hp  wp
    obtain rfl := hR2.out
    clear hR2
    refine x_ret (O.xc ..) ?_
    refine x_leave (O.xc ..) (calmRes_of Try.func85) (C.st O) ⟨rfl, rfl, rfl, _, Try.func85, results_tmp2 rfl _ _ _⟩ ?_
    obtain rfl := hmc.out
    exact hret.out 0 6 _ _ _ _ C
set_option maxHeartbeats 1000000 in
theorem nil_list (O : md.Ok) {κ : Fu (SM S)} (hret : md.F κ A w₀ (G (c.finish (.slice none 0 0)) cs)) :
    md.F κ A w₀ (G (Frame.enter Try.prog 86 #[.pointer none, md.sv] .normal) (c :: cs)) := by
  intro x own w m C
  rw [enter_at _ Try.func86 rfl]
  simp only [Try.ntmps86, List.size_toArray, List.length_cons, List.length_nil, Nat.reduceAdd, Nat.reduceSub, Array.replicate_succ,
     Array.replicate_zero, List.push_toArray, List.append_toArray, List.nil_append, List.cons_append]
  generalize hmc : κ m = mc
  replace hmc := Lib.hid hmc
  replace hret := Lib.hid hret
  refine x_seqR (O.xc ..) fun R0 hR0 => ?_
  refine O.seg0 C prgG (calmCode_of ext_ok (by kernel_rfl)) rfl (calmRes_of Try.func86) rfl fun wp hp => ?_
  replace hp := Lib.hid hp
  go_wp2_with fail
  refine ⟨hp.out, ?_⟩
  clear hp  wp
  obtain rfl := hR0.out
  clear hR0
  refine x_seqR (O.xc ..) fun R0 hR0 => ?_
  refine x_seqR (O.xc ..) fun R1 hR1 => ?_
  refine O.seg0 C prgG (calmCode_of ext_ok (by kernel_rfl)) rfl (calmRes_of Try.func86) rfl fun wp hp => ?_
  replace hp := Lib.hid hp
  go_wp2_with fail
  refine ⟨hp.out, ?_⟩
  clear hp  wp
  obtain rfl := hR1.out
  clear hR1
  refine x_cond (O.xc ..) (t := true) rfl ?_
  refine x_seqR (O.xc ..) fun R2 hR2 => ?_
  refine O.seg0 C prgG (calmCode_of ext_ok (by kernel_rfl)) rfl (calmRes_of Try.func86) rfl fun wp hp => ?_
  replace hp := Lib.hid hp
  go_wp2_with fail
  refine ⟨hp.out, ?_⟩
  clear hp  wp
  obtain rfl := hR2.out
  clear hR2
  refine x_ret (O.xc ..) ?_
  refine x_leave (O.xc ..) (calmRes_of Try.func86) (C.st O) ⟨rfl, rfl, rfl, _, Try.func86, results_tmp rfl _ _ _⟩ ?_
  obtain rfl := hmc.out
  exact hret.out _ _ _ _ C
set_option maxHeartbeats 1000000 in
theorem nil_least (O : md.Ok) {n : Int} {κ : Int → Int → Fu (SM S)} (hend : md.End A w₀ c cs) (hret : md.F (κ n (-1)) A w₀ (G (c.finish (.tuple #[.int .i64 n, .int .i64 (-1)])) cs)) :
    md.F (κ n (-1)) A w₀ (G (Frame.enter Try.prog 74 #[.pointer none, md.sv, .int .i64 n] .normal) (c :: cs)) := by
  intro x own w m C
  rw [enter_at _ Try.func74 rfl]
  simp only [Try.ntmps74, List.size_toArray, List.length_cons, List.length_nil, Nat.reduceAdd, Nat.reduceSub, Array.replicate_succ,
     Array.replicate_zero, List.push_toArray, List.append_toArray, List.nil_append, List.cons_append]
  generalize hmc : κ n (-1) m = mc
  replace hmc := Lib.hid hmc
  replace hret := Lib.hid hret
  refine x_seqR (O.xc ..) fun R0 hR0 => ?_
  refine O.seg0 C prgG (calmCode_of ext_ok (by kernel_rfl)) rfl (calmRes_of Try.func74) rfl fun wp hp => ?_
  replace hp := Lib.hid hp
  go_wp2_with fail
  refine ⟨hp.out, ?_⟩
  clear hp  wp
  obtain rfl := hR0.out
  clear hR0
  refine x_seqR (O.xc ..) fun R0 hR0 => ?_
  refine O.seg0 C prgG (calmCode_of ext_ok (by kernel_rfl)) rfl (calmRes_of Try.func74) rfl fun wp hp => ?_
  replace hp := Lib.hid hp
  go_wp2_with fail
  refine ⟨hp.out, ?_⟩
  clear hp  wp
  obtain rfl := hR0.out
  clear hR0
  refine x_seqR (O.xc ..) fun R0 hR0 => ?_
  refine x_seqR (O.xc ..) fun R1 hR1 => ?_
  refine x_reg (O.xc ..) 2 (by decide) (by decide) (calm0 (by kernel_rfl)) (C.st O) fun wp hp => ?_
  simp only [List.take_succ_cons, List.take_zero]
  replace hp := Lib.hid hp
  go_wp2_with fail
  refine after_same hp.out (C.st O).okd ?_
  clear hp  wp
  refine x_callF (O.xc ..) rfl rfl (by decide) rfl Try.func86 (by kernel_rfl) (by kernel_rfl) ?_
  walk_nrm
  obtain rfl := hmc.out
  clear hmc
  refine nil_list O (fun x2 own2 w2 m2 C2 => ?_) x own w m C
  rw [Frame.finish_at]
  clear C
  generalize hmc : κ n (-1) m2 = mc
  replace hmc := Lib.hid hmc
  walk_nrm
  refine x_more (O.xc ..) 3 2 (by decide) (by decide) (calm0 (by kernel_rfl)) (C2.st O) fun wp hp => ?_
  simp only [List.drop_succ_cons, List.drop_zero, List.take_succ_cons, List.take_zero]
  replace hp := Lib.hid hp
  go_wp2_with fail
  refine after_same hp.out (C2.st O).okd ?_
  clear hp  wp
  refine x_regionEnd (O.xc ..) ?_
  obtain rfl := hR1.out
  clear hR1
  refine x_block (O.xc ..) ?_
  refine x_loop (O.xc ..) ?_
  refine x_seqR (O.xc ..) fun R1 hR1 => ?_
  refine O.seg0 C2 prgG (calmCode_of ext_ok (by kernel_rfl)) rfl (calmRes_of Try.func74) rfl fun wp hp => ?_
  replace hp := Lib.hid hp
  go_wp2_with fail
  refine ⟨hp.out, ?_⟩
  clear hp  wp
  obtain rfl := hR1.out
  clear hR1
  refine x_seqR (O.xc ..) fun R1 hR1 => ?_
  refine x_cond (O.xc ..) (t := false) rfl ?_
  obtain rfl := hR1.out
  clear hR1
  refine x_exit (O.xc ..) rfl ?_
  obtain rfl := hR0.out
  clear hR0
  refine x_seqR (O.xc ..) fun R0 hR0 => ?_
  refine O.seg0 C2 prgG (calmCode_of ext_ok (by kernel_rfl)) rfl (calmRes_of Try.func74) rfl fun wp hp => ?_
  replace hp := Lib.hid hp
  go_wp2_with fail
  refine ⟨hp.out, ?_⟩
  clear hp  wp
  obtain rfl := hR0.out
  clear hR0
  refine x_ret (O.xc ..) ?_
  refine x_leave (O.xc ..) (calmRes_of Try.func74) (C2.st O) ⟨rfl, rfl, rfl, _, Try.func74, results_tmp2 rfl _ _ _⟩ ?_
  obtain rfl := hmc.out
  exact hret.out _ _ _ _ C2
set_option maxHeartbeats 2000000 in
theorem nil_may (O : md.Ok) {q size : Int} (hq : In64 q) (hs : In64 size) {κ : Bool → Int → Fu (SM S)} (hend : md.End A w₀ c cs) (hret : md.F (κ true (-1)) A w₀ (G (c.finish (.tuple #[.bool true, .int .i64 (-1)])) cs)) :
    md.F (κ true (-1)) A w₀ (G (Frame.enter Try.prog 75 #[.pointer none, md.sv, .int .i64 q, .int .i64 size] .normal) (c :: cs)) := by
  intro x own w m C
  rw [enter_at _ Try.func75 rfl]
  simp only [Try.ntmps75, List.size_toArray, List.length_cons, List.length_nil, Nat.reduceAdd, Nat.reduceSub, Array.replicate_succ,
     Array.replicate_zero, List.push_toArray, List.append_toArray, List.nil_append, List.cons_append]
  generalize hmc : κ true (-1) m = mc
  replace hmc := Lib.hid hmc
  replace hret := Lib.hid hret
  replace hq := Lib.hid hq
  replace hs := Lib.hid hs
  refine x_seqR (O.xc ..) fun R0 hR0 => ?_
  refine O.seg0 C prgG (calmCode_of ext_ok (by kernel_rfl)) rfl (calmRes_of Try.func75) rfl fun wp hp => ?_
  replace hp := Lib.hid hp
  go_wp2_with fail
  refine ⟨hp.out, ?_⟩
  clear hp  wp
  obtain rfl := hR0.out
  clear hR0
  refine x_seqR (O.xc ..) fun R0 hR0 => ?_
  refine x_reg (O.xc ..) 3 (by decide) (by decide) (calm0 (by kernel_rfl)) (C.st O) fun wp hp => ?_
  simp only [List.take_succ_cons, List.take_zero]
  replace hp := Lib.hid hp
  go_wp2_with fail
  refine after_same hp.out (C.st O).okd ?_
  clear hp  wp
  refine x_callF (O.xc ..) rfl rfl (by decide) rfl Try.func74 (by kernel_rfl) (by kernel_rfl) ?_
  walk_nrm
  obtain rfl := hmc.out
  clear hmc
  refine nil_least O (n := q) (κ := fun _ _ => κ true (-1)) (O.endUp (calmRes_of Try.func75) rfl rfl hend) (fun x2 own2 w2 m2 C2 => ?_) x own w m C
  rw [Frame.finish_at]
  clear C
  obtain ⟨K, hK⟩ : ∃ K, max size 1 = K := ⟨_, rfl⟩
  have hK1 : 1 ≤ K := by omega
  have hK2 : K ≤ 9223372036854775807 := by have := hs.out; omega
  replace hK := Lib.hid hK
  generalize hmc : κ true (-1) m2 = mc
  replace hmc := Lib.hid hmc
  walk_nrm
  refine x_more (O.xc ..) 4 5 (by decide) (by decide) (calm0 (by kernel_rfl)) (C2.st O) fun wp hp => ?_
  simp only [List.drop_succ_cons, List.drop_zero, List.take_succ_cons, List.take_zero]
  replace hp := Lib.hid hp
  go_wp2_with fail
  refine after_same hp.out (C2.st O).okd ?_
  clear hp  wp
  refine x_regionEnd (O.xc ..) ?_
  obtain rfl := hR0.out
  clear hR0
  refine x_seqR (O.xc ..) fun R0 hR0 => ?_
  refine O.seg0 C2 prgG (calmCode_of ext_ok (by kernel_rfl)) rfl (calmRes_of Try.func75) rfl fun wp hp => ?_
  replace hp := Lib.hid hp
  go_wp2_with (refine wpL_max rfl _ _ _ _ rfl size 1 K rfl rfl hK.out ?_)
  refine ⟨hp.out, ?_⟩
  clear hp  wp
  obtain rfl := hR0.out
  clear hR0
  refine x_seqR (O.xc ..) fun R0 hR0 => ?_
  refine x_seqR (O.xc ..) fun R1 hR1 => ?_
  have wr1 : IntKind.i64.wrap (-9223372036854775808 + K) = -9223372036854775808 + K := by rw [IntKind.wrap_i64]; omega
  by_cases c1 : q < -9223372036854775808 + K
  · refine O.seg0 C2 prgG (calmCode_of ext_ok (by kernel_rfl)) rfl (calmRes_of Try.func75) rfl fun wp hp => ?_
    replace hp := Lib.hid hp
    go_wp2_with fail
    refine ⟨hp.out, ?_⟩
    clear hp  wp
    obtain rfl := hR1.out
    clear hR1
    refine x_cond (O.xc ..) (t := true) rfl ?_
    refine x_seqR (O.xc ..) fun R2 hR2 => ?_
    refine O.seg0 C2 prgG (calmCode_of ext_ok (by kernel_rfl)) rfl (calmRes_of Try.func75) rfl fun wp hp => ?_
    replace hp := Lib.hid hp
    go_wp2_with fail
    refine ⟨hp.out, ?_⟩
    clear hp  wp
    obtain rfl := hR2.out
    clear hR2
    refine x_ret (O.xc ..) ?_
    refine x_leave (O.xc ..) (calmRes_of Try.func75) (C2.st O) ⟨rfl, rfl, rfl, _, Try.func75, results_tmp2 rfl _ _ _⟩ ?_
    obtain rfl := hmc.out
    exact hret.out _ _ _ _ C2
  have wr2 : IntKind.i64.wrap (q - K) = q - K := by have := hq.out; rw [IntKind.wrap_i64]; omega
  have c2 : q ≥ q - K := by omega
  refine O.seg0 C2 prgG (calmCode_of ext_ok (by kernel_rfl)) rfl (calmRes_of Try.func75) rfl fun wp hp => ?_
  replace hp := Lib.hid hp
  go_wp2_with fail
  refine ⟨hp.out, ?_⟩
  clear hp  wp
  obtain rfl := hR1.out
  clear hR1
  refine x_cond (O.xc ..) (t := true) rfl ?_
  refine x_seqR (O.xc ..) fun R2 hR2 => ?_
  refine O.seg0 C2 prgG (calmCode_of ext_ok (by kernel_rfl)) rfl (calmRes_of Try.func75) rfl fun wp hp => ?_
  replace hp := Lib.hid hp
  go_wp2_with fail
  refine ⟨hp.out, ?_⟩
  clear hp  wp
  obtain rfl := hR2.out
  clear hR2
  refine x_ret (O.xc ..) ?_
  refine x_leave (O.xc ..) (calmRes_of Try.func75) (C2.st O) ⟨rfl, rfl, rfl, _, Try.func75, results_tmp2 rfl _ _ _⟩ ?_
  obtain rfl := hmc.out
  exact hret.out _ _ _ _ C2
theorem rowTh_nil {i : Nat} {own : Nat → Owner} {hp : Array Obj} : RowTh i own hp (.slice none 0 0) [] := ⟨fun x hx => (by cases hx), none, 0, rfl, Nat.le_refl _, fun h => absurd rfl h⟩
def nilApi (O : md.Ok) : Api md (.pointer none) where
  J := fun p _ κ => κ (refF none p)
  V := fun p κ => κ (refF none p)
  T := fun p _ κ => κ (refF none p)
  E := fun p κ => κ 0 (refF none p)
  I := fun κ => κ []
  M := fun n κ => κ n (-1)
  Y := fun _ _ κ => κ true (-1)
  join := fun _ _ h => nil_join O h
  leave := fun _ h => nil_leave O h
  set := fun _ _ h => nil_set O h
  get := fun _ h => nil_get O h
  list := fun _ h => nil_list O (h [] _ _ _ .refl rowTh_nil (fun b hb => absurd rfl hb.1) (by decide))
  least := fun _ he h => nil_least O he (h _ _)
  may := fun hq hz he h => nil_may O hq hz he (h _ _)
end
end Go.Proofs.Ytofacoojpgkbiaa

/-
  A nil gate called by goroutine 0; Members; two gates beside each other. No condition of its own.
-/
namespace Go.Proofs.Ytofacoojpgkbiaa
open Go.Conc Go.RowKit
open Go.ConcN (upd upd_ne upd_same)
set_option maxRecDepth 100000
def nilR (o : OpD) : Ans :=
  if o.kind = 1 then toldC 0 (refF none o.a)
  else if o.kind = 2 then toldC 0 (refF none o.a)
  else if o.kind = 3 then toldC 0 (refF none o.a)
  else if o.kind = 4 then toldC 0 (refF none o.a)
  else if o.kind = 5 then ⟨true, 0, []⟩
  else if o.kind = 6 then ⟨true, o.a, [-1]⟩
  else if o.kind = 7 then ⟨true, -1, []⟩
  else ⟨false, 0, []⟩
section
variable {Z : Machine → Trace → Prop} {w : World} {c : Frame} {cs : List Frame}
def RepU (m : SM Unit) (own : Nat → Owner) (w : World) : Prop := True
theorem locU : Local RepU := fun _ _ _ _ _ _ _ => trivial
def ownU (n : Nat) : Nat → Owner := fun b => if b < n then .tag 0 else .out
theorem ctxU {Q : Nat → SM Unit → Prop} {o : Os × Array (Nat × ByteArray)} {w : World} : (niMd RepU 0 Z Q o).C (0 : Nat) (ownU w.heap.size) (fun _ => False) ⟨w.heap, ⟨(), fun _ => []⟩, ownU w.heap.size⟩ w ⟨(), fun _ => []⟩ :=
  ⟨trivial, trivial, fun b hb => if_neg (by omega), fun b hb => hb.elim, rfl, .refl⟩
theorem leftU {Q : Nat → SM Unit → Prop} {o : Os × Array (Nat × ByteArray)} {w w4 : World} {y : Nat} {own4 : Nat → Owner} {m4 : SM Unit} (C : (niMd RepU 0 Z Q o).C y own4 (fun _ => False) ⟨w.heap, ⟨(), fun _ => []⟩, ownU w.heap.size⟩ w4 m4) (hk : w4.os = w.os ∧ w4.output = w.output) : LeftW w w4 := by
  have tg : ∀ b, b < w.heap.size → own4 b = .tag 0 ∧ w4.heap[b]? = w.heap[b]? := fun b hb => C.tg b 0 (if_pos hb)
  refine ⟨fun b hb => (tg b hb).2, ?_, hk⟩
  rcases Nat.lt_or_ge w4.heap.size w.heap.size with z | z
  · have h1 := (tg _ z).1
    rw [C.fresh _ (Nat.le_refl _)] at h1
    cases h1
  · exact z
theorem ff_nil {md : Md (SM Unit)} (O : md.Ok) {Q : Nat → SM Unit → Prop} {κ : Ans → Fu (SM Unit)} {o : OpD} {m : SM Unit} (h : FF Q (κ (nilR o)) 0 m) : FF Q (callA (nilApi O) o κ) 0 m := by
  unfold callA
  unfold nilR at h
  by_cases k1 : o.kind = 1
  · rw [if_pos k1] at h ⊢; exact h
  rw [if_neg k1] at h ⊢
  by_cases k2 : o.kind = 2
  · rw [if_pos k2] at h ⊢; exact h
  rw [if_neg k2] at h ⊢
  by_cases k3 : o.kind = 3
  · rw [if_pos k3] at h ⊢; exact h
  rw [if_neg k3] at h ⊢
  by_cases k4 : o.kind = 4
  · rw [if_pos k4] at h ⊢; exact h
  rw [if_neg k4] at h ⊢
  by_cases k5 : o.kind = 5
  · rw [if_pos k5] at h ⊢; exact h
  rw [if_neg k5] at h ⊢
  by_cases k6 : o.kind = 6
  · rw [if_pos k6] at h ⊢; exact h
  rw [if_neg k6] at h ⊢
  by_cases k7 : o.kind = 7
  · rw [if_pos k7] at h ⊢; exact h
  rw [if_neg k7] at h ⊢
  exact h
open Classical in
theorem callN_runs {o : OpD} (ho : o.Ok) (h : ∀ w' v, LeftW w w' → w'.ownsRow 0 2 1 v (nilR o).l.length (intsV (nilR o).l) → RM Try.prog Z (G (c.finish (ansV (nilR o) v)) cs) w') :
    RM Try.prog Z (G (Frame.enter Try.prog 21 #[.pointer none, .nilIface, opV o] .normal) (c :: cs)) w := by
  have O : (niMd RepU 0 Z (fun _ m => m = ⟨(), fun _ => []⟩) (w.os, w.output)).Ok := niMd_ok locU
  have := call_cps (md := niMd RepU 0 Z (fun _ m => m = ⟨(), fun _ => []⟩) (w.os, w.output)) (lo := 0) (A := fun _ => False) (w₀ := ⟨w.heap, ⟨(), fun _ => []⟩, ownU w.heap.size⟩) (c := c) (cs := cs) O (nilApi O) (fun _ => Nat.zero_le _) (κ := fun r => if r = nilR o then finF else cutF) ho trivial (fun r v y own4 w4 m4 C4 hL _ hk hQ => ?_) _ _ _ _ ctxU ⟨rfl, rfl⟩ (ff_nil O (by rw [if_pos rfl]; rfl))
  · exact this
  · by_cases hr : r = nilR o
    · subst hr
      exact h _ v (leftU C4 hk) hL.row
    · rw [if_neg hr] at hQ
      exact hQ.elim
open Classical in
set_option maxHeartbeats 2000000 in
theorem membersN_runs (h : ∀ w', LeftW w w' → RM Try.prog Z (G (c.finish (.slice none 0 0)) cs) w') : RM Try.prog Z (G (Frame.enter Try.prog 25 #[.pointer none] .normal) (c :: cs)) w := by
  rw [enter_at _ Try.func25 rfl]
  simp only [Try.ntmps25, List.size_toArray, List.length_cons, List.length_nil, Nat.reduceAdd, Nat.reduceSub, Array.replicate_succ,
     Array.replicate_zero, List.push_toArray, List.append_toArray, List.nil_append, List.cons_append]
  replace h := Lib.hid h
  refine x_seqR rm_xc fun R1 hR1 => ?_
  refine rm_seg prgN (calmCode_of ext_ok (by kernel_rfl)) rfl (calmRes_of Try.func25) rfl fun wp hp => ?_
  replace hp := Lib.hid hp
  go_wp2_with fail
  refine fun w1 h1 => ?_
  have e1 : w1.heap = w.heap := h1.heap.trans hp.out.heap
  have o1 : w1.os = w.os ∧ w1.output = w.output := ⟨h1.outs.1.trans hp.out.outs.1, h1.outs.2.trans hp.out.outs.2⟩
  clear h1 hp wp
  obtain rfl := hR1.out
  clear hR1
  refine x_seqR rm_xc fun R1 hR1 => ?_
  refine rm_reg 1 (by decide) (by decide) (calm0 (by kernel_rfl)) fun wp hp => ?_
  simp only [List.take_succ_cons, List.take_zero]
  replace hp := Lib.hid hp
  go_wp2_with fail
  refine rm_after rfl fun w2 h2 => ?_
  have e2 : w2.heap = w.heap := h2.heap.trans (hp.out.heap.trans e1)
  have o2 : w2.os = w.os ∧ w2.output = w.output := ⟨(h2.outs.1.trans hp.out.outs.1).trans o1.1, (h2.outs.2.trans hp.out.outs.2).trans o1.2⟩
  clear h2 hp wp e1 o1 w1
  refine x_callF rm_xc rfl rfl (by decide) rfl Try.func86 (by kernel_rfl) (by kernel_rfl) ?_
  walk_nrm
  refine rm_md (Rep := RepU) (Q := fun _ m => m = ⟨(), fun _ => []⟩) (o := (w2.os, w2.output)) (φ := finF) (m := ⟨(), fun _ => []⟩) (x := 0) (own := ownU w2.heap.size) (A := fun _ => False) (w₀ := ⟨w2.heap, ⟨(), fun _ => []⟩, ownU w2.heap.size⟩) ?_ ⟨rfl, rfl⟩ rfl
  refine nil_list (md := niMd RepU 0 Z (fun _ m => m = ⟨(), fun _ => []⟩) (w2.os, w2.output)) (A := fun _ => False) (w₀ := ⟨w2.heap, ⟨(), fun _ => []⟩, ownU w2.heap.size⟩) (niMd_ok locU) (κ := finF) (fun y own4 w4 m4 C4 hk hQ => ?_) _ _ _ _ ctxU
  have L4 : LeftW w w4 := (LeftW.of_sim e2 o2).trans (leftU C4 hk)
  clear C4 hQ hk e2 o2
  rw [Frame.finish_at]
  walk_nrm
  refine rm_more 2 1 (by decide) (by decide) (calm0 (by kernel_rfl)) fun wp hp => ?_
  simp only [List.drop_succ_cons, List.drop_zero, List.take_succ_cons, List.take_zero]
  replace hp := Lib.hid hp
  go_wp2_with fail
  refine rm_after rfl fun w6 h6 => ?_
  refine x_regionEnd rm_xc ?_
  obtain rfl := hR1.out
  clear hR1
  refine x_ret rm_xc ?_
  refine x_leave rm_xc (calmRes_of Try.func25) (none_seats _) (by rw [poi_none]; exact ⟨rfl, rfl, rfl, _, Try.func25, results_tmp rfl _ _ _⟩) ?_
  show RM Try.prog Z (G (Frame.finish _ (.slice none 0 0)) cs) w6
  exact h.out _ (L4.trans ((LeftW.of_sim hp.out.heap hp.out.outs).sim h6))
set_option maxHeartbeats 2000000 in
theorem members_runs {gb : Nat} {s : GateS} {own : Nat → Owner} (G0 : GW gb s own w) (h : ∀ own' w' v, GW gb s own' w' → Left own own' w w' → IntsAt w' v s.mem → (∀ b, rowOf v s.mem b → own' b = .out) → RM Try.prog Z (G (c.finish v) cs) w') : RM Try.prog Z (G (Frame.enter Try.prog 25 #[gpv gb] .normal) (c :: cs)) w := by
  unfold gpv
  rw [enter_at _ Try.func25 rfl]
  simp only [Try.ntmps25, List.size_toArray, List.length_cons, List.length_nil, Nat.reduceAdd, Nat.reduceSub, Array.replicate_succ,
     Array.replicate_zero, List.push_toArray, List.append_toArray, List.nil_append, List.cons_append]
  replace h := Lib.hid h
  refine x_seqR rm_xc fun R1 hR1 => ?_
  refine rm_seg prgN (calmCode_of ext_ok (by kernel_rfl)) rfl (calmRes_of Try.func25) rfl fun wp hp => ?_
  replace hp := Lib.hid hp
  go_wp2_with fail
  refine fun w1 h1 => ?_
  have e1 : w1.heap = w.heap := h1.heap.trans hp.out.heap
  have o1 : w1.os = w.os ∧ w1.output = w.output := ⟨h1.outs.1.trans hp.out.outs.1, h1.outs.2.trans hp.out.outs.2⟩
  clear h1 hp wp
  obtain rfl := hR1.out
  clear hR1
  refine x_seqR rm_xc fun R1 hR1 => ?_
  refine rm_reg 1 (by decide) (by decide) (calm0 (by kernel_rfl)) fun wp hp => ?_
  simp only [List.take_succ_cons, List.take_zero]
  replace hp := Lib.hid hp
  go_wp2_with fail
  refine rm_after rfl fun w2 h2 => ?_
  have e2 : w2.heap = w.heap := h2.heap.trans (hp.out.heap.trans e1)
  have o2 : w2.os = w.os ∧ w2.output = w.output := ⟨(h2.outs.1.trans hp.out.outs.1).trans o1.1, (h2.outs.2.trans hp.out.outs.2).trans o1.2⟩
  clear h2 hp wp e1 o1 w1
  refine x_callF rm_xc rfl rfl (by decide) rfl Try.func86 (by kernel_rfl) (by kernel_rfl) ?_
  walk_nrm
  have G2 : GW gb s own w2 := G0.keep (by rw [e2]; exact Nat.le_refl _) fun b _ _ => by rw [e2]
  refine list_runs G2 fun own4 w4 v G4 L4 hv hrow => ?_
  obtain ⟨va, vc, rfl⟩ : ∃ va vc, v = .slice va s.mem.length vc := by obtain ⟨va, vc, e, _⟩ := hv; exact ⟨va, vc, e⟩
  have L5 : Left own own4 w w4 := (Left.mk (fun b _ ho => ⟨ho, by rw [e2]⟩) (by rw [e2]; exact Nat.le_refl _) o2 : Left own own w w2).trans L4
  obtain ⟨n, hn⟩ : ∃ n, s.mem.length = n := ⟨_, rfl⟩
  rw [hn]
  replace hn := Lib.hid hn
  clear L4 G2 e2 o2
  rw [Frame.finish_at]
  walk_nrm
  refine rm_more 2 1 (by decide) (by decide) (calm0 (by kernel_rfl)) fun wp hp => ?_
  simp only [List.drop_succ_cons, List.drop_zero, List.take_succ_cons, List.take_zero]
  replace hp := Lib.hid hp
  go_wp2_with fail
  refine rm_after rfl fun w6 h6 => ?_
  refine x_regionEnd rm_xc ?_
  obtain rfl := hR1.out
  clear hR1
  refine x_ret rm_xc ?_
  refine x_leave rm_xc (calmRes_of Try.func25) (none_seats _) (by rw [poi_none]; exact ⟨rfl, rfl, rfl, _, Try.func25, results_tmp rfl _ _ _⟩) ?_
  show RM Try.prog Z (G (Frame.finish _ (.slice va n vc)) cs) w6
  have e6 : w6.heap = w4.heap := h6.heap.trans hp.out.heap
  have G6 : GW gb s own4 w6 := G4.keep (by rw [e6]; exact Nat.le_refl _) fun b _ _ => by rw [e6]
  have L6 : Left own own4 w w6 := L5.trans ⟨fun b _ ho => ⟨ho, by rw [e6]⟩, by rw [e6]; exact Nat.le_refl _, h6.outs.1.trans hp.out.outs.1, h6.outs.2.trans hp.out.outs.2⟩
  have := h.out own4 w6 _ G6 L6 (hv.mono fun b _ => by rw [e6]) hrow
  rw [hn.out] at this
  exact this
end
structure G2 (gz gw : Nat) (s : GateS) (oz ow : Nat → Owner) (w : World) : Prop where
  z : GW gz s oz w
  w : GW gw s ow w
  dis : ∀ b, oz b = .out ∨ ow b = .out
section
variable {gz gw : Nat} {s s' : GateS} {oz ow oz' ow' : Nat → Owner} {w w' : World}
theorem GW.lt {gb : Nat} {own : Nat → Owner} (h : GW gb s own w) {b : Nat} (hb : own b ≠ .out) : b < w.heap.size := by
  rcases Nat.lt_or_ge b w.heap.size with z | z
  · exact z
  · exact absurd (h.new b z) hb
theorem GW.beside {g1 g2 : Nat} {s1 s2 : GateS} {o1 o2 o1' : Nat → Owner} (h2 : GW g2 s2 o2 w) (hd : ∀ b, o1 b = .out ∨ o2 b = .out) (l : Left o1 o1' w w') : GW g2 s2 o2 w' ∧ ∀ b, o1' b = .out ∨ o2 b = .out := by
  refine ⟨h2.keep l.size fun b hb ho => (l.same b hb ((hd b).resolve_right ho)).2, fun b => ?_⟩
  by_cases ho : o2 b = .out
  · exact .inr ho
  · exact .inl (l.same b (h2.lt ho) ((hd b).resolve_right ho)).1
theorem G2.sim (h : G2 gz gw s oz ow w) (e : w'.heap = w.heap) : G2 gz gw s oz ow w' :=
  ⟨h.z.keep (by rw [e]; exact Nat.le_refl _) (fun b _ _ => by rw [e]), h.w.keep (by rw [e]; exact Nat.le_refl _) (fun b _ _ => by rw [e]), h.dis⟩
theorem G2.low (h : G2 gz gw s oz ow w) (hs : w.heap.size ≤ w'.heap.size) (hk : ∀ b, b < w.heap.size → w'.heap[b]? = w.heap[b]?) : G2 gz gw s oz ow w' :=
  ⟨h.z.keep hs fun b hb _ => hk b hb, h.w.keep hs fun b hb _ => hk b hb, h.dis⟩
end
theorem GW.nums {gb : Nat} {s s' : GateS} {own : Nat → Owner} {w : World} (h : GW gb s own w) (h1 : s'.ser = s.ser) (h2 : s'.mem = s.mem) (h3 : ∀ j, j < 64 → s'.num j = s.num j) : GW gb s' own w := by
  obtain ⟨⟨a, ⟨p, c, c1, c2, c3, c4, c5⟩, d, e, f, g⟩, k1, k2⟩ := h
  exact ⟨⟨a, ⟨p, c, c1, c2, c3, fun j hj => by rw [c4 j hj, h3 j hj], by rw [h1, h2]; exact c5⟩, fun j hj => by rw [h3 j hj]; exact d j hj, by rw [h2]; exact e, f, fun b t q => by rw [h1]; exact g b t q⟩, k1, k2⟩
end Go.Proofs.Ytofacoojpgkbiaa
