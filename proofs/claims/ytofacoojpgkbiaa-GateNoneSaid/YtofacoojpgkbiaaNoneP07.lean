/-
  Merged out of: Draw DrawH. No condition of its own.
-/
import Derived.Test.YtofacoojpgkbiaaNoneP05
set_option linter.unusedVariables false
set_option linter.unusedSimpArgs false
/-
  A region that draws its order, whose head comes in whatever order and whose tail in one of few. No condition of its own.
-/
namespace Go.Proofs.Ytofacoojpgkbiaa
open Go.Conc
set_option maxRecDepth 100000
section
variable {P : Program} {md : Region.Mode} {ops : Array Oper}
def TailWaits (md : Region.Mode) (ops : Array Oper) (n : Nat) : Prop := ∀ listed, HeadInv md ops n listed → ∀ i, i < n → listed.getD i true = false → ∀ t, n ≤ t → t ∉ Region.ready md ops listed
def waitsB (md : Region.Mode) (ops : Array Oper) (n : Nat) : Bool :=
  Region.sinkB md ops n && (List.range ops.size).all fun t => decide (t ≤ n) || (List.range ops.size).any fun u => decide (n ≤ u) && Region.waitsFor md ops t u
theorem tail_waits_of {n : Nat} (h : waitsB md ops n = true) (hn : n < ops.size) : TailWaits md ops n := by
  simp only [waitsB, Bool.and_eq_true] at h
  obtain ⟨hs, hc⟩ := h
  intro listed inv
  have key : ∀ d i, n - i = d → i < n → listed.getD i true = false → n ∉ Region.ready md ops listed := by
    intro d
    induction d using Nat.strongRecOn with
    | _ d ih =>
      intro i hd hi hun hr
      obtain ⟨j, hj, hj2⟩ := List.any_eq_true.1 (List.all_eq_true.1 hs i (List.mem_range.2 hi))
      simp only [Bool.and_eq_true, decide_eq_true_eq] at hj2
      obtain ⟨oj, hoj, e, he, hb, hon⟩ := Region.waitsFor_spec hj2.2
      have hjn : j ≤ n := Nat.lt_succ_iff.1 (List.mem_range.1 hj)
      have hno : listed.getD e.on false = false := by rw [hon]; exact getD_both hun
      rcases Nat.lt_or_eq_of_le hjn with hlt | rfl
      · have hjs : j < listed.size := by rw [inv.size]; omega
        cases hl : listed.getD j false with
        | true => rw [inv.closed j oj hoj hl e he hb] at hno; cases hno
        | false => exact ih (n - j) (by omega) j rfl hlt (getD_in hjs hl) hr
      · obtain ⟨_, o', ho', hall⟩ := mem_ready.1 hr
        rw [hoj] at ho'
        cases ho'
        rw [hall e he hb] at hno
        cases hno
  intro i hi hun t ht hr
  rcases Nat.eq_or_lt_of_le ht with rfl | hlt
  · exact key _ i rfl hi hun hr
  · obtain ⟨_, ot, hot, hall⟩ := mem_ready.1 hr
    have htlt : t < ops.size := (Array.getElem?_eq_some_iff.1 hot).1
    have h1 := List.all_eq_true.1 hc t (List.mem_range.2 htlt)
    simp only [Bool.or_eq_true, decide_eq_true_eq] at h1
    rcases h1 with h1 | h1
    · omega
    · obtain ⟨u, hu, hu2⟩ := List.any_eq_true.1 h1
      simp only [Bool.and_eq_true, decide_eq_true_eq] at hu2
      obtain ⟨o', ho', e, he, hb, hon⟩ := Region.waitsFor_spec hu2.2
      rw [hot] at ho'
      cases ho'
      have h2 := hall e he hb
      rw [hon, getD_both (inv.tail u hu2.1 (List.mem_range.1 hu))] at h2
      cases h2
theorem one_ahead {w : World} {n i : Nat} {oi : Oper} {v : Value} {L : Array Bool → Act → Prop} (hi : ops[i]? = some oi) (hsel : ∀ (j : Nat) (o : Oper) cs b, ops[j]? = some o → o.op ≠ .select cs b) (tw : TailWaits md ops n) (hin : i < n) (hsz : n < ops.size)
    (hdone : ∀ listed a, L listed a → ∀ j ∈ Region.ready md ops listed, n ≤ j) : ∀ (f : Nat) (listed : Array Bool) (a : Act), HeadInv md ops n listed →
      (∀ j oj, ops[j]? = some oj → j ≠ i → listed.getD j true = false → (∀ e ∈ oj.after, Region.binds md e = true → e.on ≠ i) → oi.apart ops oj = true) → i ∈ Region.ready md ops listed → YieldsAt P ops w oi v a →
      wpAnyL P md ops w n L f (listed.setIfInBounds i true) (a.put oi.dst v) → wpAnyL P md ops w n L (f + 1) listed a := by
  intro f
  induction f with
  | zero =>
    intro listed a inv _ hr hy H
    refine ⟨List.ne_nil_of_mem hr, fun j hj => ?_⟩
    have hjn : j < n := Nat.lt_of_not_le fun h => tw listed inv i hin (mem_ready.1 hr).1 j h hj
    by_cases hji : j = i
    · subst hji
      exact ⟨hjn, hy.stOp hi H⟩
    · exact absurd (hdone _ _ H j (ready_mono hj hji)) (by omega)
  | succ f ih =>
    intro listed a inv hfree hr hy H
    refine ⟨List.ne_nil_of_mem hr, fun j hj => ?_⟩
    have hjn : j < n := Nat.lt_of_not_le fun h => tw listed inv i hin (mem_ready.1 hr).1 j h hj
    refine ⟨hjn, ?_⟩
    by_cases hji : j = i
    · subst hji
      exact hy.stOp hi H
    · obtain ⟨hjun, oj, hoj, hall⟩ := mem_ready.1 hj
      have hno : ∀ e ∈ oj.after, Region.binds md e = true → e.on ≠ i := fun e he hb z => by
        have := hall e he hb
        rw [z, getD_both (mem_ready.1 hr).1] at this
        cases this
      have hst := stOp_put hoj (hfree j oj hoj hji hjun hno) (fun cs b => hsel i oi cs b hi) (fun cs b => hsel j oj cs b hoj) hy (H.2 j (ready_mono hj hji)).2
      refine stOp_mono (fun a' ⟨hy', hK⟩ => ih _ a' (inv.set hj hjn) (fun x ox hx hxi hxun hxno => ?_) (ready_mono hr (Ne.symm hji)) hy' ?_) hst
      · refine hfree x ox hx hxi ?_ hxno
        by_cases hjx : j = x
        · subst hjx; exact hjun
        · rwa [getD_set_ne true hjx] at hxun
      · rwa [Array.setIfInBounds_comm _ _ hji]
def ordersT (md : Region.Mode) (ops : Array Oper) : Nat → Array Bool → List (List Nat)
  | 0, _ => [[]]
  | g + 1, listed => match Region.ready md ops listed with
    | [] => [[]]
    | r :: rs => (r :: rs).flatMap fun i => (ordersT md ops g (listed.setIfInBounds i true)).map (i :: ·)
theorem mem_ordersT : ∀ (g t : Nat) (listed : Array Bool), Region.linearise.go md ops g t listed [] ∈ ordersT md ops g listed
  | 0, t, listed => by simp [ordersT, Region.linearise.go]
  | g + 1, t, listed => by
    simp only [Region.linearise.go]
    change (match (Region.ready md ops listed)[t % (Region.ready md ops listed).length]? with
      | some i => Region.linearise.go md ops g (t / (Region.ready md ops listed).length) (listed.setIfInBounds i true) [i]
      | none => [].reverse) ∈ _
    unfold ordersT
    cases hr : Region.ready md ops listed with
    | nil => simp
    | cons r rs =>
      have hlt : t % (r :: rs).length < (r :: rs).length := Nat.mod_lt _ (by simp)
      rw [List.getElem?_eq_getElem hlt]
      simp only []
      rw [linearise_go_acc, List.reverse_singleton, List.singleton_append]
      exact List.mem_flatMap.2 ⟨_, List.getElem_mem hlt, List.mem_map.2 ⟨_, mem_ordersT g _ _, rfl⟩⟩
def lexT (md : Region.Mode) (ops : Array Oper) (n g : Nat) (T : List (List Nat)) : Nat → Nat → Array Bool → Bool
  | 0, _, listed => (Region.ready md ops listed).all (fun j => decide (n ≤ j)) && decide (ordersT md ops g listed = T)
  | f + 1, k, listed => (Region.ready md ops listed).contains k && Region.free md ops listed k && lexT md ops n g T f (k + 1) (listed.setIfInBounds k true)
def TailT (md : Region.Mode) (ops : Array Oper) (n g : Nat) (T : List (List Nat)) (listed : Array Bool) : Prop := (∀ j ∈ Region.ready md ops listed, n ≤ j) ∧ ordersT md ops g listed = T
theorem head_lex {w : World} {n g : Nat} {T : List (List Nat)} {Lq : Act → Prop} (hsel : Region.noSelect ops = true) (tw : TailWaits md ops n) (hn : n < ops.size) :
    ∀ (l : List Oper) (k : Nat) (listed : Array Bool) (a : Act), (∀ j, j < l.length → l[j]? = ops[k + j]?) → k + l.length = n → HeadInv md ops n listed → lexT md ops n g T l.length k listed = true → wpStill P ops w Lq l a →
      wpAnyL P md ops w n (fun listed' a' => TailT md ops n g T listed' ∧ Lq a') l.length listed a
  | [], k, listed, a, _, hk, _, hB, h => by
    simp only [List.length_nil, lexT, Bool.and_eq_true, List.all_eq_true, decide_eq_true_eq] at hB
    exact ⟨hB, h⟩
  | o :: l, k, listed, a, hl, hk, inv, hB, h => by
    have h0 : ops[k]? = some o := by simpa using (hl 0 (by simp)).symm
    simp only [List.length_cons] at hk
    simp only [List.length_cons, lexT, Bool.and_eq_true] at hB
    have hr : k ∈ Region.ready md ops listed := by simpa using hB.1.1
    obtain ⟨v, hy, hK⟩ := yieldsAt_of_stOp h0 (show stOp P ops w k (wpStill P ops w Lq l) a by unfold stOp; simp only [h0]; exact h)
    refine one_ahead h0 (Region.noSelect_spec hsel) tw (by omega) hn (fun _ _ q => q.1.1) l.length listed a inv (Region.free_spec h0 hB.1.2) hr hy ?_
    refine head_lex hsel tw hn l (k + 1) _ _ (fun j hj => ?_) (by omega) (inv.set hr (by omega)) hB.2 hK
    have := hl (j + 1) (by simp; omega)
    simpa [Nat.add_assoc, Nat.add_comm 1 j] using this
def drawB (ops : Array Oper) (n : Nat) (T : List (List Nat)) : Bool := Region.noSelect ops && decide (n < ops.size) && waitsB .any ops n && lexT .any ops n (ops.size - n) T n 0 (Array.replicate ops.size false)
variable {D : Nat → Option (Nat × Nat)} {main : Bool} {K : World → Prop} {Still : Loc → Prop} {Inb : Nat → Option Seat} {GO : Goroutine → World → Prop} {b : Frame} {a : Act} {k : List Item} {cs : List Frame} {w : World}
theorem x_drawT (X : XC P main K Still Inb GO) (n : Nat) (T : List (List Nat)) {id : Nat} (hm : P.follows .mixedOrders = true) (hB : drawB ops n T = true) (hk : b.kind ≠ .early) (hc : ∀ o ∈ ops.toList.take n, CalmOp true P (fun _ => False) o) (S : Seats D K Still Inb w)
    (h : ∀ wp, Sim wp (poi D w) → wpStill P ops wp (fun a' => ∀ r ∈ T, GO (G (b.at a' (.inRegion ops r :: k)) cs) w) (ops.toList.take n) a) : GO (G (b.at a (.code (.region id ops true) :: k)) cs) w := by
  simp only [drawB, Bool.and_eq_true, decide_eq_true_eq] at hB
  obtain ⟨⟨⟨hsel, hn⟩, hw⟩, hlex⟩ := hB
  have htl : (ops.toList.take n).length = n := by simp; omega
  have inv0 : HeadInv .any ops n (Array.replicate ops.size false) :=
    ⟨by simp, fun j oj _ hl => (by rw [getD_replicate_false] at hl; cases hl), fun t _ ht => getD_in (by simpa using ht) (getD_replicate_false _ _)⟩
  have H : ∀ wp, Sim wp (poi D w) → wpAnyL P .any ops wp n (fun listed' a' => TailT .any ops n (ops.size - n) T listed' ∧ ∀ r ∈ T, GO (G (b.at a' (.inRegion ops r :: k)) cs) w) n (Array.replicate ops.size false) a := fun wp hp => by
    have := head_lex (md := .any) (g := ops.size - n) (T := T) hsel (tail_waits_of hw hn) hn (ops.toList.take n) 0 (Array.replicate ops.size false) a (fun j hj => by
      have hj' : j < n := by rw [htl] at hj; exact hj
      have hj2 : j < ops.size := by omega
      simp [hj', hj2, List.getElem?_take_of_lt hj', Array.getElem?_eq_getElem hj2]) (by simpa using htl) inv0 (by rw [htl]; exact hlex) (h wp hp)
    rwa [htl] at this
  refine X.go rfl fun d => ?_
  rw [stepG_region_draw, goes_go]
  refine ⟨⟨fun x => (S.at (d + 1)).keep (w.at d) _ ⟨Nat.le_refl _, S.okd, fun _ _ _ _ _ _ => rfl, fun _ _ _ _ _ _ _ _ => rfl, rfl, rfl⟩ x, fun _ _ _ _ _ => rfl, fun e he => by simp at he⟩, ?_⟩
  have e : ({ w.at d with drawn := (w.at d).drawn + 1 } : World) = w.at (d + 1) := rfl
  rw [e]
  refine X.at_ _ _ _ ?_
  simp only [Region.schedule, hm, Bool.true_or, if_true, Region.linearise]
  have := x_anyL X S (md := .any) (ops := ops) (n := n) (g := ops.size - n) (b := b) (k := k) (cs := cs) hk (fun i o hi ho => hc o (by
    rw [List.mem_iff_getElem?]
    exact ⟨i, by rw [List.getElem?_take_of_lt hi]; simpa using ho⟩)) (fun listed a t hL => hL.2 _ (hL.1.2 ▸ mem_ordersT _ _ _)) n ((w.at d).tape (w.at d).drawn (.order b.fn id)) (Array.replicate ops.size false) a H
  rw [show n + (ops.size - n) = ops.size by omega] at this
  exact this
end
end Go.Proofs.Ytofacoojpgkbiaa

/-
  A region that draws its order: its head in whatever order, walked by what holds of each beginning; its tail behind it. No condition of its own.
-/
namespace Go.Proofs.Ytofacoojpgkbiaa
open Go.Conc Go.RowKit
set_option maxRecDepth 100000
section
variable {P : Program} {D : Nat → Option (Nat × Nat)} {main : Bool} {K : World → Prop} {Still : Loc → Prop} {Inb : Nat → Option Seat} {GO : Goroutine → World → Prop} {b : Frame} {a : Act} {k : List Item} {cs : List Frame} {w : World} {ops : Array Oper}
theorem x_draws (X : XC P main K Still Inb GO) {id : Nat} (hm : P.follows .mixedOrders = true) (S : Seats D K Still Inb w)
    (h : ∀ r ∈ ordersT .any ops ops.size (Array.replicate ops.size false), GO (G (b.at a (.inRegion ops r :: k)) cs) w) : GO (G (b.at a (.code (.region id ops true) :: k)) cs) w := by
  refine X.go rfl fun d => ?_
  rw [stepG_region_draw, goes_go]
  refine ⟨⟨fun x => (S.at (d + 1)).keep (w.at d) _ ⟨Nat.le_refl _, S.okd, fun _ _ _ _ _ _ => rfl, fun _ _ _ _ _ _ _ _ => rfl, rfl, rfl⟩ x, fun _ _ _ _ _ => rfl, fun e he => by simp at he⟩, ?_⟩
  have e : ({ w.at d with drawn := (w.at d).drawn + 1 } : World) = w.at (d + 1) := rfl
  rw [e]
  refine X.at_ _ _ _ ?_
  simp only [Region.schedule, hm, Bool.true_or, if_true, Region.linearise]
  exact h _ (mem_ordersT _ _ _)
def headFull (size n : Nat) : Array Bool := ((List.range size).map fun i => decide (i < n)).toArray
theorem head_full {n : Nat} {listed : Array Bool} (hn : n ≤ ops.size) (inv : HeadInv .any ops n listed) (h : ∀ i, i < n → listed.getD i true = true) : listed = headFull ops.size n := by
  apply Array.ext_getElem?
  intro j
  unfold headFull
  by_cases hj : j < ops.size
  · have hjs : j < listed.size := by rw [inv.size]; exact hj
    rw [Array.getElem?_eq_getElem hjs]
    simp only [List.getElem?_toArray, List.getElem?_map, List.getElem?_range hj, Option.map_some, Option.some.injEq]
    by_cases hjn : j < n
    · have := h j hjn
      simp only [Array.getD, hjs, dite_true, Array.getInternal_eq_getElem] at this
      rw [this]; simp [hjn]
    · have := inv.tail j (by omega) hj
      have h2 : listed[j] = false := by
        simp only [Array.getD, hjs, dite_true, Array.getInternal_eq_getElem] at this
        exact this
      rw [h2]; simp [hjn]
  · rw [Array.getElem?_eq_none (by rw [inv.size]; omega)]
    simp [hj]
def unl (listed : Array Bool) : Nat := listed.toList.countP (! ·)
theorem getD_listed {listed : Array Bool} {i : Nat} (h : listed.getD i true = false) : ∃ hi : i < listed.size, listed[i] = false := by
  by_cases hi : i < listed.size
  · refine ⟨hi, ?_⟩
    simp [Array.getD, hi] at h
    exact h
  · simp [Array.getD, hi] at h
theorem unl_set {listed : Array Bool} {i : Nat} (h : listed.getD i true = false) : unl (listed.setIfInBounds i true) + 1 = unl listed := by
  obtain ⟨hi, e⟩ := getD_listed h
  unfold unl
  rw [Array.toList_setIfInBounds, List.countP_set (by simpa using hi)]
  have e1 : listed.toList[i]'(by simpa using hi) = false := by simpa using e
  have : 0 < listed.toList.countP (! ·) := List.countP_pos_iff.2 ⟨false, by rw [← e1]; exact List.getElem_mem _, rfl⟩
  simp only [e1, Bool.not_false, Bool.not_true, if_true, Bool.false_eq_true, if_false, reduceIte]
  omega
theorem all_listed (hlow : ∀ (i : Nat) (o : Oper), ops[i]? = some o → ∀ e ∈ o.after, e.on < i) {listed : Array Bool} (hsz : listed.size = ops.size) (h : Region.ready .any ops listed = []) : ∀ i, i < ops.size → listed.getD i false = true := by
  intro i
  induction i using Nat.strongRecOn with
  | _ i ih =>
    intro hi
    cases hl : listed.getD i false with
    | true => rfl
    | false =>
      exfalso
      have : i ∈ Region.ready .any ops listed := mem_ready.2 ⟨by
        have hi' : i < listed.size := by omega
        simp [Array.getD, hi'] at hl ⊢
        exact hl, _, Array.getElem?_eq_getElem hi, fun e he _ => ih e.on (hlow i _ (Array.getElem?_eq_getElem hi) e he) (by have := hlow i _ (Array.getElem?_eq_getElem hi) e he; omega)⟩
      rw [h] at this
      cases this
theorem orders_head {n : Nat} (hlow : ∀ (i : Nat) (o : Oper), ops[i]? = some o → ∀ e ∈ o.after, e.on < i) (hn : n < ops.size) (tw : TailWaits .any ops n) (I : Array Bool → Act → World → Prop) (T : List (List Nat)) (hT : ordersT .any ops (unl (headFull ops.size n)) (headFull ops.size n) = T)
    (hend : ∀ a w, I (headFull ops.size n) a w → ∀ r ∈ T, GO (G (b.at a (.inRegion ops r :: k)) cs) w)
    (hstep : ∀ listed i, i < n → i ∈ Region.ready .any ops listed → ∀ a w (r : List Nat), I listed a w → (∀ a' w', I (listed.setIfInBounds i true) a' w' → GO (G (b.at a' (.inRegion ops r :: k)) cs) w') → GO (G (b.at a (.inRegion ops (i :: r) :: k)) cs) w) :
    ∀ (g : Nat) (listed : Array Bool) (r : List Nat), HeadInv .any ops n listed → unl listed = g → r ∈ ordersT .any ops g listed → ∀ a w, I listed a w → GO (G (b.at a (.inRegion ops r :: k)) cs) w
  | 0, listed, r, inv, hu, hr, a, w, hI => by
    have := unl_set (inv.tail n (Nat.le_refl _) hn)
    omega
  | g + 1, listed, r, inv, hu, hr, a, w, hI => by
    cases hrd : Region.ready .any ops listed with
    | nil =>
      have h1 := all_listed hlow inv.size hrd n hn
      rw [getD_both (inv.tail n (Nat.le_refl _) hn)] at h1
      cases h1
    | cons i0 rs =>
      have hr0 := hr
      unfold ordersT at hr
      rw [hrd] at hr
      simp only at hr
      obtain ⟨i, hi, hr⟩ := List.mem_flatMap.1 hr
      obtain ⟨r', hr', rfl⟩ := List.mem_map.1 hr
      rw [← hrd] at hi
      have hun := unl_set (mem_ready.1 hi).1
      by_cases hin : i < n
      · exact hstep _ _ hin hi _ _ _ hI fun a' w' hI' => orders_head hlow hn tw I T hT hend hstep g _ _ (inv.set hi hin) (by omega) hr' _ _ hI'
      · have hl := head_full (Nat.le_of_lt hn) inv fun j hj => by
          cases hl : listed.getD j true with
          | true => rfl
          | false => exact absurd hi (tw listed inv j hj hl i (Nat.le_of_not_lt hin))
        subst hl
        rw [← hu, hT] at hr0
        exact hend _ _ hI _ hr0
def lowB (ops : Array Oper) : Bool := (List.range ops.size).all fun i => match ops[i]? with
  | some o => o.after.all fun e => decide (e.on < i)
  | none => true
theorem low_of {ops : Array Oper} (h : lowB ops = true) : ∀ (i : Nat) (o : Oper), ops[i]? = some o → ∀ e ∈ o.after, e.on < i := fun i o ho e he => by
  have h1 := List.all_eq_true.1 h i (List.mem_range.2 (Array.getElem?_eq_some_iff.1 ho).1)
  rw [ho] at h1
  exact of_decide_eq_true (Array.all_eq_true_iff_forall_mem.1 h1 e he)
def drawHB (ops : Array Oper) (n : Nat) (T : List (List Nat)) : Bool := lowB ops && decide (n < ops.size) && waitsB .any ops n && decide (ordersT .any ops (unl (headFull ops.size n)) (headFull ops.size n) = T)
theorem x_drawH (X : XC P main K Still Inb GO) (n : Nat) (T : List (List Nat)) {id : Nat} (hm : P.follows .mixedOrders = true) (hB : drawHB ops n T = true) (S : Seats D K Still Inb w) (I : Array Bool → Act → World → Prop) (h0 : I (Array.replicate ops.size false) a w)
    (hend : ∀ a w, I (headFull ops.size n) a w → ∀ r ∈ T, GO (G (b.at a (.inRegion ops r :: k)) cs) w)
    (hstep : ∀ listed i, i < n → i ∈ Region.ready .any ops listed → ∀ a w (r : List Nat), I listed a w → (∀ a' w', I (listed.setIfInBounds i true) a' w' → GO (G (b.at a' (.inRegion ops r :: k)) cs) w') → GO (G (b.at a (.inRegion ops (i :: r) :: k)) cs) w) : GO (G (b.at a (.code (.region id ops true) :: k)) cs) w := by
  simp only [drawHB, Bool.and_eq_true, decide_eq_true_eq] at hB
  obtain ⟨⟨⟨hl, hn⟩, hw⟩, hT⟩ := hB
  have inv0 : HeadInv .any ops n (Array.replicate ops.size false) :=
    ⟨by simp, fun j oj _ hl => (by rw [getD_replicate_false] at hl; cases hl), fun t _ ht => getD_in (by simpa using ht) (getD_replicate_false _ _)⟩
  have hu : unl (Array.replicate ops.size false) = ops.size := by
    unfold unl
    simp [List.countP_replicate]
  exact x_draws X hm S fun r hr => orders_head (low_of hl) hn (tail_waits_of hw hn) I T hT hend hstep ops.size _ r inv0 hu hr a w h0
def Tab (tv : Nat → Option Value) (d : Nat) (listed : Array Bool) (x : Nat → Value) : Prop := ∀ j v, tv j = some v → listed.getD j false = true → x (d + j) = v
theorem getD_set {listed : Array Bool} {i j : Nat} (h : (listed.setIfInBounds i true).getD j false = true) : j = i ∨ listed.getD j false = true := by
  by_cases e : j = i
  · exact .inl e
  · refine .inr ?_
    simp only [Array.getD, Array.size_setIfInBounds] at h ⊢
    split at h
    · rename_i hj
      rw [dif_pos hj]
      simp only [Array.getInternal_eq_getElem] at h ⊢
      rw [Array.getElem_setIfInBounds_ne _ (fun z => e z.symm)] at h
      exact h
    · cases h
open Go.ConcN (upd upd_ne upd_same)
variable {tv : Nat → Option Value} {d i : Nat} {listed : Array Bool} {x : Nat → Value} {v : Value}
theorem Tab.zero {n : Nat} : Tab tv d (Array.replicate n false) x := fun j v _ h => by rw [getD_replicate_false] at h; cases h
theorem Tab.put (h : Tab tv d listed x) (hi : tv i = some v ∨ tv i = none) : Tab tv d (listed.setIfInBounds i true) (upd x (d + i) v) := fun j u hj hl => by
  by_cases e : j = i
  · subst e
    rw [upd_same]
    rcases hi with hi | hi
    · rw [hi] at hj; exact Option.some.inj hj
    · rw [hi] at hj; cases hj
  · rw [upd_ne _ _ (by omega)]
    exact h j u hj ((getD_set hl).resolve_left e)
end
end Go.Proofs.Ytofacoojpgkbiaa
