/-
  'm[k]++' of a map of the call's own, from keys to numbers: the entry, the look-up, the store. No walk.
-/
import Derived.Test.YtfcaebceklhbkaaDoorMaps
namespace Go.Proofs.YtfcaebceklhbkaaDoor
open Go.RowKit Go.Maps Go.ChangeMaps
set_option linter.unusedVariables false

theorem modify_same {es : Array MapEntry} {j : Nat} {e0 : MapEntry} (h : es[j]? = some e0) (g : MapEntry → MapEntry) (hg : g e0 = e0) : es.modify j g = es := by
  apply Array.ext
  · simp
  · intro i h1 h2
    rw [Array.getElem_modify]
    split
    · rename_i e
      subst e
      have : es[j] = e0 := by simpa [h2] using h
      rw [this, hg]
    · rfl

theorem setBlock_same {w : World} {b : Nat} {o : Obj} (h : w.heap[b]? = some o) : setBlock w b o = w := by
  have : w.heap.setIfInBounds b o = w.heap := by
    apply Array.ext
    · simp
    · intro i h1 h2
      rw [Array.getElem_setIfInBounds]
      split
      · rename_i e
        subst e
        have : w.heap[b] = o := by simpa [h2] using h
        rw [this]
      · rfl
  unfold setBlock
  rw [this]

variable {w : World} {t kt : TypeId} {b n : Nat} {f : Lit → Option (DataW Unit)} {key : Value} {kl : Lit}

/-- The look-up, without a walk. -/
theorem MapF.look (h : MapF w kt (plainElem Tryd.prog 3) b n f) (K : Keyed Tryd.prog kt) (ht : Tryd.prog.underlying t = some (.map kt 3)) (hkey : keyOf Tryd.prog kt key = some kl) {c : Int} (hf : (f kl = none ∧ c = 0) ∨ f kl = some (.lit (.int .i64 c))) :
    (Instr.lookup t (.map (some b)) key false).run Tryd.prog w = .ok (.int .i64 c) w := by
  obtain ⟨D, h1, h2⟩ := h
  obtain ⟨c', hrun, hat, _⟩ := h1.lookup_int K ht Tryd.underlying3 (zero_int w) hkey
  rw [(h2 kl).2] at hat
  rcases hf with ⟨h, rfl⟩ | h
  · rw [h] at hat
    simp at hat
    rw [hat]; exact hrun
  · rw [h] at hat
    simp at hat
    rw [hat]; exact hrun

/-- The store, without a walk. -/
theorem MapF.store (h : MapF w kt (plainElem Tryd.prog 3) b n f) (K : Keyed Tryd.prog kt) (ht : Tryd.prog.underlying t = some (.map kt 3)) (hn : n < maxLen) (hkey : keyOf Tryd.prog kt key = some kl) {v : Int} (hv : (Lit.int .i64 v).wf = true) :
    ∃ w', (Instr.mapUpdate t (.map (some b)) key (.int .i64 v)).run Tryd.prog w = .ok () w' ∧ MapF w' kt (plainElem Tryd.prog 3) b (n + 1) (putF f kl (.lit (.int .i64 v))) ∧ w.grownBy w' (some b) := by
  obtain ⟨D, h1, h2⟩ := h
  obtain ⟨w', hrun, h3, h4⟩ := h1.update K ht hn hkey (elem_int v hv)
  have hM := h1.isMap
  have hk := K.key hkey
  refine ⟨w', hrun, ⟨_, h3, fun z => ?_⟩, h4⟩
  by_cases e : z = kl
  · subst e
    simp only [putF, if_true, Option.isSome_some, Option.getD_some]
    exact ⟨has_put_same hM hk _, fun y => atKey_put_same hM hk _ _⟩
  · simp only [putF, e, if_false]
    exact ⟨(has_put_other e _).trans (h2 z).1, fun y => (atKey_put_other e _ _).trans ((h2 z).2 y)⟩

theorem putF_putF (f : Lit → Option (DataW Unit)) (kl : Lit) (d d' : DataW Unit) : putF (putF f kl d) kl d' = putF f kl d' := by
  funext x
  unfold putF
  split <;> rfl
theorem putF_same (f : Lit → Option (DataW Unit)) (kl : Lit) (d : DataW Unit) : putF f kl d kl = some d := by simp [putF]

theorem MapF.mono (h : MapF w kt (plainElem Tryd.prog 3) b n f) {n' : Nat} (hn : n ≤ n') : MapF w kt (plainElem Tryd.prog 3) b n' f := by
  obtain ⟨D, h1, h2⟩ := h
  exact ⟨D, h1.mono hn, h2⟩

theorem nodup_inj {α β : Type} {g : α → β} {l : List α} (h : (l.map g).Nodup) {i j : Nat} {a b : α} (hi : l[i]? = some a) (hj : l[j]? = some b) (e : g a = g b) : i = j := by
  have hil := (List.getElem?_eq_some_iff.1 hi).1
  have hjl := (List.getElem?_eq_some_iff.1 hj).1
  have ha := (List.getElem?_eq_some_iff.1 hi).2
  have hb := (List.getElem?_eq_some_iff.1 hj).2
  have hp := List.pairwise_iff_getElem.1 h
  rcases Nat.lt_trichotomy i j with hlt | heq | hgt
  · have := hp i j (by simpa using hil) (by simpa using hjl) hlt
    simp [ha, hb, e] at this
  · exact heq
  · have := hp j i (by simpa using hjl) (by simpa using hil) hgt
    simp [ha, hb, e] at this

theorem find_born {es : Array MapEntry} {clock j : Nat} {e0 : MapEntry} (hS : MapKept.Stamped es clock) (hj : es.toList[j]? = some e0) : es.findIdx? (fun e => (e.born : Int) == (e0.born : Int)) = some j := by
  have hjl := (List.getElem?_eq_some_iff.1 hj).1
  rw [Array.findIdx?_eq_some_iff_getElem]
  refine ⟨by simpa using hjl, ?_, ?_⟩
  · have := (List.getElem?_eq_some_iff.1 hj).2
    simp at this
    simp [this]
  · intro i hi
    simp only [Bool.not_eq_true, beq_eq_false_iff_ne, ne_eq]
    intro e
    have hl : i < es.toList.length := by omega
    have := nodup_inj (g := fun x : MapEntry => x.born) hS.2.1 (List.getElem?_eq_getElem hl) hj (by simpa using Int.ofNat_inj.1 e)
    omega

theorem modify_eq {es : Array MapEntry} {j : Nat} {e0 : MapEntry} (h : es.toList[j]? = some e0) (g g' : MapEntry → MapEntry) (hg : g e0 = g' e0) : es.modify j g = es.modify j g' := by
  apply Array.ext
  · simp
  · intro i h1 h2
    rw [Array.getElem_modify, Array.getElem_modify]
    split
    · rename_i e
      subst e
      have hl : j < es.size := by simpa using h1
      have : es[j] = e0 := by simpa [hl] using h
      rw [this, hg]
    · rfl

/-- A store at an entry's stamp is the store at its key. -/
theorem store_eq {es : Array MapEntry} {clock j : Nat} {e0 : MapEntry} {val : Value} (K : Keyed Tryd.prog kt) (ht : Tryd.prog.underlying t = some (.map kt 3)) (hb : w.heap[b]? = some (.map es clock)) (F : WideElems.Fit Tryd.prog kt (plainElem (H := Unit) Tryd.prog 3) es clock)
    (hkey : keyOf Tryd.prog kt key = some kl) (hj : es.toList[j]? = some e0) (hk : e0.key = key) :
    (Instr.entryStore t (.map (some b)) (.int .i64 e0.born) val).run Tryd.prog w = (Instr.mapUpdate t (.map (some b)) key val).run Tryd.prog w := by
  have hfi := find_born F.stamped hj
  rcases K.find w hkey es.toList F.keys with ⟨ha, hne⟩ | ⟨j', e', hx, hj', hk'⟩
  · exact absurd hk (hne e0 (List.mem_of_getElem? hj))
  · have ej : j' = j := nodup_inj (g := fun x : MapEntry => x.key) F.stamped.2.2 hj' hj (by rw [hk, hk'])
    subst ej
    have ee : e' = e0 := Option.some.inj (hj'.symm.trans hj)
    subst ee
    have hm := modify_eq hj (fun e => { e with val := val }) (fun e => { e with key := key, val := val }) (by cases e'; simp at hk; subst hk; rfl)
    have hk2 : ((es[j']?).map (·.key)).getD key = key := by
      rw [← Array.getElem?_toList, hj]
      simp [hk]
    have hst := K.stays w hkey
    simp [Instr.entryStore, Instr.mapUpdate, run_underlying ht, MapKept.run_getObj_map hb, K.check w false hkey, hx, MapKept.run_setObj_map _ hb, Result.andThen, asInt, asIntOf, hfi, hm, hk2, hst]

theorem count_step (h : MapF w kt (plainElem Tryd.prog 3) b n f) (K : Keyed Tryd.prog kt) (ht : Tryd.prog.underlying t = some (.map kt 3)) (hn : n + 1 < maxLen) (hkey : keyOf Tryd.prog kt key = some kl) {c v : Int} (hf : (f kl = none ∧ c = 0) ∨ f kl = some (.lit (.int .i64 c))) (hv : (Lit.int .i64 v).wf = true) :
    ∃ w2 w3 born, (Instr.lookup t (.map (some b)) key false).run Tryd.prog w = .ok (.int .i64 c) w ∧ (Instr.mapEntry t (.map (some b)) key).run Tryd.prog w = .ok (.tuple #[.int .i64 c, .int .i64 born]) w2 ∧
      (Instr.lookup t (.map (some b)) key false).run Tryd.prog w2 = .ok (.int .i64 c) w2 ∧ (Instr.entryStore t (.map (some b)) (.int .i64 born) (.int .i64 v)).run Tryd.prog w2 = .ok () w3 ∧
      MapF w3 kt (plainElem Tryd.prog 3) b (n + 2) (putF f kl (.lit (.int .i64 v))) ∧ w.grownBy w2 (some b) ∧ w.grownBy w3 (some b) := by
  have hlook := h.look K ht hkey hf
  have h0 := h
  obtain ⟨D, h1, h2⟩ := h
  obtain ⟨es, clock, hb, F, hs, hD⟩ := h1
  rcases K.find w hkey es.toList F.keys with ⟨ha, hne⟩ | ⟨j, e0, hx, hj, hk⟩
  · have hl : (Instr.lookup t (.map (some b)) key false).run Tryd.prog w = .ok (.int .i64 0) w := by
      simp [Instr.lookup, run_underlying ht, MapKept.run_getObj_map hb, K.check w _ hkey, ha, zero_int w, Result.andThen]
    rw [hlook] at hl
    obtain rfl : c = 0 := by simpa using hl
    obtain ⟨w2, hU, hM2, hG2⟩ := h0.store K ht (by omega) hkey (v := 0) (by decide)
    have hU2 : (Instr.mapUpdate t (.map (some b)) key (.int .i64 0)).run Tryd.prog w = .ok () (setBlock w b (.map (es.push ⟨key, .int .i64 0, clock⟩) (clock + 1))) := by
      simp [Instr.mapUpdate, run_underlying ht, MapKept.run_getObj_map hb, K.check w false hkey, ha, MapKept.run_setObj_map _ hb, Result.andThen, setBlock]
    have hE : (Instr.mapEntry t (.map (some b)) key).run Tryd.prog w = .ok (.tuple #[.int .i64 0, .int .i64 clock]) (setBlock w b (.map (es.push ⟨key, .int .i64 0, clock⟩) (clock + 1))) := by
      simp [Instr.mapEntry, run_underlying ht, MapKept.run_getObj_map hb, K.check w false hkey, ha, zero_int w, MapKept.run_setObj_map _ hb, Result.andThen, setBlock, goInt]
    have e2 : w2 = setBlock w b (.map (es.push ⟨key, .int .i64 0, clock⟩) (clock + 1)) := by
      rw [hU] at hU2
      simpa using hU2
    rw [← e2] at hE
    have hlook2 := hM2.look K ht hkey (c := 0) (.inr (putF_same _ _ _))
    obtain ⟨w3, hU3, hM3, hG3⟩ := hM2.store K ht (by omega) hkey hv
    have hb2 : w2.heap[b]? = some (.map (es.push ⟨key, .int .i64 0, clock⟩) (clock + 1)) := by rw [e2]; exact heap_setBlock_same hb _
    obtain ⟨D2, ⟨es2, clock2, hbb, F2, _, _⟩, _⟩ := hM2
    rw [hb2] at hbb
    simp at hbb
    obtain ⟨rfl, rfl⟩ := hbb
    have hst := store_eq (w := w2) (val := .int .i64 v) (j := es.size) (e0 := ⟨key, .int .i64 0, clock⟩) K ht hb2 F2 hkey (by simp) rfl
    refine ⟨w2, w3, clock, hlook, hE, hlook2, hst.trans hU3, ?_, hG2, ⟨hG3.os.trans hG2.os, hG3.tape.trans hG2.tape, hG3.output.trans hG2.output, Nat.le_trans hG2.size hG3.size, fun k hk hne => (hG3.block k (Nat.lt_of_lt_of_le hk hG2.size) hne).trans (hG2.block k hk hne)⟩⟩
    rw [← putF_putF f kl (.lit (.int .i64 0)) (.lit (.int .i64 v))]
    exact hM3
  · have hl : (Instr.lookup t (.map (some b)) key false).run Tryd.prog w = .ok e0.val w := by
      simp [Instr.lookup, run_underlying ht, MapKept.run_getObj_map hb, K.check w _ hkey, hx, Result.andThen]
    rw [hlook] at hl
    have hv0 : e0.val = .int .i64 c := by simpa using hl.symm
    have hk2 : ((es[j]?).map (·.key)).getD key = key := by
      rw [← Array.getElem?_toList, hj]
      simp [hk]
    have hb2 : ((es[j]?).map (fun x => (x.born : Int))).getD 0 = (e0.born : Int) := by
      rw [← Array.getElem?_toList, hj]
      simp
    have hmod : es.modify j (fun e => { e with key := key }) = es := modify_same (by rw [← Array.getElem?_toList]; exact hj) _ (by cases e0; simp at hk; subst hk; rfl)
    have hsame := setBlock_same hb
    have hst := K.stays w hkey
    have hE : (Instr.mapEntry t (.map (some b)) key).run Tryd.prog w = .ok (.tuple #[.int .i64 c, .int .i64 e0.born]) w := by
      have : (Instr.mapEntry t (.map (some b)) key).run Tryd.prog w = .ok (.tuple #[e0.val, .int .i64 e0.born]) (setBlock w b (.map es clock)) := by
        simp [Instr.mapEntry, run_underlying ht, MapKept.run_getObj_map hb, K.check w false hkey, hx, MapKept.run_setObj_map _ hb, Result.andThen, setBlock, goInt, hk2, hb2, hst, hmod]
      rw [this, hv0, hsame]
    obtain ⟨w3, hU3, hM3, hG3⟩ := h0.store K ht (by omega) hkey hv
    have hst2 := store_eq (w := w) (val := .int .i64 v) K ht hb F hkey hj hk
    exact ⟨w, w3, e0.born, hlook, hE, hlook, hst2.trans hU3, hM3.mono (by omega), ⟨rfl, rfl, rfl, Nat.le_refl _, fun _ _ _ => rfl⟩, hG3⟩
end Go.Proofs.YtfcaebceklhbkaaDoor
