/-
  Merged out of: Num Name RefNum Mem Topic Thread.
-/
import Derived.Test.YtdmhlhoimaeacaaDoorOwn
import Derived.Test.YtdmhlhoimaeacaaDoorPlain
import Derived.Test.YtdmhlhoimaeacaaDoorShelf
import Derived.Lib.ConvBytes
import Derived.Deep.DeepCutAuto
import Derived.Deep.CutBlock
import Derived.Maps.Own
import Derived.Maps.OwnOps
import Derived.Maps.OwnSet
import Derived.Maps.Views
import Derived.DeepKeys4
import Derived.Deep.RegionLaw
import Derived.StillTailTactics
/-
  A word as a number (script.number, within, count).
-/
namespace Go.Proofs.YtdmhlhoimaeacaaDoor
open Go.RowKit
set_option linter.unusedVariables false

/-- What the text's readers lean on: a table, a variable, a number. -/
structure Env (N : Nat) (w : World) : Prop where
  tab : ∀ w2, Below N w w2 → Lib.TabIs Tryd.prog w2 "internal/strconv.uint64pow10" .u64 Lib.pow10Tab
  rng : ∃ t p, w.cell? ⟨5, 0, none⟩ = some (.iface t p)
  len : ∃ m, w.cell? ⟨0, 0, none⟩ = some (.int .i64 m)
  low : 6 ≤ N
  nw : N ≤ w.heap.size
theorem Env.below {N : Nat} {w w' : World} (h : Env N w) (hb : Below N w w') (hs : w.heap.size ≤ w'.heap.size) : Env N w' := by
  obtain ⟨t, p, hr⟩ := h.rng
  obtain ⟨m, hm⟩ := h.len
  have h6 := h.low
  exact ⟨fun w2 h2 => h.tab w2 (hb.trans h2), ⟨t, p, (hb.cell (p := ⟨5, 0, none⟩) (show 5 < N by omega)).trans hr⟩, ⟨m, (hb.cell (p := ⟨0, 0, none⟩) (show 0 < N by omega)).trans hm⟩, h.low, Nat.le_trans h.nw hs⟩
theorem Env.up {N : Nat} {w w' : World} (h : Env N w) (hb : Below w.heap.size w w') : Env N w' := h.below (hb.mono h.nw) hb.size

theorem trim_digW (l : Word) : Lib.trimPrefix l [45] = digW l := by
  cases l with
  | nil => rfl
  | cons c r =>
    unfold digW negW Lib.trimPrefix
    by_cases h : c = 45
    · subst h; simp [Lib.hasPrefix]
    · simp [Lib.hasPrefix, h]
      intro h2; exact absurd h2.symm h
/-- What a reader of a number answers. -/
def NumD (o : Option Int) (w : World) (e : Ending) (w' : World) : Prop :=
  ∃ n, e = .returned (.tuple #[.int .i64 n, .bool o.isSome]) ∧ (∀ m, o = some m → n = m) ∧ Below w.heap.size w w'

/-- Is a word ruled out by how it begins? -/
def leadB (D : Word) (m : Nat) : Bool := D.isEmpty || (decide (D.length < m) && D == [48]) || (decide (1 < D.length) && D.head? == some 48)
theorem lead_good (l : Word) : goodNum l = (!leadB (digW l) l.length && (digW l).all isDig) := by
  unfold goodNum leadB
  cases l with
  | nil => rfl
  | cons c r =>
    by_cases h : c = 45
    · subst h
      have hn : negW (45 :: r) = true := by simp [negW]
      have hd : digW (45 :: r) = r := by simp [digW, hn]
      rw [hd, hn]
      cases r with
      | nil => rfl
      | cons c2 r2 => cases r2 <;> simp
    · have hn : negW (c :: r) = false := by simp [negW, h]
      have hd : digW (c :: r) = c :: r := by simp [digW, hn]
      rw [hd, hn]
      simp only [Bool.false_or, List.head?_cons, List.length_cons, Nat.lt_irrefl, decide_false, Bool.false_and, Bool.or_false, List.isEmpty_cons]
      cases (some c == some 48) <;> cases (decide (1 < r.length + 1)) <;> rfl

theorem first_byte {D : Word} (h : 0 < (ByteArray.mk D.toArray).size) : ((((ByteArray.mk D.toArray)[0]'h).toNat : Int) == 48) = (D.head? == some 48) := by
  cases D with
  | nil => simp [ByteArray.size] at h
  | cons c r =>
    show ((c.toNat : Int) == 48) = (some c == some 48)
    rw [Bool.eq_iff_iff]
    simp only [beq_iff_eq, Option.some.injEq]
    constructor
    · intro h; exact UInt8.toNat_inj.1 (by show c.toNat = 48; omega)
    · intro h; subst h; rfl
theorem leadW1 {D : Word} {n : Nat} (h : D = []) : true = leadB D n := by subst h; rfl
theorem leadW2 {D : Word} {n : Nat} (h1 : D.length < n) (h : D = [48]) : true = leadB D n := by subst h; simp only [leadB, decide_eq_true h1]; rfl
theorem leadW3 {D : Word} {n : Nat} (h1 : D.length < n) (h3 : 1 < (D.length : Int)) (h : 0 < (ByteArray.mk D.toArray).size) : (D.isEmpty || D == [48] || (((ByteArray.mk D.toArray)[0]'h).toNat : Int) == 48) = leadB D n := by
  rw [first_byte h]
  simp only [leadB, decide_eq_true h1, decide_eq_true (show 1 < D.length by omega), Bool.true_and]
theorem leadW4 {D : Word} {n : Nat} (h1 : D.length < n) (h3 : (D.length : Int) ≤ 1) : (D.isEmpty || D == [48]) = leadB D n := by
  simp only [leadB, decide_eq_true h1, decide_eq_false (show ¬ 1 < D.length by omega), Bool.true_and, Bool.false_and, Bool.or_false]
theorem leadW5 {D : Word} {n : Nat} (h1 : ¬ D.length < n) (h3 : 1 < (D.length : Int)) (h : 0 < (ByteArray.mk D.toArray).size) : (D.isEmpty || (((ByteArray.mk D.toArray)[0]'h).toNat : Int) == 48) = leadB D n := by
  rw [first_byte h]
  simp only [leadB, decide_eq_false h1, decide_eq_true (show 1 < D.length by omega), Bool.true_and, Bool.false_and, Bool.or_false]
theorem leadW6 {D : Word} {n : Nat} (h1 : ¬ D.length < n) (h3 : (D.length : Int) ≤ 1) : D.isEmpty = leadB D n := by
  simp only [leadB, decide_eq_false h1, decide_eq_false (show ¬ 1 < D.length by omega), Bool.false_and, Bool.or_false]
set_option maxRecDepth 100000 in
set_option maxHeartbeats 4000000 in
theorem number_walk (s : ByteArray) (N : Nat) (w : World) (hs : s.size ≤ 4000000000) (hE : Env N w) : Calls Tryd.prog 68 #[.string s] w (NumD (numF s.data.toList) w) := by
  have hT := trim_digW s.data.toList
  have hL := lead_good s.data.toList
  have hP := fun h => parse_good (l := s.data.toList) h
  have hF : numF s.data.toList = if goodNum s.data.toList && in64B (valW s.data.toList) then some (valW s.data.toList) else none := rfl
  have hsz : s.data.toList.length = s.size := rfl
  have hDl : (digW s.data.toList).length ≤ s.size := by
    rw [← hsz]
    unfold digW
    split <;> simp
  have hOK := fun v h => Tryd.strconv_ParseInt_10_at64_ok s (by omega) v h
  obtain ⟨rt, rp, hr⟩ := hE.rng
  have hRG := fun (W : World) h hc => Tryd.strconv_ParseInt_10_at64_range s (by omega) h (.iface rt rp) W hc (.inr ⟨_, _, rfl⟩)
  have hlow := hE.low
  have hnw := hE.nw
  rw [← hT, hsz] at hL
  rw [← hT] at hDl
  have HT := Lib.hid hT
  generalize numF s.data.toList = o at *
  generalize valW s.data.toList = x at *
  generalize goodNum s.data.toList = gd at *
  have HL := Lib.hid hL
  have HP := Lib.hid hP
  have HF := Lib.hid hF
  have HOK := Lib.hid hOK
  have HRG := Lib.hid hRG
  have HR := Lib.hid hr
  clear hT hL hP hF hsz hOK hRG hr
  go_enter Tryd.func68, Tryd.ntmps68
  go_wp2_with fail
  refine (Tryd.strings_TrimPrefix s _ w).mono ?_
  rintro e w' ⟨rfl, rfl⟩
  generalize Lib.trimPrefix s.data.toList _ = D at *
  go_upto_region 2 with fail
  go_cut [4, 33] (fun dv v wx => dv = .string ⟨D.toArray⟩ ∧ v = .bool (leadB D s.size) ∧ wx = w')
  case first =>
    go_wp2_with fail
    all_goals
      go_meet
      refine ⟨(by first | rfl | (have h : D = [] := (by assumption); simp [h]; done) | (have h : D = [48] := (by assumption); simp [h]; done)), congrArg Value.bool ?_, rfl⟩
      first | exact leadW1 (by assumption) | exact leadW2 (by assumption) (by assumption) | exact leadW3 (by assumption) (by assumption) _ | exact leadW4 (by assumption) (by assumption) | exact leadW5 (by assumption) (by assumption) _ | exact leadW6 (by assumption) (by assumption)
  case rest =>
    obtain ⟨rfl, rfl, rfl⟩ := hcut
    have hcv := fun (w : World) => Lib.run_convert_string_bytes (P := Tryd.prog) w 9 42 5 ⟨D.toArray⟩ Tryd.underlying9 Tryd.underlying42 Tryd.underlying5
    cases hld : leadB D s.size with
    | true =>
      have hg : gd = false := by have h := HL.out; rw [hld] at h; simpa using h
      have ho : o = none := by have h := HF.out; rw [hg] at h; simpa using h
      have HO := Lib.hid ho
      clear hg ho hcv
      go_wp2_with fail
      exact bodyPost_ret (v := .tuple #[.int .i64 0, .bool false]) (by simp [results, Tryd.results68, go_sem]) rfl ⟨0, (by rw [HO.out]; rfl), (fun m hm => by rw [HO.out] at hm; cases hm), Below.refl _ _⟩
    | false =>
      have hsD : (ByteArray.mk D.toArray).size = D.length := by simp [ByteArray.size]
      rw [hsD] at hcv
      have hbw : Below wc.heap.size wc (Lib.bytesWorld wc 5 ⟨D.toArray⟩) := Lib.bytesWorld_below wc 5 ⟨D.toArray⟩
      have hcell : ∀ j : Nat, j < D.length → (Lib.bytesWorld wc 5 ⟨D.toArray⟩).cell? ⟨wc.heap.size, j, none⟩ = some (.int .u8 ((D.getD j 0).toNat : Int)) := fun j hj => by
        have := Lib.bytesWorld_cell wc 5 ⟨D.toArray⟩ j (by rw [hsD]; exact hj)
        simpa using this
      have hcv1 := hcv wc
      have HL1 : Hid (gd = D.all isDig) := Lib.hid (by have h := HL.out; rw [hld] at h; simpa using h)
      generalize Lib.bytesWorld wc 5 ⟨D.toArray⟩ = W at *
      have HB := Lib.hid hbw
      have HC := Lib.hid hcell
      clear hbw hcell hcv hsD
      go_upto_region 5 with fail
      generalize hn : D.length = n at *
      have HN := Lib.hid hn
      clear hn
      go_loop [37] (fun iv => ∃ k : Nat, k ≤ n ∧ iv = .int .i64 k ∧ (D.take k).all isDig = true) (fun iv => n - (intOf iv).toNat)
      case atStart => exact ⟨0, by omega, rfl, rfl⟩
      case round =>
        obtain ⟨k, hk, rfl, hall⟩ := hrel
        have HALL := Lib.hid hall
        clear hall
        by_cases hlt : k < n
        · have hc := HC.out k hlt
          have HTK : Hid ((D.take (k + 1)).all isDig = ((D.take k).all isDig && isDig (D.getD k 0))) := Lib.hid (by
            have hkD : k < D.length := by rw [HN.out]; exact hlt
            rw [List.take_succ_eq_append_getElem hkD, List.all_append]
            simp [List.getD, hkD])
          have HMEM : Hid (isDig (D.getD k 0) = false → D.all isDig = false) := Lib.hid (fun h => by
            have hkD : k < D.length := by rw [HN.out]; exact hlt
            rw [← Bool.not_eq_true, List.all_eq_true]
            intro hall
            have := hall (D.getD k 0) (by simp [List.getD, hkD])
            rw [h] at this
            cases this)
          have HDG : Hid (isDig (D.getD k 0) = true ↔ 48 ≤ (D.getD k 0).toNat ∧ (D.getD k 0).toNat ≤ 57) := Lib.hid (isDig_iff _)
          generalize D.getD k 0 = c at *
          by_cases hcd : 48 ≤ c.toNat ∧ c.toNat ≤ 57
          · obtain ⟨hc1, hc2⟩ := hcd
            have h1 : ¬ (c.toNat : Int) < 48 := by omega
            have h2 : ¬ (c.toNat : Int) > 57 := by omega
            go_wp2_with fail
            go_round
            case rel => exact ⟨k + 1, by omega, by go_num, by rw [HTK.out, HALL.out, HDG.out.2 ⟨hc1, hc2⟩]; rfl⟩
            case measure => simp [intOf]; omega
          · have HBAD : Hid (o = none) := Lib.hid (by
              have h1 : isDig c = false := by
                rw [← Bool.not_eq_true]
                exact fun h => hcd (HDG.out.1 h)
              have h2 := HMEM.out h1
              have h3 := HF.out
              rw [HL1.out, h2] at h3
              simpa using h3)
            by_cases h1 : (c.toNat : Int) < 48
            · clear hcd
              go_wp2_with fail
              exact bodyPost_ret (v := .tuple #[.int .i64 0, .bool false]) (by simp [results, Tryd.results68, go_sem]) rfl ⟨0, (by rw [HBAD.out]; rfl), (fun m hm => by rw [HBAD.out] at hm; cases hm), HB.out⟩
            · have h2 : (c.toNat : Int) > 57 := by omega
              clear hcd
              go_wp2_with fail
              exact bodyPost_ret (v := .tuple #[.int .i64 0, .bool false]) (by simp [results, Tryd.results68, go_sem]) rfl ⟨0, (by rw [HBAD.out]; rfl), (fun m hm => by rw [HBAD.out] at hm; cases hm), HB.out⟩
        · obtain rfl : k = n := by omega
          have hgd : gd = true := by rw [HL1.out]; have h := HALL.out; rwa [← HN.out, List.take_length] at h
          cases h64 : in64B x with
          | true =>
            have hp : Lib.parseIntB 64 s.data.toList = .ok x := by rw [HP.out hgd, if_pos h64]
            have ho : o = some x := by rw [HF.out, hgd, h64]; rfl
            have HO := Lib.hid ho
            have HK := Lib.hid (HOK.out x hp W)
            clear hgd h64 hp ho
            go_wp2_with fail
            refine HK.out.mono ?_
            rintro e w2 ⟨rfl, h2⟩
            have HB2 : Hid (Below wc.heap.size wc w2) := Lib.hid (by
              rcases h2 with rfl | ⟨t, rfl⟩
              · exact HB.out
              · exact HB.out.trans ((Lib.bytesWorld_below W 5 t).mono HB.out.size))
            clear h2
            go_wp2_with fail
            go_quiet (fail)
            go_wp2_with fail
            exact bodyPost_ret (v := .tuple #[.int .i64 x, .bool true]) (by simp [results, Tryd.results68, go_sem]) rfl ⟨x, (by rw [HO.out]; rfl), (fun m hm => by rw [HO.out] at hm; cases hm; rfl), below_drewN HB2.out _⟩
          | false =>
            have hp : Lib.parseIntB 64 s.data.toList = .range := by rw [HP.out hgd, if_neg (by rw [h64]; simp)]
            have ho : o = none := by rw [HF.out, hgd, h64]; rfl
            have HO := Lib.hid ho
            have HK := Lib.hid (HRG.out W hp ((HB.out.cell (p := ⟨5, 0, none⟩) (show 5 < wc.heap.size by omega)).trans HR.out))
            clear hgd h64 hp ho
            go_wp2_with fail
            refine HK.out.mono ?_
            rintro e w2 ⟨M, rfl, hM1, hM2, h2⟩
            have HB2 : Hid (Below wc.heap.size wc w2) := Lib.hid (HB.out.trans (h2.mono HB.out.size))
            clear h2 hM2
            go_wp2_with fail
            go_quiet (fail)
            go_wp2_with fail
            exact bodyPost_ret (v := .tuple #[.int .i64 (Lib.intSat 64 s.data.toList), .bool false]) (by simp [results, Tryd.results68, go_sem]) rfl ⟨_, (by rw [HO.out]; rfl), (fun m hm => by rw [HO.out] at hm; cases hm), below_drewN HB2.out _⟩

/-- A number from lo to hi. -/
theorem within_walk (s : ByteArray) (lo hi : Int) (N : Nat) (w : World) (hs : s.size ≤ 4000000000) (hE : Env N w) : Calls Tryd.prog 69 #[.string s, .int .i64 lo, .int .i64 hi] w (NumD (withinF s.data.toList lo hi) w) := by
  have HN := Lib.hid (number_walk s N w hs hE)
  have hF : withinF s.data.toList lo hi = (numF s.data.toList).bind fun n => if lo ≤ n ∧ n ≤ hi then some n else none := rfl
  generalize withinF s.data.toList lo hi = o2 at *
  generalize numF s.data.toList = o at *
  have HF := Lib.hid hF
  clear hF
  go_enter Tryd.func69, Tryd.ntmps69
  go_wp2_with fail
  refine HN.out.mono ?_
  rintro e w2 ⟨n, rfl, hn, hb⟩
  have HB := Lib.hid hb
  clear hb
  cases o with
  | none =>
    have ho : o2 = none := HF.out
    have HO := Lib.hid ho
    clear ho hn
    simp only [Option.isSome_none]
    go_wp2_with fail
    exact bodyPost_ret (v := .tuple #[.int .i64 n, .bool false]) (by simp [results, Tryd.results69, go_sem]) rfl ⟨n, (by rw [HO.out]; rfl), (fun m hm => by rw [HO.out] at hm; cases hm), HB.out⟩
  | some n' =>
    obtain rfl := hn n' rfl
    clear hn
    simp only [Option.isSome_some]
    by_cases h : lo ≤ n ∧ n ≤ hi
    · have ho : o2 = some n := by rw [HF.out]; exact if_pos h
      have HO := Lib.hid ho
      obtain ⟨h1, h2⟩ := h
      clear ho
      go_wp2_with fail
      exact bodyPost_ret (v := .tuple #[.int .i64 n, .bool true]) (by simp [results, Tryd.results69, go_sem]) rfl ⟨n, (by rw [HO.out]; rfl), (fun m hm => by rw [HO.out] at hm; cases hm; rfl), HB.out⟩
    · have ho : o2 = none := by rw [HF.out]; exact if_neg h
      have HO := Lib.hid ho
      clear ho
      by_cases h1 : lo ≤ n
      · have h2 : ¬ n ≤ hi := fun h2 => h ⟨h1, h2⟩
        clear h
        go_wp2_with fail
        exact bodyPost_ret (v := .tuple #[.int .i64 n, .bool false]) (by simp [results, Tryd.results69, go_sem]) rfl ⟨n, (by rw [HO.out]; rfl), (fun m hm => by rw [HO.out] at hm; cases hm), HB.out⟩
      · clear h
        go_wp2_with fail
        exact bodyPost_ret (v := .tuple #[.int .i64 n, .bool false]) (by simp [results, Tryd.results69, go_sem]) rfl ⟨n, (by rw [HO.out]; rfl), (fun m hm => by rw [HO.out] at hm; cases hm), HB.out⟩
/-- A count. -/
theorem count_walk (s : ByteArray) (N : Nat) (w : World) (hs : s.size ≤ 4000000000) (hE : Env N w) : Calls Tryd.prog 70 #[.string s] w (NumD (withinF s.data.toList 1 65536) w) := by
  have HN := Lib.hid (within_walk s 1 65536 N w hs hE)
  generalize withinF s.data.toList 1 65536 = o at *
  go_enter Tryd.func70, Tryd.ntmps70
  go_wp2_with fail
  refine HN.out.mono ?_
  rintro e w2 ⟨n, rfl, hn, hb⟩
  have HB := Lib.hid hb
  have HM := Lib.hid hn
  clear hb hn
  go_wp2_with fail
  exact bodyPost_ret (v := .tuple #[.int .i64 n, .bool o.isSome]) (by simp [results, Tryd.results70, go_sem]) rfl ⟨n, rfl, HM.out, HB.out⟩
end Go.Proofs.YtdmhlhoimaeacaaDoor

/-
  Is a word a thread's name? (script.isName, carillonref21.Good)
-/
namespace Go.Proofs.YtdmhlhoimaeacaaDoor
open Go.RowKit
set_option linter.unusedVariables false

theorem nameC_iff (c : UInt8) : nameC c = true ↔ (97 ≤ c.toNat ∧ c.toNat ≤ 122) ∨ (48 ≤ c.toNat ∧ c.toNat ≤ 57) ∨ c.toNat = 95 := by
  unfold nameC isLow isDig
  simp only [Bool.or_eq_true, Bool.and_eq_true, decide_eq_true_eq, beq_iff_eq, or_assoc]
  have : c = 95 ↔ c.toNat = 95 := ⟨fun h => by rw [h]; rfl, fun h => UInt8.toNat_inj.1 h⟩
  rw [this]
theorem isLow_iff (c : UInt8) : isLow c = true ↔ 97 ≤ c.toNat ∧ c.toNat ≤ 122 := by simp [isLow]
theorem byte_at (s : ByteArray) (k : Nat) (h : k < s.size) : s.data.toList.getD k 0 = s[k] := by
  have h' : k < s.data.toList.length := h
  rw [List.getD, List.getElem?_eq_getElem h']
  rfl
theorem all_take {l : Word} {p : UInt8 → Bool} {k : Nat} (h : k < l.length) : (l.take (k + 1)).all p = ((l.take k).all p && p (l.getD k 0)) := by
  rw [List.take_succ_eq_append_getElem h, List.all_append]
  simp [List.getD, h]
theorem all_false {l : Word} {p : UInt8 → Bool} {k : Nat} (h : k < l.length) (hp : p (l.getD k 0) = false) : l.all p = false := by
  rw [← Bool.not_eq_true, List.all_eq_true]
  intro hall
  have := hall (l.getD k 0) (by simp [List.getD, h])
  rw [hp] at this
  cases this
theorem name_parts {s : ByteArray} (h0 : 0 < s.size) (h1 : s.size ≤ 40) (h2 : isLow s[0] = true) : nameF s.data.toList = s.data.toList.all nameC := by
  have hl : s.data.toList.length = s.size := rfl
  have hb := byte_at s 0 h0
  unfold nameF
  rw [decide_eq_true (show s.data.toList.length ≤ 40 by omega)]
  cases hs : s.data.toList with
  | nil => rw [hs] at hl; simp at hl; omega
  | cons c r =>
    rw [hs] at hb
    simp only [List.getD, List.getElem?_cons_zero, Option.getD_some] at hb
    subst hb
    simp [h2]
theorem name_no0 {s : ByteArray} (h0 : s.size = 0) : nameF s.data.toList = false := by
  have hl : s.data.toList.length = s.size := rfl
  have : s.data.toList = [] := List.eq_nil_of_length_eq_zero (by omega)
  rw [this]; rfl
theorem name_no1 {s : ByteArray} (h1 : 40 < s.size) : nameF s.data.toList = false := by
  have hl : s.data.toList.length = s.size := rfl
  unfold nameF
  rw [decide_eq_false (show ¬ s.data.toList.length ≤ 40 by omega)]
  simp
theorem name_no2 {s : ByteArray} (h0 : 0 < s.size) (h2 : isLow s[0] = false) : nameF s.data.toList = false := by
  have hl : s.data.toList.length = s.size := rfl
  have hb := byte_at s 0 h0
  unfold nameF
  cases hs : s.data.toList with
  | nil => rfl
  | cons c r =>
    rw [hs] at hb
    simp only [List.getD, List.getElem?_cons_zero, Option.getD_some] at hb
    subst hb
    simp [h2]

set_option maxRecDepth 100000 in
set_option maxHeartbeats 4000000 in
theorem isName_walk (s : ByteArray) (w : World) (hs : s.size ≤ 4000000000) : Calls Tryd.prog 66 #[.string s] w fun e w' => e = .returned (.bool (nameF s.data.toList)) ∧ Below w.heap.size w w' := by
  by_cases h0 : s.size = 0
  · have HB := Lib.hid (name_no0 h0)
    have hs0 : s = ⟨#[]⟩ := by
      cases s with
      | mk d => simp [ByteArray.size] at h0; subst h0; rfl
    subst hs0
    clear h0
    generalize nameF _ = b at *
    go_enter Tryd.func66, Tryd.ntmps66
    go_wp2_with fail
    go_ret
    exact ⟨by rw [HB.out]; rfl, Below.refl _ _⟩
  · have h0' : 0 < s.size := by omega
    have hne : ¬ s.toList = [] := fun h => by
      rw [Lib.toList_data] at h
      have hl : s.data.toList.length = s.size := rfl
      rw [h] at hl; simp at hl; omega
    have hne2 : s.toList.isEmpty = false := by cases h : s.toList with | nil => exact absurd h hne | cons _ _ => rfl
    by_cases h1 : 40 < s.size
    · have HB := Lib.hid (name_no1 h1)
      generalize nameF s.data.toList = b at *
      clear h0
      go_enter Tryd.func66, Tryd.ntmps66
      go_wp2_with fail
      go_ret
      exact ⟨by rw [HB.out]; rfl, Below.refl _ _⟩
    · cases h2 : isLow s[0] with
      | false =>
        have HB := Lib.hid (name_no2 h0' h2)
        have hlow : ¬ (97 ≤ s[0].toNat ∧ s[0].toNat ≤ 122) := fun h => by rw [(isLow_iff _).2 h] at h2; cases h2
        generalize nameF s.data.toList = b at *
        clear h0 h2
        by_cases h3 : (s[0].toNat : Int) < 97
        · clear hlow
          go_enter Tryd.func66, Tryd.ntmps66
          go_wp2_with fail
          go_ret
          exact ⟨by rw [HB.out]; rfl, Below.refl _ _⟩
        · have h4 : (s[0].toNat : Int) > 122 := by omega
          clear hlow
          go_enter Tryd.func66, Tryd.ntmps66
          go_wp2_with fail
          go_ret
          exact ⟨by rw [HB.out]; rfl, Below.refl _ _⟩
      | true =>
        have HB := Lib.hid (name_parts h0' (by omega) h2)
        have hlow := (isLow_iff _).1 h2
        have h3 : ¬ (s[0].toNat : Int) < 97 := by omega
        have h4 : ¬ (s[0].toNat : Int) > 122 := by omega
        generalize nameF s.data.toList = b at *
        clear h0 h2 hlow
        have hcv := Lib.run_convert_string_bytes (P := Tryd.prog) w 9 42 5 s Tryd.underlying9 Tryd.underlying42 Tryd.underlying5
        have hbw : Below w.heap.size w (Lib.bytesWorld w 5 s) := Lib.bytesWorld_below w 5 s
        have hcell : ∀ j : Nat, j < s.size → (Lib.bytesWorld w 5 s).cell? ⟨w.heap.size, j, none⟩ = some (.int .u8 ((s.data.toList.getD j 0).toNat : Int)) := fun j hj => Lib.bytesWorld_cell w 5 s j hj
        generalize Lib.bytesWorld w 5 s = W at *
        have HBW := Lib.hid hbw
        have HC := Lib.hid hcell
        clear hbw hcell
        go_enter Tryd.func66, Tryd.ntmps66
        go_wp2_with fail
        go_loop [25] (fun iv => ∃ k : Nat, k ≤ s.size ∧ iv = .int .i64 k ∧ (s.data.toList.take k).all nameC = true) (fun iv => s.size - (intOf iv).toNat)
        case atStart => exact ⟨0, by omega, rfl, rfl⟩
        case round =>
          obtain ⟨k, hk, rfl, hall⟩ := hrel
          have HALL := Lib.hid hall
          clear hall
          by_cases hlt : k < s.size
          · have hc := HC.out k hlt
            have HTK := Lib.hid (all_take (l := s.data.toList) (p := nameC) (k := k) hlt)
            have HAF := Lib.hid (all_false (l := s.data.toList) (p := nameC) (k := k) hlt)
            have HI := Lib.hid (nameC_iff (s.data.toList.getD k 0))
            generalize s.data.toList.getD k 0 = c at *
            by_cases a1 : 97 ≤ c.toNat
            · by_cases a2 : c.toNat ≤ 122
              · have HG : Hid ((97 ≤ c.toNat ∧ c.toNat ≤ 122) ∨ (48 ≤ c.toNat ∧ c.toNat ≤ 57) ∨ c.toNat = 95) := Lib.hid (by omega)
                have b1 : (97 : Int) ≤ (c.toNat : Int) := by omega
                have b2 : (c.toNat : Int) ≤ 122 := by omega
                clear a1 a2
                go_wp2_with fail
                go_round
                case rel => exact ⟨k + 1, by omega, by go_num, by rw [HTK.out, HALL.out, HI.out.2 HG.out]; rfl⟩
                case measure => simp [intOf]; omega
              · have HG : Hid (¬ ((97 ≤ c.toNat ∧ c.toNat ≤ 122) ∨ (48 ≤ c.toNat ∧ c.toNat ≤ 57) ∨ c.toNat = 95)) := Lib.hid (by omega)
                have b1 : (97 : Int) ≤ (c.toNat : Int) := by omega
                have b2 : ¬ (c.toNat : Int) ≤ 122 := by omega
                have b3 : (48 : Int) ≤ (c.toNat : Int) := by omega
                have b4 : ¬ (c.toNat : Int) ≤ 57 := by omega
                have b5 : ((c.toNat : Int) == 95) = false := by simp; omega
                have b6 : ((c.toNat : Int) != 95) = true := by simp; omega
                clear a1 a2
                go_wp2_with fail
                go_ret
                exact ⟨by rw [HB.out, HAF.out (by rw [← Bool.not_eq_true, HI.out]; exact HG.out)]; rfl, HBW.out⟩
            · have b1 : ¬ (97 : Int) ≤ (c.toNat : Int) := by omega
              by_cases a2 : 48 ≤ c.toNat
              · have b2 : (48 : Int) ≤ (c.toNat : Int) := by omega
                by_cases a3 : c.toNat ≤ 57
                · have HG : Hid ((97 ≤ c.toNat ∧ c.toNat ≤ 122) ∨ (48 ≤ c.toNat ∧ c.toNat ≤ 57) ∨ c.toNat = 95) := Lib.hid (by omega)
                  have b3 : (c.toNat : Int) ≤ 57 := by omega
                  clear a1 a2 a3
                  go_wp2_with fail
                  go_round
                  case rel => exact ⟨k + 1, by omega, by go_num, by rw [HTK.out, HALL.out, HI.out.2 HG.out]; rfl⟩
                  case measure => simp [intOf]; omega
                · have b3 : ¬ (c.toNat : Int) ≤ 57 := by omega
                  by_cases a4 : c.toNat = 95
                  · have HG : Hid ((97 ≤ c.toNat ∧ c.toNat ≤ 122) ∨ (48 ≤ c.toNat ∧ c.toNat ≤ 57) ∨ c.toNat = 95) := Lib.hid (by omega)
                    have b4 : ((c.toNat : Int) == 95) = true := by simp; omega
                    have b5 : ((c.toNat : Int) != 95) = false := by simp; omega
                    clear a1 a2 a3 a4
                    go_wp2_with fail
                    go_round
                    case rel => exact ⟨k + 1, by omega, by go_num, by rw [HTK.out, HALL.out, HI.out.2 HG.out]; rfl⟩
                    case measure => simp [intOf]; omega
                  · have HG : Hid (¬ ((97 ≤ c.toNat ∧ c.toNat ≤ 122) ∨ (48 ≤ c.toNat ∧ c.toNat ≤ 57) ∨ c.toNat = 95)) := Lib.hid (by omega)
                    have b4 : ((c.toNat : Int) == 95) = false := by simp; omega
                    have b5 : ((c.toNat : Int) != 95) = true := by simp; omega
                    clear a1 a2 a3 a4
                    go_wp2_with fail
                    go_ret
                    exact ⟨by rw [HB.out, HAF.out (by rw [← Bool.not_eq_true, HI.out]; exact HG.out)]; rfl, HBW.out⟩
              · have HG : Hid (¬ ((97 ≤ c.toNat ∧ c.toNat ≤ 122) ∨ (48 ≤ c.toNat ∧ c.toNat ≤ 57) ∨ c.toNat = 95)) := Lib.hid (by omega)
                have b2 : ¬ (48 : Int) ≤ (c.toNat : Int) := by omega
                have b4 : ((c.toNat : Int) == 95) = false := by simp; omega
                have b5 : ((c.toNat : Int) != 95) = true := by simp; omega
                clear a1 a2
                go_wp2_with fail
                go_ret
                exact ⟨by rw [HB.out, HAF.out (by rw [← Bool.not_eq_true, HI.out]; exact HG.out)]; rfl, HBW.out⟩
          · obtain rfl : k = s.size := by omega
            have HT : Hid (s.data.toList.all nameC = true) := Lib.hid (by
              have h := HALL.out
              rwa [List.take_of_length_le (by show s.data.toList.length ≤ s.size; exact Nat.le_refl _)] at h)
            go_wp2_with fail
            go_ret
            exact ⟨by rw [HB.out, HT.out]; rfl, HBW.out⟩

set_option maxRecDepth 100000 in
set_option maxHeartbeats 4000000 in
theorem good_walk (s : ByteArray) (w : World) (hs : s.size ≤ 4000000000) : Calls Tryd.prog 45 #[.string s] w fun e w' => e = .returned (.bool (nameF s.data.toList)) ∧ w = w' := by
  by_cases h0 : s.size = 0
  · have HB := Lib.hid (name_no0 h0)
    have h0' : (s.size : Int) < 1 := by omega
    generalize nameF s.data.toList = b at *
    clear h0
    go_enter Tryd.func45, Tryd.ntmps45
    go_wp2_with fail
    go_ret
    exact ⟨by rw [HB.out]; rfl, rfl⟩
  · have h0' : 0 < s.size := by omega
    have h0'' : ¬ (s.size : Int) < 1 := by omega
    by_cases h1 : 40 < s.size
    · have HB := Lib.hid (name_no1 h1)
      generalize nameF s.data.toList = b at *
      clear h0
      go_enter Tryd.func45, Tryd.ntmps45
      go_wp2_with fail
      go_ret
      exact ⟨by rw [HB.out]; rfl, rfl⟩
    · cases h2 : isLow s[0] with
      | false =>
        have HB := Lib.hid (name_no2 h0' h2)
        have hlow : ¬ (97 ≤ s[0].toNat ∧ s[0].toNat ≤ 122) := fun h => by rw [(isLow_iff _).2 h] at h2; cases h2
        generalize nameF s.data.toList = b at *
        clear h0 h2
        by_cases h3 : (s[0].toNat : Int) < 97
        · clear hlow
          go_enter Tryd.func45, Tryd.ntmps45
          go_wp2_with fail
          go_ret
          exact ⟨by rw [HB.out]; rfl, rfl⟩
        · have h4 : (s[0].toNat : Int) > 122 := by omega
          clear hlow
          go_enter Tryd.func45, Tryd.ntmps45
          go_wp2_with fail
          go_ret
          exact ⟨by rw [HB.out]; rfl, rfl⟩
      | true =>
        have HB := Lib.hid (name_parts h0' (by omega) h2)
        have hlow := (isLow_iff _).1 h2
        have h3 : ¬ (s[0].toNat : Int) < 97 := by omega
        have h4 : ¬ (s[0].toNat : Int) > 122 := by omega
        generalize nameF s.data.toList = b at *
        clear h0 h2 hlow
        go_enter Tryd.func45, Tryd.ntmps45
        go_wp2_with fail
        go_loop [3] (fun iv => ∃ k : Nat, k ≤ s.size ∧ iv = .int .i64 k ∧ (s.data.toList.take k).all nameC = true) (fun iv => s.size - (intOf iv).toNat)
        case atStart => exact ⟨0, by omega, rfl, rfl⟩
        case round =>
          obtain ⟨k, hk, rfl, hall⟩ := hrel
          have HALL := Lib.hid hall
          clear hall h3 h4
          by_cases hlt : k < s.size
          · have hb := byte_at s k hlt
            have HTK := Lib.hid (all_take (l := s.data.toList) (p := nameC) (k := k) hlt)
            have HAF := Lib.hid (all_false (l := s.data.toList) (p := nameC) (k := k) hlt)
            rw [hb] at HTK HAF
            have HI := Lib.hid (nameC_iff s[k])
            clear hb
            by_cases a1 : 97 ≤ s[k].toNat
            · by_cases a2 : s[k].toNat ≤ 122
              · have HG : Hid ((97 ≤ s[k].toNat ∧ s[k].toNat ≤ 122) ∨ (48 ≤ s[k].toNat ∧ s[k].toNat ≤ 57) ∨ s[k].toNat = 95) := Lib.hid (by omega)
                have b1 : (97 : Int) ≤ (s[k].toNat : Int) := by omega
                have b2 : (s[k].toNat : Int) ≤ 122 := by omega
                clear a1 a2
                go_wp2_with fail
                go_round
                case rel => exact ⟨k + 1, by omega, by go_num, by rw [HTK.out, HALL.out, HI.out.2 HG.out]; rfl⟩
                case measure => simp [intOf]; omega
              · have HG : Hid (¬ ((97 ≤ s[k].toNat ∧ s[k].toNat ≤ 122) ∨ (48 ≤ s[k].toNat ∧ s[k].toNat ≤ 57) ∨ s[k].toNat = 95)) := Lib.hid (by omega)
                have b1 : (97 : Int) ≤ (s[k].toNat : Int) := by omega
                have b2 : ¬ (s[k].toNat : Int) ≤ 122 := by omega
                have b3 : (48 : Int) ≤ (s[k].toNat : Int) := by omega
                have b4 : ¬ (s[k].toNat : Int) ≤ 57 := by omega
                have b5 : ((s[k].toNat : Int) == 95) = false := by simp; omega
                have b6 : ((s[k].toNat : Int) != 95) = true := by simp; omega
                clear a1 a2
                go_wp2_with fail
                go_ret
                exact ⟨by rw [HB.out, HAF.out (by rw [← Bool.not_eq_true, HI.out]; exact HG.out)]; rfl, rfl⟩
            · have b1 : ¬ (97 : Int) ≤ (s[k].toNat : Int) := by omega
              by_cases a2 : 48 ≤ s[k].toNat
              · have b2 : (48 : Int) ≤ (s[k].toNat : Int) := by omega
                by_cases a3 : s[k].toNat ≤ 57
                · have HG : Hid ((97 ≤ s[k].toNat ∧ s[k].toNat ≤ 122) ∨ (48 ≤ s[k].toNat ∧ s[k].toNat ≤ 57) ∨ s[k].toNat = 95) := Lib.hid (by omega)
                  have b3 : (s[k].toNat : Int) ≤ 57 := by omega
                  clear a1 a2 a3
                  go_wp2_with fail
                  go_round
                  case rel => exact ⟨k + 1, by omega, by go_num, by rw [HTK.out, HALL.out, HI.out.2 HG.out]; rfl⟩
                  case measure => simp [intOf]; omega
                · have b3 : ¬ (s[k].toNat : Int) ≤ 57 := by omega
                  by_cases a4 : s[k].toNat = 95
                  · have HG : Hid ((97 ≤ s[k].toNat ∧ s[k].toNat ≤ 122) ∨ (48 ≤ s[k].toNat ∧ s[k].toNat ≤ 57) ∨ s[k].toNat = 95) := Lib.hid (by omega)
                    have b4 : ((s[k].toNat : Int) == 95) = true := by simp; omega
                    have b5 : ((s[k].toNat : Int) != 95) = false := by simp; omega
                    clear a1 a2 a3 a4
                    go_wp2_with fail
                    go_round
                    case rel => exact ⟨k + 1, by omega, by go_num, by rw [HTK.out, HALL.out, HI.out.2 HG.out]; rfl⟩
                    case measure => simp [intOf]; omega
                  · have HG : Hid (¬ ((97 ≤ s[k].toNat ∧ s[k].toNat ≤ 122) ∨ (48 ≤ s[k].toNat ∧ s[k].toNat ≤ 57) ∨ s[k].toNat = 95)) := Lib.hid (by omega)
                    have b4 : ((s[k].toNat : Int) == 95) = false := by simp; omega
                    have b5 : ((s[k].toNat : Int) != 95) = true := by simp; omega
                    clear a1 a2 a3 a4
                    go_wp2_with fail
                    go_ret
                    exact ⟨by rw [HB.out, HAF.out (by rw [← Bool.not_eq_true, HI.out]; exact HG.out)]; rfl, rfl⟩
              · have HG : Hid (¬ ((97 ≤ s[k].toNat ∧ s[k].toNat ≤ 122) ∨ (48 ≤ s[k].toNat ∧ s[k].toNat ≤ 57) ∨ s[k].toNat = 95)) := Lib.hid (by omega)
                have b2 : ¬ (48 : Int) ≤ (s[k].toNat : Int) := by omega
                have b4 : ((s[k].toNat : Int) == 95) = false := by simp; omega
                have b5 : ((s[k].toNat : Int) != 95) = true := by simp; omega
                clear a1 a2
                go_wp2_with fail
                go_ret
                exact ⟨by rw [HB.out, HAF.out (by rw [← Bool.not_eq_true, HI.out]; exact HG.out)]; rfl, rfl⟩
          · obtain rfl : k = s.size := by omega
            have HT : Hid (s.data.toList.all nameC = true) := Lib.hid (by
              have h := HALL.out
              rwa [List.take_of_length_le (by show s.data.toList.length ≤ s.size; exact Nat.le_refl _)] at h)
            go_wp2_with fail
            go_ret
            exact ⟨by rw [HB.out, HT.out]; rfl, rfl⟩
end Go.Proofs.YtdmhlhoimaeacaaDoor

/-
  A word as a number (carillonref21.Number).
-/
namespace Go.Proofs.YtdmhlhoimaeacaaDoor
open Go.RowKit
set_option linter.unusedVariables false

def leadR (D : ByteArray) (neg : Bool) : Bool := D.data.toList.isEmpty || (D.data.toList.head? == some 48 && (neg || decide (1 < D.size)))
theorem head_at (s : ByteArray) (h : 0 < s.size) : s.data.toList.head? = some s[0] := by
  have hl : s.data.toList.length = s.size := rfl
  have hb := byte_at s 0 h
  cases hs : s.data.toList with
  | nil => rw [hs] at hl; simp at hl; omega
  | cons c r =>
    rw [hs] at hb
    simp only [List.getD, List.getElem?_cons_zero, Option.getD_some] at hb
    rw [hb]; rfl
theorem u8_eq (c : UInt8) (n : Nat) (hn : n < 256) : (c = UInt8.ofNat n) ↔ c.toNat = n := by
  constructor
  · intro h; rw [h, UInt8.toNat_ofNat']; omega
  · intro h; exact UInt8.toNat_inj.1 (by rw [UInt8.toNat_ofNat']; omega)
theorem leadR_val {D : ByteArray} {neg : Bool} (h : 0 < D.size) : leadR D neg = ((D[0] == 48) && (neg || decide (1 < D.size))) := by
  unfold leadR
  rw [head_at D h]
  have hne : D.data.toList.isEmpty = false := by
    have hl : D.data.toList.length = D.size := rfl
    cases hs : D.data.toList with
    | nil => rw [hs] at hl; simp at hl; omega
    | cons _ _ => rfl
  rw [hne]
  rfl
theorem leadR_zero {D : ByteArray} {neg : Bool} (h : D.size = 0) : leadR D neg = true := by
  have : D.data.toList = [] := List.eq_nil_of_length_eq_zero h
  unfold leadR
  rw [this]; rfl
theorem valD_snoc (l : Word) (c : UInt8) : valD 0 (l ++ [c]) = valD 0 l * 10 + (c.toNat - 48) := by
  unfold valD
  rw [List.foldl_append]
  rfl
theorem valD_take (l : Word) (k : Nat) (h : k < l.length) : valD 0 (l.take (k + 1)) = valD 0 (l.take k) * 10 + ((l.getD k 0).toNat - 48) := by
  rw [List.take_succ_eq_append_getElem h, valD_snoc]
  simp [List.getD, h]
theorem valD_mono (l r : Word) : valD 0 l ≤ valD 0 (l ++ r) := by
  unfold valD
  rw [List.foldl_append]
  exact valD_ge r _
theorem valD_take_le (l : Word) (k : Nat) : valD 0 (l.take k) ≤ valD 0 l := by
  have := valD_mono (l.take k) (l.drop k)
  rwa [List.take_append_drop] at this

theorem over_iff {v d : Int} (hv : 0 ≤ v) (h0 : 0 ≤ d) (h9 : d ≤ 9) : -v < (-9223372036854775808 + d).tdiv 10 ↔ 9223372036854775808 < 10 * v + d := by
  have e : (-9223372036854775808 + d).tdiv 10 = -((9223372036854775808 - d) / 10) := by
    rw [show (-9223372036854775808 + d) = -(9223372036854775808 - d) by omega, Int.neg_tdiv, Int.tdiv_eq_ediv_of_nonneg (by omega)]
  rw [e]
  omega

set_option maxRecDepth 100000 in
set_option maxHeartbeats 8000000 in
theorem refNumber_walk (s : ByteArray) (lo hi : Int) (w : World) (hs : s.size ≤ 4000000000) :
    Calls Tryd.prog 56 #[.string s, .int .i64 lo, .int .i64 hi] w fun e w' => e = .returned (.tuple #[.int .i64 ((withinF s.data.toList lo hi).getD 0), .bool (withinF s.data.toList lo hi).isSome]) ∧ w = w' := by
  obtain ⟨neg, hneg⟩ : ∃ b, b = negW s.data.toList := ⟨_, rfl⟩
  obtain ⟨D, hD⟩ : ∃ D : ByteArray, D = if neg then s.extract 1 s.size else s := ⟨_, rfl⟩
  have hDW : D.data.toList = digW s.data.toList := by
    rw [hD, hneg]
    unfold digW
    cases h : negW s.data.toList with
    | true =>
      simp only [if_true]
      rw [Lib.extract_data]
      have hl : s.data.toList.length = s.size := rfl
      rw [List.take_of_length_le (by simp [hl])]
      cases s.data.toList with | nil => rfl | cons _ _ => rfl
    | false => simp
  have hF : withinF s.data.toList lo hi = (if goodNum s.data.toList && in64B (valW s.data.toList) then some (valW s.data.toList) else none).bind fun n => if lo ≤ n ∧ n ≤ hi then some n else none := rfl
  have hG : goodNum s.data.toList = (!leadR D neg && D.data.toList.all isDig) := by
    unfold goodNum leadR
    rw [hDW, hneg, show D.size = D.data.toList.length from rfl, hDW]
    cases (digW s.data.toList).isEmpty <;> rfl
  have hV : valW s.data.toList = if neg then -(valD 0 D.data.toList : Int) else (valD 0 D.data.toList : Int) := by
    unfold valW
    rw [hDW, hneg]
  have hsz : D.size ≤ s.size := by
    rw [hD]
    split
    · simp
    · exact Nat.le_refl _
  generalize withinF s.data.toList lo hi = o at *
  generalize goodNum s.data.toList = gd at *
  generalize valW s.data.toList = x at *
  have HNEG := Lib.hid hneg
  have HD := Lib.hid hD
  have HF := Lib.hid hF
  have HG := Lib.hid hG
  have HV := Lib.hid hV
  clear hneg hD hF hG hV hDW
  go_enter Tryd.func56, Tryd.ntmps56
  go_upto_region 2 with fail
  go_cut [8, 9] (fun dv nv wx => dv = .string s ∧ nv = .bool neg ∧ wx = w)
  case first =>
    have hl : s.data.toList.length = s.size := rfl
    by_cases h0 : 0 < s.size
    · have hh := head_at s h0
      have HN : Hid (neg = (s[0] == 45)) := Lib.hid (by rw [HNEG.out]; unfold negW; rw [hh]; rfl)
      clear hh hl
      by_cases h1 : s[0].toNat = 45
      · have HN1 : Hid (neg = true) := Lib.hid (by rw [HN.out, beq_iff_eq]; exact (u8_eq _ 45 (by omega)).2 h1)
        have h2 : ((s[0].toNat : Int) == 45) = true := by simp; omega
        clear h1
        go_wp2_with fail
        go_meet
        exact ⟨rfl, by rw [HN1.out], rfl⟩
      · have HN1 : Hid (neg = false) := Lib.hid (by rw [HN.out, ← Bool.not_eq_true, beq_iff_eq]; exact fun h => h1 ((u8_eq _ 45 (by omega)).1 h))
        have h2 : ((s[0].toNat : Int) == 45) = false := by simp; omega
        clear h1
        go_wp2_with fail
        go_meet
        exact ⟨rfl, by rw [HN1.out], rfl⟩
    · have HN1 : Hid (neg = false) := Lib.hid (by
        have : s.data.toList = [] := List.eq_nil_of_length_eq_zero (by omega)
        rw [HNEG.out, this]; rfl)
      have h2 : ¬ (s.size : Int) > 0 := by omega
      clear hl
      go_wp2_with fail
      go_meet
      exact ⟨rfl, by rw [HN1.out], rfl⟩
  case rest =>
    obtain ⟨rfl, rfl, rfl⟩ := hcut
    go_upto_if 22 with fail
    go_cut [8, 9] (fun dv nv wx => dv = .string D ∧ nv = .bool neg ∧ wx = wc)
    case first =>
      have hD := HD.out
      have hpos : neg = true → 1 ≤ s.size := fun h => by
        rw [HNEG.out] at h
        have hl : s.data.toList.length = s.size := rfl
        cases hs : s.data.toList with
        | nil => rw [hs] at h; cases h
        | cons _ _ => rw [← hl, hs]; simp
      cases neg with
      | true =>
        have hp := hpos rfl
        simp only [if_true] at hD
        subst hD
        clear hpos
        go_wp2_with fail
        go_meet
        exact ⟨rfl, rfl, rfl⟩
      | false =>
        simp only [Bool.false_eq_true, if_false] at hD
        subst hD
        clear hpos
        go_wp2_with fail
        go_meet
        exact ⟨rfl, rfl, rfl⟩
    case rest =>
      obtain ⟨rfl, rfl, hw⟩ := hcut
      generalize wc = wd at *
      subst hw
      go_upto_region 5 with fail
      go_cut [40] (fun v wx => v = .bool (leadR D neg) ∧ wx = wd)
      case first =>
        by_cases h0 : 0 < D.size
        · have HL := Lib.hid (leadR_val (neg := neg) h0)
          have h0' : ¬ (D.size : Int) = 0 := by omega
          have h0'' : ¬ D.size = 0 := by omega
          have h0b : ((D.size : Int) == 0) = false := by rw [beq_eq_false_iff_ne]; omega
          by_cases h1 : D[0].toNat = 48
          · have HB : Hid ((D[0] == 48) = true) := Lib.hid (by rw [beq_iff_eq]; exact (u8_eq _ 48 (by omega)).2 h1)
            have h2 : ((D[0].toNat : Int) == 48) = true := by simp; omega
            clear h1
            cases neg with
            | true =>
              go_wp2_with fail
              go_meet
              exact ⟨by rw [HL.out, HB.out]; rfl, rfl⟩
            | false =>
              by_cases h3 : 1 < D.size
              · have h4 : (D.size : Int) > 1 := by omega
                have HS := Lib.hid (decide_eq_true h3)
                go_wp2_with fail
                go_meet
                exact ⟨by rw [HL.out, HB.out, HS.out]; rfl, rfl⟩
              · have h4 : ¬ (D.size : Int) > 1 := by omega
                have HS := Lib.hid (decide_eq_false h3)
                go_wp2_with fail
                go_meet
                exact ⟨by rw [HL.out, HB.out, HS.out]; rfl, rfl⟩
          · have HB : Hid ((D[0] == 48) = false) := Lib.hid (by rw [← Bool.not_eq_true, beq_iff_eq]; exact fun h => h1 ((u8_eq _ 48 (by omega)).1 h))
            have h2 : ((D[0].toNat : Int) == 48) = false := by simp; omega
            clear h1
            go_wp2_with fail
            go_meet
            exact ⟨by rw [HL.out, HB.out]; rfl, rfl⟩
        · have HL := Lib.hid (leadR_zero (D := D) (neg := neg) (by omega))
          have h1 : D.size = 0 := by omega
          go_wp2_with fail
          go_meet
          exact ⟨by rw [HL.out], rfl⟩
      case rest =>
        obtain ⟨rfl, hw⟩ := hcut
        generalize wc = we at *
        subst hw
        cases hld : leadR D neg with
        | true =>
          have ho : o = none := by have h := HF.out; rw [HG.out, hld] at h; simpa using h
          have HO := Lib.hid ho
          clear ho
          go_wp2_with fail
          exact bodyPost_ret (v := .tuple #[.int .i64 0, .bool false]) (by simp [results, Tryd.results56, go_sem]) rfl ⟨by rw [HO.out]; rfl, rfl⟩
        | false =>
          have HG1 : Hid (gd = D.data.toList.all isDig) := Lib.hid (by rw [HG.out, hld]; rfl)
          clear hld
          go_wp2_with fail
          go_loop [10, 11] (fun nv iv => ∃ k v : Nat, k ≤ D.size ∧ iv = .int .i64 k ∧ nv = .int .i64 (-(v : Int)) ∧ v ≤ 9223372036854775808 ∧ v = valD 0 (D.data.toList.take k) ∧ (D.data.toList.take k).all isDig = true) (fun _ iv => D.size - (intOf iv).toNat)
          case atStart => exact ⟨0, 0, by omega, rfl, rfl, by omega, rfl, rfl⟩
          case round =>
            obtain ⟨k, v, hk, rfl, rfl, hv, hvd, hall⟩ := hrel
            have HVD := Lib.hid hvd
            have HALL := Lib.hid hall
            clear hvd hall
            by_cases hlt : k < D.size
            · have hb := byte_at D k hlt
              have HTK := Lib.hid (all_take (l := D.data.toList) (p := isDig) (k := k) hlt)
              have HAF := Lib.hid (all_false (l := D.data.toList) (p := isDig) (k := k) hlt)
              have HVT := Lib.hid (valD_take D.data.toList k hlt)
              have HVL := Lib.hid (valD_take_le D.data.toList (k + 1))
              rw [hb] at HTK HAF HVT
              have HI := Lib.hid (isDig_iff D[k])
              have HC : Hid (D[k].toNat < 256) := Lib.hid (UInt8.toNat_lt _)
              clear hb
              by_cases a1 : D[k].toNat < 48
              · have HO : Hid (o = none) := Lib.hid (by
                  have h := HF.out
                  rw [HG1.out, HAF.out (by rw [← Bool.not_eq_true, HI.out]; omega)] at h
                  simpa using h)
                have b1 : (D[k].toNat : Int) < 48 := by omega
                clear a1
                go_wp2_with fail
                exact bodyPost_ret (v := .tuple #[.int .i64 0, .bool false]) (by simp [results, Tryd.results56, go_sem]) rfl ⟨by rw [HO.out]; rfl, rfl⟩
              · have b1 : ¬ (D[k].toNat : Int) < 48 := by omega
                by_cases a2 : 57 < D[k].toNat
                · have HO : Hid (o = none) := Lib.hid (by
                    have h := HF.out
                    rw [HG1.out, HAF.out (by rw [← Bool.not_eq_true, HI.out]; omega)] at h
                    simpa using h)
                  have b2 : (D[k].toNat : Int) > 57 := by omega
                  clear a1 a2
                  go_wp2_with fail
                  exact bodyPost_ret (v := .tuple #[.int .i64 0, .bool false]) (by simp [results, Tryd.results56, go_sem]) rfl ⟨by rw [HO.out]; rfl, rfl⟩
                · have b2 : ¬ (D[k].toNat : Int) > 57 := by omega
                  have b3 : (48 : Int) ≤ (D[k].toNat : Int) := by omega
                  have b4 : (D[k].toNat : Int) ≤ 57 := by omega
                  have hov := over_iff (v := (v : Int)) (d := (D[k].toNat : Int) - 48) (by omega) (by omega) (by omega)
                  by_cases hbig : 9223372036854775808 < 10 * (v : Int) + ((D[k].toNat : Int) - 48)
                  · have c1 := hov.2 hbig
                    have HO : Hid (o = none) := Lib.hid (by
                      have h1 := HVT.out
                      have h2 := HVL.out
                      have h3 := HVD.out
                      have h4 : in64B x = false := by
                        rw [← Bool.not_eq_true]
                        unfold in64B
                        simp only [Bool.and_eq_true, decide_eq_true_eq]
                        have hx := HV.out
                        split at hx <;> omega
                      have h := HF.out
                      rw [h4] at h
                      simpa using h)
                    clear hov hbig a1 a2
                    go_wp2_with fail
                    exact bodyPost_ret (v := .tuple #[.int .i64 0, .bool false]) (by simp [results, Tryd.results56, go_sem]) rfl ⟨by rw [HO.out]; rfl, rfl⟩
                  · have c1 : ¬ _ := fun h => hbig (hov.1 h)
                    have HBG := Lib.hid hbig
                    clear hov hbig a1 a2
                    go_wp2_with fail
                    go_round
                    case rel =>
                      refine ⟨k + 1, 10 * v + (D[k].toNat - 48), by omega, by go_num, congrArg (Value.int .i64) ?_, ?_, ?_, ?_⟩
                      · have h1 := HBG.out
                        unfold wrap64
                        omega
                      · have := HBG.out; omega
                      · rw [HVT.out, ← HVD.out]; omega
                      · rw [HTK.out, HALL.out, HI.out.2 ⟨by omega, by omega⟩]; rfl
                    case measure => simp [intOf]; omega
            · obtain rfl : k = D.size := by omega
              have htk : D.data.toList.take D.size = D.data.toList := List.take_of_length_le (Nat.le_refl _)
              have HG2 : Hid (gd = true) := Lib.hid (by rw [HG1.out, ← htk]; exact HALL.out)
              have HV2 : Hid (x = if neg then -(v : Int) else (v : Int)) := Lib.hid (by
                have h := HVD.out
                rw [htk] at h
                rw [h]
                exact HV.out)
              clear htk
              cases neg with
              | true =>
                have hx : x = -(v : Int) := HV2.out
                have HO : Hid (o = if lo ≤ -(v : Int) ∧ -(v : Int) ≤ hi then some (-(v : Int)) else none) := Lib.hid (by
                  have h := HF.out
                  have h4 : in64B x = true := by
                    unfold in64B
                    simp only [Bool.and_eq_true, decide_eq_true_eq]
                    omega
                  rw [HG2.out, h4, hx] at h
                  exact h)
                clear hx
                by_cases r1 : -(v : Int) < lo
                · have HO2 : Hid (o = none) := Lib.hid (by rw [HO.out, if_neg (by omega)])
                  go_wp2_with fail
                  exact bodyPost_ret (v := .tuple #[.int .i64 0, .bool false]) (by simp [results, Tryd.results56, go_sem]) rfl ⟨by rw [HO2.out]; rfl, rfl⟩
                · by_cases r2 : -(v : Int) > hi
                  · have HO2 : Hid (o = none) := Lib.hid (by rw [HO.out, if_neg (by omega)])
                    go_wp2_with fail
                    exact bodyPost_ret (v := .tuple #[.int .i64 0, .bool false]) (by simp [results, Tryd.results56, go_sem]) rfl ⟨by rw [HO2.out]; rfl, rfl⟩
                  · have HO2 : Hid (o = some (-(v : Int))) := Lib.hid (by rw [HO.out, if_pos ⟨by omega, by omega⟩])
                    go_wp2_with fail
                    exact bodyPost_ret (v := .tuple #[.int .i64 (-(v : Int)), .bool true]) (by simp [results, Tryd.results56, go_sem]) rfl ⟨by rw [HO2.out]; rfl, rfl⟩
              | false =>
                have hx : x = (v : Int) := HV2.out
                by_cases r0 : (v : Int) = 9223372036854775808
                · have HO2 : Hid (o = none) := Lib.hid (by
                    have h := HF.out
                    have h4 : in64B x = false := by
                      rw [← Bool.not_eq_true]
                      unfold in64B
                      simp only [Bool.and_eq_true, decide_eq_true_eq]
                      omega
                    rw [h4] at h
                    simpa using h)
                  have r1 : ((-(v : Int)) == -9223372036854775808) = true := by simp; omega
                  clear hx r0
                  go_wp2_with fail
                  exact bodyPost_ret (v := .tuple #[.int .i64 0, .bool false]) (by simp [results, Tryd.results56, go_sem]) rfl ⟨by rw [HO2.out]; rfl, rfl⟩
                · have HO : Hid (o = if lo ≤ (v : Int) ∧ (v : Int) ≤ hi then some (v : Int) else none) := Lib.hid (by
                    have h := HF.out
                    have h4 : in64B x = true := by
                      unfold in64B
                      simp only [Bool.and_eq_true, decide_eq_true_eq]
                      omega
                    rw [HG2.out, h4, hx] at h
                    exact h)
                  have r3 : ((-(v : Int)) == -9223372036854775808) = false := by simp; omega
                  have r4 : (v : Int) ≤ 9223372036854775807 := by omega
                  clear hx r0
                  by_cases r1 : (v : Int) < lo
                  · have HO2 : Hid (o = none) := Lib.hid (by rw [HO.out, if_neg (by omega)])
                    go_wp2_with fail
                    exact bodyPost_ret (v := .tuple #[.int .i64 0, .bool false]) (by simp [results, Tryd.results56, go_sem]) rfl ⟨by rw [HO2.out]; rfl, rfl⟩
                  · by_cases r2 : (v : Int) > hi
                    · have HO2 : Hid (o = none) := Lib.hid (by rw [HO.out, if_neg (by omega)])
                      go_wp2_with fail
                      exact bodyPost_ret (v := .tuple #[.int .i64 0, .bool false]) (by simp [results, Tryd.results56, go_sem]) rfl ⟨by rw [HO2.out]; rfl, rfl⟩
                    · have HO2 : Hid (o = some (v : Int)) := Lib.hid (by rw [HO.out, if_pos ⟨by omega, by omega⟩])
                      go_wp2_with fail
                      exact bodyPost_ret (v := .tuple #[.int .i64 (v : Int), .bool true]) (by simp [results, Tryd.results56, go_sem]) rfl ⟨by rw [HO2.out]; rfl, rfl⟩
end Go.Proofs.YtdmhlhoimaeacaaDoor

/-
  A script that is being read, in memory: a head of six cells, rows of the call's own. No walk.
-/
namespace Go.Proofs.YtdmhlhoimaeacaaDoor
open Go.RowKit
set_option linter.unusedVariables false

/-! Rows of elements of some cells each. -/
def flatN (n : Nat) (f : Nat → List Value) : List Value := (List.range n).flatMap f
theorem flatN_succ (n : Nat) (f : Nat → List Value) : flatN (n + 1) f = flatN n f ++ f n := by simp [flatN, List.range_succ]
theorem flatN_zero (f : Nat → List Value) : flatN 0 f = [] := rfl
theorem flatN_length {f : Nat → List Value} {k : Nat} (hk : ∀ i, (f i).length = k) : ∀ n, (flatN n f).length = n * k
  | 0 => by simp [flatN_zero]
  | n + 1 => by rw [flatN_succ, List.length_append, flatN_length hk n, hk n, Nat.add_mul, Nat.one_mul]
theorem flatN_get {f : Nat → List Value} {k : Nat} (hk : ∀ i, (f i).length = k) : ∀ n i j, i < n → j < k → (flatN n f)[i * k + j]? = (f i)[j]?
  | 0, i, j, h, _ => by omega
  | n + 1, i, j, h, hj => by
    rw [flatN_succ]
    rcases Nat.lt_or_ge i n with h1 | h1
    · have h2 : (i + 1) * k ≤ n * k := Nat.mul_le_mul_right k h1
      rw [Nat.add_mul, Nat.one_mul] at h2
      rw [List.getElem?_append_left (by rw [flatN_length hk n]; omega), flatN_get hk n i j h1 hj]
    · obtain rfl : i = n := by omega
      rw [List.getElem?_append_right (by rw [flatN_length hk i]; omega), flatN_length hk i, Nat.add_sub_cancel_left]
theorem flatN_congr {f g : Nat → List Value} : ∀ n, (∀ i, i < n → f i = g i) → flatN n f = flatN n g
  | 0, _ => rfl
  | n + 1, h => by rw [flatN_succ, flatN_succ, flatN_congr n (fun i hi => h i (by omega)), h n (by omega)]
theorem flatN_set {f g : Nat → List Value} {k : Nat} (hk : ∀ i, (f i).length = k) (i j : Nat) (v : Value) (hj : j < k) (hi : g i = (f i).set j v) (ho : ∀ x, x ≠ i → g x = f x) : ∀ n, i < n → (flatN n f).set (i * k + j) v = flatN n g
  | 0, h => by omega
  | n + 1, h => by
    rw [flatN_succ, flatN_succ]
    rcases Nat.lt_or_ge i n with h1 | h1
    · have h2 : (i + 1) * k ≤ n * k := Nat.mul_le_mul_right k h1
      rw [Nat.add_mul, Nat.one_mul] at h2
      rw [List.set_append_left _ _ (by rw [flatN_length hk n]; omega), flatN_set hk i j v hj hi ho n h1, ho n (by omega)]
    · obtain rfl : i = n := by omega
      rw [List.set_append_right _ _ (by rw [flatN_length hk i]; omega), flatN_length hk i, Nat.add_sub_cancel_left, hi, flatN_congr i (fun x hx => (ho x (by omega)).symm)]

def tcell (t : Top) : List Value := [.int .i64 t.n, .int .i64 t.s]
def ocell (o : Opn) : List Value := [.int .i64 o.k, .int .i64 o.a, .int .i64 o.b, .int .i64 o.c]
def hcell (t : Thr) (v : Value) : List Value := [.string ⟨t.name.toArray⟩, v]
def tcells (L : List Top) : List Value := flatN L.length fun i => tcell (L.getD i default)
def ocells (L : List Opn) : List Value := flatN L.length fun i => ocell (L.getD i default)
def hcells (L : List Thr) (V : Nat → Value) : List Value := flatN L.length fun i => hcell (L.getD i default) (V i)
def ncells (L : List Int) : List Value := L.map (Value.int .i64)
theorem getD_app {α : Type} (L R : List α) (d : α) (i : Nat) (h : i < L.length) : (L ++ R).getD i d = L.getD i d := by
  simp only [List.getD]; rw [List.getElem?_append_left h]
theorem getD_last {α : Type} (L : List α) (x d : α) : (L ++ [x]).getD L.length d = x := by
  simp only [List.getD]; rw [List.getElem?_append_right (Nat.le_refl _)]; simp
theorem tcells_snoc (L : List Top) (t : Top) : tcells (L ++ [t]) = tcells L ++ tcell t := by
  unfold tcells
  rw [List.length_append, List.length_singleton, flatN_succ, getD_last]
  congr 1
  exact flatN_congr _ fun i hi => by rw [getD_app _ _ _ _ hi]
theorem ocells_snoc (L : List Opn) (t : Opn) : ocells (L ++ [t]) = ocells L ++ ocell t := by
  unfold ocells
  rw [List.length_append, List.length_singleton, flatN_succ, getD_last]
  congr 1
  exact flatN_congr _ fun i hi => by rw [getD_app _ _ _ _ hi]
theorem hcells_snoc (L : List Thr) (V : Nat → Value) (t : Thr) (v : Value) : hcells (L ++ [t]) (fun i => if i = L.length then v else V i) = hcells L V ++ hcell t v := by
  unfold hcells
  rw [List.length_append, List.length_singleton, flatN_succ, getD_last]
  simp only [if_true]
  congr 1
  exact flatN_congr _ fun i hi => by rw [getD_app _ _ _ _ hi, if_neg (by omega)]
theorem ncells_snoc (L : List Int) (n : Int) : ncells (L ++ [n]) = ncells L ++ [.int .i64 n] := by simp [ncells]
theorem tcells_length (L : List Top) : (tcells L).length = L.length * 2 := flatN_length (f := fun i => tcell (L.getD i default)) (k := 2) (fun _ => rfl) _
theorem ocells_length (L : List Opn) : (ocells L).length = L.length * 4 := flatN_length (f := fun i => ocell (L.getD i default)) (k := 4) (fun _ => rfl) _
theorem hcells_length (L : List Thr) (V : Nat → Value) : (hcells L V).length = L.length * 2 := flatN_length (f := fun i => hcell (L.getD i default) (V i)) (k := 2) (fun _ => rfl) _
theorem hcells_get (L : List Thr) (V : Nat → Value) (i j : Nat) (hi : i < L.length) (hj : j < 2) : (hcells L V)[i * 2 + j]? = (hcell (L.getD i default) (V i))[j]? := flatN_get (f := fun i => hcell (L.getD i default) (V i)) (k := 2) (fun _ => rfl) _ _ _ hi hj
theorem tcells_get (L : List Top) (i j : Nat) (hi : i < L.length) (hj : j < 2) : (tcells L)[i * 2 + j]? = (tcell (L.getD i default))[j]? := flatN_get (f := fun i => tcell (L.getD i default)) (k := 2) (fun _ => rfl) _ _ _ hi hj
theorem ocells_get (L : List Opn) (i j : Nat) (hi : i < L.length) (hj : j < 4) : (ocells L)[i * 4 + j]? = (ocell (L.getD i default))[j]? := flatN_get (f := fun i => ocell (L.getD i default)) (k := 4) (fun _ => rfl) _ _ _ hi hj
theorem tcell_one (t : Top) : ∀ u ∈ tcell t, u.oneCell' = true := by intro u hu; simp [tcell] at hu; rcases hu with rfl | rfl <;> rfl
theorem ocell_one (t : Opn) : ∀ u ∈ ocell t, u.oneCell' = true := by intro u hu; simp [ocell] at hu; rcases hu with rfl | rfl | rfl | rfl <;> rfl

theorem set_at {w : World} {b : Nat} {c : Array Value} {t : TypeId} (h : w.heap[b]? = some (.cells c t (0, 0))) (i : Nat) (v : Value) :
    (w.setCell ⟨b, i, none⟩ v).heap[b]? = some (.cells (c.setIfInBounds i v) t (0, 0)) := by
  simp [World.setCell, Array.getElem?_modify, h]
theorem grown_set (w : World) (b i : Nat) (v : Value) : w.grownBy (w.setCell ⟨b, i, none⟩ v) (some b) :=
  ⟨rfl, rfl, rfl, by simp [World.setCell], fun q _ hq => Below.heap_setCell _ _ _ _ (fun e => hq (by simp [e]))⟩
theorem own_head {w w1 : World} {N e k n b T : Nat} {v : Value} {xs : List Value} {c : Array Value} (h : w.ownsRow N e k v n xs) (hb : w.heap[b]? = some (.cells c T (0, 0))) (hg : w.grownBy w1 (some b)) (hne : e ≠ T) : w1.ownsRow N e k v n xs := by
  refine h.kept hg ?_
  cases hv : v.ownBlock with
  | none => exact .inl rfl
  | some g =>
    right
    intro e2
    obtain ⟨c', fz, hx⟩ := Lib.ownsRow_kind h g hv
    cases e2
    rw [hb] at hx
    cases hx
    exact hne rfl
theorem head_other {w w1 : World} {N e k n b T : Nat} {v : Value} {xs : List Value} {c : Array Value} (h : w.ownsRow N e k v n xs) (hb : w.heap[b]? = some (.cells c T (0, 0))) (hg : w.grownBy w1 v.ownBlock) (hne : e ≠ T) : w1.heap[b]? = some (.cells c T (0, 0)) := by
  refine (hg.block b (Array.getElem?_eq_some_iff.1 hb).1 ?_).trans hb
  intro e2
  obtain ⟨c', fz, hx⟩ := Lib.ownsRow_kind h b e2.symm
  rw [hb] at hx
  cases hx
  exact hne rfl

theorem own_slice {w : World} {N e k n : Nat} {v : Value} {xs : List Value} (h : w.ownsRow N e k v n xs) : ∃ p c, v = .slice p n c := by
  rcases h.2 with ⟨e, h0⟩ | ⟨q, cap, _, e, _⟩
  · exact ⟨none, 0, by rw [e, h0]⟩
  · exact ⟨_, cap, e⟩
/-- The limits of what is read. -/
structure Lim (S : Scr) : Prop where
  tops : S.tops.length ≤ 65536
  thrs : S.thrs.length ≤ 64
  sch : S.sch.length ≤ 1048576
  ops : ∀ i, i < S.thrs.length → (S.thrs.getD i default).ops.length ≤ 65536

/-- The rows of a script: element types eT of topics, eH of threads. -/
structure RowsS (w : World) (N eT eH : Nat) (tv hv sv : Value) (V : Nat → Value) (S : Scr) : Prop where
  tops : w.ownsRow N eT 2 tv S.tops.length (tcells S.tops)
  sch : w.ownsRow N 3 1 sv S.sch.length (ncells S.sch)
  thrs : w.ownsRow N eH 2 hv S.thrs.length (hcells S.thrs V)
  each : ∀ i, i < S.thrs.length → w.ownsRow N 65 4 (V i) (S.thrs.getD i default).ops.length (ocells (S.thrs.getD i default).ops)
  apart : ∀ i j, i < S.thrs.length → j < S.thrs.length → i ≠ j → (V i).ownBlock = none ∨ (V i).ownBlock ≠ (V j).ownBlock
/-- The types are told apart. -/
structure Kinds (T eT eH : Nat) : Prop where
  ht : T ≠ eT
  hh : T ≠ eH
  h3 : T ≠ 3
  ho : T ≠ 65
  th : eT ≠ eH
  t3 : eT ≠ 3
  tp : eT ≠ 65
  h3' : eH ≠ 3
  ho' : eH ≠ 65
theorem kindsP : Kinds 73 62 58 := ⟨by decide, by decide, by decide, by decide, by decide, by decide, by decide, by decide, by decide⟩
theorem kindsR : Kinds 81 82 83 := ⟨by decide, by decide, by decide, by decide, by decide, by decide, by decide, by decide, by decide⟩
section
variable {w w1 : World} {N T eT eH g : Nat} {tv hv sv x y : Value} {V : Nat → Value} {S : Scr}
theorem RowsS.alloc (h : RowsS w N eT eH tv hv sv V S) (o : Obj) : RowsS (w.alloc o) N eT eH tv hv sv V S :=
  ⟨h.tops.alloc o, h.sch.alloc o, h.thrs.alloc o, fun i hi => (h.each i hi).alloc o, h.apart⟩
theorem RowsS.below (h : RowsS w N eT eH tv hv sv V S) (hb : Below w.heap.size w w1) : RowsS w1 N eT eH tv hv sv V S :=
  ⟨own_below h.tops hb, own_below h.sch hb, own_below h.thrs hb, fun i hi => own_below (h.each i hi) hb, h.apart⟩
theorem RowsS.head (K : Kinds T eT eH) (h : RowsS w N eT eH tv hv sv V S) {c : Array Value} (hb : w.heap[g]? = some (.cells c T (0, 0))) (hg : w.grownBy w1 (some g)) : RowsS w1 N eT eH tv hv sv V S :=
  ⟨own_head h.tops hb hg K.ht.symm, own_head h.sch hb hg K.h3.symm, own_head h.thrs hb hg K.hh.symm, fun i hi => own_head (h.each i hi) hb hg K.ho.symm, h.apart⟩
theorem RowsS.cast {S' : Scr} (h : RowsS w N eT eH tv hv sv V S) (h1 : S'.tops = S.tops) (h2 : S'.thrs = S.thrs) (h3 : S'.sch = S.sch) : RowsS w N eT eH tv hv sv V S' := by
  obtain ⟨a, b, c, d, e⟩ := h
  refine ⟨by rw [h1]; exact a, by rw [h3]; exact b, by rw [h2]; exact c, by rw [h2]; exact d, by rw [h2]; exact e⟩
end
/-- A script that is being read: its head at block g. -/
structure RdrS (w : World) (N T eT eH g : Nat) (x y : Value) (tv hv sv : Value) (V : Nat → Value) (S : Scr) : Prop where
  head : w.heap[g]? = some (.cells #[tv, hv, sv, .int .i64 S.most, x, y] T (0, 0))
  rows : RowsS w N eT eH tv hv sv V S
  lim : Lim S
  gN : N ≤ g
  nw : N ≤ w.heap.size
section
variable {w w1 : World} {N T eT eH g : Nat} {tv hv sv x y : Value} {V : Nat → Value} {S : Scr}
theorem RdrS.glt (h : RdrS w N T eT eH g x y tv hv sv V S) : g < w.heap.size := (Array.getElem?_eq_some_iff.1 h.head).1
theorem RdrS.alloc (h : RdrS w N T eT eH g x y tv hv sv V S) (o : Obj) : RdrS (w.alloc o) N T eT eH g x y tv hv sv V S :=
  ⟨(Below.heap_alloc _ _ _ h.glt).trans h.head, h.rows.alloc o, h.lim, h.gN, by have := h.nw; simp; omega⟩
theorem RdrS.below (h : RdrS w N T eT eH g x y tv hv sv V S) (hb : Below w.heap.size w w1) : RdrS w1 N T eT eH g x y tv hv sv V S :=
  ⟨(hb.block g h.glt).trans h.head, h.rows.below hb, h.lim, h.gN, Nat.le_trans h.nw hb.size⟩
theorem RdrS.cell (h : RdrS w N T eT eH g x y tv hv sv V S) : w.cell? ⟨g, 0, none⟩ = some tv ∧ w.cell? ⟨g, 1, none⟩ = some hv ∧ w.cell? ⟨g, 2, none⟩ = some sv ∧ w.cell? ⟨g, 3, none⟩ = some (.int .i64 S.most) ∧ w.cell? ⟨g, 4, none⟩ = some x ∧ w.cell? ⟨g, 5, none⟩ = some y ∧ ∀ i, w.frozen? ⟨g, i, none⟩ = false :=
  ⟨cell_of h.head 0, cell_of h.head 1, cell_of h.head 2, cell_of h.head 3, cell_of h.head 4, cell_of h.head 5, free_of h.head⟩

/-- A topic more. -/
theorem RdrS.topic (K : Kinds T eT eH) (h : RdrS w N T eT eH g x y tv hv sv V S) {o : Obj} {t : Top} {v' : Value} (hl : S.tops.length < 65536)
    (ha : Appended (w.alloc o) N eT 2 tv S.tops.length 1 (tcells S.tops ++ tcell t) v' w1) :
    w1.cell? ⟨g, 0, none⟩ = some tv ∧ w1.frozen? ⟨g, 0, none⟩ = false ∧ RdrS (w1.setCell ⟨g, 0, none⟩ v') N T eT eH g x y v' hv sv V { S with tops := S.tops ++ [t] } ∧ Below N w (w1.setCell ⟨g, 0, none⟩ v') := by
  have ho := h.alloc o
  obtain ⟨h1, h2, _⟩ := ha
  have hr := ho.rows
  have hd : w1.heap[g]? = _ := head_other hr.tops ho.head h2 K.ht.symm
  have hrow : RowsS w1 N eT eH v' hv sv V { S with tops := S.tops ++ [t] } := by
    refine ⟨by rw [tcells_snoc]; simpa using h1, own_other hr.sch hr.tops h2 K.t3.symm, own_other hr.thrs hr.tops h2 K.th.symm, fun i hi => own_other (hr.each i hi) hr.tops h2 K.tp.symm, hr.apart⟩
  have hs := h2.size
  have hn := ho.nw
  refine ⟨cell_of hd 0, free_of hd 0, ⟨?_, hrow.head K hd (grown_set _ _ _ _), ⟨by simp; omega, h.lim.thrs, h.lim.sch, h.lim.ops⟩, h.gN, by simp [World.setCell]; omega⟩, ?_⟩
  · rw [set_at hd]; rfl
  · exact (((Below.refl N w).alloc h.nw o).grown h2 hn (fun q hq => (hr.tops.lt q hq).1)).setCell h.gN _
/-- A number of the schedule more. -/
theorem RdrS.number (K : Kinds T eT eH) (h : RdrS w N T eT eH g x y tv hv sv V S) {o : Obj} {n : Int} {v' : Value} (hl : S.sch.length < 1048576)
    (ha : Appended (w.alloc o) N 3 1 sv S.sch.length 1 (ncells S.sch ++ [.int .i64 n]) v' w1) :
    w1.cell? ⟨g, 2, none⟩ = some sv ∧ w1.frozen? ⟨g, 2, none⟩ = false ∧ RdrS (w1.setCell ⟨g, 2, none⟩ v') N T eT eH g x y tv hv v' V { S with sch := S.sch ++ [n] } ∧ Below N w (w1.setCell ⟨g, 2, none⟩ v') := by
  have ho := h.alloc o
  obtain ⟨h1, h2, _⟩ := ha
  have hr := ho.rows
  have hd : w1.heap[g]? = _ := head_other hr.sch ho.head h2 K.h3.symm
  have hrow : RowsS w1 N eT eH tv hv v' V { S with sch := S.sch ++ [n] } := by
    refine ⟨own_other hr.tops hr.sch h2 K.t3, by rw [ncells_snoc]; simpa using h1, own_other hr.thrs hr.sch h2 K.h3', fun i hi => own_other (hr.each i hi) hr.sch h2 (by decide), hr.apart⟩
  have hs := h2.size
  have hn := ho.nw
  refine ⟨cell_of hd 2, free_of hd 2, ⟨?_, hrow.head K hd (grown_set _ _ _ _), ⟨h.lim.tops, h.lim.thrs, by simp; omega, h.lim.ops⟩, h.gN, by simp [World.setCell]; omega⟩, ?_⟩
  · rw [set_at hd]; rfl
  · exact (((Below.refl N w).alloc h.nw o).grown h2 hn (fun q hq => (hr.sch.lt q hq).1)).setCell h.gN _
/-- A thread more. -/
theorem RdrS.thread (K : Kinds T eT eH) (h : RdrS w N T eT eH g x y tv hv sv V S) {o : Obj} {n : Word} {v' : Value} (hl : S.thrs.length < 64)
    (ha : Appended (w.alloc o) N eH 2 hv S.thrs.length 1 (hcells S.thrs V ++ hcell ⟨n, []⟩ (.slice none 0 0)) v' w1) :
    w1.cell? ⟨g, 1, none⟩ = some hv ∧ w1.frozen? ⟨g, 1, none⟩ = false ∧ RdrS (w1.setCell ⟨g, 1, none⟩ v') N T eT eH g x y tv v' sv (fun i => if i = S.thrs.length then .slice none 0 0 else V i) { S with thrs := S.thrs ++ [⟨n, []⟩] } ∧ Below N w (w1.setCell ⟨g, 1, none⟩ v') := by
  have ho := h.alloc o
  obtain ⟨h1, h2, _⟩ := ha
  have hr := ho.rows
  have hd : w1.heap[g]? = _ := head_other hr.thrs ho.head h2 K.hh.symm
  have hget : ∀ i, i < S.thrs.length → (S.thrs ++ [(⟨n, []⟩ : Thr)]).getD i default = S.thrs.getD i default := fun i hi => getD_app _ _ _ _ hi
  have hrow : RowsS w1 N eT eH tv v' sv (fun i => if i = S.thrs.length then .slice none 0 0 else V i) { S with thrs := S.thrs ++ [⟨n, []⟩] } := by
    refine ⟨own_other hr.tops hr.thrs h2 K.th, own_other hr.sch hr.thrs h2 K.h3'.symm, by rw [hcells_snoc]; simpa using h1, fun i hi => ?_, fun i j hi hj hne => ?_⟩
    · simp only [List.length_append, List.length_singleton] at hi
      by_cases e : i = S.thrs.length
      · subst e
        simp only [if_true]
        rw [getD_last]
        exact World.ownsRow_nil _ _ _ _
      · simp only [if_neg e]
        rw [hget i (by omega)]
        exact own_other (hr.each i (by omega)) hr.thrs h2 K.ho'.symm
    · simp only [List.length_append, List.length_singleton] at hi hj
      by_cases e : i = S.thrs.length
      · left; simp [e, Value.ownBlock]
      · by_cases e2 : j = S.thrs.length
        · simp only [if_neg e, if_pos e2]
          cases (V i).ownBlock with
          | none => exact .inl rfl
          | some q => right; simp [Value.ownBlock]
        · simp only [if_neg e, if_neg e2]
          exact hr.apart i j (by omega) (by omega) hne
  have hs := h2.size
  have hn := ho.nw
  refine ⟨cell_of hd 1, free_of hd 1, ⟨?_, hrow.head K hd (grown_set _ _ _ _), ⟨h.lim.tops, by simp; omega, h.lim.sch, fun i hi => ?_⟩, h.gN, by simp [World.setCell]; omega⟩, ?_⟩
  · rw [set_at hd]; rfl
  · simp only [List.length_append, List.length_singleton] at hi
    by_cases e : i = S.thrs.length
    · subst e; show (List.getD (S.thrs ++ _) _ _).ops.length ≤ _; rw [getD_last]; simp
    · show (List.getD (S.thrs ++ _) _ _).ops.length ≤ _; rw [hget i (by omega)]; exact h.lim.ops i (by omega)
  · exact (((Below.refl N w).alloc h.nw o).grown h2 hn (fun q hq => (hr.thrs.lt q hq).1)).setCell h.gN _
/-- The most, or a flag, is set. -/
theorem RdrS.most (K : Kinds T eT eH) (h : RdrS w N T eT eH g x y tv hv sv V S) (n : Int) : RdrS (w.setCell ⟨g, 3, none⟩ (.int .i64 n)) N T eT eH g x y tv hv sv V { S with most := n } ∧ Below N w (w.setCell ⟨g, 3, none⟩ (.int .i64 n)) :=
  ⟨⟨by rw [set_at h.head]; rfl, ((h.rows.head K h.head (grown_set _ _ _ _)).cast rfl rfl rfl), ⟨h.lim.tops, h.lim.thrs, h.lim.sch, h.lim.ops⟩, h.gN, by simp [World.setCell]; exact h.nw⟩, (Below.refl N w).setCell h.gN _⟩
theorem RdrS.flag4 (K : Kinds T eT eH) (h : RdrS w N T eT eH g x y tv hv sv V S) (x' : Value) : RdrS (w.setCell ⟨g, 4, none⟩ x') N T eT eH g x' y tv hv sv V S ∧ Below N w (w.setCell ⟨g, 4, none⟩ x') :=
  ⟨⟨by rw [set_at h.head]; rfl, h.rows.head K h.head (grown_set _ _ _ _), h.lim, h.gN, by simp [World.setCell]; exact h.nw⟩, (Below.refl N w).setCell h.gN _⟩
theorem RdrS.flag5 (K : Kinds T eT eH) (h : RdrS w N T eT eH g x y tv hv sv V S) (y' : Value) : RdrS (w.setCell ⟨g, 5, none⟩ y') N T eT eH g x y' tv hv sv V S ∧ Below N w (w.setCell ⟨g, 5, none⟩ y') :=
  ⟨⟨by rw [set_at h.head]; rfl, h.rows.head K h.head (grown_set _ _ _ _), h.lim, h.gN, by simp [World.setCell]; exact h.nw⟩, (Below.refl N w).setCell h.gN _⟩
end
end Go.Proofs.YtdmhlhoimaeacaaDoor

/-
  The program's reader: names, words; the lines of topics and of the most.
-/
namespace Go.Proofs.YtdmhlhoimaeacaaDoor
open Go.RowKit Go.Maps
set_option linter.unusedVariables false

/-- Elements of a set of names. -/
def boolElem : Value → Option (DataW Unit × List MemPlace)
  | .bool b => some (.lit (.bool b), [])
  | _ => none
/-- The map at block b reads as f. -/
def MapF (w : World) (b n : Nat) (f : Lit → Option (DataW Unit)) : Prop :=
  ∃ D : DataW Unit, w.ownsMap Tryd.prog 9 boolElem b n D ∧ ∀ kl, Maps.has D kl = (f kl).isSome ∧ ∀ z, D.atKey kl z = (f kl).getD z
theorem MapF.alloc {w : World} {b n : Nat} {f : Lit → Option (DataW Unit)} (h : MapF w b n f) (o : Obj) : MapF (w.alloc o) b n f := by
  obtain ⟨D, h1, h2⟩ := h
  exact ⟨D, h1.alloc o, h2⟩
theorem MapF.lt {w : World} {b n : Nat} {f : Lit → Option (DataW Unit)} (h : MapF w b n f) : b < w.heap.size := by
  obtain ⟨D, h1, h2⟩ := h
  exact h1.lt
theorem MapF.kept {w w' : World} {b n : Nat} {f : Lit → Option (DataW Unit)} {row : Option Nat} (h : MapF w b n f) (hg : w.grownBy w' row) (hne : some b ≠ row) : MapF w' b n f := by
  obtain ⟨D, h1, h2⟩ := h
  exact ⟨D, h1.kept hg hne, h2⟩
theorem MapF.below {w w' : World} {b n : Nat} {f : Lit → Option (DataW Unit)} (h : MapF w b n f) (hb : Below w.heap.size w w') : MapF w' b n f := by
  obtain ⟨D, ⟨es, clock, h1, F, h2, h3⟩, h4⟩ := h
  exact ⟨D, ⟨es, clock, (hb.block b (Array.getElem?_eq_some_iff.1 h1).1).trans h1, F, h2, h3⟩, h4⟩
theorem MapF.isMap {w : World} {b n : Nat} {f : Lit → Option (DataW Unit)} (h : MapF w b n f) : ∃ es clock, w.heap[b]? = some (.map es clock) := by
  obtain ⟨D, ⟨es, clock, h1, F, h2, h3⟩, h4⟩ := h
  exact ⟨es, clock, h1⟩
theorem mapF_new (w : World) : MapF (w.alloc (.map #[] 0)) w.heap.size 0 (fun _ => none) :=
  ⟨.map [], World.ownsMap_made w _ _ _, fun kl => ⟨rfl, fun z => rfl⟩⟩
open Classical in
/-- What the map says behind 'm[k] = v'. -/
noncomputable def putF (f : Lit → Option (DataW Unit)) (kl : Lit) (d : DataW Unit) : Lit → Option (DataW Unit) := fun x => if x = kl then some d else f x
theorem wpList_put {w : World} {ops : Array Oper} {rest : List Oper} {o : Oper} {a : Act} {Q : Exit → Act → World → Prop}
    (hg : o.guard = none) (m x v : Operand) (t : TypeId) (hop : o.op = Op.mapUpdate t m x v)
    (e : TypeId) (K : Keyed Tryd.prog 9) (ht : Tryd.prog.underlying t = some (.map 9 e)) (b n : Nat) (f : Lit → Option (DataW Unit))
    (hm : a.eval m = .map (some b)) (hown : MapF w b n f) (hn : n < maxLen) (key val : Value) (kl : Lit) (hx : a.eval x = key) (hv : a.eval v = val) (hkey : keyOf Tryd.prog 9 key = some kl)
    (d : DataW Unit) (ps : List MemPlace) (hval : boolElem val = some (d, ps))
    (hK : ∀ w', MapF w' b (n + 1) (putF f kl d) → w.grownBy w' (some b) → wpList Tryd.prog ops Q rest (a.put o.dst undef) w') :
    wpList Tryd.prog ops Q (o :: rest) a w := by
  obtain ⟨D, h1, h2⟩ := hown
  refine wpList_mapUpdate_own w hg m x v t hop 9 e K ht boolElem b n D hm h1 hn key val kl hx hv hkey d ps hval ?_
  intro w' h3 h4
  refine hK w' ⟨_, h3, fun z => ?_⟩ h4
  have hM := h1.isMap
  have hk := K.key hkey
  by_cases e : z = kl
  · subst e
    simp only [putF, if_true, Option.isSome_some, Option.getD_some]
    exact ⟨has_put_same hM hk _, fun y => atKey_put_same hM hk _ _⟩
  · simp only [putF, e, if_false]
    exact ⟨(has_put_other e _).trans (h2 z).1, fun y => (atKey_put_other e _ _).trans ((h2 z).2 y)⟩
/-- 'm[k]' of a set of names. -/
theorem wpList_look {w : World} {ops : Array Oper} {rest : List Oper} {o : Oper} {a : Act} {Q : Exit → Act → World → Prop}
    (hg : o.guard = none) (m x : Operand) (t : TypeId) (hop : o.op = Op.lookup t m x false)
    (e : TypeId) (K : Keyed Tryd.prog 9) (ht : Tryd.prog.underlying t = some (.map 9 e)) (hz : (zeroValue e).run Tryd.prog w = .ok (.bool false) w) (b n : Nat) (f : Lit → Option (DataW Unit))
    (hm : a.eval m = .map (some b)) (hown : MapF w b n f) (key : Value) (kl : Lit) (hx : a.eval x = key) (hkey : keyOf Tryd.prog 9 key = some kl)
    (r : Bool) (hf : (f kl).getD (.lit (.bool false)) = .lit (.bool r))
    (hK : wpList Tryd.prog ops Q rest (a.put o.dst (.bool r)) w) :
    wpList Tryd.prog ops Q (o :: rest) a w := by
  obtain ⟨D, h1, h2⟩ := hown
  refine wpList_plain hg fun K' hK' => ?_
  obtain ⟨v, ps, hrun, hv⟩ := h1.lookup K ht hz (zd := .lit (.bool false)) (zp := []) rfl hkey
  rw [(h2 kl).2, hf] at hv
  obtain rfl : v = .bool r := by
    unfold boolElem at hv
    split at hv
    · simp only [Option.some.injEq, Prod.mk.injEq, DataW.lit.injEq, Lit.bool.injEq] at hv
      rw [hv.1]
    · cases hv
  unfold Oper.wp
  simp [execOp, hop, hm, hx, hrun, Result.andThen]
  exact hK' _ _ hK

/-- The set of a script's names. -/
def namesF (S : Scr) : Lit → Option (DataW Unit)
  | .string b => if b ∈ S.thrs.map Thr.name then some (.lit (.bool true)) else none
  | _ => none
/-- The program's reader at block g; its set of names at block m. -/
def RdrP (w : World) (N g m : Nat) (st : Rdg) : Prop :=
  ∃ tv hv sv V, RdrS w N 73 62 58 g (.map (some m)) (.bool st.has) tv hv sv V st.s ∧ MapF w m st.s.thrs.length (namesF st.s) ∧ N ≤ m
theorem RdrP.below {w w1 : World} {N g m : Nat} {st : Rdg} (h : RdrP w N g m st) (hb : Below w.heap.size w w1) : RdrP w1 N g m st := by
  obtain ⟨tv, hv, sv, V, h1, h2, h3⟩ := h
  exact ⟨tv, hv, sv, V, h1.below hb, h2.below hb, h3⟩
theorem RdrP.nw {w : World} {N g m : Nat} {st : Rdg} (h : RdrP w N g m st) : N ≤ w.heap.size := by
  obtain ⟨tv, hv, sv, V, h1, h2, h3⟩ := h
  exact h1.nw
theorem map_ne_row {w : World} {N e k n b c : Nat} {v : Value} {xs : List Value} {f : Lit → Option (DataW Unit)} (hm : MapF w b c f) (h : w.ownsRow N e k v n xs) : some b ≠ v.ownBlock := by
  intro e2
  obtain ⟨c', fz, hx⟩ := Lib.ownsRow_kind h b e2.symm
  obtain ⟨es, cl, hy⟩ := hm.isMap
  rw [hx] at hy
  cases hy
theorem map_ne_head {w : World} {b c g T : Nat} {cs : Array Value} {f : Lit → Option (DataW Unit)} (hm : MapF w b c f) (h : w.heap[g]? = some (.cells cs T (0, 0))) : some b ≠ some g := by
  intro e2
  obtain ⟨es, cl, hy⟩ := hm.isMap
  rw [Option.some.inj e2, h] at hy
  cases hy
/-- Words as a slice. -/
def WordsAt (w : World) (ao : Option Addr) (ws : List Word) : Prop :=
  ws = [] ∨ ∃ g o, ao = some ⟨g, o, none⟩ ∧ ∀ i, i < ws.length → w.cell? ⟨g, o + i, none⟩ = some (.string ⟨(ws.getD i default).toArray⟩)
theorem WordsAt.below {w w1 : World} {ao : Option Addr} {ws : List Word} (h : WordsAt w ao ws) (hb : Below w.heap.size w w1) : WordsAt w1 ao ws := by
  rcases h with h | ⟨g, o, e, hc⟩
  · exact .inl h
  · exact .inr ⟨g, o, e, fun i hi => (hb.cell (p := ⟨g, o + i, none⟩) (World.block_lt_of_cell? w _ (hc i hi))).trans (hc i hi)⟩
/-- Words that are not too long. -/
def Short (ws : List Word) : Prop := ∀ x ∈ ws, x.length ≤ 4000000000
theorem size_mk (l : Word) : (ByteArray.mk l.toArray).size = l.length := by simp [ByteArray.size]
/-- What a line's reader does. -/
def LineD (N g m : Nat) (st : Rdg) (r : Int × Rdg) (w : World) (e : Ending) (w' : World) : Prop :=
  e = .returned (.int .i64 r.1) ∧ RdrP w' N g m r.2 ∧ Below N w w'
theorem info62 : (Tryd.prog.info? 62).map (fun i => (i.zero, i.size, i.bytes)) = some (some (.agg #[.int .i64 0, .int .i64 0]), 2, 16) := by kernel_rfl

set_option maxRecDepth 100000 in
set_option maxHeartbeats 4000000 in
theorem topic_walk (N g m : Nat) (st : Rdg) (ao : Option Addr) (ws : List Word) (c : Nat) (w : World) (hE : Env N w) (hr : RdrP w N g m st) (hw : WordsAt w ao ws) (hs : Short ws) :
    Calls Tryd.prog 51 #[.pointer (some ⟨g, 0, none⟩), .slice ao ws.length c] w (LineD N g m st (topicF st ws) w) := by
  by_cases hl : ws.length = 2
  · obtain ⟨a, b, rfl⟩ : ∃ a b, ws = [a, b] := by
      match ws, hl with
      | [a, b], _ => exact ⟨a, b, rfl⟩
    obtain ⟨gw, ow, rfl, hc⟩ := hw.resolve_left (by simp)
    have c0 : w.cell? ⟨gw, ow, none⟩ = some (.string ⟨a.toArray⟩) := hc 0 (by simp)
    have c1 : w.cell? ⟨gw, ow + 1, none⟩ = some (.string ⟨b.toArray⟩) := hc 1 (by simp)
    have HA := Lib.hid (number_walk ⟨a.toArray⟩ N w (by rw [size_mk]; exact hs a (by simp)) hE)
    have HB : Hid (∀ w1, Below w.heap.size w w1 → Calls Tryd.prog 69 #[.string ⟨b.toArray⟩, .int .i64 0, .int .i64 65536] w1 (NumD (withinF b 0 65536) w1)) :=
      Lib.hid (fun w1 h1 => by simpa using within_walk ⟨b.toArray⟩ 0 65536 N w1 (by rw [size_mk]; exact hs b (by simp)) (hE.up h1))
    have HC1 : Hid (∀ w1, Below w.heap.size w w1 → w1.cell? ⟨gw, ow + 1, none⟩ = some (.string ⟨b.toArray⟩)) := Lib.hid (fun w1 h1 => (h1.cell (p := ⟨gw, ow + 1, none⟩) (World.block_lt_of_cell? w _ c1)).trans c1)
    have HR := Lib.hid hr
    have hnw := hr.nw
    have hF : topicF st [a, b] = match numF a, withinF b 0 65536 with
      | some n, some s => if 65536 ≤ st.s.tops.length then (3, st) else (0, { st with s := { st.s with tops := st.s.tops ++ [⟨n, s⟩] } })
      | _, _ => (9, st) := rfl
    have HF := Lib.hid hF
    clear hF hr hw hs hc c1 hl
    generalize topicF st [a, b] = r at *
    generalize numF a = oa at *
    generalize withinF b 0 65536 = ob at *
    go_enter Tryd.func51, Tryd.ntmps51
    go_wp2_with fail
    refine HA.out.mono ?_
    rintro e w1 ⟨na, rfl, hna, hb1⟩
    have c1 := HC1.out w1 hb1
    have HNA := Lib.hid hna
    have HB1 := Lib.hid hb1
    have H69 := Lib.hid (HB.out w1 hb1)
    clear hna hb1 c0
    go_wp2_with fail
    refine H69.out.mono ?_
    rintro e w2 ⟨nb, rfl, hnb, hb2⟩
    have HNB := Lib.hid hnb
    have HB2 : Hid (Below w.heap.size w w2) := Lib.hid (HB1.out.trans (hb2.mono HB1.out.size))
    have HR2 := Lib.hid (HR.out.below HB2.out)
    have HL2 : Hid (Below N w w2) := Lib.hid (HB2.out.mono hnw)
    clear hnb hb2 c1
    cases oa with
    | none =>
      have HF2 : Hid (r = (9, st)) := Lib.hid HF.out
      simp only [Option.isSome_none]
      go_wp2_with fail
      go_ret
      rw [HF2.out]
      exact ⟨rfl, HR2.out, HL2.out⟩
    | some a' =>
      cases ob with
      | none =>
        have HF2 : Hid (r = (9, st)) := Lib.hid HF.out
        simp only [Option.isSome_none, Option.isSome_some]
        go_wp2_with fail
        go_ret
        rw [HF2.out]
        exact ⟨rfl, HR2.out, HL2.out⟩
      | some b' =>
        obtain rfl := HNA.out a' rfl
        obtain rfl := HNB.out b' rfl
        simp only [Option.isSome_some]
        obtain ⟨tv, hv, sv, V, hS, hM, hm⟩ := HR2.out
        obtain ⟨d0, d1, d2, d3, d4, d5, fz⟩ := hS.cell
        have HS := Lib.hid hS
        have HM := Lib.hid hM
        have hlim := hS.lim.tops
        obtain ⟨tp, tc, rfl⟩ := own_slice hS.rows.tops
        clear d1 d2 d3 d4 d5 fz hS hM
        by_cases hfull : 65536 ≤ st.s.tops.length
        · have HF2 : Hid (r = (3, st)) := Lib.hid (by rw [HF.out]; exact if_pos hfull)
          have hfull' : (st.s.tops.length : Int) ≥ 65536 := by omega
          go_wp2_with fail
          go_ret
          rw [HF2.out]
          exact ⟨rfl, HR2.out, HL2.out⟩
        · have HF2 : Hid (r = (0, { st with s := { st.s with tops := st.s.tops ++ [⟨na, nb⟩] } })) := Lib.hid (by rw [HF.out]; exact if_neg hfull)
          have hfull' : ¬ (st.s.tops.length : Int) ≥ 65536 := by omega
          obtain ⟨i62, hi62, z0, z1, z2⟩ := info_parts info62
          have HOW := Lib.hid (HS.out.rows.tops.alloc (.cells #[.int .i64 na, .int .i64 nb] 62))
          have HSX := Lib.hid (src_one0 w2 #[.int .i64 na, .int .i64 nb] 62 2 rfl (tcell_one ⟨na, nb⟩))
          have HST := Lib.hid (fun (v' : Value) (w3 : World) ha => HS.out.topic kindsP (o := .cells #[.int .i64 na, .int .i64 nb] 62) (t := ⟨na, nb⟩) (v' := v') (w1 := w3) (by omega) ha)
          have hn2 := HS.out.nw
          have HMK : Hid (∀ (w3 : World) (v : Value), (w2.alloc (.cells #[.int .i64 na, .int .i64 nb] 62)).grownBy w3 (Value.ownBlock (.slice tp st.s.tops.length tc)) → MapF (w3.setCell ⟨g, 0, none⟩ v) m st.s.thrs.length (namesF st.s)) :=
            Lib.hid (fun w3 v hg => by
              have hM := HM.out.alloc (.cells #[.int .i64 na, .int .i64 nb] 62)
              have hM3 := hM.kept hg (map_ne_row hM HOW.out)
              exact hM3.kept (grown_set _ _ _ _) (map_ne_head HM.out HS.out.head))
          generalize hlen : st.s.tops.length = tl at *
          have HLEN := Lib.hid hlen
          clear hlen
          go_wp2_with (at_builtin; go_must (refine wpList_append_row rfl (.tmp 46) (.tmp 50) 23 rfl N 62 i62 _ 2 16 Tryd.underlying23 hi62 z0 z1 (by decide) z2 rfl (.slice tp tl tc) tl (tcells st.s.tops) rfl HOW.out 1 (tcell ⟨na, nb⟩) HSX.out ?l2 ?b2 ?n2 ?_); go_must (case l2 => (unfold maxLen; omega)); go_must (case b2 => omega); go_must (case n2 => (simp; omega)); intro v' w3 ha; go_must (obtain ⟨vp, vc, rfl⟩ := own_slice ha.1); go_must (obtain ⟨q1, q2, q3, q4⟩ := HST.out _ w3 ha); have HGA := Lib.hid ha.2.1; have HQ3 := Lib.hid q3; have HQ4 := Lib.hid q4; clear q3 q4 ha)
          go_ret
          rw [HF2.out]
          exact ⟨rfl, ⟨_, _, _, _, HQ3.out, HMK.out w3 _ HGA.out, hm⟩, HL2.out.trans HQ4.out⟩
  · have HF : Hid (topicF st ws = (9, st)) := Lib.hid (by
      unfold topicF
      match ws with
      | [] => rfl
      | [_] => rfl
      | [_, _] => simp at hl
      | _ :: _ :: _ :: _ => rfl)
    have HR := Lib.hid hr
    have hl' : ¬ (ws.length : Int) = 2 := by omega
    have hlb : ((ws.length : Int) != 2) = true := by simp; omega
    generalize topicF st ws = r at *
    clear hr hw hs hl
    generalize ws.length = l at *
    go_enter Tryd.func51, Tryd.ntmps51
    go_wp2_with fail
    go_ret
    rw [HF.out]
    exact ⟨rfl, HR.out, Below.refl _ _⟩
end Go.Proofs.YtdmhlhoimaeacaaDoor

/-
  The program's reader: the lines of the most and of threads.
-/
namespace Go.Proofs.YtdmhlhoimaeacaaDoor
open Go.RowKit Go.Maps
set_option linter.unusedVariables false

set_option maxRecDepth 100000 in
set_option maxHeartbeats 4000000 in
theorem most_walk (N g m : Nat) (st : Rdg) (ao : Option Addr) (ws : List Word) (c : Nat) (w : World) (hE : Env N w) (hr : RdrP w N g m st) (hw : WordsAt w ao ws) (hs : Short ws) :
    Calls Tryd.prog 52 #[.pointer (some ⟨g, 0, none⟩), .slice ao ws.length c] w (LineD N g m st (mostF st ws) w) := by
  by_cases hl : ws.length = 1
  · obtain ⟨a, rfl⟩ : ∃ a, ws = [a] := by
      match ws, hl with
      | [a], _ => exact ⟨a, rfl⟩
    obtain ⟨gw, ow, rfl, hc⟩ := hw.resolve_left (by simp)
    have c0 : w.cell? ⟨gw, ow, none⟩ = some (.string ⟨a.toArray⟩) := hc 0 (by simp)
    have HA : Hid (Calls Tryd.prog 69 #[.string ⟨a.toArray⟩, .int .i64 0, .int .i64 1048576] w (NumD (withinF a 0 1048576) w)) :=
      Lib.hid (by simpa using within_walk ⟨a.toArray⟩ 0 1048576 N w (by rw [size_mk]; exact hs a (by simp)) hE)
    have HR := Lib.hid hr
    have hnw := hr.nw
    have HF : Hid (mostF st [a] = match withinF a 0 1048576 with
      | some n => if st.has then (7, st) else (0, { s := { st.s with most := n }, has := true })
      | none => (9, st)) := rfl
    clear hr hw hs hc hl
    generalize mostF st [a] = r at *
    generalize withinF a 0 1048576 = oa at *
    go_enter Tryd.func52, Tryd.ntmps52
    go_wp2_with fail
    refine HA.out.mono ?_
    rintro e w1 ⟨na, rfl, hna, hb1⟩
    have HNA := Lib.hid hna
    have HR2 := Lib.hid (HR.out.below hb1)
    have HL2 : Hid (Below N w w1) := Lib.hid (hb1.mono hnw)
    clear hna hb1 c0
    cases oa with
    | none =>
      have HF2 : Hid (r = (9, st)) := Lib.hid HF.out
      simp only [Option.isSome_none]
      go_wp2_with fail
      go_ret
      rw [HF2.out]
      exact ⟨rfl, HR2.out, HL2.out⟩
    | some a' =>
      obtain rfl := HNA.out a' rfl
      simp only [Option.isSome_some]
      obtain ⟨tv, hv, sv, V, hS, hM, hm⟩ := HR2.out
      obtain ⟨d0, d1, d2, d3, d4, d5, fz⟩ := hS.cell
      have f3 := fz 3
      have f5 := fz 5
      have HS := Lib.hid hS
      have HM := Lib.hid hM
      clear d0 d1 d2 d4 fz hS hM
      cases hh : st.has with
      | true =>
        have HF2 : Hid (r = (7, st)) := Lib.hid (by rw [HF.out, hh]; rfl)
        rw [hh] at d5
        clear hh
        go_wp2_with fail
        go_ret
        rw [HF2.out]
        exact ⟨rfl, HR2.out, HL2.out⟩
      | false =>
        have HF2 : Hid (r = (0, { s := { st.s with most := na }, has := true })) := Lib.hid (by rw [HF.out, hh]; rfl)
        rw [hh] at d5
        clear hh
        have h1 := HS.out.flag5 kindsP (.bool true)
        have h2 := h1.1.most kindsP na
        have hM2 := (HM.out.kept (grown_set w1 g 5 (.bool true)) (map_ne_head HM.out HS.out.head)).kept (grown_set _ g 3 (.int .i64 na)) (map_ne_head (HM.out.kept (grown_set w1 g 5 (.bool true)) (map_ne_head HM.out HS.out.head)) h1.1.head)
        have HS2 := Lib.hid h2.1
        have HB2 := Lib.hid (h1.2.trans h2.2)
        have HM2 := Lib.hid hM2
        clear h1 h2 hM2
        go_wp2_with fail
        go_ret
        rw [HF2.out]
        exact ⟨rfl, ⟨_, _, _, _, HS2.out, HM2.out, hm⟩, HL2.out.trans HB2.out⟩
  · have HF : Hid (mostF st ws = (9, st)) := Lib.hid (by
      unfold mostF
      match ws with
      | [] => rfl
      | [_] => simp at hl
      | _ :: _ :: _ => rfl)
    have HR := Lib.hid hr
    have hl' : ¬ (ws.length : Int) = 1 := by omega
    have hlb : ((ws.length : Int) != 1) = true := by simp; omega
    generalize mostF st ws = r at *
    clear hr hw hs hl
    generalize ws.length = l at *
    go_enter Tryd.func52, Tryd.ntmps52
    go_wp2_with fail
    go_ret
    rw [HF.out]
    exact ⟨rfl, HR.out, Below.refl _ _⟩

/-- append by its equation, as one step of a region that draws. -/
theorem step_append_runI {P : Program} {ops : Array Oper} {o : Oper} {a : Act} {w : World} {K : Act → World → Prop} {Q : Exit → Act → World → Prop} {E : Prop}
    (hg : o.guard = none) (s x : Operand) (t tn : TypeId) (hop : o.op = Op.call { callee := Callee.builtin Builtin.append, args := #[s, x], argTypes := #[t, tn] })
    (v u : Value) (hs : a.eval s = v) (hx : a.eval x = u) {v' : Value} {w' : World} (hr : (Builtin.append_ #[t, tn] o.type #[v, u]).run P w = .ok v' w') (hK : K (a.put o.dst v') w') :
    if Region.wanted o (yielded ops a.tmps) = true then Oper.wp P o a w K Q else E := by
  have hw : Region.wanted o (yielded ops a.tmps) = true := by simp [Region.wanted, hg]
  rw [if_pos hw]
  unfold Oper.wp execOp
  simp only [hop, resolve, invoke, builtin, Sem.run_bind, Sem.run_pure, Result.andThen_ok, List.map_toArray, List.map_cons, List.map_nil, hs, hx, hr]
  exact hK
theorem keyed_string : Keyed Tryd.prog 9 := string_keyed Tryd.underlying9
theorem key_str (s : Word) (hs : s.length ≤ maxLen) : keyOf Tryd.prog 9 (.string ⟨s.toArray⟩) = some (.string s) := by
  simp [keyOf, Tryd.underlying9, mapKey, hs, size_mk]
theorem zero_bool (w : World) : (zeroValue 4).run Tryd.prog w = .ok (.bool false) w := by kernel_rfl
theorem MapF.look_run {w : World} {b n : Nat} {f : Lit → Option (DataW Unit)} (h : MapF w b n f) (s : Word) (hsl : s.length ≤ maxLen) (r : Bool) (hf : (f (.string s)).getD (.lit (.bool false)) = .lit (.bool r)) :
    (Instr.lookup 71 (.map (some b)) (.string ⟨s.toArray⟩) false).run Tryd.prog w = .ok (.bool r) w := by
  obtain ⟨D, h1, h2⟩ := h
  obtain ⟨v, ps, hrun, hv⟩ := h1.lookup (t := 71) (e := 4) keyed_string Tryd.underlying71 (zero_bool w) (zd := .lit (.bool false)) (zp := []) rfl (key_str s hsl)
  rw [(h2 _).2, hf] at hv
  obtain rfl : v = .bool r := by
    unfold boolElem at hv
    split at hv
    · simp only [Option.some.injEq, Prod.mk.injEq, DataW.lit.injEq, Lit.bool.injEq] at hv
      rw [hv.1]
    · cases hv
  exact hrun
theorem MapF.put_run {w : World} {b n : Nat} {S : Scr} (h : MapF w b n (namesF S)) (hn : n < maxLen) (s : Word) (hsl : s.length ≤ maxLen) :
    ∃ w', (Instr.mapUpdate 71 (.map (some b)) (.string ⟨s.toArray⟩) (.bool true)).run Tryd.prog w = .ok () w' ∧ MapF w' b (n + 1) (namesF { S with thrs := S.thrs ++ [⟨s, []⟩] }) ∧ w.grownBy w' (some b) := by
  obtain ⟨D, h1, h2⟩ := h
  obtain ⟨w', hrun, h3, h4⟩ := h1.update (t := 71) (e := 4) keyed_string Tryd.underlying71 hn (key_str s hsl) (val := .bool true) (d := .lit (.bool true)) (ps := []) rfl
  refine ⟨w', hrun, ⟨_, h3, fun z => ?_⟩, h4⟩
  have hM := h1.isMap
  have hk := keyed_string.key (key_str s hsl)
  by_cases e : z = .string s
  · subst e
    have : namesF { S with thrs := S.thrs ++ [⟨s, []⟩] } (.string s) = some (.lit (.bool true)) := by simp [namesF]
    rw [this]
    exact ⟨has_put_same hM hk _, fun y => atKey_put_same hM hk _ _⟩
  · have : namesF { S with thrs := S.thrs ++ [⟨s, []⟩] } z = namesF S z := by
      cases z with
      | string b =>
        have hb : b ≠ s := fun h => e (by rw [h])
        simp [namesF, hb]
      | _ => rfl
    rw [this]
    exact ⟨(has_put_other e _).trans (h2 z).1, fun y => (atKey_put_other e _ _).trans ((h2 z).2 y)⟩
theorem RdrS.grown_map {w w1 : World} {N T eT eH g m : Nat} {x y tv hv sv : Value} {V : Nat → Value} {S : Scr} (h : RdrS w N T eT eH g x y tv hv sv V S) {c : Nat} {f : Lit → Option (DataW Unit)} (hm : MapF w m c f) (hg : w.grownBy w1 (some m)) : RdrS w1 N T eT eH g x y tv hv sv V S := by
  have key : ∀ {e k n : Nat} {v : Value} {xs : List Value}, w.ownsRow N e k v n xs → w1.ownsRow N e k v n xs := fun ho => ho.kept hg (by
    cases hv : Value.ownBlock _ with
    | none => exact .inl rfl
    | some q => right; intro e; exact map_ne_row hm ho (by rw [hv]; exact e.symm))
  have hr := h.rows
  exact ⟨(hg.block g h.glt (fun e => map_ne_head hm h.head e.symm)).trans h.head, ⟨key hr.tops, key hr.sch, key hr.thrs, fun i hi => key (hr.each i hi), hr.apart⟩, h.lim, h.gN, Nat.le_trans h.nw hg.size⟩
theorem cell_grown_map {w w1 : World} {m c b o : Nat} {f : Lit → Option (DataW Unit)} {v : Value} (hm : MapF w m c f) (hg : w.grownBy w1 (some m)) (h : w.cell? ⟨b, o, none⟩ = some v) : w1.cell? ⟨b, o, none⟩ = some v := by
  have hlt := World.block_lt_of_cell? w _ h
  have hne : some b ≠ some m := by
    intro e
    cases e
    obtain ⟨es, cl, hx⟩ := hm.isMap
    simp [World.cell?, hx] at h
  exact (World.cell?_of_block (a := ⟨b, o, none⟩) (hg.block b hlt hne)).trans h
theorem info58 : (Tryd.prog.info? 58).map (fun i => (i.zero, i.size, i.bytes)) = some (some (.agg #[.string ⟨#[]⟩, .slice none 0 0]), 2, 40) := by kernel_rfl
theorem hcell_one (t : Thr) (v : Value) (hv : v.oneCell' = true) : ∀ u ∈ hcell t v, u.oneCell' = true := by
  intro u hu; simp [hcell] at hu; rcases hu with rfl | rfl
  · rfl
  · exact hv

set_option maxRecDepth 100000 in
set_option maxHeartbeats 8000000 in
theorem thread_walk (N g m : Nat) (st : Rdg) (ao : Option Addr) (ws : List Word) (c : Nat) (w : World) (hE : Env N w) (hr : RdrP w N g m st) (hw : WordsAt w ao ws) (hs : Short ws) :
    Calls Tryd.prog 54 #[.pointer (some ⟨g, 0, none⟩), .slice ao ws.length c] w (LineD N g m st (threadF st ws) w) := by
  by_cases hl : ws.length = 1
  · obtain ⟨a, rfl⟩ : ∃ a, ws = [a] := by
      match ws, hl with
      | [a], _ => exact ⟨a, rfl⟩
    obtain ⟨gw, ow, rfl, hc⟩ := hw.resolve_left (by simp)
    have c0 : w.cell? ⟨gw, ow, none⟩ = some (.string ⟨a.toArray⟩) := hc 0 (by simp)
    have hclt := World.block_lt_of_cell? w _ c0
    have HA : Hid (Calls Tryd.prog 66 #[.string ⟨a.toArray⟩] w fun e w' => e = .returned (.bool (nameF a)) ∧ Below w.heap.size w w') :=
      Lib.hid (by simpa using isName_walk ⟨a.toArray⟩ w (by rw [size_mk]; exact hs a (by simp)))
    have HR := Lib.hid hr
    have hnw := hr.nw
    have HF : Hid (threadF st [a] = if nameF a then (if 64 ≤ st.s.thrs.length then (3, st) else if a ∈ st.s.thrs.map Thr.name then (7, st) else (0, { st with s := { st.s with thrs := st.s.thrs ++ [⟨a, []⟩] } })) else (9, st)) := rfl
    have HC0 := Lib.hid c0
    have HAL : Hid (a.length ≤ 4000000000) := Lib.hid (hs a (by simp))
    clear hr hw hs hc hl
    generalize threadF st [a] = r at *
    generalize nameF a = ok at *
    go_enter Tryd.func54, Tryd.ntmps54
    go_wp2_with fail
    refine HA.out.mono ?_
    rintro e w1 ⟨rfl, hb1⟩
    have HR2 := Lib.hid (HR.out.below hb1)
    have HL2 : Hid (Below N w w1) := Lib.hid (hb1.mono hnw)
    have c1 := (hb1.cell (p := ⟨gw, ow, none⟩) hclt).trans HC0.out
    clear hb1 c0
    cases ok with
    | false =>
      have HF2 : Hid (r = (9, st)) := Lib.hid HF.out
      go_wp2_with fail
      go_ret
      rw [HF2.out]
      exact ⟨rfl, HR2.out, HL2.out⟩
    | true =>
      obtain ⟨tv, hv, sv, V, hS, hM, hm⟩ := HR2.out
      obtain ⟨d0, d1, d2, d3, d4, d5, fz⟩ := hS.cell
      have HS := Lib.hid hS
      have HM := Lib.hid hM
      have hlim := hS.lim.thrs
      obtain ⟨hp, hcap, rfl⟩ := own_slice hS.rows.thrs
      clear d0 d2 d3 d5 fz hS hM
      by_cases hfull : 64 ≤ st.s.thrs.length
      · have HF2 : Hid (r = (3, st)) := Lib.hid (by rw [HF.out]; simp only [if_true, if_pos hfull])
        have hfull' : (st.s.thrs.length : Int) ≥ 64 := by omega
        go_wp2_with fail
        go_ret
        rw [HF2.out]
        exact ⟨rfl, HR2.out, HL2.out⟩
      · have hfull' : ¬ (st.s.thrs.length : Int) ≥ 64 := by omega
        obtain ⟨b, hb⟩ : ∃ b : Bool, b = decide (a ∈ st.s.thrs.map Thr.name) := ⟨_, rfl⟩
        have hal : a.length ≤ maxLen := by have := HAL.out; unfold maxLen; omega
        have hlk := (HM.out.below (Below.refl _ _).drew).look_run a hal b (by rw [hb]; unfold namesF; by_cases h : a ∈ st.s.thrs.map Thr.name <;> simp [h])
        have HBB := Lib.hid hb
        clear hb
        go_upto_region 5 with fail
        have HAL2 := Lib.hid hal
        clear hal
        go_cut [24] (fun v wx => v = .bool b ∧ wx = w1.drew)
        case first =>
          go_region
          all_goals
            go_wp2_with fail
            go_meet
            exact ⟨rfl, rfl⟩
        case rest =>
          obtain ⟨rfl, rfl⟩ := hcut
          clear hlk
          cases b with
          | true =>
            have HF2 : Hid (r = (7, st)) := Lib.hid (by rw [HF.out]; simp only [if_true, if_neg hfull]; rw [if_pos (by have := HBB.out; simpa using this)])
            go_wp2_with fail
            go_ret
            rw [HF2.out]
            exact ⟨rfl, HR2.out.below (Below.refl _ _).drew, HL2.out.drew⟩
          | false =>
            have HF2 : Hid (r = (0, { st with s := { st.s with thrs := st.s.thrs ++ [⟨a, []⟩] } })) := Lib.hid (by rw [HF.out]; simp only [if_true, if_neg hfull]; rw [if_neg (by have := HBB.out; simpa using this)])
            obtain ⟨w3, hput, hM3, hg3⟩ := MapF.put_run (w := w1.drew.drew) (HM.out.below ((Below.refl _ _).drew.drew)) (by unfold maxLen; omega) a HAL2.out
            have HM3 := Lib.hid hM3
            have HG3 := Lib.hid hg3
            clear hM3 hg3
            go_upto_region 7 with fail
            go_cut [33] (fun _ wx => wx = w3)
            case first =>
              go_region
              all_goals
                go_wp2_with fail
                go_meet
                rfl
            case rest =>
              subst hcut
              clear hput
              have hMd := HM.out.below ((Below.refl w1.heap.size w1).drew.drew)
              have hS3 := (HS.out.below ((Below.refl w1.heap.size w1).drew.drew)).grown_map hMd HG3.out
              have c3 : wc.cell? ⟨gw, ow, none⟩ = some (.string ⟨a.toArray⟩) := cell_grown_map hMd HG3.out c1
              obtain ⟨d0, d1, d2, d3, d4, d5, fz⟩ := hS3.cell
              have f1 := fz 1
              obtain ⟨i58, hi58, z0, z1, z2⟩ := info_parts info58
              have hgl := hS3.glt
              have hwl := World.block_lt_of_cell? wc _ c3
              have hnc := hS3.nw
              have hSd := hS3.below (Below.refl wc.heap.size wc).drew
              have hsx := src_one0 wc.drew #[.string ⟨a.toArray⟩, .slice none 0 0] 58 2 rfl (hcell_one ⟨a, []⟩ (.slice none 0 0) rfl)
              obtain ⟨v', w4, hrun, ha⟩ := run_append_row (P := Tryd.prog) (wc.drew.alloc (.cells #[.string ⟨a.toArray⟩, .slice none 0 0] 58)) N 24 24 58 i58 _ 2 40 Tryd.underlying24 hi58 z0 z1 (by decide) z2 rfl _ _ _ (hSd.rows.thrs.alloc _) _ 1 (hcell ⟨a, []⟩ (.slice none 0 0)) hsx (by unfold maxLen; omega) (by omega) (by simp; omega)
              obtain ⟨q1, q2, q3, q4⟩ := hSd.thread kindsP (n := a) (by omega) ha
              obtain ⟨vp, vc, rfl⟩ := own_slice ha.1
              have HRUN : Hid ((Builtin.append_ #[24, 24] 24 #[.slice hp st.s.thrs.length hcap, .slice (some ⟨wc.heap.size, 0, none⟩) 1 1]).run Tryd.prog (wc.alloc (.cells #[.string ⟨a.toArray⟩, .slice none 0 0] 58)).drew = .ok (.slice vp (st.s.thrs.length + 1) vc) w4) := Lib.hid hrun
              have hMm := ((HM3.out.below (Below.refl _ _).drew).alloc (.cells #[.string ⟨a.toArray⟩, .slice none 0 0] 58)).kept ha.2.1 (map_ne_row ((HM3.out.below (Below.refl _ _).drew).alloc (.cells #[.string ⟨a.toArray⟩, .slice none 0 0] 58)) (hSd.rows.thrs.alloc _))
              have hM4 := hMm.kept (grown_set w4 g 1 (.slice vp (st.s.thrs.length + 1) vc)) (by
                intro e
                cases e
                obtain ⟨es, cl, hx⟩ := hMm.isMap
                simp [World.cell?, hx] at q1)
              have HS4 := Lib.hid q3
              have HM4 := Lib.hid hM4
              have HL4 : Hid (Below N w (w4.setCell ⟨g, 1, none⟩ (.slice vp (st.s.thrs.length + 1) vc))) := Lib.hid (((HL2.out.drew.drew).grown HG3.out HS.out.nw (fun q hq => by cases hq; exact hm)).trans (((Below.refl N wc).drew).trans q4))
              have c3a : (wc.alloc (.cells #[.string ⟨a.toArray⟩, .slice none 0 0] 58)).cell? ⟨gw, ow, none⟩ = some (.string ⟨a.toArray⟩) := (World.cell?_of_block (a := ⟨gw, ow, none⟩) (Below.heap_alloc _ _ _ hwl)).trans c3
              have d1a : (wc.alloc (.cells #[.string ⟨a.toArray⟩, .slice none 0 0] 58)).cell? ⟨g, 1, none⟩ = some (.slice hp st.s.thrs.length hcap) := (World.cell?_of_block (a := ⟨g, 1, none⟩) (Below.heap_alloc _ _ _ hgl)).trans d1
              clear hMd hS3 hSd hsx hrun ha q3 q4 hMm hM4 d0 d2 d3 d4 d5 fz
              go_upto_region 8 with fail
              go_region_law (refine step_append_runI (by rfl) _ _ 24 24 (by rfl) (.slice hp st.s.thrs.length hcap) (.slice (some ⟨wc.heap.size, 0, none⟩) 1 1) (by rfl) (by rfl) HRUN.out ?_)
              all_goals
                go_wp2_with fail
                go_ret
                rw [HF2.out]
                refine ⟨rfl, ⟨_, _, _, _, HS4.out, ?_, hm⟩, HL4.out⟩
                have h := HM4.out
                simpa using h
  · have HF : Hid (threadF st ws = (9, st)) := Lib.hid (by
      unfold threadF
      match ws with
      | [] => rfl
      | [_] => simp at hl
      | _ :: _ :: _ => rfl)
    have HR := Lib.hid hr
    have hl' : ¬ (ws.length : Int) = 1 := by omega
    have hlb : ((ws.length : Int) != 1) = true := by simp; omega
    generalize threadF st ws = r at *
    clear hr hw hs hl
    generalize ws.length = l at *
    go_enter Tryd.func54, Tryd.ntmps54
    go_wp2_with fail
    go_ret
    rw [HF.out]
    exact ⟨rfl, HR.out, Below.refl _ _⟩
end Go.Proofs.YtdmhlhoimaeacaaDoor
