/-
  Merged out of: Ops. No condition of its own.
-/
import Derived.Test.YtimkkeomdkbcjaaFarP04
/-
  The operations of calm code. No condition of its own.
-/
namespace Go.Proofs.Ytimkkeomdkbcjaa
open Go.Conc
set_option linter.unusedVariables false
set_option linter.unusedSimpArgs false

def T (z : Bool) (P : Program) {α : Type} (s : Sem α) : Prop := Tame z P (fun _ => True) s
section
variable {z : Bool} {P : Program} {α β : Type}
theorem t_bind {s : Sem α} {f : α → Sem β} (h1 : T z P s) (h2 : ∀ a, T z P (f a)) : T z P (s >>= f) := tame_bind (V := fun _ => True) (fun a _ => h2 a) h1
theorem t_pure (a : α) : T z P (pure a : Sem α) := trivial
theorem t_map {s : Sem α} (f : α → β) (h1 : T z P s) : T z P (f <$> s) := t_bind (f := fun a => pure (f a)) h1 fun _ => t_pure _
theorem t_ite {c : Prop} [Decidable c] {s t : Sem α} (h1 : T z P s) (h2 : T z P t) : T z P (if c then s else t) := by
  split <;> assumption
theorem t_halt (h : Halt) (hs : soft h) : T z P (.halt h : Sem α) := hs
theorem t_stuck (w : String) : T z P (stuck w : Sem α) := trivial
theorem t_unsup (u : Unsupported) : T z P (unsupported u : Sem α) := trivial
theorem t_goPanic (v : Value) : T z P (goPanic v : Sem α) := trivial
theorem t_getObj (r : Nat) : T z P (getObj r) := fun _ => trivial
theorem t_newObj (o : Obj) : T z P (newObj o) := fun _ => trivial
theorem t_shape (r : Nat) : T z P (shape r) := fun _ => trivial
theorem t_frozen (a : Addr) : T false P (frozen a) := ⟨.inl rfl, fun _ => trivial⟩
theorem t_choose (q : Question) : T z P (choose q) := fun _ => trivial
theorem t_program : T z P program := trivial
theorem t_mark (m : Mark) (h1 : m ≠ .disable) (h2 : m ≠ .enable) (h3 : ∀ a, m ≠ .write a) : T z P (mark m) := ⟨⟨h1, h2, h3⟩, trivial⟩
theorem t_load (a : Addr) (m : Mode) : T z P (load a m) := fun _ => trivial
theorem t_store (a : Addr) (v : Value) (m : Mode) : T z P (store a v m) := (trivial : Tame z P (fun _ => True) (Sem.pure ()))
set_option maxHeartbeats 2000000 in
theorem t_typeInfo (t : TypeId) : T z P (typeInfo t) := by
  unfold typeInfo
  repeat' first
    | (with_reducible first | exact t_pure _ | exact t_halt _ trivial | exact t_stuck _ | exact t_unsup _ | exact t_goPanic _ | exact t_getObj _ | exact t_newObj _ | exact t_shape _ | exact t_frozen _ | exact t_choose _ | exact t_program | exact t_mark _ (by simp) (by simp) (by simp) | exact t_load _ _ | exact t_store _ _ _)
    | assumption
    | (with_reducible refine t_bind ?_ (fun _ => ?_))
    | (with_reducible refine t_map _ ?_)
    | (with_reducible refine t_ite ?_ ?_)
    | split
    | (intro _)
    | (dsimp only)
set_option maxHeartbeats 2000000 in
theorem t_underlying (t : TypeId) : T z P (underlying t) := by
  unfold underlying
  repeat' first
    | (with_reducible first | exact t_pure _ | exact t_halt _ trivial | exact t_stuck _ | exact t_unsup _ | exact t_goPanic _ | exact t_getObj _ | exact t_newObj _ | exact t_shape _ | exact t_frozen _ | exact t_choose _ | exact t_program | exact t_mark _ (by simp) (by simp) (by simp) | exact t_load _ _ | exact t_store _ _ _)
    | assumption
    | (with_reducible first | exact t_typeInfo _)
    | (with_reducible refine t_bind ?_ (fun _ => ?_))
    | (with_reducible refine t_map _ ?_)
    | (with_reducible refine t_ite ?_ ?_)
    | split
    | (intro _)
    | (dsimp only)
set_option maxHeartbeats 2000000 in
theorem t_sizeOf (t : TypeId) : T z P (sizeOf t) := by
  unfold sizeOf
  repeat' first
    | (with_reducible first | exact t_pure _ | exact t_halt _ trivial | exact t_stuck _ | exact t_unsup _ | exact t_goPanic _ | exact t_getObj _ | exact t_newObj _ | exact t_shape _ | exact t_frozen _ | exact t_choose _ | exact t_program | exact t_mark _ (by simp) (by simp) (by simp) | exact t_load _ _ | exact t_store _ _ _)
    | assumption
    | (with_reducible first | exact t_typeInfo _ | exact t_underlying _)
    | (with_reducible refine t_bind ?_ (fun _ => ?_))
    | (with_reducible refine t_map _ ?_)
    | (with_reducible refine t_ite ?_ ?_)
    | split
    | (intro _)
    | (dsimp only)
set_option maxHeartbeats 2000000 in
theorem t_zeroValue (t : TypeId) : T z P (zeroValue t) := by
  unfold zeroValue
  repeat' first
    | (with_reducible first | exact t_pure _ | exact t_halt _ trivial | exact t_stuck _ | exact t_unsup _ | exact t_goPanic _ | exact t_getObj _ | exact t_newObj _ | exact t_shape _ | exact t_frozen _ | exact t_choose _ | exact t_program | exact t_mark _ (by simp) (by simp) (by simp) | exact t_load _ _ | exact t_store _ _ _)
    | assumption
    | (with_reducible first | exact t_typeInfo _ | exact t_underlying _ | exact t_sizeOf _)
    | (with_reducible refine t_bind ?_ (fun _ => ?_))
    | (with_reducible refine t_map _ ?_)
    | (with_reducible refine t_ite ?_ ?_)
    | split
    | (intro _)
    | (dsimp only)
set_option maxHeartbeats 2000000 in
theorem t_isAgg (t : TypeId) : T z P (isAgg t) := by
  unfold isAgg
  repeat' first
    | (with_reducible first | exact t_pure _ | exact t_halt _ trivial | exact t_stuck _ | exact t_unsup _ | exact t_goPanic _ | exact t_getObj _ | exact t_newObj _ | exact t_shape _ | exact t_frozen _ | exact t_choose _ | exact t_program | exact t_mark _ (by simp) (by simp) (by simp) | exact t_load _ _ | exact t_store _ _ _)
    | assumption
    | (with_reducible first | exact t_typeInfo _ | exact t_underlying _ | exact t_sizeOf _ | exact t_zeroValue _)
    | (with_reducible refine t_bind ?_ (fun _ => ?_))
    | (with_reducible refine t_map _ ?_)
    | (with_reducible refine t_ite ?_ ?_)
    | split
    | (intro _)
    | (dsimp only)
set_option maxHeartbeats 2000000 in
theorem t_asIntOf (v : Value) : T z P (asIntOf v) := by
  unfold asIntOf
  repeat' first
    | (with_reducible first | exact t_pure _ | exact t_halt _ trivial | exact t_stuck _ | exact t_unsup _ | exact t_goPanic _ | exact t_getObj _ | exact t_newObj _ | exact t_shape _ | exact t_frozen _ | exact t_choose _ | exact t_program | exact t_mark _ (by simp) (by simp) (by simp) | exact t_load _ _ | exact t_store _ _ _)
    | assumption
    | (with_reducible first | exact t_typeInfo _ | exact t_underlying _ | exact t_sizeOf _ | exact t_zeroValue _ | exact t_isAgg _)
    | (with_reducible refine t_bind ?_ (fun _ => ?_))
    | (with_reducible refine t_map _ ?_)
    | (with_reducible refine t_ite ?_ ?_)
    | split
    | (intro _)
    | (dsimp only)
set_option maxHeartbeats 2000000 in
theorem t_asInt (v : Value) : T z P (asInt v) := by
  unfold asInt
  repeat' first
    | (with_reducible first | exact t_pure _ | exact t_halt _ trivial | exact t_stuck _ | exact t_unsup _ | exact t_goPanic _ | exact t_getObj _ | exact t_newObj _ | exact t_shape _ | exact t_frozen _ | exact t_choose _ | exact t_program | exact t_mark _ (by simp) (by simp) (by simp) | exact t_load _ _ | exact t_store _ _ _)
    | assumption
    | (with_reducible first | exact t_typeInfo _ | exact t_underlying _ | exact t_sizeOf _ | exact t_zeroValue _ | exact t_isAgg _ | exact t_asIntOf _)
    | (with_reducible refine t_bind ?_ (fun _ => ?_))
    | (with_reducible refine t_map _ ?_)
    | (with_reducible refine t_ite ?_ ?_)
    | split
    | (intro _)
    | (dsimp only)
set_option maxHeartbeats 2000000 in
theorem t_asBool (v : Value) : T z P (asBool v) := by
  unfold asBool
  repeat' first
    | (with_reducible first | exact t_pure _ | exact t_halt _ trivial | exact t_stuck _ | exact t_unsup _ | exact t_goPanic _ | exact t_getObj _ | exact t_newObj _ | exact t_shape _ | exact t_frozen _ | exact t_choose _ | exact t_program | exact t_mark _ (by simp) (by simp) (by simp) | exact t_load _ _ | exact t_store _ _ _)
    | assumption
    | (with_reducible first | exact t_typeInfo _ | exact t_underlying _ | exact t_sizeOf _ | exact t_zeroValue _ | exact t_isAgg _ | exact t_asIntOf _ | exact t_asInt _)
    | (with_reducible refine t_bind ?_ (fun _ => ?_))
    | (with_reducible refine t_map _ ?_)
    | (with_reducible refine t_ite ?_ ?_)
    | split
    | (intro _)
    | (dsimp only)
set_option maxHeartbeats 2000000 in
theorem t_asAgg (v : Value) : T z P (asAgg v) := by
  unfold asAgg
  repeat' first
    | (with_reducible first | exact t_pure _ | exact t_halt _ trivial | exact t_stuck _ | exact t_unsup _ | exact t_goPanic _ | exact t_getObj _ | exact t_newObj _ | exact t_shape _ | exact t_frozen _ | exact t_choose _ | exact t_program | exact t_mark _ (by simp) (by simp) (by simp) | exact t_load _ _ | exact t_store _ _ _)
    | assumption
    | (with_reducible first | exact t_typeInfo _ | exact t_underlying _ | exact t_sizeOf _ | exact t_zeroValue _ | exact t_isAgg _ | exact t_asIntOf _ | exact t_asInt _ | exact t_asBool _)
    | (with_reducible refine t_bind ?_ (fun _ => ?_))
    | (with_reducible refine t_map _ ?_)
    | (with_reducible refine t_ite ?_ ?_)
    | split
    | (intro _)
    | (dsimp only)
set_option maxHeartbeats 2000000 in
theorem t_elemOf (t : TypeId) : T z P (elemOf t) := by
  unfold elemOf
  repeat' first
    | (with_reducible first | exact t_pure _ | exact t_halt _ trivial | exact t_stuck _ | exact t_unsup _ | exact t_goPanic _ | exact t_getObj _ | exact t_newObj _ | exact t_shape _ | exact t_frozen _ | exact t_choose _ | exact t_program | exact t_mark _ (by simp) (by simp) (by simp) | exact t_load _ _ | exact t_store _ _ _)
    | assumption
    | (with_reducible first | exact t_typeInfo _ | exact t_underlying _ | exact t_sizeOf _ | exact t_zeroValue _ | exact t_isAgg _ | exact t_asIntOf _ | exact t_asInt _ | exact t_asBool _ | exact t_asAgg _)
    | (with_reducible refine t_bind ?_ (fun _ => ?_))
    | (with_reducible refine t_map _ ?_)
    | (with_reducible refine t_ite ?_ ?_)
    | split
    | (intro _)
    | (dsimp only)
set_option maxHeartbeats 2000000 in
theorem t_newRow (t : TypeId) (c : Array Value) : T z P (newRow t c) := by
  unfold newRow
  repeat' first
    | (with_reducible first | exact t_pure _ | exact t_halt _ trivial | exact t_stuck _ | exact t_unsup _ | exact t_goPanic _ | exact t_getObj _ | exact t_newObj _ | exact t_shape _ | exact t_frozen _ | exact t_choose _ | exact t_program | exact t_mark _ (by simp) (by simp) (by simp) | exact t_load _ _ | exact t_store _ _ _)
    | assumption
    | (with_reducible first | exact t_typeInfo _ | exact t_underlying _ | exact t_sizeOf _ | exact t_zeroValue _ | exact t_isAgg _ | exact t_asIntOf _ | exact t_asInt _ | exact t_asBool _ | exact t_asAgg _ | exact t_elemOf _)
    | (with_reducible refine t_bind ?_ (fun _ => ?_))
    | (with_reducible refine t_map _ ?_)
    | (with_reducible refine t_ite ?_ ?_)
    | split
    | (intro _)
    | (dsimp only)
set_option maxHeartbeats 2000000 in
theorem t_newVar (t : TypeId) (v : Value) : T z P (newVar t v) := by
  unfold newVar
  repeat' first
    | (with_reducible first | exact t_pure _ | exact t_halt _ trivial | exact t_stuck _ | exact t_unsup _ | exact t_goPanic _ | exact t_getObj _ | exact t_newObj _ | exact t_shape _ | exact t_frozen _ | exact t_choose _ | exact t_program | exact t_mark _ (by simp) (by simp) (by simp) | exact t_load _ _ | exact t_store _ _ _)
    | assumption
    | (with_reducible first | exact t_typeInfo _ | exact t_underlying _ | exact t_sizeOf _ | exact t_zeroValue _ | exact t_isAgg _ | exact t_asIntOf _ | exact t_asInt _ | exact t_asBool _ | exact t_asAgg _ | exact t_elemOf _ | exact t_newRow _ _)
    | (with_reducible refine t_bind ?_ (fun _ => ?_))
    | (with_reducible refine t_map _ ?_)
    | (with_reducible refine t_ite ?_ ?_)
    | split
    | (intro _)
    | (dsimp only)
set_option maxHeartbeats 2000000 in
theorem t_runtimePanic (e : RuntimeError) : T z P (runtimePanic e : Sem α) := by
  unfold runtimePanic
  repeat' first
    | (with_reducible first | exact t_pure _ | exact t_halt _ trivial | exact t_stuck _ | exact t_unsup _ | exact t_goPanic _ | exact t_getObj _ | exact t_newObj _ | exact t_shape _ | exact t_frozen _ | exact t_choose _ | exact t_program | exact t_mark _ (by simp) (by simp) (by simp) | exact t_load _ _ | exact t_store _ _ _)
    | assumption
    | (with_reducible first | exact t_typeInfo _ | exact t_underlying _ | exact t_sizeOf _ | exact t_zeroValue _ | exact t_isAgg _ | exact t_asIntOf _ | exact t_asInt _ | exact t_asBool _ | exact t_asAgg _ | exact t_elemOf _ | exact t_newRow _ _ | exact t_newVar _ _)
    | (with_reducible refine t_bind ?_ (fun _ => ?_))
    | (with_reducible refine t_map _ ?_)
    | (with_reducible refine t_ite ?_ ?_)
    | split
    | (intro _)
    | (dsimp only)
set_option maxHeartbeats 2000000 in
theorem t_boundsPanic (k : IntKind) (x y : Int) (c : BoundsCode) : T z P (boundsPanic k x y c : Sem α) := by
  unfold boundsPanic
  repeat' first
    | (with_reducible first | exact t_pure _ | exact t_halt _ trivial | exact t_stuck _ | exact t_unsup _ | exact t_goPanic _ | exact t_getObj _ | exact t_newObj _ | exact t_shape _ | exact t_frozen _ | exact t_choose _ | exact t_program | exact t_mark _ (by simp) (by simp) (by simp) | exact t_load _ _ | exact t_store _ _ _)
    | assumption
    | (with_reducible first | exact t_typeInfo _ | exact t_underlying _ | exact t_sizeOf _ | exact t_zeroValue _ | exact t_isAgg _ | exact t_asIntOf _ | exact t_asInt _ | exact t_asBool _ | exact t_asAgg _ | exact t_elemOf _ | exact t_newRow _ _ | exact t_newVar _ _ | exact t_runtimePanic _)
    | (with_reducible refine t_bind ?_ (fun _ => ?_))
    | (with_reducible refine t_map _ ?_)
    | (with_reducible refine t_ite ?_ ?_)
    | split
    | (intro _)
    | (dsimp only)
set_option maxHeartbeats 2000000 in
theorem t_asAddr (v : Value) : T z P (asAddr v) := by
  unfold asAddr
  repeat' first
    | (with_reducible first | exact t_pure _ | exact t_halt _ trivial | exact t_stuck _ | exact t_unsup _ | exact t_goPanic _ | exact t_getObj _ | exact t_newObj _ | exact t_shape _ | exact t_frozen _ | exact t_choose _ | exact t_program | exact t_mark _ (by simp) (by simp) (by simp) | exact t_load _ _ | exact t_store _ _ _)
    | assumption
    | (with_reducible first | exact t_typeInfo _ | exact t_underlying _ | exact t_sizeOf _ | exact t_zeroValue _ | exact t_isAgg _ | exact t_asIntOf _ | exact t_asInt _ | exact t_asBool _ | exact t_asAgg _ | exact t_elemOf _ | exact t_newRow _ _ | exact t_newVar _ _ | exact t_runtimePanic _ | exact t_boundsPanic _ _ _ _)
    | (with_reducible refine t_bind ?_ (fun _ => ?_))
    | (with_reducible refine t_map _ ?_)
    | (with_reducible refine t_ite ?_ ?_)
    | split
    | (intro _)
    | (dsimp only)
set_option maxHeartbeats 2000000 in
theorem t_part (t : TypeId) (cs : Array Value) (off : Nat) : T z P (part t cs off) := by
  unfold part
  repeat' first
    | (with_reducible first | exact t_pure _ | exact t_halt _ trivial | exact t_stuck _ | exact t_unsup _ | exact t_goPanic _ | exact t_getObj _ | exact t_newObj _ | exact t_shape _ | exact t_frozen _ | exact t_choose _ | exact t_program | exact t_mark _ (by simp) (by simp) (by simp) | exact t_load _ _ | exact t_store _ _ _)
    | assumption
    | (with_reducible first | exact t_typeInfo _ | exact t_underlying _ | exact t_sizeOf _ | exact t_zeroValue _ | exact t_isAgg _ | exact t_asIntOf _ | exact t_asInt _ | exact t_asBool _ | exact t_asAgg _ | exact t_elemOf _ | exact t_newRow _ _ | exact t_newVar _ _ | exact t_runtimePanic _ | exact t_boundsPanic _ _ _ _ | exact t_asAddr _)
    | (with_reducible refine t_bind ?_ (fun _ => ?_))
    | (with_reducible refine t_map _ ?_)
    | (with_reducible refine t_ite ?_ ?_)
    | split
    | (intro _)
    | (dsimp only)
theorem t_loadCellsFrom (a : Addr) : ∀ (n i : Nat) (acc : Array Value), T z P (loadCellsFrom a i n acc)
  | 0, _, _ => t_pure _
  | n + 1, i, acc => t_bind (t_load _ _) fun v => t_loadCellsFrom a n (i + 1) (acc.push v)
theorem t_loadCells (a : Addr) (n : Nat) : T z P (loadCells a n) := t_loadCellsFrom a n 0 #[]
theorem t_storeCells (a : Addr) : ∀ (vs : List Value) (i : Nat), T z P (storeCells a vs i)
  | [], _ => t_pure _
  | v :: r, i => t_bind (t_store _ _ _) fun _ => t_storeCells a r (i + 1)
set_option maxHeartbeats 2000000 in
theorem t_loadVar (t : TypeId) (a : Addr) : T z P (loadVar t a) := by
  unfold loadVar
  repeat' first
    | (with_reducible first | exact t_pure _ | exact t_halt _ trivial | exact t_stuck _ | exact t_unsup _ | exact t_goPanic _ | exact t_getObj _ | exact t_newObj _ | exact t_shape _ | exact t_frozen _ | exact t_choose _ | exact t_program | exact t_mark _ (by simp) (by simp) (by simp) | exact t_load _ _ | exact t_store _ _ _)
    | assumption
    | (with_reducible first | exact t_typeInfo _ | exact t_underlying _ | exact t_sizeOf _ | exact t_zeroValue _ | exact t_isAgg _ | exact t_asIntOf _ | exact t_asInt _ | exact t_asBool _ | exact t_asAgg _ | exact t_elemOf _ | exact t_newRow _ _ | exact t_newVar _ _ | exact t_runtimePanic _ | exact t_boundsPanic _ _ _ _ | exact t_asAddr _ | exact t_part _ _ _ | exact t_loadCells _ _ | exact t_storeCells _ _ _)
    | (with_reducible refine t_bind ?_ (fun _ => ?_))
    | (with_reducible refine t_map _ ?_)
    | (with_reducible refine t_ite ?_ ?_)
    | split
    | (intro _)
    | (dsimp only)
set_option maxHeartbeats 2000000 in
theorem t_storeVar (t : TypeId) (a : Addr) (v : Value) : T z P (storeVar t a v) := by
  unfold storeVar
  repeat' first
    | (with_reducible first | exact t_pure _ | exact t_halt _ trivial | exact t_stuck _ | exact t_unsup _ | exact t_goPanic _ | exact t_getObj _ | exact t_newObj _ | exact t_shape _ | exact t_frozen _ | exact t_choose _ | exact t_program | exact t_mark _ (by simp) (by simp) (by simp) | exact t_load _ _ | exact t_store _ _ _)
    | assumption
    | (with_reducible first | exact t_typeInfo _ | exact t_underlying _ | exact t_sizeOf _ | exact t_zeroValue _ | exact t_isAgg _ | exact t_asIntOf _ | exact t_asInt _ | exact t_asBool _ | exact t_asAgg _ | exact t_elemOf _ | exact t_newRow _ _ | exact t_newVar _ _ | exact t_runtimePanic _ | exact t_boundsPanic _ _ _ _ | exact t_asAddr _ | exact t_part _ _ _ | exact t_loadCells _ _ | exact t_storeCells _ _ _ | exact t_loadVar _ _)
    | (with_reducible refine t_bind ?_ (fun _ => ?_))
    | (with_reducible refine t_map _ ?_)
    | (with_reducible refine t_ite ?_ ?_)
    | split
    | (intro _)
    | (dsimp only)
set_option maxHeartbeats 2000000 in
theorem t_sureAddr (v : Value) : T z P (Instr.sureAddr v) := by
  unfold Instr.sureAddr
  repeat' first
    | (with_reducible first | exact t_pure _ | exact t_halt _ trivial | exact t_stuck _ | exact t_unsup _ | exact t_goPanic _ | exact t_getObj _ | exact t_newObj _ | exact t_shape _ | exact t_frozen _ | exact t_choose _ | exact t_program | exact t_mark _ (by simp) (by simp) (by simp) | exact t_load _ _ | exact t_store _ _ _)
    | assumption
    | (with_reducible first | exact t_typeInfo _ | exact t_underlying _ | exact t_sizeOf _ | exact t_zeroValue _ | exact t_isAgg _ | exact t_asIntOf _ | exact t_asInt _ | exact t_asBool _ | exact t_asAgg _ | exact t_elemOf _ | exact t_newRow _ _ | exact t_newVar _ _ | exact t_runtimePanic _ | exact t_boundsPanic _ _ _ _ | exact t_asAddr _ | exact t_part _ _ _ | exact t_loadCells _ _ | exact t_storeCells _ _ _ | exact t_loadVar _ _ | exact t_storeVar _ _ _)
    | (with_reducible refine t_bind ?_ (fun _ => ?_))
    | (with_reducible refine t_map _ ?_)
    | (with_reducible refine t_ite ?_ ?_)
    | split
    | (intro _)
    | (dsimp only)
set_option maxHeartbeats 2000000 in
theorem t_loadAt (t : TypeId) (v : Value) : T z P (Instr.loadAt t v) := by
  unfold Instr.loadAt
  repeat' first
    | (with_reducible first | exact t_pure _ | exact t_halt _ trivial | exact t_stuck _ | exact t_unsup _ | exact t_goPanic _ | exact t_getObj _ | exact t_newObj _ | exact t_shape _ | exact t_frozen _ | exact t_choose _ | exact t_program | exact t_mark _ (by simp) (by simp) (by simp) | exact t_load _ _ | exact t_store _ _ _)
    | assumption
    | (with_reducible first | exact t_typeInfo _ | exact t_underlying _ | exact t_sizeOf _ | exact t_zeroValue _ | exact t_isAgg _ | exact t_asIntOf _ | exact t_asInt _ | exact t_asBool _ | exact t_asAgg _ | exact t_elemOf _ | exact t_newRow _ _ | exact t_newVar _ _ | exact t_runtimePanic _ | exact t_boundsPanic _ _ _ _ | exact t_asAddr _ | exact t_part _ _ _ | exact t_loadCells _ _ | exact t_storeCells _ _ _ | exact t_loadVar _ _ | exact t_storeVar _ _ _ | exact t_sureAddr _)
    | (with_reducible refine t_bind ?_ (fun _ => ?_))
    | (with_reducible refine t_map _ ?_)
    | (with_reducible refine t_ite ?_ ?_)
    | split
    | (intro _)
    | (dsimp only)
set_option maxHeartbeats 2000000 in
theorem t_storeAt (t : TypeId) (v u : Value) : T z P (Instr.storeAt t v u) := by
  unfold Instr.storeAt
  repeat' first
    | (with_reducible first | exact t_pure _ | exact t_halt _ trivial | exact t_stuck _ | exact t_unsup _ | exact t_goPanic _ | exact t_getObj _ | exact t_newObj _ | exact t_shape _ | exact t_frozen _ | exact t_choose _ | exact t_program | exact t_mark _ (by simp) (by simp) (by simp) | exact t_load _ _ | exact t_store _ _ _)
    | assumption
    | (with_reducible first | exact t_typeInfo _ | exact t_underlying _ | exact t_sizeOf _ | exact t_zeroValue _ | exact t_isAgg _ | exact t_asIntOf _ | exact t_asInt _ | exact t_asBool _ | exact t_asAgg _ | exact t_elemOf _ | exact t_newRow _ _ | exact t_newVar _ _ | exact t_runtimePanic _ | exact t_boundsPanic _ _ _ _ | exact t_asAddr _ | exact t_part _ _ _ | exact t_loadCells _ _ | exact t_storeCells _ _ _ | exact t_loadVar _ _ | exact t_storeVar _ _ _ | exact t_sureAddr _)
    | (with_reducible refine t_bind ?_ (fun _ => ?_))
    | (with_reducible refine t_map _ ?_)
    | (with_reducible refine t_ite ?_ ?_)
    | split
    | (intro _)
    | (dsimp only)
set_option maxHeartbeats 2000000 in
theorem t_viewAt (r : Nat) : T z P (viewAt r) := by
  unfold viewAt
  repeat' first
    | (with_reducible first | exact t_pure _ | exact t_halt _ trivial | exact t_stuck _ | exact t_unsup _ | exact t_goPanic _ | exact t_getObj _ | exact t_newObj _ | exact t_shape _ | exact t_frozen _ | exact t_choose _ | exact t_program | exact t_mark _ (by simp) (by simp) (by simp) | exact t_load _ _ | exact t_store _ _ _)
    | assumption
    | (with_reducible first | exact t_typeInfo _ | exact t_underlying _ | exact t_sizeOf _ | exact t_zeroValue _ | exact t_isAgg _ | exact t_asIntOf _ | exact t_asInt _ | exact t_asBool _ | exact t_asAgg _ | exact t_elemOf _ | exact t_newRow _ _ | exact t_newVar _ _ | exact t_runtimePanic _ | exact t_boundsPanic _ _ _ _ | exact t_asAddr _ | exact t_part _ _ _ | exact t_loadCells _ _ | exact t_storeCells _ _ _ | exact t_loadVar _ _ | exact t_storeVar _ _ _ | exact t_sureAddr _)
    | (with_reducible refine t_bind ?_ (fun _ => ?_))
    | (with_reducible refine t_map _ ?_)
    | (with_reducible refine t_ite ?_ ?_)
    | split
    | (intro _)
    | (dsimp only)
set_option maxHeartbeats 2000000 in
theorem t_numberAt (r : Nat) : T z P (numberAt r) := by
  unfold numberAt
  repeat' first
    | (with_reducible first | exact t_pure _ | exact t_halt _ trivial | exact t_stuck _ | exact t_unsup _ | exact t_goPanic _ | exact t_getObj _ | exact t_newObj _ | exact t_shape _ | exact t_frozen _ | exact t_choose _ | exact t_program | exact t_mark _ (by simp) (by simp) (by simp) | exact t_load _ _ | exact t_store _ _ _)
    | assumption
    | (with_reducible first | exact t_typeInfo _ | exact t_underlying _ | exact t_sizeOf _ | exact t_zeroValue _ | exact t_isAgg _ | exact t_asIntOf _ | exact t_asInt _ | exact t_asBool _ | exact t_asAgg _ | exact t_elemOf _ | exact t_newRow _ _ | exact t_newVar _ _ | exact t_runtimePanic _ | exact t_boundsPanic _ _ _ _ | exact t_asAddr _ | exact t_part _ _ _ | exact t_loadCells _ _ | exact t_storeCells _ _ _ | exact t_loadVar _ _ | exact t_storeVar _ _ _ | exact t_sureAddr _ | exact t_viewAt _)
    | (with_reducible refine t_bind ?_ (fun _ => ?_))
    | (with_reducible refine t_map _ ?_)
    | (with_reducible refine t_ite ?_ ?_)
    | split
    | (intro _)
    | (dsimp only)
set_option maxHeartbeats 2000000 in
theorem t_behindNumber (a : Addr) : T z P (behindNumber a) := by
  unfold behindNumber
  repeat' first
    | (with_reducible first | exact t_pure _ | exact t_halt _ trivial | exact t_stuck _ | exact t_unsup _ | exact t_goPanic _ | exact t_getObj _ | exact t_newObj _ | exact t_shape _ | exact t_frozen _ | exact t_choose _ | exact t_program | exact t_mark _ (by simp) (by simp) (by simp) | exact t_load _ _ | exact t_store _ _ _)
    | assumption
    | (with_reducible first | exact t_typeInfo _ | exact t_underlying _ | exact t_sizeOf _ | exact t_zeroValue _ | exact t_isAgg _ | exact t_asIntOf _ | exact t_asInt _ | exact t_asBool _ | exact t_asAgg _ | exact t_elemOf _ | exact t_newRow _ _ | exact t_newVar _ _ | exact t_runtimePanic _ | exact t_boundsPanic _ _ _ _ | exact t_asAddr _ | exact t_part _ _ _ | exact t_loadCells _ _ | exact t_storeCells _ _ _ | exact t_loadVar _ _ | exact t_storeVar _ _ _ | exact t_sureAddr _ | exact t_viewAt _ | exact t_numberAt _)
    | (with_reducible refine t_bind ?_ (fun _ => ?_))
    | (with_reducible refine t_map _ ?_)
    | (with_reducible refine t_ite ?_ ?_)
    | split
    | (intro _)
    | (dsimp only)
set_option maxHeartbeats 2000000 in
theorem t_noView (a : Addr) : T z P (noView a) := by
  unfold noView
  repeat' first
    | (with_reducible first | exact t_pure _ | exact t_halt _ trivial | exact t_stuck _ | exact t_unsup _ | exact t_goPanic _ | exact t_getObj _ | exact t_newObj _ | exact t_shape _ | exact t_frozen _ | exact t_choose _ | exact t_program | exact t_mark _ (by simp) (by simp) (by simp) | exact t_load _ _ | exact t_store _ _ _)
    | assumption
    | (with_reducible first | exact t_typeInfo _ | exact t_underlying _ | exact t_sizeOf _ | exact t_zeroValue _ | exact t_isAgg _ | exact t_asIntOf _ | exact t_asInt _ | exact t_asBool _ | exact t_asAgg _ | exact t_elemOf _ | exact t_newRow _ _ | exact t_newVar _ _ | exact t_runtimePanic _ | exact t_boundsPanic _ _ _ _ | exact t_asAddr _ | exact t_part _ _ _ | exact t_loadCells _ _ | exact t_storeCells _ _ _ | exact t_loadVar _ _ | exact t_storeVar _ _ _ | exact t_sureAddr _ | exact t_viewAt _ | exact t_numberAt _ | exact t_behindNumber _)
    | (with_reducible refine t_bind ?_ (fun _ => ?_))
    | (with_reducible refine t_map _ ?_)
    | (with_reducible refine t_ite ?_ ?_)
    | split
    | (intro _)
    | (dsimp only)
set_option maxHeartbeats 2000000 in
theorem t_byteOf (a : Addr) : T z P (byteOf a) := by
  unfold byteOf
  repeat' first
    | (with_reducible first | exact t_pure _ | exact t_halt _ trivial | exact t_stuck _ | exact t_unsup _ | exact t_goPanic _ | exact t_getObj _ | exact t_newObj _ | exact t_shape _ | exact t_frozen _ | exact t_choose _ | exact t_program | exact t_mark _ (by simp) (by simp) (by simp) | exact t_load _ _ | exact t_store _ _ _)
    | assumption
    | (with_reducible first | exact t_typeInfo _ | exact t_underlying _ | exact t_sizeOf _ | exact t_zeroValue _ | exact t_isAgg _ | exact t_asIntOf _ | exact t_asInt _ | exact t_asBool _ | exact t_asAgg _ | exact t_elemOf _ | exact t_newRow _ _ | exact t_newVar _ _ | exact t_runtimePanic _ | exact t_boundsPanic _ _ _ _ | exact t_asAddr _ | exact t_part _ _ _ | exact t_loadCells _ _ | exact t_storeCells _ _ _ | exact t_loadVar _ _ | exact t_storeVar _ _ _ | exact t_sureAddr _ | exact t_viewAt _ | exact t_numberAt _ | exact t_behindNumber _ | exact t_noView _)
    | (with_reducible refine t_bind ?_ (fun _ => ?_))
    | (with_reducible refine t_map _ ?_)
    | (with_reducible refine t_ite ?_ ?_)
    | split
    | (intro _)
    | (dsimp only)
set_option maxHeartbeats 2000000 in
theorem t_partAt (a : Addr) (n m : Nat) : T z P (partAt a n m) := by
  unfold partAt
  repeat' first
    | (with_reducible first | exact t_pure _ | exact t_halt _ trivial | exact t_stuck _ | exact t_unsup _ | exact t_goPanic _ | exact t_getObj _ | exact t_newObj _ | exact t_shape _ | exact t_frozen _ | exact t_choose _ | exact t_program | exact t_mark _ (by simp) (by simp) (by simp) | exact t_load _ _ | exact t_store _ _ _)
    | assumption
    | (with_reducible first | exact t_typeInfo _ | exact t_underlying _ | exact t_sizeOf _ | exact t_zeroValue _ | exact t_isAgg _ | exact t_asIntOf _ | exact t_asInt _ | exact t_asBool _ | exact t_asAgg _ | exact t_elemOf _ | exact t_newRow _ _ | exact t_newVar _ _ | exact t_runtimePanic _ | exact t_boundsPanic _ _ _ _ | exact t_asAddr _ | exact t_part _ _ _ | exact t_loadCells _ _ | exact t_storeCells _ _ _ | exact t_loadVar _ _ | exact t_storeVar _ _ _ | exact t_sureAddr _ | exact t_viewAt _ | exact t_numberAt _ | exact t_behindNumber _ | exact t_noView _ | exact t_byteOf _)
    | (with_reducible refine t_bind ?_ (fun _ => ?_))
    | (with_reducible refine t_map _ ?_)
    | (with_reducible refine t_ite ?_ ?_)
    | split
    | (intro _)
    | (dsimp only)
set_option maxHeartbeats 2000000 in
theorem t_fieldPlace (a : Addr) (f : Field) : T z P (fieldPlace a f) := by
  unfold fieldPlace
  repeat' first
    | (with_reducible first | exact t_pure _ | exact t_halt _ trivial | exact t_stuck _ | exact t_unsup _ | exact t_goPanic _ | exact t_getObj _ | exact t_newObj _ | exact t_shape _ | exact t_frozen _ | exact t_choose _ | exact t_program | exact t_mark _ (by simp) (by simp) (by simp) | exact t_load _ _ | exact t_store _ _ _)
    | assumption
    | (with_reducible first | exact t_typeInfo _ | exact t_underlying _ | exact t_sizeOf _ | exact t_zeroValue _ | exact t_isAgg _ | exact t_asIntOf _ | exact t_asInt _ | exact t_asBool _ | exact t_asAgg _ | exact t_elemOf _ | exact t_newRow _ _ | exact t_newVar _ _ | exact t_runtimePanic _ | exact t_boundsPanic _ _ _ _ | exact t_asAddr _ | exact t_part _ _ _ | exact t_loadCells _ _ | exact t_storeCells _ _ _ | exact t_loadVar _ _ | exact t_storeVar _ _ _ | exact t_sureAddr _ | exact t_viewAt _ | exact t_numberAt _ | exact t_behindNumber _ | exact t_noView _ | exact t_byteOf _ | exact t_partAt _ _ _)
    | (with_reducible refine t_bind ?_ (fun _ => ?_))
    | (with_reducible refine t_map _ ?_)
    | (with_reducible refine t_ite ?_ ?_)
    | split
    | (intro _)
    | (dsimp only)
set_option maxHeartbeats 2000000 in
theorem t_fieldAt (t : TypeId) (v : Value) (f : Nat) : T z P (Instr.fieldAt t v f) := by
  unfold Instr.fieldAt
  repeat' first
    | (with_reducible first | exact t_pure _ | exact t_halt _ trivial | exact t_stuck _ | exact t_unsup _ | exact t_goPanic _ | exact t_getObj _ | exact t_newObj _ | exact t_shape _ | exact t_frozen _ | exact t_choose _ | exact t_program | exact t_mark _ (by simp) (by simp) (by simp) | exact t_load _ _ | exact t_store _ _ _)
    | assumption
    | (with_reducible first | exact t_typeInfo _ | exact t_underlying _ | exact t_sizeOf _ | exact t_zeroValue _ | exact t_isAgg _ | exact t_asIntOf _ | exact t_asInt _ | exact t_asBool _ | exact t_asAgg _ | exact t_elemOf _ | exact t_newRow _ _ | exact t_newVar _ _ | exact t_runtimePanic _ | exact t_boundsPanic _ _ _ _ | exact t_asAddr _ | exact t_part _ _ _ | exact t_loadCells _ _ | exact t_storeCells _ _ _ | exact t_loadVar _ _ | exact t_storeVar _ _ _ | exact t_sureAddr _ | exact t_viewAt _ | exact t_numberAt _ | exact t_behindNumber _ | exact t_noView _ | exact t_byteOf _ | exact t_partAt _ _ _ | exact t_fieldPlace _ _)
    | (with_reducible refine t_bind ?_ (fun _ => ?_))
    | (with_reducible refine t_map _ ?_)
    | (with_reducible refine t_ite ?_ ?_)
    | split
    | (intro _)
    | (dsimp only)
set_option maxHeartbeats 2000000 in
theorem t_indexAt (t : TypeId) (v u : Value) : T z P (Instr.indexAt t v u) := by
  unfold Instr.indexAt
  repeat' first
    | (with_reducible first | exact t_pure _ | exact t_halt _ trivial | exact t_stuck _ | exact t_unsup _ | exact t_goPanic _ | exact t_getObj _ | exact t_newObj _ | exact t_shape _ | exact t_frozen _ | exact t_choose _ | exact t_program | exact t_mark _ (by simp) (by simp) (by simp) | exact t_load _ _ | exact t_store _ _ _)
    | assumption
    | (with_reducible first | exact t_typeInfo _ | exact t_underlying _ | exact t_sizeOf _ | exact t_zeroValue _ | exact t_isAgg _ | exact t_asIntOf _ | exact t_asInt _ | exact t_asBool _ | exact t_asAgg _ | exact t_elemOf _ | exact t_newRow _ _ | exact t_newVar _ _ | exact t_runtimePanic _ | exact t_boundsPanic _ _ _ _ | exact t_asAddr _ | exact t_part _ _ _ | exact t_loadCells _ _ | exact t_storeCells _ _ _ | exact t_loadVar _ _ | exact t_storeVar _ _ _ | exact t_sureAddr _ | exact t_viewAt _ | exact t_numberAt _ | exact t_behindNumber _ | exact t_noView _ | exact t_byteOf _ | exact t_partAt _ _ _ | exact t_fieldPlace _ _)
    | (with_reducible refine t_bind ?_ (fun _ => ?_))
    | (with_reducible refine t_map _ ?_)
    | (with_reducible refine t_ite ?_ ?_)
    | split
    | (intro _)
    | (dsimp only)
set_option maxHeartbeats 2000000 in
theorem t_alloc (t : TypeId) (h : Bool) (v : Value) : T z P (Instr.alloc t h v) := by
  unfold Instr.alloc
  repeat' first
    | (with_reducible first | exact t_pure _ | exact t_halt _ trivial | exact t_stuck _ | exact t_unsup _ | exact t_goPanic _ | exact t_getObj _ | exact t_newObj _ | exact t_shape _ | exact t_frozen _ | exact t_choose _ | exact t_program | exact t_mark _ (by simp) (by simp) (by simp) | exact t_load _ _ | exact t_store _ _ _)
    | assumption
    | (with_reducible first | exact t_typeInfo _ | exact t_underlying _ | exact t_sizeOf _ | exact t_zeroValue _ | exact t_isAgg _ | exact t_asIntOf _ | exact t_asInt _ | exact t_asBool _ | exact t_asAgg _ | exact t_elemOf _ | exact t_newRow _ _ | exact t_newVar _ _ | exact t_runtimePanic _ | exact t_boundsPanic _ _ _ _ | exact t_asAddr _ | exact t_part _ _ _ | exact t_loadCells _ _ | exact t_storeCells _ _ _ | exact t_loadVar _ _ | exact t_storeVar _ _ _ | exact t_sureAddr _ | exact t_viewAt _ | exact t_numberAt _ | exact t_behindNumber _ | exact t_noView _ | exact t_byteOf _ | exact t_partAt _ _ _ | exact t_fieldPlace _ _)
    | (with_reducible refine t_bind ?_ (fun _ => ?_))
    | (with_reducible refine t_map _ ?_)
    | (with_reducible refine t_ite ?_ ?_)
    | split
    | (intro _)
    | (dsimp only)
set_option maxHeartbeats 2000000 in
theorem t_box (t : TypeId) (v : Value) : T z P (Instr.box t v) := by
  unfold Instr.box
  repeat' first
    | (with_reducible first | exact t_pure _ | exact t_halt _ trivial | exact t_stuck _ | exact t_unsup _ | exact t_goPanic _ | exact t_getObj _ | exact t_newObj _ | exact t_shape _ | exact t_frozen _ | exact t_choose _ | exact t_program | exact t_mark _ (by simp) (by simp) (by simp) | exact t_load _ _ | exact t_store _ _ _)
    | assumption
    | (with_reducible first | exact t_typeInfo _ | exact t_underlying _ | exact t_sizeOf _ | exact t_zeroValue _ | exact t_isAgg _ | exact t_asIntOf _ | exact t_asInt _ | exact t_asBool _ | exact t_asAgg _ | exact t_elemOf _ | exact t_newRow _ _ | exact t_newVar _ _ | exact t_runtimePanic _ | exact t_boundsPanic _ _ _ _ | exact t_asAddr _ | exact t_part _ _ _ | exact t_loadCells _ _ | exact t_storeCells _ _ _ | exact t_loadVar _ _ | exact t_storeVar _ _ _ | exact t_sureAddr _ | exact t_viewAt _ | exact t_numberAt _ | exact t_behindNumber _ | exact t_noView _ | exact t_byteOf _ | exact t_partAt _ _ _ | exact t_fieldPlace _ _)
    | (with_reducible refine t_bind ?_ (fun _ => ?_))
    | (with_reducible refine t_map _ ?_)
    | (with_reducible refine t_ite ?_ ?_)
    | split
    | (intro _)
    | (dsimp only)
set_option maxHeartbeats 2000000 in
theorem t_extract (v : Value) (i : Nat) : T z P (Instr.extract v i) := by
  unfold Instr.extract
  repeat' first
    | (with_reducible first | exact t_pure _ | exact t_halt _ trivial | exact t_stuck _ | exact t_unsup _ | exact t_goPanic _ | exact t_getObj _ | exact t_newObj _ | exact t_shape _ | exact t_frozen _ | exact t_choose _ | exact t_program | exact t_mark _ (by simp) (by simp) (by simp) | exact t_load _ _ | exact t_store _ _ _)
    | assumption
    | (with_reducible first | exact t_typeInfo _ | exact t_underlying _ | exact t_sizeOf _ | exact t_zeroValue _ | exact t_isAgg _ | exact t_asIntOf _ | exact t_asInt _ | exact t_asBool _ | exact t_asAgg _ | exact t_elemOf _ | exact t_newRow _ _ | exact t_newVar _ _ | exact t_runtimePanic _ | exact t_boundsPanic _ _ _ _ | exact t_asAddr _ | exact t_part _ _ _ | exact t_loadCells _ _ | exact t_storeCells _ _ _ | exact t_loadVar _ _ | exact t_storeVar _ _ _ | exact t_sureAddr _ | exact t_viewAt _ | exact t_numberAt _ | exact t_behindNumber _ | exact t_noView _ | exact t_byteOf _ | exact t_partAt _ _ _ | exact t_fieldPlace _ _)
    | (with_reducible refine t_bind ?_ (fun _ => ?_))
    | (with_reducible refine t_map _ ?_)
    | (with_reducible refine t_ite ?_ ?_)
    | split
    | (intro _)
    | (dsimp only)
set_option maxHeartbeats 2000000 in
theorem t_field (t : TypeId) (v : Value) (i : Nat) : T z P (Instr.field t v i) := by
  unfold Instr.field
  repeat' first
    | (with_reducible first | exact t_pure _ | exact t_halt _ trivial | exact t_stuck _ | exact t_unsup _ | exact t_goPanic _ | exact t_getObj _ | exact t_newObj _ | exact t_shape _ | exact t_frozen _ | exact t_choose _ | exact t_program | exact t_mark _ (by simp) (by simp) (by simp) | exact t_load _ _ | exact t_store _ _ _)
    | assumption
    | (with_reducible first | exact t_typeInfo _ | exact t_underlying _ | exact t_sizeOf _ | exact t_zeroValue _ | exact t_isAgg _ | exact t_asIntOf _ | exact t_asInt _ | exact t_asBool _ | exact t_asAgg _ | exact t_elemOf _ | exact t_newRow _ _ | exact t_newVar _ _ | exact t_runtimePanic _ | exact t_boundsPanic _ _ _ _ | exact t_asAddr _ | exact t_part _ _ _ | exact t_loadCells _ _ | exact t_storeCells _ _ _ | exact t_loadVar _ _ | exact t_storeVar _ _ _ | exact t_sureAddr _ | exact t_viewAt _ | exact t_numberAt _ | exact t_behindNumber _ | exact t_noView _ | exact t_byteOf _ | exact t_partAt _ _ _ | exact t_fieldPlace _ _)
    | (with_reducible refine t_bind ?_ (fun _ => ?_))
    | (with_reducible refine t_map _ ?_)
    | (with_reducible refine t_ite ?_ ?_)
    | split
    | (intro _)
    | (dsimp only)
set_option maxHeartbeats 2000000 in
theorem t_makeInterface (t : TypeId) (v : Value) : T z P (Instr.makeInterface t v) := by
  unfold Instr.makeInterface
  repeat' first
    | (with_reducible first | exact t_pure _ | exact t_halt _ trivial | exact t_stuck _ | exact t_unsup _ | exact t_goPanic _ | exact t_getObj _ | exact t_newObj _ | exact t_shape _ | exact t_frozen _ | exact t_choose _ | exact t_program | exact t_mark _ (by simp) (by simp) (by simp) | exact t_load _ _ | exact t_store _ _ _)
    | assumption
    | (with_reducible first | exact t_typeInfo _ | exact t_underlying _ | exact t_sizeOf _ | exact t_zeroValue _ | exact t_isAgg _ | exact t_asIntOf _ | exact t_asInt _ | exact t_asBool _ | exact t_asAgg _ | exact t_elemOf _ | exact t_newRow _ _ | exact t_newVar _ _ | exact t_runtimePanic _ | exact t_boundsPanic _ _ _ _ | exact t_asAddr _ | exact t_part _ _ _ | exact t_loadCells _ _ | exact t_storeCells _ _ _ | exact t_loadVar _ _ | exact t_storeVar _ _ _ | exact t_sureAddr _ | exact t_viewAt _ | exact t_numberAt _ | exact t_behindNumber _ | exact t_noView _ | exact t_byteOf _ | exact t_partAt _ _ _ | exact t_fieldPlace _ _)
    | (with_reducible refine t_bind ?_ (fun _ => ?_))
    | (with_reducible refine t_map _ ?_)
    | (with_reducible refine t_ite ?_ ?_)
    | split
    | (intro _)
    | (dsimp only)
set_option maxHeartbeats 2000000 in
theorem t_makeFunc (f : Fn) (a b : Array Value) : T z P (Instr.makeFunc f a b) := by
  unfold Instr.makeFunc
  repeat' first
    | (with_reducible first | exact t_pure _ | exact t_halt _ trivial | exact t_stuck _ | exact t_unsup _ | exact t_goPanic _ | exact t_getObj _ | exact t_newObj _ | exact t_shape _ | exact t_frozen _ | exact t_choose _ | exact t_program | exact t_mark _ (by simp) (by simp) (by simp) | exact t_load _ _ | exact t_store _ _ _)
    | assumption
    | (with_reducible first | exact t_typeInfo _ | exact t_underlying _ | exact t_sizeOf _ | exact t_zeroValue _ | exact t_isAgg _ | exact t_asIntOf _ | exact t_asInt _ | exact t_asBool _ | exact t_asAgg _ | exact t_elemOf _ | exact t_newRow _ _ | exact t_newVar _ _ | exact t_runtimePanic _ | exact t_boundsPanic _ _ _ _ | exact t_asAddr _ | exact t_part _ _ _ | exact t_loadCells _ _ | exact t_storeCells _ _ _ | exact t_loadVar _ _ | exact t_storeVar _ _ _ | exact t_sureAddr _ | exact t_viewAt _ | exact t_numberAt _ | exact t_behindNumber _ | exact t_noView _ | exact t_byteOf _ | exact t_partAt _ _ _ | exact t_fieldPlace _ _)
    | (with_reducible refine t_bind ?_ (fun _ => ?_))
    | (with_reducible refine t_map _ ?_)
    | (with_reducible refine t_ite ?_ ?_)
    | split
    | (intro _)
    | (dsimp only)
set_option maxHeartbeats 2000000 in
theorem t_askRoom (n : Nat) : T z P (askRoom n) := by
  unfold askRoom
  repeat' first
    | (with_reducible first | exact t_pure _ | exact t_halt _ trivial | exact t_stuck _ | exact t_unsup _ | exact t_goPanic _ | exact t_getObj _ | exact t_newObj _ | exact t_shape _ | exact t_frozen _ | exact t_choose _ | exact t_program | exact t_mark _ (by simp) (by simp) (by simp) | exact t_load _ _ | exact t_store _ _ _)
    | assumption
    | (with_reducible first | exact t_typeInfo _ | exact t_underlying _ | exact t_sizeOf _ | exact t_zeroValue _ | exact t_isAgg _ | exact t_asIntOf _ | exact t_asInt _ | exact t_asBool _ | exact t_asAgg _ | exact t_elemOf _ | exact t_newRow _ _ | exact t_newVar _ _ | exact t_runtimePanic _ | exact t_boundsPanic _ _ _ _ | exact t_asAddr _ | exact t_part _ _ _ | exact t_loadCells _ _ | exact t_storeCells _ _ _ | exact t_loadVar _ _ | exact t_storeVar _ _ _ | exact t_sureAddr _ | exact t_viewAt _ | exact t_numberAt _ | exact t_behindNumber _ | exact t_noView _ | exact t_byteOf _ | exact t_partAt _ _ _ | exact t_fieldPlace _ _)
    | (with_reducible refine t_bind ?_ (fun _ => ?_))
    | (with_reducible refine t_map _ ?_)
    | (with_reducible refine t_ite ?_ ?_)
    | split
    | (intro _)
    | (dsimp only)
set_option maxHeartbeats 2000000 in
theorem t_makeChan (t : TypeId) (v : Value) : T z P (Instr.makeChan t v) := by
  unfold Instr.makeChan
  repeat' first
    | (with_reducible first | exact t_pure _ | exact t_halt _ trivial | exact t_stuck _ | exact t_unsup _ | exact t_goPanic _ | exact t_getObj _ | exact t_newObj _ | exact t_shape _ | exact t_frozen _ | exact t_choose _ | exact t_program | exact t_mark _ (by simp) (by simp) (by simp) | exact t_load _ _ | exact t_store _ _ _)
    | assumption
    | (with_reducible first | exact t_typeInfo _ | exact t_underlying _ | exact t_sizeOf _ | exact t_zeroValue _ | exact t_isAgg _ | exact t_asIntOf _ | exact t_asInt _ | exact t_asBool _ | exact t_asAgg _ | exact t_elemOf _ | exact t_newRow _ _ | exact t_newVar _ _ | exact t_runtimePanic _ | exact t_boundsPanic _ _ _ _ | exact t_asAddr _ | exact t_part _ _ _ | exact t_loadCells _ _ | exact t_storeCells _ _ _ | exact t_loadVar _ _ | exact t_storeVar _ _ _ | exact t_sureAddr _ | exact t_viewAt _ | exact t_numberAt _ | exact t_behindNumber _ | exact t_noView _ | exact t_byteOf _ | exact t_partAt _ _ _ | exact t_fieldPlace _ _ | exact t_askRoom _)
    | (with_reducible refine t_bind ?_ (fun _ => ?_))
    | (with_reducible refine t_map _ ?_)
    | (with_reducible refine t_ite ?_ ?_)
    | split
    | (intro _)
    | (dsimp only)
set_option maxHeartbeats 2000000 in
theorem t_makeSlice (t : TypeId) (u v : Value) : T z P (Instr.makeSlice t u v) := by
  unfold Instr.makeSlice
  repeat' first
    | (with_reducible first | exact t_pure _ | exact t_halt _ trivial | exact t_stuck _ | exact t_unsup _ | exact t_goPanic _ | exact t_getObj _ | exact t_newObj _ | exact t_shape _ | exact t_frozen _ | exact t_choose _ | exact t_program | exact t_mark _ (by simp) (by simp) (by simp) | exact t_load _ _ | exact t_store _ _ _)
    | assumption
    | (with_reducible first | exact t_typeInfo _ | exact t_underlying _ | exact t_sizeOf _ | exact t_zeroValue _ | exact t_isAgg _ | exact t_asIntOf _ | exact t_asInt _ | exact t_asBool _ | exact t_asAgg _ | exact t_elemOf _ | exact t_newRow _ _ | exact t_newVar _ _ | exact t_runtimePanic _ | exact t_boundsPanic _ _ _ _ | exact t_asAddr _ | exact t_part _ _ _ | exact t_loadCells _ _ | exact t_storeCells _ _ _ | exact t_loadVar _ _ | exact t_storeVar _ _ _ | exact t_sureAddr _ | exact t_viewAt _ | exact t_numberAt _ | exact t_behindNumber _ | exact t_noView _ | exact t_byteOf _ | exact t_partAt _ _ _ | exact t_fieldPlace _ _ | exact t_askRoom _)
    | (with_reducible refine t_bind ?_ (fun _ => ?_))
    | (with_reducible refine t_map _ ?_)
    | (with_reducible refine t_ite ?_ ?_)
    | split
    | (intro _)
    | (dsimp only)
set_option maxHeartbeats 2000000 in
theorem t_sliceBound (x : Value) (y : Nat) (c : BoundsCode) : T z P (Instr.sliceBound x y c) := by
  unfold Instr.sliceBound
  repeat' first
    | (with_reducible first | exact t_pure _ | exact t_halt _ trivial | exact t_stuck _ | exact t_unsup _ | exact t_goPanic _ | exact t_getObj _ | exact t_newObj _ | exact t_shape _ | exact t_frozen _ | exact t_choose _ | exact t_program | exact t_mark _ (by simp) (by simp) (by simp) | exact t_load _ _ | exact t_store _ _ _)
    | assumption
    | (with_reducible first | exact t_typeInfo _ | exact t_underlying _ | exact t_sizeOf _ | exact t_zeroValue _ | exact t_isAgg _ | exact t_asIntOf _ | exact t_asInt _ | exact t_asBool _ | exact t_asAgg _ | exact t_elemOf _ | exact t_newRow _ _ | exact t_newVar _ _ | exact t_runtimePanic _ | exact t_boundsPanic _ _ _ _ | exact t_asAddr _ | exact t_part _ _ _ | exact t_loadCells _ _ | exact t_storeCells _ _ _ | exact t_loadVar _ _ | exact t_storeVar _ _ _ | exact t_sureAddr _ | exact t_viewAt _ | exact t_numberAt _ | exact t_behindNumber _ | exact t_noView _ | exact t_byteOf _ | exact t_partAt _ _ _ | exact t_fieldPlace _ _ | exact t_askRoom _)
    | (with_reducible refine t_bind ?_ (fun _ => ?_))
    | (with_reducible refine t_map _ ?_)
    | (with_reducible refine t_ite ?_ ?_)
    | split
    | (intro _)
    | (dsimp only)
set_option maxHeartbeats 2000000 in
theorem t_sliceBounds (b : Bool) (n m : Nat) (x y u : Option Value) : T z P (Instr.sliceBounds b n m x y u) := by
  unfold Instr.sliceBounds
  repeat' first
    | (with_reducible first | exact t_pure _ | exact t_halt _ trivial | exact t_stuck _ | exact t_unsup _ | exact t_goPanic _ | exact t_getObj _ | exact t_newObj _ | exact t_shape _ | exact t_frozen _ | exact t_choose _ | exact t_program | exact t_mark _ (by simp) (by simp) (by simp) | exact t_load _ _ | exact t_store _ _ _)
    | assumption
    | (with_reducible first | exact t_typeInfo _ | exact t_underlying _ | exact t_sizeOf _ | exact t_zeroValue _ | exact t_isAgg _ | exact t_asIntOf _ | exact t_asInt _ | exact t_asBool _ | exact t_asAgg _ | exact t_elemOf _ | exact t_newRow _ _ | exact t_newVar _ _ | exact t_runtimePanic _ | exact t_boundsPanic _ _ _ _ | exact t_asAddr _ | exact t_part _ _ _ | exact t_loadCells _ _ | exact t_storeCells _ _ _ | exact t_loadVar _ _ | exact t_storeVar _ _ _ | exact t_sureAddr _ | exact t_viewAt _ | exact t_numberAt _ | exact t_behindNumber _ | exact t_noView _ | exact t_byteOf _ | exact t_partAt _ _ _ | exact t_fieldPlace _ _ | exact t_askRoom _ | exact t_sliceBound _ _ _)
    | (with_reducible refine t_bind ?_ (fun _ => ?_))
    | (with_reducible refine t_map _ ?_)
    | (with_reducible refine t_ite ?_ ?_)
    | split
    | (intro _)
    | (dsimp only)
set_option maxHeartbeats 2000000 in
theorem t_slice (t : TypeId) (v : Value) (x y u : Option Value) : T z P (Instr.slice t v x y u) := by
  unfold Instr.slice
  repeat' first
    | (with_reducible first | exact t_pure _ | exact t_halt _ trivial | exact t_stuck _ | exact t_unsup _ | exact t_goPanic _ | exact t_getObj _ | exact t_newObj _ | exact t_shape _ | exact t_frozen _ | exact t_choose _ | exact t_program | exact t_mark _ (by simp) (by simp) (by simp) | exact t_load _ _ | exact t_store _ _ _)
    | assumption
    | (with_reducible first | exact t_typeInfo _ | exact t_underlying _ | exact t_sizeOf _ | exact t_zeroValue _ | exact t_isAgg _ | exact t_asIntOf _ | exact t_asInt _ | exact t_asBool _ | exact t_asAgg _ | exact t_elemOf _ | exact t_newRow _ _ | exact t_newVar _ _ | exact t_runtimePanic _ | exact t_boundsPanic _ _ _ _ | exact t_asAddr _ | exact t_part _ _ _ | exact t_loadCells _ _ | exact t_storeCells _ _ _ | exact t_loadVar _ _ | exact t_storeVar _ _ _ | exact t_sureAddr _ | exact t_viewAt _ | exact t_numberAt _ | exact t_behindNumber _ | exact t_noView _ | exact t_byteOf _ | exact t_partAt _ _ _ | exact t_fieldPlace _ _ | exact t_askRoom _ | exact t_sliceBound _ _ _ | exact t_sliceBounds _ _ _ _ _ _)
    | (with_reducible refine t_bind ?_ (fun _ => ?_))
    | (with_reducible refine t_map _ ?_)
    | (with_reducible refine t_ite ?_ ?_)
    | split
    | (intro _)
    | (dsimp only)
set_option maxHeartbeats 2000000 in
theorem t_sliceAt (t : TypeId) (v : Value) (x y u : Option Value) : T z P (Instr.sliceAt t v x y u) := by
  unfold Instr.sliceAt
  repeat' first
    | (with_reducible first | exact t_pure _ | exact t_halt _ trivial | exact t_stuck _ | exact t_unsup _ | exact t_goPanic _ | exact t_getObj _ | exact t_newObj _ | exact t_shape _ | exact t_frozen _ | exact t_choose _ | exact t_program | exact t_mark _ (by simp) (by simp) (by simp) | exact t_load _ _ | exact t_store _ _ _)
    | assumption
    | (with_reducible first | exact t_typeInfo _ | exact t_underlying _ | exact t_sizeOf _ | exact t_zeroValue _ | exact t_isAgg _ | exact t_asIntOf _ | exact t_asInt _ | exact t_asBool _ | exact t_asAgg _ | exact t_elemOf _ | exact t_newRow _ _ | exact t_newVar _ _ | exact t_runtimePanic _ | exact t_boundsPanic _ _ _ _ | exact t_asAddr _ | exact t_part _ _ _ | exact t_loadCells _ _ | exact t_storeCells _ _ _ | exact t_loadVar _ _ | exact t_storeVar _ _ _ | exact t_sureAddr _ | exact t_viewAt _ | exact t_numberAt _ | exact t_behindNumber _ | exact t_noView _ | exact t_byteOf _ | exact t_partAt _ _ _ | exact t_fieldPlace _ _ | exact t_askRoom _ | exact t_sliceBound _ _ _ | exact t_sliceBounds _ _ _ _ _ _ | exact t_slice _ _ _ _ _)
    | (with_reducible refine t_bind ?_ (fun _ => ?_))
    | (with_reducible refine t_map _ ?_)
    | (with_reducible refine t_ite ?_ ?_)
    | split
    | (intro _)
    | (dsimp only)
theorem t_mapM_list {f : α → Sem β} (hf : ∀ a, T z P (f a)) : ∀ l : List α, T z P (l.mapM f)
  | [] => by rw [List.mapM_nil]; exact t_pure _
  | a :: l => by
    rw [List.mapM_cons]
    exact t_bind (hf a) fun _ => t_bind (t_mapM_list hf l) fun _ => t_pure _
theorem t_mapM {f : α → Sem β} (hf : ∀ a, T z P (f a)) (l : Array α) : T z P (l.mapM f) := by
  rw [Array.mapM_eq_mapM_toList]
  exact t_map _ (t_mapM_list hf _)
theorem t_foldlM {f : β → α → Sem β} (hf : ∀ b a, T z P (f b a)) : ∀ (l : List α) (b : β), T z P (l.foldlM f b)
  | [], b => by rw [List.foldlM_nil]; exact t_pure _
  | a :: l, b => by
    rw [List.foldlM_cons]
    exact t_bind (hf b a) fun _ => t_foldlM hf l _
set_option maxHeartbeats 2000000 in
theorem t_build (t : TypeId) (ps : Array (Nat × Value)) : T z P (Instr.build t ps) := by
  unfold Instr.build
  repeat' first
    | (with_reducible first | exact t_pure _ | exact t_halt _ trivial | exact t_stuck _ | exact t_unsup _ | exact t_goPanic _ | exact t_getObj _ | exact t_newObj _ | exact t_shape _ | exact t_frozen _ | exact t_choose _ | exact t_program | exact t_mark _ (by simp) (by simp) (by simp) | exact t_load _ _ | exact t_store _ _ _)
    | assumption
    | (with_reducible first | exact t_typeInfo _ | exact t_underlying _ | exact t_sizeOf _ | exact t_zeroValue _ | exact t_isAgg _ | exact t_asIntOf _ | exact t_asInt _ | exact t_asBool _ | exact t_asAgg _ | exact t_elemOf _ | exact t_newRow _ _ | exact t_newVar _ _ | exact t_runtimePanic _ | exact t_boundsPanic _ _ _ _ | exact t_asAddr _ | exact t_part _ _ _ | exact t_loadCells _ _ | exact t_storeCells _ _ _ | exact t_loadVar _ _ | exact t_storeVar _ _ _ | exact t_sureAddr _ | exact t_viewAt _ | exact t_numberAt _ | exact t_behindNumber _ | exact t_noView _ | exact t_byteOf _ | exact t_partAt _ _ _ | exact t_fieldPlace _ _ | exact t_askRoom _ | exact t_sliceBound _ _ _ | exact t_sliceBounds _ _ _ _ _ _ | exact t_slice _ _ _ _ _ | exact t_mapM (fun _ => t_bind (t_sizeOf _) (fun _ => t_pure _)) _)
    | (with_reducible refine t_bind ?_ (fun _ => ?_))
    | (with_reducible refine t_map _ ?_)
    | (with_reducible refine t_ite ?_ ?_)
    | split
    | (intro _)
    | (dsimp only)
set_option maxHeartbeats 2000000 in
theorem t_buildSlice (t : TypeId) (n : Nat) (ps : Array (Nat × Value)) : T z P (Instr.buildSlice t n ps) := by
  unfold Instr.buildSlice
  repeat' first
    | (with_reducible first | exact t_pure _ | exact t_halt _ trivial | exact t_stuck _ | exact t_unsup _ | exact t_goPanic _ | exact t_getObj _ | exact t_newObj _ | exact t_shape _ | exact t_frozen _ | exact t_choose _ | exact t_program | exact t_mark _ (by simp) (by simp) (by simp) | exact t_load _ _ | exact t_store _ _ _)
    | assumption
    | (with_reducible first | exact t_typeInfo _ | exact t_underlying _ | exact t_sizeOf _ | exact t_zeroValue _ | exact t_isAgg _ | exact t_asIntOf _ | exact t_asInt _ | exact t_asBool _ | exact t_asAgg _ | exact t_elemOf _ | exact t_newRow _ _ | exact t_newVar _ _ | exact t_runtimePanic _ | exact t_boundsPanic _ _ _ _ | exact t_asAddr _ | exact t_part _ _ _ | exact t_loadCells _ _ | exact t_storeCells _ _ _ | exact t_loadVar _ _ | exact t_storeVar _ _ _ | exact t_sureAddr _ | exact t_viewAt _ | exact t_numberAt _ | exact t_behindNumber _ | exact t_noView _ | exact t_byteOf _ | exact t_partAt _ _ _ | exact t_fieldPlace _ _ | exact t_askRoom _ | exact t_sliceBound _ _ _ | exact t_sliceBounds _ _ _ _ _ _ | exact t_slice _ _ _ _ _ | exact t_mapM (fun _ => t_bind (t_sizeOf _) (fun _ => t_pure _)) _)
    | (with_reducible refine t_bind ?_ (fun _ => ?_))
    | (with_reducible refine t_map _ ?_)
    | (with_reducible refine t_ite ?_ ?_)
    | split
    | (intro _)
    | (dsimp only)
set_option maxHeartbeats 2000000 in
theorem t_intArith (o : BinOp) (k : IntKind) (x y : Int) : T z P (Op.intArith o k x y) := by
  unfold Op.intArith
  repeat' first
    | (with_reducible first | exact t_pure _ | exact t_halt _ trivial | exact t_stuck _ | exact t_unsup _ | exact t_goPanic _ | exact t_getObj _ | exact t_newObj _ | exact t_shape _ | exact t_frozen _ | exact t_choose _ | exact t_program | exact t_mark _ (by simp) (by simp) (by simp) | exact t_load _ _ | exact t_store _ _ _)
    | assumption
    | (with_reducible first | exact t_typeInfo _ | exact t_underlying _ | exact t_sizeOf _ | exact t_zeroValue _ | exact t_isAgg _ | exact t_asIntOf _ | exact t_asInt _ | exact t_asBool _ | exact t_asAgg _ | exact t_elemOf _ | exact t_newRow _ _ | exact t_newVar _ _ | exact t_runtimePanic _ | exact t_boundsPanic _ _ _ _ | exact t_asAddr _ | exact t_part _ _ _ | exact t_loadCells _ _ | exact t_storeCells _ _ _ | exact t_loadVar _ _ | exact t_storeVar _ _ _ | exact t_sureAddr _ | exact t_viewAt _ | exact t_numberAt _ | exact t_behindNumber _ | exact t_noView _ | exact t_byteOf _ | exact t_partAt _ _ _ | exact t_fieldPlace _ _ | exact t_askRoom _ | exact t_sliceBound _ _ _ | exact t_sliceBounds _ _ _ _ _ _ | exact t_slice _ _ _ _ _ | exact t_mapM (fun _ => t_bind (t_sizeOf _) (fun _ => t_pure _)) _)
    | (with_reducible refine t_bind ?_ (fun _ => ?_))
    | (with_reducible refine t_map _ ?_)
    | (with_reducible refine t_ite ?_ ?_)
    | split
    | (intro _)
    | (dsimp only)
set_option maxHeartbeats 2000000 in
theorem t_intBits (o : BinOp) (k : IntKind) (x y : Int) : T z P (Op.intBits o k x y) := by
  unfold Op.intBits
  repeat' first
    | (with_reducible first | exact t_pure _ | exact t_halt _ trivial | exact t_stuck _ | exact t_unsup _ | exact t_goPanic _ | exact t_getObj _ | exact t_newObj _ | exact t_shape _ | exact t_frozen _ | exact t_choose _ | exact t_program | exact t_mark _ (by simp) (by simp) (by simp) | exact t_load _ _ | exact t_store _ _ _)
    | assumption
    | (with_reducible first | exact t_typeInfo _ | exact t_underlying _ | exact t_sizeOf _ | exact t_zeroValue _ | exact t_isAgg _ | exact t_asIntOf _ | exact t_asInt _ | exact t_asBool _ | exact t_asAgg _ | exact t_elemOf _ | exact t_newRow _ _ | exact t_newVar _ _ | exact t_runtimePanic _ | exact t_boundsPanic _ _ _ _ | exact t_asAddr _ | exact t_part _ _ _ | exact t_loadCells _ _ | exact t_storeCells _ _ _ | exact t_loadVar _ _ | exact t_storeVar _ _ _ | exact t_sureAddr _ | exact t_viewAt _ | exact t_numberAt _ | exact t_behindNumber _ | exact t_noView _ | exact t_byteOf _ | exact t_partAt _ _ _ | exact t_fieldPlace _ _ | exact t_askRoom _ | exact t_sliceBound _ _ _ | exact t_sliceBounds _ _ _ _ _ _ | exact t_slice _ _ _ _ _ | exact t_mapM (fun _ => t_bind (t_sizeOf _) (fun _ => t_pure _)) _ | exact t_intArith _ _ _ _)
    | (with_reducible refine t_bind ?_ (fun _ => ?_))
    | (with_reducible refine t_map _ ?_)
    | (with_reducible refine t_ite ?_ ?_)
    | split
    | (intro _)
    | (dsimp only)
set_option maxHeartbeats 2000000 in
theorem t_intDiv (o : BinOp) (k : IntKind) (x y : Int) : T z P (Op.intDiv o k x y) := by
  unfold Op.intDiv
  repeat' first
    | (with_reducible first | exact t_pure _ | exact t_halt _ trivial | exact t_stuck _ | exact t_unsup _ | exact t_goPanic _ | exact t_getObj _ | exact t_newObj _ | exact t_shape _ | exact t_frozen _ | exact t_choose _ | exact t_program | exact t_mark _ (by simp) (by simp) (by simp) | exact t_load _ _ | exact t_store _ _ _)
    | assumption
    | (with_reducible first | exact t_typeInfo _ | exact t_underlying _ | exact t_sizeOf _ | exact t_zeroValue _ | exact t_isAgg _ | exact t_asIntOf _ | exact t_asInt _ | exact t_asBool _ | exact t_asAgg _ | exact t_elemOf _ | exact t_newRow _ _ | exact t_newVar _ _ | exact t_runtimePanic _ | exact t_boundsPanic _ _ _ _ | exact t_asAddr _ | exact t_part _ _ _ | exact t_loadCells _ _ | exact t_storeCells _ _ _ | exact t_loadVar _ _ | exact t_storeVar _ _ _ | exact t_sureAddr _ | exact t_viewAt _ | exact t_numberAt _ | exact t_behindNumber _ | exact t_noView _ | exact t_byteOf _ | exact t_partAt _ _ _ | exact t_fieldPlace _ _ | exact t_askRoom _ | exact t_sliceBound _ _ _ | exact t_sliceBounds _ _ _ _ _ _ | exact t_slice _ _ _ _ _ | exact t_mapM (fun _ => t_bind (t_sizeOf _) (fun _ => t_pure _)) _ | exact t_intArith _ _ _ _ | exact t_intBits _ _ _ _)
    | (with_reducible refine t_bind ?_ (fun _ => ?_))
    | (with_reducible refine t_map _ ?_)
    | (with_reducible refine t_ite ?_ ?_)
    | split
    | (intro _)
    | (dsimp only)
set_option maxHeartbeats 2000000 in
theorem t_intCmp (o : BinOp) (x y : Int) : T z P (Op.intCmp o x y) := by
  unfold Op.intCmp
  repeat' first
    | (with_reducible first | exact t_pure _ | exact t_halt _ trivial | exact t_stuck _ | exact t_unsup _ | exact t_goPanic _ | exact t_getObj _ | exact t_newObj _ | exact t_shape _ | exact t_frozen _ | exact t_choose _ | exact t_program | exact t_mark _ (by simp) (by simp) (by simp) | exact t_load _ _ | exact t_store _ _ _)
    | assumption
    | (with_reducible first | exact t_typeInfo _ | exact t_underlying _ | exact t_sizeOf _ | exact t_zeroValue _ | exact t_isAgg _ | exact t_asIntOf _ | exact t_asInt _ | exact t_asBool _ | exact t_asAgg _ | exact t_elemOf _ | exact t_newRow _ _ | exact t_newVar _ _ | exact t_runtimePanic _ | exact t_boundsPanic _ _ _ _ | exact t_asAddr _ | exact t_part _ _ _ | exact t_loadCells _ _ | exact t_storeCells _ _ _ | exact t_loadVar _ _ | exact t_storeVar _ _ _ | exact t_sureAddr _ | exact t_viewAt _ | exact t_numberAt _ | exact t_behindNumber _ | exact t_noView _ | exact t_byteOf _ | exact t_partAt _ _ _ | exact t_fieldPlace _ _ | exact t_askRoom _ | exact t_sliceBound _ _ _ | exact t_sliceBounds _ _ _ _ _ _ | exact t_slice _ _ _ _ _ | exact t_mapM (fun _ => t_bind (t_sizeOf _) (fun _ => t_pure _)) _ | exact t_intArith _ _ _ _ | exact t_intBits _ _ _ _ | exact t_intDiv _ _ _ _)
    | (with_reducible refine t_bind ?_ (fun _ => ?_))
    | (with_reducible refine t_map _ ?_)
    | (with_reducible refine t_ite ?_ ?_)
    | split
    | (intro _)
    | (dsimp only)
set_option maxHeartbeats 2000000 in
theorem t_unary (o : UnOp) (v : Value) : T z P (Op.unary o v) := by
  unfold Op.unary
  repeat' first
    | (with_reducible first | exact t_pure _ | exact t_halt _ trivial | exact t_stuck _ | exact t_unsup _ | exact t_goPanic _ | exact t_getObj _ | exact t_newObj _ | exact t_shape _ | exact t_frozen _ | exact t_choose _ | exact t_program | exact t_mark _ (by simp) (by simp) (by simp) | exact t_load _ _ | exact t_store _ _ _)
    | assumption
    | (with_reducible first | exact t_typeInfo _ | exact t_underlying _ | exact t_sizeOf _ | exact t_zeroValue _ | exact t_isAgg _ | exact t_asIntOf _ | exact t_asInt _ | exact t_asBool _ | exact t_asAgg _ | exact t_elemOf _ | exact t_newRow _ _ | exact t_newVar _ _ | exact t_runtimePanic _ | exact t_boundsPanic _ _ _ _ | exact t_asAddr _ | exact t_part _ _ _ | exact t_loadCells _ _ | exact t_storeCells _ _ _ | exact t_loadVar _ _ | exact t_storeVar _ _ _ | exact t_sureAddr _ | exact t_viewAt _ | exact t_numberAt _ | exact t_behindNumber _ | exact t_noView _ | exact t_byteOf _ | exact t_partAt _ _ _ | exact t_fieldPlace _ _ | exact t_askRoom _ | exact t_sliceBound _ _ _ | exact t_sliceBounds _ _ _ _ _ _ | exact t_slice _ _ _ _ _ | exact t_mapM (fun _ => t_bind (t_sizeOf _) (fun _ => t_pure _)) _ | exact t_intArith _ _ _ _ | exact t_intBits _ _ _ _ | exact t_intDiv _ _ _ _ | exact t_intCmp _ _ _)
    | (with_reducible refine t_bind ?_ (fun _ => ?_))
    | (with_reducible refine t_map _ ?_)
    | (with_reducible refine t_ite ?_ ?_)
    | split
    | (intro _)
    | (dsimp only)
set_option maxHeartbeats 2000000 in
theorem t_stringOp (o : BinOp) (x y : ByteArray) : T z P (Op.stringOp o x y) := by
  unfold Op.stringOp
  repeat' first
    | (with_reducible first | exact t_pure _ | exact t_halt _ trivial | exact t_stuck _ | exact t_unsup _ | exact t_goPanic _ | exact t_getObj _ | exact t_newObj _ | exact t_shape _ | exact t_frozen _ | exact t_choose _ | exact t_program | exact t_mark _ (by simp) (by simp) (by simp) | exact t_load _ _ | exact t_store _ _ _)
    | assumption
    | (with_reducible first | exact t_typeInfo _ | exact t_underlying _ | exact t_sizeOf _ | exact t_zeroValue _ | exact t_isAgg _ | exact t_asIntOf _ | exact t_asInt _ | exact t_asBool _ | exact t_asAgg _ | exact t_elemOf _ | exact t_newRow _ _ | exact t_newVar _ _ | exact t_runtimePanic _ | exact t_boundsPanic _ _ _ _ | exact t_asAddr _ | exact t_part _ _ _ | exact t_loadCells _ _ | exact t_storeCells _ _ _ | exact t_loadVar _ _ | exact t_storeVar _ _ _ | exact t_sureAddr _ | exact t_viewAt _ | exact t_numberAt _ | exact t_behindNumber _ | exact t_noView _ | exact t_byteOf _ | exact t_partAt _ _ _ | exact t_fieldPlace _ _ | exact t_askRoom _ | exact t_sliceBound _ _ _ | exact t_sliceBounds _ _ _ _ _ _ | exact t_slice _ _ _ _ _ | exact t_mapM (fun _ => t_bind (t_sizeOf _) (fun _ => t_pure _)) _ | exact t_intArith _ _ _ _ | exact t_intBits _ _ _ _ | exact t_intDiv _ _ _ _ | exact t_intCmp _ _ _)
    | (with_reducible refine t_bind ?_ (fun _ => ?_))
    | (with_reducible refine t_map _ ?_)
    | (with_reducible refine t_ite ?_ ?_)
    | split
    | (intro _)
    | (dsimp only)
set_option maxHeartbeats 2000000 in
theorem t_min2 (x y : Value) : T z P (Builtin.min2 x y) := by
  unfold Builtin.min2
  repeat' first
    | (with_reducible first | exact t_pure _ | exact t_halt _ trivial | exact t_stuck _ | exact t_unsup _ | exact t_goPanic _ | exact t_getObj _ | exact t_newObj _ | exact t_shape _ | exact t_frozen _ | exact t_choose _ | exact t_program | exact t_mark _ (by simp) (by simp) (by simp) | exact t_load _ _ | exact t_store _ _ _)
    | assumption
    | (with_reducible first | exact t_typeInfo _ | exact t_underlying _ | exact t_sizeOf _ | exact t_zeroValue _ | exact t_isAgg _ | exact t_asIntOf _ | exact t_asInt _ | exact t_asBool _ | exact t_asAgg _ | exact t_elemOf _ | exact t_newRow _ _ | exact t_newVar _ _ | exact t_runtimePanic _ | exact t_boundsPanic _ _ _ _ | exact t_asAddr _ | exact t_part _ _ _ | exact t_loadCells _ _ | exact t_storeCells _ _ _ | exact t_loadVar _ _ | exact t_storeVar _ _ _ | exact t_sureAddr _ | exact t_viewAt _ | exact t_numberAt _ | exact t_behindNumber _ | exact t_noView _ | exact t_byteOf _ | exact t_partAt _ _ _ | exact t_fieldPlace _ _ | exact t_askRoom _ | exact t_sliceBound _ _ _ | exact t_sliceBounds _ _ _ _ _ _ | exact t_slice _ _ _ _ _ | exact t_mapM (fun _ => t_bind (t_sizeOf _) (fun _ => t_pure _)) _ | exact t_intArith _ _ _ _ | exact t_intBits _ _ _ _ | exact t_intDiv _ _ _ _ | exact t_intCmp _ _ _ | exact t_stringOp _ _ _)
    | (with_reducible refine t_bind ?_ (fun _ => ?_))
    | (with_reducible refine t_map _ ?_)
    | (with_reducible refine t_ite ?_ ?_)
    | split
    | (intro _)
    | (dsimp only)
set_option maxHeartbeats 2000000 in
theorem t_max2 (x y : Value) : T z P (Builtin.max2 x y) := by
  unfold Builtin.max2
  repeat' first
    | (with_reducible first | exact t_pure _ | exact t_halt _ trivial | exact t_stuck _ | exact t_unsup _ | exact t_goPanic _ | exact t_getObj _ | exact t_newObj _ | exact t_shape _ | exact t_frozen _ | exact t_choose _ | exact t_program | exact t_mark _ (by simp) (by simp) (by simp) | exact t_load _ _ | exact t_store _ _ _)
    | assumption
    | (with_reducible first | exact t_typeInfo _ | exact t_underlying _ | exact t_sizeOf _ | exact t_zeroValue _ | exact t_isAgg _ | exact t_asIntOf _ | exact t_asInt _ | exact t_asBool _ | exact t_asAgg _ | exact t_elemOf _ | exact t_newRow _ _ | exact t_newVar _ _ | exact t_runtimePanic _ | exact t_boundsPanic _ _ _ _ | exact t_asAddr _ | exact t_part _ _ _ | exact t_loadCells _ _ | exact t_storeCells _ _ _ | exact t_loadVar _ _ | exact t_storeVar _ _ _ | exact t_sureAddr _ | exact t_viewAt _ | exact t_numberAt _ | exact t_behindNumber _ | exact t_noView _ | exact t_byteOf _ | exact t_partAt _ _ _ | exact t_fieldPlace _ _ | exact t_askRoom _ | exact t_sliceBound _ _ _ | exact t_sliceBounds _ _ _ _ _ _ | exact t_slice _ _ _ _ _ | exact t_mapM (fun _ => t_bind (t_sizeOf _) (fun _ => t_pure _)) _ | exact t_intArith _ _ _ _ | exact t_intBits _ _ _ _ | exact t_intDiv _ _ _ _ | exact t_intCmp _ _ _ | exact t_stringOp _ _ _)
    | (with_reducible refine t_bind ?_ (fun _ => ?_))
    | (with_reducible refine t_map _ ?_)
    | (with_reducible refine t_ite ?_ ?_)
    | split
    | (intro _)
    | (dsimp only)
set_option maxHeartbeats 2000000 in
theorem t_min (a : Array TypeId) (t : TypeId) (x : Array Value) : T z P (Builtin.min_ a t x) := by
  unfold Builtin.min_
  repeat' first
    | (with_reducible first | exact t_pure _ | exact t_halt _ trivial | exact t_stuck _ | exact t_unsup _ | exact t_goPanic _ | exact t_getObj _ | exact t_newObj _ | exact t_shape _ | exact t_frozen _ | exact t_choose _ | exact t_program | exact t_mark _ (by simp) (by simp) (by simp) | exact t_load _ _ | exact t_store _ _ _)
    | assumption
    | (with_reducible first | exact t_typeInfo _ | exact t_underlying _ | exact t_sizeOf _ | exact t_zeroValue _ | exact t_isAgg _ | exact t_asIntOf _ | exact t_asInt _ | exact t_asBool _ | exact t_asAgg _ | exact t_elemOf _ | exact t_newRow _ _ | exact t_newVar _ _ | exact t_runtimePanic _ | exact t_boundsPanic _ _ _ _ | exact t_asAddr _ | exact t_part _ _ _ | exact t_loadCells _ _ | exact t_storeCells _ _ _ | exact t_loadVar _ _ | exact t_storeVar _ _ _ | exact t_sureAddr _ | exact t_viewAt _ | exact t_numberAt _ | exact t_behindNumber _ | exact t_noView _ | exact t_byteOf _ | exact t_partAt _ _ _ | exact t_fieldPlace _ _ | exact t_askRoom _ | exact t_sliceBound _ _ _ | exact t_sliceBounds _ _ _ _ _ _ | exact t_slice _ _ _ _ _ | exact t_mapM (fun _ => t_bind (t_sizeOf _) (fun _ => t_pure _)) _ | exact t_intArith _ _ _ _ | exact t_intBits _ _ _ _ | exact t_intDiv _ _ _ _ | exact t_intCmp _ _ _ | exact t_stringOp _ _ _ | exact t_foldlM (fun _ _ => t_min2 _ _) _ _ | exact t_foldlM (fun _ _ => t_max2 _ _) _ _)
    | (with_reducible refine t_bind ?_ (fun _ => ?_))
    | (with_reducible refine t_map _ ?_)
    | (with_reducible refine t_ite ?_ ?_)
    | split
    | (intro _)
    | (dsimp only)
set_option maxHeartbeats 2000000 in
theorem t_max (a : Array TypeId) (t : TypeId) (x : Array Value) : T z P (Builtin.max_ a t x) := by
  unfold Builtin.max_
  repeat' first
    | (with_reducible first | exact t_pure _ | exact t_halt _ trivial | exact t_stuck _ | exact t_unsup _ | exact t_goPanic _ | exact t_getObj _ | exact t_newObj _ | exact t_shape _ | exact t_frozen _ | exact t_choose _ | exact t_program | exact t_mark _ (by simp) (by simp) (by simp) | exact t_load _ _ | exact t_store _ _ _)
    | assumption
    | (with_reducible first | exact t_typeInfo _ | exact t_underlying _ | exact t_sizeOf _ | exact t_zeroValue _ | exact t_isAgg _ | exact t_asIntOf _ | exact t_asInt _ | exact t_asBool _ | exact t_asAgg _ | exact t_elemOf _ | exact t_newRow _ _ | exact t_newVar _ _ | exact t_runtimePanic _ | exact t_boundsPanic _ _ _ _ | exact t_asAddr _ | exact t_part _ _ _ | exact t_loadCells _ _ | exact t_storeCells _ _ _ | exact t_loadVar _ _ | exact t_storeVar _ _ _ | exact t_sureAddr _ | exact t_viewAt _ | exact t_numberAt _ | exact t_behindNumber _ | exact t_noView _ | exact t_byteOf _ | exact t_partAt _ _ _ | exact t_fieldPlace _ _ | exact t_askRoom _ | exact t_sliceBound _ _ _ | exact t_sliceBounds _ _ _ _ _ _ | exact t_slice _ _ _ _ _ | exact t_mapM (fun _ => t_bind (t_sizeOf _) (fun _ => t_pure _)) _ | exact t_intArith _ _ _ _ | exact t_intBits _ _ _ _ | exact t_intDiv _ _ _ _ | exact t_intCmp _ _ _ | exact t_stringOp _ _ _ | exact t_foldlM (fun _ _ => t_min2 _ _) _ _ | exact t_foldlM (fun _ _ => t_max2 _ _) _ _)
    | (with_reducible refine t_bind ?_ (fun _ => ?_))
    | (with_reducible refine t_map _ ?_)
    | (with_reducible refine t_ite ?_ ?_)
    | split
    | (intro _)
    | (dsimp only)
set_option maxHeartbeats 2000000 in
theorem t_len (a : Array TypeId) (t : TypeId) (x : Array Value) : T z P (Builtin.len_ a t x) := by
  unfold Builtin.len_
  repeat' first
    | (with_reducible first | exact t_pure _ | exact t_halt _ trivial | exact t_stuck _ | exact t_unsup _ | exact t_goPanic _ | exact t_getObj _ | exact t_newObj _ | exact t_shape _ | exact t_frozen _ | exact t_choose _ | exact t_program | exact t_mark _ (by simp) (by simp) (by simp) | exact t_load _ _ | exact t_store _ _ _)
    | assumption
    | (with_reducible first | exact t_typeInfo _ | exact t_underlying _ | exact t_sizeOf _ | exact t_zeroValue _ | exact t_isAgg _ | exact t_asIntOf _ | exact t_asInt _ | exact t_asBool _ | exact t_asAgg _ | exact t_elemOf _ | exact t_newRow _ _ | exact t_newVar _ _ | exact t_runtimePanic _ | exact t_boundsPanic _ _ _ _ | exact t_asAddr _ | exact t_part _ _ _ | exact t_loadCells _ _ | exact t_storeCells _ _ _ | exact t_loadVar _ _ | exact t_storeVar _ _ _ | exact t_sureAddr _ | exact t_viewAt _ | exact t_numberAt _ | exact t_behindNumber _ | exact t_noView _ | exact t_byteOf _ | exact t_partAt _ _ _ | exact t_fieldPlace _ _ | exact t_askRoom _ | exact t_sliceBound _ _ _ | exact t_sliceBounds _ _ _ _ _ _ | exact t_slice _ _ _ _ _ | exact t_mapM (fun _ => t_bind (t_sizeOf _) (fun _ => t_pure _)) _ | exact t_intArith _ _ _ _ | exact t_intBits _ _ _ _ | exact t_intDiv _ _ _ _ | exact t_intCmp _ _ _ | exact t_stringOp _ _ _ | exact t_foldlM (fun _ _ => t_min2 _ _) _ _ | exact t_foldlM (fun _ _ => t_max2 _ _) _ _)
    | (with_reducible refine t_bind ?_ (fun _ => ?_))
    | (with_reducible refine t_map _ ?_)
    | (with_reducible refine t_ite ?_ ?_)
    | split
    | (intro _)
    | (dsimp only)
set_option maxHeartbeats 2000000 in
theorem t_holdsCells (a : Addr) (n : Nat) : T z P (Builtin.holdsCells a n) := by
  unfold Builtin.holdsCells
  repeat' first
    | (with_reducible first | exact t_pure _ | exact t_halt _ trivial | exact t_stuck _ | exact t_unsup _ | exact t_goPanic _ | exact t_getObj _ | exact t_newObj _ | exact t_shape _ | exact t_frozen _ | exact t_choose _ | exact t_program | exact t_mark _ (by simp) (by simp) (by simp) | exact t_load _ _ | exact t_store _ _ _)
    | assumption
    | (with_reducible first | exact t_typeInfo _ | exact t_underlying _ | exact t_sizeOf _ | exact t_zeroValue _ | exact t_isAgg _ | exact t_asIntOf _ | exact t_asInt _ | exact t_asBool _ | exact t_asAgg _ | exact t_elemOf _ | exact t_newRow _ _ | exact t_newVar _ _ | exact t_runtimePanic _ | exact t_boundsPanic _ _ _ _ | exact t_asAddr _ | exact t_part _ _ _ | exact t_loadCells _ _ | exact t_storeCells _ _ _ | exact t_loadVar _ _ | exact t_storeVar _ _ _ | exact t_sureAddr _ | exact t_viewAt _ | exact t_numberAt _ | exact t_behindNumber _ | exact t_noView _ | exact t_byteOf _ | exact t_partAt _ _ _ | exact t_fieldPlace _ _ | exact t_askRoom _ | exact t_sliceBound _ _ _ | exact t_sliceBounds _ _ _ _ _ _ | exact t_slice _ _ _ _ _ | exact t_mapM (fun _ => t_bind (t_sizeOf _) (fun _ => t_pure _)) _ | exact t_intArith _ _ _ _ | exact t_intBits _ _ _ _ | exact t_intDiv _ _ _ _ | exact t_intCmp _ _ _ | exact t_stringOp _ _ _ | exact t_foldlM (fun _ _ => t_min2 _ _) _ _ | exact t_foldlM (fun _ _ => t_max2 _ _) _ _)
    | (with_reducible refine t_bind ?_ (fun _ => ?_))
    | (with_reducible refine t_map _ ?_)
    | (with_reducible refine t_ite ?_ ?_)
    | split
    | (intro _)
    | (dsimp only)
set_option maxHeartbeats 2000000 in
theorem t_mayShare (a b c : Nat) (d : Option Addr) (x : Value) : T false P (Builtin.mayShare a b c d x) := by
  unfold Builtin.mayShare
  repeat' first
    | (with_reducible first | exact t_pure _ | exact t_halt _ trivial | exact t_stuck _ | exact t_unsup _ | exact t_goPanic _ | exact t_getObj _ | exact t_newObj _ | exact t_shape _ | exact t_frozen _ | exact t_choose _ | exact t_program | exact t_mark _ (by simp) (by simp) (by simp) | exact t_load _ _ | exact t_store _ _ _)
    | assumption
    | (with_reducible first | exact t_typeInfo _ | exact t_underlying _ | exact t_sizeOf _ | exact t_zeroValue _ | exact t_isAgg _ | exact t_asIntOf _ | exact t_asInt _ | exact t_asBool _ | exact t_asAgg _ | exact t_elemOf _ | exact t_newRow _ _ | exact t_newVar _ _ | exact t_runtimePanic _ | exact t_boundsPanic _ _ _ _ | exact t_asAddr _ | exact t_part _ _ _ | exact t_loadCells _ _ | exact t_storeCells _ _ _ | exact t_loadVar _ _ | exact t_storeVar _ _ _ | exact t_sureAddr _ | exact t_viewAt _ | exact t_numberAt _ | exact t_behindNumber _ | exact t_noView _ | exact t_byteOf _ | exact t_partAt _ _ _ | exact t_fieldPlace _ _ | exact t_askRoom _ | exact t_sliceBound _ _ _ | exact t_sliceBounds _ _ _ _ _ _ | exact t_slice _ _ _ _ _ | exact t_mapM (fun _ => t_bind (t_sizeOf _) (fun _ => t_pure _)) _ | exact t_intArith _ _ _ _ | exact t_intBits _ _ _ _ | exact t_intDiv _ _ _ _ | exact t_intCmp _ _ _ | exact t_stringOp _ _ _ | exact t_foldlM (fun _ _ => t_min2 _ _) _ _ | exact t_foldlM (fun _ _ => t_max2 _ _) _ _ | exact t_holdsCells _ _)
    | (with_reducible refine t_bind ?_ (fun _ => ?_))
    | (with_reducible refine t_map _ ?_)
    | (with_reducible refine t_ite ?_ ?_)
    | split
    | (intro _)
    | (dsimp only)
set_option maxHeartbeats 2000000 in
theorem t_lenOf (x : Value) : T z P (Builtin.lenOf x) := by
  unfold Builtin.lenOf
  repeat' first
    | (with_reducible first | exact t_pure _ | exact t_halt _ trivial | exact t_stuck _ | exact t_unsup _ | exact t_goPanic _ | exact t_getObj _ | exact t_newObj _ | exact t_shape _ | exact t_frozen _ | exact t_choose _ | exact t_program | exact t_mark _ (by simp) (by simp) (by simp) | exact t_load _ _ | exact t_store _ _ _)
    | assumption
    | (with_reducible first | exact t_typeInfo _ | exact t_underlying _ | exact t_sizeOf _ | exact t_zeroValue _ | exact t_isAgg _ | exact t_asIntOf _ | exact t_asInt _ | exact t_asBool _ | exact t_asAgg _ | exact t_elemOf _ | exact t_newRow _ _ | exact t_newVar _ _ | exact t_runtimePanic _ | exact t_boundsPanic _ _ _ _ | exact t_asAddr _ | exact t_part _ _ _ | exact t_loadCells _ _ | exact t_storeCells _ _ _ | exact t_loadVar _ _ | exact t_storeVar _ _ _ | exact t_sureAddr _ | exact t_viewAt _ | exact t_numberAt _ | exact t_behindNumber _ | exact t_noView _ | exact t_byteOf _ | exact t_partAt _ _ _ | exact t_fieldPlace _ _ | exact t_askRoom _ | exact t_sliceBound _ _ _ | exact t_sliceBounds _ _ _ _ _ _ | exact t_slice _ _ _ _ _ | exact t_mapM (fun _ => t_bind (t_sizeOf _) (fun _ => t_pure _)) _ | exact t_intArith _ _ _ _ | exact t_intBits _ _ _ _ | exact t_intDiv _ _ _ _ | exact t_intCmp _ _ _ | exact t_stringOp _ _ _ | exact t_foldlM (fun _ _ => t_min2 _ _) _ _ | exact t_foldlM (fun _ _ => t_max2 _ _) _ _ | exact t_holdsCells _ _ | exact t_mayShare _ _ _ _ _)
    | (with_reducible refine t_bind ?_ (fun _ => ?_))
    | (with_reducible refine t_map _ ?_)
    | (with_reducible refine t_ite ?_ ?_)
    | split
    | (intro _)
    | (dsimp only)
set_option maxHeartbeats 2000000 in
theorem t_firstCells (a b : Nat) (x : Value) : T z P (Builtin.firstCells a b x) := by
  unfold Builtin.firstCells
  repeat' first
    | (with_reducible first | exact t_pure _ | exact t_halt _ trivial | exact t_stuck _ | exact t_unsup _ | exact t_goPanic _ | exact t_getObj _ | exact t_newObj _ | exact t_shape _ | exact t_frozen _ | exact t_choose _ | exact t_program | exact t_mark _ (by simp) (by simp) (by simp) | exact t_load _ _ | exact t_store _ _ _)
    | assumption
    | (with_reducible first | exact t_typeInfo _ | exact t_underlying _ | exact t_sizeOf _ | exact t_zeroValue _ | exact t_isAgg _ | exact t_asIntOf _ | exact t_asInt _ | exact t_asBool _ | exact t_asAgg _ | exact t_elemOf _ | exact t_newRow _ _ | exact t_newVar _ _ | exact t_runtimePanic _ | exact t_boundsPanic _ _ _ _ | exact t_asAddr _ | exact t_part _ _ _ | exact t_loadCells _ _ | exact t_storeCells _ _ _ | exact t_loadVar _ _ | exact t_storeVar _ _ _ | exact t_sureAddr _ | exact t_viewAt _ | exact t_numberAt _ | exact t_behindNumber _ | exact t_noView _ | exact t_byteOf _ | exact t_partAt _ _ _ | exact t_fieldPlace _ _ | exact t_askRoom _ | exact t_sliceBound _ _ _ | exact t_sliceBounds _ _ _ _ _ _ | exact t_slice _ _ _ _ _ | exact t_mapM (fun _ => t_bind (t_sizeOf _) (fun _ => t_pure _)) _ | exact t_intArith _ _ _ _ | exact t_intBits _ _ _ _ | exact t_intDiv _ _ _ _ | exact t_intCmp _ _ _ | exact t_stringOp _ _ _ | exact t_foldlM (fun _ _ => t_min2 _ _) _ _ | exact t_foldlM (fun _ _ => t_max2 _ _) _ _ | exact t_holdsCells _ _ | exact t_mayShare _ _ _ _ _ | exact t_lenOf _)
    | (with_reducible refine t_bind ?_ (fun _ => ?_))
    | (with_reducible refine t_map _ ?_)
    | (with_reducible refine t_ite ?_ ?_)
    | split
    | (intro _)
    | (dsimp only)
set_option maxHeartbeats 2000000 in
theorem t_append (a : Array TypeId) (t : TypeId) (x : Array Value) : T false P (Builtin.append_ a t x) := by
  unfold Builtin.append_
  repeat' first
    | (with_reducible first | exact t_pure _ | exact t_halt _ trivial | exact t_stuck _ | exact t_unsup _ | exact t_goPanic _ | exact t_getObj _ | exact t_newObj _ | exact t_shape _ | exact t_frozen _ | exact t_choose _ | exact t_program | exact t_mark _ (by simp) (by simp) (by simp) | exact t_load _ _ | exact t_store _ _ _)
    | assumption
    | (with_reducible first | exact t_typeInfo _ | exact t_underlying _ | exact t_sizeOf _ | exact t_zeroValue _ | exact t_isAgg _ | exact t_asIntOf _ | exact t_asInt _ | exact t_asBool _ | exact t_asAgg _ | exact t_elemOf _ | exact t_newRow _ _ | exact t_newVar _ _ | exact t_runtimePanic _ | exact t_boundsPanic _ _ _ _ | exact t_asAddr _ | exact t_part _ _ _ | exact t_loadCells _ _ | exact t_storeCells _ _ _ | exact t_loadVar _ _ | exact t_storeVar _ _ _ | exact t_sureAddr _ | exact t_viewAt _ | exact t_numberAt _ | exact t_behindNumber _ | exact t_noView _ | exact t_byteOf _ | exact t_partAt _ _ _ | exact t_fieldPlace _ _ | exact t_askRoom _ | exact t_sliceBound _ _ _ | exact t_sliceBounds _ _ _ _ _ _ | exact t_slice _ _ _ _ _ | exact t_mapM (fun _ => t_bind (t_sizeOf _) (fun _ => t_pure _)) _ | exact t_intArith _ _ _ _ | exact t_intBits _ _ _ _ | exact t_intDiv _ _ _ _ | exact t_intCmp _ _ _ | exact t_stringOp _ _ _ | exact t_foldlM (fun _ _ => t_min2 _ _) _ _ | exact t_foldlM (fun _ _ => t_max2 _ _) _ _ | exact t_holdsCells _ _ | exact t_mayShare _ _ _ _ _ | exact t_lenOf _ | exact t_firstCells _ _ _)
    | (with_reducible refine t_bind ?_ (fun _ => ?_))
    | (with_reducible refine t_map _ ?_)
    | (with_reducible refine t_ite ?_ ?_)
    | split
    | (intro _)
    | (dsimp only)
end
end Go.Proofs.Ytimkkeomdkbcjaa
