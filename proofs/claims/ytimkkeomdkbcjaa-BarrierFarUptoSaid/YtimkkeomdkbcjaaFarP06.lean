/-
  Merged out of: Ops2. No condition of its own.
-/
import Derived.Test.YtimkkeomdkbcjaaFarP05
/-
  The operations of calm code, on: comparisons, conversions; which operations are calm, by a table. No condition of its own.
-/
namespace Go.Proofs.Ytimkkeomdkbcjaa
open Go.Conc
set_option linter.unusedVariables false
set_option linter.unusedSimpArgs false
section
variable {z : Bool} {P : Program} {α β : Type}
theorem t_forIn_list {σ : Type} {f : α → σ → Sem (ForInStep σ)} (hf : ∀ a s, T z P (f a s)) : ∀ (l : List α) (b : σ), T z P (forIn l b f)
  | [], b => by rw [List.forIn_nil]; exact t_pure _
  | a :: l, b => by
    rw [List.forIn_cons]
    refine t_bind (hf a b) fun r => ?_
    cases r with
    | done b => exact t_pure _
    | yield b => exact t_forIn_list hf l b
theorem t_forIn_arr {σ : Type} {f : α → σ → Sem (ForInStep σ)} (hf : ∀ a s, T z P (f a s)) (l : Array α) (b : σ) : T z P (forIn l b f) := by
  rw [← Array.forIn_toList]
  exact t_forIn_list hf _ _
theorem t_forIn_range {σ : Type} {f : Nat → σ → Sem (ForInStep σ)} (hf : ∀ a s, T z P (f a s)) (l : Std.Legacy.Range) (b : σ) : T z P (forIn l b f) := by
  rw [Std.Legacy.Range.forIn_eq_forIn_range']
  exact t_forIn_list hf _ _
set_option maxHeartbeats 2000000 in
theorem t_stringish (a : Addr) : T false P (stringish a) := by
  unfold stringish
  repeat' first
    | (with_reducible first | exact t_pure _ | exact t_halt _ trivial | exact t_stuck _ | exact t_unsup _ | exact t_goPanic _ | exact t_getObj _ | exact t_newObj _ | exact t_shape _ | exact t_frozen _ | exact t_choose _ | exact t_program | exact t_mark _ (by simp) (by simp) (by simp) | exact t_load _ _ | exact t_store _ _ _)
    | assumption
    | (with_reducible first | exact t_typeInfo _ | exact t_underlying _ | exact t_sizeOf _ | exact t_zeroValue _ | exact t_isAgg _ | exact t_asIntOf _ | exact t_asInt _ | exact t_asBool _ | exact t_asAgg _ | exact t_elemOf _ | exact t_newRow _ _ | exact t_newVar _ _ | exact t_runtimePanic _ | exact t_boundsPanic _ _ _ _ | exact t_asAddr _ | exact t_part _ _ _ | exact t_loadCells _ _ | exact t_storeCells _ _ _ | exact t_loadVar _ _ | exact t_storeVar _ _ _ | exact t_sureAddr _ | exact t_viewAt _ | exact t_numberAt _ | exact t_behindNumber _ | exact t_noView _ | exact t_byteOf _ | exact t_partAt _ _ _ | exact t_fieldPlace _ _ | exact t_askRoom _ | exact t_sliceBound _ _ _ | exact t_sliceBounds _ _ _ _ _ _ | exact t_slice _ _ _ _ _ | exact t_mapM (fun _ => t_bind (t_sizeOf _) (fun _ => t_pure _)) _ | exact t_intArith _ _ _ _ | exact t_intBits _ _ _ _ | exact t_intDiv _ _ _ _ | exact t_intCmp _ _ _ | exact t_stringOp _ _ _ | exact t_foldlM (fun _ _ => t_min2 _ _) _ _ | exact t_foldlM (fun _ _ => t_max2 _ _) _ _ | exact t_holdsCells _ _ | exact t_mayShare _ _ _ _ _ | exact t_lenOf _ | exact t_firstCells _ _ _ | exact t_append _ _ _ | exact t_len _ _ _ | exact t_min _ _ _ | exact t_max _ _ _ | exact t_unary _ _ | exact t_loadAt _ _ | exact t_storeAt _ _ _ | exact t_fieldAt _ _ _ | exact t_indexAt _ _ _ | exact t_alloc _ _ _ | exact t_box _ _ | exact t_extract _ _ | exact t_field _ _ _ | exact t_makeInterface _ _ | exact t_makeFunc _ _ _ | exact t_makeChan _ _ | exact t_makeSlice _ _ _ | exact t_sliceAt _ _ _ _ _ | exact t_build _ _ | exact t_buildSlice _ _ _)
    | (with_reducible refine t_bind ?_ (fun _ => ?_))
    | (with_reducible refine t_map _ ?_)
    | (with_reducible refine t_ite ?_ ?_)
    | split
    | (intro _)
    | (dsimp only)
set_option maxHeartbeats 2000000 in
theorem t_mayBeOne (a b : Addr) : T false P (mayBeOne a b) := by
  unfold mayBeOne
  repeat' first
    | (with_reducible first | exact t_pure _ | exact t_halt _ trivial | exact t_stuck _ | exact t_unsup _ | exact t_goPanic _ | exact t_getObj _ | exact t_newObj _ | exact t_shape _ | exact t_frozen _ | exact t_choose _ | exact t_program | exact t_mark _ (by simp) (by simp) (by simp) | exact t_load _ _ | exact t_store _ _ _)
    | assumption
    | (with_reducible first | exact t_typeInfo _ | exact t_underlying _ | exact t_sizeOf _ | exact t_zeroValue _ | exact t_isAgg _ | exact t_asIntOf _ | exact t_asInt _ | exact t_asBool _ | exact t_asAgg _ | exact t_elemOf _ | exact t_newRow _ _ | exact t_newVar _ _ | exact t_runtimePanic _ | exact t_boundsPanic _ _ _ _ | exact t_asAddr _ | exact t_part _ _ _ | exact t_loadCells _ _ | exact t_storeCells _ _ _ | exact t_loadVar _ _ | exact t_storeVar _ _ _ | exact t_sureAddr _ | exact t_viewAt _ | exact t_numberAt _ | exact t_behindNumber _ | exact t_noView _ | exact t_byteOf _ | exact t_partAt _ _ _ | exact t_fieldPlace _ _ | exact t_askRoom _ | exact t_sliceBound _ _ _ | exact t_sliceBounds _ _ _ _ _ _ | exact t_slice _ _ _ _ _ | exact t_mapM (fun _ => t_bind (t_sizeOf _) (fun _ => t_pure _)) _ | exact t_intArith _ _ _ _ | exact t_intBits _ _ _ _ | exact t_intDiv _ _ _ _ | exact t_intCmp _ _ _ | exact t_stringOp _ _ _ | exact t_foldlM (fun _ _ => t_min2 _ _) _ _ | exact t_foldlM (fun _ _ => t_max2 _ _) _ _ | exact t_holdsCells _ _ | exact t_mayShare _ _ _ _ _ | exact t_lenOf _ | exact t_firstCells _ _ _ | exact t_append _ _ _ | exact t_len _ _ _ | exact t_min _ _ _ | exact t_max _ _ _ | exact t_unary _ _ | exact t_loadAt _ _ | exact t_storeAt _ _ _ | exact t_fieldAt _ _ _ | exact t_indexAt _ _ _ | exact t_alloc _ _ _ | exact t_box _ _ | exact t_extract _ _ | exact t_field _ _ _ | exact t_makeInterface _ _ | exact t_makeFunc _ _ _ | exact t_makeChan _ _ | exact t_makeSlice _ _ _ | exact t_sliceAt _ _ _ _ _ | exact t_build _ _ | exact t_buildSlice _ _ _ | exact t_stringish _)
    | (with_reducible refine t_bind ?_ (fun _ => ?_))
    | (with_reducible refine t_map _ ?_)
    | (with_reducible refine t_ite ?_ ?_)
    | split
    | (intro _)
    | (dsimp only)
set_option maxHeartbeats 2000000 in
theorem t_sameAddr (a b : Addr) : T false P (sameAddr a b) := by
  unfold sameAddr
  repeat' first
    | (with_reducible first | exact t_pure _ | exact t_halt _ trivial | exact t_stuck _ | exact t_unsup _ | exact t_goPanic _ | exact t_getObj _ | exact t_newObj _ | exact t_shape _ | exact t_frozen _ | exact t_choose _ | exact t_program | exact t_mark _ (by simp) (by simp) (by simp) | exact t_load _ _ | exact t_store _ _ _)
    | assumption
    | (with_reducible first | exact t_typeInfo _ | exact t_underlying _ | exact t_sizeOf _ | exact t_zeroValue _ | exact t_isAgg _ | exact t_asIntOf _ | exact t_asInt _ | exact t_asBool _ | exact t_asAgg _ | exact t_elemOf _ | exact t_newRow _ _ | exact t_newVar _ _ | exact t_runtimePanic _ | exact t_boundsPanic _ _ _ _ | exact t_asAddr _ | exact t_part _ _ _ | exact t_loadCells _ _ | exact t_storeCells _ _ _ | exact t_loadVar _ _ | exact t_storeVar _ _ _ | exact t_sureAddr _ | exact t_viewAt _ | exact t_numberAt _ | exact t_behindNumber _ | exact t_noView _ | exact t_byteOf _ | exact t_partAt _ _ _ | exact t_fieldPlace _ _ | exact t_askRoom _ | exact t_sliceBound _ _ _ | exact t_sliceBounds _ _ _ _ _ _ | exact t_slice _ _ _ _ _ | exact t_mapM (fun _ => t_bind (t_sizeOf _) (fun _ => t_pure _)) _ | exact t_intArith _ _ _ _ | exact t_intBits _ _ _ _ | exact t_intDiv _ _ _ _ | exact t_intCmp _ _ _ | exact t_stringOp _ _ _ | exact t_foldlM (fun _ _ => t_min2 _ _) _ _ | exact t_foldlM (fun _ _ => t_max2 _ _) _ _ | exact t_holdsCells _ _ | exact t_mayShare _ _ _ _ _ | exact t_lenOf _ | exact t_firstCells _ _ _ | exact t_append _ _ _ | exact t_len _ _ _ | exact t_min _ _ _ | exact t_max _ _ _ | exact t_unary _ _ | exact t_loadAt _ _ | exact t_storeAt _ _ _ | exact t_fieldAt _ _ _ | exact t_indexAt _ _ _ | exact t_alloc _ _ _ | exact t_box _ _ | exact t_extract _ _ | exact t_field _ _ _ | exact t_makeInterface _ _ | exact t_makeFunc _ _ _ | exact t_makeChan _ _ | exact t_makeSlice _ _ _ | exact t_sliceAt _ _ _ _ _ | exact t_build _ _ | exact t_buildSlice _ _ _ | exact t_stringish _ | exact t_mayBeOne _ _)
    | (with_reducible refine t_bind ?_ (fun _ => ?_))
    | (with_reducible refine t_map _ ?_)
    | (with_reducible refine t_ite ?_ ?_)
    | split
    | (intro _)
    | (dsimp only)
set_option maxHeartbeats 2000000 in
theorem t_samePointer (a b : Option Addr) : T false P (samePointer a b) := by
  unfold samePointer
  repeat' first
    | (with_reducible first | exact t_pure _ | exact t_halt _ trivial | exact t_stuck _ | exact t_unsup _ | exact t_goPanic _ | exact t_getObj _ | exact t_newObj _ | exact t_shape _ | exact t_frozen _ | exact t_choose _ | exact t_program | exact t_mark _ (by simp) (by simp) (by simp) | exact t_load _ _ | exact t_store _ _ _)
    | assumption
    | (with_reducible first | exact t_typeInfo _ | exact t_underlying _ | exact t_sizeOf _ | exact t_zeroValue _ | exact t_isAgg _ | exact t_asIntOf _ | exact t_asInt _ | exact t_asBool _ | exact t_asAgg _ | exact t_elemOf _ | exact t_newRow _ _ | exact t_newVar _ _ | exact t_runtimePanic _ | exact t_boundsPanic _ _ _ _ | exact t_asAddr _ | exact t_part _ _ _ | exact t_loadCells _ _ | exact t_storeCells _ _ _ | exact t_loadVar _ _ | exact t_storeVar _ _ _ | exact t_sureAddr _ | exact t_viewAt _ | exact t_numberAt _ | exact t_behindNumber _ | exact t_noView _ | exact t_byteOf _ | exact t_partAt _ _ _ | exact t_fieldPlace _ _ | exact t_askRoom _ | exact t_sliceBound _ _ _ | exact t_sliceBounds _ _ _ _ _ _ | exact t_slice _ _ _ _ _ | exact t_mapM (fun _ => t_bind (t_sizeOf _) (fun _ => t_pure _)) _ | exact t_intArith _ _ _ _ | exact t_intBits _ _ _ _ | exact t_intDiv _ _ _ _ | exact t_intCmp _ _ _ | exact t_stringOp _ _ _ | exact t_foldlM (fun _ _ => t_min2 _ _) _ _ | exact t_foldlM (fun _ _ => t_max2 _ _) _ _ | exact t_holdsCells _ _ | exact t_mayShare _ _ _ _ _ | exact t_lenOf _ | exact t_firstCells _ _ _ | exact t_append _ _ _ | exact t_len _ _ _ | exact t_min _ _ _ | exact t_max _ _ _ | exact t_unary _ _ | exact t_loadAt _ _ | exact t_storeAt _ _ _ | exact t_fieldAt _ _ _ | exact t_indexAt _ _ _ | exact t_alloc _ _ _ | exact t_box _ _ | exact t_extract _ _ | exact t_field _ _ _ | exact t_makeInterface _ _ | exact t_makeFunc _ _ _ | exact t_makeChan _ _ | exact t_makeSlice _ _ _ | exact t_sliceAt _ _ _ _ _ | exact t_build _ _ | exact t_buildSlice _ _ _ | exact t_stringish _ | exact t_mayBeOne _ _ | exact t_sameAddr _ _)
    | (with_reducible refine t_bind ?_ (fun _ => ?_))
    | (with_reducible refine t_map _ ?_)
    | (with_reducible refine t_ite ?_ ?_)
    | split
    | (intro _)
    | (dsimp only)
set_option maxHeartbeats 2000000 in
theorem t_typeStr (t : TypeId) : T z P (typeStr t) := by
  unfold typeStr
  repeat' first
    | (with_reducible first | exact t_pure _ | exact t_halt _ trivial | exact t_stuck _ | exact t_unsup _ | exact t_goPanic _ | exact t_getObj _ | exact t_newObj _ | exact t_shape _ | exact t_frozen _ | exact t_choose _ | exact t_program | exact t_mark _ (by simp) (by simp) (by simp) | exact t_load _ _ | exact t_store _ _ _)
    | assumption
    | (with_reducible first | exact t_typeInfo _ | exact t_underlying _ | exact t_sizeOf _ | exact t_zeroValue _ | exact t_isAgg _ | exact t_asIntOf _ | exact t_asInt _ | exact t_asBool _ | exact t_asAgg _ | exact t_elemOf _ | exact t_newRow _ _ | exact t_newVar _ _ | exact t_runtimePanic _ | exact t_boundsPanic _ _ _ _ | exact t_asAddr _ | exact t_part _ _ _ | exact t_loadCells _ _ | exact t_storeCells _ _ _ | exact t_loadVar _ _ | exact t_storeVar _ _ _ | exact t_sureAddr _ | exact t_viewAt _ | exact t_numberAt _ | exact t_behindNumber _ | exact t_noView _ | exact t_byteOf _ | exact t_partAt _ _ _ | exact t_fieldPlace _ _ | exact t_askRoom _ | exact t_sliceBound _ _ _ | exact t_sliceBounds _ _ _ _ _ _ | exact t_slice _ _ _ _ _ | exact t_mapM (fun _ => t_bind (t_sizeOf _) (fun _ => t_pure _)) _ | exact t_intArith _ _ _ _ | exact t_intBits _ _ _ _ | exact t_intDiv _ _ _ _ | exact t_intCmp _ _ _ | exact t_stringOp _ _ _ | exact t_foldlM (fun _ _ => t_min2 _ _) _ _ | exact t_foldlM (fun _ _ => t_max2 _ _) _ _ | exact t_holdsCells _ _ | exact t_mayShare _ _ _ _ _ | exact t_lenOf _ | exact t_firstCells _ _ _ | exact t_append _ _ _ | exact t_len _ _ _ | exact t_min _ _ _ | exact t_max _ _ _ | exact t_unary _ _ | exact t_loadAt _ _ | exact t_storeAt _ _ _ | exact t_fieldAt _ _ _ | exact t_indexAt _ _ _ | exact t_alloc _ _ _ | exact t_box _ _ | exact t_extract _ _ | exact t_field _ _ _ | exact t_makeInterface _ _ | exact t_makeFunc _ _ _ | exact t_makeChan _ _ | exact t_makeSlice _ _ _ | exact t_sliceAt _ _ _ _ _ | exact t_build _ _ | exact t_buildSlice _ _ _ | exact t_stringish _ | exact t_mayBeOne _ _ | exact t_sameAddr _ _ | exact t_samePointer _ _)
    | (with_reducible refine t_bind ?_ (fun _ => ?_))
    | (with_reducible refine t_map _ ?_)
    | (with_reducible refine t_ite ?_ ?_)
    | split
    | (intro _)
    | (dsimp only)
set_option maxHeartbeats 4000000 in
theorem t_equalIn : ∀ (d : Nat) (t : TypeId) (x y : Value), T false P (Op.equalIn d t x y)
  | 0, _, _, _ => t_unsup _
  | d + 1, t, x, y => by
    have ih : ∀ t x y, T false P (Op.equalIn d t x y) := t_equalIn d
    unfold Op.equalIn
    repeat' first
        | with_reducible exact t_pure _
        | with_reducible exact t_halt _ trivial
        | with_reducible exact t_stuck _
        | with_reducible exact t_unsup _
        | with_reducible exact t_goPanic _
        | with_reducible exact t_getObj _
        | with_reducible exact t_newObj _
        | with_reducible exact t_shape _
        | with_reducible exact t_frozen _
        | with_reducible exact t_choose _
        | with_reducible exact t_program
        | with_reducible exact t_mark _ (by simp) (by simp) (by simp)
        | with_reducible exact t_load _ _
        | with_reducible exact t_store _ _ _
        | assumption
        | with_reducible exact t_typeInfo _
        | with_reducible exact t_underlying _
        | with_reducible exact t_sizeOf _
        | with_reducible exact t_zeroValue _
        | with_reducible exact t_isAgg _
        | with_reducible exact t_asIntOf _
        | with_reducible exact t_asInt _
        | with_reducible exact t_asBool _
        | with_reducible exact t_asAgg _
        | with_reducible exact t_elemOf _
        | with_reducible exact t_newRow _ _
        | with_reducible exact t_newVar _ _
        | with_reducible exact t_runtimePanic _
        | with_reducible exact t_boundsPanic _ _ _ _
        | with_reducible exact t_asAddr _
        | with_reducible exact t_part _ _ _
        | with_reducible exact t_loadCells _ _
        | with_reducible exact t_storeCells _ _ _
        | with_reducible exact t_loadVar _ _
        | with_reducible exact t_storeVar _ _ _
        | with_reducible exact t_sureAddr _
        | with_reducible exact t_viewAt _
        | with_reducible exact t_numberAt _
        | with_reducible exact t_behindNumber _
        | with_reducible exact t_noView _
        | with_reducible exact t_byteOf _
        | with_reducible exact t_partAt _ _ _
        | with_reducible exact t_fieldPlace _ _
        | with_reducible exact t_askRoom _
        | with_reducible exact t_sliceBound _ _ _
        | with_reducible exact t_sliceBounds _ _ _ _ _ _
        | with_reducible exact t_slice _ _ _ _ _
        | with_reducible exact t_mapM (fun _ => t_bind (t_sizeOf _) (fun _ => t_pure _)) _
        | with_reducible exact t_intArith _ _ _ _
        | with_reducible exact t_intBits _ _ _ _
        | with_reducible exact t_intDiv _ _ _ _
        | with_reducible exact t_intCmp _ _ _
        | with_reducible exact t_stringOp _ _ _
        | with_reducible exact t_foldlM (fun _ _ => t_min2 _ _) _ _
        | with_reducible exact t_foldlM (fun _ _ => t_max2 _ _) _ _
        | with_reducible exact t_holdsCells _ _
        | with_reducible exact t_mayShare _ _ _ _ _
        | with_reducible exact t_lenOf _
        | with_reducible exact t_firstCells _ _ _
        | with_reducible exact t_append _ _ _
        | with_reducible exact t_len _ _ _
        | with_reducible exact t_min _ _ _
        | with_reducible exact t_max _ _ _
        | with_reducible exact t_unary _ _
        | with_reducible exact t_loadAt _ _
        | with_reducible exact t_storeAt _ _ _
        | with_reducible exact t_fieldAt _ _ _
        | with_reducible exact t_indexAt _ _ _
        | with_reducible exact t_alloc _ _ _
        | with_reducible exact t_box _ _
        | with_reducible exact t_extract _ _
        | with_reducible exact t_field _ _ _
        | with_reducible exact t_makeInterface _ _
        | with_reducible exact t_makeFunc _ _ _
        | with_reducible exact t_makeChan _ _
        | with_reducible exact t_makeSlice _ _ _
        | with_reducible exact t_sliceAt _ _ _ _ _
        | with_reducible exact t_build _ _
        | with_reducible exact t_buildSlice _ _ _
        | with_reducible exact t_stringish _
        | with_reducible exact t_mayBeOne _ _
        | with_reducible exact t_sameAddr _ _
        | with_reducible exact t_samePointer _ _
        | with_reducible exact t_typeStr _
        | with_reducible exact ih _ _ _
        | (with_reducible refine t_bind ?_ (fun _ => ?_))
        | (with_reducible refine t_map _ ?_)
        | (with_reducible refine t_ite ?_ ?_)
        | (with_reducible refine t_forIn_arr (fun _ _ => ?_) _ _)
        | (with_reducible refine t_forIn_range (fun _ _ => ?_) _ _)
        | split
        | (intro _)
        | (dsimp only)
set_option maxHeartbeats 4000000 in
theorem t_eqGuardIn : ∀ (d : Nat) (t : TypeId) (x y : Value), T z P (Op.eqGuardIn d t x y)
  | 0, _, _, _ => t_unsup _
  | d + 1, t, x, y => by
    have ih : ∀ t x y, T z P (Op.eqGuardIn d t x y) := t_eqGuardIn d
    unfold Op.eqGuardIn
    repeat' first
        | with_reducible exact t_pure _
        | with_reducible exact t_halt _ trivial
        | with_reducible exact t_stuck _
        | with_reducible exact t_unsup _
        | with_reducible exact t_goPanic _
        | with_reducible exact t_getObj _
        | with_reducible exact t_newObj _
        | with_reducible exact t_shape _
        | with_reducible exact t_frozen _
        | with_reducible exact t_choose _
        | with_reducible exact t_program
        | with_reducible exact t_mark _ (by simp) (by simp) (by simp)
        | with_reducible exact t_load _ _
        | with_reducible exact t_store _ _ _
        | assumption
        | with_reducible exact t_typeInfo _
        | with_reducible exact t_underlying _
        | with_reducible exact t_sizeOf _
        | with_reducible exact t_zeroValue _
        | with_reducible exact t_isAgg _
        | with_reducible exact t_asIntOf _
        | with_reducible exact t_asInt _
        | with_reducible exact t_asBool _
        | with_reducible exact t_asAgg _
        | with_reducible exact t_elemOf _
        | with_reducible exact t_newRow _ _
        | with_reducible exact t_newVar _ _
        | with_reducible exact t_runtimePanic _
        | with_reducible exact t_boundsPanic _ _ _ _
        | with_reducible exact t_asAddr _
        | with_reducible exact t_part _ _ _
        | with_reducible exact t_loadCells _ _
        | with_reducible exact t_storeCells _ _ _
        | with_reducible exact t_loadVar _ _
        | with_reducible exact t_storeVar _ _ _
        | with_reducible exact t_sureAddr _
        | with_reducible exact t_viewAt _
        | with_reducible exact t_numberAt _
        | with_reducible exact t_behindNumber _
        | with_reducible exact t_noView _
        | with_reducible exact t_byteOf _
        | with_reducible exact t_partAt _ _ _
        | with_reducible exact t_fieldPlace _ _
        | with_reducible exact t_askRoom _
        | with_reducible exact t_sliceBound _ _ _
        | with_reducible exact t_sliceBounds _ _ _ _ _ _
        | with_reducible exact t_slice _ _ _ _ _
        | with_reducible exact t_mapM (fun _ => t_bind (t_sizeOf _) (fun _ => t_pure _)) _
        | with_reducible exact t_intArith _ _ _ _
        | with_reducible exact t_intBits _ _ _ _
        | with_reducible exact t_intDiv _ _ _ _
        | with_reducible exact t_intCmp _ _ _
        | with_reducible exact t_stringOp _ _ _
        | with_reducible exact t_foldlM (fun _ _ => t_min2 _ _) _ _
        | with_reducible exact t_foldlM (fun _ _ => t_max2 _ _) _ _
        | with_reducible exact t_holdsCells _ _
        | with_reducible exact t_mayShare _ _ _ _ _
        | with_reducible exact t_lenOf _
        | with_reducible exact t_firstCells _ _ _
        | with_reducible exact t_append _ _ _
        | with_reducible exact t_len _ _ _
        | with_reducible exact t_min _ _ _
        | with_reducible exact t_max _ _ _
        | with_reducible exact t_unary _ _
        | with_reducible exact t_loadAt _ _
        | with_reducible exact t_storeAt _ _ _
        | with_reducible exact t_fieldAt _ _ _
        | with_reducible exact t_indexAt _ _ _
        | with_reducible exact t_alloc _ _ _
        | with_reducible exact t_box _ _
        | with_reducible exact t_extract _ _
        | with_reducible exact t_field _ _ _
        | with_reducible exact t_makeInterface _ _
        | with_reducible exact t_makeFunc _ _ _
        | with_reducible exact t_makeChan _ _
        | with_reducible exact t_makeSlice _ _ _
        | with_reducible exact t_sliceAt _ _ _ _ _
        | with_reducible exact t_build _ _
        | with_reducible exact t_buildSlice _ _ _
        | with_reducible exact t_stringish _
        | with_reducible exact t_mayBeOne _ _
        | with_reducible exact t_sameAddr _ _
        | with_reducible exact t_samePointer _ _
        | with_reducible exact t_typeStr _
        | with_reducible exact ih _ _ _
        | (with_reducible refine t_bind ?_ (fun _ => ?_))
        | (with_reducible refine t_map _ ?_)
        | (with_reducible refine t_ite ?_ ?_)
        | (with_reducible refine t_forIn_arr (fun _ _ => ?_) _ _)
        | (with_reducible refine t_forIn_range (fun _ _ => ?_) _ _)
        | split
        | (intro _)
        | (dsimp only)
set_option maxHeartbeats 2000000 in
theorem t_equal (t : TypeId) (x y : Value) : T false P (Op.equal t x y) := by
  unfold Op.equal
  repeat' first
    | (with_reducible first | exact t_pure _ | exact t_halt _ trivial | exact t_stuck _ | exact t_unsup _ | exact t_goPanic _ | exact t_getObj _ | exact t_newObj _ | exact t_shape _ | exact t_frozen _ | exact t_choose _ | exact t_program | exact t_mark _ (by simp) (by simp) (by simp) | exact t_load _ _ | exact t_store _ _ _)
    | assumption
    | (with_reducible first | exact t_typeInfo _ | exact t_underlying _ | exact t_sizeOf _ | exact t_zeroValue _ | exact t_isAgg _ | exact t_asIntOf _ | exact t_asInt _ | exact t_asBool _ | exact t_asAgg _ | exact t_elemOf _ | exact t_newRow _ _ | exact t_newVar _ _ | exact t_runtimePanic _ | exact t_boundsPanic _ _ _ _ | exact t_asAddr _ | exact t_part _ _ _ | exact t_loadCells _ _ | exact t_storeCells _ _ _ | exact t_loadVar _ _ | exact t_storeVar _ _ _ | exact t_sureAddr _ | exact t_viewAt _ | exact t_numberAt _ | exact t_behindNumber _ | exact t_noView _ | exact t_byteOf _ | exact t_partAt _ _ _ | exact t_fieldPlace _ _ | exact t_askRoom _ | exact t_sliceBound _ _ _ | exact t_sliceBounds _ _ _ _ _ _ | exact t_slice _ _ _ _ _ | exact t_mapM (fun _ => t_bind (t_sizeOf _) (fun _ => t_pure _)) _ | exact t_intArith _ _ _ _ | exact t_intBits _ _ _ _ | exact t_intDiv _ _ _ _ | exact t_intCmp _ _ _ | exact t_stringOp _ _ _ | exact t_foldlM (fun _ _ => t_min2 _ _) _ _ | exact t_foldlM (fun _ _ => t_max2 _ _) _ _ | exact t_holdsCells _ _ | exact t_mayShare _ _ _ _ _ | exact t_lenOf _ | exact t_firstCells _ _ _ | exact t_append _ _ _ | exact t_len _ _ _ | exact t_min _ _ _ | exact t_max _ _ _ | exact t_unary _ _ | exact t_loadAt _ _ | exact t_storeAt _ _ _ | exact t_fieldAt _ _ _ | exact t_indexAt _ _ _ | exact t_alloc _ _ _ | exact t_box _ _ | exact t_extract _ _ | exact t_field _ _ _ | exact t_makeInterface _ _ | exact t_makeFunc _ _ _ | exact t_makeChan _ _ | exact t_makeSlice _ _ _ | exact t_sliceAt _ _ _ _ _ | exact t_build _ _ | exact t_buildSlice _ _ _ | exact t_stringish _ | exact t_mayBeOne _ _ | exact t_sameAddr _ _ | exact t_samePointer _ _ | exact t_typeStr _ | exact t_equalIn _ _ _ _ | exact t_eqGuardIn _ _ _ _)
    | (with_reducible refine t_bind ?_ (fun _ => ?_))
    | (with_reducible refine t_map _ ?_)
    | (with_reducible refine t_ite ?_ ?_)
    | split
    | (intro _)
    | (dsimp only)
set_option maxHeartbeats 2000000 in
theorem t_eqGuard (o : BinOp) (t : TypeId) (a b : Operand) (x y : Value) : T z P (eqGuard o t a b x y) := by
  unfold eqGuard
  repeat' first
    | (with_reducible first | exact t_pure _ | exact t_halt _ trivial | exact t_stuck _ | exact t_unsup _ | exact t_goPanic _ | exact t_getObj _ | exact t_newObj _ | exact t_shape _ | exact t_frozen _ | exact t_choose _ | exact t_program | exact t_mark _ (by simp) (by simp) (by simp) | exact t_load _ _ | exact t_store _ _ _)
    | assumption
    | (with_reducible first | exact t_typeInfo _ | exact t_underlying _ | exact t_sizeOf _ | exact t_zeroValue _ | exact t_isAgg _ | exact t_asIntOf _ | exact t_asInt _ | exact t_asBool _ | exact t_asAgg _ | exact t_elemOf _ | exact t_newRow _ _ | exact t_newVar _ _ | exact t_runtimePanic _ | exact t_boundsPanic _ _ _ _ | exact t_asAddr _ | exact t_part _ _ _ | exact t_loadCells _ _ | exact t_storeCells _ _ _ | exact t_loadVar _ _ | exact t_storeVar _ _ _ | exact t_sureAddr _ | exact t_viewAt _ | exact t_numberAt _ | exact t_behindNumber _ | exact t_noView _ | exact t_byteOf _ | exact t_partAt _ _ _ | exact t_fieldPlace _ _ | exact t_askRoom _ | exact t_sliceBound _ _ _ | exact t_sliceBounds _ _ _ _ _ _ | exact t_slice _ _ _ _ _ | exact t_mapM (fun _ => t_bind (t_sizeOf _) (fun _ => t_pure _)) _ | exact t_intArith _ _ _ _ | exact t_intBits _ _ _ _ | exact t_intDiv _ _ _ _ | exact t_intCmp _ _ _ | exact t_stringOp _ _ _ | exact t_foldlM (fun _ _ => t_min2 _ _) _ _ | exact t_foldlM (fun _ _ => t_max2 _ _) _ _ | exact t_holdsCells _ _ | exact t_mayShare _ _ _ _ _ | exact t_lenOf _ | exact t_firstCells _ _ _ | exact t_append _ _ _ | exact t_len _ _ _ | exact t_min _ _ _ | exact t_max _ _ _ | exact t_unary _ _ | exact t_loadAt _ _ | exact t_storeAt _ _ _ | exact t_fieldAt _ _ _ | exact t_indexAt _ _ _ | exact t_alloc _ _ _ | exact t_box _ _ | exact t_extract _ _ | exact t_field _ _ _ | exact t_makeInterface _ _ | exact t_makeFunc _ _ _ | exact t_makeChan _ _ | exact t_makeSlice _ _ _ | exact t_sliceAt _ _ _ _ _ | exact t_build _ _ | exact t_buildSlice _ _ _ | exact t_stringish _ | exact t_mayBeOne _ _ | exact t_sameAddr _ _ | exact t_samePointer _ _ | exact t_typeStr _ | exact t_equalIn _ _ _ _ | exact t_eqGuardIn _ _ _ _ | exact t_equal _ _ _)
    | (with_reducible refine t_bind ?_ (fun _ => ?_))
    | (with_reducible refine t_map _ ?_)
    | (with_reducible refine t_ite ?_ ?_)
    | split
    | (intro _)
    | (dsimp only)
set_option maxHeartbeats 2000000 in
theorem t_shift (o : BinOp) (k : IntKind) (x : Int) (k2 : IntKind) (y : Int) : T z P (Op.shift o k x k2 y) := by
  unfold Op.shift
  repeat' first
    | (with_reducible first | exact t_pure _ | exact t_halt _ trivial | exact t_stuck _ | exact t_unsup _ | exact t_goPanic _ | exact t_getObj _ | exact t_newObj _ | exact t_shape _ | exact t_frozen _ | exact t_choose _ | exact t_program | exact t_mark _ (by simp) (by simp) (by simp) | exact t_load _ _ | exact t_store _ _ _)
    | assumption
    | (with_reducible first | exact t_typeInfo _ | exact t_underlying _ | exact t_sizeOf _ | exact t_zeroValue _ | exact t_isAgg _ | exact t_asIntOf _ | exact t_asInt _ | exact t_asBool _ | exact t_asAgg _ | exact t_elemOf _ | exact t_newRow _ _ | exact t_newVar _ _ | exact t_runtimePanic _ | exact t_boundsPanic _ _ _ _ | exact t_asAddr _ | exact t_part _ _ _ | exact t_loadCells _ _ | exact t_storeCells _ _ _ | exact t_loadVar _ _ | exact t_storeVar _ _ _ | exact t_sureAddr _ | exact t_viewAt _ | exact t_numberAt _ | exact t_behindNumber _ | exact t_noView _ | exact t_byteOf _ | exact t_partAt _ _ _ | exact t_fieldPlace _ _ | exact t_askRoom _ | exact t_sliceBound _ _ _ | exact t_sliceBounds _ _ _ _ _ _ | exact t_slice _ _ _ _ _ | exact t_mapM (fun _ => t_bind (t_sizeOf _) (fun _ => t_pure _)) _ | exact t_intArith _ _ _ _ | exact t_intBits _ _ _ _ | exact t_intDiv _ _ _ _ | exact t_intCmp _ _ _ | exact t_stringOp _ _ _ | exact t_foldlM (fun _ _ => t_min2 _ _) _ _ | exact t_foldlM (fun _ _ => t_max2 _ _) _ _ | exact t_holdsCells _ _ | exact t_mayShare _ _ _ _ _ | exact t_lenOf _ | exact t_firstCells _ _ _ | exact t_append _ _ _ | exact t_len _ _ _ | exact t_min _ _ _ | exact t_max _ _ _ | exact t_unary _ _ | exact t_loadAt _ _ | exact t_storeAt _ _ _ | exact t_fieldAt _ _ _ | exact t_indexAt _ _ _ | exact t_alloc _ _ _ | exact t_box _ _ | exact t_extract _ _ | exact t_field _ _ _ | exact t_makeInterface _ _ | exact t_makeFunc _ _ _ | exact t_makeChan _ _ | exact t_makeSlice _ _ _ | exact t_sliceAt _ _ _ _ _ | exact t_build _ _ | exact t_buildSlice _ _ _ | exact t_stringish _ | exact t_mayBeOne _ _ | exact t_sameAddr _ _ | exact t_samePointer _ _ | exact t_typeStr _ | exact t_equalIn _ _ _ _ | exact t_eqGuardIn _ _ _ _ | exact t_equal _ _ _ | exact t_eqGuard _ _ _ _ _ _)
    | (with_reducible refine t_bind ?_ (fun _ => ?_))
    | (with_reducible refine t_map _ ?_)
    | (with_reducible refine t_ite ?_ ?_)
    | split
    | (intro _)
    | (dsimp only)
set_option maxHeartbeats 2000000 in
theorem t_floatArith (o : BinOp) (k : FloatKind) (x y : Nat) : T z P (Op.floatArith o k x y) := by
  unfold Op.floatArith
  repeat' first
    | (with_reducible first | exact t_pure _ | exact t_halt _ trivial | exact t_stuck _ | exact t_unsup _ | exact t_goPanic _ | exact t_getObj _ | exact t_newObj _ | exact t_shape _ | exact t_frozen _ | exact t_choose _ | exact t_program | exact t_mark _ (by simp) (by simp) (by simp) | exact t_load _ _ | exact t_store _ _ _)
    | assumption
    | (with_reducible first | exact t_typeInfo _ | exact t_underlying _ | exact t_sizeOf _ | exact t_zeroValue _ | exact t_isAgg _ | exact t_asIntOf _ | exact t_asInt _ | exact t_asBool _ | exact t_asAgg _ | exact t_elemOf _ | exact t_newRow _ _ | exact t_newVar _ _ | exact t_runtimePanic _ | exact t_boundsPanic _ _ _ _ | exact t_asAddr _ | exact t_part _ _ _ | exact t_loadCells _ _ | exact t_storeCells _ _ _ | exact t_loadVar _ _ | exact t_storeVar _ _ _ | exact t_sureAddr _ | exact t_viewAt _ | exact t_numberAt _ | exact t_behindNumber _ | exact t_noView _ | exact t_byteOf _ | exact t_partAt _ _ _ | exact t_fieldPlace _ _ | exact t_askRoom _ | exact t_sliceBound _ _ _ | exact t_sliceBounds _ _ _ _ _ _ | exact t_slice _ _ _ _ _ | exact t_mapM (fun _ => t_bind (t_sizeOf _) (fun _ => t_pure _)) _ | exact t_intArith _ _ _ _ | exact t_intBits _ _ _ _ | exact t_intDiv _ _ _ _ | exact t_intCmp _ _ _ | exact t_stringOp _ _ _ | exact t_foldlM (fun _ _ => t_min2 _ _) _ _ | exact t_foldlM (fun _ _ => t_max2 _ _) _ _ | exact t_holdsCells _ _ | exact t_mayShare _ _ _ _ _ | exact t_lenOf _ | exact t_firstCells _ _ _ | exact t_append _ _ _ | exact t_len _ _ _ | exact t_min _ _ _ | exact t_max _ _ _ | exact t_unary _ _ | exact t_loadAt _ _ | exact t_storeAt _ _ _ | exact t_fieldAt _ _ _ | exact t_indexAt _ _ _ | exact t_alloc _ _ _ | exact t_box _ _ | exact t_extract _ _ | exact t_field _ _ _ | exact t_makeInterface _ _ | exact t_makeFunc _ _ _ | exact t_makeChan _ _ | exact t_makeSlice _ _ _ | exact t_sliceAt _ _ _ _ _ | exact t_build _ _ | exact t_buildSlice _ _ _ | exact t_stringish _ | exact t_mayBeOne _ _ | exact t_sameAddr _ _ | exact t_samePointer _ _ | exact t_typeStr _ | exact t_equalIn _ _ _ _ | exact t_eqGuardIn _ _ _ _ | exact t_equal _ _ _ | exact t_eqGuard _ _ _ _ _ _ | exact t_shift _ _ _ _ _)
    | (with_reducible refine t_bind ?_ (fun _ => ?_))
    | (with_reducible refine t_map _ ?_)
    | (with_reducible refine t_ite ?_ ?_)
    | split
    | (intro _)
    | (dsimp only)
set_option maxHeartbeats 2000000 in
theorem t_floatCmp (o : BinOp) (k : FloatKind) (x y : Nat) : T z P (Op.floatCmp o k x y) := by
  unfold Op.floatCmp
  repeat' first
    | (with_reducible first | exact t_pure _ | exact t_halt _ trivial | exact t_stuck _ | exact t_unsup _ | exact t_goPanic _ | exact t_getObj _ | exact t_newObj _ | exact t_shape _ | exact t_frozen _ | exact t_choose _ | exact t_program | exact t_mark _ (by simp) (by simp) (by simp) | exact t_load _ _ | exact t_store _ _ _)
    | assumption
    | (with_reducible first | exact t_typeInfo _ | exact t_underlying _ | exact t_sizeOf _ | exact t_zeroValue _ | exact t_isAgg _ | exact t_asIntOf _ | exact t_asInt _ | exact t_asBool _ | exact t_asAgg _ | exact t_elemOf _ | exact t_newRow _ _ | exact t_newVar _ _ | exact t_runtimePanic _ | exact t_boundsPanic _ _ _ _ | exact t_asAddr _ | exact t_part _ _ _ | exact t_loadCells _ _ | exact t_storeCells _ _ _ | exact t_loadVar _ _ | exact t_storeVar _ _ _ | exact t_sureAddr _ | exact t_viewAt _ | exact t_numberAt _ | exact t_behindNumber _ | exact t_noView _ | exact t_byteOf _ | exact t_partAt _ _ _ | exact t_fieldPlace _ _ | exact t_askRoom _ | exact t_sliceBound _ _ _ | exact t_sliceBounds _ _ _ _ _ _ | exact t_slice _ _ _ _ _ | exact t_mapM (fun _ => t_bind (t_sizeOf _) (fun _ => t_pure _)) _ | exact t_intArith _ _ _ _ | exact t_intBits _ _ _ _ | exact t_intDiv _ _ _ _ | exact t_intCmp _ _ _ | exact t_stringOp _ _ _ | exact t_foldlM (fun _ _ => t_min2 _ _) _ _ | exact t_foldlM (fun _ _ => t_max2 _ _) _ _ | exact t_holdsCells _ _ | exact t_mayShare _ _ _ _ _ | exact t_lenOf _ | exact t_firstCells _ _ _ | exact t_append _ _ _ | exact t_len _ _ _ | exact t_min _ _ _ | exact t_max _ _ _ | exact t_unary _ _ | exact t_loadAt _ _ | exact t_storeAt _ _ _ | exact t_fieldAt _ _ _ | exact t_indexAt _ _ _ | exact t_alloc _ _ _ | exact t_box _ _ | exact t_extract _ _ | exact t_field _ _ _ | exact t_makeInterface _ _ | exact t_makeFunc _ _ _ | exact t_makeChan _ _ | exact t_makeSlice _ _ _ | exact t_sliceAt _ _ _ _ _ | exact t_build _ _ | exact t_buildSlice _ _ _ | exact t_stringish _ | exact t_mayBeOne _ _ | exact t_sameAddr _ _ | exact t_samePointer _ _ | exact t_typeStr _ | exact t_equalIn _ _ _ _ | exact t_eqGuardIn _ _ _ _ | exact t_equal _ _ _ | exact t_eqGuard _ _ _ _ _ _ | exact t_shift _ _ _ _ _ | exact t_floatArith _ _ _ _)
    | (with_reducible refine t_bind ?_ (fun _ => ?_))
    | (with_reducible refine t_map _ ?_)
    | (with_reducible refine t_ite ?_ ?_)
    | split
    | (intro _)
    | (dsimp only)
set_option maxHeartbeats 2000000 in
theorem t_asNumber (a : Addr) (b : Bool) : T z P (asNumber a b) := by
  unfold asNumber
  repeat' first
    | (with_reducible first | exact t_pure _ | exact t_halt _ trivial | exact t_stuck _ | exact t_unsup _ | exact t_goPanic _ | exact t_getObj _ | exact t_newObj _ | exact t_shape _ | exact t_frozen _ | exact t_choose _ | exact t_program | exact t_mark _ (by simp) (by simp) (by simp) | exact t_load _ _ | exact t_store _ _ _)
    | assumption
    | (with_reducible first | exact t_typeInfo _ | exact t_underlying _ | exact t_sizeOf _ | exact t_zeroValue _ | exact t_isAgg _ | exact t_asIntOf _ | exact t_asInt _ | exact t_asBool _ | exact t_asAgg _ | exact t_elemOf _ | exact t_newRow _ _ | exact t_newVar _ _ | exact t_runtimePanic _ | exact t_boundsPanic _ _ _ _ | exact t_asAddr _ | exact t_part _ _ _ | exact t_loadCells _ _ | exact t_storeCells _ _ _ | exact t_loadVar _ _ | exact t_storeVar _ _ _ | exact t_sureAddr _ | exact t_viewAt _ | exact t_numberAt _ | exact t_behindNumber _ | exact t_noView _ | exact t_byteOf _ | exact t_partAt _ _ _ | exact t_fieldPlace _ _ | exact t_askRoom _ | exact t_sliceBound _ _ _ | exact t_sliceBounds _ _ _ _ _ _ | exact t_slice _ _ _ _ _ | exact t_mapM (fun _ => t_bind (t_sizeOf _) (fun _ => t_pure _)) _ | exact t_intArith _ _ _ _ | exact t_intBits _ _ _ _ | exact t_intDiv _ _ _ _ | exact t_intCmp _ _ _ | exact t_stringOp _ _ _ | exact t_foldlM (fun _ _ => t_min2 _ _) _ _ | exact t_foldlM (fun _ _ => t_max2 _ _) _ _ | exact t_holdsCells _ _ | exact t_mayShare _ _ _ _ _ | exact t_lenOf _ | exact t_firstCells _ _ _ | exact t_append _ _ _ | exact t_len _ _ _ | exact t_min _ _ _ | exact t_max _ _ _ | exact t_unary _ _ | exact t_loadAt _ _ | exact t_storeAt _ _ _ | exact t_fieldAt _ _ _ | exact t_indexAt _ _ _ | exact t_alloc _ _ _ | exact t_box _ _ | exact t_extract _ _ | exact t_field _ _ _ | exact t_makeInterface _ _ | exact t_makeFunc _ _ _ | exact t_makeChan _ _ | exact t_makeSlice _ _ _ | exact t_sliceAt _ _ _ _ _ | exact t_build _ _ | exact t_buildSlice _ _ _ | exact t_stringish _ | exact t_mayBeOne _ _ | exact t_sameAddr _ _ | exact t_samePointer _ _ | exact t_typeStr _ | exact t_equalIn _ _ _ _ | exact t_eqGuardIn _ _ _ _ | exact t_equal _ _ _ | exact t_eqGuard _ _ _ _ _ _ | exact t_shift _ _ _ _ _ | exact t_floatArith _ _ _ _ | exact t_floatCmp _ _ _ _)
    | (with_reducible refine t_bind ?_ (fun _ => ?_))
    | (with_reducible refine t_map _ ?_)
    | (with_reducible refine t_ite ?_ ?_)
    | split
    | (intro _)
    | (dsimp only)
set_option maxHeartbeats 2000000 in
theorem t_f2f (s : FloatKind) (x : Nat) (d : FloatKind) : T z P (Conv.floatToFloat s x d) := by
  unfold Conv.floatToFloat
  repeat' first
    | (with_reducible first | exact t_pure _ | exact t_halt _ trivial | exact t_stuck _ | exact t_unsup _ | exact t_goPanic _ | exact t_getObj _ | exact t_newObj _ | exact t_shape _ | exact t_frozen _ | exact t_choose _ | exact t_program | exact t_mark _ (by simp) (by simp) (by simp) | exact t_load _ _ | exact t_store _ _ _)
    | assumption
    | (with_reducible first | exact t_typeInfo _ | exact t_underlying _ | exact t_sizeOf _ | exact t_zeroValue _ | exact t_isAgg _ | exact t_asIntOf _ | exact t_asInt _ | exact t_asBool _ | exact t_asAgg _ | exact t_elemOf _ | exact t_newRow _ _ | exact t_newVar _ _ | exact t_runtimePanic _ | exact t_boundsPanic _ _ _ _ | exact t_asAddr _ | exact t_part _ _ _ | exact t_loadCells _ _ | exact t_storeCells _ _ _ | exact t_loadVar _ _ | exact t_storeVar _ _ _ | exact t_sureAddr _ | exact t_viewAt _ | exact t_numberAt _ | exact t_behindNumber _ | exact t_noView _ | exact t_byteOf _ | exact t_partAt _ _ _ | exact t_fieldPlace _ _ | exact t_askRoom _ | exact t_sliceBound _ _ _ | exact t_sliceBounds _ _ _ _ _ _ | exact t_slice _ _ _ _ _ | exact t_mapM (fun _ => t_bind (t_sizeOf _) (fun _ => t_pure _)) _ | exact t_intArith _ _ _ _ | exact t_intBits _ _ _ _ | exact t_intDiv _ _ _ _ | exact t_intCmp _ _ _ | exact t_stringOp _ _ _ | exact t_foldlM (fun _ _ => t_min2 _ _) _ _ | exact t_foldlM (fun _ _ => t_max2 _ _) _ _ | exact t_holdsCells _ _ | exact t_mayShare _ _ _ _ _ | exact t_lenOf _ | exact t_firstCells _ _ _ | exact t_append _ _ _ | exact t_len _ _ _ | exact t_min _ _ _ | exact t_max _ _ _ | exact t_unary _ _ | exact t_loadAt _ _ | exact t_storeAt _ _ _ | exact t_fieldAt _ _ _ | exact t_indexAt _ _ _ | exact t_alloc _ _ _ | exact t_box _ _ | exact t_extract _ _ | exact t_field _ _ _ | exact t_makeInterface _ _ | exact t_makeFunc _ _ _ | exact t_makeChan _ _ | exact t_makeSlice _ _ _ | exact t_sliceAt _ _ _ _ _ | exact t_build _ _ | exact t_buildSlice _ _ _ | exact t_stringish _ | exact t_mayBeOne _ _ | exact t_sameAddr _ _ | exact t_samePointer _ _ | exact t_typeStr _ | exact t_equalIn _ _ _ _ | exact t_eqGuardIn _ _ _ _ | exact t_equal _ _ _ | exact t_eqGuard _ _ _ _ _ _ | exact t_shift _ _ _ _ _ | exact t_floatArith _ _ _ _ | exact t_floatCmp _ _ _ _ | exact t_asNumber _ _)
    | (with_reducible refine t_bind ?_ (fun _ => ?_))
    | (with_reducible refine t_map _ ?_)
    | (with_reducible refine t_ite ?_ ?_)
    | split
    | (intro _)
    | (dsimp only)
set_option maxHeartbeats 2000000 in
theorem t_carith (o : BinOp) (k : FloatKind) (x y : Nat) : T z P (Op.Complex.arith o k x y) := by
  unfold Op.Complex.arith
  repeat' first
    | (with_reducible first | exact t_pure _ | exact t_halt _ trivial | exact t_stuck _ | exact t_unsup _ | exact t_goPanic _ | exact t_getObj _ | exact t_newObj _ | exact t_shape _ | exact t_frozen _ | exact t_choose _ | exact t_program | exact t_mark _ (by simp) (by simp) (by simp) | exact t_load _ _ | exact t_store _ _ _)
    | assumption
    | (with_reducible first | exact t_typeInfo _ | exact t_underlying _ | exact t_sizeOf _ | exact t_zeroValue _ | exact t_isAgg _ | exact t_asIntOf _ | exact t_asInt _ | exact t_asBool _ | exact t_asAgg _ | exact t_elemOf _ | exact t_newRow _ _ | exact t_newVar _ _ | exact t_runtimePanic _ | exact t_boundsPanic _ _ _ _ | exact t_asAddr _ | exact t_part _ _ _ | exact t_loadCells _ _ | exact t_storeCells _ _ _ | exact t_loadVar _ _ | exact t_storeVar _ _ _ | exact t_sureAddr _ | exact t_viewAt _ | exact t_numberAt _ | exact t_behindNumber _ | exact t_noView _ | exact t_byteOf _ | exact t_partAt _ _ _ | exact t_fieldPlace _ _ | exact t_askRoom _ | exact t_sliceBound _ _ _ | exact t_sliceBounds _ _ _ _ _ _ | exact t_slice _ _ _ _ _ | exact t_mapM (fun _ => t_bind (t_sizeOf _) (fun _ => t_pure _)) _ | exact t_intArith _ _ _ _ | exact t_intBits _ _ _ _ | exact t_intDiv _ _ _ _ | exact t_intCmp _ _ _ | exact t_stringOp _ _ _ | exact t_foldlM (fun _ _ => t_min2 _ _) _ _ | exact t_foldlM (fun _ _ => t_max2 _ _) _ _ | exact t_holdsCells _ _ | exact t_mayShare _ _ _ _ _ | exact t_lenOf _ | exact t_firstCells _ _ _ | exact t_append _ _ _ | exact t_len _ _ _ | exact t_min _ _ _ | exact t_max _ _ _ | exact t_unary _ _ | exact t_loadAt _ _ | exact t_storeAt _ _ _ | exact t_fieldAt _ _ _ | exact t_indexAt _ _ _ | exact t_alloc _ _ _ | exact t_box _ _ | exact t_extract _ _ | exact t_field _ _ _ | exact t_makeInterface _ _ | exact t_makeFunc _ _ _ | exact t_makeChan _ _ | exact t_makeSlice _ _ _ | exact t_sliceAt _ _ _ _ _ | exact t_build _ _ | exact t_buildSlice _ _ _ | exact t_stringish _ | exact t_mayBeOne _ _ | exact t_sameAddr _ _ | exact t_samePointer _ _ | exact t_typeStr _ | exact t_equalIn _ _ _ _ | exact t_eqGuardIn _ _ _ _ | exact t_equal _ _ _ | exact t_eqGuard _ _ _ _ _ _ | exact t_shift _ _ _ _ _ | exact t_floatArith _ _ _ _ | exact t_floatCmp _ _ _ _ | exact t_asNumber _ _ | exact t_f2f _ _ _)
    | (with_reducible refine t_bind ?_ (fun _ => ?_))
    | (with_reducible refine t_map _ ?_)
    | (with_reducible refine t_ite ?_ ?_)
    | split
    | (intro _)
    | (dsimp only)
set_option maxHeartbeats 2000000 in
theorem t_ccmp (o : BinOp) (k : FloatKind) (x y : Nat) : T z P (Op.Complex.cmp o k x y) := by
  unfold Op.Complex.cmp
  repeat' first
    | (with_reducible first | exact t_pure _ | exact t_halt _ trivial | exact t_stuck _ | exact t_unsup _ | exact t_goPanic _ | exact t_getObj _ | exact t_newObj _ | exact t_shape _ | exact t_frozen _ | exact t_choose _ | exact t_program | exact t_mark _ (by simp) (by simp) (by simp) | exact t_load _ _ | exact t_store _ _ _)
    | assumption
    | (with_reducible first | exact t_typeInfo _ | exact t_underlying _ | exact t_sizeOf _ | exact t_zeroValue _ | exact t_isAgg _ | exact t_asIntOf _ | exact t_asInt _ | exact t_asBool _ | exact t_asAgg _ | exact t_elemOf _ | exact t_newRow _ _ | exact t_newVar _ _ | exact t_runtimePanic _ | exact t_boundsPanic _ _ _ _ | exact t_asAddr _ | exact t_part _ _ _ | exact t_loadCells _ _ | exact t_storeCells _ _ _ | exact t_loadVar _ _ | exact t_storeVar _ _ _ | exact t_sureAddr _ | exact t_viewAt _ | exact t_numberAt _ | exact t_behindNumber _ | exact t_noView _ | exact t_byteOf _ | exact t_partAt _ _ _ | exact t_fieldPlace _ _ | exact t_askRoom _ | exact t_sliceBound _ _ _ | exact t_sliceBounds _ _ _ _ _ _ | exact t_slice _ _ _ _ _ | exact t_mapM (fun _ => t_bind (t_sizeOf _) (fun _ => t_pure _)) _ | exact t_intArith _ _ _ _ | exact t_intBits _ _ _ _ | exact t_intDiv _ _ _ _ | exact t_intCmp _ _ _ | exact t_stringOp _ _ _ | exact t_foldlM (fun _ _ => t_min2 _ _) _ _ | exact t_foldlM (fun _ _ => t_max2 _ _) _ _ | exact t_holdsCells _ _ | exact t_mayShare _ _ _ _ _ | exact t_lenOf _ | exact t_firstCells _ _ _ | exact t_append _ _ _ | exact t_len _ _ _ | exact t_min _ _ _ | exact t_max _ _ _ | exact t_unary _ _ | exact t_loadAt _ _ | exact t_storeAt _ _ _ | exact t_fieldAt _ _ _ | exact t_indexAt _ _ _ | exact t_alloc _ _ _ | exact t_box _ _ | exact t_extract _ _ | exact t_field _ _ _ | exact t_makeInterface _ _ | exact t_makeFunc _ _ _ | exact t_makeChan _ _ | exact t_makeSlice _ _ _ | exact t_sliceAt _ _ _ _ _ | exact t_build _ _ | exact t_buildSlice _ _ _ | exact t_stringish _ | exact t_mayBeOne _ _ | exact t_sameAddr _ _ | exact t_samePointer _ _ | exact t_typeStr _ | exact t_equalIn _ _ _ _ | exact t_eqGuardIn _ _ _ _ | exact t_equal _ _ _ | exact t_eqGuard _ _ _ _ _ _ | exact t_shift _ _ _ _ _ | exact t_floatArith _ _ _ _ | exact t_floatCmp _ _ _ _ | exact t_asNumber _ _ | exact t_f2f _ _ _ | exact t_carith _ _ _ _)
    | (with_reducible refine t_bind ?_ (fun _ => ?_))
    | (with_reducible refine t_map _ ?_)
    | (with_reducible refine t_ite ?_ ?_)
    | split
    | (intro _)
    | (dsimp only)
set_option maxHeartbeats 2000000 in
theorem t_cconv (o : FloatKind) (x : Nat) (k : FloatKind) : T z P (Op.Complex.conv o x k) := by
  unfold Op.Complex.conv
  repeat' first
    | (with_reducible first | exact t_pure _ | exact t_halt _ trivial | exact t_stuck _ | exact t_unsup _ | exact t_goPanic _ | exact t_getObj _ | exact t_newObj _ | exact t_shape _ | exact t_frozen _ | exact t_choose _ | exact t_program | exact t_mark _ (by simp) (by simp) (by simp) | exact t_load _ _ | exact t_store _ _ _)
    | assumption
    | (with_reducible first | exact t_typeInfo _ | exact t_underlying _ | exact t_sizeOf _ | exact t_zeroValue _ | exact t_isAgg _ | exact t_asIntOf _ | exact t_asInt _ | exact t_asBool _ | exact t_asAgg _ | exact t_elemOf _ | exact t_newRow _ _ | exact t_newVar _ _ | exact t_runtimePanic _ | exact t_boundsPanic _ _ _ _ | exact t_asAddr _ | exact t_part _ _ _ | exact t_loadCells _ _ | exact t_storeCells _ _ _ | exact t_loadVar _ _ | exact t_storeVar _ _ _ | exact t_sureAddr _ | exact t_viewAt _ | exact t_numberAt _ | exact t_behindNumber _ | exact t_noView _ | exact t_byteOf _ | exact t_partAt _ _ _ | exact t_fieldPlace _ _ | exact t_askRoom _ | exact t_sliceBound _ _ _ | exact t_sliceBounds _ _ _ _ _ _ | exact t_slice _ _ _ _ _ | exact t_mapM (fun _ => t_bind (t_sizeOf _) (fun _ => t_pure _)) _ | exact t_intArith _ _ _ _ | exact t_intBits _ _ _ _ | exact t_intDiv _ _ _ _ | exact t_intCmp _ _ _ | exact t_stringOp _ _ _ | exact t_foldlM (fun _ _ => t_min2 _ _) _ _ | exact t_foldlM (fun _ _ => t_max2 _ _) _ _ | exact t_holdsCells _ _ | exact t_mayShare _ _ _ _ _ | exact t_lenOf _ | exact t_firstCells _ _ _ | exact t_append _ _ _ | exact t_len _ _ _ | exact t_min _ _ _ | exact t_max _ _ _ | exact t_unary _ _ | exact t_loadAt _ _ | exact t_storeAt _ _ _ | exact t_fieldAt _ _ _ | exact t_indexAt _ _ _ | exact t_alloc _ _ _ | exact t_box _ _ | exact t_extract _ _ | exact t_field _ _ _ | exact t_makeInterface _ _ | exact t_makeFunc _ _ _ | exact t_makeChan _ _ | exact t_makeSlice _ _ _ | exact t_sliceAt _ _ _ _ _ | exact t_build _ _ | exact t_buildSlice _ _ _ | exact t_stringish _ | exact t_mayBeOne _ _ | exact t_sameAddr _ _ | exact t_samePointer _ _ | exact t_typeStr _ | exact t_equalIn _ _ _ _ | exact t_eqGuardIn _ _ _ _ | exact t_equal _ _ _ | exact t_eqGuard _ _ _ _ _ _ | exact t_shift _ _ _ _ _ | exact t_floatArith _ _ _ _ | exact t_floatCmp _ _ _ _ | exact t_asNumber _ _ | exact t_f2f _ _ _ | exact t_carith _ _ _ _ | exact t_ccmp _ _ _ _)
    | (with_reducible refine t_bind ?_ (fun _ => ?_))
    | (with_reducible refine t_map _ ?_)
    | (with_reducible refine t_ite ?_ ?_)
    | split
    | (intro _)
    | (dsimp only)
set_option maxHeartbeats 2000000 in
theorem t_cadd (x y : Nat) : T z P (Op.Complex.add x y) := by
  unfold Op.Complex.add
  repeat' first
    | (with_reducible first | exact t_pure _ | exact t_halt _ trivial | exact t_stuck _ | exact t_unsup _ | exact t_goPanic _ | exact t_getObj _ | exact t_newObj _ | exact t_shape _ | exact t_frozen _ | exact t_choose _ | exact t_program | exact t_mark _ (by simp) (by simp) (by simp) | exact t_load _ _ | exact t_store _ _ _)
    | assumption
    | (with_reducible first | exact t_typeInfo _ | exact t_underlying _ | exact t_sizeOf _ | exact t_zeroValue _ | exact t_isAgg _ | exact t_asIntOf _ | exact t_asInt _ | exact t_asBool _ | exact t_asAgg _ | exact t_elemOf _ | exact t_newRow _ _ | exact t_newVar _ _ | exact t_runtimePanic _ | exact t_boundsPanic _ _ _ _ | exact t_asAddr _ | exact t_part _ _ _ | exact t_loadCells _ _ | exact t_storeCells _ _ _ | exact t_loadVar _ _ | exact t_storeVar _ _ _ | exact t_sureAddr _ | exact t_viewAt _ | exact t_numberAt _ | exact t_behindNumber _ | exact t_noView _ | exact t_byteOf _ | exact t_partAt _ _ _ | exact t_fieldPlace _ _ | exact t_askRoom _ | exact t_sliceBound _ _ _ | exact t_sliceBounds _ _ _ _ _ _ | exact t_slice _ _ _ _ _ | exact t_mapM (fun _ => t_bind (t_sizeOf _) (fun _ => t_pure _)) _ | exact t_intArith _ _ _ _ | exact t_intBits _ _ _ _ | exact t_intDiv _ _ _ _ | exact t_intCmp _ _ _ | exact t_stringOp _ _ _ | exact t_foldlM (fun _ _ => t_min2 _ _) _ _ | exact t_foldlM (fun _ _ => t_max2 _ _) _ _ | exact t_holdsCells _ _ | exact t_mayShare _ _ _ _ _ | exact t_lenOf _ | exact t_firstCells _ _ _ | exact t_append _ _ _ | exact t_len _ _ _ | exact t_min _ _ _ | exact t_max _ _ _ | exact t_unary _ _ | exact t_loadAt _ _ | exact t_storeAt _ _ _ | exact t_fieldAt _ _ _ | exact t_indexAt _ _ _ | exact t_alloc _ _ _ | exact t_box _ _ | exact t_extract _ _ | exact t_field _ _ _ | exact t_makeInterface _ _ | exact t_makeFunc _ _ _ | exact t_makeChan _ _ | exact t_makeSlice _ _ _ | exact t_sliceAt _ _ _ _ _ | exact t_build _ _ | exact t_buildSlice _ _ _ | exact t_stringish _ | exact t_mayBeOne _ _ | exact t_sameAddr _ _ | exact t_samePointer _ _ | exact t_typeStr _ | exact t_equalIn _ _ _ _ | exact t_eqGuardIn _ _ _ _ | exact t_equal _ _ _ | exact t_eqGuard _ _ _ _ _ _ | exact t_shift _ _ _ _ _ | exact t_floatArith _ _ _ _ | exact t_floatCmp _ _ _ _ | exact t_asNumber _ _ | exact t_f2f _ _ _ | exact t_carith _ _ _ _ | exact t_ccmp _ _ _ _ | exact t_cconv _ _ _)
    | (with_reducible refine t_bind ?_ (fun _ => ?_))
    | (with_reducible refine t_map _ ?_)
    | (with_reducible refine t_ite ?_ ?_)
    | split
    | (intro _)
    | (dsimp only)
set_option maxHeartbeats 2000000 in
theorem t_csub (x y : Nat) : T z P (Op.Complex.sub x y) := by
  unfold Op.Complex.sub
  repeat' first
    | (with_reducible first | exact t_pure _ | exact t_halt _ trivial | exact t_stuck _ | exact t_unsup _ | exact t_goPanic _ | exact t_getObj _ | exact t_newObj _ | exact t_shape _ | exact t_frozen _ | exact t_choose _ | exact t_program | exact t_mark _ (by simp) (by simp) (by simp) | exact t_load _ _ | exact t_store _ _ _)
    | assumption
    | (with_reducible first | exact t_typeInfo _ | exact t_underlying _ | exact t_sizeOf _ | exact t_zeroValue _ | exact t_isAgg _ | exact t_asIntOf _ | exact t_asInt _ | exact t_asBool _ | exact t_asAgg _ | exact t_elemOf _ | exact t_newRow _ _ | exact t_newVar _ _ | exact t_runtimePanic _ | exact t_boundsPanic _ _ _ _ | exact t_asAddr _ | exact t_part _ _ _ | exact t_loadCells _ _ | exact t_storeCells _ _ _ | exact t_loadVar _ _ | exact t_storeVar _ _ _ | exact t_sureAddr _ | exact t_viewAt _ | exact t_numberAt _ | exact t_behindNumber _ | exact t_noView _ | exact t_byteOf _ | exact t_partAt _ _ _ | exact t_fieldPlace _ _ | exact t_askRoom _ | exact t_sliceBound _ _ _ | exact t_sliceBounds _ _ _ _ _ _ | exact t_slice _ _ _ _ _ | exact t_mapM (fun _ => t_bind (t_sizeOf _) (fun _ => t_pure _)) _ | exact t_intArith _ _ _ _ | exact t_intBits _ _ _ _ | exact t_intDiv _ _ _ _ | exact t_intCmp _ _ _ | exact t_stringOp _ _ _ | exact t_foldlM (fun _ _ => t_min2 _ _) _ _ | exact t_foldlM (fun _ _ => t_max2 _ _) _ _ | exact t_holdsCells _ _ | exact t_mayShare _ _ _ _ _ | exact t_lenOf _ | exact t_firstCells _ _ _ | exact t_append _ _ _ | exact t_len _ _ _ | exact t_min _ _ _ | exact t_max _ _ _ | exact t_unary _ _ | exact t_loadAt _ _ | exact t_storeAt _ _ _ | exact t_fieldAt _ _ _ | exact t_indexAt _ _ _ | exact t_alloc _ _ _ | exact t_box _ _ | exact t_extract _ _ | exact t_field _ _ _ | exact t_makeInterface _ _ | exact t_makeFunc _ _ _ | exact t_makeChan _ _ | exact t_makeSlice _ _ _ | exact t_sliceAt _ _ _ _ _ | exact t_build _ _ | exact t_buildSlice _ _ _ | exact t_stringish _ | exact t_mayBeOne _ _ | exact t_sameAddr _ _ | exact t_samePointer _ _ | exact t_typeStr _ | exact t_equalIn _ _ _ _ | exact t_eqGuardIn _ _ _ _ | exact t_equal _ _ _ | exact t_eqGuard _ _ _ _ _ _ | exact t_shift _ _ _ _ _ | exact t_floatArith _ _ _ _ | exact t_floatCmp _ _ _ _ | exact t_asNumber _ _ | exact t_f2f _ _ _ | exact t_carith _ _ _ _ | exact t_ccmp _ _ _ _ | exact t_cconv _ _ _ | exact t_cadd _ _)
    | (with_reducible refine t_bind ?_ (fun _ => ?_))
    | (with_reducible refine t_map _ ?_)
    | (with_reducible refine t_ite ?_ ?_)
    | split
    | (intro _)
    | (dsimp only)
set_option maxHeartbeats 2000000 in
theorem t_cmul (x y : Nat) : T z P (Op.Complex.mul x y) := by
  unfold Op.Complex.mul
  repeat' first
    | (with_reducible first | exact t_pure _ | exact t_halt _ trivial | exact t_stuck _ | exact t_unsup _ | exact t_goPanic _ | exact t_getObj _ | exact t_newObj _ | exact t_shape _ | exact t_frozen _ | exact t_choose _ | exact t_program | exact t_mark _ (by simp) (by simp) (by simp) | exact t_load _ _ | exact t_store _ _ _)
    | assumption
    | (with_reducible first | exact t_typeInfo _ | exact t_underlying _ | exact t_sizeOf _ | exact t_zeroValue _ | exact t_isAgg _ | exact t_asIntOf _ | exact t_asInt _ | exact t_asBool _ | exact t_asAgg _ | exact t_elemOf _ | exact t_newRow _ _ | exact t_newVar _ _ | exact t_runtimePanic _ | exact t_boundsPanic _ _ _ _ | exact t_asAddr _ | exact t_part _ _ _ | exact t_loadCells _ _ | exact t_storeCells _ _ _ | exact t_loadVar _ _ | exact t_storeVar _ _ _ | exact t_sureAddr _ | exact t_viewAt _ | exact t_numberAt _ | exact t_behindNumber _ | exact t_noView _ | exact t_byteOf _ | exact t_partAt _ _ _ | exact t_fieldPlace _ _ | exact t_askRoom _ | exact t_sliceBound _ _ _ | exact t_sliceBounds _ _ _ _ _ _ | exact t_slice _ _ _ _ _ | exact t_mapM (fun _ => t_bind (t_sizeOf _) (fun _ => t_pure _)) _ | exact t_intArith _ _ _ _ | exact t_intBits _ _ _ _ | exact t_intDiv _ _ _ _ | exact t_intCmp _ _ _ | exact t_stringOp _ _ _ | exact t_foldlM (fun _ _ => t_min2 _ _) _ _ | exact t_foldlM (fun _ _ => t_max2 _ _) _ _ | exact t_holdsCells _ _ | exact t_mayShare _ _ _ _ _ | exact t_lenOf _ | exact t_firstCells _ _ _ | exact t_append _ _ _ | exact t_len _ _ _ | exact t_min _ _ _ | exact t_max _ _ _ | exact t_unary _ _ | exact t_loadAt _ _ | exact t_storeAt _ _ _ | exact t_fieldAt _ _ _ | exact t_indexAt _ _ _ | exact t_alloc _ _ _ | exact t_box _ _ | exact t_extract _ _ | exact t_field _ _ _ | exact t_makeInterface _ _ | exact t_makeFunc _ _ _ | exact t_makeChan _ _ | exact t_makeSlice _ _ _ | exact t_sliceAt _ _ _ _ _ | exact t_build _ _ | exact t_buildSlice _ _ _ | exact t_stringish _ | exact t_mayBeOne _ _ | exact t_sameAddr _ _ | exact t_samePointer _ _ | exact t_typeStr _ | exact t_equalIn _ _ _ _ | exact t_eqGuardIn _ _ _ _ | exact t_equal _ _ _ | exact t_eqGuard _ _ _ _ _ _ | exact t_shift _ _ _ _ _ | exact t_floatArith _ _ _ _ | exact t_floatCmp _ _ _ _ | exact t_asNumber _ _ | exact t_f2f _ _ _ | exact t_carith _ _ _ _ | exact t_ccmp _ _ _ _ | exact t_cconv _ _ _ | exact t_cadd _ _ | exact t_csub _ _)
    | (with_reducible refine t_bind ?_ (fun _ => ?_))
    | (with_reducible refine t_map _ ?_)
    | (with_reducible refine t_ite ?_ ?_)
    | split
    | (intro _)
    | (dsimp only)
set_option maxHeartbeats 2000000 in
theorem t_cquo (x y : Nat) : T z P (Op.Complex.quo x y) := by
  unfold Op.Complex.quo
  repeat' first
    | (with_reducible first | exact t_pure _ | exact t_halt _ trivial | exact t_stuck _ | exact t_unsup _ | exact t_goPanic _ | exact t_getObj _ | exact t_newObj _ | exact t_shape _ | exact t_frozen _ | exact t_choose _ | exact t_program | exact t_mark _ (by simp) (by simp) (by simp) | exact t_load _ _ | exact t_store _ _ _)
    | assumption
    | (with_reducible first | exact t_typeInfo _ | exact t_underlying _ | exact t_sizeOf _ | exact t_zeroValue _ | exact t_isAgg _ | exact t_asIntOf _ | exact t_asInt _ | exact t_asBool _ | exact t_asAgg _ | exact t_elemOf _ | exact t_newRow _ _ | exact t_newVar _ _ | exact t_runtimePanic _ | exact t_boundsPanic _ _ _ _ | exact t_asAddr _ | exact t_part _ _ _ | exact t_loadCells _ _ | exact t_storeCells _ _ _ | exact t_loadVar _ _ | exact t_storeVar _ _ _ | exact t_sureAddr _ | exact t_viewAt _ | exact t_numberAt _ | exact t_behindNumber _ | exact t_noView _ | exact t_byteOf _ | exact t_partAt _ _ _ | exact t_fieldPlace _ _ | exact t_askRoom _ | exact t_sliceBound _ _ _ | exact t_sliceBounds _ _ _ _ _ _ | exact t_slice _ _ _ _ _ | exact t_mapM (fun _ => t_bind (t_sizeOf _) (fun _ => t_pure _)) _ | exact t_intArith _ _ _ _ | exact t_intBits _ _ _ _ | exact t_intDiv _ _ _ _ | exact t_intCmp _ _ _ | exact t_stringOp _ _ _ | exact t_foldlM (fun _ _ => t_min2 _ _) _ _ | exact t_foldlM (fun _ _ => t_max2 _ _) _ _ | exact t_holdsCells _ _ | exact t_mayShare _ _ _ _ _ | exact t_lenOf _ | exact t_firstCells _ _ _ | exact t_append _ _ _ | exact t_len _ _ _ | exact t_min _ _ _ | exact t_max _ _ _ | exact t_unary _ _ | exact t_loadAt _ _ | exact t_storeAt _ _ _ | exact t_fieldAt _ _ _ | exact t_indexAt _ _ _ | exact t_alloc _ _ _ | exact t_box _ _ | exact t_extract _ _ | exact t_field _ _ _ | exact t_makeInterface _ _ | exact t_makeFunc _ _ _ | exact t_makeChan _ _ | exact t_makeSlice _ _ _ | exact t_sliceAt _ _ _ _ _ | exact t_build _ _ | exact t_buildSlice _ _ _ | exact t_stringish _ | exact t_mayBeOne _ _ | exact t_sameAddr _ _ | exact t_samePointer _ _ | exact t_typeStr _ | exact t_equalIn _ _ _ _ | exact t_eqGuardIn _ _ _ _ | exact t_equal _ _ _ | exact t_eqGuard _ _ _ _ _ _ | exact t_shift _ _ _ _ _ | exact t_floatArith _ _ _ _ | exact t_floatCmp _ _ _ _ | exact t_asNumber _ _ | exact t_f2f _ _ _ | exact t_carith _ _ _ _ | exact t_ccmp _ _ _ _ | exact t_cconv _ _ _ | exact t_cadd _ _ | exact t_csub _ _ | exact t_cmul _ _)
    | (with_reducible refine t_bind ?_ (fun _ => ?_))
    | (with_reducible refine t_map _ ?_)
    | (with_reducible refine t_ite ?_ ?_)
    | split
    | (intro _)
    | (dsimp only)
set_option maxHeartbeats 2000000 in
theorem t_product (a b c d : Nat) : T z P (Op.Complex.product a b c d) := by
  unfold Op.Complex.product
  repeat' first
    | (with_reducible first | exact t_pure _ | exact t_halt _ trivial | exact t_stuck _ | exact t_unsup _ | exact t_goPanic _ | exact t_getObj _ | exact t_newObj _ | exact t_shape _ | exact t_frozen _ | exact t_choose _ | exact t_program | exact t_mark _ (by simp) (by simp) (by simp) | exact t_load _ _ | exact t_store _ _ _)
    | assumption
    | (with_reducible first | exact t_typeInfo _ | exact t_underlying _ | exact t_sizeOf _ | exact t_zeroValue _ | exact t_isAgg _ | exact t_asIntOf _ | exact t_asInt _ | exact t_asBool _ | exact t_asAgg _ | exact t_elemOf _ | exact t_newRow _ _ | exact t_newVar _ _ | exact t_runtimePanic _ | exact t_boundsPanic _ _ _ _ | exact t_asAddr _ | exact t_part _ _ _ | exact t_loadCells _ _ | exact t_storeCells _ _ _ | exact t_loadVar _ _ | exact t_storeVar _ _ _ | exact t_sureAddr _ | exact t_viewAt _ | exact t_numberAt _ | exact t_behindNumber _ | exact t_noView _ | exact t_byteOf _ | exact t_partAt _ _ _ | exact t_fieldPlace _ _ | exact t_askRoom _ | exact t_sliceBound _ _ _ | exact t_sliceBounds _ _ _ _ _ _ | exact t_slice _ _ _ _ _ | exact t_mapM (fun _ => t_bind (t_sizeOf _) (fun _ => t_pure _)) _ | exact t_intArith _ _ _ _ | exact t_intBits _ _ _ _ | exact t_intDiv _ _ _ _ | exact t_intCmp _ _ _ | exact t_stringOp _ _ _ | exact t_foldlM (fun _ _ => t_min2 _ _) _ _ | exact t_foldlM (fun _ _ => t_max2 _ _) _ _ | exact t_holdsCells _ _ | exact t_mayShare _ _ _ _ _ | exact t_lenOf _ | exact t_firstCells _ _ _ | exact t_append _ _ _ | exact t_len _ _ _ | exact t_min _ _ _ | exact t_max _ _ _ | exact t_unary _ _ | exact t_loadAt _ _ | exact t_storeAt _ _ _ | exact t_fieldAt _ _ _ | exact t_indexAt _ _ _ | exact t_alloc _ _ _ | exact t_box _ _ | exact t_extract _ _ | exact t_field _ _ _ | exact t_makeInterface _ _ | exact t_makeFunc _ _ _ | exact t_makeChan _ _ | exact t_makeSlice _ _ _ | exact t_sliceAt _ _ _ _ _ | exact t_build _ _ | exact t_buildSlice _ _ _ | exact t_stringish _ | exact t_mayBeOne _ _ | exact t_sameAddr _ _ | exact t_samePointer _ _ | exact t_typeStr _ | exact t_equalIn _ _ _ _ | exact t_eqGuardIn _ _ _ _ | exact t_equal _ _ _ | exact t_eqGuard _ _ _ _ _ _ | exact t_shift _ _ _ _ _ | exact t_floatArith _ _ _ _ | exact t_floatCmp _ _ _ _ | exact t_asNumber _ _ | exact t_f2f _ _ _ | exact t_carith _ _ _ _ | exact t_ccmp _ _ _ _ | exact t_cconv _ _ _ | exact t_cadd _ _ | exact t_csub _ _ | exact t_cmul _ _ | exact t_cquo _ _)
    | (with_reducible refine t_bind ?_ (fun _ => ?_))
    | (with_reducible refine t_map _ ?_)
    | (with_reducible refine t_ite ?_ ?_)
    | split
    | (intro _)
    | (dsimp only)
set_option maxHeartbeats 2000000 in
theorem t_corrected (s a b c d : Nat) : T z P (Op.Complex.corrected s a b c d) := by
  unfold Op.Complex.corrected
  repeat' first
    | (with_reducible first | exact t_pure _ | exact t_halt _ trivial | exact t_stuck _ | exact t_unsup _ | exact t_goPanic _ | exact t_getObj _ | exact t_newObj _ | exact t_shape _ | exact t_frozen _ | exact t_choose _ | exact t_program | exact t_mark _ (by simp) (by simp) (by simp) | exact t_load _ _ | exact t_store _ _ _)
    | assumption
    | (with_reducible first | exact t_typeInfo _ | exact t_underlying _ | exact t_sizeOf _ | exact t_zeroValue _ | exact t_isAgg _ | exact t_asIntOf _ | exact t_asInt _ | exact t_asBool _ | exact t_asAgg _ | exact t_elemOf _ | exact t_newRow _ _ | exact t_newVar _ _ | exact t_runtimePanic _ | exact t_boundsPanic _ _ _ _ | exact t_asAddr _ | exact t_part _ _ _ | exact t_loadCells _ _ | exact t_storeCells _ _ _ | exact t_loadVar _ _ | exact t_storeVar _ _ _ | exact t_sureAddr _ | exact t_viewAt _ | exact t_numberAt _ | exact t_behindNumber _ | exact t_noView _ | exact t_byteOf _ | exact t_partAt _ _ _ | exact t_fieldPlace _ _ | exact t_askRoom _ | exact t_sliceBound _ _ _ | exact t_sliceBounds _ _ _ _ _ _ | exact t_slice _ _ _ _ _ | exact t_mapM (fun _ => t_bind (t_sizeOf _) (fun _ => t_pure _)) _ | exact t_intArith _ _ _ _ | exact t_intBits _ _ _ _ | exact t_intDiv _ _ _ _ | exact t_intCmp _ _ _ | exact t_stringOp _ _ _ | exact t_foldlM (fun _ _ => t_min2 _ _) _ _ | exact t_foldlM (fun _ _ => t_max2 _ _) _ _ | exact t_holdsCells _ _ | exact t_mayShare _ _ _ _ _ | exact t_lenOf _ | exact t_firstCells _ _ _ | exact t_append _ _ _ | exact t_len _ _ _ | exact t_min _ _ _ | exact t_max _ _ _ | exact t_unary _ _ | exact t_loadAt _ _ | exact t_storeAt _ _ _ | exact t_fieldAt _ _ _ | exact t_indexAt _ _ _ | exact t_alloc _ _ _ | exact t_box _ _ | exact t_extract _ _ | exact t_field _ _ _ | exact t_makeInterface _ _ | exact t_makeFunc _ _ _ | exact t_makeChan _ _ | exact t_makeSlice _ _ _ | exact t_sliceAt _ _ _ _ _ | exact t_build _ _ | exact t_buildSlice _ _ _ | exact t_stringish _ | exact t_mayBeOne _ _ | exact t_sameAddr _ _ | exact t_samePointer _ _ | exact t_typeStr _ | exact t_equalIn _ _ _ _ | exact t_eqGuardIn _ _ _ _ | exact t_equal _ _ _ | exact t_eqGuard _ _ _ _ _ _ | exact t_shift _ _ _ _ _ | exact t_floatArith _ _ _ _ | exact t_floatCmp _ _ _ _ | exact t_asNumber _ _ | exact t_f2f _ _ _ | exact t_carith _ _ _ _ | exact t_ccmp _ _ _ _ | exact t_cconv _ _ _ | exact t_cadd _ _ | exact t_csub _ _ | exact t_cmul _ _ | exact t_cquo _ _ | exact t_product _ _ _ _)
    | (with_reducible refine t_bind ?_ (fun _ => ?_))
    | (with_reducible refine t_map _ ?_)
    | (with_reducible refine t_ite ?_ ?_)
    | split
    | (intro _)
    | (dsimp only)
set_option maxHeartbeats 2000000 in
theorem t_quotient (a b c d : Nat) : T z P (Op.Complex.quotient a b c d) := by
  unfold Op.Complex.quotient
  repeat' first
    | (with_reducible first | exact t_pure _ | exact t_halt _ trivial | exact t_stuck _ | exact t_unsup _ | exact t_goPanic _ | exact t_getObj _ | exact t_newObj _ | exact t_shape _ | exact t_frozen _ | exact t_choose _ | exact t_program | exact t_mark _ (by simp) (by simp) (by simp) | exact t_load _ _ | exact t_store _ _ _)
    | assumption
    | (with_reducible first | exact t_typeInfo _ | exact t_underlying _ | exact t_sizeOf _ | exact t_zeroValue _ | exact t_isAgg _ | exact t_asIntOf _ | exact t_asInt _ | exact t_asBool _ | exact t_asAgg _ | exact t_elemOf _ | exact t_newRow _ _ | exact t_newVar _ _ | exact t_runtimePanic _ | exact t_boundsPanic _ _ _ _ | exact t_asAddr _ | exact t_part _ _ _ | exact t_loadCells _ _ | exact t_storeCells _ _ _ | exact t_loadVar _ _ | exact t_storeVar _ _ _ | exact t_sureAddr _ | exact t_viewAt _ | exact t_numberAt _ | exact t_behindNumber _ | exact t_noView _ | exact t_byteOf _ | exact t_partAt _ _ _ | exact t_fieldPlace _ _ | exact t_askRoom _ | exact t_sliceBound _ _ _ | exact t_sliceBounds _ _ _ _ _ _ | exact t_slice _ _ _ _ _ | exact t_mapM (fun _ => t_bind (t_sizeOf _) (fun _ => t_pure _)) _ | exact t_intArith _ _ _ _ | exact t_intBits _ _ _ _ | exact t_intDiv _ _ _ _ | exact t_intCmp _ _ _ | exact t_stringOp _ _ _ | exact t_foldlM (fun _ _ => t_min2 _ _) _ _ | exact t_foldlM (fun _ _ => t_max2 _ _) _ _ | exact t_holdsCells _ _ | exact t_mayShare _ _ _ _ _ | exact t_lenOf _ | exact t_firstCells _ _ _ | exact t_append _ _ _ | exact t_len _ _ _ | exact t_min _ _ _ | exact t_max _ _ _ | exact t_unary _ _ | exact t_loadAt _ _ | exact t_storeAt _ _ _ | exact t_fieldAt _ _ _ | exact t_indexAt _ _ _ | exact t_alloc _ _ _ | exact t_box _ _ | exact t_extract _ _ | exact t_field _ _ _ | exact t_makeInterface _ _ | exact t_makeFunc _ _ _ | exact t_makeChan _ _ | exact t_makeSlice _ _ _ | exact t_sliceAt _ _ _ _ _ | exact t_build _ _ | exact t_buildSlice _ _ _ | exact t_stringish _ | exact t_mayBeOne _ _ | exact t_sameAddr _ _ | exact t_samePointer _ _ | exact t_typeStr _ | exact t_equalIn _ _ _ _ | exact t_eqGuardIn _ _ _ _ | exact t_equal _ _ _ | exact t_eqGuard _ _ _ _ _ _ | exact t_shift _ _ _ _ _ | exact t_floatArith _ _ _ _ | exact t_floatCmp _ _ _ _ | exact t_asNumber _ _ | exact t_f2f _ _ _ | exact t_carith _ _ _ _ | exact t_ccmp _ _ _ _ | exact t_cconv _ _ _ | exact t_cadd _ _ | exact t_csub _ _ | exact t_cmul _ _ | exact t_cquo _ _ | exact t_product _ _ _ _ | exact t_corrected _ _ _ _ _)
    | (with_reducible refine t_bind ?_ (fun _ => ?_))
    | (with_reducible refine t_map _ ?_)
    | (with_reducible refine t_ite ?_ ?_)
    | split
    | (intro _)
    | (dsimp only)
set_option maxHeartbeats 2000000 in
theorem t_complexOp (o : BinOp) (k : FloatKind) (a b c d : Nat) : T z P (Op.complexOp o k a b c d) := by
  unfold Op.complexOp
  repeat' first
    | (with_reducible first | exact t_pure _ | exact t_halt _ trivial | exact t_stuck _ | exact t_unsup _ | exact t_goPanic _ | exact t_getObj _ | exact t_newObj _ | exact t_shape _ | exact t_frozen _ | exact t_choose _ | exact t_program | exact t_mark _ (by simp) (by simp) (by simp) | exact t_load _ _ | exact t_store _ _ _)
    | assumption
    | (with_reducible first | exact t_typeInfo _ | exact t_underlying _ | exact t_sizeOf _ | exact t_zeroValue _ | exact t_isAgg _ | exact t_asIntOf _ | exact t_asInt _ | exact t_asBool _ | exact t_asAgg _ | exact t_elemOf _ | exact t_newRow _ _ | exact t_newVar _ _ | exact t_runtimePanic _ | exact t_boundsPanic _ _ _ _ | exact t_asAddr _ | exact t_part _ _ _ | exact t_loadCells _ _ | exact t_storeCells _ _ _ | exact t_loadVar _ _ | exact t_storeVar _ _ _ | exact t_sureAddr _ | exact t_viewAt _ | exact t_numberAt _ | exact t_behindNumber _ | exact t_noView _ | exact t_byteOf _ | exact t_partAt _ _ _ | exact t_fieldPlace _ _ | exact t_askRoom _ | exact t_sliceBound _ _ _ | exact t_sliceBounds _ _ _ _ _ _ | exact t_slice _ _ _ _ _ | exact t_mapM (fun _ => t_bind (t_sizeOf _) (fun _ => t_pure _)) _ | exact t_intArith _ _ _ _ | exact t_intBits _ _ _ _ | exact t_intDiv _ _ _ _ | exact t_intCmp _ _ _ | exact t_stringOp _ _ _ | exact t_foldlM (fun _ _ => t_min2 _ _) _ _ | exact t_foldlM (fun _ _ => t_max2 _ _) _ _ | exact t_holdsCells _ _ | exact t_mayShare _ _ _ _ _ | exact t_lenOf _ | exact t_firstCells _ _ _ | exact t_append _ _ _ | exact t_len _ _ _ | exact t_min _ _ _ | exact t_max _ _ _ | exact t_unary _ _ | exact t_loadAt _ _ | exact t_storeAt _ _ _ | exact t_fieldAt _ _ _ | exact t_indexAt _ _ _ | exact t_alloc _ _ _ | exact t_box _ _ | exact t_extract _ _ | exact t_field _ _ _ | exact t_makeInterface _ _ | exact t_makeFunc _ _ _ | exact t_makeChan _ _ | exact t_makeSlice _ _ _ | exact t_sliceAt _ _ _ _ _ | exact t_build _ _ | exact t_buildSlice _ _ _ | exact t_stringish _ | exact t_mayBeOne _ _ | exact t_sameAddr _ _ | exact t_samePointer _ _ | exact t_typeStr _ | exact t_equalIn _ _ _ _ | exact t_eqGuardIn _ _ _ _ | exact t_equal _ _ _ | exact t_eqGuard _ _ _ _ _ _ | exact t_shift _ _ _ _ _ | exact t_floatArith _ _ _ _ | exact t_floatCmp _ _ _ _ | exact t_asNumber _ _ | exact t_f2f _ _ _ | exact t_carith _ _ _ _ | exact t_ccmp _ _ _ _ | exact t_cconv _ _ _ | exact t_cadd _ _ | exact t_csub _ _ | exact t_cmul _ _ | exact t_cquo _ _ | exact t_product _ _ _ _ | exact t_corrected _ _ _ _ _ | exact t_quotient _ _ _ _)
    | (with_reducible refine t_bind ?_ (fun _ => ?_))
    | (with_reducible refine t_map _ ?_)
    | (with_reducible refine t_ite ?_ ?_)
    | split
    | (intro _)
    | (dsimp only)
set_option maxHeartbeats 2000000 in
theorem t_twoPlaces (a b : Addr) : T z P (Op.twoPlaces a b) := by
  unfold Op.twoPlaces
  repeat' first
    | (with_reducible first | exact t_pure _ | exact t_halt _ trivial | exact t_stuck _ | exact t_unsup _ | exact t_goPanic _ | exact t_getObj _ | exact t_newObj _ | exact t_shape _ | exact t_frozen _ | exact t_choose _ | exact t_program | exact t_mark _ (by simp) (by simp) (by simp) | exact t_load _ _ | exact t_store _ _ _)
    | assumption
    | (with_reducible first | exact t_typeInfo _ | exact t_underlying _ | exact t_sizeOf _ | exact t_zeroValue _ | exact t_isAgg _ | exact t_asIntOf _ | exact t_asInt _ | exact t_asBool _ | exact t_asAgg _ | exact t_elemOf _ | exact t_newRow _ _ | exact t_newVar _ _ | exact t_runtimePanic _ | exact t_boundsPanic _ _ _ _ | exact t_asAddr _ | exact t_part _ _ _ | exact t_loadCells _ _ | exact t_storeCells _ _ _ | exact t_loadVar _ _ | exact t_storeVar _ _ _ | exact t_sureAddr _ | exact t_viewAt _ | exact t_numberAt _ | exact t_behindNumber _ | exact t_noView _ | exact t_byteOf _ | exact t_partAt _ _ _ | exact t_fieldPlace _ _ | exact t_askRoom _ | exact t_sliceBound _ _ _ | exact t_sliceBounds _ _ _ _ _ _ | exact t_slice _ _ _ _ _ | exact t_mapM (fun _ => t_bind (t_sizeOf _) (fun _ => t_pure _)) _ | exact t_intArith _ _ _ _ | exact t_intBits _ _ _ _ | exact t_intDiv _ _ _ _ | exact t_intCmp _ _ _ | exact t_stringOp _ _ _ | exact t_foldlM (fun _ _ => t_min2 _ _) _ _ | exact t_foldlM (fun _ _ => t_max2 _ _) _ _ | exact t_holdsCells _ _ | exact t_mayShare _ _ _ _ _ | exact t_lenOf _ | exact t_firstCells _ _ _ | exact t_append _ _ _ | exact t_len _ _ _ | exact t_min _ _ _ | exact t_max _ _ _ | exact t_unary _ _ | exact t_loadAt _ _ | exact t_storeAt _ _ _ | exact t_fieldAt _ _ _ | exact t_indexAt _ _ _ | exact t_alloc _ _ _ | exact t_box _ _ | exact t_extract _ _ | exact t_field _ _ _ | exact t_makeInterface _ _ | exact t_makeFunc _ _ _ | exact t_makeChan _ _ | exact t_makeSlice _ _ _ | exact t_sliceAt _ _ _ _ _ | exact t_build _ _ | exact t_buildSlice _ _ _ | exact t_stringish _ | exact t_mayBeOne _ _ | exact t_sameAddr _ _ | exact t_samePointer _ _ | exact t_typeStr _ | exact t_equalIn _ _ _ _ | exact t_eqGuardIn _ _ _ _ | exact t_equal _ _ _ | exact t_eqGuard _ _ _ _ _ _ | exact t_shift _ _ _ _ _ | exact t_floatArith _ _ _ _ | exact t_floatCmp _ _ _ _ | exact t_asNumber _ _ | exact t_f2f _ _ _ | exact t_carith _ _ _ _ | exact t_ccmp _ _ _ _ | exact t_cconv _ _ _ | exact t_cadd _ _ | exact t_csub _ _ | exact t_cmul _ _ | exact t_cquo _ _ | exact t_product _ _ _ _ | exact t_corrected _ _ _ _ _ | exact t_quotient _ _ _ _ | exact t_complexOp _ _ _ _ _ _)
    | (with_reducible refine t_bind ?_ (fun _ => ?_))
    | (with_reducible refine t_map _ ?_)
    | (with_reducible refine t_ite ?_ ?_)
    | split
    | (intro _)
    | (dsimp only)
set_option maxHeartbeats 2000000 in
theorem t_addrSub (k : IntKind) (a b : Addr) : T z P (Op.addrSub k a b) := by
  unfold Op.addrSub
  repeat' first
    | (with_reducible first | exact t_pure _ | exact t_halt _ trivial | exact t_stuck _ | exact t_unsup _ | exact t_goPanic _ | exact t_getObj _ | exact t_newObj _ | exact t_shape _ | exact t_frozen _ | exact t_choose _ | exact t_program | exact t_mark _ (by simp) (by simp) (by simp) | exact t_load _ _ | exact t_store _ _ _)
    | assumption
    | (with_reducible first | exact t_typeInfo _ | exact t_underlying _ | exact t_sizeOf _ | exact t_zeroValue _ | exact t_isAgg _ | exact t_asIntOf _ | exact t_asInt _ | exact t_asBool _ | exact t_asAgg _ | exact t_elemOf _ | exact t_newRow _ _ | exact t_newVar _ _ | exact t_runtimePanic _ | exact t_boundsPanic _ _ _ _ | exact t_asAddr _ | exact t_part _ _ _ | exact t_loadCells _ _ | exact t_storeCells _ _ _ | exact t_loadVar _ _ | exact t_storeVar _ _ _ | exact t_sureAddr _ | exact t_viewAt _ | exact t_numberAt _ | exact t_behindNumber _ | exact t_noView _ | exact t_byteOf _ | exact t_partAt _ _ _ | exact t_fieldPlace _ _ | exact t_askRoom _ | exact t_sliceBound _ _ _ | exact t_sliceBounds _ _ _ _ _ _ | exact t_slice _ _ _ _ _ | exact t_mapM (fun _ => t_bind (t_sizeOf _) (fun _ => t_pure _)) _ | exact t_intArith _ _ _ _ | exact t_intBits _ _ _ _ | exact t_intDiv _ _ _ _ | exact t_intCmp _ _ _ | exact t_stringOp _ _ _ | exact t_foldlM (fun _ _ => t_min2 _ _) _ _ | exact t_foldlM (fun _ _ => t_max2 _ _) _ _ | exact t_holdsCells _ _ | exact t_mayShare _ _ _ _ _ | exact t_lenOf _ | exact t_firstCells _ _ _ | exact t_append _ _ _ | exact t_len _ _ _ | exact t_min _ _ _ | exact t_max _ _ _ | exact t_unary _ _ | exact t_loadAt _ _ | exact t_storeAt _ _ _ | exact t_fieldAt _ _ _ | exact t_indexAt _ _ _ | exact t_alloc _ _ _ | exact t_box _ _ | exact t_extract _ _ | exact t_field _ _ _ | exact t_makeInterface _ _ | exact t_makeFunc _ _ _ | exact t_makeChan _ _ | exact t_makeSlice _ _ _ | exact t_sliceAt _ _ _ _ _ | exact t_build _ _ | exact t_buildSlice _ _ _ | exact t_stringish _ | exact t_mayBeOne _ _ | exact t_sameAddr _ _ | exact t_samePointer _ _ | exact t_typeStr _ | exact t_equalIn _ _ _ _ | exact t_eqGuardIn _ _ _ _ | exact t_equal _ _ _ | exact t_eqGuard _ _ _ _ _ _ | exact t_shift _ _ _ _ _ | exact t_floatArith _ _ _ _ | exact t_floatCmp _ _ _ _ | exact t_asNumber _ _ | exact t_f2f _ _ _ | exact t_carith _ _ _ _ | exact t_ccmp _ _ _ _ | exact t_cconv _ _ _ | exact t_cadd _ _ | exact t_csub _ _ | exact t_cmul _ _ | exact t_cquo _ _ | exact t_product _ _ _ _ | exact t_corrected _ _ _ _ _ | exact t_quotient _ _ _ _ | exact t_complexOp _ _ _ _ _ _ | exact t_twoPlaces _ _)
    | (with_reducible refine t_bind ?_ (fun _ => ?_))
    | (with_reducible refine t_map _ ?_)
    | (with_reducible refine t_ite ?_ ?_)
    | split
    | (intro _)
    | (dsimp only)
set_option maxHeartbeats 2000000 in
theorem t_addrCmp (k : BinOp) (a b : Addr) : T z P (Op.addrCmp k a b) := by
  unfold Op.addrCmp
  repeat' first
    | (with_reducible first | exact t_pure _ | exact t_halt _ trivial | exact t_stuck _ | exact t_unsup _ | exact t_goPanic _ | exact t_getObj _ | exact t_newObj _ | exact t_shape _ | exact t_frozen _ | exact t_choose _ | exact t_program | exact t_mark _ (by simp) (by simp) (by simp) | exact t_load _ _ | exact t_store _ _ _)
    | assumption
    | (with_reducible first | exact t_typeInfo _ | exact t_underlying _ | exact t_sizeOf _ | exact t_zeroValue _ | exact t_isAgg _ | exact t_asIntOf _ | exact t_asInt _ | exact t_asBool _ | exact t_asAgg _ | exact t_elemOf _ | exact t_newRow _ _ | exact t_newVar _ _ | exact t_runtimePanic _ | exact t_boundsPanic _ _ _ _ | exact t_asAddr _ | exact t_part _ _ _ | exact t_loadCells _ _ | exact t_storeCells _ _ _ | exact t_loadVar _ _ | exact t_storeVar _ _ _ | exact t_sureAddr _ | exact t_viewAt _ | exact t_numberAt _ | exact t_behindNumber _ | exact t_noView _ | exact t_byteOf _ | exact t_partAt _ _ _ | exact t_fieldPlace _ _ | exact t_askRoom _ | exact t_sliceBound _ _ _ | exact t_sliceBounds _ _ _ _ _ _ | exact t_slice _ _ _ _ _ | exact t_mapM (fun _ => t_bind (t_sizeOf _) (fun _ => t_pure _)) _ | exact t_intArith _ _ _ _ | exact t_intBits _ _ _ _ | exact t_intDiv _ _ _ _ | exact t_intCmp _ _ _ | exact t_stringOp _ _ _ | exact t_foldlM (fun _ _ => t_min2 _ _) _ _ | exact t_foldlM (fun _ _ => t_max2 _ _) _ _ | exact t_holdsCells _ _ | exact t_mayShare _ _ _ _ _ | exact t_lenOf _ | exact t_firstCells _ _ _ | exact t_append _ _ _ | exact t_len _ _ _ | exact t_min _ _ _ | exact t_max _ _ _ | exact t_unary _ _ | exact t_loadAt _ _ | exact t_storeAt _ _ _ | exact t_fieldAt _ _ _ | exact t_indexAt _ _ _ | exact t_alloc _ _ _ | exact t_box _ _ | exact t_extract _ _ | exact t_field _ _ _ | exact t_makeInterface _ _ | exact t_makeFunc _ _ _ | exact t_makeChan _ _ | exact t_makeSlice _ _ _ | exact t_sliceAt _ _ _ _ _ | exact t_build _ _ | exact t_buildSlice _ _ _ | exact t_stringish _ | exact t_mayBeOne _ _ | exact t_sameAddr _ _ | exact t_samePointer _ _ | exact t_typeStr _ | exact t_equalIn _ _ _ _ | exact t_eqGuardIn _ _ _ _ | exact t_equal _ _ _ | exact t_eqGuard _ _ _ _ _ _ | exact t_shift _ _ _ _ _ | exact t_floatArith _ _ _ _ | exact t_floatCmp _ _ _ _ | exact t_asNumber _ _ | exact t_f2f _ _ _ | exact t_carith _ _ _ _ | exact t_ccmp _ _ _ _ | exact t_cconv _ _ _ | exact t_cadd _ _ | exact t_csub _ _ | exact t_cmul _ _ | exact t_cquo _ _ | exact t_product _ _ _ _ | exact t_corrected _ _ _ _ _ | exact t_quotient _ _ _ _ | exact t_complexOp _ _ _ _ _ _ | exact t_twoPlaces _ _ | exact t_addrSub _ _ _)
    | (with_reducible refine t_bind ?_ (fun _ => ?_))
    | (with_reducible refine t_map _ ?_)
    | (with_reducible refine t_ite ?_ ?_)
    | split
    | (intro _)
    | (dsimp only)
set_option maxHeartbeats 2000000 in
theorem t_addrMod (k : IntKind) (a : Addr) (n : Int) : T z P (Op.addrMod k a n) := by
  unfold Op.addrMod
  repeat' first
    | (with_reducible first | exact t_pure _ | exact t_halt _ trivial | exact t_stuck _ | exact t_unsup _ | exact t_goPanic _ | exact t_getObj _ | exact t_newObj _ | exact t_shape _ | exact t_frozen _ | exact t_choose _ | exact t_program | exact t_mark _ (by simp) (by simp) (by simp) | exact t_load _ _ | exact t_store _ _ _)
    | assumption
    | (with_reducible first | exact t_typeInfo _ | exact t_underlying _ | exact t_sizeOf _ | exact t_zeroValue _ | exact t_isAgg _ | exact t_asIntOf _ | exact t_asInt _ | exact t_asBool _ | exact t_asAgg _ | exact t_elemOf _ | exact t_newRow _ _ | exact t_newVar _ _ | exact t_runtimePanic _ | exact t_boundsPanic _ _ _ _ | exact t_asAddr _ | exact t_part _ _ _ | exact t_loadCells _ _ | exact t_storeCells _ _ _ | exact t_loadVar _ _ | exact t_storeVar _ _ _ | exact t_sureAddr _ | exact t_viewAt _ | exact t_numberAt _ | exact t_behindNumber _ | exact t_noView _ | exact t_byteOf _ | exact t_partAt _ _ _ | exact t_fieldPlace _ _ | exact t_askRoom _ | exact t_sliceBound _ _ _ | exact t_sliceBounds _ _ _ _ _ _ | exact t_slice _ _ _ _ _ | exact t_mapM (fun _ => t_bind (t_sizeOf _) (fun _ => t_pure _)) _ | exact t_intArith _ _ _ _ | exact t_intBits _ _ _ _ | exact t_intDiv _ _ _ _ | exact t_intCmp _ _ _ | exact t_stringOp _ _ _ | exact t_foldlM (fun _ _ => t_min2 _ _) _ _ | exact t_foldlM (fun _ _ => t_max2 _ _) _ _ | exact t_holdsCells _ _ | exact t_mayShare _ _ _ _ _ | exact t_lenOf _ | exact t_firstCells _ _ _ | exact t_append _ _ _ | exact t_len _ _ _ | exact t_min _ _ _ | exact t_max _ _ _ | exact t_unary _ _ | exact t_loadAt _ _ | exact t_storeAt _ _ _ | exact t_fieldAt _ _ _ | exact t_indexAt _ _ _ | exact t_alloc _ _ _ | exact t_box _ _ | exact t_extract _ _ | exact t_field _ _ _ | exact t_makeInterface _ _ | exact t_makeFunc _ _ _ | exact t_makeChan _ _ | exact t_makeSlice _ _ _ | exact t_sliceAt _ _ _ _ _ | exact t_build _ _ | exact t_buildSlice _ _ _ | exact t_stringish _ | exact t_mayBeOne _ _ | exact t_sameAddr _ _ | exact t_samePointer _ _ | exact t_typeStr _ | exact t_equalIn _ _ _ _ | exact t_eqGuardIn _ _ _ _ | exact t_equal _ _ _ | exact t_eqGuard _ _ _ _ _ _ | exact t_shift _ _ _ _ _ | exact t_floatArith _ _ _ _ | exact t_floatCmp _ _ _ _ | exact t_asNumber _ _ | exact t_f2f _ _ _ | exact t_carith _ _ _ _ | exact t_ccmp _ _ _ _ | exact t_cconv _ _ _ | exact t_cadd _ _ | exact t_csub _ _ | exact t_cmul _ _ | exact t_cquo _ _ | exact t_product _ _ _ _ | exact t_corrected _ _ _ _ _ | exact t_quotient _ _ _ _ | exact t_complexOp _ _ _ _ _ _ | exact t_twoPlaces _ _ | exact t_addrSub _ _ _ | exact t_addrCmp _ _ _)
    | (with_reducible refine t_bind ?_ (fun _ => ?_))
    | (with_reducible refine t_map _ ?_)
    | (with_reducible refine t_ite ?_ ?_)
    | split
    | (intro _)
    | (dsimp only)
set_option maxHeartbeats 2000000 in
theorem t_unsafeAdd (a : Array TypeId) (t : TypeId) (x : Array Value) : T z P (Builtin.unsafeAdd_ a t x) := by
  unfold Builtin.unsafeAdd_
  obtain ⟨l⟩ := x
  rcases l with _ | ⟨v, _ | ⟨u, _ | ⟨c, r⟩⟩⟩ <;> first | exact t_stuck _ | skip
  cases v <;> first | exact t_stuck _ | skip
  refine t_bind (t_asInt u) (fun n => ?_)
  repeat' first
    | (with_reducible first | exact t_pure _ | exact t_halt _ trivial | exact t_stuck _ | exact t_unsup _ | exact t_goPanic _ | exact t_getObj _ | exact t_newObj _ | exact t_shape _ | exact t_frozen _ | exact t_choose _ | exact t_program | exact t_mark _ (by simp) (by simp) (by simp) | exact t_load _ _ | exact t_store _ _ _)
    | assumption
    | (with_reducible first | exact t_typeInfo _ | exact t_underlying _ | exact t_sizeOf _ | exact t_zeroValue _ | exact t_isAgg _ | exact t_asIntOf _ | exact t_asInt _ | exact t_asBool _ | exact t_asAgg _ | exact t_elemOf _ | exact t_newRow _ _ | exact t_newVar _ _ | exact t_runtimePanic _ | exact t_boundsPanic _ _ _ _ | exact t_asAddr _ | exact t_part _ _ _ | exact t_loadCells _ _ | exact t_storeCells _ _ _ | exact t_loadVar _ _ | exact t_storeVar _ _ _ | exact t_sureAddr _ | exact t_viewAt _ | exact t_numberAt _ | exact t_behindNumber _ | exact t_noView _ | exact t_byteOf _ | exact t_partAt _ _ _ | exact t_fieldPlace _ _ | exact t_askRoom _ | exact t_sliceBound _ _ _ | exact t_sliceBounds _ _ _ _ _ _ | exact t_slice _ _ _ _ _ | exact t_mapM (fun _ => t_bind (t_sizeOf _) (fun _ => t_pure _)) _ | exact t_intArith _ _ _ _ | exact t_intBits _ _ _ _ | exact t_intDiv _ _ _ _ | exact t_intCmp _ _ _ | exact t_stringOp _ _ _ | exact t_foldlM (fun _ _ => t_min2 _ _) _ _ | exact t_foldlM (fun _ _ => t_max2 _ _) _ _ | exact t_holdsCells _ _ | exact t_mayShare _ _ _ _ _ | exact t_lenOf _ | exact t_firstCells _ _ _ | exact t_append _ _ _ | exact t_len _ _ _ | exact t_min _ _ _ | exact t_max _ _ _ | exact t_unary _ _ | exact t_loadAt _ _ | exact t_storeAt _ _ _ | exact t_fieldAt _ _ _ | exact t_indexAt _ _ _ | exact t_alloc _ _ _ | exact t_box _ _ | exact t_extract _ _ | exact t_field _ _ _ | exact t_makeInterface _ _ | exact t_makeFunc _ _ _ | exact t_makeChan _ _ | exact t_makeSlice _ _ _ | exact t_sliceAt _ _ _ _ _ | exact t_build _ _ | exact t_buildSlice _ _ _ | exact t_stringish _ | exact t_mayBeOne _ _ | exact t_sameAddr _ _ | exact t_samePointer _ _ | exact t_typeStr _ | exact t_equalIn _ _ _ _ | exact t_eqGuardIn _ _ _ _ | exact t_equal _ _ _ | exact t_eqGuard _ _ _ _ _ _ | exact t_shift _ _ _ _ _ | exact t_floatArith _ _ _ _ | exact t_floatCmp _ _ _ _ | exact t_asNumber _ _ | exact t_f2f _ _ _ | exact t_carith _ _ _ _ | exact t_ccmp _ _ _ _ | exact t_cconv _ _ _ | exact t_cadd _ _ | exact t_csub _ _ | exact t_cmul _ _ | exact t_cquo _ _ | exact t_product _ _ _ _ | exact t_corrected _ _ _ _ _ | exact t_quotient _ _ _ _ | exact t_complexOp _ _ _ _ _ _ | exact t_twoPlaces _ _ | exact t_addrSub _ _ _ | exact t_addrCmp _ _ _ | exact t_addrMod _ _ _)
    | (with_reducible refine t_bind ?_ (fun _ => ?_))
    | (with_reducible refine t_map _ ?_)
    | (with_reducible refine t_ite ?_ ?_)
    | split
    | (intro _)
    | (dsimp only)
set_option maxHeartbeats 2000000 in
theorem t_movedNumber (t : TypeId) (x y : Value) : T z P (movedNumber t x y) := by
  unfold movedNumber
  repeat' first
    | (with_reducible first | exact t_pure _ | exact t_halt _ trivial | exact t_stuck _ | exact t_unsup _ | exact t_goPanic _ | exact t_getObj _ | exact t_newObj _ | exact t_shape _ | exact t_frozen _ | exact t_choose _ | exact t_program | exact t_mark _ (by simp) (by simp) (by simp) | exact t_load _ _ | exact t_store _ _ _)
    | assumption
    | (with_reducible first | exact t_typeInfo _ | exact t_underlying _ | exact t_sizeOf _ | exact t_zeroValue _ | exact t_isAgg _ | exact t_asIntOf _ | exact t_asInt _ | exact t_asBool _ | exact t_asAgg _ | exact t_elemOf _ | exact t_newRow _ _ | exact t_newVar _ _ | exact t_runtimePanic _ | exact t_boundsPanic _ _ _ _ | exact t_asAddr _ | exact t_part _ _ _ | exact t_loadCells _ _ | exact t_storeCells _ _ _ | exact t_loadVar _ _ | exact t_storeVar _ _ _ | exact t_sureAddr _ | exact t_viewAt _ | exact t_numberAt _ | exact t_behindNumber _ | exact t_noView _ | exact t_byteOf _ | exact t_partAt _ _ _ | exact t_fieldPlace _ _ | exact t_askRoom _ | exact t_sliceBound _ _ _ | exact t_sliceBounds _ _ _ _ _ _ | exact t_slice _ _ _ _ _ | exact t_mapM (fun _ => t_bind (t_sizeOf _) (fun _ => t_pure _)) _ | exact t_intArith _ _ _ _ | exact t_intBits _ _ _ _ | exact t_intDiv _ _ _ _ | exact t_intCmp _ _ _ | exact t_stringOp _ _ _ | exact t_foldlM (fun _ _ => t_min2 _ _) _ _ | exact t_foldlM (fun _ _ => t_max2 _ _) _ _ | exact t_holdsCells _ _ | exact t_mayShare _ _ _ _ _ | exact t_lenOf _ | exact t_firstCells _ _ _ | exact t_append _ _ _ | exact t_len _ _ _ | exact t_min _ _ _ | exact t_max _ _ _ | exact t_unary _ _ | exact t_loadAt _ _ | exact t_storeAt _ _ _ | exact t_fieldAt _ _ _ | exact t_indexAt _ _ _ | exact t_alloc _ _ _ | exact t_box _ _ | exact t_extract _ _ | exact t_field _ _ _ | exact t_makeInterface _ _ | exact t_makeFunc _ _ _ | exact t_makeChan _ _ | exact t_makeSlice _ _ _ | exact t_sliceAt _ _ _ _ _ | exact t_build _ _ | exact t_buildSlice _ _ _ | exact t_stringish _ | exact t_mayBeOne _ _ | exact t_sameAddr _ _ | exact t_samePointer _ _ | exact t_typeStr _ | exact t_equalIn _ _ _ _ | exact t_eqGuardIn _ _ _ _ | exact t_equal _ _ _ | exact t_eqGuard _ _ _ _ _ _ | exact t_shift _ _ _ _ _ | exact t_floatArith _ _ _ _ | exact t_floatCmp _ _ _ _ | exact t_asNumber _ _ | exact t_f2f _ _ _ | exact t_carith _ _ _ _ | exact t_ccmp _ _ _ _ | exact t_cconv _ _ _ | exact t_cadd _ _ | exact t_csub _ _ | exact t_cmul _ _ | exact t_cquo _ _ | exact t_product _ _ _ _ | exact t_corrected _ _ _ _ _ | exact t_quotient _ _ _ _ | exact t_complexOp _ _ _ _ _ _ | exact t_twoPlaces _ _ | exact t_addrSub _ _ _ | exact t_addrCmp _ _ _ | exact t_addrMod _ _ _ | exact t_unsafeAdd _ _ _)
    | (with_reducible refine t_bind ?_ (fun _ => ?_))
    | (with_reducible refine t_map _ ?_)
    | (with_reducible refine t_ite ?_ ?_)
    | split
    | (intro _)
    | (dsimp only)
set_option maxHeartbeats 2000000 in
theorem t_movedPointer (t : TypeId) (x y : Value) : T z P (movedPointer t x y) := by
  unfold movedPointer
  repeat' first
    | (with_reducible first | exact t_pure _ | exact t_halt _ trivial | exact t_stuck _ | exact t_unsup _ | exact t_goPanic _ | exact t_getObj _ | exact t_newObj _ | exact t_shape _ | exact t_frozen _ | exact t_choose _ | exact t_program | exact t_mark _ (by simp) (by simp) (by simp) | exact t_load _ _ | exact t_store _ _ _)
    | assumption
    | (with_reducible first | exact t_typeInfo _ | exact t_underlying _ | exact t_sizeOf _ | exact t_zeroValue _ | exact t_isAgg _ | exact t_asIntOf _ | exact t_asInt _ | exact t_asBool _ | exact t_asAgg _ | exact t_elemOf _ | exact t_newRow _ _ | exact t_newVar _ _ | exact t_runtimePanic _ | exact t_boundsPanic _ _ _ _ | exact t_asAddr _ | exact t_part _ _ _ | exact t_loadCells _ _ | exact t_storeCells _ _ _ | exact t_loadVar _ _ | exact t_storeVar _ _ _ | exact t_sureAddr _ | exact t_viewAt _ | exact t_numberAt _ | exact t_behindNumber _ | exact t_noView _ | exact t_byteOf _ | exact t_partAt _ _ _ | exact t_fieldPlace _ _ | exact t_askRoom _ | exact t_sliceBound _ _ _ | exact t_sliceBounds _ _ _ _ _ _ | exact t_slice _ _ _ _ _ | exact t_mapM (fun _ => t_bind (t_sizeOf _) (fun _ => t_pure _)) _ | exact t_intArith _ _ _ _ | exact t_intBits _ _ _ _ | exact t_intDiv _ _ _ _ | exact t_intCmp _ _ _ | exact t_stringOp _ _ _ | exact t_foldlM (fun _ _ => t_min2 _ _) _ _ | exact t_foldlM (fun _ _ => t_max2 _ _) _ _ | exact t_holdsCells _ _ | exact t_mayShare _ _ _ _ _ | exact t_lenOf _ | exact t_firstCells _ _ _ | exact t_append _ _ _ | exact t_len _ _ _ | exact t_min _ _ _ | exact t_max _ _ _ | exact t_unary _ _ | exact t_loadAt _ _ | exact t_storeAt _ _ _ | exact t_fieldAt _ _ _ | exact t_indexAt _ _ _ | exact t_alloc _ _ _ | exact t_box _ _ | exact t_extract _ _ | exact t_field _ _ _ | exact t_makeInterface _ _ | exact t_makeFunc _ _ _ | exact t_makeChan _ _ | exact t_makeSlice _ _ _ | exact t_sliceAt _ _ _ _ _ | exact t_build _ _ | exact t_buildSlice _ _ _ | exact t_stringish _ | exact t_mayBeOne _ _ | exact t_sameAddr _ _ | exact t_samePointer _ _ | exact t_typeStr _ | exact t_equalIn _ _ _ _ | exact t_eqGuardIn _ _ _ _ | exact t_equal _ _ _ | exact t_eqGuard _ _ _ _ _ _ | exact t_shift _ _ _ _ _ | exact t_floatArith _ _ _ _ | exact t_floatCmp _ _ _ _ | exact t_asNumber _ _ | exact t_f2f _ _ _ | exact t_carith _ _ _ _ | exact t_ccmp _ _ _ _ | exact t_cconv _ _ _ | exact t_cadd _ _ | exact t_csub _ _ | exact t_cmul _ _ | exact t_cquo _ _ | exact t_product _ _ _ _ | exact t_corrected _ _ _ _ _ | exact t_quotient _ _ _ _ | exact t_complexOp _ _ _ _ _ _ | exact t_twoPlaces _ _ | exact t_addrSub _ _ _ | exact t_addrCmp _ _ _ | exact t_addrMod _ _ _ | exact t_unsafeAdd _ _ _ | exact t_movedNumber _ _ _)
    | (with_reducible refine t_bind ?_ (fun _ => ?_))
    | (with_reducible refine t_map _ ?_)
    | (with_reducible refine t_ite ?_ ?_)
    | split
    | (intro _)
    | (dsimp only)
set_option maxHeartbeats 2000000 in
theorem t_binOp (o : BinOp) (t : TypeId) (x y : Value) : T false P (binOp o t x y) := by
  unfold binOp
  repeat' first
    | (with_reducible first | exact t_pure _ | exact t_halt _ trivial | exact t_stuck _ | exact t_unsup _ | exact t_goPanic _ | exact t_getObj _ | exact t_newObj _ | exact t_shape _ | exact t_frozen _ | exact t_choose _ | exact t_program | exact t_mark _ (by simp) (by simp) (by simp) | exact t_load _ _ | exact t_store _ _ _)
    | assumption
    | (with_reducible first | exact t_typeInfo _ | exact t_underlying _ | exact t_sizeOf _ | exact t_zeroValue _ | exact t_isAgg _ | exact t_asIntOf _ | exact t_asInt _ | exact t_asBool _ | exact t_asAgg _ | exact t_elemOf _ | exact t_newRow _ _ | exact t_newVar _ _ | exact t_runtimePanic _ | exact t_boundsPanic _ _ _ _ | exact t_asAddr _ | exact t_part _ _ _ | exact t_loadCells _ _ | exact t_storeCells _ _ _ | exact t_loadVar _ _ | exact t_storeVar _ _ _ | exact t_sureAddr _ | exact t_viewAt _ | exact t_numberAt _ | exact t_behindNumber _ | exact t_noView _ | exact t_byteOf _ | exact t_partAt _ _ _ | exact t_fieldPlace _ _ | exact t_askRoom _ | exact t_sliceBound _ _ _ | exact t_sliceBounds _ _ _ _ _ _ | exact t_slice _ _ _ _ _ | exact t_mapM (fun _ => t_bind (t_sizeOf _) (fun _ => t_pure _)) _ | exact t_intArith _ _ _ _ | exact t_intBits _ _ _ _ | exact t_intDiv _ _ _ _ | exact t_intCmp _ _ _ | exact t_stringOp _ _ _ | exact t_foldlM (fun _ _ => t_min2 _ _) _ _ | exact t_foldlM (fun _ _ => t_max2 _ _) _ _ | exact t_holdsCells _ _ | exact t_mayShare _ _ _ _ _ | exact t_lenOf _ | exact t_firstCells _ _ _ | exact t_append _ _ _ | exact t_len _ _ _ | exact t_min _ _ _ | exact t_max _ _ _ | exact t_unary _ _ | exact t_loadAt _ _ | exact t_storeAt _ _ _ | exact t_fieldAt _ _ _ | exact t_indexAt _ _ _ | exact t_alloc _ _ _ | exact t_box _ _ | exact t_extract _ _ | exact t_field _ _ _ | exact t_makeInterface _ _ | exact t_makeFunc _ _ _ | exact t_makeChan _ _ | exact t_makeSlice _ _ _ | exact t_sliceAt _ _ _ _ _ | exact t_build _ _ | exact t_buildSlice _ _ _ | exact t_stringish _ | exact t_mayBeOne _ _ | exact t_sameAddr _ _ | exact t_samePointer _ _ | exact t_typeStr _ | exact t_equalIn _ _ _ _ | exact t_eqGuardIn _ _ _ _ | exact t_equal _ _ _ | exact t_eqGuard _ _ _ _ _ _ | exact t_shift _ _ _ _ _ | exact t_floatArith _ _ _ _ | exact t_floatCmp _ _ _ _ | exact t_asNumber _ _ | exact t_f2f _ _ _ | exact t_carith _ _ _ _ | exact t_ccmp _ _ _ _ | exact t_cconv _ _ _ | exact t_cadd _ _ | exact t_csub _ _ | exact t_cmul _ _ | exact t_cquo _ _ | exact t_product _ _ _ _ | exact t_corrected _ _ _ _ _ | exact t_quotient _ _ _ _ | exact t_complexOp _ _ _ _ _ _ | exact t_twoPlaces _ _ | exact t_addrSub _ _ _ | exact t_addrCmp _ _ _ | exact t_addrMod _ _ _ | exact t_unsafeAdd _ _ _ | exact t_movedNumber _ _ _ | exact t_movedPointer _ _ _)
    | (with_reducible refine t_bind ?_ (fun _ => ?_))
    | (with_reducible refine t_map _ ?_)
    | (with_reducible refine t_ite ?_ ?_)
    | split
    | (intro _)
    | (dsimp only)
end
end Go.Proofs.Ytimkkeomdkbcjaa
