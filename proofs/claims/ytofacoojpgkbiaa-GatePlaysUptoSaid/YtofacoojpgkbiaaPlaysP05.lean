/-
  Merged out of: Ops2 Table Prg. No condition of its own.
-/
import Derived.Test.YtofacoojpgkbiaaPlaysP04
set_option linter.unusedVariables false
set_option maxHeartbeats 8000000
set_option linter.unusedSimpArgs false
/-
 The operations of calm code,on: comparisons,conversions;which operations are calm,by a table. No condition of its own.
-/
namespace Go.Proofs.Ytofacoojpgkbiaa
open Go.Conc
section
variable {z:Bool} {P:Program} {α β:Type}
theorem t_forIn_list {σ:Type} {f:α→σ→Sem (ForInStep σ)} (hf:∀ a s,T z P (f a s)):∀ (l:List α) (b:σ),T z P (forIn l b f)
 | [],b=>by rw [List.forIn_nil];exact zai _
 | a::l,b=>by
  rw [List.forIn_cons]
  refine zah (hf a b) fun r => ?_
  cases r with
  | done b=>exact zai _
  | yield b=>exact t_forIn_list hf l b
theorem t_forIn_arr {σ:Type} {f:α→σ→Sem (ForInStep σ)} (hf:∀ a s,T z P (f a s)) (l:Array α) (b:σ):T z P (forIn l b f):=by
 rw [← Array.forIn_toList]
 exact t_forIn_list hf _ _
theorem t_forIn_range {σ:Type} {f:Nat→σ→Sem (ForInStep σ)} (hf:∀ a s,T z P (f a s)) (l:Std.Legacy.Range) (b:σ):T z P (forIn l b f):=by
 rw [Std.Legacy.Range.forIn_eq_forIn_range']
 exact t_forIn_list hf _ _
theorem t_stringish (a:Addr):T false P (stringish a):=by
 unfold stringish
 repeat' first
  | (with_reducible first | exact zai _ | exact zc8 _ | exact t_frozen _)
  | assumption
  | (with_reducible refine zah ?_ (fun _ => ?_))
  | (with_reducible refine zaw _ ?_)
  | (with_reducible refine zav ?_ ?_)
  | split
  | (intro _)
  | (dsimp only)
theorem t_mayBeOne (a b:Addr):T false P (mayBeOne a b):=by
 unfold mayBeOne
 repeat' first
  | (with_reducible first | exact zai _ | exact zc8 _)
  | assumption
  | (with_reducible exact t_stringish _)
  | (with_reducible refine zah ?_ (fun _ => ?_))
  | (with_reducible refine zaw _ ?_)
  | (with_reducible refine zav ?_ ?_)
  | split
  | (intro _)
  | (dsimp only)
theorem t_sameAddr (a b:Addr):T false P (sameAddr a b):=by
 unfold sameAddr
 repeat' first
  | (with_reducible first | exact zai _ | exact za3 _ | exact t_frozen _ | exact zc7 _)
  | assumption
  | (with_reducible first | exact t_noView _ | exact t_mayBeOne _ _)
  | (with_reducible refine zah ?_ (fun _ => ?_))
  | (with_reducible refine zaw _ ?_)
  | (with_reducible refine zav ?_ ?_)
  | split
  | (intro _)
  | (dsimp only)
theorem t_samePointer (a b:Option Addr):T false P (samePointer a b):=by
 unfold samePointer
 repeat' first
  | (with_reducible exact zai _)
  | assumption
  | (with_reducible exact t_sameAddr _ _)
  | (with_reducible refine zah ?_ (fun _ => ?_))
  | (with_reducible refine zaw _ ?_)
  | (with_reducible refine zav ?_ ?_)
  | split
  | (intro _)
  | (dsimp only)
theorem t_typeStr (t:TypeId):T z P (typeStr t):=by
 unfold typeStr
 repeat' first
  | (with_reducible first | exact zai _ | exact za3 _)
  | assumption
  | (with_reducible exact zbz _)
  | (with_reducible refine zah ?_ (fun _ => ?_))
  | (with_reducible refine zaw _ ?_)
  | (with_reducible refine zav ?_ ?_)
  | split
  | (intro _)
  | (dsimp only)
theorem t_equalIn:∀ (d:Nat) (t:TypeId) (x y:Value),T false P (Op.equalIn d t x y)
 | 0,_,_,_=>za3 _
 | d+1,t,x,y=>by
  have ih:∀ t x y,T false P (Op.equalIn d t x y):=t_equalIn d
  unfold Op.equalIn
  repeat' first
    | with_reducible exact zai _
    | with_reducible exact t_halt _ trivial
    | with_reducible exact zal _
    | with_reducible exact za3 _
    | with_reducible exact t_goPanic _
    | with_reducible exact t_getObj _
    | with_reducible exact t_newObj _
    | with_reducible exact zc8 _
    | with_reducible exact t_frozen _
    | with_reducible exact zc7 _
    | with_reducible exact zb0
    | with_reducible exact t_mark _ (by simp) (by simp) (by simp)
    | with_reducible exact t_load _ _
    | with_reducible exact t_store _ _ _
    | assumption
    | with_reducible exact zbz _
    | with_reducible exact zat _
    | with_reducible exact zbw _
    | with_reducible exact zcf _
    | with_reducible exact t_isAgg _
    | with_reducible exact t_asIntOf _
    | with_reducible exact t_asInt _
    | with_reducible exact t_asBool _
    | with_reducible exact t_asAgg _
    | with_reducible exact t_elemOf _
    | with_reducible exact t_newRow _ _
    | with_reducible exact t_newVar _ _
    | with_reducible exact zbf _
    | with_reducible exact zdh _ _ _ _
    | with_reducible exact zd4 _
    | with_reducible exact t_part _ _ _
    | with_reducible exact zee _ _
    | with_reducible exact zcp _ _ _
    | with_reducible exact t_loadVar _ _
    | with_reducible exact t_storeVar _ _ _
    | with_reducible exact zda _
    | with_reducible exact t_viewAt _
    | with_reducible exact t_numberAt _
    | with_reducible exact zby _
    | with_reducible exact t_noView _
    | with_reducible exact t_byteOf _
    | with_reducible exact t_partAt _ _ _
    | with_reducible exact t_fieldPlace _ _
    | with_reducible exact t_askRoom _
    | with_reducible exact t_sliceBound _ _ _
    | with_reducible exact zdf _ _ _ _ _ _
    | with_reducible exact t_slice _ _ _ _ _
    | with_reducible exact t_mapM (fun _=>zah (zbw _) (fun _=>zai _)) _
    | with_reducible exact zdp _ _ _ _
    | with_reducible exact t_intBits _ _ _ _
    | with_reducible exact t_intDiv _ _ _ _
    | with_reducible exact t_intCmp _ _ _
    | with_reducible exact zdo _ _ _
    | with_reducible exact zdg (fun _ _=>t_min2 _ _) _ _
    | with_reducible exact zdg (fun _ _=>t_max2 _ _) _ _
    | with_reducible exact t_holdsCells _ _
    | with_reducible exact t_mayShare _ _ _ _ _
    | with_reducible exact t_lenOf _
    | with_reducible exact t_firstCells _ _ _
    | with_reducible exact t_append _ _ _
    | with_reducible exact t_len _ _ _
    | with_reducible exact t_min _ _ _
    | with_reducible exact t_max _ _ _
    | with_reducible exact t_unary _ _
    | with_reducible exact t_loadAt _ _
    | with_reducible exact t_storeAt _ _ _
    | with_reducible exact t_fieldAt _ _ _
    | with_reducible exact t_indexAt _ _ _
    | with_reducible exact t_alloc _ _ _
    | with_reducible exact t_box _ _
    | with_reducible exact t_extract _ _
    | with_reducible exact t_field _ _ _
    | with_reducible exact zed _ _
    | with_reducible exact t_makeFunc _ _ _
    | with_reducible exact t_makeChan _ _
    | with_reducible exact t_makeSlice _ _ _
    | with_reducible exact t_sliceAt _ _ _ _ _
    | with_reducible exact t_build _ _
    | with_reducible exact t_buildSlice _ _ _
    | with_reducible exact t_stringish _
    | with_reducible exact t_mayBeOne _ _
    | with_reducible exact t_sameAddr _ _
    | with_reducible exact t_samePointer _ _
    | with_reducible exact t_typeStr _
    | with_reducible exact ih _ _ _
    | (with_reducible refine zah ?_ (fun _ => ?_))
    | (with_reducible refine zaw _ ?_)
    | (with_reducible refine zav ?_ ?_)
    | (with_reducible refine t_forIn_arr (fun _ _ => ?_) _ _)
    | (with_reducible refine t_forIn_range (fun _ _ => ?_) _ _)
    | split
    | (intro _)
    | (dsimp only)
theorem t_eqGuardIn:∀ (d:Nat) (t:TypeId) (x y:Value),T z P (Op.eqGuardIn d t x y)
 | 0,_,_,_=>za3 _
 | d+1,t,x,y=>by
  have ih:∀ t x y,T z P (Op.eqGuardIn d t x y):=t_eqGuardIn d
  unfold Op.eqGuardIn
  repeat' first
    | with_reducible exact zai _
    | with_reducible exact t_halt _ trivial
    | with_reducible exact zal _
    | with_reducible exact za3 _
    | with_reducible exact t_goPanic _
    | with_reducible exact t_getObj _
    | with_reducible exact t_newObj _
    | with_reducible exact zc8 _
    | with_reducible exact t_frozen _
    | with_reducible exact zc7 _
    | with_reducible exact zb0
    | with_reducible exact t_mark _ (by simp) (by simp) (by simp)
    | with_reducible exact t_load _ _
    | with_reducible exact t_store _ _ _
    | assumption
    | with_reducible exact zbz _
    | with_reducible exact zat _
    | with_reducible exact zbw _
    | with_reducible exact zcf _
    | with_reducible exact t_isAgg _
    | with_reducible exact t_asIntOf _
    | with_reducible exact t_asInt _
    | with_reducible exact t_asBool _
    | with_reducible exact t_asAgg _
    | with_reducible exact t_elemOf _
    | with_reducible exact t_newRow _ _
    | with_reducible exact t_newVar _ _
    | with_reducible exact zbf _
    | with_reducible exact zdh _ _ _ _
    | with_reducible exact zd4 _
    | with_reducible exact t_part _ _ _
    | with_reducible exact zee _ _
    | with_reducible exact zcp _ _ _
    | with_reducible exact t_loadVar _ _
    | with_reducible exact t_storeVar _ _ _
    | with_reducible exact zda _
    | with_reducible exact t_viewAt _
    | with_reducible exact t_numberAt _
    | with_reducible exact zby _
    | with_reducible exact t_noView _
    | with_reducible exact t_byteOf _
    | with_reducible exact t_partAt _ _ _
    | with_reducible exact t_fieldPlace _ _
    | with_reducible exact t_askRoom _
    | with_reducible exact t_sliceBound _ _ _
    | with_reducible exact zdf _ _ _ _ _ _
    | with_reducible exact t_slice _ _ _ _ _
    | with_reducible exact t_mapM (fun _=>zah (zbw _) (fun _=>zai _)) _
    | with_reducible exact zdp _ _ _ _
    | with_reducible exact t_intBits _ _ _ _
    | with_reducible exact t_intDiv _ _ _ _
    | with_reducible exact t_intCmp _ _ _
    | with_reducible exact zdo _ _ _
    | with_reducible exact zdg (fun _ _=>t_min2 _ _) _ _
    | with_reducible exact zdg (fun _ _=>t_max2 _ _) _ _
    | with_reducible exact t_holdsCells _ _
    | with_reducible exact t_mayShare _ _ _ _ _
    | with_reducible exact t_lenOf _
    | with_reducible exact t_firstCells _ _ _
    | with_reducible exact t_append _ _ _
    | with_reducible exact t_len _ _ _
    | with_reducible exact t_min _ _ _
    | with_reducible exact t_max _ _ _
    | with_reducible exact t_unary _ _
    | with_reducible exact t_loadAt _ _
    | with_reducible exact t_storeAt _ _ _
    | with_reducible exact t_fieldAt _ _ _
    | with_reducible exact t_indexAt _ _ _
    | with_reducible exact t_alloc _ _ _
    | with_reducible exact t_box _ _
    | with_reducible exact t_extract _ _
    | with_reducible exact t_field _ _ _
    | with_reducible exact zed _ _
    | with_reducible exact t_makeFunc _ _ _
    | with_reducible exact t_makeChan _ _
    | with_reducible exact t_makeSlice _ _ _
    | with_reducible exact t_sliceAt _ _ _ _ _
    | with_reducible exact t_build _ _
    | with_reducible exact t_buildSlice _ _ _
    | with_reducible exact t_stringish _
    | with_reducible exact t_mayBeOne _ _
    | with_reducible exact t_sameAddr _ _
    | with_reducible exact t_samePointer _ _
    | with_reducible exact t_typeStr _
    | with_reducible exact ih _ _ _
    | (with_reducible refine zah ?_ (fun _ => ?_))
    | (with_reducible refine zaw _ ?_)
    | (with_reducible refine zav ?_ ?_)
    | (with_reducible refine t_forIn_arr (fun _ _ => ?_) _ _)
    | (with_reducible refine t_forIn_range (fun _ _ => ?_) _ _)
    | split
    | (intro _)
    | (dsimp only)
theorem t_equal (t:TypeId) (x y:Value):T false P (Op.equal t x y):=by
 unfold Op.equal
 repeat' first
  | assumption
  | (with_reducible exact t_equalIn _ _ _ _)
  | (with_reducible refine zah ?_ (fun _ => ?_))
  | (with_reducible refine zaw _ ?_)
  | (with_reducible refine zav ?_ ?_)
  | split
  | (intro _)
  | (dsimp only)
theorem t_eqGuard (o:BinOp) (t:TypeId) (a b:Operand) (x y:Value):T z P (eqGuard o t a b x y):=by
 unfold eqGuard
 repeat' first
  | (with_reducible first | exact zai _ | exact za3 _ | exact zb0)
  | assumption
  | (with_reducible exact t_eqGuardIn _ _ _ _)
  | (with_reducible refine zah ?_ (fun _ => ?_))
  | (with_reducible refine zaw _ ?_)
  | (with_reducible refine zav ?_ ?_)
  | split
  | (intro _)
  | (dsimp only)
theorem t_shift (o:BinOp) (k:IntKind) (x:Int) (k2:IntKind) (y:Int):T z P (Op.shift o k x k2 y):=by
 unfold Op.shift
 repeat' first
  | (with_reducible first | exact zai _ | exact zal _)
  | assumption
  | (with_reducible exact zbf _)
  | (with_reducible refine zah ?_ (fun _ => ?_))
  | (with_reducible refine zaw _ ?_)
  | (with_reducible refine zav ?_ ?_)
  | split
  | (intro _)
  | (dsimp only)
theorem t_floatArith (o:BinOp) (k:FloatKind) (x y:Nat):T z P (Op.floatArith o k x y):=by
 unfold Op.floatArith
 repeat' first
  | (with_reducible first | exact zai _ | exact zal _ | exact zc7 _)
  | assumption
  | (with_reducible refine zah ?_ (fun _ => ?_))
  | (with_reducible refine zaw _ ?_)
  | (with_reducible refine zav ?_ ?_)
  | split
  | (intro _)
  | (dsimp only)
theorem t_floatCmp (o:BinOp) (k:FloatKind) (x y:Nat):T z P (Op.floatCmp o k x y):=by
 unfold Op.floatCmp
 repeat' first
  | (with_reducible first | exact zai _ | exact zal _)
  | assumption
  | (with_reducible refine zah ?_ (fun _ => ?_))
  | (with_reducible refine zaw _ ?_)
  | (with_reducible refine zav ?_ ?_)
  | split
  | (intro _)
  | (dsimp only)
theorem t_asNumber (a:Addr) (b:Bool):T z P (asNumber a b):=by
 unfold asNumber
 repeat' first
  | (with_reducible first | exact zai _ | exact t_newObj _)
  | assumption
  | (with_reducible refine zah ?_ (fun _ => ?_))
  | (with_reducible refine zaw _ ?_)
  | (with_reducible refine zav ?_ ?_)
  | split
  | (intro _)
  | (dsimp only)
theorem t_f2f (s:FloatKind) (x:Nat) (d:FloatKind):T z P (Conv.floatToFloat s x d):=by
 unfold Conv.floatToFloat
 repeat' first
  | (with_reducible first | exact zai _ | exact zc7 _)
  | assumption
  | (with_reducible refine zah ?_ (fun _ => ?_))
  | (with_reducible refine zaw _ ?_)
  | (with_reducible refine zav ?_ ?_)
  | split
  | (intro _)
  | (dsimp only)
theorem t_carith (o:BinOp) (k:FloatKind) (x y:Nat):T z P (Op.Complex.arith o k x y):=by
 unfold Op.Complex.arith
 repeat' first
  | (with_reducible first | exact zai _ | exact zal _)
  | assumption
  | (with_reducible exact t_floatArith _ _ _ _)
  | (with_reducible refine zah ?_ (fun _ => ?_))
  | (with_reducible refine zaw _ ?_)
  | (with_reducible refine zav ?_ ?_)
  | split
  | (intro _)
  | (dsimp only)
theorem t_ccmp (o:BinOp) (k:FloatKind) (x y:Nat):T z P (Op.Complex.cmp o k x y):=by
 unfold Op.Complex.cmp
 repeat' first
  | assumption
  | (with_reducible first | exact t_asBool _ | exact t_floatCmp _ _ _ _)
  | (with_reducible refine zah ?_ (fun _ => ?_))
  | (with_reducible refine zaw _ ?_)
  | (with_reducible refine zav ?_ ?_)
  | split
  | (intro _)
  | (dsimp only)
theorem t_cconv (o:FloatKind) (x:Nat) (k:FloatKind):T z P (Op.Complex.conv o x k):=by
 unfold Op.Complex.conv
 repeat' first
  | (with_reducible first | exact zai _ | exact zal _)
  | assumption
  | (with_reducible exact t_f2f _ _ _)
  | (with_reducible refine zah ?_ (fun _ => ?_))
  | (with_reducible refine zaw _ ?_)
  | (with_reducible refine zav ?_ ?_)
  | split
  | (intro _)
  | (dsimp only)
theorem t_cadd (x y:Nat):T z P (Op.Complex.add x y):=by
 unfold Op.Complex.add
 repeat' first
  | assumption
  | (with_reducible exact t_carith _ _ _ _)
  | (with_reducible refine zah ?_ (fun _ => ?_))
  | (with_reducible refine zaw _ ?_)
  | (with_reducible refine zav ?_ ?_)
  | split
  | (intro _)
  | (dsimp only)
theorem t_csub (x y:Nat):T z P (Op.Complex.sub x y):=by
 unfold Op.Complex.sub
 repeat' first
  | assumption
  | (with_reducible exact t_carith _ _ _ _)
  | (with_reducible refine zah ?_ (fun _ => ?_))
  | (with_reducible refine zaw _ ?_)
  | (with_reducible refine zav ?_ ?_)
  | split
  | (intro _)
  | (dsimp only)
theorem t_cmul (x y:Nat):T z P (Op.Complex.mul x y):=by
 unfold Op.Complex.mul
 repeat' first
  | assumption
  | (with_reducible exact t_carith _ _ _ _)
  | (with_reducible refine zah ?_ (fun _ => ?_))
  | (with_reducible refine zaw _ ?_)
  | (with_reducible refine zav ?_ ?_)
  | split
  | (intro _)
  | (dsimp only)
theorem t_cquo (x y:Nat):T z P (Op.Complex.quo x y):=by
 unfold Op.Complex.quo
 repeat' first
  | assumption
  | (with_reducible exact t_carith _ _ _ _)
  | (with_reducible refine zah ?_ (fun _ => ?_))
  | (with_reducible refine zaw _ ?_)
  | (with_reducible refine zav ?_ ?_)
  | split
  | (intro _)
  | (dsimp only)
theorem t_product (a b c d:Nat):T z P (Op.Complex.product a b c d):=by
 unfold Op.Complex.product
 repeat' first
  | (with_reducible exact zai _)
  | assumption
  | (with_reducible first | exact t_cadd _ _ | exact t_csub _ _ | exact t_cmul _ _)
  | (with_reducible refine zah ?_ (fun _ => ?_))
  | (with_reducible refine zaw _ ?_)
  | (with_reducible refine zav ?_ ?_)
  | split
  | (intro _)
  | (dsimp only)
theorem t_corrected (s a b c d:Nat):T z P (Op.Complex.corrected s a b c d):=by
 unfold Op.Complex.corrected
 repeat' first
  | (with_reducible exact zai _)
  | assumption
  | (with_reducible first | exact t_cadd _ _ | exact t_csub _ _ | exact t_cmul _ _)
  | (with_reducible refine zah ?_ (fun _ => ?_))
  | (with_reducible refine zaw _ ?_)
  | (with_reducible refine zav ?_ ?_)
  | split
  | (intro _)
  | (dsimp only)
theorem t_quotient (a b c d:Nat):T z P (Op.Complex.quotient a b c d):=by
 unfold Op.Complex.quotient
 repeat' first
  | (with_reducible exact zai _)
  | assumption
  | (with_reducible first | exact t_ccmp _ _ _ _ | exact t_cadd _ _ | exact t_csub _ _ | exact t_cmul _ _ | exact t_cquo _ _ | exact t_corrected _ _ _ _ _)
  | (with_reducible refine zah ?_ (fun _ => ?_))
  | (with_reducible refine zaw _ ?_)
  | (with_reducible refine zav ?_ ?_)
  | split
  | (intro _)
  | (dsimp only)
theorem t_complexOp (o:BinOp) (k:FloatKind) (a b c d:Nat):T z P (Op.complexOp o k a b c d):=by
 unfold Op.complexOp
 repeat' first
  | (with_reducible first | exact zai _ | exact zal _)
  | assumption
  | (with_reducible first | exact t_carith _ _ _ _ | exact t_ccmp _ _ _ _ | exact t_cconv _ _ _ | exact t_product _ _ _ _ | exact t_quotient _ _ _ _)
  | (with_reducible refine zah ?_ (fun _ => ?_))
  | (with_reducible refine zaw _ ?_)
  | (with_reducible refine zav ?_ ?_)
  | split
  | (intro _)
  | (dsimp only)
theorem t_twoPlaces (a b:Addr):T z P (Op.twoPlaces a b):=by
 unfold Op.twoPlaces
 repeat' first
  | (with_reducible first | exact zai _ | exact za3 _ | exact zb0)
  | assumption
  | (with_reducible exact t_byteOf _)
  | (with_reducible refine zah ?_ (fun _ => ?_))
  | (with_reducible refine zaw _ ?_)
  | (with_reducible refine zav ?_ ?_)
  | split
  | (intro _)
  | (dsimp only)
theorem t_addrSub (k:IntKind) (a b:Addr):T z P (Op.addrSub k a b):=by
 unfold Op.addrSub
 repeat' first
  | (with_reducible exact zai _)
  | assumption
  | (with_reducible exact t_twoPlaces _ _)
  | (with_reducible refine zah ?_ (fun _ => ?_))
  | (with_reducible refine zaw _ ?_)
  | (with_reducible refine zav ?_ ?_)
  | split
  | (intro _)
  | (dsimp only)
theorem t_addrCmp (k:BinOp) (a b:Addr):T z P (Op.addrCmp k a b):=by
 unfold Op.addrCmp
 repeat' first
  | (with_reducible first | exact zai _ | exact za3 _)
  | assumption
  | (with_reducible exact t_twoPlaces _ _)
  | (with_reducible refine zah ?_ (fun _ => ?_))
  | (with_reducible refine zaw _ ?_)
  | (with_reducible refine zav ?_ ?_)
  | split
  | (intro _)
  | (dsimp only)
theorem t_addrMod (k:IntKind) (a:Addr) (n:Int):T z P (Op.addrMod k a n):=by
 unfold Op.addrMod
 repeat' first
  | (with_reducible first | exact zai _ | exact za3 _ | exact zc8 _)
  | assumption
  | (with_reducible first | exact zbz _ | exact t_byteOf _)
  | (with_reducible refine zah ?_ (fun _ => ?_))
  | (with_reducible refine zaw _ ?_)
  | (with_reducible refine zav ?_ ?_)
  | split
  | (intro _)
  | (dsimp only)
theorem t_unsafeAdd (a:Array TypeId) (t:TypeId) (x:Array Value):T z P (Builtin.unsafeAdd_ a t x):=by
 unfold Builtin.unsafeAdd_
 obtain ⟨l⟩:=x
 rcases l with _ | ⟨v,_ | ⟨u,_ | ⟨c,r⟩⟩⟩<;>first | exact zal _ | skip
 cases v<;>first | exact zal _ | skip
 refine zah (t_asInt u) (fun n => ?_)
 repeat' first
  | (with_reducible first | exact zai _ | exact za3 _ | exact zc8 _ | exact zb0)
  | assumption
  | (with_reducible exact t_viewAt _)
  | (with_reducible refine zah ?_ (fun _ => ?_))
  | (with_reducible refine zaw _ ?_)
  | (with_reducible refine zav ?_ ?_)
  | split
  | (intro _)
  | (dsimp only)
theorem t_movedNumber (t:TypeId) (x y:Value):T z P (movedNumber t x y):=by
 unfold movedNumber
 repeat' first
  | (with_reducible first | exact zai _ | exact za3 _)
  | assumption
  | (with_reducible first | exact zat _ | exact zby _ | exact t_asNumber _ _ | exact t_unsafeAdd _ _ _)
  | (with_reducible refine zah ?_ (fun _ => ?_))
  | (with_reducible refine zaw _ ?_)
  | (with_reducible refine zav ?_ ?_)
  | split
  | (intro _)
  | (dsimp only)
theorem t_movedPointer (t:TypeId) (x y:Value):T z P (movedPointer t x y):=by
 unfold movedPointer
 repeat' first
  | (with_reducible exact za3 _)
  | assumption
  | (with_reducible first | exact t_numberAt _ | exact t_unsafeAdd _ _ _)
  | (with_reducible refine zah ?_ (fun _ => ?_))
  | (with_reducible refine zaw _ ?_)
  | (with_reducible refine zav ?_ ?_)
  | split
  | (intro _)
  | (dsimp only)
theorem t_binOp (o:BinOp) (t:TypeId) (x y:Value):T false P (binOp o t x y):=by
 unfold binOp
 repeat' first
  | (with_reducible first | exact zai _ | exact zal _ | exact za3 _)
  | assumption
  | (with_reducible first | exact zat _ | exact zby _ | exact zdp _ _ _ _ | exact t_intBits _ _ _ _ | exact t_intDiv _ _ _ _ | exact t_intCmp _ _ _ | exact zdo _ _ _ | exact t_equal _ _ _ | exact t_shift _ _ _ _ _ | exact t_floatArith _ _ _ _ | exact t_floatCmp _ _ _ _ | exact t_complexOp _ _ _ _ _ _ | exact t_addrSub _ _ _ | exact t_addrCmp _ _ _ | exact t_addrMod _ _ _ | exact t_movedNumber _ _ _ | exact t_movedPointer _ _ _)
  | (with_reducible refine zah ?_ (fun _ => ?_))
  | (with_reducible refine zaw _ ?_)
  | (with_reducible refine zav ?_ ?_)
  | split
  | (intro _)
  | (dsimp only)
end
end Go.Proofs.Ytofacoojpgkbiaa
/-
 Which operations are calm,by a table. No condition of its own.
-/
namespace Go.Proofs.Ytofacoojpgkbiaa
open Go.Conc
def goFn (P:Program) (L:List FuncId) (f:FuncId):Bool:=L.contains f && (P.funcs[f]?).any (fun fn=>fn.body.isSome && fn.name != "runtime.NumGoroutine")
def isInt (P:Program) (t:TypeId):Bool:=match P.underlying t with
 | some (.int _)=>true
 | _=>false
def isPt (P:Program) (t:TypeId):Bool:=match P.underlying t with
 | some (.pointer _)=>true
 | _=>false
def isUn (P:Program) (t:TypeId):Bool:=match P.underlying t with
 | some .unsafePointer=>true
 | _=>false
def isNil:Operand→Bool
 | .const (.pointer none) | .const .nilIface | .const .nilFunc | .const (.slice none _ _)=>true
 | _=>false
def eqSafe (P:Program) (t:TypeId) (x y:Operand):Bool:=match P.underlying t with
 | some (.int _) | some .bool | some (.func _ _ _) | some (.slice _)=>true
 | some (.pointer _) | some (.interface _)=>isNil x || isNil y
 | _=>false
def calmB (z:Bool) (P:Program) (L X:List FuncId) (o:Op):Bool:=match o with
 | .move _ | .assign _ | .pick .. | .alloc .. | .box .. | .build .. | .buildSlice .. | .load .. | .store .. | .unOp .. | .makeInterface .. | .makeFunc .. | .makeChan .. | .makeSlice .. | .slice .. | .fieldAddr .. | .field .. | .indexAddr .. | .extract ..=>true
 | .nilCheck _=>true
 | .binOp op t x y _ => !z || (op != .eql && op != .neq) || eqSafe P t x y
 | .convert s d _=>(isInt P s && isInt P d) || (isPt P s && isUn P d) || (isUn P s && isPt P d)
 | .call { callee := .value (.func f),.. }=>goFn P L f || X.contains f
 | .call { callee := .builtin b,.. }=>match b with
  | .append | .len | .min | .max=>true
  | _=>false
 | _=>false
section
variable {z:Bool} {P:Program} {C:FuncId→Prop}
theorem zdy {s:Sem Value} (h:T z P s):zd1 z P (OpOk C) (do pure (Next.value (← s))):=by
 refine zbj (V:=fun _=>True) (f:=fun v=>pure (Next.value v)) (fun _ _ => ?_) h
 exact True.intro
theorem t_skip {s:Sem Unit} (h:T z P s):zd1 z P (OpOk C) (do s;pure Next.skip):=by
 refine zbj (V:=fun _=>True) (f:=fun _=>pure Next.skip) (fun _ _ => ?_) h
 exact True.intro
theorem t_nilPanic:zd1 z P (OpOk C) (runtimePanic .nilDeref:Sem Next):=by
 exact True.intro
theorem t_floatToInt (s:FloatKind) (b:Nat) (k:IntKind):T z P (Conv.floatToInt s b k):=by
 unfold Conv.floatToInt
 repeat' first
  | with_reducible exact zai _
  | with_reducible exact zc7 _
  | with_reducible exact za3 _
  | (with_reducible refine zah ?_ (fun _ => ?_))
  | (with_reducible refine zaw _ ?_)
  | (with_reducible refine zav ?_ ?_)
  | split
  | (dsimp only)
theorem t_convert {s d:TypeId} (hs:isInt P s=true) (hd:isInt P d=true) (v:Value):T z P (convert s d v):=by
 unfold isInt at hs hd
 obtain ⟨k,hk⟩:∃ k,P.underlying s=some (.int k):=by
  split at hs
  ·
   rename_i k h;exact ⟨k,h⟩
  ·
   cases hs
 obtain ⟨k2,hk2⟩:∃ k,P.underlying d=some (.int k):=by
  split at hd
  ·
   rename_i k h;exact ⟨k,h⟩
  ·
   cases hd
 unfold convert
 have hu:∀ {t:TypeId} {x:TypeDesc} {β:Type} {f:TypeDesc→Sem β},P.underlying t=some x→T z P (f x)→T z P (underlying t >>= f):=by
  intro t x β f h1 h2
  show T z P (Sem.bind (underlying t) f)
  unfold underlying T
  show zd1 z P _ (Sem.bind (match P.underlying t with | some d=>pure d | none=>stuck "no such type") f)
  rw [h1]
  exact h2
 refine hu hk (hu hk2 ?_)
 cases v with
 | int a b=>exact zai _
 | float a b=>exact t_floatToInt _ _ _
 | pointer a=>cases a<;>exact za3 _
 | _=>exact za3 _
theorem t_seenAt (a:Addr):T z P (Conv.seenAt a):=by
 unfold Conv.seenAt
 repeat' first
  | with_reducible exact zai _
  | with_reducible exact zal _
  | with_reducible exact za3 _
  | with_reducible exact t_viewAt _
  | with_reducible exact zc8 _
  | with_reducible exact zb0
  | (with_reducible refine zah ?_ (fun _ => ?_))
  | (with_reducible refine zaw _ ?_)
  | (with_reducible refine zav ?_ ?_)
  | split
  | (intro _)
  | (dsimp only)
theorem t_cellsIn (a:Nat):T z P (cellsIn a):=by
 unfold cellsIn
 repeat' first
  | with_reducible exact zai _
  | with_reducible exact zc8 _
  | with_reducible exact t_getObj _
  | (with_reducible refine zah ?_ (fun _ => ?_))
  | split
  | (intro _)
  | (dsimp only)
theorem t_variablesAt (a:Addr) (u:TypeId) (n:Nat):T z P (variablesAt a u n):=by
 unfold variablesAt
 repeat' first
  | with_reducible exact zai _
  | with_reducible exact zc8 _
  | with_reducible exact zb0
  | (with_reducible refine zah ?_ (fun _ => ?_))
  | split
  | (intro _)
  | (dsimp only)
theorem t_convUn (s d:TypeId) (v:Value):T z P (Conv.unsafePointer s d v):=by
 unfold Conv.unsafePointer
 repeat' first
  | with_reducible exact zai _
  | with_reducible exact zal _
  | with_reducible exact za3 _
  | with_reducible exact zat _
  | with_reducible exact t_seenAt _
  | with_reducible exact t_cellsIn _
  | with_reducible exact zbw _
  | with_reducible exact t_variablesAt _ _ _
  | with_reducible exact zc8 _
  | with_reducible exact t_newObj _
  | with_reducible exact t_asNumber _ _
  | with_reducible exact zb0
  | (with_reducible refine zah ?_ (fun _ => ?_))
  | (with_reducible refine zaw _ ?_)
  | (with_reducible refine zav ?_ ?_)
  | split
  | (intro _)
  | (dsimp only)
theorem t_convertU {s d:TypeId} (h:(isPt P s && isUn P d)=true∨(isUn P s && isPt P d)=true) (v:Value):T z P (convert s d v):=by
 have hp:∀ {t:TypeId},isPt P t=true→∃ e,P.underlying t=some (.pointer e):=fun {t} h=>by
  unfold isPt at h
  split at h
  ·
   rename_i e q;exact ⟨e,q⟩
  ·
   cases h
 have hn:∀ {t:TypeId},isUn P t=true→P.underlying t=some .unsafePointer:=fun {t} h=>by
  unfold isUn at h
  split at h
  ·
   assumption
  ·
   cases h
 unfold convert
 have hu:∀ {t:TypeId} {x:TypeDesc} {β:Type} {f:TypeDesc→Sem β},P.underlying t=some x→T z P (f x)→T z P (underlying t >>= f):=by
  intro t x β f h1 h2
  show T z P (Sem.bind (underlying t) f)
  unfold underlying T
  show zd1 z P _ (Sem.bind (match P.underlying t with | some d=>pure d | none=>stuck "no such type") f)
  rw [h1]
  exact h2
 rcases h with h | h
 ·
  rw [Bool.and_eq_true] at h
  obtain ⟨e,he⟩:=hp h.1
  refine hu he (hu (hn h.2) ?_)
  exact t_convUn _ _ _
 ·
  rw [Bool.and_eq_true] at h
  obtain ⟨e,he⟩:=hp h.2
  refine hu (hn h.1) (hu he ?_)
  exact t_convUn _ _ _
theorem t_callFunc {L:List FuncId} {f:FuncId} (h:goFn P L f=true) (args:Array Value):zd1 z P (OpOk (·∈L)) (callFunc f args):=by
 unfold goFn at h
 rw [Bool.and_eq_true,List.contains_iff_mem] at h
 obtain ⟨h1,h2⟩:=h
 cases hf:P.funcs[f]? with
 | none=>rw [hf] at h2;cases h2
 | some fn =>
  rw [hf] at h2
  simp only [Option.any_some,Bool.and_eq_true,bne_iff_ne,ne_eq] at h2
  unfold callFunc
  show zd1 z P _ (match P.funcs[f]? with | none=>_ | some fn=>_)
  rw [hf]
  have e1:(fn.name == "runtime.NumGoroutine")=false:=by simpa using h2.2
  have e2:fn.body.isNone=false:=by cases hb:fn.body<;>simp_all
  simp only [e1,e2,Bool.false_eq_true,if_false]
  exact h1
theorem t_followBlind:∀ (l:List FieldStep) (t:TypeId) (x:Option Value),T z P (followBlind l t x)
 | [],t,x=>zai _
 | s::rest,t,x=>by
  have ih:∀ (a:Unit) t x,T z P (followBlind rest t x):=fun _=>t_followBlind rest
  unfold followBlind
  repeat' first
   | with_reducible exact zai _
   | with_reducible exact zal _
   | with_reducible exact za3 _
   | with_reducible exact zbz _
   | with_reducible exact zat _
   | with_reducible exact t_part _ _ _
   | with_reducible exact ih () _ _
   | (with_reducible refine zah ?_ (fun _ => ?_))
   | (with_reducible refine zaw _ ?_)
   | (with_reducible refine zav ?_ ?_)
   | split
   | (intro _)
   | (dsimp only)
theorem t_nilAhead:∀ (n:Nat) (t:TypeId) (v:Value) (s:String),T z P (nilAhead n t v s)
 | 0,_,_,_=>zai _
 | n+1,t,v,s=>by
  have ih:∀ t v s,T z P (nilAhead n t v s):=t_nilAhead n
  unfold nilAhead
  repeat' first
   | with_reducible exact zai _
   | with_reducible exact zal _
   | with_reducible exact za3 _
   | with_reducible exact zbz _
   | with_reducible exact zat _
   | with_reducible exact t_part _ _ _
   | with_reducible exact ih _ _ _
   | with_reducible exact t_followBlind _ _ _
   | (with_reducible refine zah ?_ (fun _ => ?_))
   | (with_reducible refine zaw _ ?_)
   | (with_reducible refine zav ?_ ?_)
   | split
   | (intro _)
   | (dsimp only)
def zeo (P:Program) {α:Type}:Sem α→Prop
 | .pure _=>True
 | .load _ _ k=>∀ v,zeo P (k v)
 | .store _ _ _ k=>zeo P k
 | .new _ k=>∀ r,zeo P (k r)
 | .shape _ k=>∀ s,zeo P (k s)
 | .freeze _ _ _=>False
 | .frozen _ k=>∀ b,zeo P (k b)
 | .getObj _ k=>∀ o,zeo P (k o)
 | .setObj _ _ _=>False
 | .choose _ k=>∀ n,zeo P (k n)
 | .sys _ _=>False
 | .program k=>zeo P (k P)
 | .mark m k=>(m ≠ .disable∧m ≠ .enable∧∀ a,m ≠ .write a)∧zeo P k
 | .halt h=>soft h∧∀ v,h ≠ .panic v
theorem zco {α β:Type} {f:α→Sem β} (hf:∀ a,Doom P (f a)):∀ {s:Sem α},zeo P s→Doom P (s.bind f)
 | .pure a,_=>hf a
 | .load _ _ k,h=>fun v=>zco hf (h v)
 | .store _ _ _ k,h=>zco (s:=k) hf h
 | .new _ k,h=>fun v=>zco hf (h v)
 | .shape _ k,h=>fun v=>zco hf (h v)
 | .freeze _ _ k,h=>h.elim
 | .frozen _ k,h=>fun v=>zco hf (h v)
 | .getObj _ k,h=>fun v=>zco hf (h v)
 | .setObj _ _ k,h=>h.elim
 | .choose _ k,h=>fun v=>zco hf (h v)
 | .sys _ _,h=>h.elim
 | .program k,h=>zco (s:=k P) hf h
 | .mark _ k,h=>zco (s:=k) hf h.2
 | .halt _,h=>h.2
theorem zb9 {α β:Type} {V:β→Prop} {f:α→Sem β} (hd:∀ a,Doom P (f a)) (hf:∀ a,zd1 z P V (f a)):∀ {s:Sem α},zeo P s→zd1 z P V (s.bind f)
 | .pure a,_=>hf a
 | .load _ _ k,h=>fun v=>zb9 hd hf (h v)
 | .store _ _ _ k,h=>zb9 (s:=k) hd hf h
 | .new _ k,h=>fun v=>zb9 hd hf (h v)
 | .shape _ k,h=>fun v=>zb9 hd hf (h v)
 | .freeze _ _ k,h=>h.elim
 | .frozen _ k,h=>⟨.inr fun v=>zco hd (h v),fun v=>zb9 hd hf (h v)⟩
 | .getObj _ k,h=>fun v=>zb9 hd hf (h v)
 | .setObj _ _ k,h=>h.elim
 | .choose _ k,h=>fun v=>zb9 hd hf (h v)
 | .sys _ _,h=>h.elim
 | .program k,h=>zb9 (s:=k P) hd hf h
 | .mark _ k,h=>⟨h.1,zb9 (s:=k) hd hf h.2⟩
 | .halt _,h=>h.1
theorem zcm {α β:Type} {f:α→Sem β} (hf:∀ a,zeo P (f a)):∀ {s:Sem α},zeo P s→zeo P (s.bind f)
 | .pure a,_=>hf a
 | .load _ _ k,h=>fun v=>zcm hf (h v)
 | .store _ _ _ k,h=>zcm (s:=k) hf h
 | .new _ k,h=>fun v=>zcm hf (h v)
 | .shape _ k,h=>fun v=>zcm hf (h v)
 | .freeze _ _ k,h=>h.elim
 | .frozen _ k,h=>fun v=>zcm hf (h v)
 | .getObj _ k,h=>fun v=>zcm hf (h v)
 | .setObj _ _ k,h=>h.elim
 | .choose _ k,h=>fun v=>zcm hf (h v)
 | .sys _ _,h=>h.elim
 | .program k,h=>zcm (s:=k P) hf h
 | .mark _ k,h=>⟨h.1,zcm (s:=k) hf h.2⟩
 | .halt _,h=>h
theorem t_doomed {α β:Type} {s:Sem α} {f:α→Sem β} (h0:zeo P s) (hd:∀ a,Doom P (f a)) (hf:∀ a,T z P (f a)):T z P (s >>= f):=zb9 hd hf h0
theorem d_ite {α:Type} {c:Prop} [Decidable c] {s t:Sem α} (h1:Doom P s) (h2:Doom P t):Doom P (if c then s else t):=by
 split<;>assumption
theorem d_unsup {α:Type} (u:Unsupported):Doom P (unsupported u:Sem α):=fun v h=>by cases h
theorem d_mark {α:Type} {m:Mark} {f:Unit→Sem α} (h:Doom P (f ())):Doom P (mark m >>= f):=h
theorem t0_bind {α β:Type} {s:Sem α} {f:α→Sem β} (h1:zeo P s) (h2:∀ a,zeo P (f a)):zeo P (s >>= f):=zcm h2 h1
theorem t0_pure {α:Type} (a:α):zeo P (pure a:Sem α):=trivial
theorem t0_holdsCells (a:Addr) (n:Nat):zeo P (Builtin.holdsCells a n):=by
 unfold Builtin.holdsCells
 refine t0_bind (s:=shape a.block) (fun _=>trivial) fun s => ?_
 split<;>trivial
theorem t0_mayShare (a b c:Nat) (d:Option Addr) (x:Value):zeo P (Builtin.mayShare a b c d x):=by
 unfold Builtin.mayShare
 repeat' first
  | with_reducible exact t0_pure _
  | with_reducible exact t0_holdsCells _ _
  | exact (fun _=>trivial:zeo P (frozen _))
  | (with_reducible refine t0_bind ?_ (fun _ => ?_))
  | split
  | (intro _)
  | (dsimp only)
theorem t_appendZ (a:Array TypeId) (t:TypeId) (x:Array Value):T z P (Builtin.append_ a t x):=by
 unfold Builtin.append_
 repeat' first
  | with_reducible exact zai _
  | with_reducible exact t_halt _ trivial
  | with_reducible exact zal _
  | with_reducible exact za3 _
  | with_reducible exact t_goPanic _
  | with_reducible exact t_getObj _
  | with_reducible exact t_newObj _
  | with_reducible exact zc8 _
  | with_reducible exact zc7 _
  | with_reducible exact zb0
  | with_reducible exact t_mark _ (by simp) (by simp) (by simp)
  | with_reducible exact t_load _ _
  | with_reducible exact t_store _ _ _
  | assumption
  | with_reducible exact zbz _
  | with_reducible exact zat _
  | with_reducible exact zbw _
  | with_reducible exact zcf _
  | with_reducible exact t_isAgg _
  | with_reducible exact t_asIntOf _
  | with_reducible exact t_asInt _
  | with_reducible exact t_asBool _
  | with_reducible exact t_asAgg _
  | with_reducible exact t_elemOf _
  | with_reducible exact t_newRow _ _
  | with_reducible exact t_newVar _ _
  | with_reducible exact zbf _
  | with_reducible exact zdh _ _ _ _
  | with_reducible exact zd4 _
  | with_reducible exact t_part _ _ _
  | with_reducible exact zee _ _
  | with_reducible exact zcp _ _ _
  | with_reducible exact t_loadVar _ _
  | with_reducible exact t_storeVar _ _ _
  | with_reducible exact zda _
  | with_reducible exact t_viewAt _
  | with_reducible exact t_numberAt _
  | with_reducible exact zby _
  | with_reducible exact t_noView _
  | with_reducible exact t_byteOf _
  | with_reducible exact t_partAt _ _ _
  | with_reducible exact t_fieldPlace _ _
  | with_reducible exact t_askRoom _
  | with_reducible exact t_sliceBound _ _ _
  | with_reducible exact zdf _ _ _ _ _ _
  | with_reducible exact t_slice _ _ _ _ _
  | with_reducible exact t_mapM (fun _=>zah (zbw _) (fun _=>zai _)) _
  | with_reducible exact zdp _ _ _ _
  | with_reducible exact t_intBits _ _ _ _
  | with_reducible exact t_intDiv _ _ _ _
  | with_reducible exact t_intCmp _ _ _
  | with_reducible exact zdo _ _ _
  | with_reducible exact zdg (fun _ _=>t_min2 _ _) _ _
  | with_reducible exact zdg (fun _ _=>t_max2 _ _) _ _
  | with_reducible exact t_holdsCells _ _
  | (with_reducible refine t_doomed (t0_mayShare _ _ _ _ _) (fun b => ?_) (fun b => ?_))
  | with_reducible exact d_unsup _
  | (with_reducible refine d_mark ?_)
  | (with_reducible refine d_ite ?_ ?_)
  | with_reducible exact t_lenOf _
  | with_reducible exact t_firstCells _ _ _
  | (with_reducible refine zah ?_ (fun _ => ?_))
  | (with_reducible refine zaw _ ?_)
  | (with_reducible refine zav ?_ ?_)
  | split
  | (intro _)
  | (dsimp only)
theorem t_of_underlying {t:TypeId} {x:TypeDesc} {β:Type} {f:TypeDesc→Sem β} (h1:P.underlying t=some x) (h2:T z P (f x)):T z P (underlying t >>= f):=by
 show T z P (Sem.bind (underlying t) f)
 unfold underlying T
 show zd1 z P _ (Sem.bind (match P.underlying t with | some d=>pure d | none=>stuck "no such type") f)
 rw [h1]
 exact h2
theorem t_equalSafe {t:TypeId} {x y:Value} (h:match P.underlying t with
 | some (.int _) | some .bool | some (.func _ _ _) | some (.slice _)=>True
 | some (.pointer _)=>x = .pointer none∨y = .pointer none∨(∀ a,x ≠ .pointer a)∨∀ a,y ≠ .pointer a
 | some (.interface _)=>(∀ a b,x ≠ .iface a b)∨∀ a b,y ≠ .iface a b
 | _=>False):T z P (Op.equal t x y):=by
 unfold Op.equal
 rw [show Op.maxDepth=9999+1 from rfl]
 unfold Op.equalIn
 cases hu:P.underlying t with
 | none=>rw [hu] at h;exact h.elim
 | some d =>
  rw [hu] at h
  refine t_of_underlying hu ?_
  cases d with
  | bool=>clear h;split<;>first | contradiction | exact zai _ | exact zal _ | exact za3 _ | exact zav (zai _) (zal _)
  | int k =>
   clear h
   split<;>first | contradiction | exact zai _ | exact zal _ | exact za3 _ | exact zav (zai _) (zal _) | skip
   refine zah (zby _) fun _=>zah (zby _) fun _ => ?_
   dsimp only
   repeat' first
    | with_reducible exact zai _
    | with_reducible exact zal _
    | with_reducible exact za3 _
    | with_reducible exact zbz _
    | with_reducible exact zb0
    | with_reducible exact t_byteOf _
    | (with_reducible refine zah ?_ (fun _ => ?_))
    | (with_reducible refine zaw _ ?_)
    | (with_reducible refine zav ?_ ?_)
    | split
    | (intro _)
    | (dsimp only)
  | func a b c=>clear h;split<;>first | contradiction | exact zai _ | exact zal _
  | slice e=>clear h;split<;>first | contradiction | exact zai _ | exact zal _
  | pointer e =>
   split<;>first | contradiction | exact zai _ | exact zal _ | exact za3 _ | (exfalso;revert h;simp;done)
  | interface ms =>
   split<;>first | contradiction | exact zai _ | exact zal _ | exact za3 _ | (exfalso;revert h;simp;done)
  | _=>exact h.elim
theorem t_binOpZ {op:BinOp} {t:TypeId} {x y:Operand} (h:(!z || (op != .eql && op != .neq) || eqSafe P t x y)=true) (ev:Operand→Value) (hev:∀ c,ev (.const c)=c):T z P (binOp op t (ev x) (ev y)):=by
 cases z with
 | false=>exact t_binOp _ _ _ _
 | true =>
  simp only [Bool.not_true,Bool.false_or,Bool.or_eq_true] at h
  have hsafe:eqSafe P t x y=true→T true P (Op.equal t (ev x) (ev y)):=fun hs=>t_equalSafe (by
   unfold eqSafe at hs
   cases hu:P.underlying t with
   | none=>rw [hu] at hs;cases hs
   | some d =>
    rw [hu] at hs
    have hn:∀ q,isNil q=true→∃ v,q = .const v∧(v = .pointer none∨v = .nilIface∨v = .nilFunc∨∃ a b,v = .slice none a b):=by
     intro q hq
     unfold isNil at hq
     split at hq<;>first | (cases hq;done) | exact ⟨_,rfl,by simp⟩
    cases d<;>first | trivial | (cases hs;done) | skip
    all_goals (
     simp only [Bool.or_eq_true] at hs
     rcases hs with hs | hs
     all_goals (
      obtain ⟨v,rfl,hv⟩:=hn _ hs
      simp only [hev]
      rcases hv with rfl | rfl | rfl | ⟨a,b,rfl⟩<;>simp)))
  unfold binOp
  repeat' first
   | with_reducible exact zai _
   | with_reducible exact zal _
   | with_reducible exact za3 _
   | with_reducible exact zat _
   | with_reducible exact t_shift _ _ _ _ _
   | with_reducible exact zdp _ _ _ _
   | with_reducible exact t_intBits _ _ _ _
   | with_reducible exact t_intDiv _ _ _ _
   | with_reducible exact t_intCmp _ _ _
   | with_reducible exact t_floatArith _ _ _ _
   | with_reducible exact t_floatCmp _ _ _ _
   | with_reducible exact t_complexOp _ _ _ _ _ _
   | with_reducible exact zdo _ _ _
   | with_reducible exact zby _
   | with_reducible exact t_addrSub _ _ _
   | with_reducible exact t_addrCmp _ _ _
   | with_reducible exact t_addrMod _ _ _
   | with_reducible exact t_movedNumber _ _ _
   | with_reducible exact t_movedPointer _ _ _
   | exact hsafe (by simpa using h)
   | (with_reducible refine zah ?_ (fun _ => ?_))
   | (with_reducible refine zaw _ ?_)
   | (with_reducible refine zav ?_ ?_)
   | split
   | (intro _)
   | (dsimp only)
def ExtOk (z:Bool) (P:Program) (X:List FuncId):Prop:=∀ f∈X,∀ args,zd1 z P (OpOk (fun _=>False)) (callFunc f args)
theorem opOk_mono {C':FuncId→Prop} {n:Next} (h:OpOk (fun _=>False) n):OpOk C' n:=by
 cases n<;>first | exact h | exact h.elim
theorem calm_of {L X:List FuncId} (hX:ExtOk z P X) {o:Oper} (h:calmB z P L X o.op=true):zde z P (·∈L) o:=by
 obtain ⟨dst,op,ty,pos,after,guard⟩:=o
 simp only at h
 refine ⟨fun c e => ?_,fun fr => ?_⟩
 ·
  simp only at e
  subst e
  cases h
 cases op with
 | move x=>exact True.intro
 | assign x=>exact True.intro
 | pick c a b =>
  refine zbj (V:=fun _=>True) (f:=fun b'=>pure (Next.value (if b' then fr.eval a else fr.eval b))) (fun _ _ => ?_) (t_asBool (fr.eval c))
  exact True.intro
 | alloc e=>exact zdy (t_alloc _ _ _)
 | box e x=>exact zdy (t_box _ _)
 | build t ps=>exact zdy (t_build _ _)
 | buildSlice t n ps=>exact zdy (t_buildSlice _ _ _)
 | load t a=>exact zdy (t_loadAt _ _)
 | store t a x=>exact t_skip (t_storeAt _ _ _)
 | binOp op t x y u=>exact zdy (zah (t_eqGuard _ _ _ _ _ _) fun _=>t_binOpZ h (fun y=>fr.eval y) (fun c=>rfl))
 | unOp op t x=>exact zdy (t_unary _ _)
 | makeInterface t x=>exact zdy (zed _ _)
 | makeFunc f a b=>exact zdy (t_makeFunc _ _ _)
 | makeChan t x=>exact zdy (t_makeChan _ _)
 | makeSlice t a b=>exact zdy (t_makeSlice _ _ _)
 | slice t x a b c=>exact zdy (t_sliceAt _ _ _ _ _)
 | fieldAddr s x f=>exact zdy (t_fieldAt _ _ _)
 | field t x f=>exact zdy (t_field _ _ _)
 | indexAddr t x i=>exact zdy (t_indexAt _ _ _)
 | extract t i=>exact zdy (t_extract _ _)
 | convert s d x =>
  simp only [calmB,Bool.or_eq_true] at h
  rcases h with (h | h) | h
  ·
   rw [Bool.and_eq_true] at h
   exact zdy (t_convert h.1 h.2 _)
  ·
   exact zdy (t_convertU (.inl h) _)
  ·
   exact zdy (t_convertU (.inr h) _)
 | nilCheck x =>
  unfold execOp
  dsimp only
  split
  ·
   exact t_nilPanic
  ·
   exact t_nilPanic
  ·
   exact t_nilPanic
  ·
   split
   ·
    exact t_nilPanic
   ·
    rename_i t w hh
    refine zbj (V:=fun _=>True) (s:=program) (fun p _ => ?_) (zb0 (P:=P))
    refine zbj (V:=fun _=>True) (s:=nilAhead (p.types.size+Made.depth) t w _) (fun b _ => ?_) (t_nilAhead _ _ _ _)
    cases hb:(b != some false)<;>exact True.intro
   ·
    exact True.intro
  ·
   exact True.intro
 | call c =>
  obtain ⟨callee,args,ats⟩:=c
  cases callee with
  | builtin b =>
   simp only [calmB] at h
   show zd1 z P _ (builtin b ats ty _ _)
   cases b<;>first | (exfalso;revert h;simp;done) | exact zdy (t_appendZ _ _ _) | exact zdy (t_len _ _ _) | exact zdy (t_min _ _ _) | exact zdy (t_max _ _ _)
  | invoke a b=>cases h
  | value f =>
   cases f<;>first | cases h | skip
   rename_i f
   have hg:(goFn P L f || X.contains f)=true:=h
   show zd1 z P _ (callFunc f _)
   rw [Bool.or_eq_true] at hg
   rcases hg with hg | hg
   ·
    exact t_callFunc hg _
   ·
    exact zcc (fun _=>opOk_mono) (hX f (by simpa using hg) _)
 | _=>cases h
theorem t_ext {f:FuncId} {fn:Func} {e:Array Value→Sem Value} (hf:P.funcs[f]?=some fn) (hn:(fn.name == "runtime.NumGoroutine")=false) (hb:fn.body.isNone=true) (h1:Extern.findNext fn=none) (h2:Extern.find fn=some e) (he:∀ args,T z P (e args)) (args:Array Value):zd1 z P (OpOk (fun _=>False)) (callFunc f args):=by
 unfold callFunc
 show zd1 z P _ (match P.funcs[f]? with | none=>_ | some fn=>_)
 rw [hf]
 simp only [hn,hb,Bool.false_eq_true,if_false,if_true,h1,h2]
 refine zbj (V:=fun _=>True) (s:=mark (.extern f)) (fun _ _ => ?_) (t_mark (P:=P) _ (by simp) (by simp) (by simp))
 exact zdy (he args)
theorem t_read (t:Extern.Atomic.T) (a:Addr):T z P (Extern.Atomic.read t a):=by
 unfold Extern.Atomic.read
 refine zah (t_load _ _) fun v => ?_
 repeat' first
  | with_reducible exact zai _
  | with_reducible exact za3 _
  | split
theorem t_loadT (t:Extern.Atomic.T) (args:Array Value):T z P (Extern.Atomic.loadT t args):=by
 obtain ⟨l⟩:=args
 rcases l with _ | ⟨v,_ | ⟨u,r⟩⟩<;>first | exact zal _ | skip
 exact zah (zd4 v) fun a=>t_read t a
theorem t_storeT (args:Array Value):T z P (Extern.Atomic.storeT args):=by
 obtain ⟨l⟩:=args
 rcases l with _ | ⟨v,_ | ⟨u,_ | ⟨x,r⟩⟩⟩<;>first | exact zal _ | skip
 exact zah (zd4 v) fun a=>zah (t_store _ _ _) fun _=>zai _
theorem t_swapT (t:Extern.Atomic.T) (args:Array Value):T z P (Extern.Atomic.swapT t args):=by
 obtain ⟨l⟩:=args
 rcases l with _ | ⟨v,_ | ⟨u,_ | ⟨x,r⟩⟩⟩<;>first | exact zal _ | skip
 exact zah (zd4 v) fun a=>zah (t_read t a) fun _=>zah (t_store _ _ _) fun _=>zai _
theorem t_update {op:IntKind→Int→Int→Sem Value} (hop:∀ k x y,T z P (op k x y)) (k:IntKind) (b:Bool) (args:Array Value):T z P (Extern.Atomic.update op k b args):=by
 obtain ⟨l⟩:=args
 rcases l with _ | ⟨v,_ | ⟨u,_ | ⟨x,r⟩⟩⟩<;>first | exact zal _ | skip
 exact zah (zd4 v) fun a=>zah (t_read _ a) fun old=>zah (t_asInt _) fun _=>zah (t_asInt _) fun _=>zah (hop _ _ _) fun _=>zah (t_store _ _ _) fun _=>zai _
end
end Go.Proofs.Ytofacoojpgkbiaa
/-
 The program's calm functions,by a check of their code. No condition of its own.
-/
namespace Go.Proofs.Ytofacoojpgkbiaa
open Go.Conc
def zc5 (z:Bool) (P:Program) (L X:List FuncId):Code→Bool
 | .skip | .label _ | .ret | .exit _=>true
 | .seq a b=>zc5 z P L X a && zc5 z P L X b
 | .cond _ a b=>zc5 z P L X a && zc5 z P L X b
 | .block _ c=>zc5 z P L X c
 | .loop c=>zc5 z P L X c
 | .region _ ops _=>ops.toList.all fun o=>calmB z P L X o.op
 | _=>false
def calmFnB (z:Bool) (P:Program) (L X:List FuncId) (f:FuncId):Bool:=match (P.funcs[f]?).bind (·.body) with
 | some c=>zc5 z P L X c
 | none=>false
section
variable {z:Bool} {P:Program} {L X:List FuncId}
theorem zab (hX:ExtOk z P X):∀ {c:Code},zc5 z P L X c=true→zb3 z P (·∈L) c
 | .skip,_=>trivial
 | .label _,_=>trivial
 | .ret,_=>trivial
 | .exit _,_=>trivial
 | .seq a b,h=>by
  simp only [zc5,Bool.and_eq_true] at h
  exact ⟨zab hX h.1,zab hX h.2⟩
 | .cond _ a b,h=>by
  simp only [zc5,Bool.and_eq_true] at h
  exact ⟨zab hX h.1,zab hX h.2⟩
 | .block _ c,h=>zab hX (c:=c) h
 | .loop c,h=>zab hX (c:=c) h
 | .region _ ops _,h=>fun o ho=>calm_of hX (List.all_eq_true.1 h o (Array.mem_toList_iff.2 ho))
 | .rangeFunc ..,h=>by cases h
 | .scope _,h=>by cases h
 | .goto _,h=>by cases h
 | .refuse _,h=>by cases h
theorem t_results (fn:Func) (tmps:Array Value):T z P (results fn tmps):=by
 unfold results
 refine zah (t_mapM (fun r => ?_) _) fun _=>zai _
 cases r with
 | tmp t=>exact zai _
 | cell a t=>exact zah (zd4 _) fun _=>t_loadVar _ _
theorem zaa {f:FuncId} {fn:Func} (h:P.funcs[f]?=some fn):zbu z P f:=⟨fn,h,fun tmps=>t_results fn tmps⟩
theorem calmFn_of (hX:ExtOk z P X) {f:FuncId} (h:calmFnB z P L X f=true):CalmFn z P (·∈L) f:=by
 unfold calmFnB at h
 cases hf:P.funcs[f]? with
 | none=>rw [hf] at h;cases h
 | some fn =>
  rw [hf] at h
  cases hb:fn.body with
  | none=>simp only [Option.bind_some,hb] at h;cases h
  | some c =>
   simp only [Option.bind_some,hb] at h
   exact ⟨⟨fn,c,hf,hb,zab hX h⟩,zaa hf⟩
theorem stepOf_none (h:P.funcs.toList.all (fun f=>((f.body.map readies).getD []).isEmpty)=true) (g:Nat):P.stepOf g=none:=by
 unfold Program.stepOf
 rw [Array.findIdx?_eq_none_iff]
 intro f hf
 have:=List.all_eq_true.1 h f (Array.mem_toList_iff.2 hf)
 cases hb:f.body with
 | none=>rfl
 | some c =>
  rw [hb] at this
  simp only [Option.map_some,Option.getD_some,List.isEmpty_iff] at this
  simp [this]
theorem early_ended (h1:P.follows .staticDataAhead=true) (h:P.funcs.toList.all (fun f=>((f.body.map readies).getD []).isEmpty)=true) (fr:Frame) (cs:List Frame) (dy:Option Dying) (g:Nat) (w:World):∃ o w' es,early P fr cs dy g w = .ended o w' es:=by
 unfold early
 simp only [h1,Bool.not_true,Bool.false_eq_true,if_false,stepOf_none h g]
 exact ⟨_,_,_,rfl⟩
theorem prg_of (hX:ExtOk z P X) (h1:P.follows .staticDataAhead=true) (h:P.funcs.toList.all (fun f=>((f.body.map readies).getD []).isEmpty)=true) (hL:L.all (calmFnB z P L X)=true):Prg z P (·∈L) :=
 ⟨early_ended h1 h,fun f hf=>calmFn_of hX (List.all_eq_true.1 hL f hf)⟩
end
end Go.Proofs.Ytofacoojpgkbiaa
