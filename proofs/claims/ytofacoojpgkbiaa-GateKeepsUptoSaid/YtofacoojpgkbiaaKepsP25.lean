/-
  A part of a proof. No condition of its own.
-/
import Derived.Deep.RegionLaw
import Derived.Test.YtofacoojpgkbiaaKepsP23
set_option linter.unusedVariables false
set_option maxHeartbeats 8000000
set_option linter.unusedSimpArgs false
namespace Go.Proofs.Ytofacoojpgkbiaa
open Go.Conc Go.RowKit
open Go.ConcN (upd upd_ne upd_same)
set_option maxRecDepth 100000
def zgk (t:GT) (r:Ans):GT:={ t with ans:=t.ans++[r],at_:=t.at_+1,pc:=0 }
section
variable {K:MK} {V:MV} {S:GMc} {w:World} {i:Nat}
end
def zc7 (S:GMc) (i:Nat) (o:OpD):GMc :=
 if o.kind < 1∨7 < o.kind then S.setT i (zgk (S.T i) ⟨false,0,[]⟩)
 else if o.kind≤4∧(o.a < 0∨64≤o.a) then S.setT i (zgk (S.T i) ⟨false,1,[]⟩)
 else S.setT i { S.T i with pc:=1 }
def zpd (S:GMc) (i:Nat) (l:List Int):GMc :=
 if S.ser≠(S.T i).ser then S.setT i { S.T i with pc:=1 }
 else ({ S with L:=l,ser:=S.ser+1 }:GMc).setT i (zgk (S.T i) ⟨true,0,[]⟩)
section
variable {K:MK} {V:MV} {S:GMc} {w:World} {i:Nat}
end
def zfj (S:GMc) (i:Nat) (o:OpD):GMc :=
 if o.kind=6 then S.setT i (zgk (S.T i) ⟨true,(S.T i).least,[(S.T i).place]⟩)
 else if (S.T i).list.length=0∨zqm (S.T i).least o.a o.b=true then S.setT i (zgk (S.T i) ⟨true,-1,[]⟩)
 else S.setT i (zgk (S.T i) ⟨false,(S.T i).place,[]⟩)
def zgh (S:GMc) (i:Nat) (o:OpD) (pc:Int):GMc :=
 if pc=1 then
  if 0 < (S.T i).list.length then S else zfj (S.setT i { S.T i with place := -1,least:=o.a }) i o
 else
  let p:=(S.T i).list.getD (pc - 2).toNat 0
  let n:=S.N p.toNat
  let S':=if pc=2∨n < (S.T i).least then S.setT i { S.T i with least:=n,place:=p } else S
  if pc - 1 < (S.T i).list.length then S' else zfj S' i o
section
variable {K:MK} {V:MV} {S:GMc} {w:World} {i:Nat}
end
def opG (t:GT):OpD:=t.ops.getD t.at_ ⟨0,0,0,0⟩
section
variable {K:MK} {V:MV} {S:GMc} {w:World} {i:Nat}
end
def GMc.setN (S:GMc) (j:Nat) (v:Int):GMc:={ S with N:=upd S.N j v }
def zqd (S:GMc) (i:Nat) (r:Ans):GMc:=S.setT i (zgk (S.T i) r)
theorem GMc.setN_T (S:GMc) (j:Nat) (v:Int):(S.setN j v).T=S.T:=rfl
section
variable {K:MK} {V:MV} {S:GMc} {w:World} {i:Nat}
end
section
variable {K:MK} {V:MV} {S:GMc} {w:World} {i:Nat}
end
section
variable {K:MK} {V:MV} {S:GMc} {w:World} {i:Nat}
end
section
variable {K:MK} {V:MV} {S:GMc} {w:World} {i:Nat}
end
section
variable {K:MK} {V:MV} {S:GMc} {w:World} {i:Nat}
end
section
variable {K:MK} {V:MV} {S:GMc} {w:World} {i:Nat}
end
section
variable {K:MK} {V:MV} {S:GMc} {w:World} {i:Nat}
end
end Go.Proofs.Ytofacoojpgkbiaa
