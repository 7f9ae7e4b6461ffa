/-
  A part of a proof. No condition of its own.
-/
import Derived.Test.YtofacoojpgkbiaaCBxP28
import Derived.Test.YtofacoojpgkbiaaCBxP25
set_option linter.unusedVariables false
set_option maxHeartbeats 8000000
set_option linter.unusedSimpArgs false
namespace Go.Proofs.Ytofacoojpgkbiaa.OpenB
open Go.ChangeShapes Go.WideShapes Go.ChangeAt Go.RowKit Go.Deep
section
variable {H:Type} {enc:TypeId×Value→H} {W:World} {held:Bool}
theorem cells9:Try.prog.cellsOf 9=1:=by kernel_rfl
theorem ztg:Try.prog.cellsOf 91=2:=by kernel_rfl
theorem pn2 {α:Type} {l:List α} (h:l.length=2):∃ a b,l=[a,b]:=by
 match l,h with
 | [a,b],_=>exact ⟨a,b,rfl⟩
theorem zup {n:Nat} {cs:List Value} {y:DataW H×List MemPlace} (h:DataW.trod enc Try.prog W 0 (fun _=>true) held n 91 cs=some y):∃ p:ByteArray×Int,cs=[.string p.1,.int .i64 p.2]:=by
 obtain ⟨xs,m,_,hy,hl,hxl,hf⟩:=DataW.trod_struct Try.underlying91 h;rw [ztg] at hl;have hxl':xs.length=2:=hxl;obtain ⟨v0,v1,rfl⟩:=pn2 hl;obtain ⟨x0,x1,rfl⟩:=pn2 hxl';have g0:DataW.trod enc Try.prog W 0 (fun _=>true) held m 9 (([v0,v1].drop 0).take (Try.prog.cellsOf 9))=some x0:=hf 0 _ rfl;have g1:DataW.trod enc Try.prog W 0 (fun _=>true) held m 2 (([v0,v1].drop 1).take (Try.prog.cellsOf 2))=some x1:=hf 1 _ rfl;rw [cells9] at g0;rw [cells2] at g1;obtain ⟨s,e0,_⟩:=DataW.trod_string Try.underlying9 g0;obtain ⟨z,e1,_⟩:=int_one Try.underlying2 (y:=x1) g1;simp at e0 e1;subst e0 e1;exact ⟨(s,z),rfl⟩
instance:Inhabited (ByteArray×Int):=⟨(⟨#[]⟩,0)⟩
theorem open_pairs {n len cap:Nat} {ao:Option Addr} {d:DataW H} {p:List MemPlace} (h:DataW.trod enc Try.prog W 0 (fun _=>true) held n 87 [.slice ao len cap]=some (d,p)) :
  ∃ L:List (ByteArray×Int),PB.PairsIn W ao L∧L.length=len∧len≤cap∧cap≤maxLen:=by
 obtain ⟨D,hrow,hbk,hlc,hcm⟩:=zsd Try.underlying87 ztg (by omega) h;refine (?_:∃ L:List (ByteArray×Int),PB.PairsIn W ao L∧L.length=len).imp fun L hL=>⟨hL.1,hL.2,hlc,hcm⟩;rcases hrow with rfl|⟨g,o,rfl,hrow⟩
 ·exact ⟨[],fun hne=>absurd rfl hne,rfl⟩
 ·have each:∀ i,i < len→∃ x:ByteArray×Int,PB.PairCells W g (o+i * 2) x:=by
   intro i hi;obtain ⟨cs,n',p',h1,_,h2⟩:=hrow i hi;obtain ⟨x,rfl⟩:=zup h1;exact ⟨x,h2 0 (by omega),h2 1 (by omega)⟩
  obtain ⟨f,hf⟩:=ztf (α:=ByteArray×Int) each;refine ⟨(List.range len).map f,fun _=>⟨g,o,rfl,fun j x hj=>?_⟩,by simp⟩;obtain ⟨hj',rfl⟩:=zuw hj;exact hf j hj'
end
end Go.Proofs.Ytofacoojpgkbiaa.OpenB
