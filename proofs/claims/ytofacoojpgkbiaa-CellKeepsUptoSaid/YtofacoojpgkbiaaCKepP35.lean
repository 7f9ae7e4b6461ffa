/-
  A part of a proof. No condition of its own.
-/
import Derived.Test.YtofacoojpgkbiaaCKepP33
import Derived.Test.YtofacoojpgkbiaaCKepP26
set_option linter.unusedVariables false
set_option maxHeartbeats 8000000
set_option linter.unusedSimpArgs false
namespace Go.Proofs.Ytofacoojpgkbiaa.OpenB
open Go.ChangeShapes Go.WideShapes Go.ChangeAt Go.RowKit Go.Deep
section
variable {H:Type} {enc:TypeId×Value→H} {W:World} {held:Bool}
theorem zqr {n:Nat} {t e:TypeId} (ht:Try.prog.underlying t=some (.slice e)) {v:Value} {y:DataW H×List MemPlace} (h:DataW.trod enc Try.prog W 0 (fun _=>true) held n t [v]=some y):∀ k c,v = .slice none k c→c=0:=by
 rintro k c rfl;rcases DataW.trod_slice ht h with ⟨e1,_⟩|⟨a,len,cap,elems,rest,n,_,e1,_⟩
 ·simp at e1;exact e1.2
 ·simp at e1
theorem thr_n {n len cap:Nat} {ao:Option Addr} {d:DataW H} {p:List MemPlace} (h:DataW.trod enc Try.prog W 0 (fun _=>true) held n 23 [.slice ao len cap]=some (d,p)) {LL:List (List OpD)} (hT:ThrIn W (.slice ao len cap) LL):ThrN W (.slice ao len cap) LL:=by
 obtain ⟨D,hrow,hbk,hlc,_⟩:=zfd Try.underlying23 zq6 (by omega) h;obtain ⟨a,c,e,ob,ln,cp,q1,q2⟩:=hT;injection e with e1 e2 e3;subst e1 e2 e3;refine ⟨_,_,rfl,ob,ln,cp,q1,fun i L hL=>⟨q2 i L hL,fun hn=>?_⟩⟩;have hi:=(yai.1 hL).1;rcases hrow with e4|⟨g,o,e5,hrow⟩
 ·omega
 ·obtain ⟨b,o',e6,q3⟩:=q1 (fun z=>by rw [z] at hi;simp at hi);rw [e5] at e6;injection e6 with e6;injection e6 with e7 e8;subst e7 e8;have h1:=q3 i _ hL;obtain ⟨cs,n',p',h2,hcl,h3⟩:=hrow i (by omega);obtain ⟨ao',l',c',rfl⟩:=zdn Try.underlying34 h2;have h4:=h3 0 (by omega);simp only [Nat.mul_one,Nat.add_zero,yaa] at h4;rw [h4] at h1;injection h1 with h1;exact zqr Try.underlying34 h2 (ln i) (cp i) (by rw [h1,hn])
set_option maxRecDepth 100000 in
theorem open_worldN {base:Nat} {v:Value} {d:DataW H} {p:List MemPlace} (hval:Value.okWide Try.prog W .any base 71 v) (h:DataW.Trod enc Try.prog W 0 (fun _=>true) held 71 v d p) (hb:Rows.uptoBulk d≤1048576) :
  ∃ vw vt vs ws LL sch most,v = .agg #[vw,vt,vs,.int .i64 most]∧WorldIn W vw vt vs ws LL sch most∧IntsN W vw ws∧ThrN W vt LL∧IntsN W vs sch:=by
 obtain ⟨cs,rfl,_,_⟩:∃ cs,v = .agg cs∧cs.size=Try.prog.cellsOf 71∧Row.okWide Try.prog W .any base 71 cs:=by
  unfold Value.okWide at hval;rw [Try.underlying71] at hval;exact hval
 obtain ⟨f,hf0⟩:=h;have hf1:DataW.trod enc Try.prog W 0 (fun _=>true) held f 71 cs.toList=some (d,p):=hf0;obtain ⟨xs,m,_,hy,hl,hxl,hf⟩:=DataW.trod_struct Try.underlying71 hf1;rw [zv8] at hl;have hxl':xs.length=4:=hxl;obtain ⟨v0,v1,v2,v3,hcs⟩:=ln4 hl;obtain ⟨x0,x1,x2,x3,rfl⟩:=ln4 hxl';rw [hcs] at hf;have g0:DataW.trod enc Try.prog W 0 (fun _=>true) held m 22 (([v0,v1,v2,v3].drop 0).take (Try.prog.cellsOf 22))=some x0:=hf 0 _ rfl;have g1:DataW.trod enc Try.prog W 0 (fun _=>true) held m 23 (([v0,v1,v2,v3].drop 1).take (Try.prog.cellsOf 23))=some x1:=hf 1 _ rfl;have g2:DataW.trod enc Try.prog W 0 (fun _=>true) held m 24 (([v0,v1,v2,v3].drop 2).take (Try.prog.cellsOf 24))=some x2:=hf 2 _ rfl;have g3:DataW.trod enc Try.prog W 0 (fun _=>true) held m 3 (([v0,v1,v2,v3].drop 3).take (Try.prog.cellsOf 3))=some x3:=hf 3 _ rfl;rw [zwb] at g0;rw [zwa] at g1;rw [zv9] at g2;rw [zpm] at g3;obtain ⟨a0,l0,c0,e0⟩:=zdn Try.underlying22 g0;obtain ⟨a1,l1,c1,e1⟩:=zdn Try.underlying23 g1;obtain ⟨a2,l2,c2,e2⟩:=zdn Try.underlying24 g2;obtain ⟨z,e3,w3⟩:=zhi Try.underlying3 (y:=x3) g3;simp at e0 e1 e2 e3;subst e0 e1 e2 e3;obtain ⟨x0a,x0b⟩:=x0;obtain ⟨x1a,x1b⟩:=x1;obtain ⟨x2a,x2b⟩:=x2;obtain ⟨ws,hw,_,iW,bW⟩:=zie Try.underlying22 Try.underlying2 zwc g0;obtain ⟨LL,hL,_,iL,bL⟩:=zrx g1;obtain ⟨Q,hQ,_,iQ,bQ⟩:=zie Try.underlying24 Try.underlying3 zpm g2;have hob:=zrj g1 iL;have hbk:Rows.uptoBulk x0a≤1048576∧Rows.uptoBulk x1a≤1048576∧Rows.uptoBulk x2a≤1048576:=by
  have e:d=_:=(congrArg Prod.fst hy);rw [e] at hb;simp only [List.map_cons,List.map_nil,Rows.uptoBulk,Rows.uptoBulkAll] at hb;omega
 have hn0:=zqr Try.underlying22 g0;have hn1:=thr_n g1 iL;have hn2:=zqr Try.underlying24 g2;refine ⟨_,_,_,ws,LL,Q,z,?_,⟨iW,iL,iQ,by omega,by omega,fun L hL=>Nat.le_trans (hob L hL) hbk.2.1,by omega,w3⟩,⟨iW,hn0⟩,hn1,⟨iQ,hn2⟩⟩;congr 1;apply Array.toList_inj.1;rw [hcs]
end
end Go.Proofs.Ytofacoojpgkbiaa.OpenB
