/-
  A part of a proof. No condition of its own.
-/
import Derived.Test.YtofacoojpgkbiaaCPlsP20
import Derived.Test.YtofacoojpgkbiaaCPlsP41
import Derived.Test.YtofacoojpgkbiaaCPlsP07
import Derived.Deep.Slices
import Derived.Lib.Buffer
set_option linter.unusedVariables false
set_option maxHeartbeats 8000000
set_option linter.unusedSimpArgs false
namespace Go.Proofs.Ytofacoojpgkbiaa.OpenB
open Go.ChangeShapes Go.WideShapes Go.ChangeAt Go.RowKit Go.Deep
theorem zk9 {α:Type} [Inhabited α] {n:Nat} {P:Nat→α→Prop} (h:∀ i,i < n→∃ x,P i x):∃ f:Nat→α,∀ i,i < n→P i (f i):=by
 refine ⟨fun i=>if hi:i < n then Classical.choose (h i hi) else default,fun i hi=>?_⟩;simp only [dif_pos hi];exact Classical.choose_spec (h i hi)
section
variable {H:Type} {enc:TypeId×Value→H} {W:World} {held:Bool}
theorem zsn {w:World} {x:Addr} {v:Value} {i:Nat} (h:w.cell? (x.add i)=some v) (hs:x.spot=none):x.add i=⟨x.block,x.off+i,none⟩:=by
 cases x;simp at hs;subst hs;simp [Addr.add];try (intro h;exact h)
theorem zub {w:World} {x:Addr} {v:Value} (h:w.cell? (x.add 0)=some v):x.spot=none:=by
 cases hx:x.spot with
 | none=>rfl
 | some y =>
  unfold World.cell? at h;split at h
  ·simp [Addr.add,hx] at h
  ·cases h
theorem zf2 {n:Nat} {t e:TypeId} {k len cap:Nat} {ao:Option Addr} {d:DataW H} {p:List MemPlace} (ht:Try.prog.underlying t=some (.slice e)) (hk:Try.prog.cellsOf e=k) (hk0:0 < k)
  (h:DataW.trod enc Try.prog W 0 (fun _=>true) held n t [.slice ao len cap]=some (d,p)) :
  ∃ D:Nat→DataW H,(len=0∨∃ g o,ao=some ⟨g,o,none⟩∧∀ i,i < len→∃ cs n' p',DataW.trod enc Try.prog W 0 (fun _=>true) held n' e cs=some (D i,p')∧cs.length=k∧∀ j,j < k→W.cell? ⟨g,o+i * k+j,none⟩=cs[j]?) ∧
   Rows.uptoBulkAll ((List.range len).map D)+1≤Rows.uptoBulk d∧len≤cap∧cap≤maxLen:=by
 rcases open_slice ht h with ⟨hcs,hd⟩|⟨a,l,c,m,n',D,Pl,hcs,_,hl,hm,hmm,hd,hx⟩
 ·cases hcs;cases hd;exact ⟨fun _ => .nil,.inl rfl,by simp [Rows.uptoBulkAll,Rows.uptoBulk],yax _,Nat.zero_le _⟩
 ·cases hcs;simp only [Prod.mk.injEq] at hd;obtain ⟨rfl,_⟩:=hd;simp only [if_true] at hmm;subst hmm;refine ⟨D,?_,bulks.slice_elems _ _,hl,hm⟩;rcases Nat.eq_zero_or_pos len with h0|h0
  ·exact .inl h0
  ·right;have hall:∀ i,i < len→∃ cs,DataW.trod enc Try.prog W 0 (fun _=>true) held n' e cs=some (D i,Pl i)∧cs.length=k∧∀ j,j < k→W.cell? (a.add (i * k+j))=cs[j]?:=by
    intro i hi;obtain ⟨cs,h1,h2⟩:=hx i (by omega);rw [hk] at h1;obtain ⟨_,hlen,hcell⟩:=World.cells?_some h1;refine ⟨cs,h2,hlen,fun j hj=>?_⟩;have:=hcell j hj;rw [add_add] at this;exact this
   obtain ⟨cs0,_,hl0,hc0⟩:=hall 0 h0;have hs:a.spot=none:=by
    have h1:=hc0 0 hk0;rw [List.getElem?_eq_getElem (by omega)] at h1;simp only [Nat.zero_mul,Nat.add_zero] at h1;exact zub h1
   refine ⟨a.block,a.off,by cases a;simp at hs;rw [hs],fun i hi=>?_⟩;obtain ⟨cs,h1,h2,h3⟩:=hall i hi;refine ⟨cs,n',_,h1,h2,fun j hj=>?_⟩;have h4:=h3 j hj;obtain ⟨v,hv⟩:∃ v,cs[j]?=some v:=⟨_,List.getElem?_eq_getElem (by omega)⟩;rw [hv] at h4 ⊢;rw [zsn h4 hs,← Nat.add_assoc] at h4;exact h4
theorem zir {n:Nat} {t:TypeId} (ht:Try.prog.underlying t=some (.int .i64)) {cs:List Value} {y:DataW H×List MemPlace} (h:DataW.trod enc Try.prog W 0 (fun _=>true) held n t cs=some y):∃ z,cs=[.int .i64 z]∧zch z:=by
 obtain ⟨z,h1,h2,h3⟩:=DataW.trod_int ht h;refine ⟨z,h1,?_⟩;have h0:IntKind.i64.min = -9223372036854775808:=rfl;have h4:IntKind.i64.max=9223372036854775807:=rfl;simp only [Lit.wf,Bool.and_eq_true,decide_eq_true_eq] at h3;unfold zch;omega
theorem ln4 {α:Type} {l:List α} (h:l.length=4):∃ a b c d,l=[a,b,c,d]:=by
 match l,h with
 | [a,b,c,d],_=>exact ⟨a,b,c,d,rfl⟩
theorem zy8:Try.prog.cellsOf 2=1:=by kernel_rfl
theorem zvt:Try.prog.cellsOf 3=1:=by kernel_rfl
theorem zvs:Try.prog.cellsOf 34=1:=by kernel_rfl
theorem zqk:Try.prog.cellsOf 45=4:=by kernel_rfl
theorem bulk_at {D:Nat→DataW H} {n i:Nat} (hi:i < n):Rows.uptoBulk (D i)≤Rows.uptoBulkAll ((List.range n).map D) :=
 bulks.part_le (List.mem_map.2 ⟨i,List.mem_range.2 hi,rfl⟩)
theorem op_one {n:Nat} {cs:List Value} {y:DataW H×List MemPlace} (h:DataW.trod enc Try.prog W 0 (fun _=>true) held n 45 cs=some y):∃ o:OpD,cs=[.int .i64 o.kind,.int .i64 o.a,.int .i64 o.b,.int .i64 o.c]∧o.Ok:=by
 obtain ⟨xs,m,_,hy,hl,hxl,hf⟩:=DataW.trod_struct Try.underlying45 h;rw [zqk] at hl;have hxl':xs.length=4:=hxl;obtain ⟨v0,v1,v2,v3,rfl⟩:=ln4 hl;obtain ⟨x0,x1,x2,x3,rfl⟩:=ln4 hxl';have g0:DataW.trod enc Try.prog W 0 (fun _=>true) held m 3 (([v0,v1,v2,v3].drop 0).take (Try.prog.cellsOf 3))=some x0:=hf 0 _ rfl;have g1:DataW.trod enc Try.prog W 0 (fun _=>true) held m 2 (([v0,v1,v2,v3].drop 1).take (Try.prog.cellsOf 2))=some x1:=hf 1 _ rfl;have g2:DataW.trod enc Try.prog W 0 (fun _=>true) held m 2 (([v0,v1,v2,v3].drop 2).take (Try.prog.cellsOf 2))=some x2:=hf 2 _ rfl;have g3:DataW.trod enc Try.prog W 0 (fun _=>true) held m 2 (([v0,v1,v2,v3].drop 3).take (Try.prog.cellsOf 2))=some x3:=hf 3 _ rfl;rw [zy8] at g1 g2 g3;rw [zvt] at g0;obtain ⟨q,e0,w0⟩:=zir Try.underlying3 (y:=x0) g0;obtain ⟨a,e1,w1⟩:=zir Try.underlying2 (y:=x1) g1;obtain ⟨b,e2,w2⟩:=zir Try.underlying2 (y:=x2) g2;obtain ⟨d,e3,w3⟩:=zir Try.underlying2 (y:=x3) g3;simp at e0 e1 e2 e3;subst e0 e1 e2 e3;exact ⟨⟨q,a,b,d⟩,rfl,w0,w1,w2,w3⟩
instance:Inhabited OpD:=⟨⟨0,0,0,0⟩⟩
theorem zjt {α:Type} {n i:Nat} {f:Nat→α} {x:α} (h:((List.range n).map f)[i]?=some x):i < n∧x=f i:=by
 have hlt:=(yai.1 h).1;rw [List.length_map,List.length_range] at hlt;rw [List.getElem?_map,List.getElem?_range hlt] at h;exact ⟨hlt,(yaw h).symm⟩
theorem zxh {n len cap:Nat} {ao:Option Addr} {d:DataW H} {p:List MemPlace} (h:DataW.trod enc Try.prog W 0 (fun _=>true) held n 34 [.slice ao len cap]=some (d,p)) :
  ∃ L:List OpD,OpsIn W ao len cap L∧cap≤maxLen:=by
 obtain ⟨D,hrow,hbk,hlc,hcm⟩:=zf2 Try.underlying34 zqk (by omega) h;refine (?_:∃ L:List OpD,OpsIn W ao len cap L).imp fun L hL=>⟨hL,hcm⟩;rcases hrow with rfl|⟨g,o,rfl,hrow⟩
 ·exact ⟨[],fun o ho=>absurd ho (by simp),rfl,hlc,fun hne=>absurd rfl hne⟩
 ·have each:∀ i,i < len→∃ x:OpD,zv9 W g (o+i * 4) x∧x.Ok:=by
   intro i hi;obtain ⟨cs,n',p',h1,_,h2⟩:=hrow i hi;obtain ⟨x,rfl,hok⟩:=op_one h1;exact ⟨x,⟨h2 0 (by omega),h2 1 (by omega),h2 2 (by omega),h2 3 (by omega)⟩,hok⟩
  obtain ⟨f,hf⟩:=zk9 (α:=OpD) each;refine ⟨(List.range len).map f,fun x hx=>?_,by simp,hlc,fun _=>⟨g,o,rfl,fun j x hj=>?_⟩⟩
  ·obtain ⟨i,hi,rfl⟩:=List.mem_map.1 hx;exact (hf i (List.mem_range.1 hi)).2
  ·obtain ⟨hj',rfl⟩:=zjt hj;exact (hf j hj').1
theorem zfv {n:Nat} {t e:TypeId} (ht:Try.prog.underlying t=some (.slice e)) {cs:List Value} {y:DataW H×List MemPlace} (h:DataW.trod enc Try.prog W 0 (fun _=>true) held n t cs=some y):∃ ao len cap,cs=[.slice ao len cap]:=by
 rcases DataW.trod_slice ht h with ⟨rfl,_⟩|⟨a,len,cap,elems,rest,n,_,rfl,_⟩
 ·exact ⟨none,0,0,rfl⟩
 ·exact ⟨some a,len,cap,rfl⟩
theorem zxg {n len cap:Nat} {ao:Option Addr} {d:DataW H} {p:List MemPlace} (h:DataW.trod enc Try.prog W 0 (fun _=>true) held n 23 [.slice ao len cap]=some (d,p)) :
  ∃ LL:List (List OpD),LL.length=len∧len≤cap∧ThrIn W (.slice ao len cap) LL∧len+1≤Rows.uptoBulk d:=by
 obtain ⟨D,hrow,hbk,hlc,_⟩:=zf2 Try.underlying23 zvs (by omega) h;have hb:len+1≤Rows.uptoBulk d:=by
  have:=bulks.length_le ((List.range len).map D);simp only [List.length_map,List.length_range] at this;omega
 rcases hrow with rfl|⟨g,o,rfl,hrow⟩
 ·exact ⟨[],rfl,hlc,⟨ao,cap,rfl,fun _=>none,fun _=>0,fun _=>0,fun hne=>absurd rfl hne,fun i L hi=>by simp at hi⟩,hb⟩
 ·have each:∀ i,i < len→∃ x:(Option Addr×Nat×Nat)×List OpD,W.cell? ⟨g,o+i,none⟩=some (.slice x.1.1 x.1.2.1 x.1.2.2)∧OpsIn W x.1.1 x.1.2.1 x.1.2.2 x.2:=by
   intro i hi;obtain ⟨cs,n',p',h1,_,h2⟩:=hrow i hi;obtain ⟨ao',l',c',rfl⟩:=zfv Try.underlying34 h1;obtain ⟨L,hL,_⟩:=zxh h1;have:=h2 0 (by omega);simp at this;exact ⟨⟨⟨ao',l',c'⟩,L⟩,this,hL⟩
  obtain ⟨f,hf⟩:=zk9 (α:=(Option Addr×Nat×Nat)×List OpD) each;refine ⟨(List.range len).map fun i=>(f i).2,by simp,hlc,⟨_,cap,by simp,fun i=>(f i).1.1,fun i=>(f i).1.2.1,fun i=>(f i).1.2.2,fun _=>⟨g,o,rfl,fun i L hi=>?_⟩,fun i L hi=>?_⟩,hb⟩
  ·obtain ⟨hi',rfl⟩:=zjt hi;exact (hf i hi').1
  ·obtain ⟨hi',rfl⟩:=zjt hi;exact (hf i hi').2
theorem zoo {n len cap:Nat} {t e:TypeId} (ht:Try.prog.underlying t=some (.slice e)) (he:Try.prog.underlying e=some (.int .i64)) (hc:Try.prog.cellsOf e=1) {ao:Option Addr} {d:DataW H} {p:List MemPlace} (h:DataW.trod enc Try.prog W 0 (fun _=>true) held n t [.slice ao len cap]=some (d,p)) :
  ∃ xs:List Int,xs.length=len∧len≤cap∧IntsIn W (.slice ao len cap) xs∧len+1≤Rows.uptoBulk d:=by
 obtain ⟨D,hrow,hbk,hlc,_⟩:=zf2 ht hc (by omega) h;have hb:len+1≤Rows.uptoBulk d:=by
  have:=bulks.length_le ((List.range len).map D);simp only [List.length_map,List.length_range] at this;omega
 rcases hrow with rfl|⟨g,o,rfl,hrow⟩
 ·exact ⟨[],rfl,hlc,⟨fun x hx=>absurd hx (by simp),ao,cap,rfl,hlc,fun hne=>absurd rfl hne⟩,hb⟩
 ·have each:∀ i,i < len→∃ x:Int,W.cell? ⟨g,o+i,none⟩=some (.int .i64 x)∧zch x:=by
   intro i hi;obtain ⟨cs,n',p',h1,_,h2⟩:=hrow i hi;obtain ⟨z,rfl,hz⟩:=zir he h1;have:=h2 0 (by omega);simp at this;exact ⟨z,this,hz⟩
  obtain ⟨f,hf⟩:=zk9 (α:=Int) each;refine ⟨(List.range len).map f,by simp,hlc,⟨fun x hx=>?_,_,cap,by simp,by simp;exact hlc,fun _=>⟨g,o,rfl,fun j x hj=>?_⟩⟩,hb⟩
  ·obtain ⟨i,hi,rfl⟩:=List.mem_map.1 hx;exact (hf i (List.mem_range.1 hi)).2
  ·obtain ⟨hj',rfl⟩:=zjt hj;exact (hf j hj').1
end
section
variable {H:Type} {enc:TypeId×Value→H} {W:World} {held:Bool}
theorem zxf {n len cap:Nat} {ao:Option Addr} {d:DataW H} {p:List MemPlace} (h:DataW.trod enc Try.prog W 0 (fun _=>true) held n 34 [.slice ao len cap]=some (d,p)):len+1≤Rows.uptoBulk d:=by
 obtain ⟨D,hrow,hbk,hlc,_⟩:=zf2 Try.underlying34 zqk (by omega) h;have:=bulks.length_le ((List.range len).map D);simp only [List.length_map,List.length_range] at this;omega
theorem zwm {n len cap:Nat} {ao:Option Addr} {d:DataW H} {p:List MemPlace} (h:DataW.trod enc Try.prog W 0 (fun _=>true) held n 23 [.slice ao len cap]=some (d,p)) {LL:List (List OpD)} (hT:ThrIn W (.slice ao len cap) LL):∀ L∈LL,L.length≤Rows.uptoBulk d:=by
 obtain ⟨D,hrow,hbk,hlc,_⟩:=zf2 Try.underlying23 zvs (by omega) h;obtain ⟨a,c,e,ob,ln,cp,q1,q2⟩:=hT;injection e with e1 e2 e3;intro L hL;obtain ⟨i,hi,rfl⟩:=List.getElem_of_mem hL;have hx:=List.getElem?_eq_getElem hi;obtain ⟨_,e4,_⟩:=q2 i _ hx;rcases hrow with rfl|⟨g,o,e5,hrow⟩
 ·omega
 ·obtain ⟨b,o',e6,q3⟩:=q1 (fun z=>by rw [z] at hi;simp at hi);rw [e5] at e1;rw [← e1] at e6;injection e6 with e6;injection e6 with e7 e8;subst e7 e8;have h1:=q3 i _ hx;obtain ⟨cs,n',p',h2,hcl,h3⟩:=hrow i (by omega);obtain ⟨ao',l',c',rfl⟩:=zfv Try.underlying34 h2;have h4:=h3 0 (by omega);simp only [Nat.mul_one,Nat.add_zero,yaa] at h4;rw [h4] at h1;injection h1 with h1;injection h1 with h5 h6 h7;have hb:=zxf h2;have hb2:=bulk_at (D:=D) (show i < len by omega);omega
theorem cells71:Try.prog.cellsOf 71=4:=by kernel_rfl
theorem cells22:Try.prog.cellsOf 22=1:=by kernel_rfl
theorem cells23:Try.prog.cellsOf 23=1:=by kernel_rfl
theorem cells24:Try.prog.cellsOf 24=1:=by kernel_rfl
structure WorldIn (w:World) (vw vt vs:Value) (ws:List Int) (LL:List (List OpD)) (sch:List Int) (most:Int):Prop where
 iw:IntsIn w vw ws
 it:ThrIn w vt LL
 is:IntsIn w vs sch
 wn:ws.length≤1048576
 tn:LL.length≤1048576
 on:∀ L∈LL,L.length≤1048576
 sn:sch.length≤1048576
 im:zch most
set_option maxRecDepth 100000 in
theorem open_world {base:Nat} {v:Value} {d:DataW H} {p:List MemPlace} (hval:Value.okWide Try.prog W .any base 71 v) (h:DataW.Trod enc Try.prog W 0 (fun _=>true) held 71 v d p) (hb:Rows.uptoBulk d≤1048576) :
  ∃ vw vt vs ws LL sch most,v = .agg #[vw,vt,vs,.int .i64 most]∧WorldIn W vw vt vs ws LL sch most:=by
 obtain ⟨cs,rfl,_,_⟩:∃ cs,v = .agg cs∧cs.size=Try.prog.cellsOf 71∧Row.okWide Try.prog W .any base 71 cs:=by
  unfold Value.okWide at hval;rw [Try.underlying71] at hval;exact hval
 obtain ⟨f,hf0⟩:=h;have hf1:DataW.trod enc Try.prog W 0 (fun _=>true) held f 71 cs.toList=some (d,p):=hf0;obtain ⟨xs,m,_,hy,hl,hxl,hf⟩:=DataW.trod_struct Try.underlying71 hf1;rw [cells71] at hl;have hxl':xs.length=4:=hxl;obtain ⟨v0,v1,v2,v3,hcs⟩:=ln4 hl;obtain ⟨x0,x1,x2,x3,rfl⟩:=ln4 hxl';rw [hcs] at hf;have g0:DataW.trod enc Try.prog W 0 (fun _=>true) held m 22 (([v0,v1,v2,v3].drop 0).take (Try.prog.cellsOf 22))=some x0:=hf 0 _ rfl;have g1:DataW.trod enc Try.prog W 0 (fun _=>true) held m 23 (([v0,v1,v2,v3].drop 1).take (Try.prog.cellsOf 23))=some x1:=hf 1 _ rfl;have g2:DataW.trod enc Try.prog W 0 (fun _=>true) held m 24 (([v0,v1,v2,v3].drop 2).take (Try.prog.cellsOf 24))=some x2:=hf 2 _ rfl;have g3:DataW.trod enc Try.prog W 0 (fun _=>true) held m 3 (([v0,v1,v2,v3].drop 3).take (Try.prog.cellsOf 3))=some x3:=hf 3 _ rfl;rw [cells22] at g0;rw [cells23] at g1;rw [cells24] at g2;rw [zvt] at g3;obtain ⟨a0,l0,c0,e0⟩:=zfv Try.underlying22 g0;obtain ⟨a1,l1,c1,e1⟩:=zfv Try.underlying23 g1;obtain ⟨a2,l2,c2,e2⟩:=zfv Try.underlying24 g2;obtain ⟨z,e3,w3⟩:=zir Try.underlying3 (y:=x3) g3;simp at e0 e1 e2 e3;subst e0 e1 e2 e3;obtain ⟨x0a,x0b⟩:=x0;obtain ⟨x1a,x1b⟩:=x1;obtain ⟨x2a,x2b⟩:=x2;obtain ⟨ws,hw,_,iW,bW⟩:=zoo Try.underlying22 Try.underlying2 zy8 g0;obtain ⟨LL,hL,_,iL,bL⟩:=zxg g1;obtain ⟨Q,hQ,_,iQ,bQ⟩:=zoo Try.underlying24 Try.underlying3 zvt g2;have hob:=zwm g1 iL;have hbk:Rows.uptoBulk x0a≤1048576∧Rows.uptoBulk x1a≤1048576∧Rows.uptoBulk x2a≤1048576:=by
  have e:d=_:=(congrArg Prod.fst hy);rw [e] at hb;simp only [List.map_cons,List.map_nil,Rows.uptoBulk,Rows.uptoBulkAll] at hb;omega
 refine ⟨_,_,_,ws,LL,Q,z,?_,iW,iL,iQ,by omega,by omega,fun L hL=>Nat.le_trans (hob L hL) hbk.2.1,by omega,w3⟩;congr 1;apply Array.toList_inj.1;rw [hcs]
end
end Go.Proofs.Ytofacoojpgkbiaa.OpenB
