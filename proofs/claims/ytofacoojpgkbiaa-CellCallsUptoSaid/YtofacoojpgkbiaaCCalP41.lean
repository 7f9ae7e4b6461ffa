/- Part of a proof. No condition. -/
import Derived.Test.YtofacoojpgkbiaaCCalP20
import Derived.Test.YtofacoojpgkbiaaCCalP40
import Derived.Test.YtofacoojpgkbiaaCCalP07
import Derived.Deep.Slices
import Derived.Lib.Buffer
set_option linter.unusedVariables false
set_option maxHeartbeats 8000000
set_option linter.unusedSimpArgs false
namespace Go.Proofs.Ytofacoojpgkbiaa.OpenB
open Go.ChangeShapes Go.WideShapes Go.ChangeAt Go.RowKit Go.Deep
theorem zxr{α:Type}[Inhabited α]{n:Nat}{P:Nat→α→Prop}(h:∀i,i<n→∃x,P i x):∃f:Nat→α,∀i,i<n→P i (f i):=by
 refine⟨fun i=>if hi:i<n then Classical.choose (h i hi) else default,fun i hi=>?_⟩;simp only[dif_pos hi];exact Classical.choose_spec (h i hi)
section
variable{H:Type}{enc:TypeId×Value→H}{W:World}{held:Bool}
theorem zuv{w:World}{x:Addr}{v:Value}{i:Nat}(h:w.cell? (x.add i)=some v)(hs:x.spot=none):x.add i=⟨x.block,x.off+i,none⟩:=by
 cases x;simp at hs;subst hs;simp[Addr.add];try(intro h;exact h)
theorem zwc{w:World}{x:Addr}{v:Value}(h:w.cell? (x.add 0)=some v):x.spot=none:=by
 cases hx:x.spot with
 | none=>rfl
 | some y =>
  unfold World.cell? at h;split at h
  ·simp[Addr.add,hx] at h
  ·cases h
theorem zqa{n:Nat}{t e:TypeId}{k len cap:Nat}{ao:Option Addr}{d:DataW H}{p:List MemPlace}(ht:Try.prog.underlying t=some (.slice e))(hk:Try.prog.cellsOf e=k)(hk0:0<k)
  (h:DataW.trod enc Try.prog W 0 (fun _=>true) held n t [.slice ao len cap]=some (d,p)) :
  ∃D:Nat→DataW H,(len=0∨∃g o,ao=some ⟨g,o,none⟩∧∀i,i<len→∃cs n' p',DataW.trod enc Try.prog W 0 (fun _=>true) held n' e cs=some (D i,p')∧cs.length=k∧∀j,j<k→W.cell? ⟨g,o+i*k+j,none⟩=cs[j]?) ∧
   Rows.uptoBulkAll ((List.range len).map D)+1≤Rows.uptoBulk d∧len≤cap∧cap≤maxLen:=by
 rcases open_slice ht h with⟨qd,hd⟩|⟨a,l,c,m,n',D,Pl,qd,_,hl,hm,hmm,hd,hx⟩
 ·cases qd;cases hd;exact⟨fun _ => .nil,.inl rfl,by simp[Rows.uptoBulkAll,Rows.uptoBulk],yax _,Nat.zero_le _⟩
 ·cases qd;simp only[Prod.mk.injEq] at hd;obtain⟨rfl,_⟩:=hd;simp only[if_true] at hmm;subst hmm;refine⟨D,?_,bulks.slice_elems _ _,hl,hm⟩;rcases Nat.eq_zero_or_pos len with h0|h0
  ·exact .inl h0
  ·right;have qb:∀i,i<len→∃cs,DataW.trod enc Try.prog W 0 (fun _=>true) held n' e cs=some (D i,Pl i)∧cs.length=k∧∀j,j<k→W.cell? (a.add (i*k+j))=cs[j]?:=by
    intro i hi;obtain⟨cs,h1,h2⟩:=hx i (by omega);rw[hk] at h1;obtain⟨_,qo,qc⟩:=World.cells?_some h1;refine⟨cs,h2,qo,fun j hj=>?_⟩;have:=qc j hj;rw[add_add] at this;exact this
   obtain⟨cs0,_,hl0,qi⟩:=qb 0 h0;have hs:a.spot=none:=by
    have h1:=qi 0 hk0;rw[List.getElem?_eq_getElem (by omega)] at h1;simp only[Nat.zero_mul,Nat.add_zero] at h1;exact zwc h1
   refine⟨a.block,a.off,by cases a;simp at hs;rw[hs],fun i hi=>?_⟩;obtain⟨cs,h1,h2,h3⟩:=qb i hi;refine⟨cs,n',_,h1,h2,fun j hj=>?_⟩;have h4:=h3 j hj;obtain⟨v,hv⟩:∃v,cs[j]?=some v:=⟨_,List.getElem?_eq_getElem (by omega)⟩;rw[hv] at h4⊢;rw[zuv h4 hs,←Nat.add_assoc] at h4;exact h4
theorem int_one{n:Nat}{t:TypeId}(ht:Try.prog.underlying t=some (.int .i64)){cs:List Value}{y:DataW H×List MemPlace}(h:DataW.trod enc Try.prog W 0 (fun _=>true) held n t cs=some y):∃z,cs=[.int .i64 z]∧zcm z:=by
 obtain⟨z,h1,h2,h3⟩:=DataW.trod_int ht h;refine⟨z,h1,?_⟩;have h0:IntKind.i64.min = -9223372036854775808:=rfl;have h4:IntKind.i64.max=9223372036854775807:=rfl;simp only[Lit.wf,Bool.and_eq_true,decide_eq_true_eq] at h3;unfold zcm;omega
theorem ln4{α:Type}{l:List α}(h:l.length=4):∃a b c d,l=[a,b,c,d]:=by
 match l,h with
 | [a,b,c,d],_=>exact⟨a,b,c,d,rfl⟩
theorem z5y:Try.prog.cellsOf 2=1:=by kernel_rfl
theorem z5x:Try.prog.cellsOf 3=1:=by kernel_rfl
theorem zsf:Try.prog.cellsOf 45=4:=by kernel_rfl
theorem z4x{n:Nat}{cs:List Value}{y:DataW H×List MemPlace}(h:DataW.trod enc Try.prog W 0 (fun _=>true) held n 45 cs=some y):∃o:OpD,cs=[.int .i64 o.kind,.int .i64 o.a,.int .i64 o.b,.int .i64 o.c]∧o.Ok:=by
 obtain⟨xs,m,_,hy,hl,qg,hf⟩:=DataW.trod_struct Try.underlying45 h;rw[zsf] at hl;have qf:xs.length=4:=qg;obtain⟨v0,v1,v2,v3,rfl⟩:=ln4 hl;obtain⟨x0,x1,x2,x3,rfl⟩:=ln4 qf;have g0:DataW.trod enc Try.prog W 0 (fun _=>true) held m 3 (([v0,v1,v2,v3].drop 0).take (Try.prog.cellsOf 3))=some x0:=hf 0 _ rfl;have g1:DataW.trod enc Try.prog W 0 (fun _=>true) held m 2 (([v0,v1,v2,v3].drop 1).take (Try.prog.cellsOf 2))=some x1:=hf 1 _ rfl;have g2:DataW.trod enc Try.prog W 0 (fun _=>true) held m 2 (([v0,v1,v2,v3].drop 2).take (Try.prog.cellsOf 2))=some x2:=hf 2 _ rfl;have g3:DataW.trod enc Try.prog W 0 (fun _=>true) held m 2 (([v0,v1,v2,v3].drop 3).take (Try.prog.cellsOf 2))=some x3:=hf 3 _ rfl;rw[z5y] at g1 g2 g3;rw[z5x] at g0;obtain⟨q,e0,w0⟩:=int_one Try.underlying3 (y:=x0) g0;obtain⟨a,e1,w1⟩:=int_one Try.underlying2 (y:=x1) g1;obtain⟨b,e2,w2⟩:=int_one Try.underlying2 (y:=x2) g2;obtain⟨d,e3,w3⟩:=int_one Try.underlying2 (y:=x3) g3;simp at e0 e1 e2 e3;subst e0 e1 e2 e3;exact⟨⟨q,a,b,d⟩,rfl,w0,w1,w2,w3⟩
instance:Inhabited OpD:=⟨⟨0,0,0,0⟩⟩
theorem zzs{α:Type}{n i:Nat}{f:Nat→α}{x:α}(h:((List.range n).map f)[i]?=some x):i<n∧x=f i:=by
 have qr:=(yai.1 h).1;rw[List.length_map,List.length_range] at qr;rw[List.getElem?_map,List.getElem?_range qr] at h;exact⟨qr,(yaw h).symm⟩
theorem open_ops{n len cap:Nat}{ao:Option Addr}{d:DataW H}{p:List MemPlace}(h:DataW.trod enc Try.prog W 0 (fun _=>true) held n 34 [.slice ao len cap]=some (d,p)) :
  ∃L:List OpD,OpsIn W ao len cap L∧cap≤maxLen:=by
 obtain⟨D,qa,ql,qe,qj⟩:=zqa Try.underlying34 zsf (by omega) h;refine(?_:∃L:List OpD,OpsIn W ao len cap L).imp fun L hL=>⟨hL,qj⟩;rcases qa with rfl|⟨g,o,rfl,qa⟩
 ·exact⟨[],fun o ho=>absurd ho (by simp),rfl,qe,fun qh=>absurd rfl qh⟩
 ·have each:∀i,i<len→∃x:OpD,zj2 W g (o+i*4) x∧x.Ok:=by
   intro i hi;obtain⟨cs,n',p',h1,_,h2⟩:=qa i hi;obtain⟨x,rfl,qk⟩:=z4x h1;exact⟨x,⟨h2 0 (by omega),h2 1 (by omega),h2 2 (by omega),h2 3 (by omega)⟩,qk⟩
  obtain⟨f,hf⟩:=zxr (α:=OpD) each;refine⟨(List.range len).map f,fun x hx=>?_,by simp,qe,fun _=>⟨g,o,rfl,fun j x hj=>?_⟩⟩
  ·obtain⟨i,hi,rfl⟩:=List.mem_map.1 hx;exact(hf i (List.mem_range.1 hi)).2
  ·obtain⟨qm,rfl⟩:=zzs hj;exact(hf j qm).1
end
section
variable{H:Type}{enc:TypeId×Value→H}{W:World}{held:Bool}
theorem ops_bulk{n len cap:Nat}{ao:Option Addr}{d:DataW H}{p:List MemPlace}(h:DataW.trod enc Try.prog W 0 (fun _=>true) held n 34 [.slice ao len cap]=some (d,p)):len+1≤Rows.uptoBulk d:=by
 obtain⟨D,qa,ql,qe,_⟩:=zqa Try.underlying34 zsf (by omega) h;have:=bulks.length_le ((List.range len).map D);simp only[List.length_map,List.length_range] at this;omega
end
end Go.Proofs.Ytofacoojpgkbiaa.OpenB
