/-
  Merged out of: Gate17 Ans4 Ply2. No condition of its own.
-/
import Derived.Test.YtofacoojpgkbiaaPlaysP26
import Derived.Test.YtofacoojpgkbiaaPlaysP27
set_option linter.unusedVariables false
set_option maxHeartbeats 8000000
set_option linter.unusedSimpArgs false
/-
 What a gate does. No condition of its own.
-/
namespace Go.Proofs.Ytofacoojpgkbiaa
open Go.Conc Go.RowKit
open Go.ConcN (upd upd_ne upd_same)
set_option maxRecDepth 100000
def doG {S:Type} (L:Lens S GateS) (f:Nat) (o:OpD) (κ:Ans→Fu (SM S)):Fu (SM S) :=
 if o.kind=1 then joinF L f o.a o.b (fun e=>κ (zce e))
 else if o.kind=2 then zd2 L f o.a (fun e=>κ (zce e))
 else if o.kind=3 then setF L o.a o.b (fun e=>κ (zce e))
 else if o.kind=4 then getF L o.a (fun n e=>κ ⟨e==0,addW e n,[]⟩)
 else if o.kind=5 then zbn (fun m=>κ ⟨true,0,(L.get m.st).mem⟩ m)
 else if o.kind=6 then leastF L o.a (fun n p=>κ ⟨true,n,[p]⟩)
 else if o.kind=7 then mayF L o.a o.b (fun t p=>κ ⟨t,p,[]⟩)
 else κ ⟨false,0,[]⟩
section
variable {S:Type} {md:Md (SM S)} {L:Lens S GateS} {gb lo:Nat}
theorem doG_ok (O:md.Ok) (Pt:Part md L (GateAt gb) gb TS2) (f:Nat) (hlo:∀ {m own w},md.Rep m own w→lo≤w.heap.size):DoOk md lo 79 (gpv gb) (doG L f):=by
 intro o th κ A w₀ c cs ho hend hret y own w m C
 unfold opV gpv
 rw [enter_at _ Try.func79 rfl]
 simp only [Try.ntmps79,List.size_toArray,List.length_cons,List.length_nil,Nat.reduceAdd,Nat.reduceSub,Array.replicate_succ,
   Array.replicate_zero,List.push_toArray,List.append_toArray,List.nil_append,List.cons_append]
 generalize hmc:doG L f o κ m=mc
 replace hmc:=Lib.hid hmc
 replace hret:=Lib.hid hret
 obtain ⟨N,hN⟩:∃ N,w.heap.size=N:=⟨_,rfl⟩
 have hloN:=hlo C.rep
 refine zae (O.xc ..) fun R0 hR0 => ?_
 refine O.segA C zbv (zab zag (by kernel_rfl)) rfl (zaa Try.func79) rfl fun wp hp => ?_
 have hsz:wp.heap.size=N:=by rw [hp.heap,zap];exact hN
 replace hp:=Lib.hid hp
 replace hsz:=Lib.hid hsz
 replace hN:=Lib.hid hN
 replace hloN:=Lib.hid hloN
 go_wp2_with fail
 rw [hsz.out]
 refine fun w1 q1 q2 q3=>O.two C hp.out rfl hN.out q1 q2 q3 fun own1 C1 e1 e2 s1 o1 o2 LL low => ?_
 have hA:∀ b,A b→b < N:=fun b hb=>by
  rw [← hN.out]
  exact C.lt (by rw [(C.mine b hb).1];simp)
 clear q1 q2 q3 hp hsz wp low
 obtain rfl:=hR0.out
 clear hR0
 replace C:=Lib.hid C
 replace hA:=Lib.hid hA
 have mkI:∀ x:Nat→Value,x 0=gpv gb→x 1=md.sv→x 7 = .pointer (some ⟨N,0,none⟩)→x 8 = .pointer (some ⟨N+1,0,none⟩)→In79 md gb lo A w₀ c cs κ o y own1 w1 m N x:=fun x z0 z1 z7 z8=>⟨ho,hend,hret.out,C1,LL,hA.out,by have:=hloN.out;have:=hN.out;omega,o1,e1,o2,e2,s1,z0,z1,z7,z8⟩
 replace mkI:=Lib.hid mkI
 replace hend:=Lib.hid hend
 replace ho:=Lib.hid ho
 replace LL:=Lib.hid LL
 replace s1:=Lib.hid s1
 clear hlo
 refine zae (O.xc ..) fun R0 hR0 => ?_
 refine zae (O.xc ..) fun R1 hR1 => ?_
 refine O.seg0 C1 zbv (zab zag (by kernel_rfl)) rfl (zaa Try.func79) rfl fun wp hp => ?_
 have k0:=(zac ((zba hp (C1.dm O (by rw [o1];simp))).trans e1) 0)
 simp only [List.getElem?_toArray,List.getElem?_cons_zero] at k0
 replace hp:=Lib.hid hp
 go_wp2_with fail
 refine ⟨hp.out,?_⟩
 clear hp k0 wp
 obtain rfl:=hR1.out
 clear hR1
 refine zb4 (O.xc ..) ?_
 refine zae (O.xc ..) fun R1 hR1 => ?_
 refine O.seg0 C1 zbv (zab zag (by kernel_rfl)) rfl (zaa Try.func79) rfl fun wp hp => ?_
 replace hp:=Lib.hid hp
 go_wp2_with fail
 refine ⟨hp.out,?_⟩
 clear hp  wp
 obtain rfl:=hR1.out
 clear hR1
 by_cases k1:o.kind=1
 ·
  have e:doG L f o κ=joinF L f o.a o.b (fun e=>κ (zce e)):=by unfold doG;rw [if_pos k1]
  have hz:(o.kind==1)=true:=by simpa using k1
  refine zao (O.xc ..) (t:=true) (by show Value.bool (o.kind==1)=_;rw [hz]) ?_
  obtain rfl:=hmc.out
  rw [e,a79_of _ rfl]
  exact do_join O Pt f (mkI.out _ rfl rfl rfl rfl)
 have hz1:(o.kind==1)=false:=by simpa using k1
 refine zao (O.xc ..) (t:=false) (by show Value.bool (o.kind==1)=_;rw [hz1]) ?_
 replace k1:=Lib.hid k1
 clear hz1
 refine zae (O.xc ..) fun R1 hR1 => ?_
 refine O.seg0 C1 zbv (zab zag (by kernel_rfl)) rfl (zaa Try.func79) rfl fun wp hp => ?_
 replace hp:=Lib.hid hp
 go_wp2_with fail
 refine ⟨hp.out,?_⟩
 clear hp  wp
 obtain rfl:=hR1.out
 clear hR1
 by_cases k2:o.kind=2
 ·
  have e:doG L f o κ=zd2 L f o.a (fun e=>κ (zce e)):=by unfold doG;rw [if_neg k1.out,if_pos k2]
  have hz:(o.kind==2)=true:=by simpa using k2
  refine zao (O.xc ..) (t:=true) (by show Value.bool (o.kind==2)=_;rw [hz]) ?_
  obtain rfl:=hmc.out
  rw [e,a79_of _ rfl]
  exact do_leave O Pt f (mkI.out _ rfl rfl rfl rfl)
 have hz2:(o.kind==2)=false:=by simpa using k2
 refine zao (O.xc ..) (t:=false) (by show Value.bool (o.kind==2)=_;rw [hz2]) ?_
 replace k2:=Lib.hid k2
 clear hz2
 refine zae (O.xc ..) fun R1 hR1 => ?_
 refine O.seg0 C1 zbv (zab zag (by kernel_rfl)) rfl (zaa Try.func79) rfl fun wp hp => ?_
 replace hp:=Lib.hid hp
 go_wp2_with fail
 refine ⟨hp.out,?_⟩
 clear hp  wp
 obtain rfl:=hR1.out
 clear hR1
 by_cases k3:o.kind=3
 ·
  have e:doG L f o κ=setF L o.a o.b (fun e=>κ (zce e)):=by unfold doG;rw [if_neg k1.out,if_neg k2.out,if_pos k3]
  have hz:(o.kind==3)=true:=by simpa using k3
  refine zao (O.xc ..) (t:=true) (by show Value.bool (o.kind==3)=_;rw [hz]) ?_
  obtain rfl:=hmc.out
  rw [e,a79_of _ rfl]
  exact do_set O Pt (mkI.out _ rfl rfl rfl rfl)
 have hz3:(o.kind==3)=false:=by simpa using k3
 refine zao (O.xc ..) (t:=false) (by show Value.bool (o.kind==3)=_;rw [hz3]) ?_
 replace k3:=Lib.hid k3
 clear hz3
 refine zae (O.xc ..) fun R1 hR1 => ?_
 refine O.seg0 C1 zbv (zab zag (by kernel_rfl)) rfl (zaa Try.func79) rfl fun wp hp => ?_
 replace hp:=Lib.hid hp
 go_wp2_with fail
 refine ⟨hp.out,?_⟩
 clear hp  wp
 obtain rfl:=hR1.out
 clear hR1
 by_cases k4:o.kind=4
 ·
  have e:doG L f o κ=getF L o.a (fun n e=>κ ⟨e==0,addW e n,[]⟩):=by unfold doG;rw [if_neg k1.out,if_neg k2.out,if_neg k3.out,if_pos k4]
  have hz:(o.kind==4)=true:=by simpa using k4
  refine zao (O.xc ..) (t:=true) (by show Value.bool (o.kind==4)=_;rw [hz]) ?_
  obtain rfl:=hmc.out
  rw [e,a79_of _ rfl]
  exact do_get O Pt (mkI.out _ rfl rfl rfl rfl)
 have hz4:(o.kind==4)=false:=by simpa using k4
 refine zao (O.xc ..) (t:=false) (by show Value.bool (o.kind==4)=_;rw [hz4]) ?_
 replace k4:=Lib.hid k4
 clear hz4
 refine zae (O.xc ..) fun R1 hR1 => ?_
 refine O.seg0 C1 zbv (zab zag (by kernel_rfl)) rfl (zaa Try.func79) rfl fun wp hp => ?_
 replace hp:=Lib.hid hp
 go_wp2_with fail
 refine ⟨hp.out,?_⟩
 clear hp  wp
 obtain rfl:=hR1.out
 clear hR1
 by_cases k5:o.kind=5
 ·
  have e:doG L f o κ=zbn (fun m=>κ ⟨true,0,(L.get m.st).mem⟩ m):=by unfold doG;rw [if_neg k1.out,if_neg k2.out,if_neg k3.out,if_neg k4.out,if_pos k5]
  have hz:(o.kind==5)=true:=by simpa using k5
  refine zao (O.xc ..) (t:=true) (by show Value.bool (o.kind==5)=_;rw [hz]) ?_
  obtain rfl:=hmc.out
  rw [e,a79_of _ rfl]
  exact do_list O Pt (mkI.out _ rfl rfl rfl rfl)
 have hz5:(o.kind==5)=false:=by simpa using k5
 refine zao (O.xc ..) (t:=false) (by show Value.bool (o.kind==5)=_;rw [hz5]) ?_
 replace k5:=Lib.hid k5
 clear hz5
 refine zae (O.xc ..) fun R1 hR1 => ?_
 refine O.seg0 C1 zbv (zab zag (by kernel_rfl)) rfl (zaa Try.func79) rfl fun wp hp => ?_
 replace hp:=Lib.hid hp
 go_wp2_with fail
 refine ⟨hp.out,?_⟩
 clear hp  wp
 obtain rfl:=hR1.out
 clear hR1
 by_cases k6:o.kind=6
 ·
  have e:doG L f o κ=leastF L o.a (fun n p=>κ ⟨true,n,[p]⟩):=by unfold doG;rw [if_neg k1.out,if_neg k2.out,if_neg k3.out,if_neg k4.out,if_neg k5.out,if_pos k6]
  have hz:(o.kind==6)=true:=by simpa using k6
  refine zao (O.xc ..) (t:=true) (by show Value.bool (o.kind==6)=_;rw [hz]) ?_
  obtain rfl:=hmc.out
  rw [e,a79_of _ rfl]
  exact do_least O Pt (mkI.out _ rfl rfl rfl rfl)
 have hz6:(o.kind==6)=false:=by simpa using k6
 refine zao (O.xc ..) (t:=false) (by show Value.bool (o.kind==6)=_;rw [hz6]) ?_
 replace k6:=Lib.hid k6
 clear hz6
 refine zae (O.xc ..) fun R1 hR1 => ?_
 refine O.seg0 C1 zbv (zab zag (by kernel_rfl)) rfl (zaa Try.func79) rfl fun wp hp => ?_
 replace hp:=Lib.hid hp
 go_wp2_with fail
 refine ⟨hp.out,?_⟩
 clear hp  wp
 obtain rfl:=hR1.out
 clear hR1
 by_cases k7:o.kind=7
 ·
  have e:doG L f o κ=mayF L o.a o.b (fun t p=>κ ⟨t,p,[]⟩):=by unfold doG;rw [if_neg k1.out,if_neg k2.out,if_neg k3.out,if_neg k4.out,if_neg k5.out,if_neg k6.out,if_pos k7]
  have hz:(o.kind==7)=true:=by simpa using k7
  refine zao (O.xc ..) (t:=true) (by show Value.bool (o.kind==7)=_;rw [hz]) ?_
  obtain rfl:=hmc.out
  rw [e,a79_of _ rfl]
  exact do_may O Pt (mkI.out _ rfl rfl rfl rfl)
 have hz7:(o.kind==7)=false:=by simpa using k7
 refine zao (O.xc ..) (t:=false) (by show Value.bool (o.kind==7)=_;rw [hz7]) ?_
 replace k7:=Lib.hid k7
 clear hz7
 have e:doG L f o κ=κ ⟨false,0,[]⟩:=by unfold doG;rw [if_neg k1.out,if_neg k2.out,if_neg k3.out,if_neg k4.out,if_neg k5.out,if_neg k6.out,if_neg k7.out]
 rw [e] at hmc
 refine zbq (O.xc ..) ?_
 refine zb7 (O.xc ..) ?_
 obtain rfl:=hR0.out
 clear hR0
 have oB2:=o2
 have eB2:=e2
 refine zae (O.xc ..) fun R0 hR0 => ?_
 refine zbi (O.xc ..) 2 (by decide) (by decide) (zaj (by kernel_rfl)) (C1.st O) fun wp hp => ?_
 simp only [List.take_succ_cons,List.take_zero]
 have hg:=(zba hp (C1.dm O (by rw [oB2];simp))).trans eB2
 have c0:=zac hg 0
 have c1:=zac hg 1
 have c2:=zac hg 2
 have z0:=zau hg 0
 have z1:=zau hg 1
 have z2:=zau hg 2
 simp only [List.getElem?_toArray,List.getElem?_cons_zero,List.getElem?_cons_succ] at c0 c1 c2
 replace hg:=Lib.hid hg
 replace hp:=Lib.hid hp
 try unfold ansV zce at *
 go_wp2_with fail
 refine ⟨⟨rfl,rfl⟩,put3 _ (N+1) ⟨false,0,[]⟩ (.slice none 0 0),rfl,zd8 (C1.st O).okd _ _ _,zd7 hp.out _ ⟨false,0,[]⟩ (.slice none 0 0),?_⟩
 clear hg hp c0 c1 c2 z0 z1 z2 wp
 refine zad (O.xc ..) ?_
 obtain rfl:=hR0.out
 clear hR0
 obtain rfl:=hmc.out
 exact ans_out O C1 LL.out (fun h=>by have:=hA.out _ h;omega) oB2 eB2 rfl ⟨false,0,[]⟩ LRow.nil (fun g hg=>by cases hg) (hret.out ⟨false,0,[]⟩ _) Try.func79 (zaa Try.func79) rfl rfl
end
end Go.Proofs.Ytofacoojpgkbiaa
/-
 A thread of operations,from its birth on;what it leaves of the others' own. No condition of its own.
-/
namespace Go.Proofs.Ytofacoojpgkbiaa
open Go.Conc Go.RowKit
open Go.ConcN (upd upd_ne upd_same)
set_option maxRecDepth 100000
section
variable {S:Type} {R:S→(Nat→Owner)→World→Prop} {Z:AL} {md:Md (SM S)} {A:Nat→Prop} {c:Frame} {cs:List Frame} {fdo:FuncId} {fnd:Func} {recv:Value} {doφ:OpD→(Ans→Fu (SM S))→Fu (SM S)}
theorem doing_cps (O:md.Ok) (hmd:md.Rep=GRep R Z) (F:FamOk R) (hi:md.i < Z.n) (hn:Z.n≤64) (hdo:DoOk md Z.lo fdo recv doφ) (hfd:Try.prog.funcs[fdo]?=some fnd) (hname:(fnd.name == "runtime.NumGoroutine")=false) (hbody:fnd.body.isNone=false)
  {L:List OpD} {oc dc ic ac:Nat} {ob:Option Addr} {ocap:Nat} (T:TW Z fdo recv md.i L oc dc ic ac ob ocap) {h₀:Array Obj} {o₀:Nat→Owner} {m₀:SM S} (h0:m₀.an md.i=[]) (hret:∀ m',md.F finF A ⟨h₀,m',o₀⟩ (G (c.finish (.tuple #[])) cs)) (hend:∀ m',md.End A ⟨h₀,m',o₀⟩ c cs) :
  md.F (opsT doφ md.i L) A ⟨h₀,m₀,o₀⟩ (G (Frame.enter Try.prog 170 #[md.sv,.pointer (some ⟨oc,0,none⟩),.pointer (some ⟨dc,0,none⟩),.pointer (some ⟨ic,0,none⟩),.pointer (some ⟨ac,0,none⟩)] .normal) (c::cs)):=by
 intro y own w m C
 rw [enter_at _ Try.func170 rfl]
 simp only [Try.ntmps170,List.size_toArray,List.length_cons,List.length_nil,Nat.reduceAdd,Nat.reduceSub,Array.replicate_succ,
   Array.replicate_zero,List.push_toArray,List.append_toArray,List.nil_append,List.cons_append]
 have hm:m.an md.i=[]:=C.pv.trans h0
 have hR:GRep R Z m own w:=hmd▸C.rep
 have C':md.C y own A ⟨h₀,m,o₀⟩ w m:=C.less ⟨fun b hb=>⟨hb,rfl⟩,C.pv.symm,fun b v h=>⟨h,rfl⟩⟩
 generalize hmc:opsT doφ md.i L m=mc
 replace hmc:=Lib.hid hmc
 replace hm:=Lib.hid hm
 replace hret:=Lib.hid hret
 refine zae (O.xc ..) fun R0 hR0 => ?_
 refine O.seg0 C zbv (zab zag (by kernel_rfl)) rfl (zaa Try.func170) rfl fun wp hp => ?_
 have fo:=zdt hR hp T.oc 0
 simp only [List.getElem?_toArray,List.getElem?_cons_zero] at fo
 replace hp:=Lib.hid hp
 go_wp2_with fail
 refine ⟨hp.out,?_⟩
 clear hp fo wp
 obtain rfl:=hR0.out
 clear hR0
 refine zb4 (O.xc ..) ?_
 refine x_loop (O.xc ..) ?_
 obtain rfl:=hmc.out
 clear hmc
 rw [a170_of _ rfl]
 exact doing_loop O hmd F hi hn hdo hfd hname hbody T hret.out hend L 0 rfl (Nat.zero_le _) _ _ _ _ _ C' (by rw [hm.out];exact Nat.le_refl _) ⟨rfl,rfl,rfl,rfl,rfl,rfl⟩ rfl
theorem thread_cps {U:Tun} {i:Nat} (F:FamOk R) (hi:i < Z.n) (hn:Z.n≤64) (hU:U.n≤64) (hdo:DoOk (thMd (GRep R Z) U i) Z.lo fdo recv doφ) (hfd:Try.prog.funcs[fdo]?=some fnd) (hname:(fnd.name == "runtime.NumGoroutine")=false) (hbody:fnd.body.isNone=false)
  {L:List OpD} {oc dc ic ac:Nat} {ob:Option Addr} {ocap:Nat} (T:TW Z fdo recv i L oc dc ic ac ob ocap) {h₀:Array Obj} {o₀:Nat→Owner} {m₀:SM S} (h0:m₀.an i=[]) :
  GOF (GRep R Z) Try.prog U i (opsT doφ i L) (fun _=>False) ⟨h₀,m₀,o₀⟩ (born Try.prog (call58 U.tu i (.func (.func 170) #[] #[.pointer (some ⟨oc,0,none⟩),.pointer (some ⟨dc,0,none⟩),.pointer (some ⟨ic,0,none⟩),.pointer (some ⟨ac,0,none⟩)]))) :=
 have hloc:zc2 (GRep R Z):=GRep.local F
 run_cps hloc Try.func170 (by kernel_rfl) (by kernel_rfl) hU fun c cs A h₁ m₁ o₁ hp hret hend =>
  gof_md (doing_cps (md:=thMd (GRep R Z) U i) (thMd_ok hloc) rfl F hi hn hdo hfd hname hbody T ((show m₁.an i=m₀.an i from hp).trans h0) (fun m'=>md_gof hloc (hret m')) hend)
end
section
variable {S:Type} {i:Nat}
theorem fp_step {κ:Fu (SM S)} (h:zb8 i κ):zb8 i (zbn κ):=fun m=>⟨fun _ _=>rfl,fun m j hj=>(h m).1 j hj,fun m=>(h m).2⟩
theorem fp_cut:zb8 (M:=SM S) i cutF:=fun m=>⟨fun _ _=>rfl,trivial⟩
theorem fp_with {κ:SM S→Fu (SM S)} {f:SM S→SM S} (hf:∀ m,(f m).an=m.an) (h:∀ x,zb8 i (κ x)):zb8 i fun m=>κ m (f m):=fun m =>
 ⟨fun j hj=>((h m (f m)).1 j hj).trans (show (f m).an j=m.an j by rw [hf]),(h m (f m)).2⟩
theorem fp_ops {doφ:OpD→(Ans→Fu (SM S))→Fu (SM S)} (h:∀ o κ,(∀ r,zb8 i (κ r))→zb8 i (doφ o κ)):∀ l,zb8 i (opsT doφ i l)
 | []=>fun m=>⟨fun _ _=>rfl,trivial⟩
 | o::l=>h o _ fun r m=>by
  obtain ⟨h1,h2⟩:=fp_ops h l (m.tell i r)
  exact ⟨fun j hj=>(h1 j hj).trans (upd_ne _ _ hj),h2⟩
def FD {M:Type} (d:Nat) (φ:Fu M):Prop:=∀ m,Deep d (φ m).2
theorem fd_less {M:Type} {d:Nat} {φ:Fu M} (h:FD (d+1) φ):FD d φ:=fun m=>(h m).less
theorem fd_step {M:Type} {d:Nat} {φ:Fu M} (h:FD d φ):FD (d+1) (zbn φ):=fun m m'=>h m'
theorem fd_step' {M:Type} {d:Nat} {φ:Fu M} (h:FD d φ):FD d (zbn φ):=fd_less (fd_step h)
theorem fd_fin {M:Type} {d:Nat}:FD d (finF (M:=M)):=fun m=>by cases d<;>trivial
theorem fd_zero {M:Type} {φ:Fu M}:FD 0 φ:=fun m=>Deep.zero _
theorem fd_ops {d:Nat} {doφ:OpD→(Ans→Fu (SM S))→Fu (SM S)} (h:∀ o κ,(∀ r,FD d (κ r))→FD d (doφ o κ)):∀ l,FD d (opsT doφ i l)
 | []=>fd_fin
 | o::l=>h o _ fun r m=>fd_ops h l (m.tell i r)
end
section
variable {S:Type} {L:Lens S GateS} {i d f:Nat}
theorem fp_casP {s:Nat} {l:List Int} {κ:Bool→Fu (SM S)} (h:∀ t,zb8 i (κ t)):zb8 i (zbn (casP L s l κ)):=by
 refine fp_step fun m => ?_
 unfold casP
 split
 ·
  exact ⟨fun j hj=>((h true _).1 j hj).trans rfl,(h true _).2⟩
 ·
  exact h false m
theorem fp_setF {p a:Int} {κ:Int→Fu (SM S)} (h:∀ e,zb8 i (κ e)):zb8 i (setF L p a κ):=by
 unfold setF
 split
 ·
  exact h 1
 ·
  exact fp_step (fp_with (κ:=fun _=>κ 0) (f:=fun m=>m.with (L.put ((L.get m.st).lay p a) m.st)) (fun _=>rfl) fun _=>h 0)
theorem fp_getF {p:Int} {κ:Int→Int→Fu (SM S)} (h:∀ v e,zb8 i (κ v e)):zb8 i (getF L p κ):=by
 unfold getF
 split
 ·
  exact h 0 1
 ·
  exact fp_step (fp_with (κ:=fun m=>κ ((L.get m.st).num p.toNat) 0) (f:=id) (fun _=>rfl) fun _=>h _ _)
theorem fp_leastL {κ:Int→Int→Fu (SM S)} (h:∀ v e,zb8 i (κ v e)):∀ l n p,zb8 i (zbr L κ l n p)
 | [],n,p=>h n p
 | q::l,n,p=>fp_getF fun v _=>by
  split
  ·
   exact fp_leastL h l v q
  ·
   exact fp_leastL h l n p
theorem fp_leastF {n:Int} {κ:Int→Int→Fu (SM S)} (h:∀ v e,zb8 i (κ v e)):zb8 i (leastF L n κ) :=
 fp_step (fp_with (κ:=fun m=>zbr L κ (L.get m.st).mem n (-1)) (f:=id) (fun _=>rfl) fun _=>fp_leastL h _ _ _)
theorem fp_joinL {p a:Int} {κ:Int→Fu (SM S)} (h:∀ e,zb8 i (κ e)):∀ f,zb8 i (joinL L p a κ f)
 | 0=>fp_cut
 | f+1=>fp_step (fp_with (κ:=fun m=>joinB L p a κ (joinL L p a κ f) (L.get m.st).ser (L.get m.st).mem) (f:=id) (fun _=>rfl) fun m=>by
  unfold joinB
  split
  ·
   exact h 7
  ·
   refine fp_setF fun _=>fp_casP fun t => ?_
   split
   ·
    exact h 0
   ·
    exact fp_joinL h f)
theorem fp_leaveL {p:Int} {κ:Int→Fu (SM S)} (h:∀ e,zb8 i (κ e)):∀ f,zb8 i (zej L p κ f)
 | 0=>fp_cut
 | f+1=>fp_step (fp_with (κ:=fun m=>zek L p κ (zej L p κ f) (L.get m.st).ser (L.get m.st).mem) (f:=id) (fun _=>rfl) fun m=>by
  unfold zek
  split
  ·
   refine fp_casP fun t => ?_
   split
   ·
    exact h 0
   ·
    exact fp_leaveL h f
  ·
   exact h 6)
theorem fp_doG (o:OpD) (κ:Ans→Fu (SM S)) (h:∀ r,zb8 i (κ r)):zb8 i (doG L f o κ):=by
 unfold doG
 split
 ·
  unfold joinF;split
  ·
   exact h _
  ·
   exact fp_joinL (fun e=>h _) f
 split
 ·
  unfold zd2;split
  ·
   exact h _
  ·
   exact fp_leaveL (fun e=>h _) f
 split
 ·
  exact fp_setF fun e=>h _
 split
 ·
  exact fp_getF fun v e=>h _
 split
 ·
  exact fp_step (fp_with (κ:=fun m=>κ ⟨true,0,(L.get m.st).mem⟩) (f:=id) (fun _=>rfl) fun _=>h _)
 split
 ·
  exact fp_leastF fun n p=>h _
 split
 ·
  exact fp_leastF fun n p=>by split<;>exact h _
 ·
  exact h _
theorem fd_casP {s:Nat} {l:List Int} {κ:Bool→Fu (SM S)} (h:∀ t,FD d (κ t)):FD d (zbn (casP L s l κ)):=by
 refine fd_step' fun m => ?_
 unfold casP
 split
 ·
  exact h true _
 ·
  exact h false m
theorem fd_setF {p a:Int} {κ:Int→Fu (SM S)} (h:∀ e,FD d (κ e)):FD d (setF L p a κ):=by
 unfold setF
 split
 ·
  exact h 1
 ·
  exact fd_step' fun m=>h 0 _
theorem fd_getF {p:Int} {κ:Int→Int→Fu (SM S)} (h:∀ v e,FD d (κ v e)):FD d (getF L p κ):=by
 unfold getF
 split
 ·
  exact h 0 1
 ·
  exact fd_step' fun m=>h _ _ m
theorem fd_leastL {κ:Int→Int→Fu (SM S)} (h:∀ v e,FD d (κ v e)):∀ l n p,FD d (zbr L κ l n p)
 | [],n,p=>h n p
 | q::l,n,p=>fd_getF fun v _=>by
  split
  ·
   exact fd_leastL h l v q
  ·
   exact fd_leastL h l n p
theorem fd_leastF {n:Int} {κ:Int→Int→Fu (SM S)} (h:∀ v e,FD d (κ v e)):FD d (leastF L n κ):=fd_step' fun m=>fd_leastL h _ _ _ m
theorem fd_joinL {p a:Int} {κ:Int→Fu (SM S)}:∀ f d,d≤f→(∀ e,FD d (κ e))→FD d (joinL L p a κ f)
 | 0,d,hd,h=>by
  obtain rfl:d=0:=by omega
  exact fd_zero
 | f+1,0,hd,h=>fd_zero
 | f+1,d+1,hd,h=>fd_step fun m=>by
  unfold joinB
  split
  ·
   exact fd_less (h 7) m
  ·
   refine fd_setF (fun _=>fd_casP fun t => ?_) m
   split
   ·
    exact fd_less (h 0)
   ·
    exact fd_joinL f d (by omega) fun e=>fd_less (h e)
theorem fd_leaveL {p:Int} {κ:Int→Fu (SM S)}:∀ f d,d≤f→(∀ e,FD d (κ e))→FD d (zej L p κ f)
 | 0,d,hd,h=>by
  obtain rfl:d=0:=by omega
  exact fd_zero
 | f+1,0,hd,h=>fd_zero
 | f+1,d+1,hd,h=>fd_step fun m=>by
  unfold zek
  split
  ·
   refine fd_casP (fun t => ?_) m
   split
   ·
    exact fd_less (h 0)
   ·
    exact fd_leaveL f d (by omega) fun e=>fd_less (h e)
  ·
   exact fd_less (h 6) m
theorem fd_doG (hd:d≤f) (o:OpD) (κ:Ans→Fu (SM S)) (h:∀ r,FD d (κ r)):FD d (doG L f o κ):=by
 unfold doG
 split
 ·
  unfold joinF;split
  ·
   exact h _
  ·
   exact fd_joinL f d hd (fun e=>h _)
 split
 ·
  unfold zd2;split
  ·
   exact h _
  ·
   exact fd_leaveL f d hd (fun e=>h _)
 split
 ·
  exact fd_setF fun e=>h _
 split
 ·
  exact fd_getF fun v e=>h _
 split
 ·
  exact fd_step' fun m=>h _ m
 split
 ·
  exact fd_leastF fun n p=>h _
 split
 ·
  exact fd_leastF fun n p=>by split<;>exact h _
 ·
  exact h _
end
end Go.Proofs.Ytofacoojpgkbiaa
/-
 What doing lays out (f43): the memory. No condition of its own.
-/
namespace Go.Proofs.Ytofacoojpgkbiaa
open Go.Conc Go.RowKit
set_option maxRecDepth 100000
def closV (dc ac:Nat) (oc ic:Nat→Nat) (j:Nat):Value := .func (.func 170) #[] #[.pointer (some ⟨oc j,0,none⟩),.pointer (some ⟨dc,0,none⟩),.pointer (some ⟨ic j,0,none⟩),.pointer (some ⟨ac,0,none⟩)]
structure DM (w0:World) (N dc ac ar n:Nat) (dv:Value) (S:Nat→Value) (k:Nat) (oc ic:Nat→Nat) (v:Value) (w:World):Prop where
 fdc:w.heap[dc]?=some (.cells #[dv] 158 (0,0))
 fac:w.heap[ac]?=some (.cells #[.slice (some ⟨ar,0,none⟩) n n] 29 (0,0))
 far:w.heap[ar]?=some (.cells (madeCells #[.slice none 0 0] n) 40 (0,0))
 foc:∀ j,j < k→N≤oc j∧w.heap[oc j]?=some (.cells #[S j] 34 (0,0))
 fic:∀ j,j < k→N≤ic j∧w.heap[ic j]?=some (.cells #[.int .i64 j] 3 (0,0))
 row:w.ownsRow N 168 1 v k ((List.range k).map (closV dc ac oc ic))
 low:∀ b,b < N→w.heap[b]?=w0.heap[b]?
 nd:N≤dc∧N≤ac∧N≤ar
 nw:N≤w.heap.size
 outs:w.os=w0.os∧w.output=w0.output
section
variable {w0 w w1:World} {N dc ac ar n:Nat} {dv:Value} {S:Nat→Value} {k:Nat} {oc ic:Nat→Nat} {v v':Value}
theorem DM.alloc (h:DM w0 N dc ac ar n dv S k oc ic v w) (o:Obj):DM w0 N dc ac ar n dv S k oc ic v (w.alloc o):=by
 have kp:∀ {b:Nat} {ob:Obj},w.heap[b]?=some ob→(w.alloc o).heap[b]?=some ob:=fun hb=>(Below.heap_alloc _ _ _ (Array.getElem?_eq_some_iff.1 hb).1).trans hb
 exact ⟨kp h.fdc,kp h.fac,kp h.far,fun j hj=>⟨(h.foc j hj).1,kp (h.foc j hj).2⟩,fun j hj=>⟨(h.fic j hj).1,kp (h.fic j hj).2⟩,h.row.alloc o,fun b hb=>(Below.heap_alloc _ _ _ (Nat.lt_of_lt_of_le hb h.nw)).trans (h.low b hb),h.nd,by have:=h.nw;simp;omega,h.outs⟩
theorem DM.more (h:DM w0 N dc ac ar n dv S k oc ic v w) {p q:Nat} (hp:N≤p∧w.heap[p]?=some (.cells #[.int .i64 k] 3 (0,0))) (hq:N≤q∧w.heap[q]?=some (.cells #[S k] 34 (0,0)))
  (hA:zcy (w.alloc (.cells #[closV dc ac (Go.ConcN.upd oc k q) (Go.ConcN.upd ic k p) k] 168)) N 168 v k 1 (((List.range k).map (closV dc ac oc ic))++[closV dc ac (Go.ConcN.upd oc k q) (Go.ConcN.upd ic k p) k]) v' w1) :
  (∃ g cap,v' = .slice (some ⟨g,0,none⟩) (k+1) cap)∧DM w0 N dc ac ar n dv S (k+1) (Go.ConcN.upd oc k q) (Go.ConcN.upd ic k p) v' w1:=by
 obtain ⟨ho,hg,hsh⟩:=hA
 have h2:=h.alloc (.cells #[closV dc ac (Go.ConcN.upd oc k q) (Go.ConcN.upd ic k p) k] 168)
 have ka:∀ {b:Nat} {ob:Obj},w.heap[b]?=some ob→(w.alloc (.cells #[closV dc ac (Go.ConcN.upd oc k q) (Go.ConcN.upd ic k p) k] 168)).heap[b]?=some ob:=fun hb=>(Below.heap_alloc _ _ _ (Array.getElem?_eq_some_iff.1 hb).1).trans hb
 have keep:∀ {b:Nat} {c:Array Value} {t:Nat},w.heap[b]?=some (.cells c t (0,0))→t≠168→w1.heap[b]?=some (.cells c t (0,0)):=fun {b c t} hb ht=>by
  refine (hg.block b (Array.getElem?_eq_some_iff.1 (ka hb)).1 fun z => ?_).trans (ka hb)
  obtain ⟨cc,hcc⟩:=zak h2.row z.symm
  rw [ka hb] at hcc
  simp at hcc
  exact ht hcc.2
 refine ⟨?_,keep h.fdc (by decide),keep h.fac (by decide),keep h.far (by decide),fun j hj => ?_,fun j hj => ?_,?_,fun b hb => ?_,h.nd,by have:=hg.size;have:=h2.nw;omega,hg.os.trans h.outs.1,hg.output.trans h.outs.2⟩
 ·
  rcases hsh with ⟨_,_,z,_⟩ | ⟨g,cap,e,_⟩
  ·
   cases z
  ·
   exact ⟨g,cap,e⟩
 ·
  by_cases z:j=k
  ·
   subst z
   rw [Go.ConcN.upd_same]
   exact ⟨hq.1,keep hq.2 (by decide)⟩
  ·
   rw [Go.ConcN.upd_ne _ _ z]
   exact ⟨(h.foc j (by omega)).1,keep (h.foc j (by omega)).2 (by decide)⟩
 ·
  by_cases z:j=k
  ·
   subst z
   rw [Go.ConcN.upd_same]
   exact ⟨hp.1,keep hp.2 (by decide)⟩
  ·
   rw [Go.ConcN.upd_ne _ _ z]
   exact ⟨(h.fic j (by omega)).1,keep (h.fic j (by omega)).2 (by decide)⟩
 ·
  rw [List.range_succ,List.map_append]
  have e:(List.range k).map (closV dc ac (Go.ConcN.upd oc k q) (Go.ConcN.upd ic k p))=(List.range k).map (closV dc ac oc ic):=List.map_congr_left fun j hj=>by
   have:=List.mem_range.1 hj
   unfold closV
   rw [Go.ConcN.upd_ne _ _ (by omega),Go.ConcN.upd_ne _ _ (by omega)]
  rw [e]
  exact ho
 ·
  refine (hg.block b (Nat.lt_of_lt_of_le hb h2.nw) fun z => ?_).trans (h2.low b hb)
  have:=(h2.row.lt b z.symm).1
  omega
end
end Go.Proofs.Ytofacoojpgkbiaa
