/-
  A part of a proof. No condition of its own.
-/
import Derived.Test.YtofacoojpgkbiaaCPlsP20
import Derived.Deep.DeepCutAuto
set_option linter.unusedVariables false
set_option maxHeartbeats 8000000
set_option linter.unusedSimpArgs false
namespace Go.Proofs.Ytofacoojpgkbiaa
open Go.Conc Go.RowKit
set_option maxRecDepth 100000 in
theorem zlt {a b:Value} {l:List Int} {w:World} (ha:IntsAt w a l) (hb:IntsAt w b l) (hl:l.length≤1000000000) :
  Calls Try.prog 23 #[a,b] w fun e w'=>e = .returned (.bool true)∧Below w.heap.size w w':=by
 obtain ⟨pa,ca,rfl,qa⟩:=ha;obtain ⟨pb,cb,rfl,qb⟩:=hb;have H0:=yay (Below.refl w.heap.size w);generalize hN:w.heap.size=N at *;replace hN:=yay hN;go_enter Try.func23,Try.ntmps23
 go_wp2_with fail
 go_loopw [5] (fun iv wr=>∃ j:Nat,j≤l.length∧iv = .int .i64 j∧Hid (Below N w wr)) (fun iv _=>l.length - (intOf iv).toNat)
 case atStart=>exact ⟨0,by omega,rfl,H0⟩
 case round =>
  obtain ⟨j,hj,rfl,HB⟩:=hrel;by_cases hlt:j < l.length
  ·have hlt':(j:Int) < (l.length:Int):=by omega
   have hne:l≠[]:=fun z=>by rw [z] at hlt;simp at hlt
   obtain ⟨ba,oa,rfl,ka⟩:=qa hne;obtain ⟨bb,ob,rfl,kb⟩:=qb hne;have hx:=List.getElem?_eq_getElem hlt;have k1:=ka j _ hx;have k2:=kb j _ hx;generalize l[j]=x at *;have k1:wr.cell? ⟨ba,oa+j,none⟩=some (.int .i64 x):=zas (w:=w) (fun b hb=>HB.out.block b (by rw [← hN.out];exact hb)) k1;have k2:wr.cell? ⟨bb,ob+j,none⟩=some (.int .i64 x):=zas (w:=w) (fun b hb=>HB.out.block b (by rw [← hN.out];exact hb)) k2;have e2:IntKind.i64.wrap ((j:Int)+1)=((j+1:Nat):Int):=by rw [IntKind.wrap_i64];omega
   clear ka kb qa qb hx;have HD:=yay HB.out.drew;go_upto_region 6 with fail
   go_region
   all_goals
    go_wp2_with fail
    exact ⟨⟨j+1,by omega,by rw [Int.natCast_add];rfl,HD⟩,by simp [intOf];omega⟩
  ·obtain rfl:j=l.length:=by omega
   go_wp2_with fail
   go_ret
   exact ⟨rfl,HB.out⟩
set_option maxRecDepth 100000 in
theorem zsi {a b:Value} {l:List Ans} {w:World} (hll:∀ r∈l,r.l.length≤1000000000) (ha:AnsIn w a l) (hb:AnsIn w b l) (hl:l.length≤1000000000) :
  Calls Try.prog 22 #[a,b] w fun e w'=>e = .returned (.bool true)∧Below w.heap.size w w':=by
 obtain ⟨pa,ca,rfl,qa⟩:=ha;obtain ⟨pb,cb,rfl,qb⟩:=hb;have H0:=yay (Below.refl w.heap.size w);generalize hN:w.heap.size=N at *;replace hN:=yay hN;go_enter Try.func22,Try.ntmps22
 go_wp2_with fail
 go_loopw [5] (fun iv wr=>∃ j:Nat,j≤l.length∧iv = .int .i64 j∧Hid (Below N w wr)) (fun iv _=>l.length - (intOf iv).toNat)
 case atStart=>exact ⟨0,by omega,rfl,H0⟩
 case round =>
  obtain ⟨j,hj,rfl,HB⟩:=hrel;by_cases hlt:j < l.length
  ·have hlt':(j:Int) < (l.length:Int):=by omega
   have hne:l≠[]:=fun z=>by rw [z] at hlt;simp at hlt
   obtain ⟨ba,oa,rfl,ka⟩:=qa hne;obtain ⟨bb,ob,rfl,kb⟩:=qb hne;have hx:=List.getElem?_eq_getElem hlt;obtain ⟨a0,a1,ua,a2,ia⟩:=ka j _ hx;obtain ⟨b0,b1,ub,b2,ib⟩:=kb j _ hx;have hrl:=hll _ (List.getElem_mem hlt);generalize l[j]=x at *;obtain ⟨ok,m,rl⟩:=x;have HN:Hid (∀ w',Below wr.heap.size wr w'→Calls Try.prog 23 #[ua,ub] w' fun e w''=>e = .returned (.bool true)∧Below w'.heap.size w' w''):=yay fun w' hb'=>by
    have kk:∀ b,b < w.heap.size→w'.heap[b]?=w.heap[b]?:=fun b hb=>(hb'.block b (by have h1:=HB.out.size;have h2:=hN.out;omega)).trans (HB.out.block b (by rw [← hN.out];exact hb));exact zlt (ia.mono kk) (ib.mono kk) hrl
   have eua:∃ x1 x2 x3,ua = .slice x1 x2 x3:=by obtain ⟨x1,x2,e,_⟩:=ia;exact ⟨_,_,_,e⟩
   have eub:∃ x1 x2 x3,ub = .slice x1 x2 x3:=by obtain ⟨x1,x2,e,_⟩:=ib;exact ⟨_,_,_,e⟩
   obtain ⟨y1,y2,y3,rfl⟩:=eua;obtain ⟨z1,z2,z3,rfl⟩:=eub;clear ia ib hrl;have kp:∀ {ad:Addr} {v:Value},w.cell? ad=some v→wr.cell? ad=some v:=fun {ad v} h=>zas (w:=w) (fun b hb=>HB.out.block b (by rw [← hN.out];exact hb)) h;replace a0:=kp a0;replace a1:=kp a1;replace a2:=kp a2;replace b0:=kp b0;replace b1:=kp b1;replace b2:=kp b2;have e2:IntKind.i64.wrap ((j:Int)+1)=((j+1:Nat):Int):=by rw [IntKind.wrap_i64];omega
   clear kp ka kb qa qb hx;have hmm:(m != m)=false:=by simp
   have hsz:N≤wr.heap.size:=by have:=HB.out.size;have:=hN.out;omega
   replace hsz:=yay hsz;have HD:=yay HB.out.drew;simp only at a0 a1 b0 b1;go_upto_region 6 with fail
   go_cut [54] (fun v wx=>v = .bool false∧Below N w wx)
   case first =>
    cases ok
    ·have HK:Hid (∀ w',Below wr.heap.size wr w'→(w'.cell? ⟨ba,oa+j * 3,none⟩=some (.bool false)∧w'.cell? ⟨ba,oa+j * 3+1,none⟩=some (.int .i64 m)∧w'.cell? ⟨ba,oa+j * 3+2,none⟩=some (.slice y1 y2 y3)∧w'.cell? ⟨bb,ob+j * 3,none⟩=some (.bool false)∧w'.cell? ⟨bb,ob+j * 3+1,none⟩=some (.int .i64 m)∧w'.cell? ⟨bb,ob+j * 3+2,none⟩=some (.slice z1 z2 z3))):=yay (fun w' h=>⟨zas h.block a0,zas h.block a1,zas h.block a2,zas h.block b0,zas h.block b1,zas h.block b2⟩)
     go_region_held3 (fun w'=>w'.cell? ⟨ba,oa+j * 3,none⟩=some (.bool false)∧w'.cell? ⟨ba,oa+j * 3+1,none⟩=some (.int .i64 m)∧w'.cell? ⟨ba,oa+j * 3+2,none⟩=some (.slice y1 y2 y3)∧w'.cell? ⟨bb,ob+j * 3,none⟩=some (.bool false)∧w'.cell? ⟨bb,ob+j * 3+1,none⟩=some (.int .i64 m)∧w'.cell? ⟨bb,ob+j * 3+2,none⟩=some (.slice z1 z2 z3))
      (first|exact HK.out _ (Below.refl _ _).drew|exact HK.out _ HB5.out)
      ((go_at_call 23;refine (HN.out _ (Below.refl _ _).drew).mono ?_;rintro e w5 ⟨rfl,hb5⟩;(have HB5:Hid (Below wr.heap.size wr w5):=yay ((Below.refl wr.heap.size wr).drew.trans hb5));clear hb5))
     all_goals (go_wp2_with fail;go_meet)
     all_goals exact ⟨rfl,HB.out.trans (HB5.out.mono hsz.out)⟩
    ·have HK:Hid (∀ w',Below wr.heap.size wr w'→(w'.cell? ⟨ba,oa+j * 3,none⟩=some (.bool true)∧w'.cell? ⟨ba,oa+j * 3+1,none⟩=some (.int .i64 m)∧w'.cell? ⟨ba,oa+j * 3+2,none⟩=some (.slice y1 y2 y3)∧w'.cell? ⟨bb,ob+j * 3,none⟩=some (.bool true)∧w'.cell? ⟨bb,ob+j * 3+1,none⟩=some (.int .i64 m)∧w'.cell? ⟨bb,ob+j * 3+2,none⟩=some (.slice z1 z2 z3))):=yay (fun w' h=>⟨zas h.block a0,zas h.block a1,zas h.block a2,zas h.block b0,zas h.block b1,zas h.block b2⟩)
     go_region_held3 (fun w'=>w'.cell? ⟨ba,oa+j * 3,none⟩=some (.bool true)∧w'.cell? ⟨ba,oa+j * 3+1,none⟩=some (.int .i64 m)∧w'.cell? ⟨ba,oa+j * 3+2,none⟩=some (.slice y1 y2 y3)∧w'.cell? ⟨bb,ob+j * 3,none⟩=some (.bool true)∧w'.cell? ⟨bb,ob+j * 3+1,none⟩=some (.int .i64 m)∧w'.cell? ⟨bb,ob+j * 3+2,none⟩=some (.slice z1 z2 z3))
      (first|exact HK.out _ (Below.refl _ _).drew|exact HK.out _ HB5.out)
      ((go_at_call 23;refine (HN.out _ (Below.refl _ _).drew).mono ?_;rintro e w5 ⟨rfl,hb5⟩;(have HB5:Hid (Below wr.heap.size wr w5):=yay ((Below.refl wr.heap.size wr).drew.trans hb5));clear hb5))
     all_goals (go_wp2_with fail;go_meet)
     all_goals exact ⟨rfl,HB.out.trans (HB5.out.mono hsz.out)⟩
   case rest =>
    obtain ⟨rfl,hb6⟩:=hcut;have HB6:=yay hb6;clear hb6
    go_wp2_with fail
    exact ⟨⟨j+1,by omega,by rw [Int.natCast_add];rfl,HB6⟩,by simp [intOf];omega⟩
  ·obtain rfl:j=l.length:=by omega
   go_wp2_with fail
   go_ret
   exact ⟨rfl,HB.out⟩
set_option maxRecDepth 100000 in
theorem zsh {a b:Value} {l:List Int} {w:World} (ha:IntsAt w a l) (hb:IntsAt w b l) (hl:l.length≤1000000000) :
  Calls Try.prog 28 #[a,b] w fun e w'=>e = .returned (.bool true)∧Below w.heap.size w w':=by
 obtain ⟨pa,ca,rfl,qa⟩:=ha;obtain ⟨pb,cb,rfl,qb⟩:=hb;have H0:=yay (Below.refl w.heap.size w);generalize hN:w.heap.size=N at *;replace hN:=yay hN;go_enter Try.func28,Try.ntmps28
 go_wp2_with fail
 go_loopw [5] (fun iv wr=>∃ j:Nat,j≤l.length∧iv = .int .i64 j∧Hid (Below N w wr)) (fun iv _=>l.length - (intOf iv).toNat)
 case atStart=>exact ⟨0,by omega,rfl,H0⟩
 case round =>
  obtain ⟨j,hj,rfl,HB⟩:=hrel;by_cases hlt:j < l.length
  ·have hlt':(j:Int) < (l.length:Int):=by omega
   have hne:l≠[]:=fun z=>by rw [z] at hlt;simp at hlt
   obtain ⟨ba,oa,rfl,ka⟩:=qa hne;obtain ⟨bb,ob,rfl,kb⟩:=qb hne;have hx:=List.getElem?_eq_getElem hlt;have k1:=ka j _ hx;have k2:=kb j _ hx;generalize l[j]=x at *;have k1:wr.cell? ⟨ba,oa+j,none⟩=some (.int .i64 x):=zas (w:=w) (fun b hb=>HB.out.block b (by rw [← hN.out];exact hb)) k1;have k2:wr.cell? ⟨bb,ob+j,none⟩=some (.int .i64 x):=zas (w:=w) (fun b hb=>HB.out.block b (by rw [← hN.out];exact hb)) k2;have e2:IntKind.i64.wrap ((j:Int)+1)=((j+1:Nat):Int):=by rw [IntKind.wrap_i64];omega
   clear ka kb qa qb hx;have HD:=yay HB.out.drew;go_upto_region 6 with fail
   go_region
   all_goals
    go_wp2_with fail
    exact ⟨⟨j+1,by omega,by rw [Int.natCast_add];rfl,HD⟩,by simp [intOf];omega⟩
  ·obtain rfl:j=l.length:=by omega
   go_wp2_with fail
   go_ret
   exact ⟨rfl,HB.out⟩
set_option maxRecDepth 100000 in
theorem zsg {a b:Value} {T:Tr} {w:World} (ha:TrIn w a T) (hb:TrIn w b T) (hl1:T.ans.length≤1000000000) (hl2:T.ord.length≤1000000000) (hl3:T.st.length≤1000000000) (hl4:∀ l∈T.ans,l.length≤1000000000) (hl5:∀ l∈T.ans,∀ r∈l,r.l.length≤1000000000) :
  Calls Try.prog 17 #[a,b] w fun e w'=>e = .returned (.bool true)∧Below w.heap.size w w':=by
 obtain ⟨va,vo,vs,rfl,⟨pa,ca,rfl,qa⟩,⟨po,co,rfl,qo⟩,hs⟩:=ha;obtain ⟨va',vo',vs',rfl,⟨pa',ca',rfl,qa'⟩,⟨po',co',rfl,qo'⟩,hs'⟩:=hb;have hs0:=hs;have hs0':=hs';obtain ⟨ps,cs,rfl,_⟩:=hs0;obtain ⟨ps',cs',rfl,_⟩:=hs0';obtain ⟨Ta,To,Ts,st⟩:=T;simp only at *;have E1:=heap_alloc_new w (.cells #[.slice pa Ta.length ca,.slice po To.length co,.slice ps Ts.length cs,.bool st] 31);have B1:Below w.heap.size w (w.alloc (.cells #[.slice pa Ta.length ca,.slice po To.length co,.slice ps Ts.length cs,.bool st] 31)):=(Below.refl _ _).alloc (yax _) _;have S1:(w.alloc (.cells #[.slice pa Ta.length ca,.slice po To.length co,.slice ps Ts.length cs,.bool st] 31)).heap.size=w.heap.size+1:=by simp
 go_enter Try.func17,Try.ntmps17
 go_upto_region 1 with fail
 generalize w.alloc (.cells #[.slice pa Ta.length ca,.slice po To.length co,.slice ps Ts.length cs,.bool st] 31)=w1 at *;have E2:=heap_alloc_new w1 (.cells #[.slice pa' Ta.length ca',.slice po' To.length co',.slice ps' Ts.length cs',.bool st] 31);have B2:=B1.alloc (by omega) (.cells #[.slice pa' Ta.length ca',.slice po' To.length co',.slice ps' Ts.length cs',.bool st] 31);have E1':=(Below.heap_alloc w1 (.cells #[.slice pa' Ta.length ca',.slice po' To.length co',.slice ps' Ts.length cs',.bool st] 31) _ (yah.1 E1).1).trans E1;generalize w1.alloc (.cells #[.slice pa' Ta.length ca',.slice po' To.length co',.slice ps' Ts.length cs',.bool st] 31)=w2 at *;rw [S1] at *;clear E1 B1;generalize hN:w.heap.size=N at *;have hS2:N+1 < w2.heap.size:=(yah.1 E2).1;have kw:∀ b,b < w.heap.size→w2.heap[b]?=w.heap[b]?:=fun b hb=>B2.block b (by omega);have HO:=yay (zsh (IntsAt.mono ⟨po,co,rfl,qo⟩ kw) (IntsAt.mono ⟨po',co',rfl,qo'⟩ kw) hl2);have HS:=yay (fun (W:World) (h:∀ b,b < w.heap.size→W.heap[b]?=w.heap[b]?)=>zlt (hs.mono h) (hs'.mono h) hl3);have a0:w2.cell? ⟨N,0,none⟩=some (.slice pa Ta.length ca):=by rw [zab E1' 0];rfl
 have a1:w2.cell? ⟨N,1,none⟩=some (.slice po To.length co):=by rw [zab E1' 1];rfl
 have a2:w2.cell? ⟨N,2,none⟩=some (.slice ps Ts.length cs):=by rw [zab E1' 2];rfl
 have a3:w2.cell? ⟨N,3,none⟩=some (.bool st):=by rw [zab E1' 3];rfl
 have b0:w2.cell? ⟨N+1,0,none⟩=some (.slice pa' Ta.length ca'):=by rw [zab E2 0];rfl
 have b1:w2.cell? ⟨N+1,1,none⟩=some (.slice po' To.length co'):=by rw [zab E2 1];rfl
 have b2:w2.cell? ⟨N+1,2,none⟩=some (.slice ps' Ts.length cs'):=by rw [zab E2 2];rfl
 have b3:w2.cell? ⟨N+1,3,none⟩=some (.bool st):=by rw [zab E2 3];rfl
 replace B2:=yay B2;replace kw:=yay kw;replace hN:=yay hN;replace qa:=yay qa;replace qa':=yay qa';replace qo:=yay qo;replace qo':=yay qo';replace hl4:=yay hl4;replace hl5:=yay hl5;clear E1' E2 hs hs' S1;have hst:(st != st)=false:=by simp
 have K9:Hid (∀ wx,Below w2.heap.size w2 wx→wx.cell? ⟨N,2,none⟩=some (.slice ps Ts.length cs)∧wx.cell? ⟨N,3,none⟩=some (.bool st)∧wx.cell? ⟨N+1,2,none⟩=some (.slice ps' Ts.length cs')∧wx.cell? ⟨N+1,3,none⟩=some (.bool st)):=yay fun wx h=>⟨zas h.block a2,zas h.block a3,zas h.block b2,zas h.block b3⟩;have K8:Hid (∀ wx,Below w2.heap.size w2 wx→∀ b,b < w.heap.size→wx.heap[b]?=w.heap[b]?):=yay fun wx h b hb=>(h.block b (by have:=hN.out;omega)).trans (kw.out b hb)
 go_wp2_with (first
  | (go_at_call 28;refine HO.out.mono ?_;rintro e w3 ⟨rfl,hb3⟩;obtain ⟨i2,i3,j2,j3⟩:=K9.out _ hb3;(have HS2:=yay (HS.out w3 (K8.out _ hb3)));(have HB2:=yay hb3);clear hb3)
  | (go_at_call 23;refine HS2.out.mono ?_;rintro e w4 ⟨rfl,hb4⟩;(have hb5:=HB2.out.trans (hb4.mono HB2.out.size));obtain ⟨k2,k3,l2,l3⟩:=K9.out _ hb5;(have HB3:=yay hb5);clear hb4 hb5))
 have K3:Hid (∀ wx,Below w2.heap.size w2 wx→wx.cell? ⟨N,0,none⟩=some (.slice pa Ta.length ca)∧wx.cell? ⟨N,1,none⟩=some (.slice po To.length co)∧wx.cell? ⟨N+1,0,none⟩=some (.slice pa' Ta.length ca')∧wx.cell? ⟨N+1,1,none⟩=some (.slice po' To.length co')):=yay fun wx h=>⟨zas h.block a0,zas h.block a1,zas h.block b0,zas h.block b1⟩;clear a0 a1 a2 a3 b0 b1 b2 b3
 go_loopw [5] (fun iv wr=>∃ j:Nat,j≤Ta.length∧iv = .int .i64 j∧Hid (Below w2.heap.size w2 wr)) (fun iv _=>Ta.length - (intOf iv).toNat)
 case atStart=>exact ⟨0,by omega,rfl,HB3⟩
 case round =>
  obtain ⟨j,hj,rfl,HB⟩:=hrel;obtain ⟨a0,a1,b0,b1⟩:=K3.out _ HB.out;by_cases hlt:j < Ta.length
  ·have hlt':(j:Int) < (Ta.length:Int):=by omega
   have hne:Ta≠[]:=fun z=>by rw [z] at hlt;simp at hlt
   obtain ⟨ba,oa,rfl,ka⟩:=qa.out hne;obtain ⟨bb,ob,rfl,kb⟩:=qa'.out hne;have hx:=List.getElem?_eq_getElem hlt;obtain ⟨u1,c1,d1⟩:=ka j _ hx;obtain ⟨u2,c2,d2⟩:=kb j _ hx;have hmem:Ta[j]∈Ta:=List.getElem_mem hlt;have hlx:=hl4.out _ hmem;have hly:=hl5.out _ hmem;generalize Ta[j]=x at *;have k2:∀ b,b < w.heap.size→wr.heap[b]?=w.heap[b]?:=fun b hb=>(HB.out.block b (by have:=hN.out;omega)).trans (kw.out b hb);have k2':∀ b,b < w.heap.size→wr.drew.heap[b]?=w.heap[b]?:=k2;replace c1:=zas k2 c1;replace c2:=zas k2 c2;have HA:=yay (fun (W:World) (h:∀ b,b < w.heap.size→W.heap[b]?=w.heap[b]?)=>zsi hly (d1.keep h) (d2.keep h) hlx);have e2:IntKind.i64.wrap ((j:Int)+1)=((j+1:Nat):Int):=by rw [IntKind.wrap_i64];omega
   obtain ⟨p1,l1,f1⟩:∃ p c,u1 = .slice p x.length c:=by obtain ⟨p,c,e,_⟩:=d1;exact ⟨p,c,e⟩
   obtain ⟨p2,l2,f2⟩:∃ p c,u2 = .slice p x.length c:=by obtain ⟨p,c,e,_⟩:=d2;exact ⟨p,c,e⟩
   have HA1:=yay (HA.out wr.drew k2');rw [f1,f2] at HA1;rw [f1] at c1;rw [f2] at c2;clear ka kb hx hmem d1 d2 f1 f2 HA;replace k2:=yay k2;clear k2';have HK:Hid (∀ w',Below wr.heap.size wr w'→w'.cell? ⟨N,0,none⟩=some (.slice (some ⟨ba,oa,none⟩) Ta.length ca)∧w'.cell? ⟨N+1,0,none⟩=some (.slice (some ⟨bb,ob,none⟩) Ta.length ca')∧w'.cell? ⟨ba,oa+j,none⟩=some (.slice p1 x.length l1)∧w'.cell? ⟨bb,ob+j,none⟩=some (.slice p2 x.length l2)):=yay fun w' h=>⟨zas h.block a0,zas h.block b0,zas h.block c1,zas h.block c2⟩;go_upto_region 6 with fail
   go_cut [54] (fun v wx=>v = .bool false∧Below w2.heap.size w2 wx)
   case first =>
    go_region_held3 (fun w'=>w'.cell? ⟨N,0,none⟩=some (.slice (some ⟨ba,oa,none⟩) Ta.length ca)∧w'.cell? ⟨N+1,0,none⟩=some (.slice (some ⟨bb,ob,none⟩) Ta.length ca')∧w'.cell? ⟨ba,oa+j,none⟩=some (.slice p1 x.length l1)∧w'.cell? ⟨bb,ob+j,none⟩=some (.slice p2 x.length l2))
     (first|exact HK.out _ (Below.refl _ _).drew|exact HK.out _ HB5.out)
     ((go_at_call 22;refine HA1.out.mono ?_;rintro e w5 ⟨rfl,hb5⟩;(have HB5:Hid (Below wr.heap.size wr w5):=yay ((Below.refl wr.heap.size wr).drew.trans hb5));clear hb5))
    all_goals (go_wp2_with fail;go_meet)
    all_goals exact ⟨rfl,HB.out.trans (HB5.out.mono HB.out.size)⟩
   case rest =>
    obtain ⟨rfl,hb6⟩:=hcut;have HB6:=yay hb6;clear hb6
    go_wp2_with fail
    exact ⟨⟨j+1,by omega,by rw [Int.natCast_add];rfl,HB6⟩,by simp [intOf];omega⟩
  ·obtain rfl:j=Ta.length:=by omega
   go_wp2_with fail
   go_ret
   exact ⟨rfl,⟨HB.out.os.trans B2.out.os,HB.out.tape.trans B2.out.tape,HB.out.output.trans B2.out.output,Nat.le_trans B2.out.size HB.out.size,fun b hb=>(HB.out.block b (by have:=hN.out;omega)).trans (B2.out.block b (by have:=hN.out;omega))⟩⟩
end Go.Proofs.Ytofacoojpgkbiaa
