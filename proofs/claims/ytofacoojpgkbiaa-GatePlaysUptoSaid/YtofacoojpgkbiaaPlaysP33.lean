/-
  Merged out of: GSameM GSameT Mac2. No condition of its own.
-/
import Derived.Test.YtofacoojpgkbiaaPlaysP30
import Derived.Deep.DeepCutAuto
import Derived.Deep.RegionHeld3
import Derived.Test.YtofacoojpgkbiaaPlaysP32
import Derived.Test.YtofacoojpgkbiaaPlaysP31
set_option linter.unusedVariables false
set_option maxHeartbeats 8000000
set_option linter.unusedSimpArgs false
/-
 The document's comparing: SameNumbers (f23),SameAnswers (f22),walked: two that read the same are the same (printed by gen/gsame.py). No condition of its own.
-/
namespace Go.Proofs.Ytofacoojpgkbiaa
open Go.Conc Go.RowKit
set_option maxRecDepth 100000 in
theorem sameN_walk {a b:Value} {l:List Int} {w:World} (ha:IntsAt w a l) (hb:IntsAt w b l) (hl:l.length≤1000000000) :
  Calls Try.prog 23 #[a,b] w fun e w'=>e = .returned (.bool true)∧Below w.heap.size w w':=by
 obtain ⟨pa,ca,rfl,qa⟩:=ha
 obtain ⟨pb,cb,rfl,qb⟩:=hb
 have H0:=Lib.hid (Below.refl w.heap.size w)
 generalize hN:w.heap.size=N at *
 replace hN:=Lib.hid hN
 go_enter Try.func23,Try.ntmps23
 go_wp2_with fail
 go_loopw [5] (fun iv wr=>∃ j:Nat,j≤l.length∧iv = .int .i64 j∧Hid (Below N w wr)) (fun iv _=>l.length - (intOf iv).toNat)
 case atStart=>exact ⟨0,by omega,rfl,H0⟩
 case round =>
  obtain ⟨j,hj,rfl,HB⟩:=hrel
  by_cases hlt:j < l.length
  ·
   have hlt':(j:Int) < (l.length:Int):=by omega
   have hne:l≠[]:=fun z=>by rw [z] at hlt;simp at hlt
   obtain ⟨ba,oa,rfl,ka⟩:=qa hne
   obtain ⟨bb,ob,rfl,kb⟩:=qb hne
   have hx:=List.getElem?_eq_getElem hlt
   have k1:=ka j _ hx
   have k2:=kb j _ hx
   generalize l[j]=x at *
   have k1:wr.cell? ⟨ba,oa+j,none⟩=some (.int .i64 x):=zam (w:=w) (fun b hb=>HB.out.block b (by rw [← hN.out];exact hb)) k1
   have k2:wr.cell? ⟨bb,ob+j,none⟩=some (.int .i64 x):=zam (w:=w) (fun b hb=>HB.out.block b (by rw [← hN.out];exact hb)) k2
   have e2:IntKind.i64.wrap ((j:Int)+1)=((j+1:Nat):Int):=by rw [IntKind.wrap_i64];omega
   clear ka kb qa qb hx
   have HD:=Lib.hid HB.out.drew
   go_upto_region 6 with fail
   go_region
   all_goals
    go_wp2_with fail
    exact ⟨⟨j+1,by omega,by rw [Int.natCast_add];rfl,HD⟩,by simp [intOf];omega⟩
  ·
   obtain rfl:j=l.length:=by omega
   go_wp2_with fail
   go_ret
   exact ⟨rfl,HB.out⟩
set_option maxRecDepth 100000 in
theorem sameA_walk {a b:Value} {l:List Ans} {w:World} (hll:∀ r∈l,r.l.length≤1000000000) (ha:AnsIn w a l) (hb:AnsIn w b l) (hl:l.length≤1000000000) :
  Calls Try.prog 22 #[a,b] w fun e w'=>e = .returned (.bool true)∧Below w.heap.size w w':=by
 obtain ⟨pa,ca,rfl,qa⟩:=ha
 obtain ⟨pb,cb,rfl,qb⟩:=hb
 have H0:=Lib.hid (Below.refl w.heap.size w)
 generalize hN:w.heap.size=N at *
 replace hN:=Lib.hid hN
 go_enter Try.func22,Try.ntmps22
 go_wp2_with fail
 go_loopw [5] (fun iv wr=>∃ j:Nat,j≤l.length∧iv = .int .i64 j∧Hid (Below N w wr)) (fun iv _=>l.length - (intOf iv).toNat)
 case atStart=>exact ⟨0,by omega,rfl,H0⟩
 case round =>
  obtain ⟨j,hj,rfl,HB⟩:=hrel
  by_cases hlt:j < l.length
  ·
   have hlt':(j:Int) < (l.length:Int):=by omega
   have hne:l≠[]:=fun z=>by rw [z] at hlt;simp at hlt
   obtain ⟨ba,oa,rfl,ka⟩:=qa hne
   obtain ⟨bb,ob,rfl,kb⟩:=qb hne
   have hx:=List.getElem?_eq_getElem hlt
   obtain ⟨a0,a1,ua,a2,ia⟩:=ka j _ hx
   obtain ⟨b0,b1,ub,b2,ib⟩:=kb j _ hx
   have hrl:=hll _ (List.getElem_mem hlt)
   generalize l[j]=x at *
   obtain ⟨ok,m,rl⟩:=x
   have HN:Hid (∀ w',Below wr.heap.size wr w'→Calls Try.prog 23 #[ua,ub] w' fun e w''=>e = .returned (.bool true)∧Below w'.heap.size w' w''):=Lib.hid fun w' hb'=>by
    have kk:∀ b,b < w.heap.size→w'.heap[b]?=w.heap[b]?:=fun b hb=>(hb'.block b (by have h1:=HB.out.size;have h2:=hN.out;omega)).trans (HB.out.block b (by rw [← hN.out];exact hb))
    exact sameN_walk (ia.mono kk) (ib.mono kk) hrl
   have eua:∃ x1 x2 x3,ua = .slice x1 x2 x3:=by obtain ⟨x1,x2,e,_⟩:=ia;exact ⟨_,_,_,e⟩
   have eub:∃ x1 x2 x3,ub = .slice x1 x2 x3:=by obtain ⟨x1,x2,e,_⟩:=ib;exact ⟨_,_,_,e⟩
   obtain ⟨y1,y2,y3,rfl⟩:=eua
   obtain ⟨z1,z2,z3,rfl⟩:=eub
   clear ia ib hrl
   have kp:∀ {ad:Addr} {v:Value},w.cell? ad=some v→wr.cell? ad=some v:=fun {ad v} h=>zam (w:=w) (fun b hb=>HB.out.block b (by rw [← hN.out];exact hb)) h
   replace a0:=kp a0
   replace a1:=kp a1
   replace a2:=kp a2
   replace b0:=kp b0
   replace b1:=kp b1
   replace b2:=kp b2
   have e2:IntKind.i64.wrap ((j:Int)+1)=((j+1:Nat):Int):=by rw [IntKind.wrap_i64];omega
   clear kp ka kb qa qb hx
   have hmm:(m != m)=false:=by simp
   have hsz:N≤wr.heap.size:=by have:=HB.out.size;have:=hN.out;omega
   replace hsz:=Lib.hid hsz
   have HD:=Lib.hid HB.out.drew
   simp only at a0 a1 b0 b1
   go_upto_region 6 with fail
   go_cut [54] (fun v wx=>v = .bool false∧Below N w wx)
   case first =>
    cases ok
    ·
     have HK:Hid (∀ w',Below wr.heap.size wr w'→(w'.cell? ⟨ba,oa+j * 3,none⟩=some (.bool false)∧w'.cell? ⟨ba,oa+j * 3+1,none⟩=some (.int .i64 m)∧w'.cell? ⟨ba,oa+j * 3+2,none⟩=some (.slice y1 y2 y3)∧w'.cell? ⟨bb,ob+j * 3,none⟩=some (.bool false)∧w'.cell? ⟨bb,ob+j * 3+1,none⟩=some (.int .i64 m)∧w'.cell? ⟨bb,ob+j * 3+2,none⟩=some (.slice z1 z2 z3))):=Lib.hid (fun w' h=>⟨zam h.block a0,zam h.block a1,zam h.block a2,zam h.block b0,zam h.block b1,zam h.block b2⟩)
     go_region_held3 (fun w'=>w'.cell? ⟨ba,oa+j * 3,none⟩=some (.bool false)∧w'.cell? ⟨ba,oa+j * 3+1,none⟩=some (.int .i64 m)∧w'.cell? ⟨ba,oa+j * 3+2,none⟩=some (.slice y1 y2 y3)∧w'.cell? ⟨bb,ob+j * 3,none⟩=some (.bool false)∧w'.cell? ⟨bb,ob+j * 3+1,none⟩=some (.int .i64 m)∧w'.cell? ⟨bb,ob+j * 3+2,none⟩=some (.slice z1 z2 z3))
      (first | exact HK.out _ (Below.refl _ _).drew | exact HK.out _ HB5.out)
      ((go_at_call 23;refine (HN.out _ (Below.refl _ _).drew).mono ?_;rintro e w5 ⟨rfl,hb5⟩;(have HB5:Hid (Below wr.heap.size wr w5):=Lib.hid ((Below.refl wr.heap.size wr).drew.trans hb5));clear hb5))
     all_goals (go_wp2_with fail;go_meet)
     all_goals exact ⟨rfl,HB.out.trans (HB5.out.mono hsz.out)⟩
    ·
     have HK:Hid (∀ w',Below wr.heap.size wr w'→(w'.cell? ⟨ba,oa+j * 3,none⟩=some (.bool true)∧w'.cell? ⟨ba,oa+j * 3+1,none⟩=some (.int .i64 m)∧w'.cell? ⟨ba,oa+j * 3+2,none⟩=some (.slice y1 y2 y3)∧w'.cell? ⟨bb,ob+j * 3,none⟩=some (.bool true)∧w'.cell? ⟨bb,ob+j * 3+1,none⟩=some (.int .i64 m)∧w'.cell? ⟨bb,ob+j * 3+2,none⟩=some (.slice z1 z2 z3))):=Lib.hid (fun w' h=>⟨zam h.block a0,zam h.block a1,zam h.block a2,zam h.block b0,zam h.block b1,zam h.block b2⟩)
     go_region_held3 (fun w'=>w'.cell? ⟨ba,oa+j * 3,none⟩=some (.bool true)∧w'.cell? ⟨ba,oa+j * 3+1,none⟩=some (.int .i64 m)∧w'.cell? ⟨ba,oa+j * 3+2,none⟩=some (.slice y1 y2 y3)∧w'.cell? ⟨bb,ob+j * 3,none⟩=some (.bool true)∧w'.cell? ⟨bb,ob+j * 3+1,none⟩=some (.int .i64 m)∧w'.cell? ⟨bb,ob+j * 3+2,none⟩=some (.slice z1 z2 z3))
      (first | exact HK.out _ (Below.refl _ _).drew | exact HK.out _ HB5.out)
      ((go_at_call 23;refine (HN.out _ (Below.refl _ _).drew).mono ?_;rintro e w5 ⟨rfl,hb5⟩;(have HB5:Hid (Below wr.heap.size wr w5):=Lib.hid ((Below.refl wr.heap.size wr).drew.trans hb5));clear hb5))
     all_goals (go_wp2_with fail;go_meet)
     all_goals exact ⟨rfl,HB.out.trans (HB5.out.mono hsz.out)⟩
   case rest =>
    obtain ⟨rfl,hb6⟩:=hcut
    have HB6:=Lib.hid hb6
    clear hb6
    go_wp2_with fail
    exact ⟨⟨j+1,by omega,by rw [Int.natCast_add];rfl,HB6⟩,by simp [intOf];omega⟩
  ·
   obtain rfl:j=l.length:=by omega
   go_wp2_with fail
   go_ret
   exact ⟨rfl,HB.out⟩
end Go.Proofs.Ytofacoojpgkbiaa
/-
 The document's comparing: SameInts (f28),SameTrace (f17),walked: two traces that read the same are the same. No condition of its own.
-/
namespace Go.Proofs.Ytofacoojpgkbiaa
open Go.Conc Go.RowKit
set_option maxRecDepth 100000 in
theorem sameI_walk {a b:Value} {l:List Int} {w:World} (ha:IntsAt w a l) (hb:IntsAt w b l) (hl:l.length≤1000000000) :
  Calls Try.prog 28 #[a,b] w fun e w'=>e = .returned (.bool true)∧Below w.heap.size w w':=by
 obtain ⟨pa,ca,rfl,qa⟩:=ha
 obtain ⟨pb,cb,rfl,qb⟩:=hb
 have H0:=Lib.hid (Below.refl w.heap.size w)
 generalize hN:w.heap.size=N at *
 replace hN:=Lib.hid hN
 go_enter Try.func28,Try.ntmps28
 go_wp2_with fail
 go_loopw [5] (fun iv wr=>∃ j:Nat,j≤l.length∧iv = .int .i64 j∧Hid (Below N w wr)) (fun iv _=>l.length - (intOf iv).toNat)
 case atStart=>exact ⟨0,by omega,rfl,H0⟩
 case round =>
  obtain ⟨j,hj,rfl,HB⟩:=hrel
  by_cases hlt:j < l.length
  ·
   have hlt':(j:Int) < (l.length:Int):=by omega
   have hne:l≠[]:=fun z=>by rw [z] at hlt;simp at hlt
   obtain ⟨ba,oa,rfl,ka⟩:=qa hne
   obtain ⟨bb,ob,rfl,kb⟩:=qb hne
   have hx:=List.getElem?_eq_getElem hlt
   have k1:=ka j _ hx
   have k2:=kb j _ hx
   generalize l[j]=x at *
   have k1:wr.cell? ⟨ba,oa+j,none⟩=some (.int .i64 x):=zam (w:=w) (fun b hb=>HB.out.block b (by rw [← hN.out];exact hb)) k1
   have k2:wr.cell? ⟨bb,ob+j,none⟩=some (.int .i64 x):=zam (w:=w) (fun b hb=>HB.out.block b (by rw [← hN.out];exact hb)) k2
   have e2:IntKind.i64.wrap ((j:Int)+1)=((j+1:Nat):Int):=by rw [IntKind.wrap_i64];omega
   clear ka kb qa qb hx
   have HD:=Lib.hid HB.out.drew
   go_upto_region 6 with fail
   go_region
   all_goals
    go_wp2_with fail
    exact ⟨⟨j+1,by omega,by rw [Int.natCast_add];rfl,HD⟩,by simp [intOf];omega⟩
  ·
   obtain rfl:j=l.length:=by omega
   go_wp2_with fail
   go_ret
   exact ⟨rfl,HB.out⟩
set_option maxRecDepth 100000 in
theorem sameT_walk {a b:Value} {T:Tr} {w:World} (ha:TrIn w a T) (hb:TrIn w b T) (hl1:T.ans.length≤1000000000) (hl2:T.ord.length≤1000000000) (hl3:T.st.length≤1000000000) (hl4:∀ l∈T.ans,l.length≤1000000000) (hl5:∀ l∈T.ans,∀ r∈l,r.l.length≤1000000000) :
  Calls Try.prog 17 #[a,b] w fun e w'=>e = .returned (.bool true)∧Below w.heap.size w w':=by
 obtain ⟨va,vo,vs,rfl,⟨pa,ca,rfl,qa⟩,⟨po,co,rfl,qo⟩,hs⟩:=ha
 obtain ⟨va',vo',vs',rfl,⟨pa',ca',rfl,qa'⟩,⟨po',co',rfl,qo'⟩,hs'⟩:=hb
 have hs0:=hs
 have hs0':=hs'
 obtain ⟨ps,cs,rfl,_⟩:=hs0
 obtain ⟨ps',cs',rfl,_⟩:=hs0'
 obtain ⟨Ta,To,Ts,st⟩:=T
 simp only at *
 have E1:=heap_alloc_new w (.cells #[.slice pa Ta.length ca,.slice po To.length co,.slice ps Ts.length cs,.bool st] 31)
 have B1:Below w.heap.size w (w.alloc (.cells #[.slice pa Ta.length ca,.slice po To.length co,.slice ps Ts.length cs,.bool st] 31)):=(Below.refl _ _).alloc (Nat.le_refl _) _
 have S1:(w.alloc (.cells #[.slice pa Ta.length ca,.slice po To.length co,.slice ps Ts.length cs,.bool st] 31)).heap.size=w.heap.size+1:=by simp
 go_enter Try.func17,Try.ntmps17
 go_upto_region 1 with fail
 generalize w.alloc (.cells #[.slice pa Ta.length ca,.slice po To.length co,.slice ps Ts.length cs,.bool st] 31)=w1 at *
 have E2:=heap_alloc_new w1 (.cells #[.slice pa' Ta.length ca',.slice po' To.length co',.slice ps' Ts.length cs',.bool st] 31)
 have B2:=B1.alloc (by omega) (.cells #[.slice pa' Ta.length ca',.slice po' To.length co',.slice ps' Ts.length cs',.bool st] 31)
 have E1':=(Below.heap_alloc w1 (.cells #[.slice pa' Ta.length ca',.slice po' To.length co',.slice ps' Ts.length cs',.bool st] 31) _ (Array.getElem?_eq_some_iff.1 E1).1).trans E1
 generalize w1.alloc (.cells #[.slice pa' Ta.length ca',.slice po' To.length co',.slice ps' Ts.length cs',.bool st] 31)=w2 at *
 rw [S1] at *
 clear E1 B1
 generalize hN:w.heap.size=N at *
 have hS2:N+1 < w2.heap.size:=(Array.getElem?_eq_some_iff.1 E2).1
 have kw:∀ b,b < w.heap.size→w2.heap[b]?=w.heap[b]?:=fun b hb=>B2.block b (by omega)
 have HO:=Lib.hid (sameI_walk (IntsAt.mono ⟨po,co,rfl,qo⟩ kw) (IntsAt.mono ⟨po',co',rfl,qo'⟩ kw) hl2)
 have HS:=Lib.hid (fun (W:World) (h:∀ b,b < w.heap.size→W.heap[b]?=w.heap[b]?)=>sameN_walk (hs.mono h) (hs'.mono h) hl3)
 have a0:w2.cell? ⟨N,0,none⟩=some (.slice pa Ta.length ca):=by rw [zac E1' 0];rfl
 have a1:w2.cell? ⟨N,1,none⟩=some (.slice po To.length co):=by rw [zac E1' 1];rfl
 have a2:w2.cell? ⟨N,2,none⟩=some (.slice ps Ts.length cs):=by rw [zac E1' 2];rfl
 have a3:w2.cell? ⟨N,3,none⟩=some (.bool st):=by rw [zac E1' 3];rfl
 have b0:w2.cell? ⟨N+1,0,none⟩=some (.slice pa' Ta.length ca'):=by rw [zac E2 0];rfl
 have b1:w2.cell? ⟨N+1,1,none⟩=some (.slice po' To.length co'):=by rw [zac E2 1];rfl
 have b2:w2.cell? ⟨N+1,2,none⟩=some (.slice ps' Ts.length cs'):=by rw [zac E2 2];rfl
 have b3:w2.cell? ⟨N+1,3,none⟩=some (.bool st):=by rw [zac E2 3];rfl
 replace B2:=Lib.hid B2
 replace kw:=Lib.hid kw
 replace hN:=Lib.hid hN
 replace qa:=Lib.hid qa
 replace qa':=Lib.hid qa'
 replace qo:=Lib.hid qo
 replace qo':=Lib.hid qo'
 replace hl4:=Lib.hid hl4
 replace hl5:=Lib.hid hl5
 clear E1' E2 hs hs' S1
 have hst:(st != st)=false:=by simp
 have K9:Hid (∀ wx,Below w2.heap.size w2 wx→wx.cell? ⟨N,2,none⟩=some (.slice ps Ts.length cs)∧wx.cell? ⟨N,3,none⟩=some (.bool st)∧wx.cell? ⟨N+1,2,none⟩=some (.slice ps' Ts.length cs')∧wx.cell? ⟨N+1,3,none⟩=some (.bool st)):=Lib.hid fun wx h=>⟨zam h.block a2,zam h.block a3,zam h.block b2,zam h.block b3⟩
 have K8:Hid (∀ wx,Below w2.heap.size w2 wx→∀ b,b < w.heap.size→wx.heap[b]?=w.heap[b]?):=Lib.hid fun wx h b hb=>(h.block b (by have:=hN.out;omega)).trans (kw.out b hb)
 go_wp2_with (first
  | (go_at_call 28;refine HO.out.mono ?_;rintro e w3 ⟨rfl,hb3⟩;obtain ⟨i2,i3,j2,j3⟩:=K9.out _ hb3;(have HS2:=Lib.hid (HS.out w3 (K8.out _ hb3)));(have HB2:=Lib.hid hb3);clear hb3)
  | (go_at_call 23;refine HS2.out.mono ?_;rintro e w4 ⟨rfl,hb4⟩;(have hb5:=HB2.out.trans (hb4.mono HB2.out.size));obtain ⟨k2,k3,l2,l3⟩:=K9.out _ hb5;(have HB3:=Lib.hid hb5);clear hb4 hb5))
 have K3:Hid (∀ wx,Below w2.heap.size w2 wx→wx.cell? ⟨N,0,none⟩=some (.slice pa Ta.length ca)∧wx.cell? ⟨N,1,none⟩=some (.slice po To.length co)∧wx.cell? ⟨N+1,0,none⟩=some (.slice pa' Ta.length ca')∧wx.cell? ⟨N+1,1,none⟩=some (.slice po' To.length co')):=Lib.hid fun wx h=>⟨zam h.block a0,zam h.block a1,zam h.block b0,zam h.block b1⟩
 clear a0 a1 a2 a3 b0 b1 b2 b3
 go_loopw [5] (fun iv wr=>∃ j:Nat,j≤Ta.length∧iv = .int .i64 j∧Hid (Below w2.heap.size w2 wr)) (fun iv _=>Ta.length - (intOf iv).toNat)
 case atStart=>exact ⟨0,by omega,rfl,HB3⟩
 case round =>
  obtain ⟨j,hj,rfl,HB⟩:=hrel
  obtain ⟨a0,a1,b0,b1⟩:=K3.out _ HB.out
  by_cases hlt:j < Ta.length
  ·
   have hlt':(j:Int) < (Ta.length:Int):=by omega
   have hne:Ta≠[]:=fun z=>by rw [z] at hlt;simp at hlt
   obtain ⟨ba,oa,rfl,ka⟩:=qa.out hne
   obtain ⟨bb,ob,rfl,kb⟩:=qa'.out hne
   have hx:=List.getElem?_eq_getElem hlt
   obtain ⟨u1,c1,d1⟩:=ka j _ hx
   obtain ⟨u2,c2,d2⟩:=kb j _ hx
   have hmem:Ta[j]∈Ta:=List.getElem_mem hlt
   have hlx:=hl4.out _ hmem
   have hly:=hl5.out _ hmem
   generalize Ta[j]=x at *
   have k2:∀ b,b < w.heap.size→wr.heap[b]?=w.heap[b]?:=fun b hb=>(HB.out.block b (by have:=hN.out;omega)).trans (kw.out b hb)
   have k2':∀ b,b < w.heap.size→wr.drew.heap[b]?=w.heap[b]?:=k2
   replace c1:=zam k2 c1
   replace c2:=zam k2 c2
   have HA:=Lib.hid (fun (W:World) (h:∀ b,b < w.heap.size→W.heap[b]?=w.heap[b]?)=>sameA_walk hly (d1.keep h) (d2.keep h) hlx)
   have e2:IntKind.i64.wrap ((j:Int)+1)=((j+1:Nat):Int):=by rw [IntKind.wrap_i64];omega
   obtain ⟨p1,l1,f1⟩:∃ p c,u1 = .slice p x.length c:=by obtain ⟨p,c,e,_⟩:=d1;exact ⟨p,c,e⟩
   obtain ⟨p2,l2,f2⟩:∃ p c,u2 = .slice p x.length c:=by obtain ⟨p,c,e,_⟩:=d2;exact ⟨p,c,e⟩
   have HA1:=Lib.hid (HA.out wr.drew k2')
   rw [f1,f2] at HA1
   rw [f1] at c1
   rw [f2] at c2
   clear ka kb hx hmem d1 d2 f1 f2 HA
   replace k2:=Lib.hid k2
   clear k2'
   have HK:Hid (∀ w',Below wr.heap.size wr w'→w'.cell? ⟨N,0,none⟩=some (.slice (some ⟨ba,oa,none⟩) Ta.length ca)∧w'.cell? ⟨N+1,0,none⟩=some (.slice (some ⟨bb,ob,none⟩) Ta.length ca')∧w'.cell? ⟨ba,oa+j,none⟩=some (.slice p1 x.length l1)∧w'.cell? ⟨bb,ob+j,none⟩=some (.slice p2 x.length l2)):=Lib.hid fun w' h=>⟨zam h.block a0,zam h.block b0,zam h.block c1,zam h.block c2⟩
   go_upto_region 6 with fail
   go_cut [54] (fun v wx=>v = .bool false∧Below w2.heap.size w2 wx)
   case first =>
    go_region_held3 (fun w'=>w'.cell? ⟨N,0,none⟩=some (.slice (some ⟨ba,oa,none⟩) Ta.length ca)∧w'.cell? ⟨N+1,0,none⟩=some (.slice (some ⟨bb,ob,none⟩) Ta.length ca')∧w'.cell? ⟨ba,oa+j,none⟩=some (.slice p1 x.length l1)∧w'.cell? ⟨bb,ob+j,none⟩=some (.slice p2 x.length l2))
     (first | exact HK.out _ (Below.refl _ _).drew | exact HK.out _ HB5.out)
     ((go_at_call 22;refine HA1.out.mono ?_;rintro e w5 ⟨rfl,hb5⟩;(have HB5:Hid (Below wr.heap.size wr w5):=Lib.hid ((Below.refl wr.heap.size wr).drew.trans hb5));clear hb5))
    all_goals (go_wp2_with fail;go_meet)
    all_goals exact ⟨rfl,HB.out.trans (HB5.out.mono HB.out.size)⟩
   case rest =>
    obtain ⟨rfl,hb6⟩:=hcut
    have HB6:=Lib.hid hb6
    clear hb6
    go_wp2_with fail
    exact ⟨⟨j+1,by omega,by rw [Int.natCast_add];rfl,HB6⟩,by simp [intOf];omega⟩
  ·
   obtain rfl:j=Ta.length:=by omega
   go_wp2_with fail
   go_ret
   exact ⟨rfl,⟨HB.out.os.trans B2.out.os,HB.out.tape.trans B2.out.tape,HB.out.output.trans B2.out.output,Nat.le_trans B2.out.size HB.out.size,fun b hb=>(HB.out.block b (by have:=hN.out;omega)).trans (B2.out.block b (by have:=hN.out;omega))⟩⟩
end Go.Proofs.Ytofacoojpgkbiaa
/-
 The document's machine of the gate: Has (f177),Without (f179),Allows (f191),walked. No condition of its own.
-/
namespace Go.Proofs.Ytofacoojpgkbiaa
open Go.Conc Go.RowKit
open Go.ConcN (upd upd_ne upd_same)
set_option maxRecDepth 100000
theorem has_walk {v:Value} {l:List Int} {p:Int} {w:World} (hv:IntsAt w v l) (hl:l.length≤1000000000) :
  Calls Try.prog 177 #[v,.int .i64 p] w fun e w'=>e = .returned (.bool (decide (p∈l)))∧Below w.heap.size w w':=by
 obtain ⟨pa,ca,rfl,qa⟩:=hv
 have H0:=Lib.hid (Below.refl w.heap.size w)
 generalize hN:w.heap.size=N at *
 replace hN:=Lib.hid hN
 go_enter Try.func177,Try.ntmps177
 go_wp2_with fail
 go_loopw [5] (fun iv wr=>∃ j:Nat,j≤l.length∧iv = .int .i64 j∧Hid (∀ k,k < j→l[k]?≠some p)∧Hid (Below N w wr)) (fun iv _=>l.length - (intOf iv).toNat)
 case atStart=>exact ⟨0,by omega,rfl,Lib.hid (fun k hk=>by omega),H0⟩
 case round =>
  obtain ⟨j,hj,rfl,HP,HB⟩:=hrel
  by_cases hlt:j < l.length
  ·
   have hlt':(j:Int) < (l.length:Int):=by omega
   have hne:l≠[]:=fun z=>by rw [z] at hlt;simp at hlt
   obtain ⟨ba,oa,rfl,ka⟩:=qa hne
   have hx:=List.getElem?_eq_getElem hlt
   have k1:=ka j _ hx
   generalize l[j]=x at *
   have k1:wr.cell? ⟨ba,oa+j,none⟩=some (.int .i64 x):=zam (w:=w) (fun b hb=>HB.out.block b (by rw [← hN.out];exact hb)) k1
   have e2:IntKind.i64.wrap ((j:Int)+1)=((j+1:Nat):Int):=by rw [IntKind.wrap_i64];omega
   clear ka qa
   by_cases hxp:x=p
   ·
    subst hxp
    have hm:decide (x∈l)=true:=decide_eq_true (List.mem_of_getElem? hx)
    replace hm:=Lib.hid hm
    clear hx
    go_wp2_with fail
    go_ret
    exact ⟨by rw [hm.out];rfl,HB.out⟩
   ·
    have hb:(x==p)=false:=by simpa using hxp
    replace hx:=Lib.hid hx
    replace hxp:=Lib.hid hxp
    go_wp2_with fail
    refine ⟨⟨j+1,by omega,by rw [Int.natCast_add];rfl,Lib.hid fun k hk => ?_,HB⟩,by simp [intOf];omega⟩
    by_cases e:k < j
    ·
     exact HP.out k e
    ·
     obtain rfl:k=j:=by omega
     rw [hx.out]
     intro z
     exact hxp.out (Option.some.inj z)
  ·
   obtain rfl:j=l.length:=by omega
   have hm:decide (p∈l)=false:=decide_eq_false fun z=>by
    obtain ⟨k,hk,e⟩:=List.getElem_of_mem z
    exact HP.out k hk (by rw [List.getElem?_eq_getElem hk,e])
   replace hm:=Lib.hid hm
   go_wp2_with fail
   go_ret
   exact ⟨by rw [hm.out];rfl,HB.out⟩
def zdm (least q size:Int):Bool:=decide (q < wrap64 (q - (if size < 1 then 1 else size))) || decide (wrap64 (q - (if size < 1 then 1 else size))≤least)
theorem zds {least q size:Int} (w:World):Calls Try.prog 191 #[.int .i64 least,.int .i64 q,.int .i64 size] w fun e w'=>e = .returned (.bool (zdm least q size))∧w'=w:=by
 unfold zdm
 by_cases h1:size < 1
 ·
  rw [if_pos h1]
  generalize hd:wrap64 (q - 1)=d
  have hw:IntKind.i64.wrap (q - 1)=d:=by rw [IntKind.wrap_i64];unfold wrap64 at hd;exact hd
  have d1:decide (size < 1)=true:=decide_eq_true h1
  by_cases h2:q < d
  ·
   have d2:decide (q < d)=true:=decide_eq_true h2
   rw [d2]
   go_enter Try.func191,Try.ntmps191
   go_wp2_with fail
   go_ret
   exact ⟨rfl,rfl⟩
  ·
   have d2:decide (q < d)=false:=decide_eq_false h2
   rw [d2]
   go_enter Try.func191,Try.ntmps191
   go_wp2_with fail
   go_ret
   exact ⟨rfl,rfl⟩
 ·
  rw [if_neg h1]
  generalize hd:wrap64 (q - size)=d
  have hw:IntKind.i64.wrap (q - size)=d:=by rw [IntKind.wrap_i64];unfold wrap64 at hd;exact hd
  have d1:decide (size < 1)=false:=decide_eq_false h1
  by_cases h2:q < d
  ·
   have d2:decide (q < d)=true:=decide_eq_true h2
   rw [d2]
   go_enter Try.func191,Try.ntmps191
   go_wp2_with fail
   go_ret
   exact ⟨rfl,rfl⟩
  ·
   have d2:decide (q < d)=false:=decide_eq_false h2
   rw [d2]
   go_enter Try.func191,Try.ntmps191
   go_wp2_with fail
   go_ret
   exact ⟨rfl,rfl⟩
def zb2 (l:List Int) (p:Int):List Int:=l.filter fun x => !(x==p)
theorem withoutL_snoc (l:List Int) (p x:Int):zb2 (l++[x]) p=if x=p then zb2 l p else zb2 l p++[x]:=by
 unfold zb2
 rw [List.filter_append]
 by_cases h:x=p
 ·
  subst h;simp
 ·
  simp [h]
theorem without_walk {v:Value} {l:List Int} {p:Int} {w:World} (hv:IntsAt w v l) (hl:l.length≤1000000000) :
  Calls Try.prog 179 #[v,.int .i64 p] w fun e w'=>∃ v',e = .returned v'∧w'.ownsRow w.heap.size 2 1 v' (zb2 l p).length (zax (zb2 l p))∧Below w.heap.size w w':=by
 obtain ⟨i1,hi1,hz1,hz11,hz12⟩:=info_parts info2g
 obtain ⟨pa,ca,rfl,qa⟩:=hv
 replace qa:=Lib.hid qa
 generalize hN:w.heap.size=N at *
 replace hN:=Lib.hid hN
 go_enter Try.func179,Try.ntmps179
 go_wp2_with fail
 go_loopw [5,6] (fun va iv wr=>∃ (j:Nat),j≤l.length∧iv = .int .i64 j∧Hid (wr.ownsRow N 2 1 va (zb2 (l.take j) p).length (zax (zb2 (l.take j) p)))∧Hid (Below N w wr)) (fun _ iv _=>l.length - (intOf iv).toNat)
 case atStart=>exact ⟨0,by omega,rfl,Lib.hid (World.ownsRow_nil _ _ _ _),Lib.hid (Below.refl _ _)⟩
 case round =>
  obtain ⟨j,hj,rfl,HS,HB⟩:=hrel
  obtain ⟨vp,vcc,e0⟩:=zbd HS.out
  have hk9:(zb2 (l.take j) p).length≤1000000000:=by
   unfold zb2
   have:=List.length_filter_le (fun x => !(x==p)) (l.take j)
   rw [List.length_take] at this
   omega
  generalize hr:zb2 (l.take j) p=rr at *
  obtain ⟨m,hm⟩:∃ m,rr.length=m:=⟨_,rfl⟩
  rw [hm] at HS hk9 e0
  subst e0
  replace hm:=Lib.hid hm
  replace hr:=Lib.hid hr
  by_cases hlt2:j < l.length
  ·
   have hlt':(j:Int) < (l.length:Int):=by omega
   obtain ⟨x,hx⟩:∃ x,l[j]?=some x:=⟨_,List.getElem?_eq_getElem hlt2⟩
   obtain ⟨b,off,hva,hcl⟩:=qa.out (by intro z;rw [z] at hx;simp at hx)
   have q0:=hcl j x hx
   have hb:=World.block_lt_of_cell? w _ q0
   have q1:wr.cell? ⟨b,off+j,none⟩=some (.int .i64 x):=(World.cell?_of_block (w:=w) (HB.out.block _ (by rw [← hN.out];exact hb))).trans q0
   have hsz:=Lib.hid (hN.out▸HB.out.size)
   have HSx:=Lib.hid (src_new wr x 2)
   have HO1:=Lib.hid (HS.out.alloc (.cells #[.int .i64 x] 2))
   have HBa:=Lib.hid (HB.out.alloc (by have:=hsz.out;omega) (.cells #[.int .i64 x] 2))
   have htk:zb2 (l.take (j+1)) p=if x=p then rr else rr++[x]:=by
    rw [List.take_add_one,hx]
    show zb2 (l.take j++[x]) p=_
    rw [withoutL_snoc,hr.out]
   replace htk:=Lib.hid htk
   have e1:IntKind.i64.wrap ((j:Int)+1)=((j+1:Nat):Int):=by rw [IntKind.wrap_i64];omega
   clear hx hb hcl q0
   subst hva
   by_cases hxp:x=p
   ·
    have hbq:(x != p)=false:=by simp [hxp]
    replace hxp:=Lib.hid hxp
    go_wp2_with fail
    refine ⟨⟨j+1,by omega,by rw [Int.natCast_add];rfl,?_,HB⟩,by simp [intOf];omega⟩
    rw [htk.out,if_pos hxp.out,hm.out]
    exact HS
   ·
    have hbq:(x != p)=true:=by simp [hxp]
    replace hxp:=Lib.hid hxp
    go_wp2_with (at_builtin;(refine zan rfl (.tmp 19) (.tmp 24) 22 rfl N 2 i1 _ _ Try.underlying22 hi1 hz1 hz11 hz12 rfl (.slice vp m vcc) m _ rfl HO1.out 1 _ HSx.out ?l2 ?b2 ?n2 ?_);(case l2=>(unfold maxLen;omega));(case b2=>omega);(case n2=>(have h1:=hsz.out;simp;omega));intro v' w1 ha;obtain ⟨ho,hg,hsh⟩:=ha;have HH:=Lib.hid ho;have HB2:=Lib.hid (zbt HO1.out HBa.out (by have h1:=hsz.out;simp;omega) hg);clear ho hg hsh)
    refine ⟨⟨j+1,by omega,by rw [Int.natCast_add];rfl,?_,HB2⟩,by simp [intOf];omega⟩
    rw [htk.out,if_neg hxp.out,List.length_append,hm.out,zd9]
    exact HH
  ·
   obtain rfl:j=l.length:=by omega
   have hfull:zb2 l p=rr:=by rw [← hr.out,List.take_of_length_le (Nat.le_refl _)]
   go_wp2_with fail
   go_ret
   refine ⟨_,rfl,?_,HB.out⟩
   rw [hfull,hm.out]
   exact HS.out
end Go.Proofs.Ytofacoojpgkbiaa
