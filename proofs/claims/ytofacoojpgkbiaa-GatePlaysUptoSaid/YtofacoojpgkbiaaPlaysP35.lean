/-
  Merged out of: Mac7. No condition of its own.
-/
import Derived.Test.YtofacoojpgkbiaaPlaysP34
set_option linter.unusedVariables false
set_option maxHeartbeats 8000000
set_option linter.unusedSimpArgs false
/-
 The document's machine of the gate: step (f139),the first step of those that load the list (printed by gen/mac7.py). No condition of its own.
-/
namespace Go.Proofs.Ytofacoojpgkbiaa
open Go.Conc Go.RowKit
open Go.ConcN (upd upd_ne upd_same)
set_option maxRecDepth 100000
section
variable {K:MK} {V:MV} {S:GMc} {w:World} {i:Nat}
theorem srcOf_lst {nb:Nat} {w:World} {u:Value} {l:List Int} (h:LstN nb w u l):SrcOf w u l.length (zax l):=by
 obtain ⟨a,cap,e,hc,h0,q⟩:=h
 refine ⟨intsV_len l,fun v hv => ?_,?_⟩
 ·
  obtain ⟨x,_,rfl⟩:=List.mem_map.1 hv
  rfl
 ·
  by_cases hl:l=[]
  ·
   subst hl
   rcases a with _ | a
   ·
    exact .inl ⟨by rw [e,h0 rfl];rfl,rfl⟩
   ·
    exact .inr ⟨_,cap,e,fun j v hj=>by simp [zax] at hj⟩
  ·
   obtain ⟨b,o,c,rfl,e2,e3,e4⟩:=q hl
   exact .inr ⟨_,cap,e,fun j v hj=>by
    obtain ⟨x,hx,rfl⟩:∃ x,l[j]?=some x∧v = .int .i64 x:=by
     unfold zax at hj
     rw [List.getElem?_map] at hj
     cases hq:l[j]? with
     | none=>rw [hq] at hj;cases hj
     | some x=>rw [hq] at hj;exact ⟨x,rfl,(Option.some.inj hj).symm⟩
    have ea:(⟨b,o,none⟩:Addr).add j=⟨b,o+j,none⟩:=by simp [Addr.add]
    rw [ea,zac e3]
    exact e4 j x hx⟩
end
section
variable {K:MK} {V:MV} {S:GMc} {w:World} {i:Nat}
theorem step_join1_there (h:MMem K V S w) (hi:i < K.n) (hlen:(S.T i).ans.length≤100000) (ha9:(S.T i).at_≤100000) (hat:(S.T i).at_ < (S.T i).ops.length) {ok oa ob oc:Int} (ho:opG (S.T i)=⟨ok,oa,ob,oc⟩) (hL9:S.L.length≤1000000000) (hp:(S.T i).pc=1) (hk:ok=1) (hm:decide (oa∈S.L)=true) :
  Calls Try.prog 139 #[.pointer (some ⟨K.mb,0,none⟩),.int .i64 i] w (MDone K (endS (S.setT i { S.T i with pc:=2,list:=S.L,ser:=S.ser }) i ⟨false,7,[]⟩) w):=by
 have hi':(i:Int) < (K.n:Int):=by omega
 have hat':((S.T i).at_:Int) < ((S.T i).ops.length:Int):=by omega
 subst hk
 obtain ⟨xb,xo,xc,hvo,hok,o0,o1,o2,o3⟩:=h.opAt hi rfl hat
 rw [ho] at o0 o1 o2 o3
 simp only at o0 o1 o2 o3
 have m3:=h.cellM 3
 have t0:=h.cellT hi (k:=0) (by decide)
 have t3:=h.cellT hi (k:=3) (by decide)
 simp only [tcV,List.getElem?_toArray,List.getElem?_cons_zero,List.getElem?_cons_succ,hvo,Nat.add_zero] at m3 t0 t3
 have al:∀ {a:Addr} {v:Value} (o:Obj),w.cell? a=some v→(w.alloc o).cell? a=some v:=fun {a v} o hv=>(World.cell?_of_block (w:=w) (Below.heap_alloc _ _ _ (World.block_lt_of_cell? w _ hv))).trans hv
 have am3:=al (.cells #[.int .i64 0,.int .i64 0,.int .i64 0,.int .i64 0] 45) m3
 have at0:=al (.cells #[.int .i64 0,.int .i64 0,.int .i64 0,.int .i64 0] 45) t0
 have at3:=al (.cells #[.int .i64 0,.int .i64 0,.int .i64 0,.int .i64 0] 45) t3
 have a0:=al (.cells #[.int .i64 0,.int .i64 0,.int .i64 0,.int .i64 0] 45) o0
 have a1:=al (.cells #[.int .i64 0,.int .i64 0,.int .i64 0,.int .i64 0] 45) o1
 have a2:=al (.cells #[.int .i64 0,.int .i64 0,.int .i64 0,.int .i64 0] 45) o2
 have a3:=al (.cells #[.int .i64 0,.int .i64 0,.int .i64 0,.int .i64 0] 45) o3
 clear al
 have h0:=(h.alloc (.cells #[.int .i64 1,.int .i64 oa,.int .i64 ob,.int .i64 oc] 45)).drew
 have k0:KeepM K.nb w (w.alloc (.cells #[.int .i64 1,.int .i64 oa,.int .i64 ob,.int .i64 oc] 45)).drew:=KeepM.alloc KeepM.refl _
 have EN:(w.alloc (.cells #[.int .i64 1,.int .i64 oa,.int .i64 ob,.int .i64 oc] 45)).drew.heap[w.heap.size]?=_:=heap_alloc_new w (.cells #[.int .i64 1,.int .i64 oa,.int .i64 ob,.int .i64 oc] 45)
 generalize hM:w.heap.size=M at *
 replace hM:=Lib.hid hM
 replace h:=Lib.hid h
 replace hok:=Lib.hid hok
 replace hat:=Lib.hid hat
 replace hvo:=Lib.hid hvo
 replace hlen:=Lib.hid hlen
 replace ha9:=Lib.hid ha9
 replace ho:=Lib.hid ho
 replace h0:=Lib.hid h0
 replace k0:=Lib.hid k0
 go_enter Try.func139,Try.ntmps139
 go_upto_region 0 with fail
 go_cut [4] (fun v wx=>v = .pointer (some ⟨M,0,none⟩)∧wx=(w.alloc (.cells #[.int .i64 1,.int .i64 oa,.int .i64 ob,.int .i64 oc] 45)).drew)
 case first =>
  go_region
  all_goals (go_wp2_with fail;go_meet)
  all_goals exact ⟨by rw [hM.out],rfl⟩
 case rest =>
  obtain ⟨rfl,rfl⟩:=hcut
  clear m3 t0 t3 am3 at0 at3 a0 a1 a2 a3 o0 o1 o2 o3 hat'
  generalize (w.alloc (.cells #[.int .i64 1,.int .i64 oa,.int .i64 ob,.int .i64 oc] 45)).drew=w1 at *
  have HB:Hid (∀ W,KeepM K.nb w1 W→W.heap[M]?=some (.cells #[.int .i64 1,.int .i64 oa,.int .i64 ob,.int .i64 oc] 45 (0,0))):=Lib.hid fun W k=>k M _ 45 EN (by decide) (by decide) (by decide) (fun z=>by
   obtain ⟨c,n1,_⟩:=h0.out.num
   rw [← z,EN] at n1
   simp at n1)
  have kk:Hid (KeepM K.nb w1 w1):=Lib.hid KeepM.refl
  replace EN:=Lib.hid EN
  have x0m3:=h0.out.cellM 3
  have x0t4:=h0.out.cellT hi (k:=4) (by decide)
  have x0g:=HB.out _ kk.out
  have x0o0:=zac x0g 0
  clear x0g
  simp only [tcV,List.getElem?_toArray,List.getElem?_cons_zero,List.getElem?_cons_succ,GMc.setT_T,GMc.setT_L,GMc.setT_ser,GMc.setT_N] at x0m3 x0t4 x0o0
  have x0z4:=h0.out.trow.free (i * 9+4)
  rw [hp] at x0t4
  obtain ⟨V1,h1,k1⟩:=h0.out.setPc hi (rfl) 2
  replace k1:KeepM K.nb w1 (w1.setCell ⟨K.tb,i * 9+4,none⟩ (.int .i64 2)):=kk.out.trans k1
  replace h1:=Lib.hid h1
  replace k1:=Lib.hid k1
  go_upto_region 9 with fail
  clear x0m3 x0t4 x0o0 x0z4
  generalize w1.setCell ⟨K.tb,i * 9+4,none⟩ (.int .i64 2)=w2 at *
  obtain ⟨La1,Lc1,hvL1,_⟩:=id h1.out.lst
  simp only [GMc.setT_L] at hvL1
  have x1m0:=h1.out.cellM 0
  have x1m3:=h1.out.cellM 3
  have x1t5:=h1.out.cellT hi (k:=5) (by decide)
  simp only [tcV,List.getElem?_toArray,List.getElem?_cons_zero,List.getElem?_cons_succ,GMc.setT_T,GMc.setT_L,GMc.setT_ser,GMc.setT_N] at x1m0 x1m3 x1t5
  have x1z5:=h1.out.trow.free (i * 9+5)
  rw [hvL1] at x1m0
  have hl1:LstN K.nb w2 (.slice La1 S.L.length Lc1) S.L:=by rw [← hvL1];exact h1.out.lst
  obtain ⟨V2,h2,k2⟩:=h1.out.setList hi (GMc.setT_T _ _ _) hl1
  rw [GMc.setT_setT] at h2
  replace h2:=h2.drew
  replace k2:KeepM K.nb w1 ((w2.setCell ⟨K.tb,i * 9+5,none⟩ (.slice La1 S.L.length Lc1)).drew):=k1.out.trans k2
  replace h2:=Lib.hid h2
  replace k2:=Lib.hid k2
  replace hvL1:=Lib.hid hvL1
  replace hl1:=Lib.hid hl1
  go_cut [80] (fun v wy=>wy=(w2.setCell ⟨K.tb,i * 9+5,none⟩ (.slice La1 S.L.length Lc1)).drew)
  case first =>
   go_region
   all_goals (go_wp2_with fail;go_meet)
   all_goals rfl
  case rest =>
   subst hcut
   clear x1m0 x1m3 x1t5 x1z5
   generalize (w2.setCell ⟨K.tb,i * 9+5,none⟩ (.slice La1 S.L.length Lc1)).drew=w3 at *
   have x2m1:=h2.out.cellM 1
   have x2m3:=h2.out.cellM 3
   have x2t6:=h2.out.cellT hi (k:=6) (by decide)
   simp only [tcV,List.getElem?_toArray,List.getElem?_cons_zero,List.getElem?_cons_succ,GMc.setT_T,GMc.setT_L,GMc.setT_ser,GMc.setT_N] at x2m1 x2m3 x2t6
   have x2z6:=h2.out.trow.free (i * 9+6)
   go_upto_region 10 with fail
   obtain ⟨V3,h3,k3⟩:=h2.out.setTSer hi (GMc.setT_T _ _ _) S.ser
   rw [GMc.setT_setT] at h3
   replace h3:=h3.drew
   replace k3:KeepM K.nb w1 ((w3.setCell ⟨K.tb,i * 9+6,none⟩ (.int .i64 S.ser)).drew):=k2.out.trans k3
   replace h3:=Lib.hid h3
   replace k3:=Lib.hid k3
   go_cut [91] (fun v wy=>wy=(w3.setCell ⟨K.tb,i * 9+6,none⟩ (.int .i64 S.ser)).drew)
   case first =>
    go_region
    all_goals (go_wp2_with fail;go_meet)
    all_goals rfl
   case rest =>
    subst hcut
    clear x2m1 x2m3 x2t6 x2z6
    generalize (w3.setCell ⟨K.tb,i * 9+6,none⟩ (.int .i64 S.ser)).drew=w4 at *
    obtain ⟨La3,Lc3,hvL3,_⟩:=id h3.out.lst
    simp only [GMc.setT_L] at hvL3
    have x3m0:=h3.out.cellM 0
    have x3g:=HB.out _ k3.out
    have x3o0:=zac x3g 0
    have x3o1:=zac x3g 1
    clear x3g
    simp only [tcV,List.getElem?_toArray,List.getElem?_cons_zero,List.getElem?_cons_succ,GMc.setT_T,GMc.setT_L,GMc.setT_ser,GMc.setT_N] at x3m0 x3o0 x3o1
    rw [hvL3] at x3m0
    have HI:Hid (IntsAt w4.drew (.slice La3 S.L.length Lc3) S.L):=Lib.hid (by
     have:=h3.out.drew.lst.ints
     simp only [GMc.setT_L] at this
     rw [hvL3] at this
     exact this)
    replace hvL3:=Lib.hid hvL3
    replace hL9:=Lib.hid hL9
    replace hm:=Lib.hid hm
    have HS:=Lib.hid (has_walk (p:=oa) HI.out hL9.out)
    rw [hm.out] at HS
    go_upto_region 13 with fail
    go_cut [117] (fun v wy=>v = .bool true∧Below w4.heap.size w4.drew wy)
    case first =>
     go_region_with (go_at_call 177;refine HS.out.mono ?_;rintro e w' ⟨rfl,hb⟩;replace hb:=Lib.hid hb)
     all_goals (go_wp2_with fail;go_meet)
     all_goals exact ⟨rfl,hb.out⟩
    case rest =>
     obtain ⟨rfl,hbw⟩:=hcut
     clear x3m0 x3o0 x3o1
     obtain ⟨h4,k4⟩:=h3.out.drew.below hbw rfl
     replace k4:KeepM K.nb w1 wc:=k3.out.trans k4
     replace h4:=Lib.hid h4
     replace k4:=Lib.hid k4
     generalize wc=w5 at *
     clear hbw
     have HE:=Lib.hid (zbk (r:=⟨false,7,[]⟩) (h4.out) hi (by first | exact hlen.out | (simp only [GMc.setN_T,GMc.setT_T];exact hlen.out)) (by first | exact ha9.out | (simp only [GMc.setN_T,GMc.setT_T];exact ha9.out)) (LstN.nil _ _))
     go_wp2_with (go_at_call 176;refine HE.out.mono ?_;rintro e w' ⟨rfl,hdd⟩;replace hdd:=Lib.hid hdd)
     go_end0
     exact MDone.of (k0.out.trans k4.out) ⟨rfl,hdd.out⟩
theorem step_join1_not (h:MMem K V S w) (hi:i < K.n) (hlen:(S.T i).ans.length≤100000) (ha9:(S.T i).at_≤100000) (hat:(S.T i).at_ < (S.T i).ops.length) {ok oa ob oc:Int} (ho:opG (S.T i)=⟨ok,oa,ob,oc⟩) (hL9:S.L.length≤1000000000) (hp:(S.T i).pc=1) (hk:ok=1) (hm:decide (oa∈S.L)=false) :
  Calls Try.prog 139 #[.pointer (some ⟨K.mb,0,none⟩),.int .i64 i] w (MDone K (S.setT i { S.T i with pc:=2,list:=S.L,ser:=S.ser }) w):=by
 have hi':(i:Int) < (K.n:Int):=by omega
 have hat':((S.T i).at_:Int) < ((S.T i).ops.length:Int):=by omega
 subst hk
 obtain ⟨xb,xo,xc,hvo,hok,o0,o1,o2,o3⟩:=h.opAt hi rfl hat
 rw [ho] at o0 o1 o2 o3
 simp only at o0 o1 o2 o3
 have m3:=h.cellM 3
 have t0:=h.cellT hi (k:=0) (by decide)
 have t3:=h.cellT hi (k:=3) (by decide)
 simp only [tcV,List.getElem?_toArray,List.getElem?_cons_zero,List.getElem?_cons_succ,hvo,Nat.add_zero] at m3 t0 t3
 have al:∀ {a:Addr} {v:Value} (o:Obj),w.cell? a=some v→(w.alloc o).cell? a=some v:=fun {a v} o hv=>(World.cell?_of_block (w:=w) (Below.heap_alloc _ _ _ (World.block_lt_of_cell? w _ hv))).trans hv
 have am3:=al (.cells #[.int .i64 0,.int .i64 0,.int .i64 0,.int .i64 0] 45) m3
 have at0:=al (.cells #[.int .i64 0,.int .i64 0,.int .i64 0,.int .i64 0] 45) t0
 have at3:=al (.cells #[.int .i64 0,.int .i64 0,.int .i64 0,.int .i64 0] 45) t3
 have a0:=al (.cells #[.int .i64 0,.int .i64 0,.int .i64 0,.int .i64 0] 45) o0
 have a1:=al (.cells #[.int .i64 0,.int .i64 0,.int .i64 0,.int .i64 0] 45) o1
 have a2:=al (.cells #[.int .i64 0,.int .i64 0,.int .i64 0,.int .i64 0] 45) o2
 have a3:=al (.cells #[.int .i64 0,.int .i64 0,.int .i64 0,.int .i64 0] 45) o3
 clear al
 have h0:=(h.alloc (.cells #[.int .i64 1,.int .i64 oa,.int .i64 ob,.int .i64 oc] 45)).drew
 have k0:KeepM K.nb w (w.alloc (.cells #[.int .i64 1,.int .i64 oa,.int .i64 ob,.int .i64 oc] 45)).drew:=KeepM.alloc KeepM.refl _
 have EN:(w.alloc (.cells #[.int .i64 1,.int .i64 oa,.int .i64 ob,.int .i64 oc] 45)).drew.heap[w.heap.size]?=_:=heap_alloc_new w (.cells #[.int .i64 1,.int .i64 oa,.int .i64 ob,.int .i64 oc] 45)
 generalize hM:w.heap.size=M at *
 replace hM:=Lib.hid hM
 replace h:=Lib.hid h
 replace hok:=Lib.hid hok
 replace hat:=Lib.hid hat
 replace hvo:=Lib.hid hvo
 replace hlen:=Lib.hid hlen
 replace ha9:=Lib.hid ha9
 replace ho:=Lib.hid ho
 replace h0:=Lib.hid h0
 replace k0:=Lib.hid k0
 go_enter Try.func139,Try.ntmps139
 go_upto_region 0 with fail
 go_cut [4] (fun v wx=>v = .pointer (some ⟨M,0,none⟩)∧wx=(w.alloc (.cells #[.int .i64 1,.int .i64 oa,.int .i64 ob,.int .i64 oc] 45)).drew)
 case first =>
  go_region
  all_goals (go_wp2_with fail;go_meet)
  all_goals exact ⟨by rw [hM.out],rfl⟩
 case rest =>
  obtain ⟨rfl,rfl⟩:=hcut
  clear m3 t0 t3 am3 at0 at3 a0 a1 a2 a3 o0 o1 o2 o3 hat'
  generalize (w.alloc (.cells #[.int .i64 1,.int .i64 oa,.int .i64 ob,.int .i64 oc] 45)).drew=w1 at *
  have HB:Hid (∀ W,KeepM K.nb w1 W→W.heap[M]?=some (.cells #[.int .i64 1,.int .i64 oa,.int .i64 ob,.int .i64 oc] 45 (0,0))):=Lib.hid fun W k=>k M _ 45 EN (by decide) (by decide) (by decide) (fun z=>by
   obtain ⟨c,n1,_⟩:=h0.out.num
   rw [← z,EN] at n1
   simp at n1)
  have kk:Hid (KeepM K.nb w1 w1):=Lib.hid KeepM.refl
  replace EN:=Lib.hid EN
  have x0m3:=h0.out.cellM 3
  have x0t4:=h0.out.cellT hi (k:=4) (by decide)
  have x0g:=HB.out _ kk.out
  have x0o0:=zac x0g 0
  clear x0g
  simp only [tcV,List.getElem?_toArray,List.getElem?_cons_zero,List.getElem?_cons_succ,GMc.setT_T,GMc.setT_L,GMc.setT_ser,GMc.setT_N] at x0m3 x0t4 x0o0
  have x0z4:=h0.out.trow.free (i * 9+4)
  rw [hp] at x0t4
  obtain ⟨V1,h1,k1⟩:=h0.out.setPc hi (rfl) 2
  replace k1:KeepM K.nb w1 (w1.setCell ⟨K.tb,i * 9+4,none⟩ (.int .i64 2)):=kk.out.trans k1
  replace h1:=Lib.hid h1
  replace k1:=Lib.hid k1
  go_upto_region 9 with fail
  clear x0m3 x0t4 x0o0 x0z4
  generalize w1.setCell ⟨K.tb,i * 9+4,none⟩ (.int .i64 2)=w2 at *
  obtain ⟨La1,Lc1,hvL1,_⟩:=id h1.out.lst
  simp only [GMc.setT_L] at hvL1
  have x1m0:=h1.out.cellM 0
  have x1m3:=h1.out.cellM 3
  have x1t5:=h1.out.cellT hi (k:=5) (by decide)
  simp only [tcV,List.getElem?_toArray,List.getElem?_cons_zero,List.getElem?_cons_succ,GMc.setT_T,GMc.setT_L,GMc.setT_ser,GMc.setT_N] at x1m0 x1m3 x1t5
  have x1z5:=h1.out.trow.free (i * 9+5)
  rw [hvL1] at x1m0
  have hl1:LstN K.nb w2 (.slice La1 S.L.length Lc1) S.L:=by rw [← hvL1];exact h1.out.lst
  obtain ⟨V2,h2,k2⟩:=h1.out.setList hi (GMc.setT_T _ _ _) hl1
  rw [GMc.setT_setT] at h2
  replace h2:=h2.drew
  replace k2:KeepM K.nb w1 ((w2.setCell ⟨K.tb,i * 9+5,none⟩ (.slice La1 S.L.length Lc1)).drew):=k1.out.trans k2
  replace h2:=Lib.hid h2
  replace k2:=Lib.hid k2
  replace hvL1:=Lib.hid hvL1
  replace hl1:=Lib.hid hl1
  go_cut [80] (fun v wy=>wy=(w2.setCell ⟨K.tb,i * 9+5,none⟩ (.slice La1 S.L.length Lc1)).drew)
  case first =>
   go_region
   all_goals (go_wp2_with fail;go_meet)
   all_goals rfl
  case rest =>
   subst hcut
   clear x1m0 x1m3 x1t5 x1z5
   generalize (w2.setCell ⟨K.tb,i * 9+5,none⟩ (.slice La1 S.L.length Lc1)).drew=w3 at *
   have x2m1:=h2.out.cellM 1
   have x2m3:=h2.out.cellM 3
   have x2t6:=h2.out.cellT hi (k:=6) (by decide)
   simp only [tcV,List.getElem?_toArray,List.getElem?_cons_zero,List.getElem?_cons_succ,GMc.setT_T,GMc.setT_L,GMc.setT_ser,GMc.setT_N] at x2m1 x2m3 x2t6
   have x2z6:=h2.out.trow.free (i * 9+6)
   go_upto_region 10 with fail
   obtain ⟨V3,h3,k3⟩:=h2.out.setTSer hi (GMc.setT_T _ _ _) S.ser
   rw [GMc.setT_setT] at h3
   replace h3:=h3.drew
   replace k3:KeepM K.nb w1 ((w3.setCell ⟨K.tb,i * 9+6,none⟩ (.int .i64 S.ser)).drew):=k2.out.trans k3
   replace h3:=Lib.hid h3
   replace k3:=Lib.hid k3
   go_cut [91] (fun v wy=>wy=(w3.setCell ⟨K.tb,i * 9+6,none⟩ (.int .i64 S.ser)).drew)
   case first =>
    go_region
    all_goals (go_wp2_with fail;go_meet)
    all_goals rfl
   case rest =>
    subst hcut
    clear x2m1 x2m3 x2t6 x2z6
    generalize (w3.setCell ⟨K.tb,i * 9+6,none⟩ (.int .i64 S.ser)).drew=w4 at *
    obtain ⟨La3,Lc3,hvL3,_⟩:=id h3.out.lst
    simp only [GMc.setT_L] at hvL3
    have x3m0:=h3.out.cellM 0
    have x3g:=HB.out _ k3.out
    have x3o0:=zac x3g 0
    have x3o1:=zac x3g 1
    clear x3g
    simp only [tcV,List.getElem?_toArray,List.getElem?_cons_zero,List.getElem?_cons_succ,GMc.setT_T,GMc.setT_L,GMc.setT_ser,GMc.setT_N] at x3m0 x3o0 x3o1
    rw [hvL3] at x3m0
    have HI:Hid (IntsAt w4.drew (.slice La3 S.L.length Lc3) S.L):=Lib.hid (by
     have:=h3.out.drew.lst.ints
     simp only [GMc.setT_L] at this
     rw [hvL3] at this
     exact this)
    replace hvL3:=Lib.hid hvL3
    replace hL9:=Lib.hid hL9
    replace hm:=Lib.hid hm
    have HS:=Lib.hid (has_walk (p:=oa) HI.out hL9.out)
    rw [hm.out] at HS
    go_upto_region 13 with fail
    go_cut [117] (fun v wy=>v = .bool false∧Below w4.heap.size w4.drew wy)
    case first =>
     go_region_with (go_at_call 177;refine HS.out.mono ?_;rintro e w' ⟨rfl,hb⟩;replace hb:=Lib.hid hb)
     all_goals (go_wp2_with fail;go_meet)
     all_goals exact ⟨rfl,hb.out⟩
    case rest =>
     obtain ⟨rfl,hbw⟩:=hcut
     clear x3m0 x3o0 x3o1
     obtain ⟨h4,k4⟩:=h3.out.drew.below hbw rfl
     replace k4:KeepM K.nb w1 wc:=k3.out.trans k4
     replace h4:=Lib.hid h4
     replace k4:=Lib.hid k4
     generalize wc=w5 at *
     clear hbw
     go_wp2_with fail
     go_end0
     exact ⟨rfl,_,h4.out,k0.out.trans k4.out⟩
theorem step_leave1_there (h:MMem K V S w) (hi:i < K.n) (hlen:(S.T i).ans.length≤100000) (ha9:(S.T i).at_≤100000) (hat:(S.T i).at_ < (S.T i).ops.length) {ok oa ob oc:Int} (ho:opG (S.T i)=⟨ok,oa,ob,oc⟩) (hL9:S.L.length≤1000000000) (hp:(S.T i).pc=1) (hk:ok=2) (hm:decide (oa∈S.L)=true) :
  Calls Try.prog 139 #[.pointer (some ⟨K.mb,0,none⟩),.int .i64 i] w (MDone K (S.setT i { S.T i with pc:=2,list:=S.L,ser:=S.ser }) w):=by
 have hi':(i:Int) < (K.n:Int):=by omega
 have hat':((S.T i).at_:Int) < ((S.T i).ops.length:Int):=by omega
 subst hk
 obtain ⟨xb,xo,xc,hvo,hok,o0,o1,o2,o3⟩:=h.opAt hi rfl hat
 rw [ho] at o0 o1 o2 o3
 simp only at o0 o1 o2 o3
 have m3:=h.cellM 3
 have t0:=h.cellT hi (k:=0) (by decide)
 have t3:=h.cellT hi (k:=3) (by decide)
 simp only [tcV,List.getElem?_toArray,List.getElem?_cons_zero,List.getElem?_cons_succ,hvo,Nat.add_zero] at m3 t0 t3
 have al:∀ {a:Addr} {v:Value} (o:Obj),w.cell? a=some v→(w.alloc o).cell? a=some v:=fun {a v} o hv=>(World.cell?_of_block (w:=w) (Below.heap_alloc _ _ _ (World.block_lt_of_cell? w _ hv))).trans hv
 have am3:=al (.cells #[.int .i64 0,.int .i64 0,.int .i64 0,.int .i64 0] 45) m3
 have at0:=al (.cells #[.int .i64 0,.int .i64 0,.int .i64 0,.int .i64 0] 45) t0
 have at3:=al (.cells #[.int .i64 0,.int .i64 0,.int .i64 0,.int .i64 0] 45) t3
 have a0:=al (.cells #[.int .i64 0,.int .i64 0,.int .i64 0,.int .i64 0] 45) o0
 have a1:=al (.cells #[.int .i64 0,.int .i64 0,.int .i64 0,.int .i64 0] 45) o1
 have a2:=al (.cells #[.int .i64 0,.int .i64 0,.int .i64 0,.int .i64 0] 45) o2
 have a3:=al (.cells #[.int .i64 0,.int .i64 0,.int .i64 0,.int .i64 0] 45) o3
 clear al
 have h0:=(h.alloc (.cells #[.int .i64 2,.int .i64 oa,.int .i64 ob,.int .i64 oc] 45)).drew
 have k0:KeepM K.nb w (w.alloc (.cells #[.int .i64 2,.int .i64 oa,.int .i64 ob,.int .i64 oc] 45)).drew:=KeepM.alloc KeepM.refl _
 have EN:(w.alloc (.cells #[.int .i64 2,.int .i64 oa,.int .i64 ob,.int .i64 oc] 45)).drew.heap[w.heap.size]?=_:=heap_alloc_new w (.cells #[.int .i64 2,.int .i64 oa,.int .i64 ob,.int .i64 oc] 45)
 generalize hM:w.heap.size=M at *
 replace hM:=Lib.hid hM
 replace h:=Lib.hid h
 replace hok:=Lib.hid hok
 replace hat:=Lib.hid hat
 replace hvo:=Lib.hid hvo
 replace hlen:=Lib.hid hlen
 replace ha9:=Lib.hid ha9
 replace ho:=Lib.hid ho
 replace h0:=Lib.hid h0
 replace k0:=Lib.hid k0
 go_enter Try.func139,Try.ntmps139
 go_upto_region 0 with fail
 go_cut [4] (fun v wx=>v = .pointer (some ⟨M,0,none⟩)∧wx=(w.alloc (.cells #[.int .i64 2,.int .i64 oa,.int .i64 ob,.int .i64 oc] 45)).drew)
 case first =>
  go_region
  all_goals (go_wp2_with fail;go_meet)
  all_goals exact ⟨by rw [hM.out],rfl⟩
 case rest =>
  obtain ⟨rfl,rfl⟩:=hcut
  clear m3 t0 t3 am3 at0 at3 a0 a1 a2 a3 o0 o1 o2 o3 hat'
  generalize (w.alloc (.cells #[.int .i64 2,.int .i64 oa,.int .i64 ob,.int .i64 oc] 45)).drew=w1 at *
  have HB:Hid (∀ W,KeepM K.nb w1 W→W.heap[M]?=some (.cells #[.int .i64 2,.int .i64 oa,.int .i64 ob,.int .i64 oc] 45 (0,0))):=Lib.hid fun W k=>k M _ 45 EN (by decide) (by decide) (by decide) (fun z=>by
   obtain ⟨c,n1,_⟩:=h0.out.num
   rw [← z,EN] at n1
   simp at n1)
  have kk:Hid (KeepM K.nb w1 w1):=Lib.hid KeepM.refl
  replace EN:=Lib.hid EN
  have x0m3:=h0.out.cellM 3
  have x0t4:=h0.out.cellT hi (k:=4) (by decide)
  have x0g:=HB.out _ kk.out
  have x0o0:=zac x0g 0
  clear x0g
  simp only [tcV,List.getElem?_toArray,List.getElem?_cons_zero,List.getElem?_cons_succ,GMc.setT_T,GMc.setT_L,GMc.setT_ser,GMc.setT_N] at x0m3 x0t4 x0o0
  have x0z4:=h0.out.trow.free (i * 9+4)
  rw [hp] at x0t4
  obtain ⟨V1,h1,k1⟩:=h0.out.setPc hi (rfl) 2
  replace k1:KeepM K.nb w1 (w1.setCell ⟨K.tb,i * 9+4,none⟩ (.int .i64 2)):=kk.out.trans k1
  replace h1:=Lib.hid h1
  replace k1:=Lib.hid k1
  go_upto_region 9 with fail
  clear x0m3 x0t4 x0o0 x0z4
  generalize w1.setCell ⟨K.tb,i * 9+4,none⟩ (.int .i64 2)=w2 at *
  obtain ⟨La1,Lc1,hvL1,_⟩:=id h1.out.lst
  simp only [GMc.setT_L] at hvL1
  have x1m0:=h1.out.cellM 0
  have x1m3:=h1.out.cellM 3
  have x1t5:=h1.out.cellT hi (k:=5) (by decide)
  simp only [tcV,List.getElem?_toArray,List.getElem?_cons_zero,List.getElem?_cons_succ,GMc.setT_T,GMc.setT_L,GMc.setT_ser,GMc.setT_N] at x1m0 x1m3 x1t5
  have x1z5:=h1.out.trow.free (i * 9+5)
  rw [hvL1] at x1m0
  have hl1:LstN K.nb w2 (.slice La1 S.L.length Lc1) S.L:=by rw [← hvL1];exact h1.out.lst
  obtain ⟨V2,h2,k2⟩:=h1.out.setList hi (GMc.setT_T _ _ _) hl1
  rw [GMc.setT_setT] at h2
  replace h2:=h2.drew
  replace k2:KeepM K.nb w1 ((w2.setCell ⟨K.tb,i * 9+5,none⟩ (.slice La1 S.L.length Lc1)).drew):=k1.out.trans k2
  replace h2:=Lib.hid h2
  replace k2:=Lib.hid k2
  replace hvL1:=Lib.hid hvL1
  replace hl1:=Lib.hid hl1
  go_cut [80] (fun v wy=>wy=(w2.setCell ⟨K.tb,i * 9+5,none⟩ (.slice La1 S.L.length Lc1)).drew)
  case first =>
   go_region
   all_goals (go_wp2_with fail;go_meet)
   all_goals rfl
  case rest =>
   subst hcut
   clear x1m0 x1m3 x1t5 x1z5
   generalize (w2.setCell ⟨K.tb,i * 9+5,none⟩ (.slice La1 S.L.length Lc1)).drew=w3 at *
   have x2m1:=h2.out.cellM 1
   have x2m3:=h2.out.cellM 3
   have x2t6:=h2.out.cellT hi (k:=6) (by decide)
   simp only [tcV,List.getElem?_toArray,List.getElem?_cons_zero,List.getElem?_cons_succ,GMc.setT_T,GMc.setT_L,GMc.setT_ser,GMc.setT_N] at x2m1 x2m3 x2t6
   have x2z6:=h2.out.trow.free (i * 9+6)
   go_upto_region 10 with fail
   obtain ⟨V3,h3,k3⟩:=h2.out.setTSer hi (GMc.setT_T _ _ _) S.ser
   rw [GMc.setT_setT] at h3
   replace h3:=h3.drew
   replace k3:KeepM K.nb w1 ((w3.setCell ⟨K.tb,i * 9+6,none⟩ (.int .i64 S.ser)).drew):=k2.out.trans k3
   replace h3:=Lib.hid h3
   replace k3:=Lib.hid k3
   go_cut [91] (fun v wy=>wy=(w3.setCell ⟨K.tb,i * 9+6,none⟩ (.int .i64 S.ser)).drew)
   case first =>
    go_region
    all_goals (go_wp2_with fail;go_meet)
    all_goals rfl
   case rest =>
    subst hcut
    clear x2m1 x2m3 x2t6 x2z6
    generalize (w3.setCell ⟨K.tb,i * 9+6,none⟩ (.int .i64 S.ser)).drew=w4 at *
    obtain ⟨La3,Lc3,hvL3,_⟩:=id h3.out.lst
    simp only [GMc.setT_L] at hvL3
    have x3m0:=h3.out.cellM 0
    have x3g:=HB.out _ k3.out
    have x3o0:=zac x3g 0
    have x3o1:=zac x3g 1
    clear x3g
    simp only [tcV,List.getElem?_toArray,List.getElem?_cons_zero,List.getElem?_cons_succ,GMc.setT_T,GMc.setT_L,GMc.setT_ser,GMc.setT_N] at x3m0 x3o0 x3o1
    rw [hvL3] at x3m0
    have HI:Hid (IntsAt w4.drew (.slice La3 S.L.length Lc3) S.L):=Lib.hid (by
     have:=h3.out.drew.lst.ints
     simp only [GMc.setT_L] at this
     rw [hvL3] at this
     exact this)
    replace hvL3:=Lib.hid hvL3
    replace hL9:=Lib.hid hL9
    replace hm:=Lib.hid hm
    have HS:=Lib.hid (has_walk (p:=oa) HI.out hL9.out)
    rw [hm.out] at HS
    go_upto_region 22 with fail
    go_cut [176] (fun v wy=>v = .bool false∧Below w4.heap.size w4.drew wy)
    case first =>
     go_region_with (go_at_call 177;refine HS.out.mono ?_;rintro e w' ⟨rfl,hb⟩;replace hb:=Lib.hid hb)
     all_goals (go_wp2_with fail;go_meet)
     all_goals exact ⟨rfl,hb.out⟩
    case rest =>
     obtain ⟨rfl,hbw⟩:=hcut
     clear x3m0 x3o0 x3o1
     obtain ⟨h4,k4⟩:=h3.out.drew.below hbw rfl
     replace k4:KeepM K.nb w1 wc:=k3.out.trans k4
     replace h4:=Lib.hid h4
     replace k4:=Lib.hid k4
     generalize wc=w5 at *
     clear hbw
     go_wp2_with fail
     go_end0
     exact ⟨rfl,_,h4.out,k0.out.trans k4.out⟩
theorem step_leave1_not (h:MMem K V S w) (hi:i < K.n) (hlen:(S.T i).ans.length≤100000) (ha9:(S.T i).at_≤100000) (hat:(S.T i).at_ < (S.T i).ops.length) {ok oa ob oc:Int} (ho:opG (S.T i)=⟨ok,oa,ob,oc⟩) (hL9:S.L.length≤1000000000) (hp:(S.T i).pc=1) (hk:ok=2) (hm:decide (oa∈S.L)=false) :
  Calls Try.prog 139 #[.pointer (some ⟨K.mb,0,none⟩),.int .i64 i] w (MDone K (endS (S.setT i { S.T i with pc:=2,list:=S.L,ser:=S.ser }) i ⟨false,6,[]⟩) w):=by
 have hi':(i:Int) < (K.n:Int):=by omega
 have hat':((S.T i).at_:Int) < ((S.T i).ops.length:Int):=by omega
 subst hk
 obtain ⟨xb,xo,xc,hvo,hok,o0,o1,o2,o3⟩:=h.opAt hi rfl hat
 rw [ho] at o0 o1 o2 o3
 simp only at o0 o1 o2 o3
 have m3:=h.cellM 3
 have t0:=h.cellT hi (k:=0) (by decide)
 have t3:=h.cellT hi (k:=3) (by decide)
 simp only [tcV,List.getElem?_toArray,List.getElem?_cons_zero,List.getElem?_cons_succ,hvo,Nat.add_zero] at m3 t0 t3
 have al:∀ {a:Addr} {v:Value} (o:Obj),w.cell? a=some v→(w.alloc o).cell? a=some v:=fun {a v} o hv=>(World.cell?_of_block (w:=w) (Below.heap_alloc _ _ _ (World.block_lt_of_cell? w _ hv))).trans hv
 have am3:=al (.cells #[.int .i64 0,.int .i64 0,.int .i64 0,.int .i64 0] 45) m3
 have at0:=al (.cells #[.int .i64 0,.int .i64 0,.int .i64 0,.int .i64 0] 45) t0
 have at3:=al (.cells #[.int .i64 0,.int .i64 0,.int .i64 0,.int .i64 0] 45) t3
 have a0:=al (.cells #[.int .i64 0,.int .i64 0,.int .i64 0,.int .i64 0] 45) o0
 have a1:=al (.cells #[.int .i64 0,.int .i64 0,.int .i64 0,.int .i64 0] 45) o1
 have a2:=al (.cells #[.int .i64 0,.int .i64 0,.int .i64 0,.int .i64 0] 45) o2
 have a3:=al (.cells #[.int .i64 0,.int .i64 0,.int .i64 0,.int .i64 0] 45) o3
 clear al
 have h0:=(h.alloc (.cells #[.int .i64 2,.int .i64 oa,.int .i64 ob,.int .i64 oc] 45)).drew
 have k0:KeepM K.nb w (w.alloc (.cells #[.int .i64 2,.int .i64 oa,.int .i64 ob,.int .i64 oc] 45)).drew:=KeepM.alloc KeepM.refl _
 have EN:(w.alloc (.cells #[.int .i64 2,.int .i64 oa,.int .i64 ob,.int .i64 oc] 45)).drew.heap[w.heap.size]?=_:=heap_alloc_new w (.cells #[.int .i64 2,.int .i64 oa,.int .i64 ob,.int .i64 oc] 45)
 generalize hM:w.heap.size=M at *
 replace hM:=Lib.hid hM
 replace h:=Lib.hid h
 replace hok:=Lib.hid hok
 replace hat:=Lib.hid hat
 replace hvo:=Lib.hid hvo
 replace hlen:=Lib.hid hlen
 replace ha9:=Lib.hid ha9
 replace ho:=Lib.hid ho
 replace h0:=Lib.hid h0
 replace k0:=Lib.hid k0
 go_enter Try.func139,Try.ntmps139
 go_upto_region 0 with fail
 go_cut [4] (fun v wx=>v = .pointer (some ⟨M,0,none⟩)∧wx=(w.alloc (.cells #[.int .i64 2,.int .i64 oa,.int .i64 ob,.int .i64 oc] 45)).drew)
 case first =>
  go_region
  all_goals (go_wp2_with fail;go_meet)
  all_goals exact ⟨by rw [hM.out],rfl⟩
 case rest =>
  obtain ⟨rfl,rfl⟩:=hcut
  clear m3 t0 t3 am3 at0 at3 a0 a1 a2 a3 o0 o1 o2 o3 hat'
  generalize (w.alloc (.cells #[.int .i64 2,.int .i64 oa,.int .i64 ob,.int .i64 oc] 45)).drew=w1 at *
  have HB:Hid (∀ W,KeepM K.nb w1 W→W.heap[M]?=some (.cells #[.int .i64 2,.int .i64 oa,.int .i64 ob,.int .i64 oc] 45 (0,0))):=Lib.hid fun W k=>k M _ 45 EN (by decide) (by decide) (by decide) (fun z=>by
   obtain ⟨c,n1,_⟩:=h0.out.num
   rw [← z,EN] at n1
   simp at n1)
  have kk:Hid (KeepM K.nb w1 w1):=Lib.hid KeepM.refl
  replace EN:=Lib.hid EN
  have x0m3:=h0.out.cellM 3
  have x0t4:=h0.out.cellT hi (k:=4) (by decide)
  have x0g:=HB.out _ kk.out
  have x0o0:=zac x0g 0
  clear x0g
  simp only [tcV,List.getElem?_toArray,List.getElem?_cons_zero,List.getElem?_cons_succ,GMc.setT_T,GMc.setT_L,GMc.setT_ser,GMc.setT_N] at x0m3 x0t4 x0o0
  have x0z4:=h0.out.trow.free (i * 9+4)
  rw [hp] at x0t4
  obtain ⟨V1,h1,k1⟩:=h0.out.setPc hi (rfl) 2
  replace k1:KeepM K.nb w1 (w1.setCell ⟨K.tb,i * 9+4,none⟩ (.int .i64 2)):=kk.out.trans k1
  replace h1:=Lib.hid h1
  replace k1:=Lib.hid k1
  go_upto_region 9 with fail
  clear x0m3 x0t4 x0o0 x0z4
  generalize w1.setCell ⟨K.tb,i * 9+4,none⟩ (.int .i64 2)=w2 at *
  obtain ⟨La1,Lc1,hvL1,_⟩:=id h1.out.lst
  simp only [GMc.setT_L] at hvL1
  have x1m0:=h1.out.cellM 0
  have x1m3:=h1.out.cellM 3
  have x1t5:=h1.out.cellT hi (k:=5) (by decide)
  simp only [tcV,List.getElem?_toArray,List.getElem?_cons_zero,List.getElem?_cons_succ,GMc.setT_T,GMc.setT_L,GMc.setT_ser,GMc.setT_N] at x1m0 x1m3 x1t5
  have x1z5:=h1.out.trow.free (i * 9+5)
  rw [hvL1] at x1m0
  have hl1:LstN K.nb w2 (.slice La1 S.L.length Lc1) S.L:=by rw [← hvL1];exact h1.out.lst
  obtain ⟨V2,h2,k2⟩:=h1.out.setList hi (GMc.setT_T _ _ _) hl1
  rw [GMc.setT_setT] at h2
  replace h2:=h2.drew
  replace k2:KeepM K.nb w1 ((w2.setCell ⟨K.tb,i * 9+5,none⟩ (.slice La1 S.L.length Lc1)).drew):=k1.out.trans k2
  replace h2:=Lib.hid h2
  replace k2:=Lib.hid k2
  replace hvL1:=Lib.hid hvL1
  replace hl1:=Lib.hid hl1
  go_cut [80] (fun v wy=>wy=(w2.setCell ⟨K.tb,i * 9+5,none⟩ (.slice La1 S.L.length Lc1)).drew)
  case first =>
   go_region
   all_goals (go_wp2_with fail;go_meet)
   all_goals rfl
  case rest =>
   subst hcut
   clear x1m0 x1m3 x1t5 x1z5
   generalize (w2.setCell ⟨K.tb,i * 9+5,none⟩ (.slice La1 S.L.length Lc1)).drew=w3 at *
   have x2m1:=h2.out.cellM 1
   have x2m3:=h2.out.cellM 3
   have x2t6:=h2.out.cellT hi (k:=6) (by decide)
   simp only [tcV,List.getElem?_toArray,List.getElem?_cons_zero,List.getElem?_cons_succ,GMc.setT_T,GMc.setT_L,GMc.setT_ser,GMc.setT_N] at x2m1 x2m3 x2t6
   have x2z6:=h2.out.trow.free (i * 9+6)
   go_upto_region 10 with fail
   obtain ⟨V3,h3,k3⟩:=h2.out.setTSer hi (GMc.setT_T _ _ _) S.ser
   rw [GMc.setT_setT] at h3
   replace h3:=h3.drew
   replace k3:KeepM K.nb w1 ((w3.setCell ⟨K.tb,i * 9+6,none⟩ (.int .i64 S.ser)).drew):=k2.out.trans k3
   replace h3:=Lib.hid h3
   replace k3:=Lib.hid k3
   go_cut [91] (fun v wy=>wy=(w3.setCell ⟨K.tb,i * 9+6,none⟩ (.int .i64 S.ser)).drew)
   case first =>
    go_region
    all_goals (go_wp2_with fail;go_meet)
    all_goals rfl
   case rest =>
    subst hcut
    clear x2m1 x2m3 x2t6 x2z6
    generalize (w3.setCell ⟨K.tb,i * 9+6,none⟩ (.int .i64 S.ser)).drew=w4 at *
    obtain ⟨La3,Lc3,hvL3,_⟩:=id h3.out.lst
    simp only [GMc.setT_L] at hvL3
    have x3m0:=h3.out.cellM 0
    have x3g:=HB.out _ k3.out
    have x3o0:=zac x3g 0
    have x3o1:=zac x3g 1
    clear x3g
    simp only [tcV,List.getElem?_toArray,List.getElem?_cons_zero,List.getElem?_cons_succ,GMc.setT_T,GMc.setT_L,GMc.setT_ser,GMc.setT_N] at x3m0 x3o0 x3o1
    rw [hvL3] at x3m0
    have HI:Hid (IntsAt w4.drew (.slice La3 S.L.length Lc3) S.L):=Lib.hid (by
     have:=h3.out.drew.lst.ints
     simp only [GMc.setT_L] at this
     rw [hvL3] at this
     exact this)
    replace hvL3:=Lib.hid hvL3
    replace hL9:=Lib.hid hL9
    replace hm:=Lib.hid hm
    have HS:=Lib.hid (has_walk (p:=oa) HI.out hL9.out)
    rw [hm.out] at HS
    go_upto_region 22 with fail
    go_cut [176] (fun v wy=>v = .bool true∧Below w4.heap.size w4.drew wy)
    case first =>
     go_region_with (go_at_call 177;refine HS.out.mono ?_;rintro e w' ⟨rfl,hb⟩;replace hb:=Lib.hid hb)
     all_goals (go_wp2_with fail;go_meet)
     all_goals exact ⟨rfl,hb.out⟩
    case rest =>
     obtain ⟨rfl,hbw⟩:=hcut
     clear x3m0 x3o0 x3o1
     obtain ⟨h4,k4⟩:=h3.out.drew.below hbw rfl
     replace k4:KeepM K.nb w1 wc:=k3.out.trans k4
     replace h4:=Lib.hid h4
     replace k4:=Lib.hid k4
     generalize wc=w5 at *
     clear hbw
     have HE:=Lib.hid (zbk (r:=⟨false,6,[]⟩) (h4.out) hi (by first | exact hlen.out | (simp only [GMc.setN_T,GMc.setT_T];exact hlen.out)) (by first | exact ha9.out | (simp only [GMc.setN_T,GMc.setT_T];exact ha9.out)) (LstN.nil _ _))
     go_wp2_with (go_at_call 176;refine HE.out.mono ?_;rintro e w' ⟨rfl,hdd⟩;replace hdd:=Lib.hid hdd)
     go_end0
     exact MDone.of (k0.out.trans k4.out) ⟨rfl,hdd.out⟩
end
end Go.Proofs.Ytofacoojpgkbiaa
