/-
  A part of a proof. No condition of its own.
-/
import Derived.Test.YtofacoojpgkbiaaCalsP31
import Derived.Deep.CutBlock
import Derived.Test.YtofacoojpgkbiaaCalsP23
set_option linter.unusedVariables false
set_option maxHeartbeats 8000000
set_option linter.unusedSimpArgs false
namespace Go.Proofs.Ytofacoojpgkbiaa
open Go.Conc Go.RowKit
open Go.ConcN (upd upd_ne upd_same)
set_option maxRecDepth 100000
def znu (LL:List (List OpD)) (i:Nat):List OpD:=(LL.getD i []).take 65536
theorem zr7 (LL:List (List OpD)) (i:Nat):(znu LL i).length≤65536:=by unfold znu;rw [List.length_take];omega
def zof (S0:GMc) (LL:List (List OpD)) (n mo:Nat) (l:List Int):zki:=zdv n mo ⟨zbz S0 (znu LL) n,[]⟩ l
def zk9 (S0:GMc) (LL:List (List OpD)) (sch:List Int) (n mo:Nat):zki:=zfb n mo mo (zof S0 LL n mo sch)
theorem zjt {n mo k:Nat} {r:zki} (h:¬ (zfc r.S n=true∧r.ord.length < mo)):zfb n mo k r=r:=by
 cases k with
 | zero=>rfl
 | succ k=>unfold zfb;rw [if_neg h]
theorem ztq {n mo k:Nat} {r:zki} (h:zfc r.S n=true∧r.ord.length < mo):zfb n mo (k+1) r=zfb n mo k (zdv n mo r (zkh n)):=by
 show (if _ then _ else _)=_;rw [if_pos h]
theorem zs1 {n j:Nat} (h:j < n):(zkh n)[j]?=some (j:Int):=by
 unfold zkh;rw [List.getElem?_map,List.getElem?_range' h];simp
theorem z0j (n:Nat):(zkh n).length=n:=by simp [zkh]
theorem zq7 {n mo:Nat} {r:zki} (h:zfc r.S n=true) (hm:r.ord.length < mo):r.ord.length < (zdv n mo r (zkh n)).ord.length:=by
 obtain ⟨i,hi,q⟩:=List.any_eq_true.1 h;have hi':=List.mem_range.1 hi;exact zlm (zkh n) hi' (List.mem_iff_getElem?.2 ⟨i,zs1 hi'⟩) (of_decide_eq_true q) hm
def OutAt (w0:World) (mb nb n R0 mo:Nat) (g:zki) (k:Nat) (v:Value) (w:World):Prop :=
 ∃ r,RunAt w0 mb nb n R0 r.S r.ord v w∧RInv n mo r∧zfb n mo k r=g∧mo≤r.ord.length+k
def runT (S0:GMc) (LL:List (List OpD)) (sch:List Int) (n mo:Nat):Tr:=⟨(List.range n).map fun i=>((zk9 S0 LL sch n mo).S.T i).ans,(zk9 S0 LL sch n mo).ord,zdl (zk9 S0 LL sch n mo).S,zfc (zk9 S0 LL sch n mo).S n⟩
def CapV (v:Value):Prop:=∃ va vo a n c st,v = .agg #[va,vo,.slice a n c,st]∧n≤c∧c≤maxLen
theorem row_cap {w:World} {N n n' c:Nat} {a:Option Addr} {t:TypeId} {z:Nat} {l:List Value} (h:w.ownsRow N t z (.slice a n c) n' l):n'≤c∧c≤maxLen:=by
 rcases h.2 with ⟨e,e0⟩|⟨g,cap,cur,e,_,_,hc,hm,_⟩
 ·simp only [Value.slice.injEq] at e;obtain ⟨_,rfl,rfl⟩:=e;unfold maxLen;omega
 ·simp only [Value.slice.injEq] at e;obtain ⟨_,_,rfl⟩:=e;exact ⟨hc,hm⟩
def RunD (w0:World) (mb:Nat) (T:Tr) (e:Ending) (w':World):Prop:=∃ v,e = .returned v∧(∀ w'',(∀ (b:Nat) (c:Array Value) (t:TypeId),w'.heap[b]?=some (Obj.cells c t (0,0))→t≠31→w''.heap[b]?=some (Obj.cells c t (0,0)))→TrIn w'' v T)∧Below mb w0 w'∧CapV v
structure RunIn (w0:World) (mb nb:Nat) (S0:GMc) (vt vs:Value) (LL:List (List OpD)) (sch:List Int) (w:World):Prop where
 rb:RB w0 mb nb 0 S0 w
 thr:ThrIn w0 vt LL
 sch:IntsIn w0 vs sch
 mem:MemOk S0.L
 ser:S0.ser=0
theorem zty {w0:World} {ao:Option Addr} {ln cp:Nat} {L:List OpD} (h:OpsIn w0 ao ln cp L):zp7 w0 (.slice ao (L.take 65536).length cp) (L.take 65536):=by
 obtain ⟨h0,h1,h2,h3⟩:=h;refine ⟨ao,cp,rfl,fun o ho=>h0 o (List.mem_of_mem_take ho),rfl,by rw [List.length_take];omega,fun hne=>?_⟩;obtain ⟨b,o,e,q⟩:=h3 (fun z=>hne (by rw [z];rfl));exact ⟨b,o,e,fun j p hj=>q j p (by
  have hlt:=(yai.1 hj).1;rw [List.length_take] at hlt;rwa [List.getElem?_take_of_lt (by omega)] at hj)⟩
theorem zza {w0 w:World} {mb nb:Nat} {S0:GMc} {vt vs:Value} {LL:List (List OpD)} {sch:List Int} {most:Int} (h:RunIn w0 mb nb S0 vt vs LL sch w) (hLL:LL.length≤4611686018427387904) (hsch:sch.length≤4611686018427387904) :
  Calls Try.prog 82 #[.pointer (some ⟨mb,0,none⟩),vt,vs,.int .i64 most] w (RunD w0 mb (runT S0 LL sch (min LL.length 64) (min (max most 0) 1048576).toNat)):=by
 obtain ⟨i235,hi235,z1,z2,z3⟩:=info_parts zzw;obtain ⟨ta,tcap,rfl,ob,ln,cp,hta,hopsI⟩:=h.thr;obtain ⟨n,hn⟩:∃ n,min LL.length 64=n:=⟨_,rfl⟩;obtain ⟨mo,hmo⟩:∃ m:Nat,((m:Nat):Int)=min (max most 0) 1048576:=⟨(min (max most 0) 1048576).toNat,by omega⟩;have hpost:(min (max most 0) 1048576).toNat=mo:=by omega
 rw [hpost,hn];clear hpost;obtain ⟨hbs,hlow⟩:w0.heap.size=mb∧Below mb w0 w:=by
  obtain ⟨K,V,vT,e1,e2,e3,e4,e5,hM⟩:=h.rb;have h1:=hM.bs;have h2:=hM.low;rw [e1,e2] at h1 h2;exact ⟨h1,h2⟩
 have hRB:=h.rb;replace hta:=yay hta;replace hopsI:=yay hopsI;replace h:=yay h;obtain ⟨R0,hR0⟩:∃ r,w.heap.size=r:=⟨_,rfl⟩;have EN:=heap_alloc_new w (.cells #[.slice none 0 0,.slice none 0 0,.slice none 0 0,.bool false] 31);have hRB1:RB w0 mb nb 0 S0 (w.alloc (.cells #[.slice none 0 0,.slice none 0 0,.slice none 0 0,.bool false] 31)):=by
  obtain ⟨K,V,vT,e1,e2,e3,e4,e5,hM⟩:=hRB;exact ⟨K,V,vT,e1,e2,e3,e4,e5,(hM.alloc _).1⟩
 have hlow1:Below mb w0 (w.alloc (.cells #[.slice none 0 0,.slice none 0 0,.slice none 0 0,.bool false] 31)):=hlow.alloc (by have:=hlow.size;omega) _;rw [hR0] at EN;replace hR0:=yay hR0;replace hbs:=yay hbs;replace hRB:=yay hRB;have hlow0:=yay hlow;replace hlow:=yay hlow;go_enter Try.func82,Try.ntmps82
 go_upto_region 1 with fail
 rw [hR0.out];generalize w.alloc (.cells #[.slice none 0 0,.slice none 0 0,.slice none 0 0,.bool false] 31)=w1 at *;replace EN:=yay EN;replace hRB1:=yay hRB1;replace hlow1:=yay hlow1;replace hn:=yay hn;replace hmo:=yay hmo
 go_upto_if 21 with fail
 go_cut [9] (fun v wx=>v = .int .i64 (n:Int)∧wx=w1)
 case first =>
  by_cases q:LL.length≤64
  ·have d1:decide (64 < (LL.length:Int))=false:=decide_eq_false (by omega);have hz:=yay (show (LL.length:Int)=(n:Int) by have:=hn.out;omega)
   go_wp2_with fail
   go_meet
   exact ⟨by rw [hz.out],rfl⟩
  ·have d1:decide (64 < (LL.length:Int))=true:=decide_eq_true (by omega);have hz:=yay (show (64:Int)=(n:Int) by have:=hn.out;omega)
   go_wp2_with fail
   go_meet
   exact ⟨by rw [hz.out],rfl⟩
 case rest =>
  obtain ⟨rfl,ew⟩:=hcut;obtain rfl:=ew.symm
  go_upto_if 23 with fail
  go_cut [3] (fun v wx=>v = .int .i64 (max most 0)∧wx=w1)
  case first =>
   by_cases q:most < 0
   ·have d1:decide (most < 0)=true:=decide_eq_true q;have hz:=yay (show (0:Int)=max most 0 by omega)
    go_wp2_with fail
    go_meet
    exact ⟨by rw [← hz.out],rfl⟩
   ·have d1:decide (most < 0)=false:=decide_eq_false q;have hz:=yay (show most=max most 0 by omega)
    go_wp2_with fail
    go_meet
    exact ⟨by rw [← hz.out],rfl⟩
  case rest =>
   obtain ⟨rfl,ew⟩:=hcut;obtain rfl:=ew.symm
   go_upto_if 25 with fail
   obtain ⟨mx,hmx⟩:∃ m,max most 0=m:=⟨_,rfl⟩;rw [hmx];replace hmx:=yay hmx
   go_cut [3] (fun v wx=>v = .int .i64 (mo:Int)∧wx=w1)
   case first =>
    by_cases q:1048576 < mx
    ·have d1:decide (1048576 < mx)=true:=decide_eq_true q;have hz:=yay (show (1048576:Int)=(mo:Int) by have:=hmo.out;have:=hmx.out;omega)
     go_wp2_with fail
     go_meet
     exact ⟨by rw [← hz.out],rfl⟩
    ·have d1:decide (1048576 < mx)=false:=decide_eq_false q;have hz:=yay (show mx=(mo:Int) by have:=hmo.out;have:=hmx.out;omega)
     go_wp2_with fail
     go_meet
     exact ⟨by rw [← hz.out],rfl⟩
   case rest =>
    obtain ⟨rfl,ew⟩:=hcut;obtain rfl:=ew.symm;clear hmx
    go_upto_block 0 with fail
    go_cut [10] (fun v wx=>RB w0 mb nb n (zbz S0 (znu LL) n) wx∧wx.heap[R0]?=some (.cells #[.slice none 0 0,.slice none 0 0,.slice none 0 0,.bool false] 31 (0,0)))
    case first =>
     go_wp2_with fail
     go_loopw [10] (fun iv wr=>∃ j:Nat,j≤n∧iv = .int .i64 j∧Hid (RB w0 mb nb j (zbz S0 (znu LL) j) wr∧wr.heap[R0]?=some (.cells #[.slice none 0 0,.slice none 0 0,.slice none 0 0,.bool false] 31 (0,0)))) (fun iv _=>n - (intOf iv).toNat)
     case atStart=>exact ⟨0,by omega,rfl,yay ⟨hRB1.out,EN.out⟩⟩
     case round =>
      obtain ⟨j,hj,rfl,HR⟩:=hrel;have hn9:n≤64:=by have:=hn.out;omega
      by_cases hlt:j < n
      ·have hlt':(j:Int) < (n:Int):=by omega
       have hjL:j < LL.length:=by have:=hn.out;omega
       have hjL':(j:Int) < (LL.length:Int):=by omega
       have e1:IntKind.i64.wrap ((j:Int)+1)=((j+1:Nat):Int):=by rw [IntKind.wrap_i64];omega
       have hx:LL[j]?=some (LL.getD j []):=by rw [List.getD_eq_getElem?_getD,List.getElem?_eq_getElem hjL];rfl
       obtain ⟨tbb,tof,rfl,hcells⟩:=hta.out (by intro z;rw [z] at hjL;simp at hjL);have hc:=hcells j _ hx;have hI:=hopsI.out j _ hx;have hln:ln j=(LL.getD j []).length:=hI.2.1;have hcp:ln j≤cp j:=hI.2.2.1;have hvo:=zty hI;obtain ⟨hb0,hl0⟩:=HR.out.1.low;have c1:wr.cell? ⟨tbb,tof+j,none⟩=some (.slice (ob j) (ln j) (cp j)):=(World.cell?_of_block (w:=w0) (hl0.block _ (by rw [← hb0];exact World.block_lt_of_cell? w0 _ hc))).trans hc;clear hcells hc hx hI hb0;generalize ob j=obj at *;generalize cp j=cpj at *;generalize ln j=lnj at *;obtain ⟨l6,hl6⟩:∃ l,((LL.getD j []).take 65536).length=l:=⟨_,rfl⟩;have hl6':l6=min lnj 65536:=by rw [← hl6,List.length_take,hln];omega
       rw [hl6] at hvo;obtain ⟨K,V,vT,g1,g2,g3,g4,g5,hM⟩:=HR.out.1;obtain ⟨xs,hrow,hxs⟩:=hM.row;have HT:=zqi hM (by omega) (by rw [g2,g3]) (vo := .slice obj l6 cpj) (L:=znu LL j) (by rw [g1];exact hvo) (by unfold znu;rw [List.length_take];omega) hrow hxs;rw [g1,g2,g3,g4,g5] at HT;replace HT:=yay HT;have HROW:Hid ((wr.alloc (.cells (tcV (.slice obj l6 cpj) (.slice none 0 0) (.slice none 0 0) j (zcz (znu LL j))).toArray 235)).ownsRow mb 235 9 vT j xs):=yay (by rw [← g2,← g5];exact hrow.alloc _);have HSRC:=yay (src_thr wr (vs:=tcV (.slice obj l6 cpj) (.slice none 0 0) (.slice none 0 0) j (zcz (znu LL j))) rfl tcV_one);have hsz:Hid (mb≤wr.heap.size):=yay (by have:=hM.size;rw [g2] at this;exact this);obtain ⟨tp,tc,e0⟩:=zbg hrow;rw [g5] at e0;subst e0;have m:=hM.mach;rw [g3] at m;have m3:=zac m 3;simp only [yac,yaa,yab] at m3;replace m:=yay m;replace hM:=yay hM;replace hrow:=yay hrow;replace hxs:=yay hxs;replace hvo:=yay hvo;replace hl0:=yay hl0;replace g1:=yay g1;replace g2:=yay g2;replace g3:=yay g3;replace g4:=yay g4;replace g5:=yay g5;replace hl6:=yay hl6;replace hln:=yay hln
       go_upto_if 37 with fail
       generalize hwo:wr=wo at *;clear hwo
       go_cut [11] (fun v wx=>v = .slice obj l6 cpj∧wx=wo)
       case first =>
        by_cases q:65536 < lnj
        ·have d1:decide (65536 < (lnj:Int))=true:=decide_eq_true (by omega);have q65:(65536:Int)≤(cpj:Int):=by omega
         have hz:=yay (show l6=65536 by omega);replace hl6':=yay hl6'
         go_wp2_with fail
         go_meet
         exact ⟨by rw [hz.out],rfl⟩
        ·have d1:decide (65536 < (lnj:Int))=false:=decide_eq_false (by omega);have hz:=yay (show l6=lnj by omega);replace hl6':=yay hl6'
         go_wp2_with fail
         go_meet
         exact ⟨by rw [hz.out],rfl⟩
       case rest =>
        obtain ⟨rfl,ew⟩:=hcut;obtain rfl:=ew.symm;replace hl6':=yay hl6';clear c1;clear hlt';have hj64:Hid (j < 64):=yay (by omega)
        go_wp2_with (first
         | (at_builtin;(refine zht rfl (.tmp 44) (.tmp 48) 231 rfl mb 235 i235 _ _ Try.underlying231 hi235 z1 z2 z3 rfl (.slice tp j tc) j _ rfl HROW.out 1 _ HSRC.out ?l2 ?b2 ?n2 ?_);(case l2=>(unfold maxLen;have:=hj64.out;omega));(case b2=>(have:=hj64.out;omega));(case n2=>(have:=hsz.out;simp;omega));intro v' w2 ha;obtain ⟨q1,q2,rfl,y1,y2⟩:=HT.out v' w2 ha;(have y3:=zac (y1.trans m.out) 3);simp only [yac,yaa,yab] at y3;(have y4:=zan (y1.trans m.out) 3);(have HSET:=yay y2);clear y1 y2 ha)
         | (go_at_call 138;refine HSET.out.mono ?_;rintro e w' ⟨rfl,hd1,hd2⟩;(have HD:=yay (show RB w0 mb nb (j+1) (zbz S0 (znu LL) (j+1)) w'∧w'.heap[R0]?=some (.cells #[.slice none 0 0,.slice none 0 0,.slice none 0 0,.bool false] 31 (0,0)) from ⟨hd1,HR.out.1.kept hd2 HR.out.2 (by decide)⟩));clear hd1 hd2))
        exact ⟨⟨j+1,by have:=hlt;omega,by rw [Int.natCast_add];rfl,HD⟩,by simp [intOf];omega⟩
      ·obtain rfl:j=n:=by omega
       have hlt':¬ (j:Int) < (j:Int):=by omega
       go_wp2_with fail
       go_meet
       exact HR.out
    case rest =>
     obtain ⟨hRB2,EN2⟩:=hcut;clear EN hRB1 hlow1 hta hopsI hlow;have hI0:RInv n mo ⟨zbz S0 (znu LL) n,[]⟩:=by
      obtain ⟨a,b,c,d⟩:=zkz (L:=znu LL) h.out.mem (by rw [h.out.ser];decide) (zr7 LL) n;exact ⟨a,by rw [b,h.out.ser];exact Int.le_refl _,Nat.zero_le _⟩
     have hI:Hid (∀ l,RInv n mo (zof S0 LL n mo l)):=yay fun l=>hI0.fold l;clear hI0;have hA0:Hid (RunAt w0 mb nb n R0 (zbz S0 (znu LL) n) [] (.slice none 0 0) wc):=yay ⟨hRB2,World.ownsRow_nil _ _ _ _,EN2⟩;clear hRB2 EN2;obtain ⟨hs64,sa,scap,rfl,_,hsc⟩:=h.out.sch;replace hs64:=yay hs64;replace hsc:=yay hsc;obtain ⟨i3,hi3,y1,y2,y3⟩:=info_parts info3r
     go_upto_block 2 with fail
     go_cut [12] (fun v wx=>RunAt w0 mb nb n R0 (zof S0 LL n mo sch).S (zof S0 LL n mo sch).ord v wx)
     case first =>
      go_wp2_with fail
      go_loopw [12,13] (fun ov kv wr=>∃ k:Nat,k≤sch.length∧kv = .int .i64 k∧Hid (RunAt w0 mb nb n R0 (zof S0 LL n mo (sch.take k)).S (zof S0 LL n mo (sch.take k)).ord ov wr)) (fun _ kv _=>sch.length - (intOf kv).toNat)
      case atStart=>exact ⟨0,by omega,rfl,hA0⟩
      case round =>
       obtain ⟨k,hk,rfl,HA⟩:=hrel;obtain ⟨r,hr⟩:∃ r,zof S0 LL n mo (sch.take k)=r:=⟨_,rfl⟩;rw [hr] at HA;have hIr:=hI.out (sch.take k);rw [hr] at hIr;obtain ⟨op,oc,rfl⟩:=zbg HA.out.row;have hol:=hIr.ord;have hmo9:mo≤1048576:=by have:=hmo.out;omega
       by_cases hlt:k < sch.length
       ·have hlt':(k:Int) < (sch.length:Int):=by omega
        have d1:decide ((k:Int) < (sch.length:Int))=true:=decide_eq_true hlt';by_cases hf:r.ord.length < mo
        ·have hf':(r.ord.length:Int) < (mo:Int):=by omega
         have d2:decide ((r.ord.length:Int) < (mo:Int))=true:=decide_eq_true hf';have e1:IntKind.i64.wrap ((k:Int)+1)=((k+1:Nat):Int):=by rw [IntKind.wrap_i64];omega
         obtain ⟨x,hx⟩:∃ x,sch[k]?=some x:=⟨_,List.getElem?_eq_getElem hlt⟩;obtain ⟨sb,so,rfl,hcs⟩:=hsc.out (by intro z;rw [z] at hlt;simp at hlt);obtain ⟨hb0,hl0⟩:=HA.out.rb.low;have c1:wr.cell? ⟨sb,so+k,none⟩=some (.int .i64 x):=(World.cell?_of_block (w:=w0) (hl0.block _ (by rw [← hb0];exact World.block_lt_of_cell? w0 _ (hcs k x hx)))).trans (hcs k x hx);have hN:Hid (zof S0 LL n mo (sch.take (k+1))=zdb n mo r x):=yay (by
          rw [List.take_add_one,hx,← hr];exact zmy _ _)
         clear hb0 hl0 hcs;replace hx:=yay hx;replace hr:=yay hr;replace hf:=yay hf;replace hf':=yay hf';replace hlt:=yay hlt;replace hlt':=yay hlt';replace hIr:=yay hIr;replace hol:=yay hol;replace hmo9:=yay hmo9;have HB:Hid (zdb n mo r x=r→RunAt w0 mb nb n R0 (zof S0 LL n mo (sch.take (k+1))).S (zof S0 LL n mo (sch.take (k+1))).ord (.slice op r.ord.length oc) wr):=yay fun z=>by rw [hN.out,z];exact HA.out
         by_cases q0:0≤x
         ·have d3:decide (0≤x)=true:=decide_eq_true q0;by_cases q1:x < (n:Int)
          ·have d4:decide (x < (n:Int))=true:=decide_eq_true q1;obtain ⟨i,rfl⟩:∃ i:Nat,x=(i:Int):=⟨x.toNat,by omega⟩;have hi:i < n:=by omega
           obtain ⟨tb,tc,va9,t1,t2,_,_⟩:=HA.out.rb.see hi;by_cases q2:0 < (r.S.T i).pc
           ·have d5:decide (0 < (r.S.T i).pc)=true:=decide_eq_true q2;have hst:zdb n mo r (i:Int)=zu7 r i:=by
             unfold zdb;rw [if_pos ⟨q0,q1,by simpa using q2,hf.out⟩];simp
            have HN2:Hid (∀ v w',RunAt w0 mb nb n R0 (zbe (zdj r.S i) i) (r.ord++[(i:Int)]) v w'→RunAt w0 mb nb n R0 (zof S0 LL n mo (sch.take (k+1))).S (zof S0 LL n mo (sch.take (k+1))).ord v w'):=yay fun v w' z=>by rw [hN.out,hst];exact z
            clear hst;have HSx:=yay (zfw wr (i:Int) 3);have HO1:=yay (HA.out.row.alloc (.cells #[.int .i64 (i:Int)] 3));have hlow:Hid (mb≤(wr.alloc (.cells #[.int .i64 (i:Int)] 3)).heap.size):=yay (by obtain ⟨a,b⟩:=HA.out.rb.low;have:=b.size;simp;omega);have hser:Hid (r.S.ser≤4611686018427387904):=yay (by have:=hIr.out.ser;have:=hol.out;have:=hmo9.out;omega);replace q2:=yay q2;replace hi:=yay hi
            go_wp2_with (first
             | (at_builtin;(refine zas rfl (.tmp 89) (.tmp 91) 24 rfl mb 3 i3 _ _ Try.underlying24 hi3 y1 y2 y3 rfl (.slice op r.ord.length oc) r.ord.length _ rfl HO1.out 1 _ HSx.out ?l2 ?b2 ?n2 ?_);(case l2=>(unfold maxLen;have:=hol.out;have:=hmo9.out;omega));(case b2=>(have:=hol.out;have:=hmo9.out;omega));(case n2=>exact hlow.out);intro v' w2 ha;(have HP:=yay (HA.out.push ha));clear ha)
             | (go_at_call 139;refine (HP.out.step hIr.out.inv hi.out q2.out hser.out).mono ?_;rintro e w' ⟨rfl,hd⟩;(have HP2:=yay hd);clear hd)
             | (go_at_call 138;refine (HP2.out.settle (znn hIr.out.inv hi.out ((hIr.out.inv.th i hi.out).pc.resolve_left (by have:=q2.out;omega))) hi.out).mono ?_;rintro e w' ⟨rfl,hd⟩;(have HP3:=yay hd);clear hd))
            exact ⟨⟨k+1,hlt.out,by rw [Int.natCast_add];rfl,yay (HN2.out _ _ HP3.out)⟩,by have:=hlt.out;simp [intOf];omega⟩
           ·have d5:decide (0 < (r.S.T i).pc)=false:=decide_eq_false q2;have hst:zdb n mo r (i:Int)=r:=by unfold zdb;rw [if_neg (fun z=>q2 (by simpa using z.2.2.1))]
            have HB2:=yay (HB.out hst);clear hst;replace q2:=yay q2
            go_wp2_with fail
            exact ⟨⟨k+1,hlt.out,by rw [Int.natCast_add];rfl,HB2⟩,by have:=hlt.out;simp [intOf];omega⟩
          ·have d4:decide (x < (n:Int))=false:=decide_eq_false q1;have hst:zdb n mo r x=r:=by unfold zdb;rw [if_neg (by omega)]
           have HB2:=yay (HB.out hst);clear hst;replace q1:=yay q1
           go_wp2_with fail
           exact ⟨⟨k+1,hlt.out,by rw [Int.natCast_add];rfl,HB2⟩,by have:=hlt.out;simp [intOf];omega⟩
         ·have d3:decide (0≤x)=false:=decide_eq_false q0;have hst:zdb n mo r x=r:=by unfold zdb;rw [if_neg (by omega)]
          have HB2:=yay (HB.out hst);clear hst;replace q0:=yay q0
          go_wp2_with fail
          exact ⟨⟨k+1,hlt.out,by rw [Int.natCast_add];rfl,HB2⟩,by have:=hlt.out;simp [intOf];omega⟩
        ·have d2:decide ((r.ord.length:Int) < (mo:Int))=false:=decide_eq_false (by omega);have HZ:Hid (RunAt w0 mb nb n R0 (zof S0 LL n mo sch).S (zof S0 LL n mo sch).ord (.slice op r.ord.length oc) wr):=yay (by
          have:zof S0 LL n mo sch=r:=by
           have e:sch=sch.take k++sch.drop k:=(List.take_append_drop _ _).symm;rw [e];unfold zof at hr ⊢;unfold zdv at hr ⊢;rw [List.foldl_append,hr];exact zji (n:=n) _ (by omega)
          rw [this];exact HA.out)
         replace hf:=yay hf;replace hr:=yay hr;replace hIr:=yay hIr
         go_wp2_with fail
         go_meet
         exact HZ.out
       ·obtain rfl:k=sch.length:=by omega
        have d1:decide ((sch.length:Int) < (sch.length:Int))=false:=decide_eq_false (by omega);rw [List.take_length] at hr;have HZ:Hid (RunAt w0 mb nb n R0 (zof S0 LL n mo sch).S (zof S0 LL n mo sch).ord (.slice op r.ord.length oc) wr):=yay (by
         rw [hr];exact HA.out)
        replace hr:=yay hr;replace hIr:=yay hIr
        go_wp2_with fail
        go_meet
        exact HZ.out
     case rest =>
      have HR:=yay hcut;have h9:Hid (OutAt w0 mb nb n R0 mo (zk9 S0 LL sch n mo) mo u12 wc):=yay ⟨_,hcut,hI.out sch,rfl,by omega⟩;clear hcut hI hA0 hs64 hsc
      go_upto_block 4 with fail
      go_cut [12] (fun v wx=>RunAt w0 mb nb n R0 (zk9 S0 LL sch n mo).S (zk9 S0 LL sch n mo).ord v wx∧RInv n mo (zk9 S0 LL sch n mo))
      case first =>
       go_wp2_with fail
       go_loopg [12] mo (fun k v wr=>Hid (OutAt w0 mb nb n R0 mo (zk9 S0 LL sch n mo) k v wr))
       case atStart=>exact h9
       case round =>
        obtain ⟨r,HA,hIr,hro,hk⟩:=hrel.out;replace HA:=yay HA;obtain ⟨op,oc,e9⟩:=zbg HA.out.row;subst e9;have hol:=hIr.ord;have hmo9:mo≤1048576:=by have:=hmo.out;omega
        have HL:=HA.out.rb.left;by_cases hl:zfc r.S n=true
        ·rw [hl] at HL;replace HL:=yay HL;by_cases hf:r.ord.length < mo
         ·have hf':(r.ord.length:Int) < (mo:Int):=by omega
          have d2:decide ((r.ord.length:Int) < (mo:Int))=true:=decide_eq_true hf';have d2n:decide (r.ord.length < mo)=true:=decide_eq_true hf;obtain ⟨k',hk'⟩:∃ k',gk=k'+1:=⟨gk - 1,by omega⟩;have hmv:=zq7 hl hf;have HN:Hid (∀ v w',RunAt w0 mb nb n R0 (zdv n mo r (zkh n)).S (zdv n mo r (zkh n)).ord v w'→OutAt w0 mb nb n R0 mo (zk9 S0 LL sch n mo) k' v w'):=yay fun v w' z=>⟨_,z,hIr.fold _,by rw [← hro,hk',ztq ⟨hl,hf⟩],by omega⟩;have hkl:Hid (k' < gk):=yay (by omega);replace hf:=yay hf;replace hf':=yay hf';replace hl:=yay hl;replace hk:=yay hk;replace hk':=yay hk';replace hmv:=yay hmv;replace hro:=yay hro;replace hIr:=yay hIr;replace hol:=yay hol;replace hmo9:=yay hmo9;replace HR:=yay HR
          go_wp2_with (go_at_call 140;refine HL.out.mono ?_;rintro e w' ⟨rfl,rfl⟩)
          go_loopw [12,15] (fun ov jv wq=>∃ j:Nat,j≤n∧jv = .int .i64 j∧Hid (RunAt w0 mb nb n R0 (zdv n mo r ((zkh n).take j)).S (zdv n mo r ((zkh n).take j)).ord ov wq)) (fun _ jv _=>n - (intOf jv).toNat)
          case atStart=>exact ⟨0,by omega,rfl,HA⟩
          case round =>
           obtain ⟨j,hj,rfl,HQ⟩:=hrel;obtain ⟨r2,hr2⟩:∃ r2,zdv n mo r ((zkh n).take j)=r2:=⟨_,rfl⟩;rw [hr2] at HQ;have hI2:=hIr.out.fold ((zkh n).take j);rw [hr2] at hI2;obtain ⟨op2,oc2,e9⟩:=zbg HQ.out.row;subst e9;have hol2:=hI2.ord;by_cases hlt:j < n
           ·have hlt':(j:Int) < (n:Int):=by omega
            have d6:decide ((j:Int) < (n:Int))=true:=decide_eq_true hlt';by_cases hf2:r2.ord.length < mo
            ·have hf2':(r2.ord.length:Int) < (mo:Int):=by omega
             have d7:decide ((r2.ord.length:Int) < (mo:Int))=true:=decide_eq_true hf2';have hn9:n≤64:=by have:=hn.out;omega
             have e1:IntKind.i64.wrap ((j:Int)+1)=((j+1:Nat):Int):=by rw [IntKind.wrap_i64];omega
             obtain ⟨tb,tc,va9,t1,t2,_,_⟩:=HQ.out.rb.see hlt;have hN:Hid (zdv n mo r ((zkh n).take (j+1))=zdb n mo r2 j):=yay (by
              rw [List.take_add_one,zs1 hlt,← hr2];exact zmy _ _)
             replace hr2:=yay hr2;replace hI2:=yay hI2;replace hol2:=yay hol2;replace hf2:=yay hf2;replace hf2':=yay hf2';replace hn9:=yay hn9;have hj64:Hid (j < 64):=yay (by have:=hn9.out;omega);by_cases q2:0 < (r2.S.T j).pc
             ·have d5:decide (0 < (r2.S.T j).pc)=true:=decide_eq_true q2;have hst:zdb n mo r2 (j:Int)=zu7 r2 j:=by
               unfold zdb;rw [if_pos ⟨by omega,hlt',by simpa using q2,hf2.out⟩];simp
              have HN2:Hid (∀ v w',RunAt w0 mb nb n R0 (zbe (zdj r2.S j) j) (r2.ord++[(j:Int)]) v w'→RunAt w0 mb nb n R0 (zdv n mo r ((zkh n).take (j+1))).S (zdv n mo r ((zkh n).take (j+1))).ord v w'):=yay fun v w' z=>by rw [hN.out,hst];exact z
              clear hst;replace hlt:=yay hlt;replace hlt':=yay hlt'
              rename World=>wq
              have HSx:=yay (zfw wq (j:Int) 3);have HO1:=yay (HQ.out.row.alloc (.cells #[.int .i64 (j:Int)] 3));have hlow:Hid (mb≤(wq.alloc (.cells #[.int .i64 (j:Int)] 3)).heap.size):=yay (by obtain ⟨a,b⟩:=HQ.out.rb.low;have:=b.size;simp;omega);have hser:Hid (r2.S.ser≤4611686018427387904):=yay (by have:=hI2.out.ser;have:=hol2.out;have:=hmo9.out;omega);replace q2:=yay q2
              go_wp2_with (first
               | (at_builtin;(refine zas rfl (.tmp 127) (.tmp 129) 24 rfl mb 3 i3 _ _ Try.underlying24 hi3 y1 y2 y3 rfl (.slice op2 r2.ord.length oc2) r2.ord.length _ rfl HO1.out 1 _ HSx.out ?l2 ?b2 ?n2 ?_);(case l2=>(unfold maxLen;have:=hol2.out;have:=hmo9.out;omega));(case b2=>(have:=hol2.out;have:=hmo9.out;omega));(case n2=>exact hlow.out);intro v' w2 ha;(have HP:=yay (HQ.out.push ha));clear ha)
               | (go_at_call 139;refine (HP.out.step hI2.out.inv hlt.out q2.out hser.out).mono ?_;rintro e w' ⟨rfl,hd⟩;(have HP2:=yay hd);clear hd)
               | (go_at_call 138;refine (HP2.out.settle (znn hI2.out.inv hlt.out ((hI2.out.inv.th j hlt.out).pc.resolve_left (by have:=q2.out;omega))) hlt.out).mono ?_;rintro e w' ⟨rfl,hd⟩;(have HP3:=yay hd);clear hd))
              exact ⟨⟨j+1,hlt.out,by rw [Int.natCast_add];rfl,yay (HN2.out _ _ HP3.out)⟩,by have:=hlt.out;simp [intOf];omega⟩
             ·have d5:decide (0 < (r2.S.T j).pc)=false:=decide_eq_false q2;have hst:zdb n mo r2 (j:Int)=r2:=by unfold zdb;rw [if_neg (fun z=>q2 (by simpa using z.2.2.1))]
              have HB2:Hid (RunAt w0 mb nb n R0 (zdv n mo r ((zkh n).take (j+1))).S (zdv n mo r ((zkh n).take (j+1))).ord (.slice op2 r2.ord.length oc2) wr):=yay (by rw [hN.out,hst];exact HQ.out);clear hst;replace q2:=yay q2;replace hlt:=yay hlt;replace hlt':=yay hlt'
              go_wp2_with fail
              exact ⟨⟨j+1,hlt.out,by rw [Int.natCast_add];rfl,HB2⟩,by have:=hlt.out;simp [intOf];omega⟩
            ·have d7:decide ((r2.ord.length:Int) < (mo:Int))=false:=decide_eq_false (by omega);have HZ:Hid (zdv n mo r (zkh n)=r2):=yay (by
              have e:zkh n=(zkh n).take j++(zkh n).drop j:=(List.take_append_drop _ _).symm;rw [e];unfold zdv at hr2 ⊢;rw [List.foldl_append,hr2];exact zji (n:=n) _ (by omega))
             replace hf2:=yay hf2;replace hr2:=yay hr2;replace hI2:=yay hI2
             go_wp2_with fail
             go_roundg k'
             case measure=>exact hkl.out
             case rel=>exact yay (HN.out _ _ (by rw [HZ.out];exact HQ.out))
           ·obtain rfl:j=n:=by omega
            have d6:decide ((j:Int) < (j:Int))=false:=decide_eq_false (by omega);have HZ:Hid (zdv j mo r (zkh j)=r2):=yay (by
             rw [← hr2,List.take_of_length_le (by rw [z0j];omega)])
            replace hr2:=yay hr2;replace hI2:=yay hI2
            go_wp2_with fail
            go_roundg k'
            case measure=>exact hkl.out
            case rel=>exact yay (HN.out _ _ (by rw [HZ.out];exact HQ.out))
         ·have d2:decide ((r.ord.length:Int) < (mo:Int))=false:=decide_eq_false (by omega);have HZ:Hid (zk9 S0 LL sch n mo=r):=yay (by rw [← hro];exact zjt (fun z=>hf z.2));replace hl:=yay hl;replace hf:=yay hf;replace hIr:=yay hIr;replace hro:=yay hro
          go_wp2_with (go_at_call 140;refine HL.out.mono ?_;rintro e w' ⟨rfl,rfl⟩)
          go_meet
          rw [HZ.out];exact ⟨HA.out,hIr.out⟩
        ·have hl2:zfc r.S n=false:=by simpa using hl
         rw [hl2] at HL;replace HL:=yay HL;have HZ:Hid (zk9 S0 LL sch n mo=r):=yay (by rw [← hro];exact zjt (fun z=>hl z.1));replace hl:=yay hl;replace hl2:=yay hl2;replace hIr:=yay hIr;replace hro:=yay hro
         go_wp2_with (go_at_call 140;refine HL.out.mono ?_;rintro e w' ⟨rfl,rfl⟩)
         go_meet
         rw [HZ.out];exact ⟨HA.out,hIr.out⟩
      case rest =>
       obtain ⟨hcA,hcI⟩:=hcut;clear HR h9;have hQ:Hid (∀ e w',RunD w0 mb ⟨(List.range n).map fun i=>((zk9 S0 LL sch n mo).S.T i).ans,(zk9 S0 LL sch n mo).ord,zdl (zk9 S0 LL sch n mo).S,zfc (zk9 S0 LL sch n mo).S n⟩ e w'→RunD w0 mb (runT S0 LL sch n mo) e w'):=yay fun e w' z=>z;generalize zk9 S0 LL sch n mo=g at hcA hcI hQ;obtain ⟨op,oc,e9⟩:=zbg hcA.row;subst e9;have hR0lo:mb≤R0:=by have:=hlow0.out.size;have:=hR0.out;have:=hbs.out;omega
       have hol:=hcI.ord;have hmo9:mo≤1048576:=by have:=hmo.out;omega
       have hL9:=zbj hcI.inv.mem;have HL:=yay hcA.rb.left;have HS:=yay (hcA.rb.state (by omega));replace hR0lo:=yay hR0lo;replace hcA:=yay hcA;replace hcI:=yay hcI;go_upto_region 34 with (first
        | (go_at_call 140;refine HL.out.mono ?_;rintro e w' ⟨rfl,rfl⟩)
        | (go_at_call 141;refine HS.out.mono ?_;rintro e w9 ⟨v9,rfl,hv9,hb9⟩;obtain ⟨sp,sc,e9⟩:=zbg hv9;subst e9;(have HT:=yay (hcA.out.told (st:=zfc g.S n) hR0lo.out hb9 hv9));(have HCAP:=yay (row_cap hv9));clear hv9 hb9))
       generalize w9.alloc (.cells #[.slice none 0 0,.slice op g.ord.length oc,.slice sp (zdl g.S).length sc,.bool (zfc g.S n)] 31)=wA at *;generalize w9.heap.size=R1 at *;obtain ⟨i40,hi40,a1,a2,a3⟩:=info_parts info40r;generalize hso:(zdl g.S).length=so at *;replace hso:=yay hso;generalize hlf:zfc g.S n=lf at *;replace hlf:=yay hlf;clear HL HS
       go_wp2_with fail
       go_loopw [17] (fun iv wr=>∃ (j:Nat) (v:Value),j≤n∧iv = .int .i64 j∧Hid (TrO w0 mb nb n R0 R1 g.S g.ord (.slice op g.ord.length oc) (.slice sp so sc) lf j v wr)) (fun iv _=>n - (intOf iv).toNat)
       case atStart=>exact ⟨0,_,by omega,rfl,HT⟩
       case round =>
        obtain ⟨j,v,hj,rfl,HL⟩:=hrel;obtain ⟨xs,hrow,hxs⟩:=HL.out.row;obtain ⟨vp,vc,e9⟩:=zbg hrow;subst e9;by_cases hlt:j < n
        ·have hlt':(j:Int) < (n:Int):=by omega
         have hn9:n≤64:=by have:=hn.out;omega
         obtain ⟨tb,tc,va9,t1,t2,t3,t4⟩:=HL.out.rb.see hlt;obtain ⟨pa,pc,e9⟩:=t4.slice;subst e9;generalize hal:(g.S.T j).ans.length=aln at *;replace hal:=yay hal;have b0:wr.cell? ⟨R1,0,none⟩=some (.slice vp j vc):=by rw [zac HL.out.blk 0];rfl
         have al:∀ {a:Addr} {v:Value} (o:Obj),wr.cell? a=some v→(wr.alloc o).cell? a=some v:=fun {a v} o hv=>(World.cell?_of_block (w:=wr) (Below.heap_alloc _ _ _ (World.block_lt_of_cell? wr _ hv))).trans hv;have b0':=al (.cells #[.slice pa aln pc] 40) b0;have HD:=HL.out.drew;have HOW:(wr.drew.alloc (.cells #[.slice pa aln pc] 40)).ownsRow mb 40 1 (.slice vp j vc) j xs:=World.ownsRow.alloc (w:=wr.drew) hrow _;have HSX:=zvt wr.drew (.slice pa aln pc) 40 rfl;have hlo:=HL.out.rb.low;obtain ⟨v',w3,hrun,ha⟩:=zdc (P:=Try.prog) (wr.drew.alloc (.cells #[.slice pa aln pc] 40)) mb 29 29 40 i40 _ 24 Try.underlying29 hi40 a1 a2 a3 (by rfl) (.slice vp j vc) j _ HOW (.slice (some ⟨wr.heap.size,0,none⟩) 1 1) 1 [.slice pa aln pc] HSX (by unfold maxLen;omega) (by omega) (by show mb≤(wr.alloc (.cells #[.slice pa aln pc] 40)).heap.size;have:=hlo.2.size;simp;omega);have HRUN:Hid ((Builtin.append_ #[29,29] 29 #[.slice vp j vc,.slice (some ⟨wr.heap.size,0,none⟩) 1 1]).run Try.prog (wr.alloc (.cells #[.slice pa aln pc] 40)).drew = .ok v' w3):=yay hrun;obtain ⟨hb2,HM⟩:=HD.more (u := .slice pa aln pc) t4 hrow hxs ha;obtain ⟨xs2,hrow2,_⟩:=HM.row;obtain ⟨vp2,vc2,e9⟩:=zbg hrow2;subst e9;have d0:w3.cell? ⟨R1,0,none⟩=some (.slice vp j vc):=by rw [zac hb2 0];rfl
         have y0:=zan hb2 0;have e2:IntKind.i64.wrap ((j:Int)+1)=((j+1:Nat):Int):=by rw [IntKind.wrap_i64];omega
         clear hrun ha HOW HSX HD hb2 al hrow2 t4;replace HM:=yay HM;replace HL:=yay HL;replace hrow:=yay hrow;replace hxs:=yay hxs;replace hlo:=yay hlo;go_upto_region 37 with fail
         go_region_law (refine zbx (by rfl) _ _ 29 29 (by rfl) (.slice vp j vc) (.slice (some ⟨wr.heap.size,0,none⟩) 1 1) (by rfl) (by rfl) HRUN.out ?_)
         all_goals
          go_wp2_with fail
          refine ⟨⟨j+1,.slice vp2 (j+1) vc2,by omega,by rw [Int.natCast_add];rfl,HM⟩,by simp [intOf];omega⟩
        ·obtain rfl:j=n:=by omega
         have b0:wr.cell? ⟨R1,0,none⟩=some (.slice vp j vc):=by rw [zac HL.out.blk 0];rfl
         have b1:wr.cell? ⟨R1,1,none⟩=some (.slice op g.ord.length oc):=by rw [zac HL.out.blk 1];rfl
         have b2:wr.cell? ⟨R1,2,none⟩=some (.slice sp so sc):=by rw [zac HL.out.blk 2];rfl
         have b3:wr.cell? ⟨R1,3,none⟩=some (.bool lf):=by rw [zac HL.out.blk 3];rfl
         have r0:wr.cell? ⟨R0,0,none⟩=some (.slice none 0 0):=by rw [zac HL.out.res 0];rfl
         have r1:wr.cell? ⟨R0,1,none⟩=some (.slice none 0 0):=by rw [zac HL.out.res 1];rfl
         have r2:wr.cell? ⟨R0,2,none⟩=some (.slice none 0 0):=by rw [zac HL.out.res 2];rfl
         have r3:wr.cell? ⟨R0,3,none⟩=some (.bool false):=by rw [zac HL.out.res 3];rfl
         have y0:=zan HL.out.res 0;have y1:=zan HL.out.res 1;have y2:=zan HL.out.res 2;have y3:=zan HL.out.res 3;obtain ⟨x1,x2,x3⟩:=set4 (x := .slice vp j vc) (y := .slice op g.ord.length oc) (z := .slice sp so sc) (u := .bool lf) HL.out.res;have BF:=((((HL.out.rb.low.2).setCell (p:=⟨R0,0,none⟩) hR0lo.out (.slice vp j vc)).setCell (p:=⟨R0,1,none⟩) hR0lo.out (.slice op g.ord.length oc)).setCell (p:=⟨R0,2,none⟩) hR0lo.out (.slice sp so sc)).setCell (p:=⟨R0,3,none⟩) hR0lo.out (.bool lf);have HF:=yay (show ∀ w'':World,(∀ (b:Nat) (c:Array Value) (t:TypeId),wr.heap[b]?=some (Obj.cells c t (0,0))→t≠31→w''.heap[b]?=some (Obj.cells c t (0,0)))→TrIn w'' _ _ from fun w'' hk=>HL.out.done hk)
         have RES:=yay HL.out.res;replace x2:=yay x2;replace x1:=yay x1;replace BF:=yay BF;replace hrow:=yay hrow;replace hxs:=yay hxs;clear x3
         go_wp2_with fail
         refine bodyPost_ret (results_cell_row (fn:=Try.f82) (p:=8) (ty:=31) rfl _ _ R0 31 _ (0,0) _ rfl x1.out Try.underlying31 rfl zr0) rfl ?_;exact hQ.out _ _ ⟨_,rfl,fun w'' hk=>HF.out w'' fun b c t hb ht=>hk b c t ((x2.out b fun z=>by
          rw [z,RES.out] at hb;simp at hb;exact ht hb.2.symm).trans hb) ht,BF.out,_,_,_,_,_,_,rfl,HCAP.out⟩
def trM (l:List Int) (LL:List (List OpD)) (sch:List Int) (most:Int):Tr:=runT (zuy l) LL sch (min LL.length 64) (min (max most 0) 1048576).toNat
theorem zmm {k:Nat} (h:k≤64):MemOk (zpg k):=by
 refine ⟨?_,fun x hx=>?_⟩
 ·unfold zpg;unfold List.Nodup;rw [List.pairwise_map];exact List.nodup_range.imp fun h z=>h (Int.ofNat.inj z)
 ·unfold zpg at hx;obtain ⟨i,hi,rfl⟩:=List.mem_map.1 hx;have:=List.mem_range.1 hi;omega
theorem IntsIn.at {w:World} {v:Value} {l:List Int} (h:IntsIn w v l):IntsAt w v l:=by
 obtain ⟨_,a,cap,e,_,q⟩:=h;exact ⟨a,cap,e,q⟩
def DoneC (T:Tr) (w:World) (e:Ending) (w':World):Prop:=∃ v,e = .returned v∧TrIn w' v T∧Below w.heap.size w w'∧CapV v
theorem ztr {w:World} {l:List Int} {LL:List (List OpD)} {sch:List Int} {vl vt vs:Value} {most:Int} (hl:IntsIn w vl l) (hT:ThrIn w vt LL) (hS:IntsIn w vs sch) (hl9:l.length≤4611686018427387904) (hLL:LL.length≤4611686018427387904) (hsch:sch.length≤4611686018427387904) :
  Calls Try.prog 19 #[vl,vt,vs,.int .i64 most] w (DoneC (trM l LL sch most) w):=by
 generalize hT9:trM l LL sch most=T;replace hT9:=yay hT9;have EN:=heap_alloc_new w (.cells #[.slice none 0 0,.slice none 0 0,.slice none 0 0,.bool false] 31);have B0:Below w.heap.size w (w.alloc (.cells #[.slice none 0 0,.slice none 0 0,.slice none 0 0,.bool false] 31)):=(Below.refl _ _).alloc (yax _) _;have S0:(w.alloc (.cells #[.slice none 0 0,.slice none 0 0,.slice none 0 0,.bool false] 31)).heap.size=w.heap.size+1:=by simp
 have hl1:=hl.keep fun b hb=>B0.block b hb;have hT1:=hT.keep fun b hb=>B0.block b hb;have hS1:=hS.keep fun b hb=>B0.block b hb;clear hl hT hS;replace hT1:=yay hT1;replace hS1:=yay hS1;replace hl1:=yay hl1;replace hl9:=yay hl9;replace hLL:=yay hLL;replace hsch:=yay hsch;go_enter Try.func19,Try.ntmps19
 go_upto_region 1 with fail
 generalize w.alloc (.cells #[.slice none 0 0,.slice none 0 0,.slice none 0 0,.bool false] 31)=w1 at *;generalize hN:w.heap.size=N at *;have HN:=yay (zwi hl1.out.at hl9.out);replace EN:=yay EN;replace B0:=yay B0;replace S0:=yay S0;replace hN:=yay hN;generalize hmb:w1.heap.size=mb at HN;replace hmb:=yay hmb
 go_wp2_with (first
  | (go_at_call 81;refine HN.out.mono ?_;rintro e w2 ⟨rfl,vN,vL,hM⟩;obtain ⟨nb,hRB⟩:=hM.rb;(have HR:Hid (Calls Try.prog 82 #[.pointer (some ⟨mb,0,none⟩),vt,vs,.int .i64 most] w2 (RunD w1 mb T)):=yay (by rw [← hT9.out];exact zza (most:=most) ⟨hRB,hT1.out,hS1.out,zmm (Nat.min_le_right _ _),rfl⟩ hLL.out hsch.out));clear hM hRB)
  | (go_at_call 82;refine HR.out.mono ?_;rintro e w3 ⟨v,rfl,hTr,hB,hC⟩;obtain ⟨va,vo,vst,e9,⟨pa,ca,e10,_⟩,⟨po,co,e11,_⟩,⟨ps,cs,e12,_⟩⟩:=hTr w3 (fun _ _ _ h _=>h);subst e9;subst e10;subst e11;subst e12;(have HTr:=yay hTr);(have HC:=yay hC);clear hC;(have HB:=yay hB);clear hTr hB;(have EW:w3.heap[N]?=some (.cells #[.slice none 0 0,.slice none 0 0,.slice none 0 0,.bool false] 31 (0,0)):=(HB.out.block N (by have:=S0.out;have:=hmb.out;omega)).trans EN.out);(have r0:w3.cell? ⟨N,0,none⟩=some (.slice none 0 0):=by rw [zac EW 0];rfl);(have r1:w3.cell? ⟨N,1,none⟩=some (.slice none 0 0):=by rw [zac EW 1];rfl);(have r2:w3.cell? ⟨N,2,none⟩=some (.slice none 0 0):=by rw [zac EW 2];rfl);(have r3:w3.cell? ⟨N,3,none⟩=some (.bool false):=by rw [zac EW 3];rfl);have y0:=zan EW 0;have y1:=zan EW 1;have y2:=zan EW 2;have y3:=zan EW 3;(have X:=yay (set4 (x := .slice pa T.ans.length ca) (y := .slice po T.ord.length co) (z := .slice ps T.st.length cs) (u := .bool T.stuck) EW));(have EW2:=yay EW);clear EW))
 obtain ⟨x1,x2,x3⟩:=X.out;have BL:Below N w w3:=B0.out.trans (HB.out.mono (by have:=S0.out;have:=hmb.out;omega));have BF:=yay ( (((BL.setCell (p:=⟨N,0,none⟩) (yax N) (.slice pa T.ans.length ca)).setCell (p:=⟨N,1,none⟩) (yax N) (.slice po T.ord.length co)).setCell (p:=⟨N,2,none⟩) (yax N) (.slice ps T.st.length cs)).setCell (p:=⟨N,3,none⟩) (yax N) (.bool T.stuck));refine bodyPost_ret (results_cell_row (fn:=Try.f19) (p:=8) (ty:=31) rfl _ _ N 31 _ (0,0) _ rfl x1 Try.underlying31 rfl zr0) rfl ?_;refine ⟨_,rfl,HTr.out _ fun b c t hb ht=>(x2 b fun z=>?_).trans hb,by rw [hN.out];exact BF.out,HC.out⟩;rw [z,EW2.out] at hb;simp at hb;exact ht hb.2.symm
structure GRel (c n mo:Nat) (s:GSt (SM GateS)) (r:zki):Prop where
 agr:Agr c s.m.st r.S
 an:∀ i,i < n→s.m.an i=(r.S.T i).ans
 co:∀ i,i < n→∃ F,mo≤r.ord.length+F∧s.co i=coG c mo i F (r.S.T i)
 ord:s.ord=r.ord
 inv:RInv n mo r
 x:∀ i,i < n→XInv (r.S.T i)
 num:zp9 r.S
 done:∀ i,i < n→(r.S.T i).pc≠0∨(r.S.T i).ops.length≤(r.S.T i).at_
section
variable {c n mo:Nat} {s:GSt (SM GateS)} {r:zki}
theorem zg1 (S:GMc) (i:Nat):zbe S i=S.setT i (zcc ((S.T i).ops.length+1 - (S.T i).at_) (S.T i)):=zfj i _ S
theorem GRel.fin (h:GRel c n mo s r) {i:Nat} (hi:i < n) (hp:(r.S.T i).pc=0):s.co i = .fin:=by
 obtain ⟨F,_,e⟩:=h.co i hi;rw [e];unfold coG;rw [if_pos ((h.done i hi).resolve_left (fun z=>z hp))]
theorem z0c {i F:Nat} {t:GT}:(coR c mo i F t).isFin=false:=by
 unfold coR;split
 ·split
  ·cases F<;>rfl
  ·split<;>rfl
 ·split
  ·split
   ·cases F<;>rfl
   ·rfl
  ·split
   ·rfl
   ·split
    ·rfl
    ·split
     ·rfl
     ·split
      ·rfl
      ·split<;>rfl
theorem GRel.isFin (h:GRel c n mo s r) {i:Nat} (hi:i < n):(s.co i).isFin = !decide (0 < (r.S.T i).pc):=by
 rcases (h.inv.inv.th i hi).pc with hp|hp
 ·rw [h.fin hi hp,hp];rfl
 ·obtain ⟨F,_,e⟩:=h.co i hi;rw [e];unfold coG;have:=hp.at_;have:=hp.pc0;rw [if_neg (by omega),z0c,decide_eq_true (by omega)];rfl
theorem GRel.turn (h:GRel c n mo s r) {i:Nat} (hi:i < n) (hp:0 < (r.S.T i).pc) (hm:r.ord.length < mo):∃ ψ,s.co i=coF ψ∧GRel c n mo ⟨(ψ s.m).1,upd s.co i (ψ s.m).2,s.ord++[(i:Int)]⟩ (zu7 r i):=by
 have hs:zey (r.S.T i):=(h.inv.inv.th i hi).pc.resolve_left (by omega);obtain ⟨F,hF,e⟩:=h.co i hi;obtain ⟨F',rfl⟩:∃ F',F=F'+1:=⟨F - 1,by omega⟩;obtain ⟨ψ,e1,q⟩:=zy8 (c:=c) (mo:=mo) (F:=F') (h.inv.inv.th i hi) hs (h.x i hi) h.num h.inv.inv.ser h.inv.inv.mem;refine ⟨ψ,e.trans e1,?_⟩;obtain ⟨s',F2,e2,hag,hF2⟩:=q s.m h.agr (h.an i hi);rw [e2];have hx1:=step_x hs (h.x i hi) h.inv.inv.ser h.inv.inv.mem;have hn1:=zyv h.num (h.x i hi) hs;have hT:∀ j,j≠i→(zbe (zdj r.S i) i).T j=r.S.T j:=fun j hj=>by
  rw [zg1,zbl hj,ztb hj]
 refine ⟨hag,fun j hj=>?_,fun j hj=>?_,?_,h.inv.turn hi hp hm,fun j hj=>?_,?_,fun j hj=>?_⟩
 ·show upd s.m.an i _ j=_;by_cases z:j=i
  ·subst z;rw [upd_same];rfl
  ·rw [upd_ne _ _ z];show s.m.an j=((zbe (zdj r.S i) i).T j).ans;rw [hT j z];exact h.an j hj
 ·show ∃ F,mo≤(r.ord++[(i:Int)]).length+F∧upd s.co i _ j=coG c mo j F ((zbe (zdj r.S i) i).T j);rw [List.length_append];by_cases z:j=i
  ·subst z;exact ⟨F2,by simp;omega,by rw [upd_same]⟩
  ·obtain ⟨F3,q1,q2⟩:=h.co j hj;exact ⟨F3,by simp;omega,by rw [upd_ne _ _ z,hT j z];exact q2⟩
 ·show s.ord++[(i:Int)]=r.ord++[(i:Int)];rw [h.ord]
 ·show XInv ((zbe (zdj r.S i) i).T j);by_cases z:j=i
  ·subst z;rw [zg1,GMc.setT_T];exact hx1.settle _
  ·rw [hT j z];exact h.x j hj
 ·show zp9 (zbe (zdj r.S i) i);rw [zg1];exact hn1
 ·show ((zbe (zdj r.S i) i).T j).pc≠0∨_;by_cases z:j=i
  ·subst z;exact zhd _ (.inl (by omega))
  ·show ((zbe (zdj r.S i) i).T j).pc≠0∨((zbe (zdj r.S i) i).T j).ops.length≤((zbe (zdj r.S i) i).T j).at_;rw [hT j z];exact h.done j hj
theorem GRel.step (h:GRel c n mo s r) (i:Int):GRel c n mo (zco n mo s i) (zdb n mo r i):=by
 unfold zco zdb;have ho:=h.inv.ord;rw [h.ord];by_cases q:0≤i∧i < n∧r.ord.length≠mo
 ·rw [if_pos q];obtain ⟨q0,q1,q2⟩:=q;by_cases hp:0 < (r.S.T i.toNat).pc
  ·rw [if_pos ⟨q0,q1,hp,by omega⟩];obtain ⟨ψ,e,h2⟩:=h.turn (i:=i.toNat) (by omega) hp (by omega);rw [e];have e3:((i.toNat:Nat):Int)=i:=by omega
   rw [e3,h.ord] at h2;exact h2
  ·rw [if_neg (fun z=>hp z.2.2.1)];have:(r.S.T i.toNat).pc=0:=by
    rcases (h.inv.inv.th i.toNat (by omega)).pc with z|z
    ·exact z
    ·have:=z.pc0;omega
   rw [h.fin (by omega) this];exact h
 ·rw [if_neg q,if_neg (fun z=>q ⟨z.1,z.2.1,by omega⟩)];exact h
theorem GRel.fold:∀ (l:List Int) {s:GSt (SM GateS)} {r:zki},GRel c n mo s r→GRel c n mo (zhl n mo s l) (zdv n mo r l)
 | [],s,r,h=>h
 | i::l,s,r,h=>GRel.fold l (h.step i)
theorem zpi {M:Type} {co:Nat→Co M}:∀ k,(∀ j,j < k→(co j).isFin=true)→zbb co k=0
 | 0,_=>rfl
 | k+1,h=>by unfold zbb;rw [zpi k fun j hj=>h j (by omega),h k (by omega)];rfl
theorem GRel.left (h:GRel c n mo s r):decide (0 < zbb s.co n)=zfc r.S n:=by
 by_cases q:zfc r.S n=true
 ·rw [q];obtain ⟨i,hi,hp⟩:=List.any_eq_true.1 q;have hi':=List.mem_range.1 hi;rw [decide_eq_true];rcases Nat.eq_zero_or_pos (zbb s.co n) with z|z
  ·have:=zmp n z i hi';rw [h.isFin hi',hp] at this;cases this
  ·exact z
 ·have q':zfc r.S n=false:=by simpa using q
  rw [q',zpi n fun j hj=>?_]
  ·rfl
  ·rw [h.isFin hj];by_cases z:0 < (r.S.T j).pc
   ·exact absurd (zmr hj z) q
   ·rw [decide_eq_false z];rfl
theorem GRel.rounds:∀ (f:Nat) {s:GSt (SM GateS)} {r:zki},GRel c n mo s r→GRel c n mo (zcd n mo f s) (zfb n mo f r)
 | 0,s,r,h=>h
 | f+1,s,r,h=>by
  unfold zcd zfb;have e:(0 < zbb s.co n∧s.ord.length < mo)↔(zfc r.S n=true∧r.ord.length < mo):=by
   rw [← h.left,h.ord,decide_eq_true_eq]
  by_cases q:zfc r.S n=true∧r.ord.length < mo
  ·rw [if_pos q,if_pos (e.2 q)];exact GRel.rounds f (h.fold _)
  ·rw [if_neg q,if_neg (fun z=>q (e.1 z))];exact h
theorem GRel.start {S0:GMc} {m0:SM GateS} {L:Nat→List OpD} (hag:Agr c m0.st S0) (han:∀ j,m0.an j=[]) (hmem:MemOk S0.L) (hser:S0.ser=0) (hnum:zp9 S0) (hL:∀ i,(L i).length≤65536) (hops:∀ i,∀ o∈L i,o.Ok) :
  ∀ k,GRel c k mo ⟨(zba (fun i=>zhq (doG (idL GateS) mo) i (L i)) m0 k).1,(zba (fun i=>zhq (doG (idL GateS) mo) i (L i)) m0 k).2,[]⟩ ⟨zbz S0 L k,[]⟩∧∀ j,k≤j→(zba (fun i=>zhq (doG (idL GateS) mo) i (L i)) m0 k).1.an j=[]
 | 0=>⟨⟨hag,fun i hi=>absurd hi (Nat.not_lt_zero _),fun i hi=>absurd hi (Nat.not_lt_zero _),rfl,⟨⟨hmem,by show (0:Int)≤S0.ser;omega,fun i hi=>absurd hi (Nat.not_lt_zero _)⟩,by show S0.ser≤0;omega,Nat.zero_le _⟩,fun i hi=>absurd hi (Nat.not_lt_zero _),hnum,fun i hi=>absurd hi (Nat.not_lt_zero _)⟩,fun j _=>han j⟩
 | k+1=>by
  obtain ⟨h,ha⟩:=GRel.start hag han hmem hser hnum hL hops k;obtain ⟨i1,i2,i3,i4⟩:=zkz (S0:=S0) (L:=L) hmem (by omega) hL (k+1);unfold zba;simp only;generalize zba (fun i=>zhq (doG (idL GateS) mo) i (L i)) m0 k=sk at *;obtain ⟨m,co⟩:=sk;simp only at h ha ⊢;have hb:=zk2 c mo k ((zcz (L k)).ops.length+1 - (zcz (L k)).at_) (zcz (L k)) m (by omega) rfl (ha k (yax _));have e0:(zcz (L k)).ops.drop (zcz (L k)).at_=L k:=rfl;rw [e0] at hb;rw [hb];have eM:zbz S0 L (k+1)=(zbz S0 L k).setT k (zcc ((zcz (L k)).ops.length+1 - (zcz (L k)).at_) (zcz (L k))):=by
   show zbe _ k=_;rw [zg1];show GMc.setT ((zbz S0 L k).setT k (zcz (L k))) k (zcc ((((zbz S0 L k).setT k (zcz (L k))).T k).ops.length+1 - (((zbz S0 L k).setT k (zcz (L k))).T k).at_) (((zbz S0 L k).setT k (zcz (L k))).T k))=_;rw [GMc.setT_T,GMc.setT_setT]
  have hdn:=zhd (i:=k) ((zcz (L k)).ops.length+1 - (zcz (L k)).at_) (S:=(zbz S0 L k).setT k (zcz (L k))) (.inl (by rw [GMc.setT_T];show (L k).length+1≤0+((L k).length+1 - 0);omega));rw [zfj,GMc.setT_T,GMc.setT_T] at hdn;generalize hT:zcc ((zcz (L k)).ops.length+1 - (zcz (L k)).at_) (zcz (L k))=T at *;have hXT:XInv T:=by
   rw [← hT];exact XInv.settle _ ⟨hops k,fun z=>absurd (show (2:Int)≤0 from z) (by decide),fun _ z=>absurd (show (3:Int)≤0 from z) (by decide)⟩
  rw [eM] at i1 i2 i3 i4 ⊢;refine ⟨⟨⟨h.agr.ser,h.agr.mem,h.agr.num⟩,fun i hi=>?_,fun i hi=>?_,rfl,⟨i1,by show ((zbz S0 L k).setT k T).ser≤0;rw [i2];omega,Nat.zero_le _⟩,fun i hi=>?_,h.num,fun i hi=>?_⟩,fun j hj=>?_⟩
  ·show upd m.an k T.ans i=(((zbz S0 L k).setT k T).T i).ans;by_cases z:i=k
   ·subst z;rw [upd_same,GMc.setT_T]
   ·rw [upd_ne _ _ z,zbl z];exact h.an i (by omega)
  ·show ∃ F,mo≤0+F∧upd co k _ i=coG c mo i F (((zbz S0 L k).setT k T).T i);by_cases z:i=k
   ·subst z;exact ⟨mo,by omega,by rw [upd_same,GMc.setT_T]⟩
   ·obtain ⟨F,q1,q2⟩:=h.co i (by omega);exact ⟨F,q1,by rw [upd_ne _ _ z,zbl z];exact q2⟩
  ·show XInv (((zbz S0 L k).setT k T).T i);by_cases z:i=k
   ·subst z;rw [GMc.setT_T];exact hXT
   ·rw [zbl z];exact h.x i (by omega)
  ·show (((zbz S0 L k).setT k T).T i).pc≠0∨(((zbz S0 L k).setT k T).T i).ops.length≤(((zbz S0 L k).setT k T).T i).at_;by_cases z:i=k
   ·subst z;rw [GMc.setT_T];exact hdn
   ·rw [zbl z];exact h.done i (by omega)
  ·show upd m.an k T.ans j=[];rw [upd_ne _ _ (by omega)];exact ha j (by omega)
end
theorem zwf {f g:Nat→Int} {k:Nat} (h:∀ j,j < k→f j=g j):zdq f k=zdq g k:=by
 unfold zdq;apply List.map_congr_left;intro j hj;exact h j (List.mem_range.1 hj)
theorem zr9 {l:List Int} {j:Nat} (h:j < 64):(zlb l (min l.length 64)).getD j 0=if j < min l.length 64 then (l.take 64).getD j (-1) else -1:=by
 unfold zlb;rw [List.getD_eq_getElem?_getD];have hl:(l.take (min l.length 64)).length=min l.length 64:=by rw [List.length_take];omega
 by_cases q:j < min l.length 64
 ·rw [if_pos q,List.getElem?_append_left (by omega),List.getElem?_take_of_lt q,List.getD_eq_getElem?_getD,List.getElem?_take_of_lt h,List.getElem?_eq_getElem (by omega)];rfl
 ·rw [if_neg q,List.getElem?_append_right (by omega),hl,List.getElem?_replicate,if_pos (by omega)];rfl
theorem trM_eq {l:List Int} {LL:List (List OpD)} (hl:∀ x∈l,zen x) (hops:∀ L∈LL,∀ o∈L,o.Ok) (sch:List Int) (most:Int):trM l LL sch most=trG l LL sch most:=by
 have hk:(l.take 64).length=min l.length 64:=by rw [List.length_take];omega
 have hag:Agr (min l.length 64) (stB (l.take 64) (l.take 64).length) (zuy l):=by
  rw [hk];exact ⟨by show ((min l.length 64:Nat):Int)=0+_;omega,rfl,fun j hj=>(zr9 hj).symm⟩
 have hnum:zp9 (zuy l):=fun j hj=>by
  show zen ((zlb l (min l.length 64)).getD j 0);rw [zr9 hj];split
  ·rename_i q;rw [List.getD_eq_getElem?_getD,List.getElem?_take_of_lt hj,List.getElem?_eq_getElem (by omega)];exact hl _ (List.getElem_mem (by omega))
  ·exact ⟨by decide,by decide⟩
 have hoL:∀ i,∀ o∈znu LL i,o.Ok:=fun i o ho=>by
  unfold znu at ho;have h1:=List.mem_of_mem_take ho;by_cases q:i < LL.length
  ·rw [List.getD_eq_getElem?_getD,List.getElem?_eq_getElem q] at h1;exact hops _ (List.getElem_mem q) o h1
  ·rw [List.getD_eq_getElem?_getD,List.getElem?_eq_none (by omega)] at h1;simp at h1
 have h0:=(GRel.start (c:=min l.length 64) (mo:=moF most) (S0:=zuy l) (m0:=⟨stB (l.take 64) (l.take 64).length,fun _=>[]⟩) (L:=znu LL) hag (fun _=>rfl) (zmm (Nat.min_le_right _ _)) rfl hnum (zr7 LL) hoL (min LL.length 64)).1;have h1:=(h0.fold sch).rounds (moF most);have hG:zcd (min LL.length 64) (moF most) (moF most) (zhl (min LL.length 64) (moF most) ⟨(zba (fun i=>zhq (doG (idL GateS) (moF most)) i (znu LL i)) ⟨stB (l.take 64) (l.take 64).length,fun _=>[]⟩ (min LL.length 64)).1,(zba (fun i=>zhq (doG (idL GateS) (moF most)) i (znu LL i)) ⟨stB (l.take 64) (l.take 64).length,fun _=>[]⟩ (min LL.length 64)).2,[]⟩ sch)=zfz l LL sch most:=rfl;rw [hG] at h1;have hO:zfb (min LL.length 64) (moF most) (moF most) (zdv (min LL.length 64) (moF most) ⟨zbz (zuy l) (znu LL) (min LL.length 64),[]⟩ sch)=zk9 (zuy l) LL sch (min LL.length 64) (moF most):=rfl;rw [hO] at h1;unfold trM runT trG;show (⟨(List.range (min LL.length 64)).map fun i=>((zk9 (zuy l) LL sch (min LL.length 64) (moF most)).S.T i).ans,(zk9 (zuy l) LL sch (min LL.length 64) (moF most)).ord,zdl (zk9 (zuy l) LL sch (min LL.length 64) (moF most)).S,zfc (zk9 (zuy l) LL sch (min LL.length 64) (moF most)).S (min LL.length 64)⟩:Tr)=_;generalize zk9 (zuy l) LL sch (min LL.length 64) (moF most)=r at *;generalize zfz l LL sch most=s at *;have a1:(List.range (min LL.length 64)).map s.m.an=(List.range (min LL.length 64)).map fun i=>(r.S.T i).ans:=by
  apply List.map_congr_left;intro i hi;exact h1.an i (List.mem_range.1 hi)
 have a3:zd9 s.m.st=zdl r.S:=by
  unfold zd9 zdl;rw [h1.agr.mem,zwf h1.agr.num]
 rw [a1,h1.ord,a3,h1.left]
section
variable {n mo i:Nat} {S:GMc} {t:GT} {r:zki}
end
section
variable {W:World} {BX:Nat} {vw vt vs mv:Value} {T:Tr} {listed:Array Bool} {x:Nat→Value} {w w1:World}
end
theorem prgMN:Prg false Try.prog (·∈[19,20,26,81,82,83,87,138,139,140,141,175,176,177,178,179,180,191]):=zju zah (by kernel_rfl) (by kernel_rfl) (by kernel_rfl)
theorem ztj (s:GateS):(zd9 s).length=s.mem.length+65:=by simp [zd9,zdq]
theorem zzs {w:World} {b o n c:Nat} {x:Int} {l l':List Int} (h:IntsAt w (.slice (some ⟨b,o,none⟩) n c) (x::l++l')):IntsAt w (.slice (some ⟨b,o+1,none⟩) l.length (c - 1)) l∧IntsAt w (.slice (some ⟨b,o+(l.length+1),none⟩) l'.length (c - (l.length+1))) l':=by
 obtain ⟨a,cap,e,q⟩:=h;obtain ⟨b',o',e1,q1⟩:=q (by simp);simp only [Value.slice.injEq] at e;obtain ⟨rfl,_,rfl⟩:=e;simp only [Option.some.injEq,Addr.mk.injEq] at e1;obtain ⟨rfl,rfl,_⟩:=e1;refine ⟨⟨_,_,rfl,fun _=>⟨b,o+1,rfl,fun j y hj=>?_⟩⟩,⟨_,_,rfl,fun _=>⟨b,o+(l.length+1),rfl,fun j y hj=>?_⟩⟩⟩
 ·have:=q1 (j+1) y (by
   have hlt:=(yai.1 hj).1;rw [yat,yab,List.getElem?_append_left hlt];exact hj)
  rw [show o+1+j=o+(j+1) by omega];exact this
 ·have:=q1 (l.length+1+j) y (by
   rw [yat,show l.length+1+j=(l.length+j)+1 by omega,yab,List.getElem?_append_right (by omega),show l.length+j - l.length=j by omega];exact hj)
  rw [Nat.add_assoc];exact this
section
variable {Z:Machine→Trace→Prop} {cs:List Frame} {w:World} {cap:Nat} {ao:Option Addr} {L:List OpD}
theorem zum (hops:OpsIn w ao L.length cap L) (hL:L.length≤9223372036854775807) (h:∀ fr w',LeftW w w'→fr.fn=4→fr.leaving Try.prog w' (.returned (.bool true))→RM Try.prog Z (G fr cs) w'):RM Try.prog Z (G (Frame.enter Try.prog 4 #[.slice ao L.length cap] .normal) cs) w:=by
 have hok:=hops.1;rw [enter_at _ Try.func4 rfl];simp only [Try.ntmps4,yan,yau,yav,Nat.reduceAdd,Nat.reduceSub,yao,
   yap,yaq,yar,yas,yat]
 obtain ⟨n,hn⟩:∃ n,L.length=n:=⟨_,rfl⟩;rw [hn];replace hok:=yay hok;replace hops:=yay hops;replace hL:=yay hL;replace hn:=yay hn;replace h:=yay h;have I:LeftW w w := .refl;refine zae rm_xc fun R0 hR0=>?_;refine zby zlz (zab zah (by kernel_rfl)) rfl (zaa Try.func4) rfl fun wp hp=>?_;replace hp:=yay hp
 go_wp2_with fail
 refine fun w1 h1=>?_;replace I:=I.trans ((LeftW.of_sim hp.out.heap hp.out.outs).sim h1);clear h1 hp wp;obtain rfl:=hR0.out;clear hR0;refine zae rm_xc fun R0 hR0=>?_;refine zae rm_xc fun R1 hR1=>?_;refine zj6 rm_xc ?_;refine zat rm_xc rfl rfl (by decide) rfl Try.func16 (by kernel_rfl) (by kernel_rfl) ?_;walk_nrm;refine zuh fun w2 L2=>?_;replace I:=I.trans L2;clear L2;rw [Frame.finish_at];walk_nrm;refine zc3 1 1 (by decide) (by decide) (zai (by kernel_rfl)) fun wp hp=>?_;simp only [yaf,yag,yad,yae];replace hp:=yay hp
 go_wp2_with fail
 refine za4 rfl fun w3 h1=>?_;replace I:=I.trans ((LeftW.of_sim hp.out.heap hp.out.outs).sim h1);clear h1 hp wp;refine zad rm_xc ?_;obtain rfl:=hR1.out;clear hR1;refine zam rm_xc (t:=false) rfl ?_;refine zbm rm_xc ?_;obtain rfl:=hR0.out;clear hR0;refine zae rm_xc fun R0 hR0=>?_;refine zby prgMN (zab zah (by kernel_rfl)) rfl (zaa Try.func4) rfl fun wp hp=>?_;have Lp:LeftW w wp:=I.trans (.of_sim hp.heap hp.outs);have La:LeftW w (wp.alloc (.cells #[.slice ao n cap] 34)):=Lp.alloc _;have hrow:(wp.alloc (.cells #[.slice ao n cap] 34)).heap[wp.heap.size]?=some (.cells #[.slice ao n cap] 34 (0,0)):=heap_alloc_new _ _;have hopsA:OpsIn (wp.alloc (.cells #[.slice ao n cap] 34)) ao n cap L:=by
  have:=hops.out.keep La.same;rw [hn.out] at this;exact this
 have hT:ThrIn (wp.alloc (.cells #[.slice ao n cap] 34)) (.slice (some ⟨wp.heap.size,0,none⟩) 1 1) [L]:=by
  refine ⟨_,_,rfl,fun _=>ao,fun _=>n,fun _=>cap,fun _=>⟨_,0,rfl,fun i X hi=>?_⟩,fun i X hi=>?_⟩
  ·rcases i with _|i
   ·exact zac hrow 0
   ·simp at hi
  ·rcases i with _|i
   ·obtain rfl:L=X:=by simpa using hi
    exact hopsA
   ·simp at hi
 have hnil:∀ W:World,IntsIn W (.slice none 0 0) []:=fun W=>⟨fun _ h=>(by cases h),none,0,rfl,yax _,fun h=>absurd rfl h⟩;have HR:=yay (ztr (most:=1048576) (hnil _) hT (hnil _) (by simp) (by simp) (by simp));rw [trM_eq (fun _ h=>by cases h) (fun X hX o ho=>by rw [yaj.1 hX] at ho;exact hok.out o ho)] at HR;generalize hT9:trG [] [L] [] 1048576=T at HR;replace hT9:=yay hT9;clear hT hopsA hrow hnil Lp;replace hp:=yay hp;replace La:=yay La
 go_wp2_with (go_at_call 19;refine HR.out.mono ?_;rintro e w4 ⟨v,rfl,hTr,hB,hC⟩;obtain ⟨va,vo,vs,e9,⟨pa,ca,e10,ha⟩,⟨po,co,e11,ho⟩,⟨ps,cst,e12,hs⟩⟩:=hTr;subst e9;subst e10;subst e11;subst e12;replace hB:=yay hB;replace hC:=yay hC;replace ha:=yay ha;replace ho:=yay ho;replace hs:=yay hs)
 refine fun w5 h1=>?_;obtain ⟨N,hNN⟩:∃ N,w4.heap.size=N:=⟨_,rfl⟩;have hN5:w5.heap[N]?=some (.cells #[.slice pa T.ans.length ca,.slice po T.ord.length co,.slice ps T.st.length cst,.bool T.stuck] 31 (0,0)):=by rw [h1.heap,← hNN];exact heap_alloc_new _ _
 have k45:LeftW w4 w5:=(LeftW.refl.alloc _).sim h1;have L5:LeftW w w5:=(La.out.trans (zev hB.out)).trans k45;have hT4:TrIn w4 (.agg #[.slice pa T.ans.length ca,.slice po T.ord.length co,.slice ps T.st.length cst,.bool T.stuck]) T:=⟨_,_,_,rfl,⟨pa,ca,rfl,ha.out⟩,⟨po,co,rfl,ho.out⟩,⟨ps,cst,rfl,hs.out⟩⟩;have hcap:T.st.length≤cst∧cst≤maxLen:=by
  obtain ⟨a1,a2,a3,a4,a5,a6,eC,c1,c2⟩:=hC.out;simp only [Value.agg.injEq,Array.mk.injEq,List.cons.injEq,Value.slice.injEq] at eC;obtain ⟨_,_,⟨_,rfl,rfl⟩,_⟩:=eC;exact ⟨c1,c2⟩
 obtain ⟨va',vo',vs',eV,hA5,hO5,hS5⟩:=hT4.keep k45.same;simp only [Value.agg.injEq,Array.mk.injEq,List.cons.injEq] at eV;obtain ⟨rfl,rfl,rfl,-⟩:=eV;clear hO5 hC;have hops5:=yay (hops.out.keep L5.same);rw [hNN];clear h1 hNN k45 hT4 ha ho hs hB La HR hp hops I;obtain rfl:=hR0.out;clear hR0;obtain ⟨stk,hstk⟩:∃ b,T.stuck=b:=⟨_,rfl⟩;obtain ⟨ol,hol⟩:∃ b,T.ord.length=b:=⟨_,rfl⟩;obtain ⟨al,hal⟩:∃ b,T.ans.length=b:=⟨_,rfl⟩;obtain ⟨sl,hsl⟩:∃ b,T.st.length=b:=⟨_,rfl⟩;rw [hstk,hol,hal,hsl];rw [hstk,hol,hal,hsl] at hN5;rw [hsl] at hcap hS5;rw [hal] at hA5;generalize wp.heap.size=wps;clear wp;refine zae rm_xc fun R0 hR0=>?_;refine zby prgMN (zab zah (by kernel_rfl)) rfl (zaa Try.func4) rfl fun wp hp=>?_;have hw:=zkb wp;obtain ⟨gz,hgz⟩:∃ g,wp.heap.size=g:=⟨_,rfl⟩;have hN5':=yay hN5;have L5':=yay L5;rw [hgz] at hw;unfold gpv at hw;replace hp:=yay hp;replace hgz:=yay hgz;clear hN5 L5
 go_wp2_with (first
  | (go_at_call 20;refine hw.mono ?_;rintro e w6 ⟨rfl,hG⟩;have hw2:=zkb w6;have hs6:=hG.2.1;rw [hs6] at hw2;unfold gpv at hw2;replace hG:=yay hG;replace hw2:=yay hw2;clear hw hs6)
  | (go_at_call 20;refine hw2.out.mono ?_;rintro e w7 ⟨rfl,hG2⟩;replace hG2:=yay hG2))
 refine fun w8 h1=>?_;have z6:=hG.out.2.1;have z7:=hG2.out.2.1;have L3:LeftW w7 w8:=(LeftW.refl.alloc _).sim h1;have cnt:w8.heap[gz+1+1]?=some (z02 0):=by rw [h1.heap,← z7];exact heap_alloc_new _ _
 obtain ⟨G1,L1⟩:=hG.out.gate hgz.out;obtain ⟨G2,L2⟩:=hG2.out.gate z6;have Lp:LeftW w5 wp:=LeftW.of_sim hp.out.heap hp.out.outs;have L67:=L2.trans L3;have L58:=(Lp.trans L1).trans L67;have hlo:w5.heap.size≤gz:=by rw [← hgz.out,hp.out.heap];exact yax _
 rw [z7];have J:CS w5 gz (gz+1) (gz+1+1) 0 sG0 sG0 (fun b=>if b=gz then .sh else .out) (fun b=>if b=gz+1 then .sh else .out) w8:=⟨⟨G1.keep L67.size fun b hb _=>L67.same b hb,G2.keep L3.size fun b hb _=>L3.same b hb,fun b=>by
  by_cases e:b=gz
  ·right;exact if_neg (by omega)
  ·left;exact if_neg e,L58,fun b hb=>if_neg (by omega),fun b hb=>if_neg (by omega)⟩,if_neg (by omega),if_neg (by omega),by omega,cnt⟩
 have hN5:=hN5'.out;have L5:=L5'.out;clear h1 z6 z7 L3 cnt G1 L1 G2 L2 Lp L67 L58 hG hG2 hgz hp hw2 hN5' L5' wp w6 w7 hlo;generalize (fun b=>if b=gz then Owner.sh else .out)=oz at J;generalize (fun b=>if b=gz+1 then Owner.sh else .out)=ow at J;generalize gz+1+1=sb at *;generalize gz+1=gw at *;obtain rfl:=hR0.out;clear hR0;refine zae rm_xc fun R0 hR0=>?_;refine zae rm_xc fun R1 hR1=>?_;refine zby zlz (zab zah (by kernel_rfl)) rfl (zaa Try.func4) rfl fun wp hp=>?_;have hNw:wp.heap[N]?=some (.cells #[.slice pa al ca,.slice po ol co,.slice ps sl cst,.bool stk] 31 (0,0)):=by
  rw [hp.heap,J.ns.l.same N (yah.1 hN5).1];exact hN5
 have q3:=zac hNw 3;simp only [yac,yaa,yab] at q3;have hN5':=yay hN5;have L5':=yay L5;clear hNw hN5 L5;replace hp:=yay hp;have hstk':=yay hstk;clear hstk;cases stk with
 | true =>
  go_wp2_with fail
  refine fun w9 h1=>?_;replace J:=J.sim (h1.heap.trans hp.out.heap) ⟨h1.outs.1.trans hp.out.outs.1,h1.outs.2.trans hp.out.outs.2⟩;clear h1 hp q3 wp;obtain rfl:=hR1.out;clear hR1;refine zam rm_xc (t:=true) rfl ?_;refine zae rm_xc fun R1 hR1=>?_;refine zby zlz (zab zah (by kernel_rfl)) rfl (zaa Try.func4) rfl fun wp hp=>?_;have q3:wp.cell? ⟨N,3,none⟩=some (.bool true):=by
   have hNw:wp.heap[N]?=some (.cells #[.slice pa al ca,.slice po ol co,.slice ps sl cst,.bool true] 31 (0,0)):=by
    rw [hp.heap,J.ns.l.same N (yah.1 hN5'.out).1];exact hN5'.out
   rw [zac hNw 3];rfl
  replace hp:=yay hp
  go_wp2_with fail
  refine fun w10 h1=>?_;replace J:=J.sim (h1.heap.trans hp.out.heap) ⟨h1.outs.1.trans hp.out.outs.1,h1.outs.2.trans hp.out.outs.2⟩;clear h1 hp q3 wp;obtain rfl:=hR1.out;clear hR1;refine zc0 rm_xc ?_;exact h.out _ _ (L5'.out.trans J.ns.l) rfl ⟨rfl,rfl,rfl,_,Try.func4,(results_tmp (fn:=Try.f4) (t:=2) rfl _ _ _).trans rfl⟩
 | false =>
  go_wp2_with fail
  refine fun w9 h1=>?_;replace J:=J.sim (h1.heap.trans hp.out.heap) ⟨h1.outs.1.trans hp.out.outs.1,h1.outs.2.trans hp.out.outs.2⟩;clear h1 hp q3 wp;obtain rfl:=hR1.out;clear hR1;refine zam rm_xc (t:=false) rfl ?_;refine zbm rm_xc ?_;obtain rfl:=hR0.out;clear hR0;have hK:zdx sG0 (L.take 65536)≤1048576:=by
   rcases Nat.lt_or_ge 1048576 (zdx sG0 (L.take 65536)) with z|z
   ·have:=zyn hok.out z;rw [hT9.out,hstk'.out] at this;cases this
   ·exact z
  have hT:=trG_one hok.out hK;rw [hT9.out] at hT;subst hT;clear hT9 hstk';obtain ⟨L',hL'⟩:∃ L',L'=L.take 65536:=⟨_,rfl⟩;rw [← hL'] at hK hol hal hsl hA5 hS5;have hol':zdx sG0 L'=ol:=by rw [← hol];simp
  have hal':(1:Nat)=al:=by rw [← hal];rfl
  have hok':∀ o∈L',o.Ok:=fun o ho=>hok.out o (by rw [hL'] at ho;exact List.mem_of_mem_take ho);have hgk:GOk (zjc sG0 L'):=gOk0.run L' hok';have hsl':(zjc sG0 L').mem.length+65=sl:=by rw [← hsl];exact (ztj _).symm
  subst hal';obtain ⟨pa',ca',eA,qA⟩:=hA5;simp only [Value.slice.injEq] at eA;obtain ⟨rfl,-,rfl⟩:=eA;obtain ⟨ba,oa,rfl,qA1⟩:=qA (by simp);obtain ⟨ua,hua,hAns⟩:=qA1 0 _ rfl;have hS6:=hS5;obtain ⟨ps',cs',eS,qS⟩:=hS6;simp only [Value.slice.injEq] at eS;obtain ⟨rfl,-,rfl⟩:=eS;obtain ⟨bs,os,rfl,-⟩:=qS (by simp [zd9]);obtain ⟨i1,i2⟩:=zzs (l:=(zjc sG0 L').mem) (l':=zdq (zjc sG0 L').num 64) hS5;have n0:=zac hN5'.out 0;simp only [yac,yaa] at n0;clear qA qA1 qS hol hal hsl;obtain ⟨m,hm⟩:∃ m,(zjc sG0 L').mem.length=m:=⟨_,rfl⟩;have hm64:m≤64:=by rw [← hm];exact zbj hgk.mem
  rw [hm] at i1 i2 hsl';replace hcap:=yay hcap;replace i1:=yay i1;replace i2:=yay i2;replace hm:=yay hm;replace hsl':=yay hsl';replace hol':=yay hol';replace hua:=yay hua;replace hAns:=yay hAns;replace n0:=yay n0;replace hK:=yay hK;replace hS5:=yay hS5;replace hL':=yay hL';replace hm64:=yay hm64;clear hgk hok';refine zae rm_xc fun R0 hR0=>?_;refine zae rm_xc fun R1 hR1=>?_;refine zby zlz (zab zah (by kernel_rfl)) rfl (zaa Try.func4) rfl fun wp hp=>?_;replace hp:=yay hp;unfold gpv at *
  go_wp2_with fail
  refine fun w10 h1=>?_;replace J:=J.sim (h1.heap.trans hp.out.heap) ⟨h1.outs.1.trans hp.out.outs.1,h1.outs.2.trans hp.out.outs.2⟩;clear h1 hp wp;obtain rfl:=hR1.out;clear hR1;refine zb0 rm_xc ?_;refine zf6 rm_xc ?_;rw [zuw _ rfl];have hL9:=hL.out;refine zun (L:=L) (L':=L') (cap:=cap) (ao:=ao) (by rw [hn.out];rw [← hn.out] at *;exact hops5.out) (by omega) hL'.out hK.out n0.out hua.out hAns.out (fun x oz ow w11 hx J=>?_) L'.length 0 (by omega) _ oz ow w10 (by rw [hn.out];exact ⟨rfl,rfl,rfl,rfl,rfl,rfl⟩) J;obtain rfl:=hR0.out;clear hR0;rw [hol'.out] at J;unfold A4;simp only [hx.x0,hx.x3,hx.x4,hx.x5,hx.x6,hx.x7];refine zae rm_xc fun R0 hR0=>?_;refine zby zlz (zab zah (by kernel_rfl)) rfl (zaa Try.func4) rfl fun wp hp=>?_;have q2:wp.cell? ⟨N,2,none⟩=some (.slice (some ⟨bs,os,none⟩) sl cst):=by
   have hNw:=(congrArg (·[N]?) hp.heap).trans ((J.ns.l.same N (yah.1 hN5'.out).1).trans hN5'.out);rw [zac hNw 2];rfl
  have q4:wp.cell? ⟨bs,os,none⟩=some (.int .i64 m):=by
   obtain ⟨a,c,e,q⟩:=hS5.out;obtain ⟨b,o,e1,q1⟩:=q (by simp [zd9]);simp only [Value.slice.injEq] at e;obtain ⟨rfl,_,_⟩:=e;simp only [Option.some.injEq,Addr.mk.injEq] at e1;obtain ⟨rfl,rfl,_⟩:=e1;have:=q1 0 _ rfl;rw [hm.out] at this;exact zax (w:=w5) (fun b hb=>(congrArg (·[b]?) hp.heap).trans (J.ns.l.same b hb)) this
  have hs0:(0:Int) < (sl:Int):=by have:=hsl'.out;omega
  replace hp:=yay hp;unfold gpv
  go_wp2_with fail
  refine fun w12 h1=>?_;replace J:=J.sim (h1.heap.trans hp.out.heap) ⟨h1.outs.1.trans hp.out.outs.1,h1.outs.2.trans hp.out.outs.2⟩;clear h1 hp q2 q4 wp;obtain rfl:=hR0.out;clear hR0;rw [zuw _ rfl];refine zae rm_xc fun R0 hR0=>?_;have hcm:=hcap.out;have hslm:=hsl'.out;have hm64':=hm64.out;have e64:(zdq (zjc sG0 L').num 64).length=sl - (m+1):=by simp [zdq];omega
  have i2':=i2.out;rw [e64] at i2';refine end14 (s:=zjc sG0 L') (m:=m) (sl:=sl) (cst:=cst) rfl rfl rfl rfl rfl hm.out (by omega) hcm.1 (by have:=hcm.2;unfold maxLen at this;omega) (by have:=hol'.out;have:=hK.out;omega) hN5'.out i1.out i2' J fun x w13 x2 l13=>?_;obtain rfl:=hR0.out;clear hR0;refine zc0 rm_xc ?_;exact h.out _ _ (L5'.out.trans l13) rfl ⟨rfl,rfl,rfl,_,Try.func4,(results_tmp (fn:=Try.f4) (t:=2) rfl _ _ _).trans (by show Result.ok (x 2) _=_;rw [x2])⟩
end
end Go.Proofs.Ytofacoojpgkbiaa
