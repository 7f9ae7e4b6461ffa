/-
  Merged out of: Mac16 Mac19. No condition of its own.
-/
import Derived.Test.YtofacoojpgkbiaaPlaysP40
import Derived.Deep.CutBlock
set_option linter.unusedVariables false
set_option maxHeartbeats 8000000
set_option linter.unusedSimpArgs false
/-
 The document's machine of the gate: Run (f82),walked. No condition of its own.
-/
namespace Go.Proofs.Ytofacoojpgkbiaa
open Go.Conc Go.RowKit
open Go.ConcN (upd upd_ne upd_same)
set_option maxRecDepth 100000
def opsL (LL:List (List OpD)) (i:Nat):List OpD:=(LL.getD i []).take 65536
theorem opsL_len (LL:List (List OpD)) (i:Nat):(opsL LL i).length≤65536:=by unfold opsL;rw [List.length_take];omega
def runR (S0:GMc) (LL:List (List OpD)) (n mo:Nat) (l:List Int):GRun:=zc9 n mo ⟨zbg S0 (opsL LL) n,[]⟩ l
def outR (S0:GMc) (LL:List (List OpD)) (sch:List Int) (n mo:Nat):GRun:=zdq n mo mo (runR S0 LL n mo sch)
theorem roundsR_stop {n mo k:Nat} {r:GRun} (h:¬ (zen r.S n=true∧r.ord.length < mo)):zdq n mo k r=r:=by
 cases k with
 | zero=>rfl
 | succ k=>unfold zdq;rw [if_neg h]
theorem roundsR_go {n mo k:Nat} {r:GRun} (h:zen r.S n=true∧r.ord.length < mo):zdq n mo (k+1) r=zdq n mo k (zc9 n mo r (allI n)):=by
 show (if _ then _ else _)=_
 rw [if_pos h]
theorem allI_get {n j:Nat} (h:j < n):(allI n)[j]?=some (j:Int):=by
 unfold allI
 rw [List.getElem?_map,List.getElem?_range' h]
 simp
theorem allI_len (n:Nat):(allI n).length=n:=by simp [allI]
theorem leftB_moves {n mo:Nat} {r:GRun} (h:zen r.S n=true) (hm:r.ord.length < mo):r.ord.length < (zc9 n mo r (allI n)).ord.length:=by
 obtain ⟨i,hi,q⟩:=List.any_eq_true.1 h
 have hi':=List.mem_range.1 hi
 exact foldR_moves (allI n) hi' (List.mem_iff_getElem?.2 ⟨i,allI_get hi'⟩) (of_decide_eq_true q) hm
def OutAt (w0:World) (mb nb n R0 mo:Nat) (g:GRun) (k:Nat) (v:Value) (w:World):Prop :=
 ∃ r,RunAt w0 mb nb n R0 r.S r.ord v w∧RInv n mo r∧zdq n mo k r=g∧mo≤r.ord.length+k
def runT (S0:GMc) (LL:List (List OpD)) (sch:List Int) (n mo:Nat):Tr:=⟨(List.range n).map fun i=>((outR S0 LL sch n mo).S.T i).ans,(outR S0 LL sch n mo).ord,zcz (outR S0 LL sch n mo).S,zen (outR S0 LL sch n mo).S n⟩
def RunD (w0:World) (mb:Nat) (T:Tr) (e:Ending) (w':World):Prop:=∃ v,e = .returned v∧(∀ w'',(∀ (b:Nat) (c:Array Value) (t:TypeId),w'.heap[b]?=some (Obj.cells c t (0,0))→t≠31→w''.heap[b]?=some (Obj.cells c t (0,0)))→TrIn w'' v T)∧Below mb w0 w'
structure RunIn (w0:World) (mb nb:Nat) (S0:GMc) (vt vs:Value) (LL:List (List OpD)) (sch:List Int) (w:World):Prop where
 rb:RB w0 mb nb 0 S0 w
 thr:ThrIn w0 vt LL
 sch:IntsIn w0 vs sch
 mem:zc6 S0.L
 ser:S0.ser=0
theorem opsAt_take {w0:World} {ao:Option Addr} {ln cp:Nat} {L:List OpD} (h:OpsIn w0 ao ln cp L):OpsAt w0 (.slice ao (L.take 65536).length cp) (L.take 65536):=by
 obtain ⟨h0,h1,h2,h3⟩:=h
 refine ⟨ao,cp,rfl,fun o ho=>h0 o (List.mem_of_mem_take ho),rfl,by rw [List.length_take];omega,fun hne => ?_⟩
 obtain ⟨b,o,e,q⟩:=h3 (fun z=>hne (by rw [z];rfl))
 exact ⟨b,o,e,fun j p hj=>q j p (by
  have hlt:=(List.getElem?_eq_some_iff.1 hj).1
  rw [List.length_take] at hlt
  rwa [List.getElem?_take_of_lt (by omega)] at hj)⟩
theorem run_walk {w0 w:World} {mb nb:Nat} {S0:GMc} {vt vs:Value} {LL:List (List OpD)} {sch:List Int} {most:Int} (h:RunIn w0 mb nb S0 vt vs LL sch w) (hLL:LL.length≤4611686018427387904) (hsch:sch.length≤4611686018427387904) :
  Calls Try.prog 82 #[.pointer (some ⟨mb,0,none⟩),vt,vs,.int .i64 most] w (RunD w0 mb (runT S0 LL sch (min LL.length 64) (min (max most 0) 1048576).toNat)):=by
 obtain ⟨i235,hi235,z1,z2,z3⟩:=info_parts info235r
 obtain ⟨ta,tcap,rfl,ob,ln,cp,hta,hopsI⟩:=h.thr
 obtain ⟨n,hn⟩:∃ n,min LL.length 64=n:=⟨_,rfl⟩
 obtain ⟨mo,hmo⟩:∃ m:Nat,((m:Nat):Int)=min (max most 0) 1048576:=⟨(min (max most 0) 1048576).toNat,by omega⟩
 have hpost:(min (max most 0) 1048576).toNat=mo:=by omega
 rw [hpost,hn]
 clear hpost
 obtain ⟨hbs,hlow⟩:w0.heap.size=mb∧Below mb w0 w:=by
  obtain ⟨K,V,vT,e1,e2,e3,e4,e5,hM⟩:=h.rb
  have h1:=hM.bs
  have h2:=hM.low
  rw [e1,e2] at h1 h2
  exact ⟨h1,h2⟩
 have hRB:=h.rb
 replace hta:=Lib.hid hta
 replace hopsI:=Lib.hid hopsI
 replace h:=Lib.hid h
 obtain ⟨R0,hR0⟩:∃ r,w.heap.size=r:=⟨_,rfl⟩
 have EN:=heap_alloc_new w (.cells #[.slice none 0 0,.slice none 0 0,.slice none 0 0,.bool false] 31)
 have hRB1:RB w0 mb nb 0 S0 (w.alloc (.cells #[.slice none 0 0,.slice none 0 0,.slice none 0 0,.bool false] 31)):=by
  obtain ⟨K,V,vT,e1,e2,e3,e4,e5,hM⟩:=hRB
  exact ⟨K,V,vT,e1,e2,e3,e4,e5,(hM.alloc _).1⟩
 have hlow1:Below mb w0 (w.alloc (.cells #[.slice none 0 0,.slice none 0 0,.slice none 0 0,.bool false] 31)):=hlow.alloc (by have:=hlow.size;omega) _
 rw [hR0] at EN
 replace hR0:=Lib.hid hR0
 replace hbs:=Lib.hid hbs
 replace hRB:=Lib.hid hRB
 have hlow0:=Lib.hid hlow
 replace hlow:=Lib.hid hlow
 go_enter Try.func82,Try.ntmps82
 go_upto_region 1 with fail
 rw [hR0.out]
 generalize w.alloc (.cells #[.slice none 0 0,.slice none 0 0,.slice none 0 0,.bool false] 31)=w1 at *
 replace EN:=Lib.hid EN
 replace hRB1:=Lib.hid hRB1
 replace hlow1:=Lib.hid hlow1
 replace hn:=Lib.hid hn
 replace hmo:=Lib.hid hmo
 go_upto_if 21 with fail
 go_cut [9] (fun v wx=>v = .int .i64 (n:Int)∧wx=w1)
 case first =>
  by_cases q:LL.length≤64
  ·
   have d1:decide (64 < (LL.length:Int))=false:=decide_eq_false (by omega)
   have hz:=Lib.hid (show (LL.length:Int)=(n:Int) by have:=hn.out;omega)
   go_wp2_with fail
   go_meet
   exact ⟨by rw [hz.out],rfl⟩
  ·
   have d1:decide (64 < (LL.length:Int))=true:=decide_eq_true (by omega)
   have hz:=Lib.hid (show (64:Int)=(n:Int) by have:=hn.out;omega)
   go_wp2_with fail
   go_meet
   exact ⟨by rw [hz.out],rfl⟩
 case rest =>
  obtain ⟨rfl,ew⟩:=hcut
  obtain rfl:=ew.symm
  go_upto_if 23 with fail
  go_cut [3] (fun v wx=>v = .int .i64 (max most 0)∧wx=w1)
  case first =>
   by_cases q:most < 0
   ·
    have d1:decide (most < 0)=true:=decide_eq_true q
    have hz:=Lib.hid (show (0:Int)=max most 0 by omega)
    go_wp2_with fail
    go_meet
    exact ⟨by rw [← hz.out],rfl⟩
   ·
    have d1:decide (most < 0)=false:=decide_eq_false q
    have hz:=Lib.hid (show most=max most 0 by omega)
    go_wp2_with fail
    go_meet
    exact ⟨by rw [← hz.out],rfl⟩
  case rest =>
   obtain ⟨rfl,ew⟩:=hcut
   obtain rfl:=ew.symm
   go_upto_if 25 with fail
   obtain ⟨mx,hmx⟩:∃ m,max most 0=m:=⟨_,rfl⟩
   rw [hmx]
   replace hmx:=Lib.hid hmx
   go_cut [3] (fun v wx=>v = .int .i64 (mo:Int)∧wx=w1)
   case first =>
    by_cases q:1048576 < mx
    ·
     have d1:decide (1048576 < mx)=true:=decide_eq_true q
     have hz:=Lib.hid (show (1048576:Int)=(mo:Int) by have:=hmo.out;have:=hmx.out;omega)
     go_wp2_with fail
     go_meet
     exact ⟨by rw [← hz.out],rfl⟩
    ·
     have d1:decide (1048576 < mx)=false:=decide_eq_false q
     have hz:=Lib.hid (show mx=(mo:Int) by have:=hmo.out;have:=hmx.out;omega)
     go_wp2_with fail
     go_meet
     exact ⟨by rw [← hz.out],rfl⟩
   case rest =>
    obtain ⟨rfl,ew⟩:=hcut
    obtain rfl:=ew.symm
    clear hmx
    go_upto_block 0 with fail
    go_cut [10] (fun v wx=>RB w0 mb nb n (zbg S0 (opsL LL) n) wx∧wx.heap[R0]?=some (.cells #[.slice none 0 0,.slice none 0 0,.slice none 0 0,.bool false] 31 (0,0)))
    case first =>
     go_wp2_with fail
     go_loopw [10] (fun iv wr=>∃ j:Nat,j≤n∧iv = .int .i64 j∧Hid (RB w0 mb nb j (zbg S0 (opsL LL) j) wr∧wr.heap[R0]?=some (.cells #[.slice none 0 0,.slice none 0 0,.slice none 0 0,.bool false] 31 (0,0)))) (fun iv _=>n - (intOf iv).toNat)
     case atStart=>exact ⟨0,by omega,rfl,Lib.hid ⟨hRB1.out,EN.out⟩⟩
     case round =>
      obtain ⟨j,hj,rfl,HR⟩:=hrel
      have hn9:n≤64:=by have:=hn.out;omega
      by_cases hlt:j < n
      ·
       have hlt':(j:Int) < (n:Int):=by omega
       have hjL:j < LL.length:=by have:=hn.out;omega
       have hjL':(j:Int) < (LL.length:Int):=by omega
       have e1:IntKind.i64.wrap ((j:Int)+1)=((j+1:Nat):Int):=by rw [IntKind.wrap_i64];omega
       have hx:LL[j]?=some (LL.getD j []):=by rw [List.getD_eq_getElem?_getD,List.getElem?_eq_getElem hjL];rfl
       obtain ⟨tbb,tof,rfl,hcells⟩:=hta.out (by intro z;rw [z] at hjL;simp at hjL)
       have hc:=hcells j _ hx
       have hI:=hopsI.out j _ hx
       have hln:ln j=(LL.getD j []).length:=hI.2.1
       have hcp:ln j≤cp j:=hI.2.2.1
       have hvo:=opsAt_take hI
       obtain ⟨hb0,hl0⟩:=HR.out.1.low
       have c1:wr.cell? ⟨tbb,tof+j,none⟩=some (.slice (ob j) (ln j) (cp j)):=(World.cell?_of_block (w:=w0) (hl0.block _ (by rw [← hb0];exact World.block_lt_of_cell? w0 _ hc))).trans hc
       clear hcells hc hx hI hb0
       generalize ob j=obj at *
       generalize cp j=cpj at *
       generalize ln j=lnj at *
       obtain ⟨l6,hl6⟩:∃ l,((LL.getD j []).take 65536).length=l:=⟨_,rfl⟩
       have hl6':l6=min lnj 65536:=by rw [← hl6,List.length_take,hln];omega
       rw [hl6] at hvo
       obtain ⟨K,V,vT,g1,g2,g3,g4,g5,hM⟩:=HR.out.1
       obtain ⟨xs,hrow,hxs⟩:=hM.row
       have HT:=thread_more hM (by omega) (by rw [g2,g3]) (vo := .slice obj l6 cpj) (L:=opsL LL j) (by rw [g1];exact hvo) (by unfold opsL;rw [List.length_take];omega) hrow hxs
       rw [g1,g2,g3,g4,g5] at HT
       replace HT:=Lib.hid HT
       have HROW:Hid ((wr.alloc (.cells (tcV (.slice obj l6 cpj) (.slice none 0 0) (.slice none 0 0) j (zck (opsL LL j))).toArray 235)).ownsRow mb 235 9 vT j xs):=Lib.hid (by rw [← g2,← g5];exact hrow.alloc _)
       have HSRC:=Lib.hid (src_thr wr (vs:=tcV (.slice obj l6 cpj) (.slice none 0 0) (.slice none 0 0) j (zck (opsL LL j))) rfl tcV_one)
       have hsz:Hid (mb≤wr.heap.size):=Lib.hid (by have:=hM.size;rw [g2] at this;exact this)
       obtain ⟨tp,tc,e0⟩:=zbd hrow
       rw [g5] at e0
       subst e0
       have m:=hM.mach
       rw [g3] at m
       have m3:=zac m 3
       simp only [List.getElem?_toArray,List.getElem?_cons_zero,List.getElem?_cons_succ] at m3
       replace m:=Lib.hid m
       replace hM:=Lib.hid hM
       replace hrow:=Lib.hid hrow
       replace hxs:=Lib.hid hxs
       replace hvo:=Lib.hid hvo
       replace hl0:=Lib.hid hl0
       replace g1:=Lib.hid g1
       replace g2:=Lib.hid g2
       replace g3:=Lib.hid g3
       replace g4:=Lib.hid g4
       replace g5:=Lib.hid g5
       replace hl6:=Lib.hid hl6
       replace hln:=Lib.hid hln
       go_upto_if 37 with fail
       generalize hwo:wr=wo at *
       clear hwo
       go_cut [11] (fun v wx=>v = .slice obj l6 cpj∧wx=wo)
       case first =>
        by_cases q:65536 < lnj
        ·
         have d1:decide (65536 < (lnj:Int))=true:=decide_eq_true (by omega)
         have q65:(65536:Int)≤(cpj:Int):=by omega
         have hz:=Lib.hid (show l6=65536 by omega)
         replace hl6':=Lib.hid hl6'
         go_wp2_with fail
         go_meet
         exact ⟨by rw [hz.out],rfl⟩
        ·
         have d1:decide (65536 < (lnj:Int))=false:=decide_eq_false (by omega)
         have hz:=Lib.hid (show l6=lnj by omega)
         replace hl6':=Lib.hid hl6'
         go_wp2_with fail
         go_meet
         exact ⟨by rw [hz.out],rfl⟩
       case rest =>
        obtain ⟨rfl,ew⟩:=hcut
        obtain rfl:=ew.symm
        replace hl6':=Lib.hid hl6'
        clear c1
        clear hlt'
        have hj64:Hid (j < 64):=Lib.hid (by omega)
        go_wp2_with (first
         | (at_builtin;(refine wpList_append_rowZ rfl (.tmp 44) (.tmp 48) 231 rfl mb 235 i235 _ _ Try.underlying231 hi235 z1 z2 z3 rfl (.slice tp j tc) j _ rfl HROW.out 1 _ HSRC.out ?l2 ?b2 ?n2 ?_);(case l2=>(unfold maxLen;have:=hj64.out;omega));(case b2=>(have:=hj64.out;omega));(case n2=>(have:=hsz.out;simp;omega));intro v' w2 ha;obtain ⟨q1,q2,rfl,y1,y2⟩:=HT.out v' w2 ha;(have y3:=zac (y1.trans m.out) 3);simp only [List.getElem?_toArray,List.getElem?_cons_zero,List.getElem?_cons_succ] at y3;(have y4:=zau (y1.trans m.out) 3);(have HSET:=Lib.hid y2);clear y1 y2 ha)
         | (go_at_call 138;refine HSET.out.mono ?_;rintro e w' ⟨rfl,hd1,hd2⟩;(have HD:=Lib.hid (show RB w0 mb nb (j+1) (zbg S0 (opsL LL) (j+1)) w'∧w'.heap[R0]?=some (.cells #[.slice none 0 0,.slice none 0 0,.slice none 0 0,.bool false] 31 (0,0)) from ⟨hd1,HR.out.1.kept hd2 HR.out.2 (by decide)⟩));clear hd1 hd2))
        exact ⟨⟨j+1,by have:=hlt;omega,by rw [Int.natCast_add];rfl,HD⟩,by simp [intOf];omega⟩
      ·
       obtain rfl:j=n:=by omega
       have hlt':¬ (j:Int) < (j:Int):=by omega
       go_wp2_with fail
       go_meet
       exact HR.out
    case rest =>
     obtain ⟨hRB2,EN2⟩:=hcut
     clear EN hRB1 hlow1 hta hopsI hlow
     have hI0:RInv n mo ⟨zbg S0 (opsL LL) n,[]⟩:=by
      obtain ⟨a,b,c,d⟩:=start_inv (L:=opsL LL) h.out.mem (by rw [h.out.ser];decide) (opsL_len LL) n
      exact ⟨a,by rw [b,h.out.ser];exact Int.le_refl _,Nat.zero_le _⟩
     have hI:Hid (∀ l,RInv n mo (runR S0 LL n mo l)):=Lib.hid fun l=>hI0.fold l
     clear hI0
     have hA0:Hid (RunAt w0 mb nb n R0 (zbg S0 (opsL LL) n) [] (.slice none 0 0) wc):=Lib.hid ⟨hRB2,World.ownsRow_nil _ _ _ _,EN2⟩
     clear hRB2 EN2
     obtain ⟨hs64,sa,scap,rfl,_,hsc⟩:=h.out.sch
     replace hs64:=Lib.hid hs64
     replace hsc:=Lib.hid hsc
     obtain ⟨i3,hi3,y1,y2,y3⟩:=info_parts info3r
     go_upto_block 2 with fail
     go_cut [12] (fun v wx=>RunAt w0 mb nb n R0 (runR S0 LL n mo sch).S (runR S0 LL n mo sch).ord v wx)
     case first =>
      go_wp2_with fail
      go_loopw [12,13] (fun ov kv wr=>∃ k:Nat,k≤sch.length∧kv = .int .i64 k∧Hid (RunAt w0 mb nb n R0 (runR S0 LL n mo (sch.take k)).S (runR S0 LL n mo (sch.take k)).ord ov wr)) (fun _ kv _=>sch.length - (intOf kv).toNat)
      case atStart=>exact ⟨0,by omega,rfl,hA0⟩
      case round =>
       obtain ⟨k,hk,rfl,HA⟩:=hrel
       obtain ⟨r,hr⟩:∃ r,runR S0 LL n mo (sch.take k)=r:=⟨_,rfl⟩
       rw [hr] at HA
       have hIr:=hI.out (sch.take k)
       rw [hr] at hIr
       obtain ⟨op,oc,rfl⟩:=zbd HA.out.row
       have hol:=hIr.ord
       have hmo9:mo≤1048576:=by have:=hmo.out;omega
       by_cases hlt:k < sch.length
       ·
        have hlt':(k:Int) < (sch.length:Int):=by omega
        have d1:decide ((k:Int) < (sch.length:Int))=true:=decide_eq_true hlt'
        by_cases hf:r.ord.length < mo
        ·
         have hf':(r.ord.length:Int) < (mo:Int):=by omega
         have d2:decide ((r.ord.length:Int) < (mo:Int))=true:=decide_eq_true hf'
         have e1:IntKind.i64.wrap ((k:Int)+1)=((k+1:Nat):Int):=by rw [IntKind.wrap_i64];omega
         obtain ⟨x,hx⟩:∃ x,sch[k]?=some x:=⟨_,List.getElem?_eq_getElem hlt⟩
         obtain ⟨sb,so,rfl,hcs⟩:=hsc.out (by intro z;rw [z] at hlt;simp at hlt)
         obtain ⟨hb0,hl0⟩:=HA.out.rb.low
         have c1:wr.cell? ⟨sb,so+k,none⟩=some (.int .i64 x):=(World.cell?_of_block (w:=w0) (hl0.block _ (by rw [← hb0];exact World.block_lt_of_cell? w0 _ (hcs k x hx)))).trans (hcs k x hx)
         have hN:Hid (runR S0 LL n mo (sch.take (k+1))=zcv n mo r x):=Lib.hid (by
          rw [List.take_add_one,hx,← hr]
          exact foldR_snoc _ _)
         clear hb0 hl0 hcs
         replace hx:=Lib.hid hx
         replace hr:=Lib.hid hr
         replace hf:=Lib.hid hf
         replace hf':=Lib.hid hf'
         replace hlt:=Lib.hid hlt
         replace hlt':=Lib.hid hlt'
         replace hIr:=Lib.hid hIr
         replace hol:=Lib.hid hol
         replace hmo9:=Lib.hid hmo9
         have HB:Hid (zcv n mo r x=r→RunAt w0 mb nb n R0 (runR S0 LL n mo (sch.take (k+1))).S (runR S0 LL n mo (sch.take (k+1))).ord (.slice op r.ord.length oc) wr):=Lib.hid fun z=>by rw [hN.out,z];exact HA.out
         by_cases q0:0≤x
         ·
          have d3:decide (0≤x)=true:=decide_eq_true q0
          by_cases q1:x < (n:Int)
          ·
           have d4:decide (x < (n:Int))=true:=decide_eq_true q1
           obtain ⟨i,rfl⟩:∃ i:Nat,x=(i:Int):=⟨x.toNat,by omega⟩
           have hi:i < n:=by omega
           obtain ⟨tb,tc,va9,t1,t2,_,_⟩:=HA.out.rb.see hi
           by_cases q2:0 < (r.S.T i).pc
           ·
            have d5:decide (0 < (r.S.T i).pc)=true:=decide_eq_true q2
            have hst:zcv n mo r (i:Int)=turnR r i:=by
             unfold zcv
             rw [if_pos ⟨q0,q1,by simpa using q2,hf.out⟩]
             simp
            have HN2:Hid (∀ v w',RunAt w0 mb nb n R0 (za7 (zcw r.S i) i) (r.ord++[(i:Int)]) v w'→RunAt w0 mb nb n R0 (runR S0 LL n mo (sch.take (k+1))).S (runR S0 LL n mo (sch.take (k+1))).ord v w'):=Lib.hid fun v w' z=>by rw [hN.out,hst];exact z
            clear hst
            have HSx:=Lib.hid (src_new wr (i:Int) 3)
            have HO1:=Lib.hid (HA.out.row.alloc (.cells #[.int .i64 (i:Int)] 3))
            have hlow:Hid (mb≤(wr.alloc (.cells #[.int .i64 (i:Int)] 3)).heap.size):=Lib.hid (by obtain ⟨a,b⟩:=HA.out.rb.low;have:=b.size;simp;omega)
            have hser:Hid (r.S.ser≤4611686018427387904):=Lib.hid (by have:=hIr.out.ser;have:=hol.out;have:=hmo9.out;omega)
            replace q2:=Lib.hid q2
            replace hi:=Lib.hid hi
            go_wp2_with (first
             | (at_builtin;(refine zan rfl (.tmp 89) (.tmp 91) 24 rfl mb 3 i3 _ _ Try.underlying24 hi3 y1 y2 y3 rfl (.slice op r.ord.length oc) r.ord.length _ rfl HO1.out 1 _ HSx.out ?l2 ?b2 ?n2 ?_);(case l2=>(unfold maxLen;have:=hol.out;have:=hmo9.out;omega));(case b2=>(have:=hol.out;have:=hmo9.out;omega));(case n2=>exact hlow.out);intro v' w2 ha;(have HP:=Lib.hid (HA.out.push ha));clear ha)
             | (go_at_call 139;refine (HP.out.step hIr.out.inv hi.out q2.out hser.out).mono ?_;rintro e w' ⟨rfl,hd⟩;(have HP2:=Lib.hid hd);clear hd)
             | (go_at_call 138;refine (HP2.out.settle (step_inv hIr.out.inv hi.out ((hIr.out.inv.th i hi.out).pc.resolve_left (by have:=q2.out;omega))) hi.out).mono ?_;rintro e w' ⟨rfl,hd⟩;(have HP3:=Lib.hid hd);clear hd))
            exact ⟨⟨k+1,hlt.out,by rw [Int.natCast_add];rfl,Lib.hid (HN2.out _ _ HP3.out)⟩,by have:=hlt.out;simp [intOf];omega⟩
           ·
            have d5:decide (0 < (r.S.T i).pc)=false:=decide_eq_false q2
            have hst:zcv n mo r (i:Int)=r:=by unfold zcv;rw [if_neg (fun z=>q2 (by simpa using z.2.2.1))]
            have HB2:=Lib.hid (HB.out hst)
            clear hst
            replace q2:=Lib.hid q2
            go_wp2_with fail
            exact ⟨⟨k+1,hlt.out,by rw [Int.natCast_add];rfl,HB2⟩,by have:=hlt.out;simp [intOf];omega⟩
          ·
           have d4:decide (x < (n:Int))=false:=decide_eq_false q1
           have hst:zcv n mo r x=r:=by unfold zcv;rw [if_neg (by omega)]
           have HB2:=Lib.hid (HB.out hst)
           clear hst
           replace q1:=Lib.hid q1
           go_wp2_with fail
           exact ⟨⟨k+1,hlt.out,by rw [Int.natCast_add];rfl,HB2⟩,by have:=hlt.out;simp [intOf];omega⟩
         ·
          have d3:decide (0≤x)=false:=decide_eq_false q0
          have hst:zcv n mo r x=r:=by unfold zcv;rw [if_neg (by omega)]
          have HB2:=Lib.hid (HB.out hst)
          clear hst
          replace q0:=Lib.hid q0
          go_wp2_with fail
          exact ⟨⟨k+1,hlt.out,by rw [Int.natCast_add];rfl,HB2⟩,by have:=hlt.out;simp [intOf];omega⟩
        ·
         have d2:decide ((r.ord.length:Int) < (mo:Int))=false:=decide_eq_false (by omega)
         have HZ:Hid (RunAt w0 mb nb n R0 (runR S0 LL n mo sch).S (runR S0 LL n mo sch).ord (.slice op r.ord.length oc) wr):=Lib.hid (by
          have:runR S0 LL n mo sch=r:=by
           have e:sch=sch.take k++sch.drop k:=(List.take_append_drop _ _).symm
           rw [e]
           unfold runR at hr ⊢
           unfold zc9 at hr ⊢
           rw [List.foldl_append,hr]
           exact foldR_full (n:=n) _ (by omega)
          rw [this]
          exact HA.out)
         replace hf:=Lib.hid hf
         replace hr:=Lib.hid hr
         replace hIr:=Lib.hid hIr
         go_wp2_with fail
         go_meet
         exact HZ.out
       ·
        obtain rfl:k=sch.length:=by omega
        have d1:decide ((sch.length:Int) < (sch.length:Int))=false:=decide_eq_false (by omega)
        rw [List.take_length] at hr
        have HZ:Hid (RunAt w0 mb nb n R0 (runR S0 LL n mo sch).S (runR S0 LL n mo sch).ord (.slice op r.ord.length oc) wr):=Lib.hid (by
         rw [hr]
         exact HA.out)
        replace hr:=Lib.hid hr
        replace hIr:=Lib.hid hIr
        go_wp2_with fail
        go_meet
        exact HZ.out
     case rest =>
      have HR:=Lib.hid hcut
      have h9:Hid (OutAt w0 mb nb n R0 mo (outR S0 LL sch n mo) mo u12 wc):=Lib.hid ⟨_,hcut,hI.out sch,rfl,by omega⟩
      clear hcut hI hA0 hs64 hsc
      go_upto_block 4 with fail
      go_cut [12] (fun v wx=>RunAt w0 mb nb n R0 (outR S0 LL sch n mo).S (outR S0 LL sch n mo).ord v wx∧RInv n mo (outR S0 LL sch n mo))
      case first =>
       go_wp2_with fail
       go_loopg [12] mo (fun k v wr=>Hid (OutAt w0 mb nb n R0 mo (outR S0 LL sch n mo) k v wr))
       case atStart=>exact h9
       case round =>
        obtain ⟨r,HA,hIr,hro,hk⟩:=hrel.out
        replace HA:=Lib.hid HA
        obtain ⟨op,oc,e9⟩:=zbd HA.out.row
        subst e9
        have hol:=hIr.ord
        have hmo9:mo≤1048576:=by have:=hmo.out;omega
        have HL:=HA.out.rb.left
        by_cases hl:zen r.S n=true
        ·
         rw [hl] at HL
         replace HL:=Lib.hid HL
         by_cases hf:r.ord.length < mo
         ·
          have hf':(r.ord.length:Int) < (mo:Int):=by omega
          have d2:decide ((r.ord.length:Int) < (mo:Int))=true:=decide_eq_true hf'
          have d2n:decide (r.ord.length < mo)=true:=decide_eq_true hf
          obtain ⟨k',hk'⟩:∃ k',gk=k'+1:=⟨gk - 1,by omega⟩
          have hmv:=leftB_moves hl hf
          have HN:Hid (∀ v w',RunAt w0 mb nb n R0 (zc9 n mo r (allI n)).S (zc9 n mo r (allI n)).ord v w'→OutAt w0 mb nb n R0 mo (outR S0 LL sch n mo) k' v w'):=Lib.hid fun v w' z=>⟨_,z,hIr.fold _,by rw [← hro,hk',roundsR_go ⟨hl,hf⟩],by omega⟩
          have hkl:Hid (k' < gk):=Lib.hid (by omega)
          replace hf:=Lib.hid hf
          replace hf':=Lib.hid hf'
          replace hl:=Lib.hid hl
          replace hk:=Lib.hid hk
          replace hk':=Lib.hid hk'
          replace hmv:=Lib.hid hmv
          replace hro:=Lib.hid hro
          replace hIr:=Lib.hid hIr
          replace hol:=Lib.hid hol
          replace hmo9:=Lib.hid hmo9
          replace HR:=Lib.hid HR
          go_wp2_with (go_at_call 140;refine HL.out.mono ?_;rintro e w' ⟨rfl,rfl⟩)
          go_loopw [12,15] (fun ov jv wq=>∃ j:Nat,j≤n∧jv = .int .i64 j∧Hid (RunAt w0 mb nb n R0 (zc9 n mo r ((allI n).take j)).S (zc9 n mo r ((allI n).take j)).ord ov wq)) (fun _ jv _=>n - (intOf jv).toNat)
          case atStart=>exact ⟨0,by omega,rfl,HA⟩
          case round =>
           obtain ⟨j,hj,rfl,HQ⟩:=hrel
           obtain ⟨r2,hr2⟩:∃ r2,zc9 n mo r ((allI n).take j)=r2:=⟨_,rfl⟩
           rw [hr2] at HQ
           have hI2:=hIr.out.fold ((allI n).take j)
           rw [hr2] at hI2
           obtain ⟨op2,oc2,e9⟩:=zbd HQ.out.row
           subst e9
           have hol2:=hI2.ord
           by_cases hlt:j < n
           ·
            have hlt':(j:Int) < (n:Int):=by omega
            have d6:decide ((j:Int) < (n:Int))=true:=decide_eq_true hlt'
            by_cases hf2:r2.ord.length < mo
            ·
             have hf2':(r2.ord.length:Int) < (mo:Int):=by omega
             have d7:decide ((r2.ord.length:Int) < (mo:Int))=true:=decide_eq_true hf2'
             have hn9:n≤64:=by have:=hn.out;omega
             have e1:IntKind.i64.wrap ((j:Int)+1)=((j+1:Nat):Int):=by rw [IntKind.wrap_i64];omega
             obtain ⟨tb,tc,va9,t1,t2,_,_⟩:=HQ.out.rb.see hlt
             have hN:Hid (zc9 n mo r ((allI n).take (j+1))=zcv n mo r2 j):=Lib.hid (by
              rw [List.take_add_one,allI_get hlt,← hr2]
              exact foldR_snoc _ _)
             replace hr2:=Lib.hid hr2
             replace hI2:=Lib.hid hI2
             replace hol2:=Lib.hid hol2
             replace hf2:=Lib.hid hf2
             replace hf2':=Lib.hid hf2'
             replace hn9:=Lib.hid hn9
             have hj64:Hid (j < 64):=Lib.hid (by have:=hn9.out;omega)
             by_cases q2:0 < (r2.S.T j).pc
             ·
              have d5:decide (0 < (r2.S.T j).pc)=true:=decide_eq_true q2
              have hst:zcv n mo r2 (j:Int)=turnR r2 j:=by
               unfold zcv
               rw [if_pos ⟨by omega,hlt',by simpa using q2,hf2.out⟩]
               simp
              have HN2:Hid (∀ v w',RunAt w0 mb nb n R0 (za7 (zcw r2.S j) j) (r2.ord++[(j:Int)]) v w'→RunAt w0 mb nb n R0 (zc9 n mo r ((allI n).take (j+1))).S (zc9 n mo r ((allI n).take (j+1))).ord v w'):=Lib.hid fun v w' z=>by rw [hN.out,hst];exact z
              clear hst
              replace hlt:=Lib.hid hlt
              replace hlt':=Lib.hid hlt'
              rename World=>wq
              have HSx:=Lib.hid (src_new wq (j:Int) 3)
              have HO1:=Lib.hid (HQ.out.row.alloc (.cells #[.int .i64 (j:Int)] 3))
              have hlow:Hid (mb≤(wq.alloc (.cells #[.int .i64 (j:Int)] 3)).heap.size):=Lib.hid (by obtain ⟨a,b⟩:=HQ.out.rb.low;have:=b.size;simp;omega)
              have hser:Hid (r2.S.ser≤4611686018427387904):=Lib.hid (by have:=hI2.out.ser;have:=hol2.out;have:=hmo9.out;omega)
              replace q2:=Lib.hid q2
              go_wp2_with (first
               | (at_builtin;(refine zan rfl (.tmp 127) (.tmp 129) 24 rfl mb 3 i3 _ _ Try.underlying24 hi3 y1 y2 y3 rfl (.slice op2 r2.ord.length oc2) r2.ord.length _ rfl HO1.out 1 _ HSx.out ?l2 ?b2 ?n2 ?_);(case l2=>(unfold maxLen;have:=hol2.out;have:=hmo9.out;omega));(case b2=>(have:=hol2.out;have:=hmo9.out;omega));(case n2=>exact hlow.out);intro v' w2 ha;(have HP:=Lib.hid (HQ.out.push ha));clear ha)
               | (go_at_call 139;refine (HP.out.step hI2.out.inv hlt.out q2.out hser.out).mono ?_;rintro e w' ⟨rfl,hd⟩;(have HP2:=Lib.hid hd);clear hd)
               | (go_at_call 138;refine (HP2.out.settle (step_inv hI2.out.inv hlt.out ((hI2.out.inv.th j hlt.out).pc.resolve_left (by have:=q2.out;omega))) hlt.out).mono ?_;rintro e w' ⟨rfl,hd⟩;(have HP3:=Lib.hid hd);clear hd))
              exact ⟨⟨j+1,hlt.out,by rw [Int.natCast_add];rfl,Lib.hid (HN2.out _ _ HP3.out)⟩,by have:=hlt.out;simp [intOf];omega⟩
             ·
              have d5:decide (0 < (r2.S.T j).pc)=false:=decide_eq_false q2
              have hst:zcv n mo r2 (j:Int)=r2:=by unfold zcv;rw [if_neg (fun z=>q2 (by simpa using z.2.2.1))]
              have HB2:Hid (RunAt w0 mb nb n R0 (zc9 n mo r ((allI n).take (j+1))).S (zc9 n mo r ((allI n).take (j+1))).ord (.slice op2 r2.ord.length oc2) wr):=Lib.hid (by rw [hN.out,hst];exact HQ.out)
              clear hst
              replace q2:=Lib.hid q2
              replace hlt:=Lib.hid hlt
              replace hlt':=Lib.hid hlt'
              go_wp2_with fail
              exact ⟨⟨j+1,hlt.out,by rw [Int.natCast_add];rfl,HB2⟩,by have:=hlt.out;simp [intOf];omega⟩
            ·
             have d7:decide ((r2.ord.length:Int) < (mo:Int))=false:=decide_eq_false (by omega)
             have HZ:Hid (zc9 n mo r (allI n)=r2):=Lib.hid (by
              have e:allI n=(allI n).take j++(allI n).drop j:=(List.take_append_drop _ _).symm
              rw [e]
              unfold zc9 at hr2 ⊢
              rw [List.foldl_append,hr2]
              exact foldR_full (n:=n) _ (by omega))
             replace hf2:=Lib.hid hf2
             replace hr2:=Lib.hid hr2
             replace hI2:=Lib.hid hI2
             go_wp2_with fail
             go_roundg k'
             case measure=>exact hkl.out
             case rel=>exact Lib.hid (HN.out _ _ (by rw [HZ.out];exact HQ.out))
           ·
            obtain rfl:j=n:=by omega
            have d6:decide ((j:Int) < (j:Int))=false:=decide_eq_false (by omega)
            have HZ:Hid (zc9 j mo r (allI j)=r2):=Lib.hid (by
             rw [← hr2,List.take_of_length_le (by rw [allI_len];omega)])
            replace hr2:=Lib.hid hr2
            replace hI2:=Lib.hid hI2
            go_wp2_with fail
            go_roundg k'
            case measure=>exact hkl.out
            case rel=>exact Lib.hid (HN.out _ _ (by rw [HZ.out];exact HQ.out))
         ·
          have d2:decide ((r.ord.length:Int) < (mo:Int))=false:=decide_eq_false (by omega)
          have HZ:Hid (outR S0 LL sch n mo=r):=Lib.hid (by rw [← hro];exact roundsR_stop (fun z=>hf z.2))
          replace hl:=Lib.hid hl
          replace hf:=Lib.hid hf
          replace hIr:=Lib.hid hIr
          replace hro:=Lib.hid hro
          go_wp2_with (go_at_call 140;refine HL.out.mono ?_;rintro e w' ⟨rfl,rfl⟩)
          go_meet
          rw [HZ.out]
          exact ⟨HA.out,hIr.out⟩
        ·
         have hl2:zen r.S n=false:=by simpa using hl
         rw [hl2] at HL
         replace HL:=Lib.hid HL
         have HZ:Hid (outR S0 LL sch n mo=r):=Lib.hid (by rw [← hro];exact roundsR_stop (fun z=>hl z.1))
         replace hl:=Lib.hid hl
         replace hl2:=Lib.hid hl2
         replace hIr:=Lib.hid hIr
         replace hro:=Lib.hid hro
         go_wp2_with (go_at_call 140;refine HL.out.mono ?_;rintro e w' ⟨rfl,rfl⟩)
         go_meet
         rw [HZ.out]
         exact ⟨HA.out,hIr.out⟩
      case rest =>
       obtain ⟨hcA,hcI⟩:=hcut
       clear HR h9
       have hQ:Hid (∀ e w',RunD w0 mb ⟨(List.range n).map fun i=>((outR S0 LL sch n mo).S.T i).ans,(outR S0 LL sch n mo).ord,zcz (outR S0 LL sch n mo).S,zen (outR S0 LL sch n mo).S n⟩ e w'→RunD w0 mb (runT S0 LL sch n mo) e w'):=Lib.hid fun e w' z=>z
       generalize outR S0 LL sch n mo=g at hcA hcI hQ
       obtain ⟨op,oc,e9⟩:=zbd hcA.row
       subst e9
       have hR0lo:mb≤R0:=by have:=hlow0.out.size;have:=hR0.out;have:=hbs.out;omega
       have hol:=hcI.ord
       have hmo9:mo≤1048576:=by have:=hmo.out;omega
       have hL9:=zbp hcI.inv.mem
       have HL:=Lib.hid hcA.rb.left
       have HS:=Lib.hid (hcA.rb.state (by omega))
       replace hR0lo:=Lib.hid hR0lo
       replace hcA:=Lib.hid hcA
       replace hcI:=Lib.hid hcI
       go_upto_region 34 with (first
        | (go_at_call 140;refine HL.out.mono ?_;rintro e w' ⟨rfl,rfl⟩)
        | (go_at_call 141;refine HS.out.mono ?_;rintro e w9 ⟨v9,rfl,hv9,hb9⟩;obtain ⟨sp,sc,e9⟩:=zbd hv9;subst e9;(have HT:=Lib.hid (hcA.out.told (st:=zen g.S n) hR0lo.out hb9 hv9));clear hv9 hb9))
       generalize w9.alloc (.cells #[.slice none 0 0,.slice op g.ord.length oc,.slice sp (zcz g.S).length sc,.bool (zen g.S n)] 31)=wA at *
       generalize w9.heap.size=R1 at *
       obtain ⟨i40,hi40,a1,a2,a3⟩:=info_parts info40r
       generalize hso:(zcz g.S).length=so at *
       replace hso:=Lib.hid hso
       generalize hlf:zen g.S n=lf at *
       replace hlf:=Lib.hid hlf
       clear HL HS
       go_wp2_with fail
       go_loopw [17] (fun iv wr=>∃ (j:Nat) (v:Value),j≤n∧iv = .int .i64 j∧Hid (TrO w0 mb nb n R0 R1 g.S g.ord (.slice op g.ord.length oc) (.slice sp so sc) lf j v wr)) (fun iv _=>n - (intOf iv).toNat)
       case atStart=>exact ⟨0,_,by omega,rfl,HT⟩
       case round =>
        obtain ⟨j,v,hj,rfl,HL⟩:=hrel
        obtain ⟨xs,hrow,hxs⟩:=HL.out.row
        obtain ⟨vp,vc,e9⟩:=zbd hrow
        subst e9
        by_cases hlt:j < n
        ·
         have hlt':(j:Int) < (n:Int):=by omega
         have hn9:n≤64:=by have:=hn.out;omega
         obtain ⟨tb,tc,va9,t1,t2,t3,t4⟩:=HL.out.rb.see hlt
         obtain ⟨pa,pc,e9⟩:=t4.slice
         subst e9
         generalize hal:(g.S.T j).ans.length=aln at *
         replace hal:=Lib.hid hal
         have b0:wr.cell? ⟨R1,0,none⟩=some (.slice vp j vc):=by rw [zac HL.out.blk 0];rfl
         have al:∀ {a:Addr} {v:Value} (o:Obj),wr.cell? a=some v→(wr.alloc o).cell? a=some v:=fun {a v} o hv=>(World.cell?_of_block (w:=wr) (Below.heap_alloc _ _ _ (World.block_lt_of_cell? wr _ hv))).trans hv
         have b0':=al (.cells #[.slice pa aln pc] 40) b0
         have HD:=HL.out.drew
         have HOW:(wr.drew.alloc (.cells #[.slice pa aln pc] 40)).ownsRow mb 40 1 (.slice vp j vc) j xs:=World.ownsRow.alloc (w:=wr.drew) hrow _
         have HSX:=src_one wr.drew (.slice pa aln pc) 40 rfl
         have hlo:=HL.out.rb.low
         obtain ⟨v',w3,hrun,ha⟩:=zc4 (P:=Try.prog) (wr.drew.alloc (.cells #[.slice pa aln pc] 40)) mb 29 29 40 i40 _ 24 Try.underlying29 hi40 a1 a2 a3 (by rfl) (.slice vp j vc) j _ HOW (.slice (some ⟨wr.heap.size,0,none⟩) 1 1) 1 [.slice pa aln pc] HSX (by unfold maxLen;omega) (by omega) (by show mb≤(wr.alloc (.cells #[.slice pa aln pc] 40)).heap.size;have:=hlo.2.size;simp;omega)
         have HRUN:Hid ((Builtin.append_ #[29,29] 29 #[.slice vp j vc,.slice (some ⟨wr.heap.size,0,none⟩) 1 1]).run Try.prog (wr.alloc (.cells #[.slice pa aln pc] 40)).drew = .ok v' w3):=Lib.hid hrun
         obtain ⟨hb2,HM⟩:=HD.more (u := .slice pa aln pc) t4 hrow hxs ha
         obtain ⟨xs2,hrow2,_⟩:=HM.row
         obtain ⟨vp2,vc2,e9⟩:=zbd hrow2
         subst e9
         have d0:w3.cell? ⟨R1,0,none⟩=some (.slice vp j vc):=by rw [zac hb2 0];rfl
         have y0:=zau hb2 0
         have e2:IntKind.i64.wrap ((j:Int)+1)=((j+1:Nat):Int):=by rw [IntKind.wrap_i64];omega
         clear hrun ha HOW HSX HD hb2 al hrow2 t4
         replace HM:=Lib.hid HM
         replace HL:=Lib.hid HL
         replace hrow:=Lib.hid hrow
         replace hxs:=Lib.hid hxs
         replace hlo:=Lib.hid hlo
         go_upto_region 37 with fail
         go_region_law (refine zbo (by rfl) _ _ 29 29 (by rfl) (.slice vp j vc) (.slice (some ⟨wr.heap.size,0,none⟩) 1 1) (by rfl) (by rfl) HRUN.out ?_)
         all_goals
          go_wp2_with fail
          refine ⟨⟨j+1,.slice vp2 (j+1) vc2,by omega,by rw [Int.natCast_add];rfl,HM⟩,by simp [intOf];omega⟩
        ·
         obtain rfl:j=n:=by omega
         have b0:wr.cell? ⟨R1,0,none⟩=some (.slice vp j vc):=by rw [zac HL.out.blk 0];rfl
         have b1:wr.cell? ⟨R1,1,none⟩=some (.slice op g.ord.length oc):=by rw [zac HL.out.blk 1];rfl
         have b2:wr.cell? ⟨R1,2,none⟩=some (.slice sp so sc):=by rw [zac HL.out.blk 2];rfl
         have b3:wr.cell? ⟨R1,3,none⟩=some (.bool lf):=by rw [zac HL.out.blk 3];rfl
         have r0:wr.cell? ⟨R0,0,none⟩=some (.slice none 0 0):=by rw [zac HL.out.res 0];rfl
         have r1:wr.cell? ⟨R0,1,none⟩=some (.slice none 0 0):=by rw [zac HL.out.res 1];rfl
         have r2:wr.cell? ⟨R0,2,none⟩=some (.slice none 0 0):=by rw [zac HL.out.res 2];rfl
         have r3:wr.cell? ⟨R0,3,none⟩=some (.bool false):=by rw [zac HL.out.res 3];rfl
         have y0:=zau HL.out.res 0
         have y1:=zau HL.out.res 1
         have y2:=zau HL.out.res 2
         have y3:=zau HL.out.res 3
         obtain ⟨x1,x2,x3⟩:=set4 (x := .slice vp j vc) (y := .slice op g.ord.length oc) (z := .slice sp so sc) (u := .bool lf) HL.out.res
         have BF:=((((HL.out.rb.low.2).setCell (p:=⟨R0,0,none⟩) hR0lo.out (.slice vp j vc)).setCell (p:=⟨R0,1,none⟩) hR0lo.out (.slice op g.ord.length oc)).setCell (p:=⟨R0,2,none⟩) hR0lo.out (.slice sp so sc)).setCell (p:=⟨R0,3,none⟩) hR0lo.out (.bool lf)
         have HF:=Lib.hid (show ∀ w'':World,(∀ (b:Nat) (c:Array Value) (t:TypeId),wr.heap[b]?=some (Obj.cells c t (0,0))→t≠31→w''.heap[b]?=some (Obj.cells c t (0,0)))→TrIn w'' _ _ from fun w'' hk=>HL.out.done hk)
         have RES:=Lib.hid HL.out.res
         replace x2:=Lib.hid x2
         replace x1:=Lib.hid x1
         replace BF:=Lib.hid BF
         replace hrow:=Lib.hid hrow
         replace hxs:=Lib.hid hxs
         clear x3
         go_wp2_with fail
         refine bodyPost_ret (results_cell_row (fn:=Try.f82) (p:=8) (ty:=31) rfl _ _ R0 31 _ (0,0) _ rfl x1.out Try.underlying31 rfl size31) rfl ?_
         exact hQ.out _ _ ⟨_,rfl,fun w'' hk=>HF.out w'' fun b c t hb ht=>hk b c t ((x2.out b fun z=>by
          rw [z,RES.out] at hb
          simp at hb
          exact ht hb.2.symm).trans hb) ht,BF.out⟩
end Go.Proofs.Ytofacoojpgkbiaa
/-
 The document's machine of the gate: Play (f19),walked. No condition of its own.
-/
namespace Go.Proofs.Ytofacoojpgkbiaa
open Go.Conc Go.RowKit
open Go.ConcN (upd upd_ne upd_same)
set_option maxRecDepth 100000
def trM (l:List Int) (LL:List (List OpD)) (sch:List Int) (most:Int):Tr:=runT (newS l) LL sch (min LL.length 64) (min (max most 0) 1048576).toNat
theorem memOk_memJ {k:Nat} (h:k≤64):zc6 (memJ k):=by
 refine ⟨?_,fun x hx => ?_⟩
 ·
  unfold memJ
  unfold List.Nodup
  rw [List.pairwise_map]
  exact List.nodup_range.imp fun h z=>h (Int.ofNat.inj z)
 ·
  unfold memJ at hx
  obtain ⟨i,hi,rfl⟩:=List.mem_map.1 hx
  have:=List.mem_range.1 hi
  omega
theorem IntsIn.at {w:World} {v:Value} {l:List Int} (h:IntsIn w v l):IntsAt w v l:=by
 obtain ⟨_,a,cap,e,_,q⟩:=h
 exact ⟨a,cap,e,q⟩
def DoneG (T:Tr) (w:World) (e:Ending) (w':World):Prop:=∃ v,e = .returned v∧TrIn w' v T∧Below w.heap.size w w'
theorem refM_walk {w:World} {l:List Int} {LL:List (List OpD)} {sch:List Int} {vl vt vs:Value} {most:Int} (hl:IntsIn w vl l) (hT:ThrIn w vt LL) (hS:IntsIn w vs sch) (hl9:l.length≤4611686018427387904) (hLL:LL.length≤4611686018427387904) (hsch:sch.length≤4611686018427387904) :
  Calls Try.prog 19 #[vl,vt,vs,.int .i64 most] w (DoneG (trM l LL sch most) w):=by
 generalize hT9:trM l LL sch most=T
 replace hT9:=Lib.hid hT9
 have EN:=heap_alloc_new w (.cells #[.slice none 0 0,.slice none 0 0,.slice none 0 0,.bool false] 31)
 have B0:Below w.heap.size w (w.alloc (.cells #[.slice none 0 0,.slice none 0 0,.slice none 0 0,.bool false] 31)):=(Below.refl _ _).alloc (Nat.le_refl _) _
 have S0:(w.alloc (.cells #[.slice none 0 0,.slice none 0 0,.slice none 0 0,.bool false] 31)).heap.size=w.heap.size+1:=by simp
 have hl1:=hl.keep fun b hb=>B0.block b hb
 have hT1:=hT.keep fun b hb=>B0.block b hb
 have hS1:=hS.keep fun b hb=>B0.block b hb
 clear hl hT hS
 replace hT1:=Lib.hid hT1
 replace hS1:=Lib.hid hS1
 replace hl1:=Lib.hid hl1
 replace hl9:=Lib.hid hl9
 replace hLL:=Lib.hid hLL
 replace hsch:=Lib.hid hsch
 go_enter Try.func19,Try.ntmps19
 go_upto_region 1 with fail
 generalize w.alloc (.cells #[.slice none 0 0,.slice none 0 0,.slice none 0 0,.bool false] 31)=w1 at *
 generalize hN:w.heap.size=N at *
 have HN:=Lib.hid (newM_walk hl1.out.at hl9.out)
 replace EN:=Lib.hid EN
 replace B0:=Lib.hid B0
 replace S0:=Lib.hid S0
 replace hN:=Lib.hid hN
 generalize hmb:w1.heap.size=mb at HN
 replace hmb:=Lib.hid hmb
 go_wp2_with (first
  | (go_at_call 81;refine HN.out.mono ?_;rintro e w2 ⟨rfl,vN,vL,hM⟩;obtain ⟨nb,hRB⟩:=hM.rb;(have HR:Hid (Calls Try.prog 82 #[.pointer (some ⟨mb,0,none⟩),vt,vs,.int .i64 most] w2 (RunD w1 mb T)):=Lib.hid (by rw [← hT9.out];exact run_walk (most:=most) ⟨hRB,hT1.out,hS1.out,memOk_memJ (Nat.min_le_right _ _),rfl⟩ hLL.out hsch.out));clear hM hRB)
  | (go_at_call 82;refine HR.out.mono ?_;rintro e w3 ⟨v,rfl,hTr,hB⟩;obtain ⟨va,vo,vst,e9,⟨pa,ca,e10,_⟩,⟨po,co,e11,_⟩,⟨ps,cs,e12,_⟩⟩:=hTr w3 (fun _ _ _ h _=>h);subst e9;subst e10;subst e11;subst e12;(have HTr:=Lib.hid hTr);(have HB:=Lib.hid hB);clear hTr hB;(have EW:w3.heap[N]?=some (.cells #[.slice none 0 0,.slice none 0 0,.slice none 0 0,.bool false] 31 (0,0)):=(HB.out.block N (by have:=S0.out;have:=hmb.out;omega)).trans EN.out);(have r0:w3.cell? ⟨N,0,none⟩=some (.slice none 0 0):=by rw [zac EW 0];rfl);(have r1:w3.cell? ⟨N,1,none⟩=some (.slice none 0 0):=by rw [zac EW 1];rfl);(have r2:w3.cell? ⟨N,2,none⟩=some (.slice none 0 0):=by rw [zac EW 2];rfl);(have r3:w3.cell? ⟨N,3,none⟩=some (.bool false):=by rw [zac EW 3];rfl);have y0:=zau EW 0;have y1:=zau EW 1;have y2:=zau EW 2;have y3:=zau EW 3;(have X:=Lib.hid (set4 (x := .slice pa T.ans.length ca) (y := .slice po T.ord.length co) (z := .slice ps T.st.length cs) (u := .bool T.stuck) EW));(have EW2:=Lib.hid EW);clear EW))
 obtain ⟨x1,x2,x3⟩:=X.out
 have BL:Below N w w3:=B0.out.trans (HB.out.mono (by have:=S0.out;have:=hmb.out;omega))
 have BF:=Lib.hid ( (((BL.setCell (p:=⟨N,0,none⟩) (Nat.le_refl N) (.slice pa T.ans.length ca)).setCell (p:=⟨N,1,none⟩) (Nat.le_refl N) (.slice po T.ord.length co)).setCell (p:=⟨N,2,none⟩) (Nat.le_refl N) (.slice ps T.st.length cs)).setCell (p:=⟨N,3,none⟩) (Nat.le_refl N) (.bool T.stuck))
 refine bodyPost_ret (results_cell_row (fn:=Try.f19) (p:=8) (ty:=31) rfl _ _ N 31 _ (0,0) _ rfl x1 Try.underlying31 rfl size31) rfl ?_
 refine ⟨_,rfl,HTr.out _ fun b c t hb ht=>(x2 b fun z => ?_).trans hb,by rw [hN.out];exact BF.out⟩
 rw [z,EW2.out] at hb
 simp at hb
 exact ht hb.2.symm
end Go.Proofs.Ytofacoojpgkbiaa
