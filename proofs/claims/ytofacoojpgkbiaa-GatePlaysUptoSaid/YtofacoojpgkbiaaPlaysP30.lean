/-
  Merged out of: Gate20 Gate21 Gate22 Gate23. No condition of its own.
-/
import Derived.Test.YtofacoojpgkbiaaPlaysP29
set_option linter.unusedVariables false
set_option maxHeartbeats 8000000
set_option linter.unusedSimpArgs false
/-
 begun,by goroutine 0 beside leavers. No condition of its own.
-/
namespace Go.Proofs.Ytofacoojpgkbiaa
open Go.Conc Go.RowKit
open Go.ConcN (upd upd_ne upd_same)
set_option maxRecDepth 100000
section
variable {Z:Machine→Trace→Prop} {c:Frame} {cs:List Frame}
theorem rm_md {M:Type} [Priv M] {Rep:M→(Nat→Owner)→World→Prop} {Q:Nat→M→Prop} {o:Os×Array (Nat×ByteArray)} {A:Nat→Prop} {w₀:W0 M} {φ:Fu M} {g:Goroutine} {own:Nat→Owner} {w:World} {m:M} {x:Nat} (h:(niMd Rep 0 Z Q o).GO x own w (φ m) g w) (hk:KO o w) (hF:FF Q φ x m):RM Try.prog Z g w:=h hk hF
theorem prgN:Prg false Try.prog (·∈[20,26,83,87]):=prg_of zag (by kernel_rfl) (by kernel_rfl) (by kernel_rfl)
open Classical in
theorem begun_runs {w:World} {l:List Int} {vs:Value} (hS:IntsIn w vs l) (hlen:l.length≤1000000000)
  (h:∀ gb ownF w1,NewF (GateAt gb) (stB (l.take 64) (l.take 64).length) w w1 ownF→(w1.os=w.os∧w1.output=w.output)→RM Try.prog Z (G (c.finish (gpv gb)) cs) w1):RM Try.prog Z (G (Frame.enter Try.prog 77 #[vs] .normal) (c::cs)) w:=by
 obtain ⟨hI,a,cap,rfl,hcap,hcell⟩:=hS
 obtain ⟨n,hn⟩:∃ n,l.length=n:=⟨_,rfl⟩
 obtain ⟨k,hk⟩:∃ k,(l.take 64).length=k:=⟨_,rfl⟩
 have hk2:min (n:Int) 64=k:=by rw [List.length_take] at hk;omega
 have hk3:k≤n:=by omega
 have hk4:k≤64:=by omega
 rw [hn] at hcap hlen ⊢
 rw [hk] at h
 have hkc:(k:Int)≤(cap:Int):=by omega
 have hk0:(0:Int)≤(k:Int):=by omega
 rw [enter_at _ Try.func77 rfl]
 simp only [Try.ntmps77,List.size_toArray,List.length_cons,List.length_nil,Nat.reduceAdd,Nat.reduceSub,Array.replicate_succ,
   Array.replicate_zero,List.push_toArray,List.append_toArray,List.nil_append,List.cons_append]
 replace h:=Lib.hid h
 replace hcell:=Lib.hid hcell
 replace hk:=Lib.hid hk
 refine zae rm_xc fun R0 hR0 => ?_
 refine zcj prgN (zab zag (by kernel_rfl)) rfl (zaa Try.func77) rfl fun wp hp => ?_
 replace hp:=Lib.hid hp
 go_wp2_with fail
 refine fun w1 h1 => ?_
 have e1:w1.heap=w.heap:=h1.heap.trans hp.out.heap
 have o1:w1.os=w.os∧w1.output=w.output:=⟨h1.outs.1.trans hp.out.outs.1,h1.outs.2.trans hp.out.outs.2⟩
 clear h1 hp wp
 obtain rfl:=hR0.out
 clear hR0
 refine zae rm_xc fun R0 hR0 => ?_
 refine zcj prgN (zab zag (by kernel_rfl)) rfl (zaa Try.func77) rfl fun wp hp => ?_
 have hw:=new_walk wp
 have hN:wp.heap.size=w.heap.size:=by rw [hp.heap,e1]
 rw [hN] at hw
 obtain ⟨N,hNN⟩:∃ N,w.heap.size=N:=⟨_,rfl⟩
 rw [hNN] at hw hN
 replace hp:=Lib.hid hp
 replace hN:=Lib.hid hN
 replace hNN:=Lib.hid hNN
 unfold gpv at hw
 go_wp2_with (go_at_call 20;refine hw.mono ?_;rintro e w' ⟨rfl,hG⟩;replace hG:=Lib.hid hG)
 refine fun w2 h2 => ?_
 have hG2:=hG.out
 have low2:∀ b,b < N→w2.heap[b]?=w.heap[b]?:=fun b hb=>by rw [h2.heap,hG2.1.block b hb,hp.out.heap,e1]
 have s2:w2.heap.size=N+1:=by rw [h2.heap];exact hG2.2.1
 have o2:w2.os=w.os∧w2.output=w.output:=⟨h2.outs.1.trans (hG2.1.os.trans (hp.out.outs.1.trans o1.1)),h2.outs.2.trans (hG2.1.output.trans (hp.out.outs.2.trans o1.2))⟩
 obtain ⟨hb1,hs1,cc,c1,c2,c3,c4⟩:=hG2
 rw [← h2.heap] at c1
 clear h2 hG hw hb1 hs1 hp wp hN e1 o1 w1
 obtain rfl:=hR0.out
 clear hR0
 refine zae rm_xc fun R0 hR0 => ?_
 refine zae rm_xc fun R1 hR1 => ?_
 refine zcj prgN (zab zag (by kernel_rfl)) rfl (zaa Try.func77) rfl fun wp hp => ?_
 replace hp:=Lib.hid hp
 go_wp2_with (refine wpL_min rfl _ _ _ _ rfl n 64 k rfl rfl hk2 ?_)
 refine fun w3 h3 => ?_
 have e3:w3.heap=w2.heap:=h3.heap.trans hp.out.heap
 have o3:w3.os=w.os∧w3.output=w.output:=⟨(h3.outs.1.trans hp.out.outs.1).trans o2.1,(h3.outs.2.trans hp.out.outs.2).trans o2.2⟩
 clear h3 hp wp
 obtain rfl:=hR1.out
 clear hR1
 refine zb4 rm_xc ?_
 refine x_loop rm_xc ?_
 let own1:Nat→Owner:=fun b=>if b < N then .tag 0 else if b=N then .sh else .out
 have hold:∀ b,b < N→own1 b = .tag 0:=fun b hb=>if_pos hb
 have hgb:own1 N = .sh:=by
  show (if N < N then _ else _)=_
  rw [if_neg (Nat.lt_irrefl _),if_pos rfl]
 have hnot:∀ b t,own1 b ≠ .tag (t+2):=fun b t=>by
  show (if b < N then Owner.tag 0 else if b=N then .sh else .out)≠_
  split
  ·
   simp
  ·
   split<;>simp
 have hR:RepG N ⟨⟨0,[],fun _ => -1⟩,fun _=>[]⟩ own1 w3:=by
  refine ⟨hgb,⟨none,cc,by rw [e3];exact c1,c2,c3,fun j hj=>by rw [c4 j hj,if_pos hj],.inl ⟨rfl,rfl,rfl⟩⟩,fun j _=>by constructor<;>simp,⟨List.nodup_nil,fun x hx=>by cases hx⟩,fun b b' t q _=>absurd q (hnot b t),fun b t q=>absurd q (hnot b t)⟩
 have st0:stB (l.take 64) 0=⟨0,[],fun _ => -1⟩:=rfl
 obtain ⟨oo,hoo⟩:∃ oo,oo=(w3.os,w3.output):=⟨_,rfl⟩
 rw [a77_of _ rfl]
 have hnn:=hNN.out
 have hF:=fin_beg (Q:=fun _ m=>m=⟨stB (l.take 64) (l.take 64).length,fun _=>[]⟩) (an:=fun _=>[]) (l:=l.take 64) (by rw [hk.out];exact hk4) (l.take 64) 0 0 rfl (Nat.zero_le _) rfl rfl
 rw [st0] at hF
 refine rm_md (Q:=fun _ m=>m=⟨stB (l.take 64) (l.take 64).length,fun _=>[]⟩) (o:=oo) (φ:=begL 0 (l.take 64)) (m:=⟨⟨0,[],fun _ => -1⟩,fun _=>[]⟩) (x:=0) (own:=own1) (A:=fun _=>False) (w₀:=⟨w3.heap,⟨⟨0,[],fun _ => -1⟩,fun _=>[]⟩,own1⟩) (Rep:=RepG N) ?_ (by rw [hoo];exact ⟨rfl,rfl⟩) hF
 have loop:=begun_loop (Z:=Z) (Q:=fun _ m=>m=⟨stB (l.take 64) (l.take 64).length,fun _=>[]⟩) (o:=oo) (gb:=N) (w₀:=⟨w3.heap,⟨⟨0,[],fun _ => -1⟩,fun _=>[]⟩,own1⟩) (c:=c) (cs:=cs) (R:=R0) (l:=l.take 64) (by rw [hk.out];exact hk4) (fun x hx=>hI x (List.mem_of_mem_take hx)) (a:=a) (cap:=cap) (fun hne => ?hcell) (fun x x3 => ?hret) (l.take 64) 0 rfl (Nat.zero_le _)
 case hcell =>
  have hne':l≠[]:=fun z=>by rw [z] at hne;simp at hne
  obtain ⟨b,off,ea,q⟩:=hcell.out hne'
  obtain ⟨v,hv⟩:∃ v,l[0]?=some v:=⟨_,List.getElem?_eq_getElem (List.length_pos_iff.2 hne')⟩
  obtain ⟨c',t,f,hb,_⟩:=block_of_cell (q 0 v hv)
  have hlt:b < N:=by rw [← hnn];exact (Array.getElem?_eq_some_iff.1 hb).1
  refine ⟨b,off,c',t,f,ea,hold b hlt,by show w3.heap[b]?=_;rw [e3,low2 b hlt];exact hb,fun j x hj => ?_⟩
  have hj':l[j]?=some x:=by
   have h1:j < (l.take 64).length:=(List.getElem?_eq_some_iff.1 hj).1
   rw [List.length_take] at h1
   rw [← hj,List.getElem?_take_of_lt (by omega)]
  rw [← zd3 hb]
  exact q j x hj'
 case hret =>
  intro y own w4 m C
  unfold A77
  simp only [x3]
  have O:(niMd (RepG N) 0 Z (fun _ m=>m=⟨stB (l.take 64) (l.take 64).length,fun _=>[]⟩) oo).Ok:=niMd_ok (locG N)
  unfold gpv
  obtain rfl:=hR0.out
  clear hR0
  refine zae (O.xc ..) fun R1 hR1 => ?_
  refine O.seg0 C zbv (zab zag (by kernel_rfl)) rfl (zaa Try.func77) rfl fun wp hp => ?_
  replace hp:=Lib.hid hp
  go_wp2_with fail
  refine ⟨hp.out,?_⟩
  clear hp  wp
  obtain rfl:=hR1.out
  clear hR1
  refine zc0 (O.xc ..) ?_
  refine za0 (O.xc ..) (zaa Try.func77) (C.st O) ⟨rfl,rfl,rfl,_,Try.func77,results_tmp rfl _ _ _⟩ ?_
  intro hk5 hQ
  have hm:m=⟨stB (l.take 64) (l.take 64).length,fun _=>[]⟩:=hQ
  have hrep:GateAt N m.st own w4:=C.rep
  rw [hm] at hrep
  have tg:∀ b,b < N→own b = .tag 0∧w4.heap[b]?=w.heap[b]?:=fun b hb=>by
   obtain ⟨q1,q2⟩:=C.tg b 0 (hold b hb)
   exact ⟨q1,q2.trans (by show w3.heap[b]?=_;rw [e3,low2 b hb])⟩
  have hs4:N≤w4.heap.size:=by
   rcases Nat.lt_or_ge w4.heap.size N with z | z
   ·
    have h1:=(tg _ z).1
    rw [C.fresh _ (Nat.le_refl _)] at h1
    cases h1
   ·
    exact z
  rw [hoo] at hk5
  have:=h.out N (fun b=>if own b = .tag 0 then .out else if (own b).pub then own b else .out) w4 ⟨?_,fun b hb => ?_,fun b hb => ?_,fun b hb=>(tg b (by omega)).2,by omega⟩ ⟨hk5.1.trans o3.1,hk5.2.trans o3.2⟩
  ·
   exact this
  ·
   rw [hk.out] at hrep
   refine (famGate N).keep hrep (fun b c t f hb _ _ _=>⟨?_,rfl⟩) (fun b v hv hb=>⟨?_,rfl⟩) fun b v hb => ?_
   ·
    simp only [hb]
    rw [if_neg (by simp),if_pos (.inl rfl)]
   ·
    simp only [hb]
    rw [if_neg (by simp;omega),if_pos (.inr ⟨v,rfl⟩)]
   ·
    split at hb
    ·
     cases hb
    ·
     split at hb
     ·
      exact .inl hb
     ·
      cases hb
  ·
   exact if_pos (tg b (by omega)).1
  ·
   show (if own b = .tag 0 then _ else _)=_
   have:=C.fresh b hb
   rw [this,if_neg (by simp),if_neg (by rintro (z | ⟨v,z⟩)<;>cases z)]
 refine loop _ _ _ _ _ ⟨trivial,hR,fun b hb => ?_,fun b hb=>hb.elim,rfl,.refl⟩ ?_
 rotate_left
 ·
  exact ⟨rfl,by rw [hk.out];rfl,by rw [hk.out];rfl,rfl⟩
 show (if b < N then _ else _)=_
 rw [e3] at hb
 rw [if_neg (by omega),if_neg (by omega)]
end
end Go.Proofs.Ytofacoojpgkbiaa
/-
 What a gate's state tells: its numbers. No condition of its own.
-/
namespace Go.Proofs.Ytofacoojpgkbiaa
open Go.Conc Go.RowKit
open Go.ConcN (upd upd_ne upd_same)
set_option maxRecDepth 100000
theorem zbt {N:Nat} {w0 w w1:World} {v:Value} {xs:List Value} {n:Nat} {e:TypeId} (h:w.ownsRow N e 1 v n xs) (hb:Below N w0 w) (hN:N≤w.heap.size) (hg:w.grownBy w1 v.ownBlock):Below N w0 w1:=by
 refine ⟨hg.os.trans hb.os,hg.tape.trans hb.tape,hg.output.trans hb.output,Nat.le_trans hb.size hg.size,fun b hlt => ?_⟩
 refine (hg.block b (by omega) fun q => ?_).trans (hb.block b hlt)
 have:=(zb6 h q.symm).1
 omega
theorem zd9 (l:List Int) (x:Int):zax (l++[x])=zax l++[.int .i64 x]:=by simp [zax]
theorem src_new (w:World) (x:Int) (t:TypeId):SrcOf (w.alloc (.cells #[.int .i64 x] t)) (.slice (some ⟨w.heap.size,0,none⟩) 1 1) 1 [.int .i64 x]:=src_one2 (heap_alloc_new _ _)
def numsL (num:Nat→Int) (j:Nat):List Int:=(List.range j).map num
theorem numsL_succ (num:Nat→Int) (j:Nat):numsL num (j+1)=numsL num j++[num j]:=by simp [numsL,List.range_succ]
theorem numbers_walk {gb:Nat} {num:Nat→Int} (w:World) (hlt:gb < w.heap.size) (hc:∀ j,j < 64→w.cell? ⟨gb,1+j,none⟩=some (.int .i64 (num j))) :
  Calls Try.prog 26 #[gpv gb] w fun e w'=>∃ v,e = .returned v∧w'.ownsRow w.heap.size 2 1 v 64 (zax (numsL num 64))∧Below w.heap.size w w':=by
 obtain ⟨i1,hi1,hz1,hz11,hz12⟩:=info_parts info2g
 have hne:∀ w:World,(binOp .neq 35 (.pointer (some ⟨gb,0,none⟩)) (.pointer none)).run Try.prog w = .ok (.bool true) w:=fun w=>by rfl
 replace hc:=Lib.hid hc
 replace hlt:=Lib.hid hlt
 generalize hN:w.heap.size=N at *
 replace hN:=Lib.hid hN
 unfold gpv
 go_enter Try.func26,Try.ntmps26
 go_wp2_with fail
 go_loopw [3,7] (fun va iv wr=>∃ (j:Nat),j≤64∧iv = .int .i64 j∧Hid (wr.ownsRow N 2 1 va j (zax (numsL num j)))∧Hid (Below N w wr)) (fun _ iv _=>64 - (intOf iv).toNat)
 case atStart=>exact ⟨0,by omega,rfl,Lib.hid (World.ownsRow_nil _ _ _ _),Lib.hid (Below.refl _ _)⟩
 case round =>
  obtain ⟨j,hj,rfl,HS,HB⟩:=hrel
  obtain ⟨vp,vc,rfl⟩:=zbd HS.out
  by_cases hlt2:j < 64
  ·
   have hlt':(j:Int) < 64:=by omega
   have hj0:(0:Int)≤(j:Int):=by omega
   have q1:wr.cell? ⟨gb,1+j,none⟩=some (.int .i64 (num j)):=(World.cell?_of_block (w:=w) (HB.out.block _ hlt.out)).trans (hc.out j hlt2)
   have hsz:=Lib.hid (hN.out▸HB.out.size)
   have HV:=Lib.hid (wordLoad gb (1+j) (num j) wr q1)
   have HSx:=Lib.hid (src_new wr (num j) 2)
   have HO1:=Lib.hid (HS.out.alloc (.cells #[.int .i64 (num j)] 2))
   have hnx:=Lib.hid (numsL_succ num j)
   have HBa:=Lib.hid (HB.out.alloc (by have:=hsz.out;omega) (.cells #[.int .i64 (num j)] 2))
   generalize num j=xj at *
   have e1:IntKind.i64.wrap ((j:Int)+1)=((j+1:Nat):Int):=by rw [IntKind.wrap_i64];omega
   go_wp2_with (first
    | (go_at_call 87;refine HV.out.mono ?_;rintro e w' ⟨rfl,rfl⟩)
    | (at_builtin;(refine zan rfl (.tmp 10) (.tmp 17) 22 rfl N 2 i1 _ _ Try.underlying22 hi1 hz1 hz11 hz12 rfl (.slice vp j vc) j _ rfl HO1.out 1 _ HSx.out ?l2 ?b2 ?n2 ?_);(case l2=>(unfold maxLen;omega));(case b2=>omega);(case n2=>(have h1:=hsz.out;simp;omega));intro v' w1 ha;obtain ⟨ho,hg,hsh⟩:=ha;have HH:=Lib.hid ho;have HB2:=Lib.hid (zbt HO1.out HBa.out (by have h1:=hsz.out;simp;omega) hg);clear ho hg hsh))
   refine ⟨⟨j+1,by omega,by rw [Int.natCast_add];rfl,?_,HB2⟩,by simp [intOf];omega⟩
   rw [hnx.out,zd9]
   exact HH
  ·
   have hlt':¬ (j:Int) < 64:=by omega
   obtain rfl:j=64:=by omega
   go_wp2_with fail
   go_ret
   exact ⟨_,rfl,HS.out,HB.out⟩
end Go.Proofs.Ytofacoojpgkbiaa
/-
 What a gate's state tells,by goroutine 0 beside leavers. No condition of its own.
-/
namespace Go.Proofs.Ytofacoojpgkbiaa
open Go.Conc Go.RowKit
open Go.ConcN (upd upd_ne upd_same)
set_option maxRecDepth 100000
theorem src_row {w:World} {base n:Nat} {v:Value} {l:List Int} (h:w.ownsRow base 2 1 v n (zax l)):SrcOf w v n (zax l):=by
 refine ⟨by have:=h.1;omega,fun u hu => ?_,?_⟩
 ·
  obtain ⟨x,_,rfl⟩:=List.mem_map.1 hu
  rfl
 ·
  rcases h.2 with ⟨rfl,rfl⟩ | ⟨g,cap,cur,rfl,_,hg,_,_,_,htk⟩
  ·
   exact .inl ⟨rfl,rfl⟩
  ·
   refine .inr ⟨_,_,rfl,fun j u hj => ?_⟩
   have:=zac hg j
   rw [← htk,List.getElem?_take] at hj
   split at hj
   ·
    rw [Addr.add_lit,Nat.zero_add,this]
    simpa using hj
   ·
    cases hj
section
variable {Z:Machine→Trace→Prop} {c:Frame} {cs:List Frame}
def stateL (s:GateS):List Int:=(s.mem.length:Int)::s.mem++numsL s.num 64
theorem state_runs {gb:Nat} {s:GateS} {own:Nat→Owner} {w:World} (hR:GateAt gb s own w) (hfr:∀ b,w.heap.size≤b→own b = .out) (hfz:∀ b,b < w.heap.size→b≠gb→∃ t,own b = .tag t)
  (h:∀ v w1,w1.ownsRow w.heap.size 2 1 v (stateL s).length (zax (stateL s))→(∀ b,b < w.heap.size→b≠gb→w1.heap[b]?=w.heap[b]?)→w.heap.size≤w1.heap.size→(w1.os=w.os∧w1.output=w.output)→RM Try.prog Z (G (c.finish v) cs) w1):RM Try.prog Z (G (Frame.enter Try.prog 80 #[gpv gb] .normal) (c::cs)) w:=by
 unfold gpv
 rw [enter_at _ Try.func80 rfl]
 simp only [Try.ntmps80,List.size_toArray,List.length_cons,List.length_nil,Nat.reduceAdd,Nat.reduceSub,Array.replicate_succ,
   Array.replicate_zero,List.push_toArray,List.append_toArray,List.nil_append,List.cons_append]
 replace h:=Lib.hid h
 refine zae rm_xc fun R0 hR0 => ?_
 refine zcj prgN (zab zag (by kernel_rfl)) rfl (zaa Try.func80) rfl fun wp hp => ?_
 replace hp:=Lib.hid hp
 go_wp2_with fail
 refine fun w1 h1 => ?_
 have e1:w1.heap=w.heap:=h1.heap.trans hp.out.heap
 have o1:w1.os=w.os∧w1.output=w.output:=⟨h1.outs.1.trans hp.out.outs.1,h1.outs.2.trans hp.out.outs.2⟩
 clear h1 hp wp
 obtain rfl:=hR0.out
 clear hR0
 refine zae rm_xc fun R0 hR0 => ?_
 refine rm_reg 1 (by decide) (by decide) (zaj (by kernel_rfl)) fun wp hp => ?_
 simp only [List.take_succ_cons,List.take_zero]
 replace hp:=Lib.hid hp
 go_wp2_with fail
 refine za6 rfl fun w2 h2 => ?_
 have e2:w2.heap=w.heap:=h2.heap.trans (hp.out.heap.trans e1)
 have o2:w2.os=w.os∧w2.output=w.output:=⟨(h2.outs.1.trans hp.out.outs.1).trans o1.1,(h2.outs.2.trans hp.out.outs.2).trans o1.2⟩
 clear h2 hp wp e1 o1 w1
 refine zaz rm_xc rfl rfl (by decide) rfl Try.func25 (by kernel_rfl) (by kernel_rfl) ?_
 walk_nrm
 rw [enter_at _ Try.func25 rfl]
 simp only [Try.ntmps25,List.size_toArray,List.length_cons,List.length_nil,Nat.reduceAdd,Nat.reduceSub,Array.replicate_succ,
   Array.replicate_zero,List.push_toArray,List.append_toArray,List.nil_append,List.cons_append]
 refine zae rm_xc fun R1 hR1 => ?_
 refine zcj prgN (zab zag (by kernel_rfl)) rfl (zaa Try.func25) rfl fun wp hp => ?_
 replace hp:=Lib.hid hp
 go_wp2_with fail
 refine fun w3 h3 => ?_
 have e3:w3.heap=w2.heap:=h3.heap.trans hp.out.heap
 have o3:w3.os=w2.os∧w3.output=w2.output:=⟨h3.outs.1.trans hp.out.outs.1,h3.outs.2.trans hp.out.outs.2⟩
 clear h3 hp wp
 obtain rfl:=hR1.out
 clear hR1
 refine zae rm_xc fun R1 hR1 => ?_
 refine rm_reg 1 (by decide) (by decide) (zaj (by kernel_rfl)) fun wp hp => ?_
 simp only [List.take_succ_cons,List.take_zero]
 replace hp:=Lib.hid hp
 go_wp2_with fail
 refine za6 rfl fun w4 h4 => ?_
 have e4:w4.heap=w.heap:=h4.heap.trans (hp.out.heap.trans (e3.trans e2))
 have o4:w4.os=w.os∧w4.output=w.output:=⟨(h4.outs.1.trans hp.out.outs.1).trans (o3.1.trans o2.1),(h4.outs.2.trans hp.out.outs.2).trans (o3.2.trans o2.2)⟩
 clear h4 hp wp e3 o3 e2 o2 w2 w3
 refine zaz rm_xc rfl rfl (by decide) rfl Try.func86 (by kernel_rfl) (by kernel_rfl) ?_
 walk_nrm
 obtain ⟨oo,hoo⟩:∃ oo,oo=(w4.os,w4.output):=⟨_,rfl⟩
 obtain ⟨m0,hm0⟩:∃ m0:SM GateS,m0=⟨s,fun _=>[]⟩:=⟨_,rfl⟩
 have hR4:RepG gb m0 own w4:=by rw [hm0];exact locG gb ⟨s,fun _=>[]⟩ own own w w4 hR (zcs fun b hb=>by rw [e4])
 open Classical in
 refine rm_md (Q:=fun _ m=>m=m0) (o:=oo) (φ:=zbn fun m=>(fun l=>if l=s.mem then finF else cutF) m.st.mem m) (m:=m0) (x:=0) (own:=own) (A:=fun _=>False) (w₀:=⟨w4.heap,m0,own⟩) (Rep:=RepG gb) ?_ (by rw [hoo];exact ⟨rfl,rfl⟩) (ff_step (by decide) (by subst hm0;show FF _ (if s.mem=s.mem then finF else cutF) _ _;rw [if_pos rfl];rfl))
 have O:(niMd (RepG gb) 0 Z (fun _ m=>m=m0) oo).Ok:=niMd_ok (locG gb)
 refine list_cps (md:=niMd (RepG gb) 0 Z (fun _ m=>m=m0) oo) (L:=idL GateS) (A:=fun _=>False) (w₀:=⟨w4.heap,m0,own⟩) O partNi (κ:=fun l=>if l=s.mem then finF else cutF) (.inr rfl) trivial (fun l v A₁ w₁ L1 hrow hrb hm => ?_) _ _ _ _ ⟨trivial,hR4,fun b hb=>hfr b (by rw [e4] at hb;exact hb),fun b hb=>hb.elim,rfl,.refl⟩
 intro y5 own5 w5 m5 C5 hk5 hQ
 by_cases hl:l=s.mem
 rotate_left
 ·
  rw [if_neg hl] at hQ
  exact hQ.elim
 rw [if_pos hl] at hQ
 have hm5:m5=m0:=hQ
 subst hl
 have hG:GateAt gb m5.st own5 w5:=C5.rep
 rw [hm5,hm0] at hG
 have keep:∀ b,b < w.heap.size→b≠gb→w5.heap[b]?=w.heap[b]?:=fun b hb hne=>by
  obtain ⟨t,ht⟩:=hfz b hb hne
  obtain ⟨q1,q2⟩:=L1.tag b t ht
  exact ((C5.tg b t q1).2.trans q2).trans (by show w4.heap[b]?=_;rw [e4])
 have hgs:gb < w.heap.size:=by
  obtain ⟨_,_,q,_⟩:=hR.cell
  exact (Array.getElem?_eq_some_iff.1 q).1
 have hs5:w.heap.size≤w5.heap.size:=by
  obtain ⟨_,_,qg,_⟩:=hG.cell
  have g5:=(Array.getElem?_eq_some_iff.1 qg).1
  rcases Nat.lt_or_ge w5.heap.size w.heap.size with z | z
  ·
   obtain ⟨t,ht⟩:=hfz _ z (by omega)
   have h1:=(C5.tg _ t (L1.tag _ t ht).1).1
   rw [C5.fresh _ (Nat.le_refl _)] at h1
   cases h1
  ·
   exact z
 rw [hoo] at hk5
 have o5:w5.os=w.os∧w5.output=w.output:=⟨hk5.1.trans o4.1,hk5.2.trans o4.2⟩
 obtain ⟨n,hn⟩:∃ n,s.mem.length=n:=⟨_,rfl⟩
 have hn64:n≤64:=by rw [← hn];exact zbp hm
 obtain ⟨va,vc,rfl,hcell⟩:∃ va vc,v = .slice va n vc∧(s.mem≠[]→∃ b off,va=some ⟨b,off,none⟩∧b < w5.heap.size∧∀ j x,s.mem[j]?=some x→w5.cell? ⟨b,off+j,none⟩=some (.int .i64 x)):=by
  obtain ⟨_,va,vc,rfl,_,q⟩:=hrow
  refine ⟨va,vc,by rw [hn],fun hne => ?_⟩
  obtain ⟨b,off,cc,rfl,q1,q2,q3⟩:=q hne
  have hb:=(C5.mine b (hrb b ⟨hne,off,_,vc,rfl⟩).1).2.trans q2
  exact ⟨b,off,rfl,(Array.getElem?_eq_some_iff.1 hb).1,fun j x hj=>(zac hb _).trans (q3 j x hj)⟩
 have hnum:∀ j,j < 64→w5.cell? ⟨gb,1+j,none⟩=some (.int .i64 (s.num j)):=fun j hj=>by
  obtain ⟨_,cc,q1,_,_,q2,_⟩:=hG.cell
  exact (zac q1 _).trans (q2 j hj)
 have hg5:gb < w5.heap.size:=by omega
 clear hG C5 hrow hrb hm hQ hm5 L1 O hR4 hm0 hfz hfr hR e4 o4 hk5 hoo
 rw [Frame.finish_at]
 walk_nrm
 refine zc1 2 1 (by decide) (by decide) (zaj (by kernel_rfl)) fun wp hp => ?_
 simp only [List.drop_succ_cons,List.drop_zero,List.take_succ_cons,List.take_zero]
 replace hp:=Lib.hid hp
 go_wp2_with fail
 refine za6 rfl fun w6 h6 => ?_
 have e6:w6.heap=w5.heap:=h6.heap.trans hp.out.heap
 have o6:w6.os=w.os∧w6.output=w.output:=⟨(h6.outs.1.trans hp.out.outs.1).trans o5.1,(h6.outs.2.trans hp.out.outs.2).trans o5.2⟩
 clear h6 hp wp
 refine zad rm_xc ?_
 obtain rfl:=hR1.out
 clear hR1
 refine zc0 rm_xc ?_
 refine za0 rm_xc (zaa Try.func25) (zcn _) (by rw [zdi];exact ⟨rfl,rfl,rfl,_,Try.func25,results_tmp rfl _ _ _⟩) ?_
 show RM Try.prog Z (G (Frame.finish _ (.slice va n vc)) (c::cs)) w6
 rw [Frame.finish_at]
 walk_nrm
 refine zc1 2 1 (by decide) (by decide) (zaj (by kernel_rfl)) fun wp hp => ?_
 simp only [List.drop_succ_cons,List.drop_zero,List.take_succ_cons,List.take_zero]
 replace hp:=Lib.hid hp
 go_wp2_with fail
 refine za6 rfl fun w7 h7 => ?_
 have e7:w7.heap=w5.heap:=(h7.heap.trans hp.out.heap).trans e6
 have o7:w7.os=w.os∧w7.output=w.output:=⟨(h7.outs.1.trans hp.out.outs.1).trans o6.1,(h7.outs.2.trans hp.out.outs.2).trans o6.2⟩
 clear h7 hp wp e6 o6 w6
 refine zad rm_xc ?_
 obtain rfl:=hR0.out
 clear hR0
 obtain ⟨N,hN⟩:∃ N,w5.heap.size=N:=⟨_,rfl⟩
 refine zae rm_xc fun R0 hR0 => ?_
 refine zcj prgN (zab zag (by kernel_rfl)) rfl (zaa Try.func80) rfl fun wp hp => ?_
 have hsz:wp.heap.size=N:=by rw [hp.heap,e7];exact hN
 replace hsz:=Lib.hid hsz
 replace hN:=Lib.hid hN
 replace hn:=Lib.hid hn
 replace hp:=Lib.hid hp
 go_wp2_with fail
 rw [hsz.out]
 refine fun w8 h8 => ?_
 have a8:w8.heap=(wp.alloc (.cells #[.int .i64 n] 2)).heap:=h8.heap
 have e8:w8.heap[N]?=some (.cells #[.int .i64 n] 2 (0,0)):=by rw [a8,← hsz.out];exact heap_alloc_new _ _
 have s8:w8.heap.size=N+1:=by rw [a8];simp [hsz.out]
 have low8:∀ b,b < N→w8.heap[b]?=w5.heap[b]?:=fun b hb=>by rw [a8,Below.heap_alloc _ _ _ (by rw [hsz.out];exact hb),hp.out.heap,e7]
 have o8:w8.os=w.os∧w8.output=w.output:=⟨(h8.outs.1.trans hp.out.outs.1).trans o7.1,(h8.outs.2.trans hp.out.outs.2).trans o7.2⟩
 have r8:w8.ownsRow N 2 1 (.slice (some ⟨N,0,none⟩) 1 1) 1 (zax [(n:Int)]):=⟨rfl,.inr ⟨N,1,_,rfl,Nat.le_refl _,e8,by decide,by decide,rfl,rfl⟩⟩
 clear h8 hp hsz wp e7 o7 w7 a8 e8
 obtain rfl:=hR0.out
 clear hR0
 refine zae rm_xc fun R0 hR0 => ?_
 obtain ⟨i1,hi1,hz1,hz11,hz12⟩:=info_parts info2g
 refine zcj prgN (zab zag (by kernel_rfl)) rfl (zaa Try.func80) rfl fun wp hp => ?_
 have r8p:wp.ownsRow N 2 1 (.slice (some ⟨N,0,none⟩) 1 1) 1 (zax [(n:Int)]):=zdw r8 hp.heap
 have hszp:N≤wp.heap.size:=by rw [hp.heap];omega
 have lowp:∀ b,b < N→wp.heap[b]?=w5.heap[b]?:=fun b hb=>by rw [hp.heap];exact low8 b hb
 replace hp:=Lib.hid hp
 replace r8p:=Lib.hid r8p
 replace lowp:=Lib.hid lowp
 replace hszp:=Lib.hid hszp
 replace hcell:=Lib.hid hcell
 replace s8:=Lib.hid s8
 go_wp2_with fail
 go_loopw [4,14] (fun va iv wr=>∃ (j:Nat),j≤n∧iv = .int .i64 j∧Hid (wr.ownsRow N 2 1 va (1+j) (zax ((n:Int)::s.mem.take j)))∧Hid (Below N wp wr)) (fun _ iv _=>n - (intOf iv).toNat)
 case atStart=>exact ⟨0,by omega,rfl,r8p,Lib.hid (Below.refl _ _)⟩
 case round =>
  obtain ⟨j,hj,rfl,HS,HB⟩:=hrel
  obtain ⟨vp,vcc,rfl⟩:=zbd HS.out
  by_cases hlt2:j < n
  ·
   have hlt':(j:Int) < (n:Int):=by omega
   have hj0:(0:Int)≤(j:Int):=by omega
   obtain ⟨x,hx⟩:∃ x,s.mem[j]?=some x:=⟨_,List.getElem?_eq_getElem (by rw [hn.out];exact hlt2)⟩
   obtain ⟨b,off,hva,hb,hcl⟩:=hcell.out (by intro z;rw [z] at hx;simp at hx)
   have q1:wr.cell? ⟨b,off+j,none⟩=some (.int .i64 x):=by
    have hb':b < N:=by rw [← hN.out];exact hb
    exact (World.cell?_of_block (w:=w5) ((HB.out.block _ hb').trans (lowp.out b hb'))).trans (hcl j x hx)
   have hsz:=Lib.hid (Nat.le_trans hszp.out HB.out.size)
   have HSx:=Lib.hid (src_new wr x 2)
   have HO1:=Lib.hid (HS.out.alloc (.cells #[.int .i64 x] 2))
   have HBa:=Lib.hid (HB.out.alloc (by have:=hsz.out;omega) (.cells #[.int .i64 x] 2))
   have htk:s.mem.take (j+1)=s.mem.take j++[x]:=by rw [List.take_add_one,hx];rfl
   replace htk:=Lib.hid htk
   have e1:IntKind.i64.wrap ((j:Int)+1)=((j+1:Nat):Int):=by rw [IntKind.wrap_i64];omega
   clear hx hb hcl
   subst hva
   go_wp2_with (at_builtin;(refine zan rfl (.tmp 18) (.tmp 20) 22 rfl N 2 i1 _ _ Try.underlying22 hi1 hz1 hz11 hz12 rfl (.slice vp (1+j) vcc) (1+j) _ rfl HO1.out 1 _ HSx.out ?l2 ?b2 ?n2 ?_);(case l2=>(unfold maxLen;omega));(case b2=>omega);(case n2=>(have h1:=hsz.out;simp;omega));intro v' w1 ha;obtain ⟨ho,hg,hsh⟩:=ha;have HH:=Lib.hid ho;have HB2:=Lib.hid (zbt HO1.out HBa.out (by have h1:=hsz.out;simp;omega) hg);clear ho hg hsh)
   refine ⟨⟨j+1,by omega,by rw [Int.natCast_add];rfl,?_,HB2⟩,by simp [intOf];omega⟩
   rw [htk.out]
   have e2:zax ((n:Int)::(s.mem.take j++[x]))=zax ((n:Int)::s.mem.take j)++[.int .i64 x]:=by simp [zax]
   rw [e2]
   exact HH
  ·
   have hlt':¬ (j:Int) < (n:Int):=by omega
   obtain rfl:j=n:=by omega
   go_wp2_with fail
   refine fun w9 h9 => ?_
   have r9:w9.ownsRow N 2 1 (.slice vp (1+j) vcc) (1+j) (zax ((j:Int)::s.mem)):=by
    have:=zdw HS.out h9.heap
    rwa [List.take_of_length_le (by rw [hn.out];exact Nat.le_refl _)] at this
   have low9:∀ b,b < N→w9.heap[b]?=w5.heap[b]?:=fun b hb=>by rw [h9.heap,HB.out.block b hb];exact lowp.out b hb
   have s9:N≤w9.heap.size:=by rw [h9.heap];exact Nat.le_trans hszp.out HB.out.size
   have o9:w9.os=w.os∧w9.output=w.output:=⟨(h9.outs.1.trans (HB.out.os.trans hp.out.outs.1)).trans o8.1,(h9.outs.2.trans (HB.out.output.trans hp.out.outs.2)).trans o8.2⟩
   clear h9 HS HB
   obtain rfl:=hR0.out
   refine zae rm_xc fun R1 hR1 => ?_
   refine zcj prgN (zab zag (by kernel_rfl)) rfl (zaa Try.func80) rfl fun wq hq => ?_
   have r9q:wq.ownsRow N 2 1 (.slice vp (1+j) vcc) (1+j) (zax ((j:Int)::s.mem)):=zdw r9 hq.heap
   have hsq:N≤wq.heap.size:=by rw [hq.heap];exact s9
   have hgN:gb < N:=by rw [← hN.out];exact hg5
   have hnw:=numbers_walk (gb:=gb) (num:=s.num) wq (by omega) fun i hi=>(World.cell?_of_block (w:=w5) (by show wq.heap[gb]?=w5.heap[gb]?;rw [hq.heap];exact low9 gb hgN)).trans (hnum i hi)
   replace hq:=Lib.hid hq
   replace r9q:=Lib.hid r9q
   replace hsq:=Lib.hid hsq
   replace hnw:=Lib.hid hnw
   unfold gpv at hnw
   go_wp2_with (first
    | (go_at_call 26;refine hnw.out.mono ?_;rintro e w' ⟨v',rfl,hr',hB'⟩;have HR:=Lib.hid hr';have HBl:=Lib.hid hB';have HO1:=Lib.hid (zaq r9q.out (w':=w') fun g ob hg hh=>(hB'.block g (zb6 r9q.out hg).2).trans hh);clear hr' hB')
    | (at_builtin;(refine zan rfl (.tmp 23) (.tmp 25) 22 rfl N 2 i1 _ _ Try.underlying22 hi1 hz1 hz11 hz12 rfl (.slice vp (1+j) vcc) (1+j) _ rfl HO1.out 64 _ (src_row HR.out) ?l2 ?b2 ?n2 ?_);(case l2=>(unfold maxLen;omega));(case b2=>omega);(case n2=>(have h1:=HBl.out.size;have h2:=hsq.out;omega));intro v' w1 ha;obtain ⟨ho,hg,hsh⟩:=ha;have HH:=Lib.hid ho;have HB2:=Lib.hid (zbt HO1.out ((Below.refl N wq).trans (HBl.out.mono hsq.out)) (by have h1:=HBl.out.size;have h2:=hsq.out;omega) hg);clear ho hg hsh))
   refine fun w10 h10 => ?_
   have r10:=zdw HH.out h10.heap
   obtain rfl:=hR1.out
   refine zc0 rm_xc ?_
   refine za0 rm_xc (zaa Try.func80) (zcn _) (by rw [zdi];exact ⟨rfl,rfl,rfl,_,Try.func80,results_tmp rfl _ _ _⟩) ?_
   have el:(stateL s).length=1+j+64:=by unfold stateL;simp [numsL,hn.out];omega
   have ev:zax (stateL s)=zax ((j:Int)::s.mem)++zax (numsL s.num 64):=by unfold stateL;rw [hn.out];simp [zax]
   refine h.out _ w10 ?_ (fun b hb hne => ?_) ?_ ?_
   ·
    rw [el,ev]
    obtain ⟨q1,q2⟩:=r10
    refine ⟨q1,q2.imp id fun ⟨g,cap,cur,e,k1,k2⟩=>⟨g,cap,cur,e,by have:=hN.out;omega,k2⟩⟩
   ·
    have hbN:b < N:=by have:=hN.out;omega
    rw [h10.heap,HB2.out.block b hbN,hq.out.heap,low9 b hbN]
    exact keep b hb hne
   ·
    rw [h10.heap]
    have:=HB2.out.size
    have:=hsq.out
    have:=hN.out
    omega
   ·
    exact ⟨(h10.outs.1.trans (HB2.out.os.trans hq.out.outs.1)).trans o9.1,(h10.outs.2.trans (HB2.out.output.trans hq.out.outs.2)).trans o9.2⟩
end
end Go.Proofs.Ytofacoojpgkbiaa
/-
 A call of gate.Play,beside goroutines that only leave. No condition of its own.
-/
namespace Go.Proofs.Ytofacoojpgkbiaa
open Go.Conc Go.RowKit
open Go.ConcN (upd upd_ne upd_same)
set_option maxRecDepth 100000
structure Tr where
 ans:List (List Ans)
 ord:List Int
 st:List Int
 stuck:Bool
def AnsIn (w:World) (v:Value) (l:List Ans):Prop :=
 ∃ a cap,v = .slice a l.length cap∧(l≠[]→∃ b o,a=some ⟨b,o,none⟩∧∀ j r,l[j]?=some r→w.cell? ⟨b,o+j * 3,none⟩=some (.bool r.ok)∧w.cell? ⟨b,o+j * 3+1,none⟩=some (.int .i64 r.n)∧∃ u,w.cell? ⟨b,o+j * 3+2,none⟩=some u∧IntsAt w u r.l)
def AnssIn (w:World) (v:Value) (ll:List (List Ans)):Prop :=
 ∃ a cap,v = .slice a ll.length cap∧(ll≠[]→∃ b o,a=some ⟨b,o,none⟩∧∀ i l,ll[i]?=some l→∃ u,w.cell? ⟨b,o+i,none⟩=some u∧AnsIn w u l)
def TrIn (w:World) (v:Value) (T:Tr):Prop:=∃ va vo vs,v = .agg #[va,vo,vs,.bool T.stuck]∧AnssIn w va T.ans∧IntsAt w vo T.ord∧IntsAt w vs T.st
section
variable {w w':World}
theorem zam (h:∀ b,b < w.heap.size→w'.heap[b]?=w.heap[b]?) {a:Addr} {v:Value} (hc:w.cell? a=some v):w'.cell? a=some v :=
 (World.cell?_of_block (w:=w) (h _ (World.block_lt_of_cell? w _ hc))).trans hc
theorem AnsIn.keep (h:∀ b,b < w.heap.size→w'.heap[b]?=w.heap[b]?) {v:Value} {l:List Ans} (hx:AnsIn w v l):AnsIn w' v l:=by
 obtain ⟨a,cap,e,q⟩:=hx
 exact ⟨a,cap,e,fun hne=>by
  obtain ⟨b,o,e1,q1⟩:=q hne
  refine ⟨b,o,e1,fun j x hj => ?_⟩
  obtain ⟨k1,k2,u,k3,k4⟩:=q1 j x hj
  exact ⟨zam h k1,zam h k2,u,zam h k3,k4.mono h⟩⟩
theorem TrIn.keep (h:∀ b,b < w.heap.size→w'.heap[b]?=w.heap[b]?) {v:Value} {T:Tr} (hx:TrIn w v T):TrIn w' v T:=by
 obtain ⟨va,vo,vs,e,⟨a,cap,e1,q⟩,h2,h3⟩:=hx
 exact ⟨va,vo,vs,e,⟨a,cap,e1,fun hne=>by
  obtain ⟨b,o,e2,q1⟩:=q hne
  exact ⟨b,o,e2,fun i l hi=>by
   obtain ⟨u,c,ha⟩:=q1 i l hi
   exact ⟨u,zam h c,ha.keep h⟩⟩⟩,h2.mono h,h3.mono h⟩
theorem IntsIn.keep (h:∀ b,b < w.heap.size→w'.heap[b]?=w.heap[b]?) {v:Value} {xs:List Int} (hx:IntsIn w v xs):IntsIn w' v xs:=by
 obtain ⟨h0,a,cap,e,e',q⟩:=hx
 exact ⟨h0,a,cap,e,e',fun hne=>by
  obtain ⟨b,o,e1,q1⟩:=q hne
  exact ⟨b,o,e1,fun j x hj=>zam h (q1 j x hj)⟩⟩
theorem OpsIn.keep (h:∀ b,b < w.heap.size→w'.heap[b]?=w.heap[b]?) {a:Option Addr} {len cap:Nat} {L:List OpD} (hx:OpsIn w a len cap L):OpsIn w' a len cap L:=by
 obtain ⟨h0,e,e',q⟩:=hx
 exact ⟨h0,e,e',fun hne=>by
  obtain ⟨b,o,e1,q1⟩:=q hne
  exact ⟨b,o,e1,fun j p hj=>⟨zam h (q1 j p hj).1,zam h (q1 j p hj).2.1,zam h (q1 j p hj).2.2.1,zam h (q1 j p hj).2.2.2⟩⟩⟩
theorem ThrIn.keep (h:∀ b,b < w.heap.size→w'.heap[b]?=w.heap[b]?) {v:Value} {LL:List (List OpD)} (hx:ThrIn w v LL):ThrIn w' v LL:=by
 obtain ⟨a,cap,e,ob,ln,cp,q,q2⟩:=hx
 exact ⟨a,cap,e,ob,ln,cp,fun hne=>by
  obtain ⟨b,o,e1,q1⟩:=q hne
  exact ⟨b,o,e1,fun i L hi=>zam h (q1 i L hi)⟩,fun i L hi=>(q2 i L hi).keep h⟩
theorem intsAt_row {base n:Nat} {e:TypeId} {v:Value} {xs:List Int} (h:w.ownsRow base e 1 v n (zax xs)):IntsAt w v xs:=by
 have hl:xs.length=n:=by have:=h.1;rw [intsV_len] at this;omega
 subst hl
 obtain ⟨p,cap,e1,_,q⟩:=zeh h
 refine ⟨p,cap,e1,fun hne => ?_⟩
 obtain ⟨g,c,e2,_,hg,hc⟩:=q (List.length_pos_iff.2 hne)
 refine ⟨g,0,e2,fun j x hj => ?_⟩
 have hlt:=(List.getElem?_eq_some_iff.1 hj).1
 rw [Nat.zero_add,zac hg j,hc j hlt]
 simp [zax,hj]
theorem flatA_get:∀ (l:List Ans) (vs:List Value) (j:Nat) (r:Ans) (u:Value),l[j]?=some r→vs[j]?=some u→(flatA l vs)[j * 3]?=some (.bool r.ok)∧(flatA l vs)[j * 3+1]?=some (.int .i64 r.n)∧(flatA l vs)[j * 3+2]?=some u
 | [],vs,j,r,u,h,_=>by simp at h
 | x::l,[],j,r,u,_,h=>by simp at h
 | x::l,v::vs,0,r,u,h,h2=>by
  obtain rfl:x=r:=by simpa using h
  obtain rfl:v=u:=by simpa using h2
  simp [flatA,cellR]
 | x::l,v::vs,j+1,r,u,h,h2=>by
  have h':l[j]?=some r:=by simpa using h
  have h2':vs[j]?=some u:=by simpa using h2
  have e:flatA (x::l) (v::vs)=cellR x v++flatA l vs:=rfl
  have el:(cellR x v).length=3:=rfl
  obtain ⟨q1,q2,q3⟩:=flatA_get l vs j r u h' h2'
  rw [e]
  refine ⟨?_,?_,?_⟩
  ·
   rw [List.getElem?_append_right (by omega),el];simpa [show (j+1) * 3 - 3=j * 3 by omega] using q1
  ·
   rw [List.getElem?_append_right (by omega),el];simpa [show (j+1) * 3+1 - 3=j * 3+1 by omega] using q2
  ·
   rw [List.getElem?_append_right (by omega),el];simpa [show (j+1) * 3+2 - 3=j * 3+2 by omega] using q3
theorem anssIn_rep {Z:AL} {an:Nat→List Ans} {c:Array Value} {vs:Nat→List Value} {own:Nat→Owner} (h:AnsRep Z an c vs own w) (hk:∀ (b:Nat) (c:Array Value) (t:TypeId),w.heap[b]?=some (Obj.cells c t (0,0))→t=40∨t=42∨t=2→w'.heap[b]?=w.heap[b]?):AnssIn w' (.slice (some ⟨Z.ar,0,none⟩) Z.n Z.n) ((List.range Z.n).map an):=by
 refine ⟨_,Z.n,by simp,fun hne=>⟨Z.ar,0,rfl,fun i l hi => ?_⟩⟩
 have hlt:i < Z.n:=by
  have:=(List.getElem?_eq_some_iff.1 hi).1
  simpa using this
 obtain rfl:an i=l:=by simpa [hlt] using hi
 have hi':i < c.size:=by have:=h.size;omega
 have hrow:=h.row i hlt
 have hlen:=h.len i hlt
 refine ⟨c.getD i undef,?_,?_⟩
 ·
  rw [Nat.zero_add,zac ((hk _ _ 40 h.ar (.inl rfl)).trans h.ar) i]
  simp [hi']
 ·
  rcases hrow.2 with ⟨e,q⟩ | ⟨g,cap,cur,e,q1,q2,q3,q4,q5,q6⟩
  ·
   rw [e]
   exact ⟨none,0,by rw [q],fun hne=>absurd (List.length_eq_zero_iff.1 q) hne⟩
  ·
   rw [e]
   refine ⟨_,cap,rfl,fun hne=>⟨g,0,rfl,fun j r hj => ?_⟩⟩
   have hjl:=(List.getElem?_eq_some_iff.1 hj).1
   obtain ⟨u,hu⟩:∃ u,(vs i)[j]?=some u:=⟨_,List.getElem?_eq_getElem (by omega)⟩
   obtain ⟨a1,a2,a3⟩:=flatA_get _ _ j r u hj hu
   have get:∀ x,x < (an i).length * 3→cur[x]?=(flatA (an i) (vs i))[x]?:=fun x hx=>by
    rw [← q6,List.getElem?_take_of_lt hx]
    simp
   have q2':=(hk _ _ 42 q2 (.inr (.inl rfl))).trans q2
   rw [Nat.zero_add,zac q2',zac q2',zac q2',get _ (by omega),get _ (by omega),get _ (by omega)]
   refine ⟨a1,a2,u,a3,intsAt_row (zaq (h.lst i j r u hlt hj hu).row fun g' ob hg hh => ?_)⟩
   obtain ⟨cc,hcc⟩:=zak (h.lst i j r u hlt hj hu).row hg
   exact (hk _ _ 2 hcc (.inr (.inr rfl))).trans hh
end
theorem gate_keep {gb:Nat} {s:GateS} {own own':Nat→Owner} {w w':World} (h:GateAt gb s own w) (h1:own' gb = .sh∧w'.heap[gb]?=w.heap[gb]?) (ht:∀ b v,0 < v→own b = .tag v→own' b = .tag v∧w'.heap[b]?=w.heap[b]?) (hn:∀ b v,own' b = .tag v→own b = .tag v∨v≤1):GateAt gb s own' w':=by
 obtain ⟨a,⟨p,c,c1,c2,c3,c4,c5⟩,d,e,f,g⟩:=h
 have hh:∀ b t,own' b = .tag (t+2)→own b = .tag (t+2):=fun b t hb=>(hn b _ hb).resolve_right (by omega)
 refine ⟨h1.1,⟨p,c,h1.2.trans c1,c2,c3,c4,?_⟩,d,e,fun b b' t q1 q2=>f b b' t (hh _ _ q1) (hh _ _ q2),fun b t q=>g b t (hh _ _ q)⟩
 rcases c5 with c5 | ⟨h0,kb,v,e1,e2,e3,e4⟩
 ·
  exact .inl c5
 ·
  exact .inr ⟨h0,kb,v,e1,(ht _ _ (Nat.succ_pos _) e2).1,(ht _ _ (Nat.succ_pos _) e2).2.trans e3,e4.keep1 ht⟩
def moF (most:Int):Nat:=(min (max most 0) 1048576).toNat
def gameG (l:List Int) (LL:List (List OpD)) (sch:List Int) (most:Int):GSt (SM GateS):=gameO (doG (idL GateS) (moF most)) (stB (l.take 64) (l.take 64).length) LL sch most
def trG (l:List Int) (LL:List (List OpD)) (sch:List Int) (most:Int):Tr :=
 ⟨(List.range (min LL.length 64)).map (gameG l LL sch most).m.an,(gameG l LL sch most).ord,stateL (gameG l LL sch most).m.st,decide (0 < zbe (gameG l LL sch most).co (min LL.length 64))⟩
open Classical in
theorem play_runs {Q:Machine→Trace→Prop} {c:Frame} {cs:List Frame} {w:World} {l:List Int} {LL:List (List OpD)} {sch:List Int} {vl vt vs:Value} (hW:IntsIn w vl l) (hT:ThrIn w vt LL) (hLL:LL.length≤1000000000) (hlen:l.length≤1000000000) (hS:IntsIn w vs sch) (hnS:sch.length≤1048576) {most:Int} (hmost:most < 9223372036854775808)
  (h:∀ tv w',TrIn w' tv (trG l LL sch most)→(∀ b,b < w.heap.size→w'.heap[b]?=w.heap[b]?)→w.heap.size≤w'.heap.size→(w'.os=w.os∧w'.output=w.output)→RM Try.prog Q (G (c.finish tv) cs) w') :
  RM Try.prog Q (G (Frame.enter Try.prog 18 #[vl,vt,vs,.int .i64 most] .normal) (c::cs)) w:=by
 rw [enter_at _ Try.func18 rfl]
 simp only [Try.ntmps18,List.size_toArray,List.length_cons,List.length_nil,Nat.reduceAdd,Nat.reduceSub,Array.replicate_succ,
   Array.replicate_zero,List.push_toArray,List.append_toArray,List.nil_append,List.cons_append]
 replace h:=Lib.hid h
 refine zae rm_xc fun R0 hR0 => ?_
 refine zcj prgN (zab zag (by kernel_rfl)) rfl (zaa Try.func18) rfl fun wp hp => ?_
 go_wp2_with fail
 refine fun wa ha => ?_
 obtain ⟨N,hN⟩:∃ N,w.heap.size=N:=⟨_,rfl⟩
 have sz0:wp.heap.size=N:=by rw [hp.heap];exact hN
 have szA:wa.heap.size=N+1:=by rw [ha.heap];simp [sz0]
 have eA:wa.heap[N]?=some (.cells #[.slice none 0 0,.slice none 0 0,.slice none 0 0,.bool false] 31 (0,0)):=by rw [ha.heap,← sz0];exact heap_alloc_new _ _
 have lowA:∀ b,b < N→wa.heap[b]?=w.heap[b]?:=fun b hb=>by rw [ha.heap,Below.heap_alloc _ _ _ (by omega),hp.heap]
 have outA:wa.os=w.os∧wa.output=w.output:=⟨ha.outs.1.trans hp.outs.1,ha.outs.2.trans hp.outs.2⟩
 rw [sz0]
 clear ha hp sz0 wp
 obtain rfl:=hR0.out
 clear hR0
 refine zae rm_xc fun R0 hR0 => ?_
 refine rm_reg 1 (by decide) (by decide) (zaj (by kernel_rfl)) fun wp hp => ?_
 simp only [List.take_succ_cons,List.take_zero]
 replace hp:=Lib.hid hp
 go_wp2_with fail
 refine za6 rfl fun wb hb => ?_
 have eb:wb.heap=wa.heap:=hb.heap.trans hp.out.heap
 have ob:wb.os=w.os∧wb.output=w.output:=⟨(hb.outs.1.trans hp.out.outs.1).trans outA.1,(hb.outs.2.trans hp.out.outs.2).trans outA.2⟩
 clear hb hp wp
 have lowB:∀ b,b < w.heap.size→wb.heap[b]?=w.heap[b]?:=fun b hb=>by rw [eb];exact lowA b (by omega)
 have hWb:=hW.keep lowB
 have hTb:=hT.keep lowB
 have hSb:=hS.keep lowB
 refine zaz rm_xc rfl rfl (by decide) rfl Try.func77 (by kernel_rfl) (by kernel_rfl) ?_
 walk_nrm
 refine begun_runs hWb hlen fun gb ownF w2 NF o2' => ?_
 have o2:w2.os=w.os∧w2.output=w.output:=⟨o2'.1.trans ob.1,o2'.2.trans ob.2⟩
 rw [Frame.finish_at]
 walk_nrm
 unfold gpv
 refine zc1 2 1 (by decide) (by decide) (zaj (by kernel_rfl)) fun wp hp => ?_
 simp only [List.drop_succ_cons,List.drop_zero,List.take_succ_cons,List.take_zero]
 replace hp:=Lib.hid hp
 go_wp2_with fail
 refine za6 rfl fun w3 h3 => ?_
 have e3:w3.heap=w2.heap:=h3.heap.trans hp.out.heap
 have o3:w3.os=w.os∧w3.output=w.output:=⟨(h3.outs.1.trans hp.out.outs.1).trans o2.1,(h3.outs.2.trans hp.out.outs.2).trans o2.2⟩
 clear h3 hp wp
 refine zad rm_xc ?_
 obtain rfl:=hR0.out
 clear hR0
 refine zae rm_xc fun R0 hR0 => ?_
 refine rm_reg 5 (by decide) (by decide) (zaj (by kernel_rfl)) fun wp hp => ?_
 simp only [List.take_succ_cons,List.take_zero]
 replace hp:=Lib.hid hp
 go_wp2_with fail
 refine za6 rfl fun w4 h4 => ?_
 have e4:w4.heap=w2.heap:=(h4.heap.trans hp.out.heap).trans e3
 have o4:w4.os=w.os∧w4.output=w.output:=⟨(h4.outs.1.trans hp.out.outs.1).trans o3.1,(h4.outs.2.trans hp.out.outs.2).trans o3.2⟩
 clear h4 hp wp e3 o3
 have NF4:=NF.more (famGate gb) (w2:=w4) (by rw [e4];exact Nat.le_refl _) fun b _=>by rw [e4]
 have sb:=NF4.size
 have hgbW:wb.heap.size≤gb:=by
  rcases Nat.lt_or_ge gb wb.heap.size with z | z
  ·
   have h1:=NF4.old gb z
   rw [NF4.rep.sh] at h1
   cases h1
  ·
   exact z
 clear NF
 refine zaz rm_xc rfl rfl (by decide) rfl Try.func78 (by kernel_rfl) (by kernel_rfl) ?_
 walk_nrm
 refine ops_runs (famGate gb) (fdo:=79) (recv:=gpv gb) (doφ:=doG (idL GateS) (moF most)) Try.func79 (by kernel_rfl) (by kernel_rfl) (fun Z U i=>doG_ok (thMd_ok (GRep.local (famGate gb))) (partGate rfl) _ (fun hR=>GRep.size hR)) (fun i o κ hκ=>fp_doG o κ hκ) (fun o κ hκ=>fd_doG (Nat.le_refl _) o κ hκ) NF4 hTb hLL hSb hnS hmost fun Z own' w5 vo Yn Zlo R5 low5 sz5 outs5 fr5 row5 => ?_
 change GRep (GateAt gb) Z (gameG l LL sch most).m own' w5 at R5
 change w5.ownsRow w4.heap.size 3 1 vo (gameG l LL sch most).ord.length (zax (gameG l LL sch most).ord) at row5
 have hst:zbe (gameO (doG (idL GateS) (moF most)) (stB (l.take 64) (l.take 64).length) LL sch most).co (min LL.length 64)=zbe (gameG l LL sch most).co (min LL.length 64):=rfl
 rw [hst]
 have htr:trG l LL sch most=⟨(List.range (min LL.length 64)).map (gameG l LL sch most).m.an,(gameG l LL sch most).ord,stateL (gameG l LL sch most).m.st,decide (0 < zbe (gameG l LL sch most).co (min LL.length 64))⟩:=rfl
 rw [htr] at h
 generalize gameG l LL sch most=gf at *
 clear hst htr
 have o5:w5.os=w.os∧w5.output=w.output:=⟨outs5.1.trans o4.1,outs5.2.trans o4.2⟩
 have hNb:wb.heap.size=N+1:=by rw [eb];exact szA
 clear NF4 outs5 hTb hSb hWb
 rw [Frame.finish_at]
 obtain ⟨n,hn⟩:∃ n,min LL.length 64=n:=⟨_,rfl⟩
 rw [hn] at Yn h ⊢
 obtain ⟨vp,vc2,rfl⟩:∃ vp vc2,vo = .slice vp gf.ord.length vc2:=zbd row5
 rw [Yn]
 obtain ⟨K,hK⟩:∃ K,w5.heap.size=K:=⟨_,rfl⟩
 refine zc1 6 2 (by decide) (by decide) (zaj (by kernel_rfl)) fun wp hp => ?_
 simp only [List.drop_succ_cons,List.drop_zero,List.take_succ_cons,List.take_zero]
 unfold traceV
 have szp:wp.heap.size=K:=by rw [hp.heap];exact hK
 replace hp:=Lib.hid hp
 replace row5:=Lib.hid row5
 replace hn:=Lib.hid hn
 replace Yn:=Lib.hid Yn
 go_wp2_with fail
 refine za6 rfl fun w6 h6 => ?_
 refine zad rm_xc ?_
 obtain rfl:=hR0.out
 clear hR0
 have e6:w6.heap[K]?=some (.cells #[.slice (some ⟨Z.ar,0,none⟩) n n,.slice vp gf.ord.length vc2,.slice none 0 0,.bool (decide (0 < zbe gf.co n))] 31 (0,0)):=by
  rw [h6.heap,← szp];exact heap_alloc_new _ _
 have low6:∀ b,b < K→w6.heap[b]?=w5.heap[b]?:=fun b hb=>by rw [h6.heap,Below.heap_alloc _ _ _ (by omega),hp.out.heap]
 have sz6:w6.heap.size=K+1:=by rw [h6.heap];simp [szp]
 have o6:w6.os=w.os∧w6.output=w.output:=⟨(h6.outs.1.trans hp.out.outs.1).trans o5.1,(h6.outs.2.trans hp.out.outs.2).trans o5.2⟩
 have eA6:w6.heap[N]?=some (.cells #[.slice none 0 0,.slice none 0 0,.slice none 0 0,.bool false] 31 (0,0)):=(low6 _ (by omega)).trans ((low5 _ (by omega)).trans (by rw [eb];exact eA))
 clear h6 hp szp wp
 obtain ⟨gp,gc,g1,_⟩:=R5.fam.cell
 have og:=R5.fam.sh
 have gK:gb < K:=by have:=(Array.getElem?_eq_some_iff.1 g1).1;omega
 let own2:Nat→Owner:=fun b=>if b=gb then .sh else if ∃ t,0 < t∧own' b = .tag t then own' b else if b < K+1 then .tag 0 else .out
 have Rz:GateAt gb gf.m.st own2 w6:=by
  refine gate_keep R5.fam ⟨if_pos rfl,low6 gb gK⟩ (fun b v hv hb=>⟨?_,low6 b ?_⟩) fun b v hb => ?_
  ·
   have hne:b≠gb:=fun z=>by rw [z,og] at hb;cases hb
   show (if b=gb then _ else _)=_
   rw [if_neg hne,if_pos ⟨v,hv,hb⟩]
   exact hb
  ·
   rcases Nat.lt_or_ge b K with z | z
   ·
    exact z
   ·
    rw [fr5 b (by omega)] at hb;cases hb
  ·
   have hb':(if b=gb then Owner.sh else if ∃ t,0 < t∧own' b = .tag t then own' b else if b < K+1 then .tag 0 else .out) = .tag v:=hb
   split at hb'
   ·
    cases hb'
   ·
    split at hb'
    ·
     exact .inl hb'
    ·
     split at hb'
     ·
      cases hb'
      exact .inr (by omega)
     ·
      cases hb'
 refine zae rm_xc fun R0 hR0 => ?_
 refine rm_reg 1 (by decide) (by decide) (zaj (by kernel_rfl)) fun wp hp => ?_
 simp only [List.take_succ_cons,List.take_zero]
 replace hp:=Lib.hid hp
 go_wp2_with fail
 refine za6 rfl fun w7 h7 => ?_
 have e7:w7.heap=w6.heap:=h7.heap.trans hp.out.heap
 have o7:w7.os=w.os∧w7.output=w.output:=⟨(h7.outs.1.trans hp.out.outs.1).trans o6.1,(h7.outs.2.trans hp.out.outs.2).trans o6.2⟩
 clear h7 hp wp
 refine zaz rm_xc rfl rfl (by decide) rfl Try.func80 (by kernel_rfl) (by kernel_rfl) ?_
 walk_nrm
 have Rz7:GateAt gb gf.m.st own2 w7:=gate_keep Rz ⟨if_pos rfl,by rw [e7]⟩ (fun b v _ hb=>⟨hb,by rw [e7]⟩) fun b v hb => .inl hb
 have fr2:∀ b,w7.heap.size≤b→own2 b = .out:=fun b hb=>by
  rw [e7,sz6] at hb
  show (if b=gb then _ else _)=_
  rw [if_neg (by omega),if_neg (by rintro ⟨t,_,z⟩;rw [fr5 b (by omega)] at z;cases z),if_neg (by omega)]
 refine state_runs Rz7 fr2 (fun b hb hne => ?hfz) fun sv w8 row8 low8 sz8 o8' => ?_
 case hfz =>
  rw [e7,sz6] at hb
  show ∃ t,(if b=gb then _ else _)=_
  rw [if_neg hne]
  split
  ·
   rename_i hx
   obtain ⟨t,_,ht⟩:=hx
   exact ⟨t,ht⟩
  ·
   exact ⟨0,rfl⟩
 have o8:w8.os=w.os∧w8.output=w.output:=⟨o8'.1.trans o7.1,o8'.2.trans o7.2⟩
 have k8:∀ b,b < K+1→b≠gb→w8.heap[b]?=w6.heap[b]?:=fun b hb hne=>(low8 b (by rw [e7,sz6];exact hb) hne).trans (by rw [e7])
 have nK:K≠gb:=by omega
 have nN:N≠gb:=fun z=>by
  rw [← z] at g1
  have h1:w5.heap[N]?=some (.cells #[.slice none 0 0,.slice none 0 0,.slice none 0 0,.bool false] 31 (0,0)):=(low5 N (by omega)).trans (by rw [eb];exact eA)
  rw [h1] at g1
  simp at g1
 have e8:=(k8 K (by omega) nK).trans e6
 have eA8:=(k8 N (by omega) nN).trans eA6
 have sz8':K+1≤w8.heap.size:=by rw [e7,sz6] at sz8;exact sz8
 have hK7:w7.heap.size=K+1:=by rw [e7];exact sz6
 rw [hK7] at row8
 clear o8' low8 sz8 fr2 Rz7 Rz o7 o6 o5 o4 o2 ob outA hK7 e7
 rw [Frame.finish_at]
 walk_nrm
 obtain ⟨sp,sc,rfl⟩:=zbd row8
 obtain ⟨sn,hsn⟩:∃ sn,(stateL gf.m.st).length=sn:=⟨_,rfl⟩
 rw [hsn] at row8 ⊢
 refine zc1 2 2 (by decide) (by decide) (zaj (by kernel_rfl)) fun wp hp => ?_
 simp only [List.drop_succ_cons,List.drop_zero,List.take_succ_cons,List.take_zero]
 have gM:wp.heap[K]?=_:=(congrArg (·[K]?) hp.heap).trans e8
 have c2:=zac gM 2
 have z2:=zau gM 2
 simp only [List.getElem?_toArray,List.getElem?_cons_zero,List.getElem?_cons_succ] at c2
 replace gM:=Lib.hid gM
 replace hp:=Lib.hid hp
 replace row8:=Lib.hid row8
 replace hsn:=Lib.hid hsn
 go_wp2_with fail
 refine za6 rfl fun w9 h9 => ?_
 refine zad rm_xc ?_
 obtain rfl:=hR0.out
 clear hR0
 have s9:=za1 gM.out 2 (.slice sp sn sc)
 rw [← h9.heap] at s9
 simp only [List.size_toArray,List.length_cons,List.length_nil,List.setIfInBounds_toArray,List.set_cons_succ,List.set_cons_zero] at s9
 have k9:∀ b,b≠K→w9.heap[b]?=w8.heap[b]?:=fun b hb=>by rw [h9.heap,Below.heap_setCell _ _ _ _ hb,hp.out.heap]
 have z9:w9.heap.size=w8.heap.size:=by rw [h9.heap];simp [World.setCell];rw [hp.out.heap]
 have o9:w9.os=w.os∧w9.output=w.output:=⟨(h9.outs.1.trans hp.out.outs.1).trans o8.1,(h9.outs.2.trans hp.out.outs.2).trans o8.2⟩
 clear h9 hp gM c2 z2 wp
 refine zae rm_xc fun R0 hR0 => ?_
 refine zcj prgN (zab zag (by kernel_rfl)) rfl (zaa Try.func18) rfl fun wq hq => ?_
 have g6:wq.heap[K]?=_:=(congrArg (·[K]?) hq.heap).trans s9
 have g0:wq.heap[N]?=some (.cells #[.slice none 0 0,.slice none 0 0,.slice none 0 0,.bool false] 31 (0,0)):=(congrArg (·[N]?) hq.heap).trans ((k9 _ (by omega)).trans eA8)
 have d0:=zac g6 0
 have d1:=zac g6 1
 have d2:=zac g6 2
 have d3:=zac g6 3
 have c0:=zac g0 0
 have c1:=zac g0 1
 have c3:=zac g0 3
 have c22:=zac g0 2
 have y0:=zau g0 0
 have y1:=zau g0 1
 have y2:=zau g0 2
 have y3:=zau g0 3
 simp only [List.getElem?_toArray,List.getElem?_cons_zero,List.getElem?_cons_succ] at c0 c1 c22 c3 d0 d1 d2 d3
 replace g0:=Lib.hid g0
 replace g6:=Lib.hid g6
 replace s9:=Lib.hid s9
 replace hq:=Lib.hid hq
 go_wp2_with fail
 refine fun w10 h10 => ?_
 obtain ⟨s1,s2,s3⟩:=set4 (x := .slice (some ⟨Z.ar,0,none⟩) n n) (y := .slice vp gf.ord.length vc2) (z := .slice sp sn sc) (u := .bool (decide (0 < zbe gf.co n))) g0.out
 have hh:=h10.heap
 rw [← hh] at s1 s2 s3
 have o10:w10.os=w.os∧w10.output=w.output:=⟨(h10.outs.1.trans hq.out.outs.1).trans o9.1,(h10.outs.2.trans hq.out.outs.2).trans o9.2⟩
 have k10:∀ b,b≠N→w10.heap[b]?=w9.heap[b]?:=fun b hb=>(s2 b hb).trans (congrArg (·[b]?) hq.out.heap)
 have z10:w10.heap.size=w8.heap.size:=by rw [s3,hq.out.heap,z9]
 clear h10 hh s2 s3 c0 c1 c22 c3 y0 y1 y2 y3 d0 d1 d2 d3 g0 g6 hq wq
 obtain rfl:=hR0.out
 clear hR0
 refine zc0 rm_xc ?_
 refine za0 rm_xc (zaa Try.func18) (zcn _) (v := .agg #[.slice (some ⟨Z.ar,0,none⟩) n n,.slice vp gf.ord.length vc2,.slice sp sn sc,.bool (decide (0 < zbe gf.co n))]) (by
  rw [zdi]
  exact ⟨rfl,rfl,rfl,_,Try.func18,results_cell_row rfl _ _ N 31 _ (0,0) _ rfl s1 Try.underlying31 rfl size31⟩) ?_
 have k58:∀ (b:Nat) (c:Array Value) (t:TypeId),w5.heap[b]?=some (Obj.cells c t (0,0))→t≠31→t≠66→w10.heap[b]?=w5.heap[b]?:=fun b c t hb ht h66=>by
  have hlt:=(Array.getElem?_eq_some_iff.1 hb).1
  have n1:b≠N:=fun z=>by
   rw [← low6 b (by omega),z,eA6] at hb
   simp at hb
   exact ht hb.2.symm
  have n3:b≠gb:=fun z=>by
   rw [z,g1] at hb
   simp at hb
   exact h66 hb.2.symm
  rw [k10 b n1,k9 b (by omega),k8 b (by omega) n3,low6 b (by omega)]
 obtain ⟨ac,avs,ha⟩:=R5.ans
 have ra:=anssIn_rep ha (w':=w10) fun b c t hb ht=>k58 b c t hb (by rcases ht with z | z | z<;>rw [z]<;>decide) (by rcases ht with z | z | z<;>rw [z]<;>decide)
 rw [Yn.out] at ra
 have ro:IntsAt w10 (.slice vp gf.ord.length vc2) gf.ord:=intsAt_row (zaq row5.out fun g o hg hh=>by
  obtain ⟨cc,hcc⟩:=zak row5.out hg
  exact (k58 _ _ 3 hcc (by decide) (by decide)).trans hh)
 have rs:IntsAt w10 (.slice sp sn sc) (stateL gf.m.st):=intsAt_row (n:=sn) (zaq row8.out fun g o hg hh=>by
  have h1:=(zb6 row8.out hg).1
  exact (k10 g (by omega)).trans ((k9 g (by omega)).trans hh))
 refine h.out _ w10 ⟨.slice (some ⟨Z.ar,0,none⟩) n n,.slice vp gf.ord.length vc2,.slice sp sn sc,rfl,ra,ro,rs⟩ (fun b hb => ?_) (by omega) o10
 have hbN:b < N:=by omega
 have nb:b≠gb:=by omega
 rw [k10 b (by omega),k9 b (by omega),k8 b (by omega) nb,low6 b (by omega),low5 b (by omega),lowB b (by omega)]
end Go.Proofs.Ytofacoojpgkbiaa
