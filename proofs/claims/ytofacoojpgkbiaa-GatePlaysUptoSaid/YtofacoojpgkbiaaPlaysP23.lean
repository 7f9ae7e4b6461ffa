/-
  Merged out of: Gate5 Gate6 Gate7 Gate8 Gate9. No condition of its own.
-/
import Derived.Test.YtofacoojpgkbiaaPlaysP22
import Derived.Test.YtofacoojpgkbiaaPlaysP02
import Derived.Lib.SliceRun
set_option linter.unusedVariables false
set_option maxHeartbeats 8000000
set_option linter.unusedSimpArgs false
/-
 A copy of a list;a place number laid or loaded;the members copied. No condition of its own.
-/
namespace Go.Proofs.Ytofacoojpgkbiaa
open Go.Conc Go.RowKit
open Go.ConcN (upd upd_ne upd_same)
set_option maxRecDepth 100000
theorem info3g:(Try.prog.info? 3).map (fun i=>(i.zero,i.size,i.bytes))=some (some (.int .i64 0),1,8):=by kernel_rfl
def zax (l:List Int):List Value:=l.map (Value.int .i64)
theorem IntsAt.mono {w w':World} {v:Value} {l:List Int} (h:IntsAt w v l) (hb:∀ b,b < w.heap.size→w'.heap[b]?=w.heap[b]?):IntsAt w' v l:=by
 obtain ⟨a,cap,e,q⟩:=h
 exact ⟨a,cap,e,fun hne=>by
  obtain ⟨b,o,e1,q1⟩:=q hne
  exact ⟨b,o,e1,fun j x hj=>by
   have:=q1 j x hj
   have hlt:=World.block_lt_of_cell? w _ this
   exact (World.cell?_of_block (w:=w) (hb _ hlt)).trans this⟩⟩
theorem ints_src {w:World} {ad:Addr} {c:Nat} {l:List Int} (h:IntsAt w (.slice (some ad) l.length c) l):SrcOf w (.slice (some ad) l.length c) l.length (zax l):=by
 obtain ⟨ao,c',e,h⟩:=h
 cases e
 refine ⟨by simp [zax],fun u hu => ?_,.inr ⟨ad,c,rfl,fun j u hj => ?_⟩⟩
 ·
  obtain ⟨x,_,rfl⟩:=List.mem_map.1 hu
  rfl
 ·
  unfold zax at hj
  rw [List.getElem?_map] at hj
  obtain ⟨x,hx,rfl⟩:=Option.map_eq_some_iff.1 hj
  obtain ⟨b,o,e,hc⟩:=h (by intro z;rw [z] at hx;simp at hx)
  cases e
  rw [← hc j x hx]
  unfold Addr.add
  split<;>simp_all
theorem clone_walk (v:Value) (l:List Int) (w:World) (h:IntsAt w v l) (hl:l.length≤4000000) :
  Calls Try.prog 132 #[v] w fun e w'=>∃ v',e = .returned v'∧w'.ownsRow w.heap.size 3 1 v' l.length (zax l)∧Below w.heap.size w w':=by
 obtain ⟨i0,hi0,hz0,hz1,hz2⟩:=info_parts info3g
 have h':=h
 obtain ⟨ao,c,rfl,h⟩:=h
 cases ao with
 | none =>
  have hl0:l=[]:=by
   cases l with
   | nil=>rfl
   | cons a l =>
    obtain ⟨b,o,e,_⟩:=h (by simp)
    cases e
  subst hl0
  clear h h'
  have hnil:∀ w,(binOp .eql 24 (.slice none ([]:List Int).length c) (.slice none 0 0)).run Try.prog w = .ok (.bool true) w:=fun w=>Lib.run_eql_slice_nil w 24 3 none 0 c 0 0 Try.underlying24
  simp only [List.length_nil] at hnil
  go_enter Try.func132,Try.ntmps132
  go_wp2_with fail
  go_ret
  exact ⟨_,rfl,World.ownsRow_nil _ _ _ _,Below.refl _ _⟩
 | some ad =>
  have HSX:=Lib.hid (ints_src (h'.mono (w':=w.alloc (.cells #[] 3)) fun b hb=>Below.heap_alloc _ _ _ hb))
  have HOW:Hid ((w.alloc (.cells #[] 3)).ownsRow w.heap.size 3 1 (.slice (some ⟨w.heap.size,0,none⟩) 0 0) 0 []):=⟨rfl,.inr ⟨w.heap.size,0,#[],rfl,Nat.le_refl _,heap_alloc_new w _,Nat.le_refl _,by decide,rfl,rfl⟩⟩
  have HB:Hid (Below w.heap.size w (w.alloc (.cells #[] 3))):=(Below.refl _ _).alloc (Nat.le_refl _) _
  clear h h'
  have hnil:∀ w,(binOp .eql 24 (.slice (some ad) l.length c) (.slice none 0 0)).run Try.prog w = .ok (.bool false) w:=fun w=>Lib.run_eql_slice_nil w 24 3 (some ad) _ c 0 0 Try.underlying24
  go_enter Try.func132,Try.ntmps132
  go_wp2_with (at_builtin;go_must (refine zan rfl (.tmp 5) (.tmp 6) 24 rfl w.heap.size 3 i0 _ 8 Try.underlying24 hi0 hz0 hz1 hz2 (by decide) (.slice (some ⟨w.heap.size,0,none⟩) 0 0) 0 [] rfl HOW.out l.length (zax l) HSX.out ?l2 ?b2 ?n2 ?_);go_must (case l2=>(unfold maxLen;omega));go_must (case b2=>omega);go_must (case n2=>(simp));intro v' w' ha;have HA:=Lib.hid ha;clear ha)
  go_ret
  obtain ⟨h1,h2,h3⟩:=HA.out
  refine ⟨_,rfl,by simpa using h1,HB.out.grown h2 (by simp) (fun k hk => ?_)⟩
  cases hk
  exact Nat.le_refl _
section
variable {S:Type} {md:Md (SM S)} {L:Lens S GateS} {gb:Nat} {A:Nat→Prop} {w₀:W0 (SM S)} {c:Frame} {cs:List Frame}
def GateS.lay (g:GateS) (p at_:Int):GateS:={ g with num:=upd g.num p.toNat at_ }
def setF (L:Lens S GateS) (p at_:Int) (κ:Int→Fu (SM S)):Fu (SM S):=if p < 0∨64≤p then κ 1 else zbn fun m=>κ 0 (m.with (L.put ((L.get m.st).lay p at_) m.st))
def getF (L:Lens S GateS) (p:Int) (κ:Int→Int→Fu (SM S)):Fu (SM S):=if p < 0∨64≤p then κ 0 1 else zbn fun m=>κ ((L.get m.st).num p.toNat) 0 m
theorem set_cps (O:md.Ok) (Pt:Part md L (GateAt gb) gb TS2) {p at_:Int} (hat:zem at_) {κ:Int→Fu (SM S)} (hend:md.End A w₀ c cs) (hret:∀ e,(e=0∨e=1)→md.F (κ e) A w₀ (G (c.finish (.int .i64 e)) cs)) :
  md.F (setF L p at_ κ) A w₀ (G (Frame.enter Try.prog 27 #[gpv gb,md.sv,.int .i64 p,.int .i64 at_] .normal) (c::cs)):=by
 intro x own w m C
 unfold gpv
 rw [enter_at _ Try.func27 rfl]
 simp only [Try.ntmps27,List.size_toArray,List.length_cons,List.length_nil,Nat.reduceAdd,Nat.reduceSub,Array.replicate_succ,
   Array.replicate_zero,List.push_toArray,List.append_toArray,List.nil_append,List.cons_append]
 generalize hmc:setF L p at_ κ m=mc
 replace hmc:=Lib.hid hmc
 replace hret:=Lib.hid hret
 refine zae (O.xc ..) fun R0 hR0 => ?_
 refine O.seg0 C zbv (zab zag (by kernel_rfl)) rfl (zaa Try.func27) rfl fun wp hp => ?_
 replace hp:=Lib.hid hp
 go_wp2_with fail
 refine ⟨hp.out,?_⟩
 clear hp  wp
 obtain rfl:=hR0.out
 clear hR0
 refine zae (O.xc ..) fun R0 hR0 => ?_
 refine zae (O.xc ..) fun R1 hR1 => ?_
 refine O.seg0 C zbv (zab zag (by kernel_rfl)) rfl (zaa Try.func27) rfl fun wp hp => ?_
 replace hp:=Lib.hid hp
 go_wp2_with (go_at_call 88;refine (refused_walk (some ⟨gb,0,none⟩) p wp).mono ?_;rintro e w' ⟨rfl,rfl⟩)
 refine ⟨hp.out,?_⟩
 clear hp  wp
 obtain rfl:=hR1.out
 clear hR1
 refine zae (O.xc ..) fun R1 hR1 => ?_
 by_cases hb:p < 0∨64≤p
 ·
  have e1:refF (some ⟨gb,0,none⟩) p=1:=by unfold refF;rw [if_pos hb]
  have e2:setF L p at_ κ=κ 1:=by unfold setF;rw [if_pos hb]
  rw [e1]
  obtain rfl:=hmc.out
  rw [e2]
  clear e1 e2 hmc
  replace hb:=Lib.hid hb
  generalize hmc:κ 1 m=mc
  replace hmc:=Lib.hid hmc
  refine O.seg0 C zbv (zab zag (by kernel_rfl)) rfl (zaa Try.func27) rfl fun wp hp => ?_
  replace hp:=Lib.hid hp
  go_wp2_with fail
  refine ⟨hp.out,?_⟩
  clear hp  wp
  obtain rfl:=hR1.out
  clear hR1
  refine zao (O.xc ..) (t:=true) rfl ?_
  refine zae (O.xc ..) fun R2 hR2 => ?_
  refine O.seg0 C zbv (zab zag (by kernel_rfl)) rfl (zaa Try.func27) rfl fun wp hp => ?_
  replace hp:=Lib.hid hp
  go_wp2_with fail
  refine ⟨hp.out,?_⟩
  clear hp  wp
  obtain rfl:=hR2.out
  clear hR2
  refine zc0 (O.xc ..) ?_
  refine za0 (O.xc ..) (zaa Try.func27) (C.st O) ⟨rfl,rfl,rfl,_,Try.func27,results_tmp rfl _ _ _⟩ ?_
  obtain rfl:=hmc.out
  exact hret.out 1 (.inr rfl) _ _ _ _ C
 ·
  have e1:refF (some ⟨gb,0,none⟩) p=0:=by unfold refF;rw [if_neg hb,if_neg (by simp)]
  have e2:setF L p at_ κ=zbn fun m=>κ 0 (m.with (L.put ((L.get m.st).lay p at_) m.st)):=by unfold setF;rw [if_neg hb]
  obtain ⟨j,rfl⟩:∃ j:Nat,p=j:=⟨p.toNat,by omega⟩
  have hj:j < 64:=by omega
  clear hb
  rw [e1]
  obtain rfl:=hmc.out
  rw [e2]
  clear e1 e2 hmc
  generalize hmc:zbn (fun m=>κ 0 (m.with (L.put ((L.get m.st).lay j at_) m.st))) m=mc
  replace hmc:=Lib.hid hmc
  refine O.seg0 C zbv (zab zag (by kernel_rfl)) rfl (zaa Try.func27) rfl fun wp hp => ?_
  replace hp:=Lib.hid hp
  go_wp2_with fail
  refine ⟨hp.out,?_⟩
  clear hp  wp
  obtain rfl:=hR1.out
  clear hR1
  refine zao (O.xc ..) (t:=false) rfl ?_
  refine zbq (O.xc ..) ?_
  obtain rfl:=hR0.out
  clear hR0
  refine zae (O.xc ..) fun R0 hR0 => ?_
  refine zbi (O.xc ..) 1 (by decide) (by decide) (zaj (by kernel_rfl)) (C.st O) fun wp hp => ?_
  simp only [List.take_succ_cons,List.take_zero]
  replace hp:=Lib.hid hp
  go_wp2_with fail
  refine zaf hp.out (C.st O).okd ?_
  clear hp  wp
  refine zaz (O.xc ..) rfl rfl (by decide) rfl Try.func89 (by kernel_rfl) (by kernel_rfl) ?_
  walk_nrm
  obtain rfl:=hmc.out
  clear hmc
  refine O.gstep (.inr rfl) (O.endUp (zaa Try.func27) rfl rfl hend) (fun _ x2 own2 w2 m2 C2 => ?_) C
  rw [Frame.finish_at]
  clear C
  refine zad (O.xc ..) ?_
  obtain rfl:=hR0.out
  clear hR0
  refine zae (O.xc ..) fun R0 hR0 => ?_
  have hG:=Pt.rep C2.rep
  obtain ⟨pp,cc,c1,c2,c3,c4,c5⟩:=hG.cell
  have og:=hG.sh
  have hD:md.D gb=none:=C2.dm O (by rw [og];simp)
  generalize hmc:κ 0 (m2.with (L.put ((L.get m2.st).lay j at_) m2.st))=mc
  replace hmc:=Lib.hid hmc
  refine O.segA C2 zbv (zab zag (by kernel_rfl)) rfl (zaa Try.func27) rfl fun wp hp => ?_
  have g1:=(zba hp hD).trans c1
  have hc:=(zac g1 (1+j)).trans (c4 j hj)
  have hw:=wordStore gb (1+j) _ at_ wp hc (zau g1 (1+j))
  have q0:(0:Int)≤(j:Nat):=by omega
  have q1:((j:Nat):Int) < 64:=by omega
  replace c1:=Lib.hid c1
  replace g1:=Lib.hid g1
  replace hp:=Lib.hid hp
  replace hG:=Lib.hid hG
  clear hc c4 c5
  go_wp2_with (go_at_call 83;refine hw.mono ?_;rintro e w' ⟨rfl,rfl⟩)
  refine fun w3 q1 q2 q3 => ?_
  have k3:∀ b,b≠gb→w3.heap[b]?=w2.heap[b]?:=fun b hb=>q2 b (Below.heap_setCell _ _ _ _ hb)
  have s3:w3.heap.size=w2.heap.size:=by rw [q3];simp [World.setCell,hp.out.heap,zap]
  have e3:w3.heap[gb]?=(w2.setCell ⟨gb,1+j,none⟩ (.int .i64 at_)).heap[gb]?:=by rw [q1 gb hD,za1 g1.out,za1 c1.out]
  clear q1 q2 q3 hw g1 hp wp
  have hG3:=hG.out.put (v:=at_) hj hat e3 k3
  obtain ⟨C3,F3⟩:=Pt.write O C2 og s3 k3 hG3
  refine O.rebase .refl F3 ?_
  obtain rfl:=hR0.out
  clear hR0
  refine zae (O.xc ..) fun R0 hR0 => ?_
  refine O.seg0 C3 zbv (zab zag (by kernel_rfl)) rfl (zaa Try.func27) rfl fun wp hp => ?_
  replace hp:=Lib.hid hp
  go_wp2_with fail
  refine ⟨hp.out,?_⟩
  clear hp  wp
  obtain rfl:=hR0.out
  clear hR0
  refine zc0 (O.xc ..) ?_
  refine za0 (O.xc ..) (zaa Try.func27) (C3.st O) ⟨rfl,rfl,rfl,_,Try.func27,results_tmp rfl _ _ _⟩ ?_
  obtain rfl:=hmc.out
  exact hret.out 0 (.inl rfl) _ _ _ _ C3
theorem get_cps (O:md.Ok) (Pt:Part md L (GateAt gb) gb TS2) {p:Int} {κ:Int→Int→Fu (SM S)} (hend:md.End A w₀ c cs) (hret:∀ v e,zem v→(e=0∨e=1)→md.F (κ v e) A w₀ (G (c.finish (.tuple #[.int .i64 v,.int .i64 e])) cs)) :
  md.F (getF L p κ) A w₀ (G (Frame.enter Try.prog 85 #[gpv gb,md.sv,.int .i64 p] .normal) (c::cs)):=by
 intro x own w m C
 unfold gpv
 rw [enter_at _ Try.func85 rfl]
 simp only [Try.ntmps85,List.size_toArray,List.length_cons,List.length_nil,Nat.reduceAdd,Nat.reduceSub,Array.replicate_succ,
   Array.replicate_zero,List.push_toArray,List.append_toArray,List.nil_append,List.cons_append]
 generalize hmc:getF L p κ m=mc
 replace hmc:=Lib.hid hmc
 replace hret:=Lib.hid hret
 refine zae (O.xc ..) fun R0 hR0 => ?_
 refine O.seg0 C zbv (zab zag (by kernel_rfl)) rfl (zaa Try.func85) rfl fun wp hp => ?_
 replace hp:=Lib.hid hp
 go_wp2_with fail
 refine ⟨hp.out,?_⟩
 clear hp  wp
 obtain rfl:=hR0.out
 clear hR0
 refine zae (O.xc ..) fun R0 hR0 => ?_
 refine zae (O.xc ..) fun R1 hR1 => ?_
 refine O.seg0 C zbv (zab zag (by kernel_rfl)) rfl (zaa Try.func85) rfl fun wp hp => ?_
 replace hp:=Lib.hid hp
 go_wp2_with (go_at_call 88;refine (refused_walk (some ⟨gb,0,none⟩) p wp).mono ?_;rintro e w' ⟨rfl,rfl⟩)
 refine ⟨hp.out,?_⟩
 clear hp  wp
 obtain rfl:=hR1.out
 clear hR1
 refine zae (O.xc ..) fun R1 hR1 => ?_
 by_cases hb:p < 0∨64≤p
 ·
  have e1:refF (some ⟨gb,0,none⟩) p=1:=by unfold refF;rw [if_pos hb]
  have e2:getF L p κ=κ 0 1:=by unfold getF;rw [if_pos hb]
  rw [e1]
  obtain rfl:=hmc.out
  rw [e2]
  clear e1 e2 hmc
  replace hb:=Lib.hid hb
  generalize hmc:κ 0 1 m=mc
  replace hmc:=Lib.hid hmc
  refine O.seg0 C zbv (zab zag (by kernel_rfl)) rfl (zaa Try.func85) rfl fun wp hp => ?_
  replace hp:=Lib.hid hp
  go_wp2_with fail
  refine ⟨hp.out,?_⟩
  clear hp  wp
  obtain rfl:=hR1.out
  clear hR1
  refine zao (O.xc ..) (t:=true) rfl ?_
  refine zae (O.xc ..) fun R2 hR2 => ?_
  refine O.seg0 C zbv (zab zag (by kernel_rfl)) rfl (zaa Try.func85) rfl fun wp hp => ?_
  replace hp:=Lib.hid hp
  go_wp2_with fail
  refine ⟨hp.out,?_⟩
  clear hp  wp
  obtain rfl:=hR2.out
  clear hR2
  refine zc0 (O.xc ..) ?_
  refine za0 (O.xc ..) (zaa Try.func85) (C.st O) ⟨rfl,rfl,rfl,_,Try.func85,results_tmp2 rfl _ _ _⟩ ?_
  obtain rfl:=hmc.out
  exact hret.out 0 1 (by decide) (.inr rfl) _ _ _ _ C
 ·
  have e1:refF (some ⟨gb,0,none⟩) p=0:=by unfold refF;rw [if_neg hb,if_neg (by simp)]
  have e2:getF L p κ=zbn fun m=>κ ((L.get m.st).num p.toNat) 0 m:=by unfold getF;rw [if_neg hb]
  obtain ⟨j,rfl⟩:∃ j:Nat,p=j:=⟨p.toNat,by omega⟩
  have hj:j < 64:=by omega
  clear hb
  rw [e1]
  obtain rfl:=hmc.out
  rw [e2]
  clear e1 e2 hmc
  generalize hmc:zbn (fun m=>κ ((L.get m.st).num (j:Int).toNat) 0 m) m=mc
  replace hmc:=Lib.hid hmc
  refine O.seg0 C zbv (zab zag (by kernel_rfl)) rfl (zaa Try.func85) rfl fun wp hp => ?_
  replace hp:=Lib.hid hp
  go_wp2_with fail
  refine ⟨hp.out,?_⟩
  clear hp  wp
  obtain rfl:=hR1.out
  clear hR1
  refine zao (O.xc ..) (t:=false) rfl ?_
  refine zbq (O.xc ..) ?_
  obtain rfl:=hR0.out
  clear hR0
  refine zae (O.xc ..) fun R0 hR0 => ?_
  refine zbi (O.xc ..) 1 (by decide) (by decide) (zaj (by kernel_rfl)) (C.st O) fun wp hp => ?_
  simp only [List.take_succ_cons,List.take_zero]
  replace hp:=Lib.hid hp
  go_wp2_with fail
  refine zaf hp.out (C.st O).okd ?_
  clear hp  wp
  refine zaz (O.xc ..) rfl rfl (by decide) rfl Try.func89 (by kernel_rfl) (by kernel_rfl) ?_
  walk_nrm
  obtain rfl:=hmc.out
  clear hmc
  refine O.gstep (.inr rfl) (O.endUp (zaa Try.func85) rfl rfl hend) (fun _ x2 own2 w2 m2 C2 => ?_) C
  rw [Frame.finish_at]
  clear C
  refine zad (O.xc ..) ?_
  obtain rfl:=hR0.out
  clear hR0
  refine zae (O.xc ..) fun R0 hR0 => ?_
  have hG:=Pt.rep C2.rep
  obtain ⟨pp,cc,c1,c2,c3,c4,c5⟩:=hG.cell
  have og:=hG.sh
  have hn:=hG.num j hj
  have hD:md.D gb=none:=C2.dm O (by rw [og];simp)
  have hc4:=c4 j hj
  rw [show ((j:Int).toNat)=j from rfl]
  generalize (L.get m2.st).num j=v at *
  generalize hmc:κ v 0 m2=mc
  replace hmc:=Lib.hid hmc
  refine O.seg0 C2 zbv (zab zag (by kernel_rfl)) rfl (zaa Try.func85) rfl fun wp hp => ?_
  have g1:=(zba hp hD).trans c1
  have hc:=(zac g1 (1+j)).trans hc4
  have hw:=wordLoad gb (1+j) _ wp hc
  have q0:(0:Int)≤(j:Nat):=by omega
  have q1:((j:Nat):Int) < 64:=by omega
  replace c1:=Lib.hid c1
  replace g1:=Lib.hid g1
  clear hc c4 c5 hG
  replace hp:=Lib.hid hp
  go_wp2_with (go_at_call 87;refine hw.mono ?_;rintro e w' ⟨rfl,rfl⟩)
  refine ⟨hp.out,?_⟩
  clear hp hw g1 wp
  obtain rfl:=hR0.out
  clear hR0
  refine zc0 (O.xc ..) ?_
  refine za0 (O.xc ..) (zaa Try.func85) (C2.st O) ⟨rfl,rfl,rfl,_,Try.func85,results_tmp2 rfl _ _ _⟩ ?_
  obtain rfl:=hmc.out
  exact hret.out v 0 hn (.inl rfl) _ _ _ _ C2
end
end Go.Proofs.Ytofacoojpgkbiaa
/-
 The members copied;the least of their numbers. No condition of its own.
-/
namespace Go.Proofs.Ytofacoojpgkbiaa
open Go.Conc Go.RowKit
open Go.ConcN (upd upd_ne upd_same)
set_option maxRecDepth 100000
theorem zeh {w:World} {base e n:Nat} {v:Value} {xs:List Value} (h:w.ownsRow base e 1 v n xs) :
  ∃ p cap,v = .slice p n cap∧n≤cap∧(0 < n→∃ g c,p=some ⟨g,0,none⟩∧base≤g∧w.heap[g]?=some (.cells c e (0,0))∧∀ j,j < n→c[j]?=xs[j]?):=by
 rcases h.2 with ⟨rfl,rfl⟩ | ⟨g,cap,cur,rfl,q1,q2,q3,q4,q5,q6⟩
 ·
  exact ⟨none,0,rfl,Nat.le_refl _,fun h=>by omega⟩
 ·
  refine ⟨_,cap,rfl,q3,fun _=>⟨g,cur,rfl,q1,q2,fun j hj => ?_⟩⟩
  rw [← q6,List.getElem?_take_of_lt (by omega)]
  simp
theorem rowTh_of {i N:Nat} {own1:Nat→Owner} {w' w1:World} {v:Value} {l:List Int} (h:w'.ownsRow N 3 1 v l.length (zax l)) (hl:∀ x∈l,zem x) (ho:∀ b,N≤b→b < w1.heap.size→own1 b = .th i) (hk:∀ b,N≤b→w1.heap[b]?=w'.heap[b]?):RowTh i own1 w1.heap v l:=by
 obtain ⟨p,cap,e,hc,q⟩:=zeh h
 refine ⟨hl,p,cap,e,hc,fun hne => ?_⟩
 obtain ⟨g,c,e1,e2,e3,e4⟩:=q (List.length_pos_iff.2 hne)
 have e5:=(hk g e2).trans e3
 refine ⟨g,0,c,e1,ho g e2 (Array.getElem?_eq_some_iff.1 e5).1,e5,fun j x hj => ?_⟩
 have hlt:j < l.length:=(List.getElem?_eq_some_iff.1 hj).1
 rw [Nat.zero_add,e4 j hlt]
 simp [zax,hj]
theorem held_val {own:Nat→Owner} {hp:Array Obj} {s:Nat} {l:List Int} {p:Option Addr} (h:HeldP own hp s l p):(∀ x∈l,zem x)∧∃ v,(∃ a n c,v = .slice a n c)∧∀ w:World,(∀ b t,own b = .tag t→w.heap[b]?=hp[b]?)→KeptAt w p v∧IntsAt w v l:=by
 rcases h with ⟨_,rfl,rfl⟩ | ⟨_,kb,v,rfl,e2,e3,hl⟩
 ·
  exact ⟨by simp,_,⟨_,_,_,rfl⟩,fun w hw=>⟨.inl ⟨rfl,rfl⟩,_,_,rfl,fun z=>absurd rfl z⟩⟩
 ·
  obtain ⟨h0,a,cap,rfl,hc,q⟩:=hl
  refine ⟨h0,_,⟨_,_,_,rfl⟩,fun w hw=>⟨.inr ⟨kb,rfl,(hw kb _ e2).trans e3⟩,a,cap,rfl,fun hne => ?_⟩⟩
  obtain ⟨b,o,c,e4,e5,e6,e7⟩:=q hne
  exact ⟨b,o,e4,fun j x hj=>by rw [zac ((hw b _ e5).trans e6)];exact e7 j x hj⟩
theorem zbp {l:List Int} (h:zc6 l):l.length≤64:=by
 have hs:∀ x∈l,x∈(List.range 64).map (fun n:Nat=>(n:Int)):=fun x hx=>by
  obtain ⟨h1,h2⟩:=h.2 x hx
  exact List.mem_map.2 ⟨x.toNat,List.mem_range.2 (by omega),by omega⟩
 have:=List.Nodup.length_le_of_subset h.1 hs
 simpa using this
section
variable {M:Type} [Priv M] {md:Md M} {x:md.β} {own:Nat→Owner} {A:Nat→Prop} {w₀:W0 M} {w wp w' w1:World} {m:M} {mc:M×Co M} {g:Goroutine} {N:Nat}
theorem Md.Ok.grew (O:md.Ok) (C:md.C x own A w₀ w m) (hp:Sim wp (poi md.D w)) (hB:Below wp.heap.size wp w') (hN:w.heap.size=N) (q1:∀ b:Nat,md.D b=none→w1.heap[b]?=w'.heap[b]?) (q2:∀ b:Nat,w'.heap[b]?=wp.heap[b]?→w1.heap[b]?=w.heap[b]?) (q3:w1.heap.size=w'.heap.size)
  (h:∀ own1,md.C x own1 (fun b=>own1 b = .th md.i) ⟨w1.heap,m,own1⟩ w1 m→N≤w1.heap.size→Less md.i A w₀ (fun b=>own1 b = .th md.i) ⟨w1.heap,m,own1⟩→(∀ b,N≤b→b < w1.heap.size→own1 b = .th md.i)→(∀ b,b < N→w1.heap[b]?=w.heap[b]?∧own1 b=own b)→(∀ b,N≤b→w1.heap[b]?=w'.heap[b]?)→md.GO x own1 w1 mc g w1) :
  md.GO x own w mc g w1:=by
 subst hN
 have hs0:wp.heap.size=w.heap.size:=by rw [hp.heap,zap]
 have hs:w.heap.size≤w1.heap.size:=by rw [q3,← hs0];exact hB.size
 have hb:∀ b,b < w.heap.size→w1.heap[b]?=w.heap[b]?:=fun b hb=>q2 b (hB.block b (by omega))
 obtain ⟨own1,C1,h1,h2,h3,h4⟩:=C.grown (w1:=w1) O hs (fun b hb' _=>hb b hb')
 exact O.rebase h1 h2 (h own1 C1 hs (zea C (fun b hb' _=>hb b hb') h4) h3 (fun b hb'=>⟨hb b hb',h4 b hb'⟩) fun b hb'=>q1 b (C.dn O hb'))
theorem Md.C.tagp (C:md.C x own A w₀ w m) (O:md.Ok) (hp:Sim wp (poi md.D w)):∀ b t,w₀.own b = .tag t→wp.heap[b]?=w₀.heap[b]?:=fun b t hb=>(zba hp (C.dm O (by rw [(C.tg b t hb).1];simp))).trans (C.tg b t hb).2
end
noncomputable def c74:Code:=(Try.f74.body).getD .skip
def A74 (x:Nat→Value):Act:=⟨#[x 0,x 1,x 2,x 3,x 4,x 5,x 6,x 7,x 8,x 9,x 10,x 11,x 12,x 13,x 14,x 15,x 16,x 17,x 18,x 19,x 20,x 21,x 22,x 23,x 24,x 25,x 26,x 27,x 28,x 29,x 30,x 31,x 32,x 33,x 34,x 35,x 36,x 37,x 38,x 39,x 40,x 41],[]⟩
theorem a74_of (l:Array Value) (hl:l.size=42):(⟨l,[]⟩:Act)=A74 fun j=>l.getD j undef:=by
 have e:∀ x:Nat→Value,(A74 x).tmps=((List.range 42).map x).toArray:=fun x=>rfl
 have h1:l=(A74 fun j=>l.getD j undef).tmps:=by
  rw [e]
  apply Array.ext_getElem?
  intro i
  by_cases h:i < 42
  ·
   have h':i < l.size:=by omega
   simp [h,h',List.getElem?_range]
  ·
   have h':¬ i < l.size:=by omega
   rw [Array.getElem?_eq_none (by omega),Array.getElem?_eq_none (by simp;omega)]
 exact congrArg (Act.mk · []) h1
section
variable {S:Type} {md:Md (SM S)} {L:Lens S GateS} {gb:Nat} {A:Nat→Prop} {w₀:W0 (SM S)} {c:Frame} {cs:List Frame}
theorem list_cps (O:md.Ok) (Pt:Part md L (GateAt gb) gb TS2) {φ:Fu (SM S)} {κ:List Int→Fu (SM S)} (hφ:φ=cutF∨φ=zbn fun m=>κ (L.get m.st).mem m) (hend:md.End A w₀ c cs)
  (hret:∀ l v A₁ w₁,Less md.i A w₀ A₁ w₁→RowTh md.i w₁.own w₁.heap v l→(∀ b,zd6 v l b→A₁ b∧¬ A b)→zc6 l→md.F (κ l) A₁ w₁ (G (c.finish v) cs)):md.F φ A w₀ (G (Frame.enter Try.prog 86 #[gpv gb,md.sv] .normal) (c::cs)):=by
 intro x own w m C
 unfold gpv
 rw [enter_at _ Try.func86 rfl]
 simp only [Try.ntmps86,List.size_toArray,List.length_cons,List.length_nil,Nat.reduceAdd,Nat.reduceSub,Array.replicate_succ,
   Array.replicate_zero,List.push_toArray,List.append_toArray,List.nil_append,List.cons_append]
 generalize hmc:φ m=mc
 replace hmc:=Lib.hid hmc
 replace hret:=Lib.hid hret
 refine zae (O.xc ..) fun R0 hR0 => ?_
 refine O.seg0 C zbv (zab zag (by kernel_rfl)) rfl (zaa Try.func86) rfl fun wp hp => ?_
 replace hp:=Lib.hid hp
 go_wp2_with fail
 refine ⟨hp.out,?_⟩
 clear hp  wp
 obtain rfl:=hR0.out
 clear hR0
 refine zae (O.xc ..) fun R0 hR0 => ?_
 refine zae (O.xc ..) fun R1 hR1 => ?_
 refine O.seg0 C zbv (zab zag (by kernel_rfl)) rfl (zaa Try.func86) rfl fun wp hp => ?_
 replace hp:=Lib.hid hp
 go_wp2_with fail
 refine ⟨hp.out,?_⟩
 clear hp  wp
 obtain rfl:=hR1.out
 clear hR1
 refine zao (O.xc ..) (t:=false) rfl ?_
 refine zbq (O.xc ..) ?_
 obtain rfl:=hR0.out
 clear hR0
 refine zae (O.xc ..) fun R0 hR0 => ?_
 refine zbi (O.xc ..) 4 (by decide) (by decide) (zaj (by kernel_rfl)) (C.st O) fun wp hp => ?_
 simp only [List.take_succ_cons,List.take_zero]
 replace hp:=Lib.hid hp
 go_wp2_with fail
 refine zaf hp.out (C.st O).okd ?_
 clear hp  wp
 refine zaz (O.xc ..) rfl rfl (by decide) rfl Try.func128 (by kernel_rfl) (by kernel_rfl) ?_
 walk_nrm
 obtain rfl:=hmc.out
 clear hmc
 refine bload_cps O Pt (κ:=fun _ l=>κ l) hφ (O.endUp (zaa Try.func86) rfl rfl hend) (fun _ s l p A₁ w₁ L1 hH hm => ?_) x own w m C
 intro x2 own2 w2 m2 C2
 rw [Frame.finish_at]
 have hlt:∀ b,A b→b < w.heap.size:=fun b hb=>by
  have:=(C.mine b hb).1
  exact C.lt (by rw [this];simp)
 generalize hmc:κ l m2=mc
 replace hmc:=Lib.hid hmc
 obtain ⟨hin,v,hsl,hval⟩:=held_val hH
 obtain ⟨N,hN⟩:∃ N,w2.heap.size=N:=⟨_,rfl⟩
 walk_nrm
 refine O.callA C2 zbv (f:=130) (by simp) rfl rfl (by decide) rfl Try.func130 (by kernel_rfl) (by kernel_rfl) fun wp hp => ?_
 walk_nrm
 refine (heldV_walk wp (hval wp (C2.tagp O hp)).1 hsl ⟨_,rfl⟩).mono ?_
 rintro e w' ⟨rfl,rfl⟩
 refine ⟨v,rfl,fun w3 q1 q2 q3 => ?_⟩
 refine O.one C2 hp rfl hN q1 q2 (by rw [q3];simp [hp.heap,zap,hN]) fun own3 C3 e3 s3 o3 L3 low3 => ?_
 clear q1 q2 q3 hp wp
 obtain ⟨N3,hN3⟩:∃ N,w3.heap.size=N:=⟨_,rfl⟩
 refine O.callA C3 zbv (f:=132) (by simp) rfl rfl (by decide) rfl Try.func132 (by kernel_rfl) (by kernel_rfl) fun wp hp => ?_
 have hlen:l.length≤64:=zbp hm
 have C3':=C3.less L3
 walk_nrm
 refine (clone_walk v l wp (hval wp (C3'.tagp O hp)).2 (by omega)).mono ?_
 rintro e w' ⟨v',rfl,hr,hB⟩
 refine ⟨v',rfl,fun w4 q1 q2 q3 => ?_⟩
 have hsz:wp.heap.size=N3:=by rw [hp.heap,zap];exact hN3
 rw [hsz] at hr
 refine O.grew C3 hp hB hN3 q1 q2 q3 fun own4 C4 s4 L4 ho4 low4 hk4 => ?_
 have hrow:=rowTh_of (i:=md.i) hr hin ho4 hk4
 have hge:∀ b,zd6 v' l b→N3≤b:=fun b ⟨hne,o,n,cc,e⟩=>by
  obtain ⟨p',cap',e',_,q⟩:=zeh hr
  obtain ⟨g,_,e1,e2,_⟩:=q (List.length_pos_iff.2 hne)
  rw [e',e1] at e
  simp only [Value.slice.injEq,Option.some.injEq,Addr.mk.injEq] at e
  rw [← e.1.1];exact e2
 have LL:=(L1.trans L3).trans L4
 have hnA:∀ b,zd6 v' l b→¬ A b:=fun b hb hA=>by
  have h1:=(C3'.less L1).mine b hA
  have:=C3.lt (b:=b) (by rw [h1.1];simp)
  have:=hge b hb
  omega
 clear q1 q2 q3 hp hr hB hsz low3 low4 hk4
 replace hrow:=Lib.hid hrow
 refine zca (O.xc ..) 7 1 (by decide) (by decide) (zaj (by kernel_rfl)) (C4.st O) fun wp hp => ?_
 simp only [List.drop_succ_cons,List.drop_zero,List.take_succ_cons,List.take_zero]
 replace hp:=Lib.hid hp
 go_wp2_with fail
 refine zaf hp.out (C4.st O).okd ?_
 clear hp  wp
 refine zad (O.xc ..) ?_
 obtain rfl:=hR0.out
 clear hR0
 refine zc0 (O.xc ..) ?_
 refine za0 (O.xc ..) (zaa Try.func86) (C4.st O) ⟨rfl,rfl,rfl,_,Try.func86,results_tmp rfl _ _ _⟩ ?_
 obtain rfl:=hmc.out
 exact hret.out l v' _ _ LL hrow.out (fun b hb=>⟨hrow.out.mine hb,hnA b hb⟩) hm _ _ _ _ C4
end
end Go.Proofs.Ytofacoojpgkbiaa
/-
 Least and May of a gate. No condition of its own.
-/
namespace Go.Proofs.Ytofacoojpgkbiaa
open Go.Conc Go.RowKit
open Go.ConcN (upd upd_ne upd_same)
set_option maxRecDepth 100000
def body74:Code→Code:=fun c=>cA (cA (cB (cA (cB (cB c)))))
def zbr {S:Type} (L:Lens S GateS) (κ:Int→Int→Fu (SM S)):List Int→Int→Int→Fu (SM S)
 | [],n,p=>κ n p
 | q::l,n,p=>getF L q fun v _=>if p < 0∨v < n then zbr L κ l v q else zbr L κ l n p
def leastF {S:Type} (L:Lens S GateS) (none:Int) (κ:Int→Int→Fu (SM S)):Fu (SM S):=zbn fun m=>zbr L κ (L.get m.st).mem none (-1) m
structure X74 (gb:Nat) (sv v:Value) (len:Nat) (n p:Int) (j:Nat) (x:Nat→Value):Prop where
 x0:x 0=gpv gb
 x1:x 1=sv
 x8:x 8 = .int .i64 n
 x9:x 9 = .int .i64 p
 x17:x 17=v
 x18:x 18 = .int .i64 len
 x19:x 19 = .int .i64 j
section
variable {S:Type} {md:Md (SM S)} {L:Lens S GateS} {gb:Nat} {A:Nat→Prop} {w₀:W0 (SM S)} {c:Frame} {cs:List Frame} {R:List Item}
theorem least_loop (O:md.Ok) (Pt:Part md L (GateAt gb) gb TS2) {κ:Int→Int→Fu (SM S)} {l:List Int} {v':Value} (hend:md.End A w₀ c cs) (hrow:RowTh md.i w₀.own w₀.heap v' l) (hA:∀ b,zd6 v' l b→A b) (hm:zc6 l)
  (hret:∀ n p x,zem n→p < 64→x 8 = .int .i64 n→x 9 = .int .i64 p→md.F (κ n p) A w₀ (G ((base 74).at (A74 x) R) (c::cs))) :
  ∀ l' j,l.drop j=l'→j≤l.length→∀ n p x y own w m,zem n→p < 64→md.C y own A w₀ w m→X74 gb md.sv v' l.length n p j x →
   md.GO y own w (zbr L κ l' n p m) (G ((base 74).at (A74 x) (.code (body74 c74) :: .inLoop (body74 c74) :: .inBlock 0::R)) (c::cs)) w:=by
 have hlen:=zbp hm
 intro l'
 induction l' with
 | nil =>
  intro j hl hj n p x y own w m hn hp C hx
  have hjl:j=l.length:=by
   have:=congrArg List.length hl
   simp at this
   omega
  subst hjl
  have e1:¬ (l.length:Int) < (l.length:Int):=by omega
  generalize hmc:zbr L κ [] n p m=mc
  replace hmc:=Lib.hid hmc
  refine za4 (O.xc ..) rfl fun R0 hR0 => ?_
  rw [show cA (body74 c74)=Code.region _ _ _ from rfl]
  unfold A74
  simp only [hx.x8,hx.x9,hx.x18,hx.x19]
  refine O.seg0 C zbv (zab zag (by kernel_rfl)) rfl (zaa Try.func74) rfl fun wp hp => ?_
  replace hp:=Lib.hid hp
  go_wp2_with fail
  refine ⟨hp.out,?_⟩
  clear hp  wp
  obtain rfl:=hR0.out
  clear hR0
  refine za4 (O.xc ..) rfl fun R0 hR0 => ?_
  rw [show cA (cB (body74 c74))=Code.cond _ _ _ from rfl]
  refine zao (O.xc ..) (t:=false) rfl ?_
  obtain rfl:=hR0.out
  refine x_exit (O.xc ..) rfl ?_
  rw [a74_of _ rfl]
  obtain rfl:=hmc.out
  exact hret n p _ hn hp rfl rfl _ _ _ _ C
 | cons q l' ih =>
  intro j hl hj n p x y own w m hn hp C hx
  have hjl:j < l.length:=by
   rcases Nat.lt_or_ge j l.length with z | z
   ·
    exact z
   ·
    rw [List.drop_eq_nil_of_le z] at hl;cases hl
  have hLj:l[j]?=some q:=by
   have:=congrArg (·[0]?) hl
   simpa using this
  have hl':l.drop (j+1)=l':=by
   have:=congrArg List.tail hl
   simpa [List.tail_drop] using this
  obtain ⟨hq0,hq64⟩:=hm.2 q (List.mem_of_getElem? hLj)
  obtain ⟨_,a,cap,ev,hcap,hcell⟩:=hrow
  obtain ⟨b,o,cc,ea,eo,eh,ec⟩:=hcell (by intro z;rw [z] at hjl;simp at hjl)
  subst ea
  subst ev
  have hAb:A b:=hA b ⟨by intro z;rw [z] at hjl;simp at hjl,o,l.length,cap,rfl⟩
  have hcj:=ec j q hLj
  have e1:(j:Int) < (l.length:Int):=by omega
  have q0:(0:Int)≤(j:Nat):=by omega
  replace ih:=Lib.hid ih
  replace hret:=Lib.hid hret
  replace hn:=Lib.hid hn
  replace hm:=Lib.hid hm
  generalize hmc:zbr L κ (q::l') n p m=mc
  replace hmc:=Lib.hid hmc
  refine za4 (O.xc ..) rfl fun R0 hR0 => ?_
  rw [show cA (body74 c74)=Code.region _ _ _ from rfl]
  unfold A74
  simp only [hx.x0,hx.x1,hx.x8,hx.x9,hx.x17,hx.x18,hx.x19]
  clear hcell hcap ec
  refine O.seg0 C zbv (zab zag (by kernel_rfl)) rfl (zaa Try.func74) rfl fun wp hp => ?_
  replace hp:=Lib.hid hp
  go_wp2_with fail
  refine ⟨hp.out,?_⟩
  clear hp  wp
  obtain rfl:=hR0.out
  clear hR0
  refine za4 (O.xc ..) rfl fun R0 hR0 => ?_
  rw [show cA (cB (body74 c74))=Code.cond _ _ _ from rfl]
  refine zao (O.xc ..) (t:=true) rfl ?_
  refine zbq (O.xc ..) ?_
  obtain rfl:=hR0.out
  clear hR0
  refine za4 (O.xc ..) rfl fun R0 hR0 => ?_
  rw [show cA (cB (cB (body74 c74)))=Code.block _ _ from rfl]
  refine zb4 (O.xc ..) ?_
  refine zae (O.xc ..) fun R1 hR1 => ?_
  have hmb:=C.mine b hAb
  have hD:md.D b=none:=C.dm O (by rw [hmb.1];simp)
  refine O.seg0 C zbv (zab zag (by kernel_rfl)) rfl (zaa Try.func74) rfl fun wp hp => ?_
  have fb:=(zac ((zba hp hD).trans (hmb.2.trans eh)) (o+j)).trans hcj
  replace hp:=Lib.hid hp
  go_wp2_with fail
  refine ⟨hp.out,?_⟩
  clear hp fb wp
  obtain rfl:=hR1.out
  clear hR1
  clear hmb
  refine zae (O.xc ..) fun R1 hR1 => ?_
  refine zbi (O.xc ..) 3 (by decide) (by decide) (zaj (by kernel_rfl)) (C.st O) fun wp hp => ?_
  simp only [List.take_succ_cons,List.take_zero]
  replace hp:=Lib.hid hp
  go_wp2_with fail
  refine zaf hp.out (C.st O).okd ?_
  clear hp  wp
  refine zaz (O.xc ..) rfl rfl (by decide) rfl Try.func85 (by kernel_rfl) (by kernel_rfl) ?_
  walk_nrm
  obtain rfl:=hmc.out
  clear hmc
  refine get_cps O Pt (p:=q) (κ:=fun v _=>if p < 0∨v < n then zbr L κ l' v q else zbr L κ l' n p) (A:=A) (w₀:=w₀) (O.endUp (zaa Try.func74) rfl rfl hend) (fun v e hv he => ?_) y own w m C
  intro y2 own2 w2 m2 C2
  rw [Frame.finish_at]
  clear C
  generalize hmc:(if p < 0∨v < n then zbr L κ l' v q else zbr L κ l' n p) m2=mc
  replace hmc:=Lib.hid hmc
  replace hv:=Lib.hid hv
  replace he:=Lib.hid he
  walk_nrm
  refine zca (O.xc ..) 4 5 (by decide) (by decide) (zaj (by kernel_rfl)) (C2.st O) fun wp hp => ?_
  simp only [List.drop_succ_cons,List.drop_zero,List.take_succ_cons,List.take_zero]
  replace hp:=Lib.hid hp
  go_wp2_with fail
  refine zaf hp.out (C2.st O).okd ?_
  clear hp  wp
  refine zad (O.xc ..) ?_
  obtain rfl:=hR1.out
  clear hR1
  refine zae (O.xc ..) fun R1 hR1 => ?_
  have nx:IntKind.i64.wrap ((j:Int)+1)=((j+1:Nat):Int):=by rw [IntKind.wrap_i64];omega
  have fin:∀ n' p' z,X74 gb md.sv (.slice (some ⟨b,o,none⟩) l.length cap) l.length n' p' j z→zem n'→p' < 64→mc=zbr L κ l' n' p' m2→md.GO y2 own2 w2 mc (G ((base 74).at (A74 z) (.inBlock 1::R0)) (c::cs)) w2:=fun n' p' z hz hn' hp' hmc'=>by
   replace hmc':=Lib.hid hmc'
   obtain rfl:=hR0.out
   refine zb7 (O.xc ..) ?_
   rw [show cB (cB (cB (body74 c74)))=Code.region _ _ _ from rfl]
   unfold A74
   simp only [hz.x0,hz.x1,hz.x8,hz.x9,hz.x17,hz.x18,hz.x19]
   refine O.seg0 C2 zbv (zab zag (by kernel_rfl)) rfl (zaa Try.func74) rfl fun wp hp => ?_
   replace hp:=Lib.hid hp
   go_wp2_with fail
   refine ⟨hp.out,?_⟩
   clear hp  wp
   refine zcu (O.xc ..) ?_
   rw [a74_of _ rfl,hmc'.out]
   exact ih.out (j+1) hl' (by omega) _ _ _ _ _ _ _ hn' hp' C2 ⟨rfl,rfl,rfl,rfl,rfl,rfl,rfl⟩
  clear ih hret
  by_cases c1:p < 0
  ·
   have hm2:mc=zbr L κ l' v q m2:=by rw [← hmc.out,if_pos (.inl c1)]
   replace hm2:=Lib.hid hm2
   refine O.seg0 C2 zbv (zab zag (by kernel_rfl)) rfl (zaa Try.func74) rfl fun wp hp => ?_
   replace hp:=Lib.hid hp
   go_wp2_with fail
   refine ⟨hp.out,?_⟩
   clear hp  wp
   obtain rfl:=hR1.out
   clear hR1
   refine zao (O.xc ..) (t:=true) rfl ?_
   refine O.seg0 C2 zbv (zab zag (by kernel_rfl)) rfl (zaa Try.func74) rfl fun wp hp => ?_
   replace hp:=Lib.hid hp
   go_wp2_with fail
   refine ⟨hp.out,?_⟩
   clear hp  wp
   rw [a74_of _ rfl]
   refine fin v q _ ?_ hv.out hq64 hm2.out
   exact ⟨rfl,rfl,rfl,rfl,rfl,rfl,rfl⟩
  by_cases c2:v < n
  ·
   have hm2:mc=zbr L κ l' v q m2:=by rw [← hmc.out,if_pos (.inr c2)]
   replace hm2:=Lib.hid hm2
   refine O.seg0 C2 zbv (zab zag (by kernel_rfl)) rfl (zaa Try.func74) rfl fun wp hp => ?_
   replace hp:=Lib.hid hp
   go_wp2_with fail
   refine ⟨hp.out,?_⟩
   clear hp  wp
   obtain rfl:=hR1.out
   clear hR1
   refine zao (O.xc ..) (t:=true) rfl ?_
   refine O.seg0 C2 zbv (zab zag (by kernel_rfl)) rfl (zaa Try.func74) rfl fun wp hp => ?_
   replace hp:=Lib.hid hp
   go_wp2_with fail
   refine ⟨hp.out,?_⟩
   clear hp  wp
   rw [a74_of _ rfl]
   refine fin v q _ ?_ hv.out hq64 hm2.out
   exact ⟨rfl,rfl,rfl,rfl,rfl,rfl,rfl⟩
  ·
   have hm2:mc=zbr L κ l' n p m2:=by rw [← hmc.out,if_neg (by omega)]
   replace hm2:=Lib.hid hm2
   refine O.seg0 C2 zbv (zab zag (by kernel_rfl)) rfl (zaa Try.func74) rfl fun wp hp => ?_
   replace hp:=Lib.hid hp
   go_wp2_with fail
   refine ⟨hp.out,?_⟩
   clear hp  wp
   obtain rfl:=hR1.out
   clear hR1
   refine zao (O.xc ..) (t:=false) rfl ?_
   refine zbq (O.xc ..) ?_
   rw [a74_of _ rfl]
   refine fin n p _ ?_ hn.out hp hm2.out
   exact ⟨rfl,rfl,rfl,rfl,rfl,rfl,rfl⟩
theorem least_cps (O:md.Ok) (Pt:Part md L (GateAt gb) gb TS2) {none:Int} (hno:zem none) {κ:Int→Int→Fu (SM S)} (hend:md.End A w₀ c cs)
  (hret:∀ n p,zem n→p < 64→md.F (κ n p) A w₀ (G (c.finish (.tuple #[.int .i64 n,.int .i64 p])) cs)):md.F (leastF L none κ) A w₀ (G (Frame.enter Try.prog 74 #[gpv gb,md.sv,.int .i64 none] .normal) (c::cs)):=by
 intro x own w m C
 unfold gpv
 rw [enter_at _ Try.func74 rfl]
 simp only [Try.ntmps74,List.size_toArray,List.length_cons,List.length_nil,Nat.reduceAdd,Nat.reduceSub,Array.replicate_succ,
   Array.replicate_zero,List.push_toArray,List.append_toArray,List.nil_append,List.cons_append]
 generalize hmc:leastF L none κ m=mc
 replace hmc:=Lib.hid hmc
 replace hret:=Lib.hid hret
 replace hno:=Lib.hid hno
 refine zae (O.xc ..) fun R0 hR0 => ?_
 refine O.seg0 C zbv (zab zag (by kernel_rfl)) rfl (zaa Try.func74) rfl fun wp hp => ?_
 replace hp:=Lib.hid hp
 go_wp2_with fail
 refine ⟨hp.out,?_⟩
 clear hp  wp
 obtain rfl:=hR0.out
 clear hR0
 refine zae (O.xc ..) fun R0 hR0 => ?_
 refine O.seg0 C zbv (zab zag (by kernel_rfl)) rfl (zaa Try.func74) rfl fun wp hp => ?_
 replace hp:=Lib.hid hp
 go_wp2_with fail
 refine ⟨hp.out,?_⟩
 clear hp  wp
 obtain rfl:=hR0.out
 clear hR0
 refine zae (O.xc ..) fun R0 hR0 => ?_
 refine zae (O.xc ..) fun R1 hR1 => ?_
 refine zbi (O.xc ..) 2 (by decide) (by decide) (zaj (by kernel_rfl)) (C.st O) fun wp hp => ?_
 simp only [List.take_succ_cons,List.take_zero]
 replace hp:=Lib.hid hp
 go_wp2_with fail
 refine zaf hp.out (C.st O).okd ?_
 clear hp  wp
 refine zaz (O.xc ..) rfl rfl (by decide) rfl Try.func86 (by kernel_rfl) (by kernel_rfl) ?_
 walk_nrm
 obtain rfl:=hmc.out
 clear hmc
 refine list_cps O Pt (κ:=fun l=>zbr L κ l none (-1)) (.inr rfl) (O.endUp (zaa Try.func74) rfl rfl hend) (fun l v A₁ w₁ L1 hrow hAr hm => ?_) x own w m C
 intro x2 own2 w2 m2 C2
 rw [Frame.finish_at]
 clear C
 generalize hmc:zbr L κ l none (-1) m2=mc
 replace hmc:=Lib.hid hmc
 obtain ⟨a,n,cap,rfl⟩:∃ a n c,v = .slice a n c:=by obtain ⟨_,a,cap,e,_⟩:=hrow;exact ⟨a,_,cap,e⟩
 obtain rfl:n=l.length:=by obtain ⟨_,a',cap',e,_⟩:=hrow;cases e;rfl
 replace hrow:=Lib.hid hrow
 replace hAr:=Lib.hid hAr
 walk_nrm
 refine zca (O.xc ..) 3 2 (by decide) (by decide) (zaj (by kernel_rfl)) (C2.st O) fun wp hp => ?_
 simp only [List.drop_succ_cons,List.drop_zero,List.take_succ_cons,List.take_zero]
 replace hp:=Lib.hid hp
 go_wp2_with fail
 refine zaf hp.out (C2.st O).okd ?_
 clear hp  wp
 refine zad (O.xc ..) ?_
 obtain rfl:=hR1.out
 clear hR1
 refine zb4 (O.xc ..) ?_
 refine x_loop (O.xc ..) ?_
 rw [a74_of _ rfl]
 obtain rfl:=hmc.out
 clear hmc
 refine least_loop O Pt (κ:=κ) (l:=l) (O.endMore hend L1) hrow.out (fun b hb=>(hAr.out b hb).1) hm (fun n p z hn hp z8 z9 => ?_) l 0 rfl (Nat.zero_le _) none (-1) _ _ _ _ _ hno.out (by omega) C2 ⟨rfl,rfl,rfl,rfl,rfl,rfl,rfl⟩
 intro x3 own3 w3 m3 C3
 generalize hmc:κ n p m3=mc
 replace hmc:=Lib.hid hmc
 obtain rfl:=hR0.out
 clear hR0
 unfold A74
 simp only [z8,z9]
 refine zae (O.xc ..) fun R0 hR0 => ?_
 refine O.seg0 C3 zbv (zab zag (by kernel_rfl)) rfl (zaa Try.func74) rfl fun wp hp => ?_
 replace hp:=Lib.hid hp
 go_wp2_with fail
 refine ⟨hp.out,?_⟩
 clear hp  wp
 obtain rfl:=hR0.out
 clear hR0
 refine zc0 (O.xc ..) ?_
 refine za0 (O.xc ..) (zaa Try.func74) (C3.st O) ⟨rfl,rfl,rfl,_,Try.func74,results_tmp2 rfl _ _ _⟩ ?_
 obtain rfl:=hmc.out
 exact hret.out n p hn hp _ _ _ _ (C3.less L1)
end
end Go.Proofs.Ytofacoojpgkbiaa
/-
 May of a gate. No condition of its own.
-/
namespace Go.Proofs.Ytofacoojpgkbiaa
open Go.Conc Go.RowKit
open Go.ConcN (upd upd_ne upd_same)
set_option maxRecDepth 100000
def mayF {S:Type} (L:Lens S GateS) (q size:Int) (κ:Bool→Int→Fu (SM S)):Fu (SM S):=leastF L q fun n p=>if q < -9223372036854775808+max size 1∨q - max size 1≤n then κ true (-1) else κ false p
section
variable {S:Type} {md:Md (SM S)} {L:Lens S GateS} {gb:Nat} {A:Nat→Prop} {w₀:W0 (SM S)} {c:Frame} {cs:List Frame} {R:List Item}
theorem may_cps (O:md.Ok) (Pt:Part md L (GateAt gb) gb TS2) {q size:Int} (hq:zem q) (hs:zem size) {κ:Bool→Int→Fu (SM S)} (hend:md.End A w₀ c cs)
  (hret:∀ t p,p < 64→md.F (κ t p) A w₀ (G (c.finish (.tuple #[.bool t,.int .i64 p])) cs)):md.F (mayF L q size κ) A w₀ (G (Frame.enter Try.prog 75 #[gpv gb,md.sv,.int .i64 q,.int .i64 size] .normal) (c::cs)):=by
 intro x own w m C
 unfold gpv
 rw [enter_at _ Try.func75 rfl]
 simp only [Try.ntmps75,List.size_toArray,List.length_cons,List.length_nil,Nat.reduceAdd,Nat.reduceSub,Array.replicate_succ,
   Array.replicate_zero,List.push_toArray,List.append_toArray,List.nil_append,List.cons_append]
 generalize hmc:mayF L q size κ m=mc
 replace hmc:=Lib.hid hmc
 replace hret:=Lib.hid hret
 replace hq:=Lib.hid hq
 replace hs:=Lib.hid hs
 refine zae (O.xc ..) fun R0 hR0 => ?_
 refine O.seg0 C zbv (zab zag (by kernel_rfl)) rfl (zaa Try.func75) rfl fun wp hp => ?_
 replace hp:=Lib.hid hp
 go_wp2_with fail
 refine ⟨hp.out,?_⟩
 clear hp  wp
 obtain rfl:=hR0.out
 clear hR0
 refine zae (O.xc ..) fun R0 hR0 => ?_
 refine zbi (O.xc ..) 3 (by decide) (by decide) (zaj (by kernel_rfl)) (C.st O) fun wp hp => ?_
 simp only [List.take_succ_cons,List.take_zero]
 replace hp:=Lib.hid hp
 go_wp2_with fail
 refine zaf hp.out (C.st O).okd ?_
 clear hp  wp
 refine zaz (O.xc ..) rfl rfl (by decide) rfl Try.func74 (by kernel_rfl) (by kernel_rfl) ?_
 walk_nrm
 obtain rfl:=hmc.out
 clear hmc
 refine least_cps O Pt (κ:=fun n p=>if q < -9223372036854775808+max size 1∨q - max size 1≤n then κ true (-1) else κ false p) hq.out (O.endUp (zaa Try.func75) rfl rfl hend) (fun n p hn hp => ?_) x own w m C
 intro x2 own2 w2 m2 C2
 rw [Frame.finish_at]
 clear C
 obtain ⟨K,hK⟩:∃ K,max size 1=K:=⟨_,rfl⟩
 rw [hK]
 have hK1:1≤K:=by omega
 have hK2:K≤9223372036854775807:=by have:=hs.out;omega
 replace hK:=Lib.hid hK
 replace hn:=Lib.hid hn
 generalize hmc:(if q < -9223372036854775808+K∨q - K≤n then κ true (-1) else κ false p) m2=mc
 replace hmc:=Lib.hid hmc
 walk_nrm
 refine zca (O.xc ..) 4 5 (by decide) (by decide) (zaj (by kernel_rfl)) (C2.st O) fun wp hp => ?_
 simp only [List.drop_succ_cons,List.drop_zero,List.take_succ_cons,List.take_zero]
 replace hp:=Lib.hid hp
 go_wp2_with fail
 refine zaf hp.out (C2.st O).okd ?_
 clear hp  wp
 refine zad (O.xc ..) ?_
 obtain rfl:=hR0.out
 clear hR0
 refine zae (O.xc ..) fun R0 hR0 => ?_
 refine O.seg0 C2 zbv (zab zag (by kernel_rfl)) rfl (zaa Try.func75) rfl fun wp hp => ?_
 replace hp:=Lib.hid hp
 go_wp2_with (refine wpL_max rfl _ _ _ _ rfl size 1 K rfl rfl hK.out ?_)
 refine ⟨hp.out,?_⟩
 clear hp  wp
 obtain rfl:=hR0.out
 clear hR0
 refine zae (O.xc ..) fun R0 hR0 => ?_
 refine zae (O.xc ..) fun R1 hR1 => ?_
 have wr1:IntKind.i64.wrap (-9223372036854775808+K) = -9223372036854775808+K:=by rw [IntKind.wrap_i64];omega
 by_cases c1:q < -9223372036854775808+K
 ·
  have hm2:mc=κ true (-1) m2:=by rw [← hmc.out,if_pos (.inl c1)]
  replace hm2:=Lib.hid hm2
  refine O.seg0 C2 zbv (zab zag (by kernel_rfl)) rfl (zaa Try.func75) rfl fun wp hp => ?_
  replace hp:=Lib.hid hp
  go_wp2_with fail
  refine ⟨hp.out,?_⟩
  clear hp  wp
  obtain rfl:=hR1.out
  clear hR1
  refine zao (O.xc ..) (t:=true) rfl ?_
  refine zae (O.xc ..) fun R2 hR2 => ?_
  refine O.seg0 C2 zbv (zab zag (by kernel_rfl)) rfl (zaa Try.func75) rfl fun wp hp => ?_
  replace hp:=Lib.hid hp
  go_wp2_with fail
  refine ⟨hp.out,?_⟩
  clear hp  wp
  obtain rfl:=hR2.out
  clear hR2
  refine zc0 (O.xc ..) ?_
  refine za0 (O.xc ..) (zaa Try.func75) (C2.st O) ⟨rfl,rfl,rfl,_,Try.func75,results_tmp2 rfl _ _ _⟩ ?_
  rw [hm2.out]
  exact hret.out true (-1) (by omega) _ _ _ _ C2
 have wr2:IntKind.i64.wrap (q - K)=q - K:=by have:=hq.out;rw [IntKind.wrap_i64];omega
 by_cases c2:n≥q - K
 ·
  have hm2:mc=κ true (-1) m2:=by rw [← hmc.out,if_pos (.inr c2)]
  replace hm2:=Lib.hid hm2
  refine O.seg0 C2 zbv (zab zag (by kernel_rfl)) rfl (zaa Try.func75) rfl fun wp hp => ?_
  replace hp:=Lib.hid hp
  go_wp2_with fail
  refine ⟨hp.out,?_⟩
  clear hp  wp
  obtain rfl:=hR1.out
  clear hR1
  refine zao (O.xc ..) (t:=true) rfl ?_
  refine zae (O.xc ..) fun R2 hR2 => ?_
  refine O.seg0 C2 zbv (zab zag (by kernel_rfl)) rfl (zaa Try.func75) rfl fun wp hp => ?_
  replace hp:=Lib.hid hp
  go_wp2_with fail
  refine ⟨hp.out,?_⟩
  clear hp  wp
  obtain rfl:=hR2.out
  clear hR2
  refine zc0 (O.xc ..) ?_
  refine za0 (O.xc ..) (zaa Try.func75) (C2.st O) ⟨rfl,rfl,rfl,_,Try.func75,results_tmp2 rfl _ _ _⟩ ?_
  rw [hm2.out]
  exact hret.out true (-1) (by omega) _ _ _ _ C2
 ·
  have hm2:mc=κ false p m2:=by rw [← hmc.out,if_neg (by omega)]
  replace hm2:=Lib.hid hm2
  refine O.seg0 C2 zbv (zab zag (by kernel_rfl)) rfl (zaa Try.func75) rfl fun wp hp => ?_
  replace hp:=Lib.hid hp
  go_wp2_with fail
  refine ⟨hp.out,?_⟩
  clear hp  wp
  obtain rfl:=hR1.out
  clear hR1
  refine zao (O.xc ..) (t:=false) rfl ?_
  refine zbq (O.xc ..) ?_
  obtain rfl:=hR0.out
  clear hR0
  refine zae (O.xc ..) fun R2 hR2 => ?_
  refine O.seg0 C2 zbv (zab zag (by kernel_rfl)) rfl (zaa Try.func75) rfl fun wp hp => ?_
  replace hp:=Lib.hid hp
  go_wp2_with fail
  refine ⟨hp.out,?_⟩
  clear hp  wp
  obtain rfl:=hR2.out
  clear hR2
  refine zc0 (O.xc ..) ?_
  refine za0 (O.xc ..) (zaa Try.func75) (C2.st O) ⟨rfl,rfl,rfl,_,Try.func75,results_tmp2 rfl _ _ _⟩ ?_
  rw [hm2.out]
  exact hret.out false p hp _ _ _ _ C2
end
end Go.Proofs.Ytofacoojpgkbiaa
/-
 Join of a gate: lists made,laid. No condition of its own.
-/
namespace Go.Proofs.Ytofacoojpgkbiaa
open Go.Conc Go.RowKit
open Go.ConcN (upd upd_ne upd_same)
set_option maxRecDepth 100000
section
variable {M:Type} [Priv M] {md:Md M} {y:md.β} {own own0:Nat→Owner} {A:Nat→Prop} {w₀:W0 M} {w w0 w1:World} {m:M} {mc:M×Co M} {b:Frame} {a:Act} {k:List Item} {cs:List Frame} {ops:Array Oper} {i:Nat} {rest:List Nat} {o:Oper}
theorem Md.C.growW (O:md.Ok) (C:md.C y own A w₀ w m) (hO:OwnStep md.i own0 own w0.heap.size) (hF:Frm md.i own0 w0 w) (b0:Option Nat) (hb:∀ b,b0=some b→own b = .th md.i∧¬ A b) (hs:w.heap.size≤w1.heap.size) (low:∀ b,b < w.heap.size→b0≠some b→w1.heap[b]?=w.heap[b]?) :
  ∃ own1,md.C y own1 A w₀ w1 m∧OwnStep md.i own0 own1 w0.heap.size∧Frm md.i own0 w0 w1∧(∀ b,w.heap.size≤b→b < w1.heap.size→own1 b = .th md.i)∧(∀ b,b < w.heap.size→own1 b=own b):=by
 have hlow:∀ b,b < w.heap.size→own b ≠ .th md.i→w1.heap[b]?=w.heap[b]?:=fun b hlt hne=>low b hlt fun z=>hne (hb b z).1
 have hR:md.Rep m (ownG md.i w.heap.size w1.heap.size own) w1:=O.loc _ _ _ _ _ C.rep ⟨fun b hb'=>by
  have hlt:=C.lt (b:=b) hb'.out
  exact ⟨zdu hlt,hlow b hlt (hb'.th md.i)⟩,fun b v hb'=>by
  unfold ownG at hb'
  split at hb'
  ·
   cases hb'
  ·
   exact hb'⟩
 obtain ⟨C1,h1,h2⟩:=C.turn (own':=ownG md.i w.heap.size w1.heap.size own) (w₁:=w₀) (A':=A) O (ownG_step _ _ _ _) hs (fun b hlt hne _=>hlow b hlt hne) (fun b hb'=>by
  unfold ownG
  rw [if_neg (by omega)]
  exact C.fresh b (by omega)) hR (fun b hA=>by
  obtain ⟨z1,z2⟩:=C.mine b hA
  have hlt:=C.lt (b:=b) (by rw [z1];simp)
  exact ⟨(zdu hlt).trans z1,(low b hlt fun z=>(hb b z).2 hA).trans z2⟩) C.pv (fun b v hb'=>by
  obtain ⟨z1,z2⟩:=C.tg b v hb'
  have hlt:=C.lt (b:=b) (by rw [z1];simp)
  exact ⟨(zdu hlt).trans z1,(hlow b hlt (by rw [z1];simp)).trans z2⟩)
 exact ⟨_,C1,hO.trans h1 hF.1,.trans hO hF h2,fun b=>ownG_new,fun b hb'=>zdu hb'⟩
structure RowW (i N:Nat) (own:Nat→Owner) (w:World) (v:Value) (l:List Int):Prop where
 row:w.ownsRow N 3 1 v l.length (zax l)
 mine:∀ g,v.ownBlock=some g→own g = .th i
theorem RowW.keep {i N:Nat} {own own':Nat→Owner} {w w':World} {v:Value} {l:List Int} (h:RowW i N own w v l) (hk:∀ b,v.ownBlock=some b→b < w.heap.size→own' b=own b∧w'.heap[b]?=w.heap[b]?):RowW i N own' w' v l:=by
 obtain ⟨⟨h1,h2⟩,h3⟩:=h
 rcases h2 with ⟨rfl,h2⟩ | ⟨g,cap,cur,rfl,q1,q2,q3⟩
 ·
  exact ⟨⟨h1,.inl ⟨rfl,h2⟩⟩,fun g hg=>by cases hg⟩
 ·
  have hlt:=(Array.getElem?_eq_some_iff.1 q2).1
  obtain ⟨k1,k2⟩:=hk g rfl hlt
  refine ⟨⟨h1,.inr ⟨g,cap,cur,rfl,q1,k2.trans q2,q3⟩⟩,fun b hb => ?_⟩
  cases hb
  rw [k1]
  exact h3 g rfl
theorem RowW.th {i N:Nat} {own:Nat→Owner} {w:World} {v:Value} {l:List Int} (h:RowW i N own w v l) (hl:∀ x∈l,zem x):RowTh i own w.heap v l:=by
 obtain ⟨p,cap,e,hc,q⟩:=zeh h.row
 refine ⟨hl,p,cap,e,hc,fun hne => ?_⟩
 obtain ⟨g,c,e1,e2,e3,e4⟩:=q (List.length_pos_iff.2 hne)
 refine ⟨g,0,c,e1,h.mine g (by rw [e,e1];rfl),e3,fun j x hj => ?_⟩
 have hlt:j < l.length:=(List.getElem?_eq_some_iff.1 hj).1
 rw [Nat.zero_add,e4 j hlt]
 simp [zax,hj]
theorem RowW.ge {i N:Nat} {own:Nat→Owner} {w:World} {v:Value} {l:List Int} (h:RowW i N own w v l) {b:Nat} (hb:zd6 v l b):N≤b:=by
 obtain ⟨hne,o,n,c,e⟩:=hb
 obtain ⟨p',cap',e',_,q⟩:=zeh h.row
 obtain ⟨g,_,e1,e2,_⟩:=q (List.length_pos_iff.2 hne)
 rw [e',e1] at e
 simp only [Value.slice.injEq,Option.some.injEq,Addr.mk.injEq] at e
 rw [← e.1.1];exact e2
theorem RowW.geO {i N:Nat} {own:Nat→Owner} {w:World} {v:Value} {l:List Int} (h:RowW i N own w v l) {b:Nat} (hb:v.ownBlock=some b):N≤b:=by
 rcases h.row.2 with ⟨rfl,_⟩ | ⟨g,cap,cur,rfl,q1,_⟩
 ·
  cases hb
 ·
  cases hb;exact q1
theorem RowW.frozen {i N:Nat} {own:Nat→Owner} {w wp:World} {D:Nat→Option (Nat×Nat)} {v:Value} {l:List Int} (h:RowW i N own w v l) (hp:Sim wp (poi D w)) (hD:∀ b,own b = .th i→D b=none):wp.ownsRow N 3 1 v l.length (zax l):=by
 obtain ⟨⟨h1,h2⟩,h3⟩:=h
 rcases h2 with ⟨rfl,h2⟩ | ⟨g,cap,cur,rfl,q1,q2,q3⟩
 ·
  exact ⟨h1,.inl ⟨rfl,h2⟩⟩
 ·
  exact ⟨h1,.inr ⟨g,cap,cur,rfl,q1,(zba hp (hD g (h3 g rfl))).trans q2,q3⟩⟩
end
def joinB {S:Type} (L:Lens S GateS) (p at_:Int) (κ:Int→Fu (SM S)) (rest:Fu (SM S)) (s:Nat) (l:List Int):Fu (SM S) :=
 if p∈l then κ 7 else setF L p at_ fun _=>zbn (casP L s (l++[p]) fun t=>if t then κ 0 else rest)
def joinL {S:Type} (L:Lens S GateS) (p at_:Int) (κ:Int→Fu (SM S)):Nat→Fu (SM S)
 | 0=>cutF
 | f+1=>zbn fun m=>joinB L p at_ κ (joinL L p at_ κ f) (L.get m.st).ser (L.get m.st).mem m
def joinF {S:Type} (L:Lens S GateS) (f:Nat) (p at_:Int) (κ:Int→Fu (SM S)):Fu (SM S):=if p < 0∨64≤p then κ 1 else joinL L p at_ κ f
end Go.Proofs.Ytofacoojpgkbiaa
