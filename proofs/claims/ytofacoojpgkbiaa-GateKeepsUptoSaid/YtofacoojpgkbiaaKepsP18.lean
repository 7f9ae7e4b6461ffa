/-
  A part of a proof. No condition of its own.
-/
import Derived.Test.YtofacoojpgkbiaaKepsP17
import Derived.Lib.SliceRun
set_option linter.unusedVariables false
set_option maxHeartbeats 8000000
set_option linter.unusedSimpArgs false
namespace Go.Proofs.Ytofacoojpgkbiaa
open Go.Conc Go.RowKit
open Go.ConcN (upd upd_ne upd_same)
set_option maxRecDepth 100000
theorem zrf:(Try.prog.info? 3).map (fun i=>(i.zero,i.size,i.bytes))=some (some (.int .i64 0),1,8):=by kernel_rfl
def za8 (l:List Int):List Value:=l.map (Value.int .i64)
theorem IntsAt.mono {w w':World} {v:Value} {l:List Int} (h:IntsAt w v l) (hb:∀ b,b < w.heap.size→w'.heap[b]?=w.heap[b]?):IntsAt w' v l:=by
 obtain ⟨a,cap,e,q⟩:=h;exact ⟨a,cap,e,fun hne=>by
  obtain ⟨b,o,e1,q1⟩:=q hne;exact ⟨b,o,e1,fun j x hj=>by
   have:=q1 j x hj;have hlt:=World.block_lt_of_cell? w _ this;exact (World.cell?_of_block (w:=w) (hb _ hlt)).trans this⟩⟩
theorem zxh {w:World} {ad:Addr} {c:Nat} {l:List Int} (h:IntsAt w (.slice (some ad) l.length c) l):zh8 w (.slice (some ad) l.length c) l.length (za8 l):=by
 obtain ⟨ao,c',e,h⟩:=h;cases e;refine ⟨by simp [za8],fun u hu=>?_,.inr ⟨ad,c,rfl,fun j u hj=>?_⟩⟩
 ·obtain ⟨x,_,rfl⟩:=List.mem_map.1 hu;rfl
 ·unfold za8 at hj;rw [List.getElem?_map] at hj;obtain ⟨x,hx,rfl⟩:=Option.map_eq_some_iff.1 hj;obtain ⟨b,o,e,hc⟩:=h (by intro z;rw [z] at hx;simp at hx);cases e;rw [← hc j x hx];unfold Addr.add;split<;>simp_all
theorem zis (v:Value) (l:List Int) (w:World) (h:IntsAt w v l) (hl:l.length≤4000000) :
  Calls Try.prog 132 #[v] w fun e w'=>∃ v',e = .returned v'∧w'.ownsRow w.heap.size 3 1 v' l.length (za8 l)∧Below w.heap.size w w':=by
 obtain ⟨i0,hi0,hz0,hz1,hz2⟩:=info_parts zrf;have h':=h;obtain ⟨ao,c,rfl,h⟩:=h;cases ao with
 | none =>
  have hl0:l=[]:=by
   cases l with
   | nil=>rfl
   | cons a l =>
    obtain ⟨b,o,e,_⟩:=h (by simp);cases e
  subst hl0;clear h h';have hnil:∀ w,(binOp .eql 24 (.slice none ([]:List Int).length c) (.slice none 0 0)).run Try.prog w = .ok (.bool true) w:=fun w=>Lib.run_eql_slice_nil w 24 3 none 0 c 0 0 Try.underlying24;simp only [yav] at hnil;go_enter Try.func132,Try.ntmps132
  go_wp2_with fail
  go_ret
  exact ⟨_,rfl,World.ownsRow_nil _ _ _ _,Below.refl _ _⟩
 | some ad =>
  have HSX:=yay (zxh (h'.mono (w':=w.alloc (.cells #[] 3)) fun b hb=>Below.heap_alloc _ _ _ hb));have HOW:Hid ((w.alloc (.cells #[] 3)).ownsRow w.heap.size 3 1 (.slice (some ⟨w.heap.size,0,none⟩) 0 0) 0 []):=⟨rfl,.inr ⟨w.heap.size,0,#[],rfl,yax _,heap_alloc_new w _,yax _,by decide,rfl,rfl⟩⟩;have HB:Hid (Below w.heap.size w (w.alloc (.cells #[] 3))):=(Below.refl _ _).alloc (yax _) _;clear h h';have hnil:∀ w,(binOp .eql 24 (.slice (some ad) l.length c) (.slice none 0 0)).run Try.prog w = .ok (.bool false) w:=fun w=>Lib.run_eql_slice_nil w 24 3 (some ad) _ c 0 0 Try.underlying24;go_enter Try.func132,Try.ntmps132
  go_wp2_with (at_builtin;go_must (refine za3 rfl (.tmp 5) (.tmp 6) 24 rfl w.heap.size 3 i0 _ 8 Try.underlying24 hi0 hz0 hz1 hz2 (by decide) (.slice (some ⟨w.heap.size,0,none⟩) 0 0) 0 [] rfl HOW.out l.length (za8 l) HSX.out ?l2 ?b2 ?n2 ?_);go_must (case l2=>(unfold maxLen;omega));go_must (case b2=>omega);go_must (case n2=>(simp));intro v' w' ha;have HA:=yay ha;clear ha)
  go_ret
  obtain ⟨h1,h2,h3⟩:=HA.out;refine ⟨_,rfl,by simpa using h1,HB.out.grown h2 (by simp) (fun k hk=>?_)⟩;cases hk;exact yax _
section
variable {S:Type} {md:Md (SM S)} {L:zgn S GateS} {gb:Nat} {A:Nat→Prop} {w₀:W0 (SM S)} {c:Frame} {cs:List Frame}
def GateS.lay (g:GateS) (p at_:Int):GateS:={ g with num:=upd g.num p.toNat at_ }
def zmu (L:zgn S GateS) (p at_:Int) (κ:Int→Fu (SM S)):Fu (SM S):=if p < 0∨64≤p then κ 1 else zbp fun m=>κ 0 (m.with (L.put ((L.get m.st).lay p at_) m.st))
def znl (L:zgn S GateS) (p:Int) (κ:Int→Int→Fu (SM S)):Fu (SM S):=if p < 0∨64≤p then κ 0 1 else zbp fun m=>κ ((L.get m.st).num p.toNat) 0 m
theorem ztz (O:md.Ok) (Pt:Part md L (GateAt gb) gb TS2) {p at_:Int} (hat:zd5 at_) {κ:Int→Fu (SM S)} (hend:md.End A w₀ c cs) (hret:∀ e,(e=0∨e=1)→md.F (κ e) A w₀ (G (c.finish (.int .i64 e)) cs)) :
  md.F (zmu L p at_ κ) A w₀ (G (Frame.enter Try.prog 27 #[gpv gb,md.sv,.int .i64 p,.int .i64 at_] .normal) (c::cs)):=by
 intro x own w m C;unfold gpv;rw [enter_at _ Try.func27 rfl];simp only [Try.ntmps27,yan,yau,yav,Nat.reduceAdd,Nat.reduceSub,yao,
   yap,yaq,yar,yas,yat]
 generalize hmc:zmu L p at_ κ m=mc;replace hmc:=yay hmc;replace hret:=yay hret;refine zae (O.xc ..) fun R0 hR0=>?_;refine O.seg0 C zbu (zab zaf (by kernel_rfl)) rfl (zaa Try.func27) rfl fun wp hp=>?_;replace hp:=yay hp
 go_wp2_with fail
 refine ⟨hp.out,?_⟩;clear hp  wp;obtain rfl:=hR0.out;clear hR0;refine zae (O.xc ..) fun R0 hR0=>?_;refine zae (O.xc ..) fun R1 hR1=>?_;refine O.seg0 C zbu (zab zaf (by kernel_rfl)) rfl (zaa Try.func27) rfl fun wp hp=>?_;replace hp:=yay hp
 go_wp2_with (go_at_call 88;refine (zel (some ⟨gb,0,none⟩) p wp).mono ?_;rintro e w' ⟨rfl,rfl⟩)
 refine ⟨hp.out,?_⟩;clear hp  wp;obtain rfl:=hR1.out;clear hR1;refine zae (O.xc ..) fun R1 hR1=>?_;by_cases hb:p < 0∨64≤p
 ·have e1:znk (some ⟨gb,0,none⟩) p=1:=by unfold znk;rw [if_pos hb]
  have e2:zmu L p at_ κ=κ 1:=by unfold zmu;rw [if_pos hb]
  rw [e1];obtain rfl:=hmc.out;rw [e2];clear e1 e2 hmc;replace hb:=yay hb;generalize hmc:κ 1 m=mc;replace hmc:=yay hmc;refine O.seg0 C zbu (zab zaf (by kernel_rfl)) rfl (zaa Try.func27) rfl fun wp hp=>?_;replace hp:=yay hp
  go_wp2_with fail
  refine ⟨hp.out,?_⟩;clear hp  wp;obtain rfl:=hR1.out;clear hR1;refine zao (O.xc ..) (t:=true) rfl ?_;refine zae (O.xc ..) fun R2 hR2=>?_;refine O.seg0 C zbu (zab zaf (by kernel_rfl)) rfl (zaa Try.func27) rfl fun wp hp=>?_;replace hp:=yay hp
  go_wp2_with fail
  refine ⟨hp.out,?_⟩;clear hp  wp;obtain rfl:=hR2.out;clear hR2;refine zct (O.xc ..) ?_;refine za4 (O.xc ..) (zaa Try.func27) (C.st O) ⟨rfl,rfl,rfl,_,Try.func27,results_tmp rfl _ _ _⟩ ?_;obtain rfl:=hmc.out;exact hret.out 1 (.inr rfl) _ _ _ _ C
 ·have e1:znk (some ⟨gb,0,none⟩) p=0:=by unfold znk;rw [if_neg hb,if_neg (by simp)]
  have e2:zmu L p at_ κ=zbp fun m=>κ 0 (m.with (L.put ((L.get m.st).lay p at_) m.st)):=by unfold zmu;rw [if_neg hb]
  obtain ⟨j,rfl⟩:∃ j:Nat,p=j:=⟨p.toNat,by omega⟩;have hj:j < 64:=by omega
  clear hb;rw [e1];obtain rfl:=hmc.out;rw [e2];clear e1 e2 hmc;generalize hmc:zbp (fun m=>κ 0 (m.with (L.put ((L.get m.st).lay j at_) m.st))) m=mc;replace hmc:=yay hmc;refine O.seg0 C zbu (zab zaf (by kernel_rfl)) rfl (zaa Try.func27) rfl fun wp hp=>?_;replace hp:=yay hp
  go_wp2_with fail
  refine ⟨hp.out,?_⟩;clear hp  wp;obtain rfl:=hR1.out;clear hR1;refine zao (O.xc ..) (t:=false) rfl ?_;refine zbq (O.xc ..) ?_;obtain rfl:=hR0.out;clear hR0;refine zae (O.xc ..) fun R0 hR0=>?_;refine zbj (O.xc ..) 1 (by decide) (by decide) (zah (by kernel_rfl)) (C.st O) fun wp hp=>?_;simp only [yad,yae];replace hp:=yay hp
  go_wp2_with fail
  refine zag hp.out (C.st O).okd ?_;clear hp  wp;refine zav (O.xc ..) rfl rfl (by decide) rfl Try.func89 (by kernel_rfl) (by kernel_rfl) ?_;walk_nrm;obtain rfl:=hmc.out;clear hmc;refine O.gstep (.inr rfl) (O.endUp (zaa Try.func27) rfl rfl hend) (fun _ x2 own2 w2 m2 C2=>?_) C;rw [Frame.finish_at];clear C;refine zad (O.xc ..) ?_;obtain rfl:=hR0.out;clear hR0;refine zae (O.xc ..) fun R0 hR0=>?_;have hG:=Pt.rep C2.rep;obtain ⟨pp,cc,c1,c2,c3,c4,c5⟩:=hG.cell;have og:=hG.sh;have hD:md.D gb=none:=C2.dm O (by rw [og];simp);generalize hmc:κ 0 (m2.with (L.put ((L.get m2.st).lay j at_) m2.st))=mc;replace hmc:=yay hmc;refine O.segA C2 zbu (zab zaf (by kernel_rfl)) rfl (zaa Try.func27) rfl fun wp hp=>?_;have g1:=(zbe hp hD).trans c1;have hc:=(zac g1 (1+j)).trans (c4 j hj);have hw:=znq gb (1+j) _ at_ wp hc (zat g1 (1+j));have q0:(0:Int)≤(j:Nat):=by omega
  have q1:((j:Nat):Int) < 64:=by omega
  replace c1:=yay c1;replace g1:=yay g1;replace hp:=yay hp;replace hG:=yay hG;clear hc c4 c5
  go_wp2_with (go_at_call 83;refine hw.mono ?_;rintro e w' ⟨rfl,rfl⟩)
  refine fun w3 q1 q2 q3=>?_;have k3:∀ b,b≠gb→w3.heap[b]?=w2.heap[b]?:=fun b hb=>q2 b (Below.heap_setCell _ _ _ _ hb);have s3:w3.heap.size=w2.heap.size:=by rw [q3];simp [World.setCell,hp.out.heap,zap]
  have e3:w3.heap[gb]?=(w2.setCell ⟨gb,1+j,none⟩ (.int .i64 at_)).heap[gb]?:=by rw [q1 gb hD,zau g1.out,zau c1.out]
  clear q1 q2 q3 hw g1 hp wp;have hG3:=hG.out.put (v:=at_) hj hat e3 k3;obtain ⟨C3,F3⟩:=Pt.write O C2 og s3 k3 hG3;refine O.rebase .refl F3 ?_;obtain rfl:=hR0.out;clear hR0;refine zae (O.xc ..) fun R0 hR0=>?_;refine O.seg0 C3 zbu (zab zaf (by kernel_rfl)) rfl (zaa Try.func27) rfl fun wp hp=>?_;replace hp:=yay hp
  go_wp2_with fail
  refine ⟨hp.out,?_⟩;clear hp  wp;obtain rfl:=hR0.out;clear hR0;refine zct (O.xc ..) ?_;refine za4 (O.xc ..) (zaa Try.func27) (C3.st O) ⟨rfl,rfl,rfl,_,Try.func27,results_tmp rfl _ _ _⟩ ?_;obtain rfl:=hmc.out;exact hret.out 0 (.inl rfl) _ _ _ _ C3
theorem zuy (O:md.Ok) (Pt:Part md L (GateAt gb) gb TS2) {p:Int} {κ:Int→Int→Fu (SM S)} (hend:md.End A w₀ c cs) (hret:∀ v e,zd5 v→(e=0∨e=1)→md.F (κ v e) A w₀ (G (c.finish (.tuple #[.int .i64 v,.int .i64 e])) cs)) :
  md.F (znl L p κ) A w₀ (G (Frame.enter Try.prog 85 #[gpv gb,md.sv,.int .i64 p] .normal) (c::cs)):=by
 intro x own w m C;unfold gpv;rw [enter_at _ Try.func85 rfl];simp only [Try.ntmps85,yan,yau,yav,Nat.reduceAdd,Nat.reduceSub,yao,
   yap,yaq,yar,yas,yat]
 generalize hmc:znl L p κ m=mc;replace hmc:=yay hmc;replace hret:=yay hret;refine zae (O.xc ..) fun R0 hR0=>?_;refine O.seg0 C zbu (zab zaf (by kernel_rfl)) rfl (zaa Try.func85) rfl fun wp hp=>?_;replace hp:=yay hp
 go_wp2_with fail
 refine ⟨hp.out,?_⟩;clear hp  wp;obtain rfl:=hR0.out;clear hR0;refine zae (O.xc ..) fun R0 hR0=>?_;refine zae (O.xc ..) fun R1 hR1=>?_;refine O.seg0 C zbu (zab zaf (by kernel_rfl)) rfl (zaa Try.func85) rfl fun wp hp=>?_;replace hp:=yay hp
 go_wp2_with (go_at_call 88;refine (zel (some ⟨gb,0,none⟩) p wp).mono ?_;rintro e w' ⟨rfl,rfl⟩)
 refine ⟨hp.out,?_⟩;clear hp  wp;obtain rfl:=hR1.out;clear hR1;refine zae (O.xc ..) fun R1 hR1=>?_;by_cases hb:p < 0∨64≤p
 ·have e1:znk (some ⟨gb,0,none⟩) p=1:=by unfold znk;rw [if_pos hb]
  have e2:znl L p κ=κ 0 1:=by unfold znl;rw [if_pos hb]
  rw [e1];obtain rfl:=hmc.out;rw [e2];clear e1 e2 hmc;replace hb:=yay hb;generalize hmc:κ 0 1 m=mc;replace hmc:=yay hmc;refine O.seg0 C zbu (zab zaf (by kernel_rfl)) rfl (zaa Try.func85) rfl fun wp hp=>?_;replace hp:=yay hp
  go_wp2_with fail
  refine ⟨hp.out,?_⟩;clear hp  wp;obtain rfl:=hR1.out;clear hR1;refine zao (O.xc ..) (t:=true) rfl ?_;refine zae (O.xc ..) fun R2 hR2=>?_;refine O.seg0 C zbu (zab zaf (by kernel_rfl)) rfl (zaa Try.func85) rfl fun wp hp=>?_;replace hp:=yay hp
  go_wp2_with fail
  refine ⟨hp.out,?_⟩;clear hp  wp;obtain rfl:=hR2.out;clear hR2;refine zct (O.xc ..) ?_;refine za4 (O.xc ..) (zaa Try.func85) (C.st O) ⟨rfl,rfl,rfl,_,Try.func85,results_tmp2 rfl _ _ _⟩ ?_;obtain rfl:=hmc.out;exact hret.out 0 1 (by decide) (.inr rfl) _ _ _ _ C
 ·have e1:znk (some ⟨gb,0,none⟩) p=0:=by unfold znk;rw [if_neg hb,if_neg (by simp)]
  have e2:znl L p κ=zbp fun m=>κ ((L.get m.st).num p.toNat) 0 m:=by unfold znl;rw [if_neg hb]
  obtain ⟨j,rfl⟩:∃ j:Nat,p=j:=⟨p.toNat,by omega⟩;have hj:j < 64:=by omega
  clear hb;rw [e1];obtain rfl:=hmc.out;rw [e2];clear e1 e2 hmc;generalize hmc:zbp (fun m=>κ ((L.get m.st).num (j:Int).toNat) 0 m) m=mc;replace hmc:=yay hmc;refine O.seg0 C zbu (zab zaf (by kernel_rfl)) rfl (zaa Try.func85) rfl fun wp hp=>?_;replace hp:=yay hp
  go_wp2_with fail
  refine ⟨hp.out,?_⟩;clear hp  wp;obtain rfl:=hR1.out;clear hR1;refine zao (O.xc ..) (t:=false) rfl ?_;refine zbq (O.xc ..) ?_;obtain rfl:=hR0.out;clear hR0;refine zae (O.xc ..) fun R0 hR0=>?_;refine zbj (O.xc ..) 1 (by decide) (by decide) (zah (by kernel_rfl)) (C.st O) fun wp hp=>?_;simp only [yad,yae];replace hp:=yay hp
  go_wp2_with fail
  refine zag hp.out (C.st O).okd ?_;clear hp  wp;refine zav (O.xc ..) rfl rfl (by decide) rfl Try.func89 (by kernel_rfl) (by kernel_rfl) ?_;walk_nrm;obtain rfl:=hmc.out;clear hmc;refine O.gstep (.inr rfl) (O.endUp (zaa Try.func85) rfl rfl hend) (fun _ x2 own2 w2 m2 C2=>?_) C;rw [Frame.finish_at];clear C;refine zad (O.xc ..) ?_;obtain rfl:=hR0.out;clear hR0;refine zae (O.xc ..) fun R0 hR0=>?_;have hG:=Pt.rep C2.rep;obtain ⟨pp,cc,c1,c2,c3,c4,c5⟩:=hG.cell;have og:=hG.sh;have hn:=hG.num j hj;have hD:md.D gb=none:=C2.dm O (by rw [og];simp);have hc4:=c4 j hj;rw [show ((j:Int).toNat)=j from rfl]
  generalize (L.get m2.st).num j=v at *;generalize hmc:κ v 0 m2=mc;replace hmc:=yay hmc;refine O.seg0 C2 zbu (zab zaf (by kernel_rfl)) rfl (zaa Try.func85) rfl fun wp hp=>?_;have g1:=(zbe hp hD).trans c1;have hc:=(zac g1 (1+j)).trans hc4;have hw:=zqq gb (1+j) _ wp hc;have q0:(0:Int)≤(j:Nat):=by omega
  have q1:((j:Nat):Int) < 64:=by omega
  replace c1:=yay c1;replace g1:=yay g1;clear hc c4 c5 hG;replace hp:=yay hp
  go_wp2_with (go_at_call 87;refine hw.mono ?_;rintro e w' ⟨rfl,rfl⟩)
  refine ⟨hp.out,?_⟩;clear hp hw g1 wp;obtain rfl:=hR0.out;clear hR0;refine zct (O.xc ..) ?_;refine za4 (O.xc ..) (zaa Try.func85) (C2.st O) ⟨rfl,rfl,rfl,_,Try.func85,results_tmp2 rfl _ _ _⟩ ?_;obtain rfl:=hmc.out;exact hret.out v 0 hn (.inl rfl) _ _ _ _ C2
end
theorem zez {w:World} {base e n:Nat} {v:Value} {xs:List Value} (h:w.ownsRow base e 1 v n xs) :
  ∃ p cap,v = .slice p n cap∧n≤cap∧(0 < n→∃ g c,p=some ⟨g,0,none⟩∧base≤g∧w.heap[g]?=some (.cells c e (0,0))∧∀ j,j < n→c[j]?=xs[j]?):=by
 rcases h.2 with ⟨rfl,rfl⟩|⟨g,cap,cur,rfl,q1,q2,q3,q4,q5,q6⟩
 ·exact ⟨none,0,rfl,yax _,fun h=>by omega⟩
 ·refine ⟨_,cap,rfl,q3,fun _=>⟨g,cur,rfl,q1,q2,fun j hj=>?_⟩⟩;rw [← q6,List.getElem?_take_of_lt (by omega)];simp
theorem zw0 {i N:Nat} {own1:Nat→Owner} {w' w1:World} {v:Value} {l:List Int} (h:w'.ownsRow N 3 1 v l.length (za8 l)) (hl:∀ x∈l,zd5 x) (ho:∀ b,N≤b→b < w1.heap.size→own1 b = .th i) (hk:∀ b,N≤b→w1.heap[b]?=w'.heap[b]?):RowTh i own1 w1.heap v l:=by
 obtain ⟨p,cap,e,hc,q⟩:=zez h;refine ⟨hl,p,cap,e,hc,fun hne=>?_⟩;obtain ⟨g,c,e1,e2,e3,e4⟩:=q (List.length_pos_iff.2 hne);have e5:=(hk g e2).trans e3;refine ⟨g,0,c,e1,ho g e2 (yah.1 e5).1,e5,fun j x hj=>?_⟩;have hlt:j < l.length:=(yai.1 hj).1;rw [Nat.zero_add,e4 j hlt];simp [za8,hj]
theorem zhx {own:Nat→Owner} {hp:Array Obj} {s:Nat} {l:List Int} {p:Option Addr} (h:HeldP own hp s l p):(∀ x∈l,zd5 x)∧∃ v,(∃ a n c,v = .slice a n c)∧∀ w:World,(∀ b t,own b = .tag t→w.heap[b]?=hp[b]?)→zmc w p v∧IntsAt w v l:=by
 rcases h with ⟨_,rfl,rfl⟩|⟨_,kb,v,rfl,e2,e3,hl⟩
 ·exact ⟨by simp,_,⟨_,_,_,rfl⟩,fun w hw=>⟨.inl ⟨rfl,rfl⟩,_,_,rfl,fun z=>absurd rfl z⟩⟩
 ·obtain ⟨h0,a,cap,rfl,hc,q⟩:=hl;refine ⟨h0,_,⟨_,_,_,rfl⟩,fun w hw=>⟨.inr ⟨kb,rfl,(hw kb _ e2).trans e3⟩,a,cap,rfl,fun hne=>?_⟩⟩;obtain ⟨b,o,c,e4,e5,e6,e7⟩:=q hne;exact ⟨b,o,e4,fun j x hj=>by rw [zac ((hw b _ e5).trans e6)];exact e7 j x hj⟩
theorem zcj {l:List Int} (h:zc8 l):l.length≤64:=by
 have hs:∀ x∈l,x∈(List.range 64).map (fun n:Nat=>(n:Int)):=fun x hx=>by
  obtain ⟨h1,h2⟩:=h.2 x hx;exact List.mem_map.2 ⟨x.toNat,List.mem_range.2 (by omega),by omega⟩
 have:=List.Nodup.length_le_of_subset h.1 hs
 simpa using this
section
variable {M:Type} [Priv M] {md:Md M} {x:md.β} {own:Nat→Owner} {A:Nat→Prop} {w₀:W0 M} {w wp w' w1:World} {m:M} {mc:M×Co M} {g:Goroutine} {N:Nat}
theorem Md.Ok.grew (O:md.Ok) (C:md.C x own A w₀ w m) (hp:Sim wp (poi md.D w)) (hB:Below wp.heap.size wp w') (hN:w.heap.size=N) (q1:∀ b:Nat,md.D b=none→w1.heap[b]?=w'.heap[b]?) (q2:∀ b:Nat,w'.heap[b]?=wp.heap[b]?→w1.heap[b]?=w.heap[b]?) (q3:w1.heap.size=w'.heap.size)
  (h:∀ own1,md.C x own1 (fun b=>own1 b = .th md.i) ⟨w1.heap,m,own1⟩ w1 m→N≤w1.heap.size→Less md.i A w₀ (fun b=>own1 b = .th md.i) ⟨w1.heap,m,own1⟩→(∀ b,N≤b→b < w1.heap.size→own1 b = .th md.i)→(∀ b,b < N→w1.heap[b]?=w.heap[b]?∧own1 b=own b)→(∀ b,N≤b→w1.heap[b]?=w'.heap[b]?)→md.GO x own1 w1 mc g w1) :
  md.GO x own w mc g w1:=by
 subst hN;have hs0:wp.heap.size=w.heap.size:=by rw [hp.heap,zap]
 have hs:w.heap.size≤w1.heap.size:=by rw [q3,← hs0];exact hB.size
 have hb:∀ b,b < w.heap.size→w1.heap[b]?=w.heap[b]?:=fun b hb=>q2 b (hB.block b (by omega));obtain ⟨own1,C1,h1,h2,h3,h4⟩:=C.grown (w1:=w1) O hs (fun b hb' _=>hb b hb');exact O.rebase h1 h2 (h own1 C1 hs (zd4 C (fun b hb' _=>hb b hb') h4) h3 (fun b hb'=>⟨hb b hb',h4 b hb'⟩) fun b hb'=>q1 b (C.dn O hb'))
theorem Md.C.tagp (C:md.C x own A w₀ w m) (O:md.Ok) (hp:Sim wp (poi md.D w)):∀ b t,w₀.own b = .tag t→wp.heap[b]?=w₀.heap[b]?:=fun b t hb=>(zbe hp (C.dm O (by rw [(C.tg b t hb).1];simp))).trans (C.tg b t hb).2
end
noncomputable def c74:Code:=(Try.f74.body).getD .skip
def A74 (x:Nat→Value):Act:=⟨#[x 0,x 1,x 2,x 3,x 4,x 5,x 6,x 7,x 8,x 9,x 10,x 11,x 12,x 13,x 14,x 15,x 16,x 17,x 18,x 19,x 20,x 21,x 22,x 23,x 24,x 25,x 26,x 27,x 28,x 29,x 30,x 31,x 32,x 33,x 34,x 35,x 36,x 37,x 38,x 39,x 40,x 41],[]⟩
theorem zmb (l:Array Value) (hl:l.size=42):(⟨l,[]⟩:Act)=A74 fun j=>l.getD j undef:=by
 have e:∀ x:Nat→Value,(A74 x).tmps=((List.range 42).map x).toArray:=fun x=>rfl;have h1:l=(A74 fun j=>l.getD j undef).tmps:=by
  rw [e];apply Array.ext_getElem?;intro i;by_cases h:i < 42
  ·have h':i < l.size:=by omega
   simp [h,h',List.getElem?_range]
  ·have h':¬ i < l.size:=by omega
   rw [Array.getElem?_eq_none (by omega),Array.getElem?_eq_none (by simp;omega)]
 exact congrArg (Act.mk · []) h1
section
variable {S:Type} {md:Md (SM S)} {L:zgn S GateS} {gb:Nat} {A:Nat→Prop} {w₀:W0 (SM S)} {c:Frame} {cs:List Frame}
theorem zm5 (O:md.Ok) (Pt:Part md L (GateAt gb) gb TS2) {φ:Fu (SM S)} {κ:List Int→Fu (SM S)} (hφ:φ=zl4∨φ=zbp fun m=>κ (L.get m.st).mem m) (hend:md.End A w₀ c cs)
  (hret:∀ l v A₁ w₁,Less md.i A w₀ A₁ w₁→RowTh md.i w₁.own w₁.heap v l→(∀ b,zd0 v l b→A₁ b∧¬ A b)→zc8 l→md.F (κ l) A₁ w₁ (G (c.finish v) cs)):md.F φ A w₀ (G (Frame.enter Try.prog 86 #[gpv gb,md.sv] .normal) (c::cs)):=by
 intro x own w m C;unfold gpv;rw [enter_at _ Try.func86 rfl];simp only [Try.ntmps86,yan,yau,yav,Nat.reduceAdd,Nat.reduceSub,yao,
   yap,yaq,yar,yas,yat]
 generalize hmc:φ m=mc;replace hmc:=yay hmc;replace hret:=yay hret;refine zae (O.xc ..) fun R0 hR0=>?_;refine O.seg0 C zbu (zab zaf (by kernel_rfl)) rfl (zaa Try.func86) rfl fun wp hp=>?_;replace hp:=yay hp
 go_wp2_with fail
 refine ⟨hp.out,?_⟩;clear hp  wp;obtain rfl:=hR0.out;clear hR0;refine zae (O.xc ..) fun R0 hR0=>?_;refine zae (O.xc ..) fun R1 hR1=>?_;refine O.seg0 C zbu (zab zaf (by kernel_rfl)) rfl (zaa Try.func86) rfl fun wp hp=>?_;replace hp:=yay hp
 go_wp2_with fail
 refine ⟨hp.out,?_⟩;clear hp  wp;obtain rfl:=hR1.out;clear hR1;refine zao (O.xc ..) (t:=false) rfl ?_;refine zbq (O.xc ..) ?_;obtain rfl:=hR0.out;clear hR0;refine zae (O.xc ..) fun R0 hR0=>?_;refine zbj (O.xc ..) 4 (by decide) (by decide) (zah (by kernel_rfl)) (C.st O) fun wp hp=>?_;simp only [yad,yae];replace hp:=yay hp
 go_wp2_with fail
 refine zag hp.out (C.st O).okd ?_;clear hp  wp;refine zav (O.xc ..) rfl rfl (by decide) rfl Try.func128 (by kernel_rfl) (by kernel_rfl) ?_;walk_nrm;obtain rfl:=hmc.out;clear hmc;refine zkt O Pt (κ:=fun _ l=>κ l) hφ (O.endUp (zaa Try.func86) rfl rfl hend) (fun _ s l p A₁ w₁ L1 hH hm=>?_) x own w m C;intro x2 own2 w2 m2 C2;rw [Frame.finish_at];have hlt:∀ b,A b→b < w.heap.size:=fun b hb=>by
  have:=(C.mine b hb).1;exact C.lt (by rw [this];simp)
 generalize hmc:κ l m2=mc;replace hmc:=yay hmc;obtain ⟨hin,v,hsl,hval⟩:=zhx hH;obtain ⟨N,hN⟩:∃ N,w2.heap.size=N:=⟨_,rfl⟩;walk_nrm;refine O.callA C2 zbu (f:=130) (by simp) rfl rfl (by decide) rfl Try.func130 (by kernel_rfl) (by kernel_rfl) fun wp hp=>?_;walk_nrm;refine (ze2 wp (hval wp (C2.tagp O hp)).1 hsl ⟨_,rfl⟩).mono ?_;rintro e w' ⟨rfl,rfl⟩;refine ⟨v,rfl,fun w3 q1 q2 q3=>?_⟩;refine O.one C2 hp rfl hN q1 q2 (by rw [q3];simp [hp.heap,zap,hN]) fun own3 C3 e3 s3 o3 L3 low3=>?_;clear q1 q2 q3 hp wp;obtain ⟨N3,hN3⟩:∃ N,w3.heap.size=N:=⟨_,rfl⟩;refine O.callA C3 zbu (f:=132) (by simp) rfl rfl (by decide) rfl Try.func132 (by kernel_rfl) (by kernel_rfl) fun wp hp=>?_;have hlen:l.length≤64:=zcj hm;have C3':=C3.less L3;walk_nrm;refine (zis v l wp (hval wp (C3'.tagp O hp)).2 (by omega)).mono ?_;rintro e w' ⟨v',rfl,hr,hB⟩;refine ⟨v',rfl,fun w4 q1 q2 q3=>?_⟩;have hsz:wp.heap.size=N3:=by rw [hp.heap,zap];exact hN3
 rw [hsz] at hr;refine O.grew C3 hp hB hN3 q1 q2 q3 fun own4 C4 s4 L4 ho4 low4 hk4=>?_;have hrow:=zw0 (i:=md.i) hr hin ho4 hk4;have hge:∀ b,zd0 v' l b→N3≤b:=fun b ⟨hne,o,n,cc,e⟩=>by
  obtain ⟨p',cap',e',_,q⟩:=zez hr;obtain ⟨g,_,e1,e2,_⟩:=q (List.length_pos_iff.2 hne);rw [e',e1] at e;simp only [Value.slice.injEq,Option.some.injEq,Addr.mk.injEq] at e;rw [← e.1.1];exact e2
 have LL:=(L1.trans L3).trans L4;have hnA:∀ b,zd0 v' l b→¬ A b:=fun b hb hA=>by
  have h1:=(C3'.less L1).mine b hA;have:=C3.lt (b:=b) (by rw [h1.1];simp);have:=hge b hb;omega
 clear q1 q2 q3 hp hr hB hsz low3 low4 hk4;replace hrow:=yay hrow;refine zb9 (O.xc ..) 7 1 (by decide) (by decide) (zah (by kernel_rfl)) (C4.st O) fun wp hp=>?_;simp only [yaf,yag,yad,yae];replace hp:=yay hp
 go_wp2_with fail
 refine zag hp.out (C4.st O).okd ?_;clear hp  wp;refine zad (O.xc ..) ?_;obtain rfl:=hR0.out;clear hR0;refine zct (O.xc ..) ?_;refine za4 (O.xc ..) (zaa Try.func86) (C4.st O) ⟨rfl,rfl,rfl,_,Try.func86,results_tmp rfl _ _ _⟩ ?_;obtain rfl:=hmc.out;exact hret.out l v' _ _ LL hrow.out (fun b hb=>⟨hrow.out.mine hb,hnA b hb⟩) hm _ _ _ _ C4
end
def zi3:Code→Code:=fun c=>cA (cA (cB (cA (cB (cB c)))))
def zbs {S:Type} (L:zgn S GateS) (κ:Int→Int→Fu (SM S)):List Int→Int→Int→Fu (SM S)
 | [],n,p=>κ n p
 | q::l,n,p=>znl L q fun v _=>if p < 0∨v < n then zbs L κ l v q else zbs L κ l n p
def zfi {S:Type} (L:zgn S GateS) (none:Int) (κ:Int→Int→Fu (SM S)):Fu (SM S):=zbp fun m=>zbs L κ (L.get m.st).mem none (-1) m
structure X74 (gb:Nat) (sv v:Value) (len:Nat) (n p:Int) (j:Nat) (x:Nat→Value):Prop where
 x0:x 0=gpv gb
 x1:x 1=sv
 x8:x 8 = .int .i64 n
 x9:x 9 = .int .i64 p
 x17:x 17=v
 x18:x 18 = .int .i64 len
 x19:x 19 = .int .i64 j
section
variable {S:Type} {md:Md (SM S)} {L:zgn S GateS} {gb:Nat} {A:Nat→Prop} {w₀:W0 (SM S)} {c:Frame} {cs:List Frame} {R:List Item}
theorem zsp (O:md.Ok) (Pt:Part md L (GateAt gb) gb TS2) {κ:Int→Int→Fu (SM S)} {l:List Int} {v':Value} (hend:md.End A w₀ c cs) (hrow:RowTh md.i w₀.own w₀.heap v' l) (hA:∀ b,zd0 v' l b→A b) (hm:zc8 l)
  (hret:∀ n p x,zd5 n→p < 64→x 8 = .int .i64 n→x 9 = .int .i64 p→md.F (κ n p) A w₀ (G ((base 74).at (A74 x) R) (c::cs))) :
  ∀ l' j,l.drop j=l'→j≤l.length→∀ n p x y own w m,zd5 n→p < 64→md.C y own A w₀ w m→X74 gb md.sv v' l.length n p j x →
   md.GO y own w (zbs L κ l' n p m) (G ((base 74).at (A74 x) (.code (zi3 c74) :: .inLoop (zi3 c74) :: .inBlock 0::R)) (c::cs)) w:=by
 have hlen:=zcj hm;intro l'
 induction l' with
 | nil =>
  intro j hl hj n p x y own w m hn hp C hx;have hjl:j=l.length:=by
   have:=congrArg List.length hl;simp at this;omega
  subst hjl;have e1:¬ (l.length:Int) < (l.length:Int):=by omega
  generalize hmc:zbs L κ [] n p m=mc;replace hmc:=yay hmc;refine za0 (O.xc ..) rfl fun R0 hR0=>?_;rw [show cA (zi3 c74)=Code.region _ _ _ from rfl]
  unfold A74;simp only [hx.x8,hx.x9,hx.x18,hx.x19];refine O.seg0 C zbu (zab zaf (by kernel_rfl)) rfl (zaa Try.func74) rfl fun wp hp=>?_;replace hp:=yay hp
  go_wp2_with fail
  refine ⟨hp.out,?_⟩;clear hp  wp;obtain rfl:=hR0.out;clear hR0;refine za0 (O.xc ..) rfl fun R0 hR0=>?_;rw [show cA (cB (zi3 c74))=Code.cond _ _ _ from rfl]
  refine zao (O.xc ..) (t:=false) rfl ?_;obtain rfl:=hR0.out;refine zgi (O.xc ..) rfl ?_;rw [zmb _ rfl];obtain rfl:=hmc.out;exact hret n p _ hn hp rfl rfl _ _ _ _ C
 | cons q l' ih =>
  intro j hl hj n p x y own w m hn hp C hx;have hjl:j < l.length:=by
   rcases Nat.lt_or_ge j l.length with z|z
   ·exact z
   ·rw [List.drop_eq_nil_of_le z] at hl;cases hl
  have hLj:l[j]?=some q:=by
   have:=congrArg (·[0]?) hl
   simpa using this
  have hl':l.drop (j+1)=l':=by
   have:=congrArg List.tail hl
   simpa [List.tail_drop] using this
  obtain ⟨hq0,hq64⟩:=hm.2 q (List.mem_of_getElem? hLj);obtain ⟨_,a,cap,ev,hcap,hcell⟩:=hrow;obtain ⟨b,o,cc,ea,eo,eh,ec⟩:=hcell (by intro z;rw [z] at hjl;simp at hjl);subst ea;subst ev;have hAb:A b:=hA b ⟨by intro z;rw [z] at hjl;simp at hjl,o,l.length,cap,rfl⟩;have hcj:=ec j q hLj;have e1:(j:Int) < (l.length:Int):=by omega
  have q0:(0:Int)≤(j:Nat):=by omega
  replace ih:=yay ih;replace hret:=yay hret;replace hn:=yay hn;replace hm:=yay hm;generalize hmc:zbs L κ (q::l') n p m=mc;replace hmc:=yay hmc;refine za0 (O.xc ..) rfl fun R0 hR0=>?_;rw [show cA (zi3 c74)=Code.region _ _ _ from rfl]
  unfold A74;simp only [hx.x0,hx.x1,hx.x8,hx.x9,hx.x17,hx.x18,hx.x19];clear hcell hcap ec;refine O.seg0 C zbu (zab zaf (by kernel_rfl)) rfl (zaa Try.func74) rfl fun wp hp=>?_;replace hp:=yay hp
  go_wp2_with fail
  refine ⟨hp.out,?_⟩;clear hp  wp;obtain rfl:=hR0.out;clear hR0;refine za0 (O.xc ..) rfl fun R0 hR0=>?_;rw [show cA (cB (zi3 c74))=Code.cond _ _ _ from rfl]
  refine zao (O.xc ..) (t:=true) rfl ?_;refine zbq (O.xc ..) ?_;obtain rfl:=hR0.out;clear hR0;refine za0 (O.xc ..) rfl fun R0 hR0=>?_;rw [show cA (cB (cB (zi3 c74)))=Code.block _ _ from rfl]
  refine zb1 (O.xc ..) ?_;refine zae (O.xc ..) fun R1 hR1=>?_;have hmb:=C.mine b hAb;have hD:md.D b=none:=C.dm O (by rw [hmb.1];simp);refine O.seg0 C zbu (zab zaf (by kernel_rfl)) rfl (zaa Try.func74) rfl fun wp hp=>?_;have fb:=(zac ((zbe hp hD).trans (hmb.2.trans eh)) (o+j)).trans hcj;replace hp:=yay hp
  go_wp2_with fail
  refine ⟨hp.out,?_⟩;clear hp fb wp;obtain rfl:=hR1.out;clear hR1;clear hmb;refine zae (O.xc ..) fun R1 hR1=>?_;refine zbj (O.xc ..) 3 (by decide) (by decide) (zah (by kernel_rfl)) (C.st O) fun wp hp=>?_;simp only [yad,yae];replace hp:=yay hp
  go_wp2_with fail
  refine zag hp.out (C.st O).okd ?_;clear hp  wp;refine zav (O.xc ..) rfl rfl (by decide) rfl Try.func85 (by kernel_rfl) (by kernel_rfl) ?_;walk_nrm;obtain rfl:=hmc.out;clear hmc;refine zuy O Pt (p:=q) (κ:=fun v _=>if p < 0∨v < n then zbs L κ l' v q else zbs L κ l' n p) (A:=A) (w₀:=w₀) (O.endUp (zaa Try.func74) rfl rfl hend) (fun v e hv he=>?_) y own w m C;intro y2 own2 w2 m2 C2;rw [Frame.finish_at];clear C;generalize hmc:(if p < 0∨v < n then zbs L κ l' v q else zbs L κ l' n p) m2=mc;replace hmc:=yay hmc;replace hv:=yay hv;replace he:=yay he;walk_nrm;refine zb9 (O.xc ..) 4 5 (by decide) (by decide) (zah (by kernel_rfl)) (C2.st O) fun wp hp=>?_;simp only [yaf,yag,yad,yae];replace hp:=yay hp
  go_wp2_with fail
  refine zag hp.out (C2.st O).okd ?_;clear hp  wp;refine zad (O.xc ..) ?_;obtain rfl:=hR1.out;clear hR1;refine zae (O.xc ..) fun R1 hR1=>?_;have nx:IntKind.i64.wrap ((j:Int)+1)=((j+1:Nat):Int):=by rw [IntKind.wrap_i64];omega
  have fin:∀ n' p' z,X74 gb md.sv (.slice (some ⟨b,o,none⟩) l.length cap) l.length n' p' j z→zd5 n'→p' < 64→mc=zbs L κ l' n' p' m2→md.GO y2 own2 w2 mc (G ((base 74).at (A74 z) (.inBlock 1::R0)) (c::cs)) w2:=fun n' p' z hz hn' hp' hmc'=>by
   replace hmc':=yay hmc';obtain rfl:=hR0.out;refine zb3 (O.xc ..) ?_;rw [show cB (cB (cB (zi3 c74)))=Code.region _ _ _ from rfl]
   unfold A74;simp only [hz.x0,hz.x1,hz.x8,hz.x9,hz.x17,hz.x18,hz.x19];refine O.seg0 C2 zbu (zab zaf (by kernel_rfl)) rfl (zaa Try.func74) rfl fun wp hp=>?_;replace hp:=yay hp
   go_wp2_with fail
   refine ⟨hp.out,?_⟩;clear hp  wp;refine zcu (O.xc ..) ?_;rw [zmb _ rfl,hmc'.out];exact ih.out (j+1) hl' (by omega) _ _ _ _ _ _ _ hn' hp' C2 ⟨rfl,rfl,rfl,rfl,rfl,rfl,rfl⟩
  clear ih hret;by_cases c1:p < 0
  ·have hm2:mc=zbs L κ l' v q m2:=by rw [← hmc.out,if_pos (.inl c1)]
   replace hm2:=yay hm2;refine O.seg0 C2 zbu (zab zaf (by kernel_rfl)) rfl (zaa Try.func74) rfl fun wp hp=>?_;replace hp:=yay hp
   go_wp2_with fail
   refine ⟨hp.out,?_⟩;clear hp  wp;obtain rfl:=hR1.out;clear hR1;refine zao (O.xc ..) (t:=true) rfl ?_;refine O.seg0 C2 zbu (zab zaf (by kernel_rfl)) rfl (zaa Try.func74) rfl fun wp hp=>?_;replace hp:=yay hp
   go_wp2_with fail
   refine ⟨hp.out,?_⟩;clear hp  wp;rw [zmb _ rfl];refine fin v q _ ?_ hv.out hq64 hm2.out;exact ⟨rfl,rfl,rfl,rfl,rfl,rfl,rfl⟩
  by_cases c2:v < n
  ·have hm2:mc=zbs L κ l' v q m2:=by rw [← hmc.out,if_pos (.inr c2)]
   replace hm2:=yay hm2;refine O.seg0 C2 zbu (zab zaf (by kernel_rfl)) rfl (zaa Try.func74) rfl fun wp hp=>?_;replace hp:=yay hp
   go_wp2_with fail
   refine ⟨hp.out,?_⟩;clear hp  wp;obtain rfl:=hR1.out;clear hR1;refine zao (O.xc ..) (t:=true) rfl ?_;refine O.seg0 C2 zbu (zab zaf (by kernel_rfl)) rfl (zaa Try.func74) rfl fun wp hp=>?_;replace hp:=yay hp
   go_wp2_with fail
   refine ⟨hp.out,?_⟩;clear hp  wp;rw [zmb _ rfl];refine fin v q _ ?_ hv.out hq64 hm2.out;exact ⟨rfl,rfl,rfl,rfl,rfl,rfl,rfl⟩
  ·have hm2:mc=zbs L κ l' n p m2:=by rw [← hmc.out,if_neg (by omega)]
   replace hm2:=yay hm2;refine O.seg0 C2 zbu (zab zaf (by kernel_rfl)) rfl (zaa Try.func74) rfl fun wp hp=>?_;replace hp:=yay hp
   go_wp2_with fail
   refine ⟨hp.out,?_⟩;clear hp  wp;obtain rfl:=hR1.out;clear hR1;refine zao (O.xc ..) (t:=false) rfl ?_;refine zbq (O.xc ..) ?_;rw [zmb _ rfl];refine fin n p _ ?_ hn.out hp hm2.out;exact ⟨rfl,rfl,rfl,rfl,rfl,rfl,rfl⟩
theorem zkd (O:md.Ok) (Pt:Part md L (GateAt gb) gb TS2) {none:Int} (hno:zd5 none) {κ:Int→Int→Fu (SM S)} (hend:md.End A w₀ c cs)
  (hret:∀ n p,zd5 n→p < 64→md.F (κ n p) A w₀ (G (c.finish (.tuple #[.int .i64 n,.int .i64 p])) cs)):md.F (zfi L none κ) A w₀ (G (Frame.enter Try.prog 74 #[gpv gb,md.sv,.int .i64 none] .normal) (c::cs)):=by
 intro x own w m C;unfold gpv;rw [enter_at _ Try.func74 rfl];simp only [Try.ntmps74,yan,yau,yav,Nat.reduceAdd,Nat.reduceSub,yao,
   yap,yaq,yar,yas,yat]
 generalize hmc:zfi L none κ m=mc;replace hmc:=yay hmc;replace hret:=yay hret;replace hno:=yay hno;refine zae (O.xc ..) fun R0 hR0=>?_;refine O.seg0 C zbu (zab zaf (by kernel_rfl)) rfl (zaa Try.func74) rfl fun wp hp=>?_;replace hp:=yay hp
 go_wp2_with fail
 refine ⟨hp.out,?_⟩;clear hp  wp;obtain rfl:=hR0.out;clear hR0;refine zae (O.xc ..) fun R0 hR0=>?_;refine O.seg0 C zbu (zab zaf (by kernel_rfl)) rfl (zaa Try.func74) rfl fun wp hp=>?_;replace hp:=yay hp
 go_wp2_with fail
 refine ⟨hp.out,?_⟩;clear hp  wp;obtain rfl:=hR0.out;clear hR0;refine zae (O.xc ..) fun R0 hR0=>?_;refine zae (O.xc ..) fun R1 hR1=>?_;refine zbj (O.xc ..) 2 (by decide) (by decide) (zah (by kernel_rfl)) (C.st O) fun wp hp=>?_;simp only [yad,yae];replace hp:=yay hp
 go_wp2_with fail
 refine zag hp.out (C.st O).okd ?_;clear hp  wp;refine zav (O.xc ..) rfl rfl (by decide) rfl Try.func86 (by kernel_rfl) (by kernel_rfl) ?_;walk_nrm;obtain rfl:=hmc.out;clear hmc;refine zm5 O Pt (κ:=fun l=>zbs L κ l none (-1)) (.inr rfl) (O.endUp (zaa Try.func74) rfl rfl hend) (fun l v A₁ w₁ L1 hrow hAr hm=>?_) x own w m C;intro x2 own2 w2 m2 C2;rw [Frame.finish_at];clear C;generalize hmc:zbs L κ l none (-1) m2=mc;replace hmc:=yay hmc;obtain ⟨a,n,cap,rfl⟩:∃ a n c,v = .slice a n c:=by obtain ⟨_,a,cap,e,_⟩:=hrow;exact ⟨a,_,cap,e⟩
 obtain rfl:n=l.length:=by obtain ⟨_,a',cap',e,_⟩:=hrow;cases e;rfl
 replace hrow:=yay hrow;replace hAr:=yay hAr;walk_nrm;refine zb9 (O.xc ..) 3 2 (by decide) (by decide) (zah (by kernel_rfl)) (C2.st O) fun wp hp=>?_;simp only [yaf,yag,yad,yae];replace hp:=yay hp
 go_wp2_with fail
 refine zag hp.out (C2.st O).okd ?_;clear hp  wp;refine zad (O.xc ..) ?_;obtain rfl:=hR1.out;clear hR1;refine zb1 (O.xc ..) ?_;refine zfm (O.xc ..) ?_;rw [zmb _ rfl];obtain rfl:=hmc.out;clear hmc;refine zsp O Pt (κ:=κ) (l:=l) (O.endMore hend L1) hrow.out (fun b hb=>(hAr.out b hb).1) hm (fun n p z hn hp z8 z9=>?_) l 0 rfl (Nat.zero_le _) none (-1) _ _ _ _ _ hno.out (by omega) C2 ⟨rfl,rfl,rfl,rfl,rfl,rfl,rfl⟩;intro x3 own3 w3 m3 C3;generalize hmc:κ n p m3=mc;replace hmc:=yay hmc;obtain rfl:=hR0.out;clear hR0;unfold A74;simp only [z8,z9];refine zae (O.xc ..) fun R0 hR0=>?_;refine O.seg0 C3 zbu (zab zaf (by kernel_rfl)) rfl (zaa Try.func74) rfl fun wp hp=>?_;replace hp:=yay hp
 go_wp2_with fail
 refine ⟨hp.out,?_⟩;clear hp  wp;obtain rfl:=hR0.out;clear hR0;refine zct (O.xc ..) ?_;refine za4 (O.xc ..) (zaa Try.func74) (C3.st O) ⟨rfl,rfl,rfl,_,Try.func74,results_tmp2 rfl _ _ _⟩ ?_;obtain rfl:=hmc.out;exact hret.out n p hn hp _ _ _ _ (C3.less L1)
end
def zx6 {S:Type} (L:zgn S GateS) (q size:Int) (κ:Bool→Int→Fu (SM S)):Fu (SM S):=zfi L q fun n p=>if q < -9223372036854775808+max size 1∨q - max size 1≤n then κ true (-1) else κ false p
section
variable {S:Type} {md:Md (SM S)} {L:zgn S GateS} {gb:Nat} {A:Nat→Prop} {w₀:W0 (SM S)} {c:Frame} {cs:List Frame} {R:List Item}
theorem zuj (O:md.Ok) (Pt:Part md L (GateAt gb) gb TS2) {q size:Int} (hq:zd5 q) (hs:zd5 size) {κ:Bool→Int→Fu (SM S)} (hend:md.End A w₀ c cs)
  (hret:∀ t p,p < 64→md.F (κ t p) A w₀ (G (c.finish (.tuple #[.bool t,.int .i64 p])) cs)):md.F (zx6 L q size κ) A w₀ (G (Frame.enter Try.prog 75 #[gpv gb,md.sv,.int .i64 q,.int .i64 size] .normal) (c::cs)):=by
 intro x own w m C;unfold gpv;rw [enter_at _ Try.func75 rfl];simp only [Try.ntmps75,yan,yau,yav,Nat.reduceAdd,Nat.reduceSub,yao,
   yap,yaq,yar,yas,yat]
 generalize hmc:zx6 L q size κ m=mc;replace hmc:=yay hmc;replace hret:=yay hret;replace hq:=yay hq;replace hs:=yay hs;refine zae (O.xc ..) fun R0 hR0=>?_;refine O.seg0 C zbu (zab zaf (by kernel_rfl)) rfl (zaa Try.func75) rfl fun wp hp=>?_;replace hp:=yay hp
 go_wp2_with fail
 refine ⟨hp.out,?_⟩;clear hp  wp;obtain rfl:=hR0.out;clear hR0;refine zae (O.xc ..) fun R0 hR0=>?_;refine zbj (O.xc ..) 3 (by decide) (by decide) (zah (by kernel_rfl)) (C.st O) fun wp hp=>?_;simp only [yad,yae];replace hp:=yay hp
 go_wp2_with fail
 refine zag hp.out (C.st O).okd ?_;clear hp  wp;refine zav (O.xc ..) rfl rfl (by decide) rfl Try.func74 (by kernel_rfl) (by kernel_rfl) ?_;walk_nrm;obtain rfl:=hmc.out;clear hmc;refine zkd O Pt (κ:=fun n p=>if q < -9223372036854775808+max size 1∨q - max size 1≤n then κ true (-1) else κ false p) hq.out (O.endUp (zaa Try.func75) rfl rfl hend) (fun n p hn hp=>?_) x own w m C;intro x2 own2 w2 m2 C2;rw [Frame.finish_at];clear C;obtain ⟨K,hK⟩:∃ K,max size 1=K:=⟨_,rfl⟩;rw [hK];have hK1:1≤K:=by omega
 have hK2:K≤9223372036854775807:=by have:=hs.out;omega
 replace hK:=yay hK;replace hn:=yay hn;generalize hmc:(if q < -9223372036854775808+K∨q - K≤n then κ true (-1) else κ false p) m2=mc;replace hmc:=yay hmc;walk_nrm;refine zb9 (O.xc ..) 4 5 (by decide) (by decide) (zah (by kernel_rfl)) (C2.st O) fun wp hp=>?_;simp only [yaf,yag,yad,yae];replace hp:=yay hp
 go_wp2_with fail
 refine zag hp.out (C2.st O).okd ?_;clear hp  wp;refine zad (O.xc ..) ?_;obtain rfl:=hR0.out;clear hR0;refine zae (O.xc ..) fun R0 hR0=>?_;refine O.seg0 C2 zbu (zab zaf (by kernel_rfl)) rfl (zaa Try.func75) rfl fun wp hp=>?_;replace hp:=yay hp
 go_wp2_with (refine zs9 rfl _ _ _ _ rfl size 1 K rfl rfl hK.out ?_)
 refine ⟨hp.out,?_⟩;clear hp  wp;obtain rfl:=hR0.out;clear hR0;refine zae (O.xc ..) fun R0 hR0=>?_;refine zae (O.xc ..) fun R1 hR1=>?_;have wr1:IntKind.i64.wrap (-9223372036854775808+K) = -9223372036854775808+K:=by rw [IntKind.wrap_i64];omega
 by_cases c1:q < -9223372036854775808+K
 ·have hm2:mc=κ true (-1) m2:=by rw [← hmc.out,if_pos (.inl c1)]
  replace hm2:=yay hm2;refine O.seg0 C2 zbu (zab zaf (by kernel_rfl)) rfl (zaa Try.func75) rfl fun wp hp=>?_;replace hp:=yay hp
  go_wp2_with fail
  refine ⟨hp.out,?_⟩;clear hp  wp;obtain rfl:=hR1.out;clear hR1;refine zao (O.xc ..) (t:=true) rfl ?_;refine zae (O.xc ..) fun R2 hR2=>?_;refine O.seg0 C2 zbu (zab zaf (by kernel_rfl)) rfl (zaa Try.func75) rfl fun wp hp=>?_;replace hp:=yay hp
  go_wp2_with fail
  refine ⟨hp.out,?_⟩;clear hp  wp;obtain rfl:=hR2.out;clear hR2;refine zct (O.xc ..) ?_;refine za4 (O.xc ..) (zaa Try.func75) (C2.st O) ⟨rfl,rfl,rfl,_,Try.func75,results_tmp2 rfl _ _ _⟩ ?_;rw [hm2.out];exact hret.out true (-1) (by omega) _ _ _ _ C2
 have wr2:IntKind.i64.wrap (q - K)=q - K:=by have:=hq.out;rw [IntKind.wrap_i64];omega
 by_cases c2:n≥q - K
 ·have hm2:mc=κ true (-1) m2:=by rw [← hmc.out,if_pos (.inr c2)]
  replace hm2:=yay hm2;refine O.seg0 C2 zbu (zab zaf (by kernel_rfl)) rfl (zaa Try.func75) rfl fun wp hp=>?_;replace hp:=yay hp
  go_wp2_with fail
  refine ⟨hp.out,?_⟩;clear hp  wp;obtain rfl:=hR1.out;clear hR1;refine zao (O.xc ..) (t:=true) rfl ?_;refine zae (O.xc ..) fun R2 hR2=>?_;refine O.seg0 C2 zbu (zab zaf (by kernel_rfl)) rfl (zaa Try.func75) rfl fun wp hp=>?_;replace hp:=yay hp
  go_wp2_with fail
  refine ⟨hp.out,?_⟩;clear hp  wp;obtain rfl:=hR2.out;clear hR2;refine zct (O.xc ..) ?_;refine za4 (O.xc ..) (zaa Try.func75) (C2.st O) ⟨rfl,rfl,rfl,_,Try.func75,results_tmp2 rfl _ _ _⟩ ?_;rw [hm2.out];exact hret.out true (-1) (by omega) _ _ _ _ C2
 ·have hm2:mc=κ false p m2:=by rw [← hmc.out,if_neg (by omega)]
  replace hm2:=yay hm2;refine O.seg0 C2 zbu (zab zaf (by kernel_rfl)) rfl (zaa Try.func75) rfl fun wp hp=>?_;replace hp:=yay hp
  go_wp2_with fail
  refine ⟨hp.out,?_⟩;clear hp  wp;obtain rfl:=hR1.out;clear hR1;refine zao (O.xc ..) (t:=false) rfl ?_;refine zbq (O.xc ..) ?_;obtain rfl:=hR0.out;clear hR0;refine zae (O.xc ..) fun R2 hR2=>?_;refine O.seg0 C2 zbu (zab zaf (by kernel_rfl)) rfl (zaa Try.func75) rfl fun wp hp=>?_;replace hp:=yay hp
  go_wp2_with fail
  refine ⟨hp.out,?_⟩;clear hp  wp;obtain rfl:=hR2.out;clear hR2;refine zct (O.xc ..) ?_;refine za4 (O.xc ..) (zaa Try.func75) (C2.st O) ⟨rfl,rfl,rfl,_,Try.func75,results_tmp2 rfl _ _ _⟩ ?_;rw [hm2.out];exact hret.out false p hp _ _ _ _ C2
end
section
variable {M:Type} [Priv M] {md:Md M} {y:md.β} {own own0:Nat→Owner} {A:Nat→Prop} {w₀:W0 M} {w w0 w1:World} {m:M} {mc:M×Co M} {b:Frame} {a:Act} {k:List Item} {cs:List Frame} {ops:Array Oper} {i:Nat} {rest:List Nat} {o:Oper}
theorem Md.C.growW (O:md.Ok) (C:md.C y own A w₀ w m) (hO:OwnStep md.i own0 own w0.heap.size) (hF:Frm md.i own0 w0 w) (b0:Option Nat) (hb:∀ b,b0=some b→own b = .th md.i∧¬ A b) (hs:w.heap.size≤w1.heap.size) (low:∀ b,b < w.heap.size→b0≠some b→w1.heap[b]?=w.heap[b]?) :
  ∃ own1,md.C y own1 A w₀ w1 m∧OwnStep md.i own0 own1 w0.heap.size∧Frm md.i own0 w0 w1∧(∀ b,w.heap.size≤b→b < w1.heap.size→own1 b = .th md.i)∧(∀ b,b < w.heap.size→own1 b=own b):=by
 have hlow:∀ b,b < w.heap.size→own b ≠ .th md.i→w1.heap[b]?=w.heap[b]?:=fun b hlt hne=>low b hlt fun z=>hne (hb b z).1;have hR:md.Rep m (zfk md.i w.heap.size w1.heap.size own) w1:=O.loc _ _ _ _ _ C.rep ⟨fun b hb'=>by
  have hlt:=C.lt (b:=b) hb'.out;exact ⟨zdo hlt,hlow b hlt (hb'.th md.i)⟩,fun b v hb'=>by
  unfold zfk at hb';split at hb'
  ·cases hb'
  ·exact hb'⟩
 obtain ⟨C1,h1,h2⟩:=C.turn (own':=zfk md.i w.heap.size w1.heap.size own) (w₁:=w₀) (A':=A) O (zj9 _ _ _ _) hs (fun b hlt hne _=>hlow b hlt hne) (fun b hb'=>by
  unfold zfk;rw [if_neg (by omega)];exact C.fresh b (by omega)) hR (fun b hA=>by
  obtain ⟨z1,z2⟩:=C.mine b hA;have hlt:=C.lt (b:=b) (by rw [z1];simp);exact ⟨(zdo hlt).trans z1,(low b hlt fun z=>(hb b z).2 hA).trans z2⟩) C.pv (fun b v hb'=>by
  obtain ⟨z1,z2⟩:=C.tg b v hb';have hlt:=C.lt (b:=b) (by rw [z1];simp);exact ⟨(zdo hlt).trans z1,(hlow b hlt (by rw [z1];simp)).trans z2⟩)
 exact ⟨_,C1,hO.trans h1 hF.1,.trans hO hF h2,fun b=>zhr,fun b hb'=>zdo hb'⟩
structure RowW (i N:Nat) (own:Nat→Owner) (w:World) (v:Value) (l:List Int):Prop where
 row:w.ownsRow N 3 1 v l.length (za8 l)
 mine:∀ g,v.ownBlock=some g→own g = .th i
theorem RowW.keep {i N:Nat} {own own':Nat→Owner} {w w':World} {v:Value} {l:List Int} (h:RowW i N own w v l) (hk:∀ b,v.ownBlock=some b→b < w.heap.size→own' b=own b∧w'.heap[b]?=w.heap[b]?):RowW i N own' w' v l:=by
 obtain ⟨⟨h1,h2⟩,h3⟩:=h;rcases h2 with ⟨rfl,h2⟩|⟨g,cap,cur,rfl,q1,q2,q3⟩
 ·exact ⟨⟨h1,.inl ⟨rfl,h2⟩⟩,fun g hg=>by cases hg⟩
 ·have hlt:=(yah.1 q2).1;obtain ⟨k1,k2⟩:=hk g rfl hlt;refine ⟨⟨h1,.inr ⟨g,cap,cur,rfl,q1,k2.trans q2,q3⟩⟩,fun b hb=>?_⟩;cases hb;rw [k1];exact h3 g rfl
theorem RowW.th {i N:Nat} {own:Nat→Owner} {w:World} {v:Value} {l:List Int} (h:RowW i N own w v l) (hl:∀ x∈l,zd5 x):RowTh i own w.heap v l:=by
 obtain ⟨p,cap,e,hc,q⟩:=zez h.row;refine ⟨hl,p,cap,e,hc,fun hne=>?_⟩;obtain ⟨g,c,e1,e2,e3,e4⟩:=q (List.length_pos_iff.2 hne);refine ⟨g,0,c,e1,h.mine g (by rw [e,e1];rfl),e3,fun j x hj=>?_⟩;have hlt:j < l.length:=(yai.1 hj).1;rw [Nat.zero_add,e4 j hlt];simp [za8,hj]
theorem RowW.ge {i N:Nat} {own:Nat→Owner} {w:World} {v:Value} {l:List Int} (h:RowW i N own w v l) {b:Nat} (hb:zd0 v l b):N≤b:=by
 obtain ⟨hne,o,n,c,e⟩:=hb;obtain ⟨p',cap',e',_,q⟩:=zez h.row;obtain ⟨g,_,e1,e2,_⟩:=q (List.length_pos_iff.2 hne);rw [e',e1] at e;simp only [Value.slice.injEq,Option.some.injEq,Addr.mk.injEq] at e;rw [← e.1.1];exact e2
theorem RowW.geO {i N:Nat} {own:Nat→Owner} {w:World} {v:Value} {l:List Int} (h:RowW i N own w v l) {b:Nat} (hb:v.ownBlock=some b):N≤b:=by
 rcases h.row.2 with ⟨rfl,_⟩|⟨g,cap,cur,rfl,q1,_⟩
 ·cases hb
 ·cases hb;exact q1
theorem RowW.frozen {i N:Nat} {own:Nat→Owner} {w wp:World} {D:Nat→Option (Nat×Nat)} {v:Value} {l:List Int} (h:RowW i N own w v l) (hp:Sim wp (poi D w)) (hD:∀ b,own b = .th i→D b=none):wp.ownsRow N 3 1 v l.length (za8 l):=by
 obtain ⟨⟨h1,h2⟩,h3⟩:=h;rcases h2 with ⟨rfl,h2⟩|⟨g,cap,cur,rfl,q1,q2,q3⟩
 ·exact ⟨h1,.inl ⟨rfl,h2⟩⟩
 ·exact ⟨h1,.inr ⟨g,cap,cur,rfl,q1,(zbe hp (hD g (h3 g rfl))).trans q2,q3⟩⟩
end
def zf0 {S:Type} (L:zgn S GateS) (p at_:Int) (κ:Int→Fu (SM S)) (rest:Fu (SM S)) (s:Nat) (l:List Int):Fu (SM S) :=
 if p∈l then κ 7 else zmu L p at_ fun _=>zbp (zgl L s (l++[p]) fun t=>if t then κ 0 else rest)
def ze1 {S:Type} (L:zgn S GateS) (p at_:Int) (κ:Int→Fu (SM S)):Nat→Fu (SM S)
 | 0=>zl4
 | f+1=>zbp fun m=>zf0 L p at_ κ (ze1 L p at_ κ f) (L.get m.st).ser (L.get m.st).mem m
def zfc {S:Type} (L:zgn S GateS) (f:Nat) (p at_:Int) (κ:Int→Fu (SM S)):Fu (SM S):=if p < 0∨64≤p then κ 1 else ze1 L p at_ κ f
theorem zqp {P:Program} {main:Bool} {K:World→Prop} {Still:Loc→Prop} {Inb:Nat→Option Seat} {GO:Goroutine→World→Prop} {b:Frame} {a:Act} {k:List Item} {cs:List Frame} {w:World} {id:Nat} {c:Code} (X:XC P main K Still Inb GO) (hc:c = .block id (cA c)) (h:GO (G (b.at a (.code (cA c) :: .inBlock id::k)) cs) w):GO (G (b.at a (.code c::k)) cs) w:=by
 rw [hc];exact zb1 X h
theorem zfb {P:Program} {o:Oper} {a:Act} {w:World} (s x:Operand) (t tn:TypeId) (hop:o.op=Op.call { callee:=Callee.builtin Builtin.append,args:=#[s,x],argTypes:=#[t,tn] })
  {v u:Value} (hs:a.eval s=v) (hx:a.eval x=u) {v':Value} {w':World} (hr:(Builtin.append_ #[t,tn] o.type #[v,u]).run P w = .ok v' w'):(execOp a.eval o).run P w = .ok (.value v') w':=by
 unfold execOp;simp only [hop,resolve,invoke,builtin,Sem.run_bind,Sem.run_pure,Result.andThen_ok,List.map_toArray,List.map_cons,List.map_nil,hs,hx,hr]
theorem zwu {w:World} {g:Nat} {p:Int} (hg:w.heap[g]?=some (.cells #[.int .i64 p] 3 (0,0))):zh8 w (.slice (some ⟨g,0,none⟩) 1 1) 1 [.int .i64 p]:=by
 refine ⟨rfl,fun u hu=>?_,.inr ⟨_,_,rfl,fun j u hj=>?_⟩⟩
 ·simp only [List.mem_cons,List.not_mem_nil,or_false] at hu;subst hu;rfl
 ·have:=zac hg j;rcases j with _|j
  ·simp at hj;subst hj;simpa [Addr.add] using this
  ·simp at hj
noncomputable def c73:Code:=(Try.f73.body).getD .skip
def A73 (x:Nat→Value):Act:=⟨#[x 0,x 1,x 2,x 3,x 4,x 5,x 6,x 7,x 8,x 9,x 10,x 11,x 12,x 13,x 14,x 15,x 16,x 17,x 18,x 19,x 20,x 21,x 22,x 23,x 24,x 25,x 26,x 27,x 28,x 29,x 30,x 31,x 32,x 33,x 34,x 35,x 36,x 37,x 38,x 39,x 40,x 41,x 42],[]⟩
theorem zv1 (l:Array Value) (hl:l.size=43):(⟨l,[]⟩:Act)=A73 fun j=>l.getD j undef:=by
 have e:∀ x:Nat→Value,(A73 x).tmps=((List.range 43).map x).toArray:=fun x=>rfl;have h1:l=(A73 fun j=>l.getD j undef).tmps:=by
  rw [e];apply Array.ext_getElem?;intro i;by_cases h:i < 43
  ·have h':i < l.size:=by omega
   simp [h,h',List.getElem?_range]
  ·have h':¬ i < l.size:=by omega
   rw [Array.getElem?_eq_none (by omega),Array.getElem?_eq_none (by simp;omega)]
 exact congrArg (Act.mk · []) h1
def zh3:Code→Code:=fun c=>cA (cA (cB (cB c)))
def tv73 (gb:Nat) (sv hv v:Value) (p:Int):Nat→Option Value
 | 0=>some (gpv gb)|1=>some (gpv gb)|2=>some (gpv gb)|3=>some sv|4=>some hv|5=>some hv|6=>some v|8=>some (.int .i64 p)
 | _=>none
structure I73 {S:Type} (md:Md (SM S)) (gb H:Nat) (hv v:Value) (p:Int) (l:List Int) (y:md.β) (own0:Nat→Owner) (w0:World) (A:Nat→Prop) (w₀:W0 (SM S)) (m:SM S) (listed:Array Bool) (x:Nat→Value) (own:Nat→Owner) (w:World):Prop where
 x0:x 0=gpv gb
 x1:x 1=md.sv
 x2:x 2 = .int .i64 p
 x10:x 10=gpv H
 tab:Tab (tv73 gb md.sv hv v p) 31 listed x
 C:md.C y own A w₀ w m
 hO:OwnStep md.i own0 own w0.heap.size
 hF:Frm md.i own0 w0 w
 c7:listed.getD 7 false=true→listed.getD 10 false=false→RowW md.i w0.heap.size own w (x 38) l
 c9:listed.getD 9 false=true→listed.getD 10 false=false→∃ g,x 40 = .slice (some ⟨g,0,none⟩) 1 1∧own g = .th md.i∧w.heap[g]?=some (.cells #[.int .i64 p] 3 (0,0))∧w0.heap.size≤g
 c79:listed.getD 7 false=true→listed.getD 9 false=true→listed.getD 10 false=false→∀ g,x 40 = .slice (some ⟨g,0,none⟩) 1 1→(x 38).ownBlock≠some g
 c10:listed.getD 10 false=true→RowW md.i w0.heap.size own w (x 41) (l++[p])
theorem zcs {listed:Array Bool} {i j:Nat} (h:(listed.setIfInBounds i true).getD j false=false):listed.getD j false=false:=by
 by_cases hj:j < listed.size
 ·simp only [Array.getD,Array.size_setIfInBounds,hj,dite_true,Array.getInternal_eq_getElem] at h ⊢;by_cases e:i=j
  ·subst e;simp at h
  ·rw [Array.getElem_setIfInBounds_ne _ e] at h;exact h
 ·simp [Array.getD,hj]
section
variable {S:Type} {md:Md (SM S)} {L:zgn S GateS} {gb H:Nat} {A:Nat→Prop} {w₀:W0 (SM S)} {c:Frame} {cs:List Frame} {hv v:Value} {p:Int} {l:List Int} {y:md.β} {own0 own:Nat→Owner} {w0 w w1:World} {m:SM S} {listed:Array Bool} {x:Nat→Value}
theorem I73.put (h:I73 md gb H hv v p l y own0 w0 A w₀ m listed x own w) {i:Nat} {u:Value} (hi:i < 7∨i=8) (ht:tv73 gb md.sv hv v p i=some u):I73 md gb H hv v p l y own0 w0 A w₀ m (listed.setIfInBounds i true) (upd x (31+i) u) own w:=by
 refine ⟨by rw [upd_ne _ _ (by omega)];exact h.x0,by rw [upd_ne _ _ (by omega)];exact h.x1,by rw [upd_ne _ _ (by omega)];exact h.x2,by rw [upd_ne _ _ (by omega)];exact h.x10,h.tab.put (.inl ht),h.C,h.hO,h.hF,fun z1 z2=>?_,fun z1 z2=>?_,fun z1 z2 z3=>?_,fun z=>?_⟩
 ·rw [upd_ne _ _ (by omega)];exact h.c7 ((zca z1).resolve_left (by omega)) (zcs z2)
 ·rw [upd_ne _ _ (by omega)];exact h.c9 ((zca z1).resolve_left (by omega)) (zcs z2)
 ·rw [upd_ne _ _ (by omega),upd_ne _ _ (by omega)];exact h.c79 ((zca z1).resolve_left (by omega)) ((zca z2).resolve_left (by omega)) (zcs z3)
 ·rw [upd_ne _ _ (by omega)];exact h.c10 ((zca z).resolve_left (by omega))
theorem I73.grow (O:md.Ok) (h:I73 md gb H hv v p l y own0 w0 A w₀ m listed x own w) (hs:w.heap.size≤w1.heap.size) (low:∀ b,b < w.heap.size→w1.heap[b]?=w.heap[b]?):∃ own1,I73 md gb H hv v p l y own0 w0 A w₀ m listed x own1 w1∧(∀ b,w.heap.size≤b→b < w1.heap.size→own1 b = .th md.i):=by
 obtain ⟨own1,C1,hO,hF,hn,ho⟩:=h.C.growW O h.hO h.hF none (fun b z=>by cases z) hs fun b hb _=>low b hb;refine ⟨own1,⟨h.x0,h.x1,h.x2,h.x10,h.tab,C1,hO,hF,fun z1 z2=>(h.c7 z1 z2).keep fun b _ hb=>⟨ho b hb,low b hb⟩,fun z1 z2=>?_,h.c79,fun z=>(h.c10 z).keep fun b _ hb=>⟨ho b hb,low b hb⟩⟩,hn⟩;obtain ⟨g,q1,q2,q3,q4⟩:=h.c9 z1 z2;have hlt:=(yah.1 q3).1;exact ⟨g,q1,(ho g hlt).trans q2,(low g hlt).trans q3,q4⟩
theorem zun (O:md.Ok) (Pt:Part md L (GateAt gb) gb TS2) {κ:Bool→Fu (SM S)} {s N:Nat} {p0:Option Addr} (hp:0≤p∧p < 64) (hm:zc8 l) (hpl:p∉l) {own₀:Nat→Owner} {h₀:Array Obj} {m₀:SM S} (hH:HeldP own₀ h₀ s l p0) (eN:h₀[N]?=some (.cells #[.pointer p0,gpv gb] 217 (0,0))) (oN:own₀ N = .th md.i)
  {w2:World} {own2:Nat→Owner} {m2:SM S} (C2:md.C y own2 (fun b=>own₀ b = .th md.i) ⟨h₀,m₀,own₀⟩ w2 m2) (hend:md.End (fun b=>own₀ b = .th md.i) ⟨h₀,m₀,own₀⟩ c cs) {z:Nat→Value} (z0:z 0=gpv gb) (z1:z 1=md.sv) (z2:z 2 = .int .i64 p) (z10:z 10=gpv N) {R:List Item}
  (hret:∀ t z',(∀ j,j < 11→z' j=z j)→z' 42 = .bool t→md.F (κ t) (fun b=>own₀ b = .th md.i) ⟨h₀,m₀,own₀⟩ (G ((base 73).at (A73 z') R) (c::cs))) :
  md.GO y own2 w2 (zbp (zgl L s (l++[p]) κ) m2) (G ((base 73).at (A73 z) (.code (cA (cA (cB (cB (cB (cA (zh3 c73)))))))::R)) (c::cs)) w2:=by
 obtain ⟨hin,v,hsl,hval⟩:=zhx hH;have hlen:=zcj hm;generalize hmc:zbp (zgl L s (l++[p]) κ) m2=mc;replace hmc:=yay hmc;replace hret:=yay hret;rw [show cA (cA (cB (cB (cB (cA (zh3 c73))))))=Code.region _ _ _ from rfl]
 refine zmf (O.xc ..) 11 [[11]] rfl (by kernel_rfl) (C2.st O) (fun listed a w=>∃ x own,a=A73 x∧(∀ j,j < 11→x j=z j)∧I73 md gb N (.agg #[.pointer p0,gpv gb]) v p l y own2 w2 (fun b=>own₀ b = .th md.i) ⟨h₀,m₀,own₀⟩ m2 listed x own w) ?i0 ?ie ?ist
 case i0 =>
  exact ⟨z,own2,rfl,fun _ _=>rfl,z0,z1,z2,z10,.zero,C2,.refl,.refl,fun q=>(by rw [getD_replicate_false] at q;cases q),fun q=>(by rw [getD_replicate_false] at q;cases q),fun q=>(by rw [getD_replicate_false] at q;cases q),fun q=>(by rw [getD_replicate_false] at q;cases q)⟩
 case ie =>
  rintro a w3 ⟨x,own3,rfl,hxz,hI⟩ r hr;obtain rfl:r=[11]:=by simpa using hr
  have hrow:=hI.c10 rfl;have t2:x 33=gpv gb:=hI.tab 2 _ rfl rfl;have t3:x 34=md.sv:=hI.tab 3 _ rfl rfl;have t4:x 35 = .agg #[.pointer p0,gpv gb]:=hI.tab 4 _ rfl rfl;have C3:=hI.C;have hin2:∀ q∈l++[p],zd5 q:=fun q hq=>by
   rcases List.mem_append.1 hq with hq|hq
   ·exact hin q hq
   ·have:q=p:=by simpa using hq
    subst this;constructor<;>omega
  have hth:=hrow.th hin2;have hm2:zc8 (l++[p]):=by
   refine ⟨List.nodup_append.2 ⟨hm.1,by simp,fun a ha b hb=>?_⟩,fun q hq=>?_⟩
   ·have:b=p:=by simpa using hb
    subst this;intro e;exact hpl (e▸ha)
   ·rcases List.mem_append.1 hq with hq|hq
    ·exact hm.2 q hq
    ·have:q=p:=by simpa using hq
     subst this;exact hp
  have hH3:HeldP own3 w3.heap s l p0:=hH.keep fun b t q=>C3.tg b t q;refine O.rebase hI.hO hI.hF ?_;unfold A73;simp only [t2,t3,t4];refine zav (O.xc ..) rfl rfl (by decide) rfl Try.func131 (by kernel_rfl) (by kernel_rfl) ?_;walk_nrm;obtain rfl:=hmc.out;have hfr:∀ b,own₀ b = .th md.i→own3 b = .th md.i∧¬ zd0 (x 41) (l++[p]) b:=fun b hb=>by
   refine ⟨(C3.mine b hb).1,fun q=>?_⟩;have h1:=hrow.ge q;have h2:=(C2.mine b hb).1;rw [C2.fresh b h1] at h2;cases h2
  refine zrt O Pt (A:=fun b=>own3 b = .th md.i) (w₀:=⟨w3.heap,m2,own3⟩) (κ:=κ) hm2 hth hH3 (fun b hb=>hth.mine hb) (O.endUp (zaa Try.func73) rfl rfl (O.endMore hend C3.allLess)) (fun t=>?_) _ _ _ _ C3.all;intro y4 own4 w4 m4 C4;rw [Frame.finish_at];walk_nrm;refine zad (O.xc ..) ?_;rw [zv1 _ rfl];refine hret.out t _ (fun j hj=>?_) ?_ _ _ _ _ (C4.less ⟨fun b hb=>⟨hfr b hb,(C3.mine b hb).2⟩,C3.pv,fun b t q=>C3.tg b t q⟩)
  ·rcases j with _|_|_|_|_|_|_|_|_|_|_|j<;>first|(exact hxz _ (by decide))|omega
  ·rfl
 case ist =>
  rintro listed i hi11 hir a w3 r ⟨x,own3,rfl,hxz,hI⟩ hnext;obtain ⟨hun,o,ho,hdep⟩:=mem_ready.1 hir;have C3:=hI.C;obtain ⟨oN3,q2⟩:=C3.mine N oN;have eN3:=q2.trans eN;clear q2;have hxz':∀ i u,0 < i→∀ j,j < 11→upd x (30+i) u j=z j:=fun i u hi j hj=>by rw [upd_ne _ _ (by omega)];exact hxz j hj
  have hcase:i=0∨i=1∨i=2∨i=3∨i=4∨i=5∨i=6∨i=7∨i=8∨i=9∨i=10:=by omega
  rcases hcase with rfl|rfl|rfl|rfl|rfl|rfl|rfl|rfl|rfl|rfl|rfl
  ·have y0:=hI.x0;refine O.op1 C3 rfl rfl (by decide) (zah (l:=[_]) (by kernel_rfl) _ (yaj.2 rfl)) (v:=gpv gb) (fun wp hp=>by
    unfold A73
    try unfold gpv at *
    go_simp<;>rfl) ?_
   exact hnext (A73 (upd x 31 (gpv gb))) w3 ⟨_,own3,rfl,hxz' 1 _ (by decide),hI.put (i:=0) (by omega) rfl⟩
  ·have ho':=yaw ho;subst ho';have d0:listed.getD 0 false=true:=hdep ⟨0,.data⟩ (by simp) rfl;have t0:x 31=_:=hI.tab 0 _ rfl d0;refine O.op1 C3 rfl rfl (by decide) (zah (l:=[_]) (by kernel_rfl) _ (yaj.2 rfl)) (v:=gpv gb) (fun wp hp=>by
    unfold A73
    try unfold gpv at *
    go_simp<;>rfl) ?_
   exact hnext (A73 (upd x 32 (gpv gb))) w3 ⟨_,own3,rfl,hxz' 2 _ (by decide),hI.put (i:=1) (by omega) rfl⟩
  ·have ho':=yaw ho;subst ho';have d1:listed.getD 1 false=true:=hdep ⟨1,.data⟩ (by simp) rfl;have t1:x 32=_:=hI.tab 1 _ rfl d1;refine O.op1 C3 rfl rfl (by decide) (zah (l:=[_]) (by kernel_rfl) _ (yaj.2 rfl)) (v:=gpv gb) (fun wp hp=>by
    unfold A73
    try unfold gpv at *
    go_simp<;>rfl) ?_
   exact hnext (A73 (upd x 33 (gpv gb))) w3 ⟨_,own3,rfl,hxz' 3 _ (by decide),hI.put (i:=2) (by omega) rfl⟩
  ·have y1:=hI.x1;refine O.op1 C3 rfl rfl (by decide) (zah (l:=[_]) (by kernel_rfl) _ (yaj.2 rfl)) (v:=md.sv) (fun wp hp=>by
    unfold A73
    try unfold gpv at *
    go_simp<;>rfl) ?_
   exact hnext (A73 (upd x 34 (md.sv))) w3 ⟨_,own3,rfl,hxz' 4 _ (by decide),hI.put (i:=3) (by omega) rfl⟩
  ·have y10:=hI.x10;refine O.op1 C3 rfl rfl (by decide) (zah (l:=[_]) (by kernel_rfl) _ (yaj.2 rfl)) (v := .agg #[.pointer p0,gpv gb]) (fun wp hp=>by
    have n0:=(zar hp ⟨N,0,none⟩).trans (zac eN3 0);have n1:=(zar hp ⟨N,1,none⟩).trans (zac eN3 1);simp only [yac,yaa,yab] at n0 n1;unfold A73
    try unfold gpv at *
    go_simp<;>rfl) ?_
   exact hnext (A73 (upd x 35 (.agg #[.pointer p0,gpv gb]))) w3 ⟨_,own3,rfl,hxz' 5 _ (by decide),hI.put (i:=4) (by omega) rfl⟩
  ·have y10:=hI.x10;refine O.op1 C3 rfl rfl (by decide) (zah (l:=[_]) (by kernel_rfl) _ (yaj.2 rfl)) (v := .agg #[.pointer p0,gpv gb]) (fun wp hp=>by
    have n0:=(zar hp ⟨N,0,none⟩).trans (zac eN3 0);have n1:=(zar hp ⟨N,1,none⟩).trans (zac eN3 1);simp only [yac,yaa,yab] at n0 n1;unfold A73
    try unfold gpv at *
    go_simp<;>rfl) ?_
   exact hnext (A73 (upd x 36 (.agg #[.pointer p0,gpv gb]))) w3 ⟨_,own3,rfl,hxz' 6 _ (by decide),hI.put (i:=5) (by omega) rfl⟩
  ·have ho':=yaw ho;subst ho';have d5:listed.getD 5 false=true:=hdep ⟨5,.data⟩ (by simp) rfl;have t5:x 36=_:=hI.tab 5 _ rfl d5;refine O.callA C3 zbu (f:=130) (by simp) rfl rfl (by decide) rfl Try.func130 (by kernel_rfl) (by kernel_rfl) fun wp hp=>?_;have hk:=(hval wp (C3.tagp O hp)).1;unfold A73;simp only [t5];walk_nrm;refine (ze2 wp hk hsl ⟨_,rfl⟩).mono ?_;rintro e w' ⟨rfl,rfl⟩;refine ⟨v,rfl,fun w4 q1 q2 q3=>?_⟩;have hsz:wp.heap.size=w3.heap.size:=by rw [hp.heap,zap]
   obtain ⟨own4,hI4,_⟩:=hI.grow O (w1:=w4) (by rw [q3];simp [hsz]) fun b hb=>q2 b (Below.heap_alloc _ _ _ (by omega));have:=hnext (A73 (upd x 37 v)) w4 ⟨_,own4,rfl,hxz' 7 _ (by decide),hI4.put (i:=6) (by omega) rfl⟩;rw [← t5];exact this
  ·have ho':=yaw ho;subst ho';have d6:listed.getD 6 false=true:=hdep ⟨6,.data⟩ (by simp) rfl;have t6:x 37=_:=hI.tab 6 _ rfl d6;refine O.callA C3 zbu (f:=132) (by simp) rfl rfl (by decide) rfl Try.func132 (by kernel_rfl) (by kernel_rfl) fun wp hp=>?_;have hk:=(hval wp (C3.tagp O hp)).2;unfold A73;simp only [t6];walk_nrm;refine (zis v l wp hk (by omega)).mono ?_;rintro e w' ⟨v',rfl,hr,hB⟩;refine ⟨v',rfl,fun w4 q1 q2 q3=>?_⟩;have hsz:wp.heap.size=w3.heap.size:=by rw [hp.heap,zap]
   have hs4:w3.heap.size≤w4.heap.size:=by rw [q3,← hsz];exact hB.size
   obtain ⟨own4,hI4,hn4⟩:=hI.grow O (w1:=w4) hs4 fun b hb=>q2 b (hB.block b (by omega));have hge:=hI.hF.1;have hrow:RowW md.i w2.heap.size own4 w4 v' l:=by
    rw [hsz] at hr;obtain ⟨h1,h2⟩:=hr;rcases h2 with ⟨rfl,h2⟩|⟨g,cap,cur,rfl,g1,g2,g3⟩
    ·exact ⟨⟨h1,.inl ⟨rfl,h2⟩⟩,fun g hg=>by cases hg⟩
    ·have e4:=(q1 g (C3.dn O g1)).trans g2;exact ⟨⟨h1,.inr ⟨g,cap,cur,rfl,by omega,e4,g3⟩⟩,fun b hb=>by cases hb;exact hn4 g g1 (yah.1 e4).1⟩
   have hgb:∀ g,v'.ownBlock=some g→w3.heap.size≤g:=fun g hg=>by
    rw [hsz] at hr;rcases hr.2 with ⟨rfl,_⟩|⟨g',cap,cur,rfl,g1,_⟩
    ·cases hg
    ·cases hg;exact g1
   have:=hnext (A73 (upd x 38 v')) w4 ⟨_,own4,rfl,hxz' 8 _ (by decide),hI4.x0,hI4.x1,hI4.x2,hI4.x10,hI4.tab.put (i:=7) (.inr rfl),hI4.C,hI4.hO,hI4.hF,fun _ _=>hrow,fun z1 z2=>hI4.c9 ((zca z1).resolve_left (by decide)) (zcs z2),fun z1 z2 z3 g hg hb=>?_,fun z=>hI4.c10 ((zca z).resolve_left (by decide))⟩
   ·rw [← t6];exact this
   ·obtain ⟨g',k1,k2,k3,k4⟩:=hI.c9 ((zca z2).resolve_left (by decide)) (zcs z3);have hg':x 40 = .slice (some ⟨g,0,none⟩) 1 1:=hg;rw [k1] at hg';simp only [Value.slice.injEq,Option.some.injEq,Addr.mk.injEq,and_true] at hg';subst hg';have hb':v'.ownBlock=some g':=hb;have h1:=hgb g' hb';have h2:=(yah.1 k3).1;omega
  ·have y2:=hI.x2;refine O.op1 C3 rfl rfl (by decide) (zah (l:=[_]) (by kernel_rfl) _ (yaj.2 rfl)) (v := .int .i64 p) (fun wp hp=>by
    unfold A73
    try unfold gpv at *
    go_simp<;>rfl) ?_
   exact hnext (A73 (upd x 39 (.int .i64 p))) w3 ⟨_,own3,rfl,hxz' 9 _ (by decide),hI.put (i:=8) (by omega) rfl⟩
  ·have ho':=yaw ho;subst ho';have d8:listed.getD 8 false=true:=hdep ⟨8,.data⟩ (by simp) rfl;have t8:x 39=_:=hI.tab 8 _ rfl d8;refine O.opD C3 rfl rfl (by decide) (zah (l:=[_]) (by kernel_rfl) _ (yaj.2 rfl)) fun wp hp=>⟨.slice (some ⟨wp.heap.size,0,none⟩) 1 1,wp.alloc (.cells #[.int .i64 p] 3),?_,fun w4 q1 q2 q3=>?_⟩
   ·unfold A73
    go_simp<;>rfl
   have hsz:wp.heap.size=w3.heap.size:=by rw [hp.heap,zap]
   have hs4:w4.heap.size=w3.heap.size+1:=by rw [q3];simp [hsz]
   have e4:w4.heap[w3.heap.size]?=some (.cells #[.int .i64 p] 3 (0,0)):=by rw [q1 _ (C3.dn O (yax _)),← hsz];exact heap_alloc_new _ _
   obtain ⟨own4,hI4,hn4⟩:=hI.grow O (w1:=w4) (by omega) fun b hb=>q2 b (Below.heap_alloc _ _ _ (by omega));rw [hsz];refine hnext (A73 (upd x 40 (.slice (some ⟨w3.heap.size,0,none⟩) 1 1))) w4 ⟨_,own4,rfl,hxz' 10 _ (by decide),hI4.x0,hI4.x1,hI4.x2,hI4.x10,hI4.tab.put (i:=9) (.inr rfl),hI4.C,hI4.hO,hI4.hF,fun z1 z2=>hI4.c7 ((zca z1).resolve_left (by decide)) (zcs z2),fun _ _=>⟨_,rfl,hn4 _ (yax _) (by omega),e4,hI.hF.1⟩,fun z1 z2 z3 g hg hb=>?_,fun z=>hI4.c10 ((zca z).resolve_left (by decide))⟩;have hrw:=hI.c7 ((zca z1).resolve_left (by decide)) (zcs z3);have hg':(Value.slice (some ⟨w3.heap.size,0,none⟩) 1 1) = .slice (some ⟨g,0,none⟩) 1 1:=hg;simp only [Value.slice.injEq,Option.some.injEq,Addr.mk.injEq,and_true] at hg';subst hg';have hb':(x 38).ownBlock=some w3.heap.size:=hb;have:=C3.lt (b:=w3.heap.size) (by rw [hrw.mine _ hb'];simp);omega
  ·have ho':=yaw ho;subst ho';have d7:listed.getD 7 false=true:=hdep ⟨7,.data⟩ (by simp) rfl;have d9:listed.getD 9 false=true:=hdep ⟨9,.data⟩ (by simp) rfl;have hno:listed.getD 10 false=false:=getD_both hun;have hrw:=hI.c7 d7 hno;obtain ⟨g,k1,k2,k3,k4⟩:=hI.c9 d9 hno;have h79:=hI.c79 d7 d9 hno g k1;obtain ⟨i0,hi0,hz0,hz1,hz2⟩:=info_parts zrf;have key:∀ wp,Sim wp (poi md.D w3)→∃ v' w',(Builtin.append_ #[24,24] 24 #[x 38,x 40]).run Try.prog wp = .ok v' w'∧zeo wp w2.heap.size 3 (x 38) l.length 1 (za8 l++[.int .i64 p]) v' w':=fun wp hp=>by
    have hr:=hrw.frozen hp fun b hb=>C3.dm O (by rw [hb];simp);have kg:=(zbe hp (C3.dm O (by rw [k2];simp))).trans k3;have hge:=hI.hF.1;have hsz:wp.heap.size=w3.heap.size:=by rw [hp.heap,zap]
    exact zdn (P:=Try.prog) wp w2.heap.size 24 24 3 i0 _ 8 Try.underlying24 hi0 hz0 hz1 hz2 (by decide) (x 38) l.length (za8 l) hr (x 40) 1 [.int .i64 p] (by rw [k1];exact zwu kg) (by unfold maxLen;omega) (by omega) (by omega)
   refine O.opD C3 rfl rfl (by decide) (zah (l:=[_]) (by kernel_rfl) _ (yaj.2 rfl)) fun wp hp=>?_;obtain ⟨v',w',hrun,ha⟩:=key wp hp;obtain ⟨ha1,ha2,ha3⟩:=ha;refine ⟨v',w',?_,fun w4 q1 q2 q3=>?_⟩
   ·exact zfb (.tmp 38) (.tmp 40) 24 24 rfl rfl rfl hrun
   have hsz:wp.heap.size=w3.heap.size:=by rw [hp.heap,zap]
   have hs4:w3.heap.size≤w4.heap.size:=by rw [q3,← hsz];exact ha2.size
   have hlow:∀ b,b < w3.heap.size→(x 38).ownBlock≠some b→w4.heap[b]?=w3.heap[b]?:=fun b hb hne=>q2 b (ha2.block b (by omega) fun q=>hne q.symm);obtain ⟨own4,C4,hO4,hF4,hn4,ho4⟩:=C3.growW (w1:=w4) O hI.hO hI.hF (x 38).ownBlock (fun b hb=>⟨hrw.mine b hb,fun hA=>by
    have h1:=hrw.geO hb;have h2:=(C2.mine b hA).1;rw [C2.fresh b h1] at h2;cases h2⟩) hs4 hlow
   have hge:=hI.hF.1;have hlen1:(l++[p]).length=l.length+1:=by simp
   have hnew:RowW md.i w2.heap.size own4 w4 v' (l++[p]):=by
    have hv1:za8 (l++[p])=za8 l++[.int .i64 p]:=by simp [za8]
    have hblk:∀ b,v'.ownBlock=some b→own4 b = .th md.i∧w4.heap[b]?=w'.heap[b]?:=fun b hb=>by
     have hb2:(x 38).ownBlock=some b∨w3.heap.size≤b:=by
      rcases ha3 with ⟨rfl,_⟩|⟨g',cap,rfl,_,q⟩
      ·cases hb
      ·cases hb;rw [← hsz];exact q
     rcases hb2 with hb2|hb2
     ·have ob:=hrw.mine b hb2;have hlt:=C3.lt (b:=b) (by rw [ob];simp);exact ⟨(ho4 b hlt).trans ob,q1 b (C3.dm O (by rw [ob];simp))⟩
     ·have e4:=q1 b (C3.dn O hb2);refine ⟨hn4 b hb2 ?_,e4⟩;rcases ha1.2 with ⟨rfl,_⟩|⟨g',cap,cur,rfl,_,g2,_⟩
      ·cases hb
      ·cases hb;exact (yah.1 (e4.trans g2)).1
    refine ⟨?_,fun b hb=>(hblk b hb).1⟩;rw [hv1,hlen1];obtain ⟨r1,r2⟩:=ha1;rcases r2 with r2|⟨g',cap,cur,rfl,g1,g2,g3⟩
    ·exact ⟨r1,.inl r2⟩
    ·exact ⟨r1,.inr ⟨g',cap,cur,rfl,g1,((hblk g' rfl).2).trans g2,g3⟩⟩
   refine hnext (A73 (upd x 41 v')) w4 ⟨_,own4,rfl,hxz' 11 _ (by decide),hI.x0,hI.x1,hI.x2,hI.x10,hI.tab.put (i:=10) (.inr rfl),C4,hO4,hF4,fun _ z=>?_,fun _ z=>?_,fun _ _ z=>?_,fun _=>hnew⟩;all_goals
    exfalso;have hs10:10 < listed.size:=by
     by_cases h:10 < listed.size
     ·exact h
     ·simp [Array.getD,h] at hun
    simp [Array.getD,hs10] at z
end
section
variable {S:Type} {md:Md (SM S)} {L:zgn S GateS} {gb:Nat} {A:Nat→Prop} {w₀:W0 (SM S)} {c:Frame} {cs:List Frame}
theorem zly (O:md.Ok) (Pt:Part md L (GateAt gb) gb TS2) {p at_:Int} (hp:0≤p∧p < 64) (hat:zd5 at_) {κ:Int→Fu (SM S)} (hend:md.End A w₀ c cs) (hret:∀ e,(e=0∨e=1∨e=7)→md.F (κ e) A w₀ (G (c.finish (.int .i64 e)) cs))
  {φ rest:Fu (SM S)} (hφ:φ=zl4∨φ=zbp fun m=>zf0 L p at_ κ rest (L.get m.st).ser (L.get m.st).mem m)
  (hrest:(φ=zbp fun m=>zf0 L p at_ κ rest (L.get m.st).ser (L.get m.st).mem m)→∀ x y own w m,md.C y own A w₀ w m→x 0=gpv gb→x 1=md.sv→x 2 = .int .i64 p→x 3 = .int .i64 at_→md.GO y own w (rest m) (G ((base 73).at (A73 x) (.code (zh3 c73) :: .inLoop (zh3 c73) :: .inBlock 0::[])) (c::cs)) w) :
  ∀ x y own w m,md.C y own A w₀ w m→x 0=gpv gb→x 1=md.sv→x 2 = .int .i64 p→x 3 = .int .i64 at_→md.GO y own w (φ m) (G ((base 73).at (A73 x) (.code (zh3 c73) :: .inLoop (zh3 c73) :: .inBlock 0::[])) (c::cs)) w:=by
 intro x y own w m C x0 x1 x2 x3;generalize hmc:φ m=mc;replace hmc:=yay hmc;replace hret:=yay hret;replace hrest:=yay hrest;refine zqp (O.xc ..) rfl ?_;rw [show cA (zh3 c73)=Code.seq (Code.region _ _ _) _ from rfl]
 unfold A73;simp only [x0,x1,x2,x3];unfold gpv;refine zae (O.xc ..) fun R0 hR0=>?_;refine zbj (O.xc ..) 4 (by decide) (by decide) (zah (by kernel_rfl)) (C.st O) fun wp hp=>?_;simp only [yad,yae];replace hp:=yay hp
 go_wp2_with fail
 refine zag hp.out (C.st O).okd ?_;clear hp  wp;refine zav (O.xc ..) rfl rfl (by decide) rfl Try.func128 (by kernel_rfl) (by kernel_rfl) ?_;walk_nrm;obtain rfl:=hmc.out;clear hmc;refine zkt O Pt (κ:=zf0 L p at_ κ rest) hφ (O.endUp (zaa Try.func73) rfl rfl hend) (fun hst s l p0 A₁ w₁ L1 hH hm=>?_) y own w m C;replace hrest:=yay (hrest.out hst);clear hst;intro y2 own2 w2 m2 C2;rw [Frame.finish_at];obtain ⟨hin,v,hsl,hval⟩:=zhx hH;have hlen:=zcj hm;generalize hmc:zf0 L p at_ κ rest s l m2=mc;replace hmc:=yay hmc;walk_nrm;obtain ⟨N,hN⟩:∃ N,w2.heap.size=N:=⟨_,rfl⟩;have hOk:=(C2.st O).okd;have hD0:md.D w2.heap.size=none:=C2.dn O (yax _);refine zb9 (O.xc ..) 5 2 (by decide) (by decide) (zah (by kernel_rfl)) (C2.st O) fun wp hp=>?_;simp only [yaf,yag,yad,yae];have hsz:wp.heap.size=N:=by rw [hp.heap,zap];exact hN
 replace hsz:=yay hsz;replace hp:=yay hp
 try unfold gpv at *
 go_wp2_with fail
 refine ⟨⟨rfl,rfl⟩,w2.alloc (.cells #[.pointer p0,.pointer (some ⟨gb,0,none⟩)] 217),rfl,zeb hOk _,?_,?_⟩
 ·exact zd9 hp.out _ hD0
 ·rw [hsz.out];clear hp hsz wp;refine zad (O.xc ..) ?_;obtain rfl:=hR0.out;clear hR0;have e3:(w2.alloc (.cells #[.pointer p0,.pointer (some ⟨gb,0,none⟩)] 217)).heap[N]?=some (.cells #[.pointer p0,gpv gb] 217 (0,0)):=by rw [← hN];exact heap_alloc_new _ _
  have k3:∀ b,b < w2.heap.size→(w2.alloc (.cells #[.pointer p0,.pointer (some ⟨gb,0,none⟩)] 217)).heap[b]?=w2.heap[b]?:=fun b hb=>Below.heap_alloc _ _ _ hb;have s3:(w2.alloc (.cells #[.pointer p0,.pointer (some ⟨gb,0,none⟩)] 217)).heap.size=N+1:=by rw [← hN];exact Array.size_push _
  generalize w2.alloc (.cells #[.pointer p0,.pointer (some ⟨gb,0,none⟩)] 217)=w3 at *;obtain ⟨own3,C3,hO3,hF3,hn3,ho3⟩:=C2.grown (w1:=w3) O (by omega) (fun b hb _=>k3 b hb);refine O.rebase hO3 hF3 ?_;have L3:Less md.i A₁ w₁ (fun b=>own3 b = .th md.i) ⟨w3.heap,m2,own3⟩:=zd4 C2 (fun b hb _=>k3 b hb) ho3;have oN:=hn3 N (by omega) (by omega);have LL:=L1.trans L3;have hH3:HeldP own3 w3.heap s l p0:=hH.keep fun b t q=>L3.tag b t q;clear hO3 hF3 hn3 ho3 k3 hD0 hOk hN C2;refine zae (O.xc ..) fun R0 hR0=>?_;refine zae (O.xc ..) fun R1 hR1=>?_;obtain ⟨N3,hN3⟩:∃ N,w3.heap.size=N:=⟨_,rfl⟩;have hDN:md.D N=none:=C3.dm O (by rw [oN];simp);refine O.segA C3 zbu (zab zaf (by kernel_rfl)) rfl (zaa Try.func73) rfl fun wp hp=>?_;have gN:=(zbe hp hDN).trans e3;have n0:=zac gN 0;have n1:=zac gN 1;simp only [yac,yaa,yab] at n0 n1;have hkk:=hval wp ((C3.less L3).tagp O hp);have hv130:=ze2 (of:=gpv gb) wp hkk.1 hsl ⟨_,rfl⟩;have hc129:=zne p (wp.alloc (.cells #[.pointer p0,gpv gb] 217)) (hkk.2.mono fun b hb=>Below.heap_alloc _ _ _ hb) (by omega);have hsz:wp.heap.size=N3:=by rw [hp.heap,zap];exact hN3
  clear hkk;replace gN:=yay gN;replace hp:=yay hp;replace hsz:=yay hsz;replace hN3:=yay hN3;unfold gpv at *
  go_wp2_with (first|(go_at_call 130;refine hv130.mono ?_;rintro e w' ⟨rfl,rfl⟩)|(go_at_call 129;refine hc129.mono ?_;rintro e w' ⟨rfl,rfl⟩))
  rw [hsz.out];refine fun w4 q1 q2 q3=>O.one C3 hp.out rfl hN3.out q1 q2 q3 fun own4 C4 e4 s4 o4 L4 low4=>?_;clear q1 q2 q3 hp hsz gN n0 n1 hv130 hc129 wp;have hNlt:N < N3:=by rw [← hN3.out];exact (yah.1 e3).1
  have e5:=(low4 N hNlt).1.trans e3;have o5:=(low4 N hNlt).2.trans oN;have hH4:HeldP own4 w4.heap s l p0:=hH3.keep fun b t q=>L4.tag b t q;have L5:=LL.trans L4;clear low4 L4 L3 C3 e3 oN hDN hN3 e4 s4 o4 L1 hH3 hH LL hNlt;obtain rfl:=hR1.out;clear hR1;by_cases hmem:p∈l
  ·have hmc2:mc=κ 7 m2:=by rw [← hmc.out];unfold zf0;rw [if_pos hmem]
   replace hmc2:=yay hmc2;have hd:decide (p∈l)=true:=by simpa using hmem
   rw [hd];clear hd hmem;refine zao (O.xc ..) (t:=true) rfl ?_;refine zae (O.xc ..) fun R2 hR2=>?_;refine O.seg0 C4 zbu (zab zaf (by kernel_rfl)) rfl (zaa Try.func73) rfl fun wp hp=>?_;replace hp:=yay hp
   go_wp2_with fail
   refine ⟨hp.out,?_⟩;clear hp  wp;obtain rfl:=hR2.out;clear hR2;refine zct (O.xc ..) ?_;refine za4 (O.xc ..) (zaa Try.func73) (C4.st O) ⟨rfl,rfl,rfl,_,Try.func73,results_tmp rfl _ _ _⟩ ?_;rw [hmc2.out];exact hret.out 7 (.inr (.inr rfl)) _ _ _ _ (C4.less L5)
  ·have hmc2:mc=zmu L p at_ (fun _=>zbp (zgl L s (l++[p]) fun t=>if t then κ 0 else rest)) m2:=by rw [← hmc.out];unfold zf0;rw [if_neg hmem]
   have hd:decide (p∈l)=false:=by simpa using hmem
   rw [hd];clear hd;replace hmem:=yay hmem;replace hmc2:=yay hmc2;refine zao (O.xc ..) (t:=false) rfl ?_;refine zbq (O.xc ..) ?_;obtain rfl:=hR0.out;clear hR0;refine zae (O.xc ..) fun R0 hR0=>?_;refine zbj (O.xc ..) 4 (by decide) (by decide) (zah (by kernel_rfl)) (C4.st O) fun wp hp=>?_;simp only [yad,yae];replace hp:=yay hp
   go_wp2_with fail
   refine zag hp.out (C4.st O).okd ?_;clear hp  wp;refine zav (O.xc ..) rfl rfl (by decide) rfl Try.func27 (by kernel_rfl) (by kernel_rfl) ?_;walk_nrm;rw [hmc2.out];clear hmc2 hmc;refine ztz O Pt hat (κ:=fun _=>zbp (zgl L s (l++[p]) fun t=>if t then κ 0 else rest)) (O.endUp (zaa Try.func73) rfl rfl (O.endMore hend L5)) (fun e he=>?_) _ _ _ _ C4;intro y5 own5 w5 m5 C5;rw [Frame.finish_at];walk_nrm;refine zad (O.xc ..) ?_;obtain rfl:=hR0.out;clear hR0;rw [zv1 _ rfl];refine zae (O.xc ..) fun R0 hR0=>?_;refine zun O Pt (κ:=fun t=>if t then κ 0 else rest) (s:=s) (N:=N) hp hm hmem.out hH4 e5 o5 C5 (O.endMore hend L5) rfl rfl rfl rfl (fun t z' hz h42=>?_);intro y6 own6 w6 m6 C6;have z0:=hz 0 (by decide);have z1:=hz 1 (by decide);have z2:=hz 2 (by decide);have z3:=hz 3 (by decide);have C6':=C6.less L5;clear hz C5 C4 hH4 hmem e5 o5;obtain rfl:=hR0.out;clear hR0;cases t with
   | true =>
    refine zao (O.xc ..) (t:=true) (by show z' 42=_;rw [h42]) ?_;have e:(if true=true then κ 0 else rest)=κ 0:=rfl;rw [e];clear e;generalize hmc:κ 0 m6=mc;replace hmc:=yay hmc;unfold A73;refine zae (O.xc ..) fun R2 hR2=>?_;refine O.seg0 C6' zbu (zab zaf (by kernel_rfl)) rfl (zaa Try.func73) rfl fun wp hp=>?_;replace hp:=yay hp
    go_wp2_with fail
    refine ⟨hp.out,?_⟩;clear hp  wp;obtain rfl:=hR2.out;clear hR2;refine zct (O.xc ..) ?_;refine za4 (O.xc ..) (zaa Try.func73) (C6'.st O) ⟨rfl,rfl,rfl,_,Try.func73,results_tmp rfl _ _ _⟩ ?_;obtain rfl:=hmc.out;exact hret.out 0 (.inl rfl) _ _ _ _ C6'
   | false =>
    refine zao (O.xc ..) (t:=false) (by show z' 42=_;rw [h42]) ?_;refine zbq (O.xc ..) ?_;refine zb3 (O.xc ..) ?_;refine zcu (O.xc ..) ?_;exact hrest.out z' y6 own6 w6 m6 C6' z0 z1 z2 z3
theorem zom (O:md.Ok) (Pt:Part md L (GateAt gb) gb TS2) {p at_:Int} (hp:0≤p∧p < 64) (hat:zd5 at_) {κ:Int→Fu (SM S)} (hend:md.End A w₀ c cs) (hret:∀ e,(e=0∨e=1∨e=7)→md.F (κ e) A w₀ (G (c.finish (.int .i64 e)) cs)) :
  ∀ f x y own w m,md.C y own A w₀ w m→x 0=gpv gb→x 1=md.sv→x 2 = .int .i64 p→x 3 = .int .i64 at_→md.GO y own w (ze1 L p at_ κ f m) (G ((base 73).at (A73 x) (.code (zh3 c73) :: .inLoop (zh3 c73) :: .inBlock 0::[])) (c::cs)) w
 | 0=>zly O Pt hp hat hend hret (rest:=zl4) (.inl rfl) fun h x y own w m _ _ _ _ _=>by have:=congrArg Prod.snd (congrFun h m);cases this
 | f+1=>zly O Pt hp hat hend hret (rest:=ze1 L p at_ κ f) (.inr rfl) fun _=>zom O Pt hp hat hend hret f
theorem zm7 (O:md.Ok) (Pt:Part md L (GateAt gb) gb TS2) {p at_:Int} (hat:zd5 at_) (f:Nat) {κ:Int→Fu (SM S)} (hend:md.End A w₀ c cs) (hret:∀ e,(e=0∨e=1∨e=7)→md.F (κ e) A w₀ (G (c.finish (.int .i64 e)) cs)) :
  md.F (zfc L f p at_ κ) A w₀ (G (Frame.enter Try.prog 73 #[gpv gb,md.sv,.int .i64 p,.int .i64 at_] .normal) (c::cs)):=by
 intro x own w m C;unfold gpv;rw [enter_at _ Try.func73 rfl];simp only [Try.ntmps73,yan,yau,yav,Nat.reduceAdd,Nat.reduceSub,yao,
   yap,yaq,yar,yas,yat]
 generalize hmc:zfc L f p at_ κ m=mc;replace hmc:=yay hmc;replace hret:=yay hret;refine zae (O.xc ..) fun R0 hR0=>?_;refine O.seg0 C zbu (zab zaf (by kernel_rfl)) rfl (zaa Try.func73) rfl fun wp hp=>?_;replace hp:=yay hp
 go_wp2_with fail
 refine ⟨hp.out,?_⟩;clear hp  wp;obtain rfl:=hR0.out;clear hR0;refine zae (O.xc ..) fun R0 hR0=>?_;refine zae (O.xc ..) fun R1 hR1=>?_;refine O.seg0 C zbu (zab zaf (by kernel_rfl)) rfl (zaa Try.func73) rfl fun wp hp=>?_;replace hp:=yay hp
 go_wp2_with (go_at_call 88;refine (zel (some ⟨gb,0,none⟩) p wp).mono ?_;rintro e w' ⟨rfl,rfl⟩)
 refine ⟨hp.out,?_⟩;clear hp  wp;obtain rfl:=hR1.out;clear hR1;refine zae (O.xc ..) fun R1 hR1=>?_;by_cases hb:p < 0∨64≤p
 ·have e1:znk (some ⟨gb,0,none⟩) p=1:=by unfold znk;rw [if_pos hb]
  have e2:zfc L f p at_ κ=κ 1:=by unfold zfc;rw [if_pos hb]
  rw [e1];obtain rfl:=hmc.out;rw [e2];clear e1 e2 hmc;replace hb:=yay hb;generalize hmc:κ 1 m=mc;replace hmc:=yay hmc;refine O.seg0 C zbu (zab zaf (by kernel_rfl)) rfl (zaa Try.func73) rfl fun wp hp=>?_;replace hp:=yay hp
  go_wp2_with fail
  refine ⟨hp.out,?_⟩;clear hp  wp;obtain rfl:=hR1.out;clear hR1;refine zao (O.xc ..) (t:=true) rfl ?_;refine zae (O.xc ..) fun R2 hR2=>?_;refine O.seg0 C zbu (zab zaf (by kernel_rfl)) rfl (zaa Try.func73) rfl fun wp hp=>?_;replace hp:=yay hp
  go_wp2_with fail
  refine ⟨hp.out,?_⟩;clear hp  wp;obtain rfl:=hR2.out;clear hR2;refine zct (O.xc ..) ?_;refine za4 (O.xc ..) (zaa Try.func73) (C.st O) ⟨rfl,rfl,rfl,_,Try.func73,results_tmp rfl _ _ _⟩ ?_;obtain rfl:=hmc.out;exact hret.out 1 (.inr (.inl rfl)) _ _ _ _ C
 ·have e1:znk (some ⟨gb,0,none⟩) p=0:=by unfold znk;rw [if_neg hb,if_neg (by simp)]
  have e2:zfc L f p at_ κ=ze1 L p at_ κ f:=by unfold zfc;rw [if_neg hb]
  rw [e1];obtain rfl:=hmc.out;rw [e2];clear e1 e2 hmc;replace hb:=yay hb;generalize hmc:ze1 L p at_ κ f m=mc;replace hmc:=yay hmc;refine O.seg0 C zbu (zab zaf (by kernel_rfl)) rfl (zaa Try.func73) rfl fun wp hp=>?_;replace hp:=yay hp
  go_wp2_with fail
  refine ⟨hp.out,?_⟩;clear hp  wp;obtain rfl:=hR1.out;clear hR1;refine zao (O.xc ..) (t:=false) rfl ?_;refine zbq (O.xc ..) ?_;obtain rfl:=hR0.out;clear hR0;refine zb1 (O.xc ..) ?_;refine zfm (O.xc ..) ?_;rw [zv1 _ rfl];obtain rfl:=hmc.out;exact zom O Pt (by have:=hb.out;omega) hat hend hret.out f _ _ _ _ _ C rfl rfl rfl rfl
end
theorem zwh (t ty:TypeId) (a:Addr) (n c:Nat) {z:Bool} {P:Program}:T z P (Builtin.clear_ #[t] ty #[.slice (some a) n c]):=by
 unfold Builtin.clear_;refine zai (zas _) fun d=>?_
 repeat' first
  | with_reducible exact zaj _
  | with_reducible exact zan _
  | with_reducible exact zcf _
  | with_reducible exact zco _ _ _
  | (with_reducible refine zai ?_ (fun _=>?_))
  | split
  | (intro _)
  | (dsimp only)
  | contradiction
section
variable {M:Type} [Priv M] {md:Md M} {x:md.β} {own own0:Nat→Owner} {A:Nat→Prop} {w₀:W0 M} {w w0:World} {m:M} {mc:M×Co M} {b:Frame} {a:Act} {k:List Item} {cs:List Frame} {ops:Array Oper} {i:Nat} {rest:List Nat} {o:Oper} {C':FuncId→Prop} {c:Frame}
theorem Md.Ok.opDT (O:md.Ok) (C:md.C x own A w₀ w m) (ho:ops[i]?=some o) (hw:Region.wanted o (yielded ops a.tmps)=true) (hk:b.kind ≠ .early) (ht:zdx true Try.prog (zo5 fun _=>False) (execOp a.eval o))
  (h:∀ wp,Sim wp (poi md.D w)→∃ v w',(execOp a.eval o).run Try.prog wp = .ok (.value v) w'∧∀ w1:World,(∀ b:Nat,md.D b=none→w1.heap[b]?=w'.heap[b]?)→(∀ b:Nat,w'.heap[b]?=wp.heap[b]?→w1.heap[b]?=w.heap[b]?)→w1.heap.size=w'.heap.size→md.GO x own0 w0 mc (G (b.at (a.put o.dst v) (.inRegion ops rest::k)) cs) w1) :
  md.GO x own0 w0 mc (G (b.at a (.inRegion ops (i::rest)::k)) cs) w:=by
 have S:=C.st O;refine (O.xc x own0 w0 mc).go rfl fun d=>?_;obtain ⟨v,w2,hr,hcont⟩:=h (poi md.D (w.at d)) ⟨w.tape,d,rfl⟩;have hO:Okd md.D (w.at d):=S.okd;have hf:zyf ((execOp a.eval o).runT Try.prog (poi md.D (w.at d)) #[]).1:=by rw [zaq,hr];trivial
 obtain ⟨r,es,hl⟩:=zch ht (w.at d) #[] hO hf;have hp:=congrArg Prod.fst hl.poi;rw [zaq,hr] at hp;cases r with
 | halt x w1=>cases hp
 | ok v' w1 =>
  simp only [poiR,Result.ok.injEq] at hp;obtain ⟨rfl,hp⟩:=hp;have hev:=za5 ht (w.at d) #[] (by simp);rw [hl.eq] at hev;have hp':Pres md.D (w.at d) w1:=hl.pres;have hrun:(execOp a.eval o).run Try.prog (w.at d) = .ok (.value v) w1:=by rw [← zaq (es:=#[]),hl.eq]
  have hls:listed Try.prog b.fn a o (w.at d)=seen Try.prog b.fn es:=by
   unfold listed;rw [show (execOp a.eval o).events Try.prog (w.at d) #[]=es from by have:=congrArg Prod.snd hl.eq;rwa [Sem.runT_eq] at this]
  rw [stepG_value ho hw hk hrun,hls];refine ⟨(S.at d).dx hp' (fun e he=>(hl.evs e (mem_seen he)).elim (fun q=>by simp at q) id) (fun e he=>hev e (mem_seen he)),?_⟩;have hh:∀ b,(w1.heap[b]?).map (zcv md.D b)=w2.heap[b]?:=fun b=>by
   rw [← zb2,← hp]
  refine hcont w1 (fun b hD=>?_) (fun b hb=>?_) ?_
  ·rw [← hh b];cases w1.heap[b]? with
   | none=>rfl
   | some o=>simp only [Option.map_some,zcv,hD]
  ·have h1:(w1.heap[b]?).map (zcv md.D b)=(w.heap[b]?).map (zcv md.D b):=by
    rw [hh b,hb];exact zb2 (w.at d) b
   cases hD:md.D b with
   | none =>
    have hid:∀ o,zcv md.D b o=o:=fun o=>by unfold zcv;rw [hD]
    cases x:w1.heap[b]?<;>cases y:w.heap[b]?<;>rw [x,y] at h1<;>simp_all
   | some r =>
    obtain ⟨c,t,q1⟩:=hp'.okd b r hD;obtain ⟨c',t',q2⟩:=S.okd b r hD;rw [q1,q2] at h1 ⊢;simp only [Option.map_some,Option.some.injEq,zcv,hD,Obj.cells.injEq] at h1;obtain ⟨rfl,rfl,_⟩:=h1;rfl
  ·have:(poi md.D w1).heap.size=w2.heap.size:=by rw [← hp]
   rwa [zap] at this
end
theorem zn9 {P:Program} {o:Oper} {a:Act} {w:World} (s:Operand) (t:TypeId) (hop:o.op=Op.call { callee:=Callee.builtin Builtin.clear,args:=#[s],argTypes:=#[t] })
  {v:Value} (hs:a.eval s=v) {v':Value} {w':World} (hr:(Builtin.clear_ #[t] o.type #[v]).run P w = .ok v' w'):(execOp a.eval o).run P w = .ok (.value v') w':=by
 unfold execOp;simp only [hop,resolve,invoke,builtin,Sem.run_bind,Sem.run_pure,Result.andThen_ok,List.map_toArray,List.map_cons,List.map_nil,hs,hr]
theorem zml {P:Program} {o:Oper} {a:Act} (s:Operand) (t:TypeId) (hop:o.op=Op.call { callee:=Callee.builtin Builtin.clear,args:=#[s],argTypes:=#[t] })
  {ad:Addr} {n c:Nat} (hs:a.eval s = .slice (some ad) n c):zdx true P (zo5 fun _=>False) (execOp a.eval o):=by
 unfold execOp;simp only [hop,resolve,invoke,List.map_toArray,List.map_cons,List.map_nil,hs];exact zds (zwh _ _ _ _ _)
theorem zero3g (w:World):(zeroValue 3).run Try.prog w = .ok (.int .i64 0) w:=by kernel_rfl
theorem zp5 (i:Nat):((i:Int)==(i:Int)+1)=false:=by
 have:(i:Int)≠(i:Int)+1:=by omega
 simpa using this
theorem zkh (l:List Int):(za8 l).length=l.length:=by simp [za8]
section
variable {M:Type} [Priv M] {md:Md M} {y:md.β} {own own0:Nat→Owner} {A:Nat→Prop} {w₀:W0 M} {w w0:World} {m:M} {mc:M×Co M} {c:Frame} {cs:List Frame}
theorem zve (O:md.Ok) (C:md.C y own A w₀ w m) {g cap:Nat} {cur:Array Value} {l:List Int} {i:Nat} (hi:i < l.length) (og:own g = .th md.i) (hA:¬ A g) (hg:w.heap[g]?=some (.cells cur 3 (0,0))) (hlc:l.length≤cap) (hcm:cap≤maxLen) (hcs:cur.size=cap) (htk:cur.toList.take l.length=za8 l)
  (hcont:∀ w1 cur1,md.C y own A w₀ w1 m→w1.heap.size=w.heap.size→(∀ b,b≠g→w1.heap[b]?=w.heap[b]?)→w1.heap[g]?=some (.cells cur1 3 (0,0))→cur1.size=cap→cur1.toList.take (l.length - 1)=za8 (l.eraseIdx i)→md.GO y own0 w0 mc (G (c.finish (.slice (some ⟨g,0,none⟩) (l.length - 1) cap)) cs) w1) :
  md.GO y own0 w0 mc (G (Frame.enter Try.prog 134 #[.slice (some ⟨g,0,none⟩) l.length cap,.int .i64 (i:Int),.int .i64 ((i:Int)+1)] .normal) (c::cs)) w:=by
 have hmx:cap≤9223372036854775807:=hcm;obtain ⟨n,hn⟩:∃ n,l.length=n+1:=⟨l.length - 1,by omega⟩;rw [hn] at hi hlc htk hcont ⊢;rw [Nat.add_sub_cancel] at hcont;have hic:i≤cap:=by omega
 have hi1:i+1≤n+1:=hi;have hi3:i≤n:=by omega
 have hi2:i+1≤cap:=by omega
 have hne:=zp5 i;have q0:(0:Int)≤(i:Int)+1:=by omega
 have q1:(i:Int)+1≤(n:Int)+1:=by omega
 have q2:((i:Int)+1).toNat=i+1:=by omega
 obtain ⟨Ad,hAd,hsrc⟩:∃ Ad:Addr,(if cap=i+1 then some (⟨g,0,none⟩:Addr) else some ⟨g,i+1,none⟩)=some Ad∧(i < n→Ad=⟨g,i+1,none⟩):=by
  by_cases h:cap=i+1
  ·exact ⟨⟨g,0,none⟩,by simp [h],fun z=>by omega⟩
  ·exact ⟨⟨g,i+1,none⟩,by simp [h],fun _=>rfl⟩
 rw [enter_at _ Try.func134 rfl];simp only [Try.ntmps134,yan,yau,yav,Nat.reduceAdd,Nat.reduceSub,yao,
   yap,yaq,yar,yas,yat]
 replace hcont:=yay hcont;refine zae (O.xc ..) fun R0 hR0=>?_;refine O.seg0 C zbu (zab zaf (by kernel_rfl)) rfl (zaa Try.func134) rfl fun wp hp=>?_;replace hp:=yay hp
 go_wp2_with fail
 refine ⟨hp.out,?_⟩;clear hp  wp;obtain rfl:=hR0.out;clear hR0;refine zae (O.xc ..) fun R0 hR0=>?_;refine O.seg0 C zbu (zab zaf (by kernel_rfl)) rfl (zaa Try.func134) rfl fun wp hp=>?_;replace hp:=yay hp
 go_wp2_with fail
 refine ⟨hp.out,?_⟩;clear hp  wp;obtain rfl:=hR0.out;clear hR0;refine zae (O.xc ..) fun R0 hR0=>?_;refine zae (O.xc ..) fun R1 hR1=>?_;refine O.seg0 C zbu (zab zaf (by kernel_rfl)) rfl (zaa Try.func134) rfl fun wp hp=>?_;replace hp:=yay hp
 go_wp2_with fail
 refine ⟨hp.out,?_⟩;clear hp  wp;obtain rfl:=hR1.out;clear hR1;refine zao (O.xc ..) (t:=false) rfl ?_;refine zbq (O.xc ..) ?_;obtain rfl:=hR0.out;clear hR0;refine zae (O.xc ..) fun R0 hR0=>?_;refine O.seg0 C zbu (zab zaf (by kernel_rfl)) rfl (zaa Try.func134) rfl fun wp hp=>?_;replace hp:=yay hp
 go_wp2_with fail
 refine ⟨hp.out,?_⟩;clear hp  wp;obtain rfl:=hR0.out;clear hR0;refine zae (O.xc ..) fun R0 hR0=>?_;refine x_drawT (O.xc ..) 6 [[6,7]] (by kernel_rfl) (by kernel_rfl) (by decide) (zah (by kernel_rfl)) (C.st O) fun wp hp=>?_;simp only [yad,yae];replace hp:=yay hp
 repeat still_step
 refine wpStill_nil ?_;intro r hr;obtain rfl:r=[6,7]:=by simpa using hr
 clear hr hp wp;obtain ⟨i0,hi0,hz0,hz1,hz2⟩:=info_parts zrf;have hdl:(za8 (l.drop (i+1))).length=n - i:=by rw [zkh,List.length_drop,hn];omega
 refine O.opD C rfl rfl (by decide) (zah (l:=[_]) (by kernel_rfl) _ (yaj.2 rfl)) fun wp hp=>?_;have gp:=(zbe hp (C.dm O (by rw [og];simp))).trans hg;have hr:=run_append_room (P:=Try.prog) wp 24 24 3 i0 Try.underlying24 hi0 g i cap cur gp Ad (n - i) (cap - (i+1)) (za8 (l.drop (i+1))) (by rw [hz1,Nat.mul_one];exact hdl) (fun j u hj=>by
  have hjl:j < n - i:=by rw [← hdl];exact (yai.1 hj).1
  rw [hsrc (by omega)];rw [Addr.add_lit];refine (zac gp (i+1+j)).trans ?_;have h1:(cur.toList.take (n+1))[i+1+j]?=some u:=by
   rw [htk];have:za8 (l.drop (i+1))=(za8 l).drop (i+1):=by simp [za8]
   rw [this,List.getElem?_drop] at hj;exact hj
  rw [List.getElem?_take] at h1;split at h1
  ·simpa using h1
  ·cases h1) (fun u hu=>by
  obtain ⟨x,_,rfl⟩:=List.mem_map.1 hu;rfl) (by omega) (by rw [hz1,Nat.mul_one,hdl];omega)
 rw [hz1,Nat.mul_one,hdl,show i+(n - i)=n by omega] at hr;obtain ⟨cur1,hcur1⟩:∃ cur1,cur1=(cur.toList.take i++za8 (l.drop (i+1))++cur.toList.drop n).toArray:=⟨_,rfl⟩;rw [← hcur1] at hr;have hs1:cur1.size=cap:=by rw [hcur1];simp [zkh,hcs,hn];omega
 have ht1:cur1.toList.take n=za8 (l.eraseIdx i):=by
  have e1:cur.toList.take i=za8 (l.take i):=by
   have:(cur.toList.take (n+1)).take i=(za8 l).take i:=by rw [htk]
   rw [List.take_take,Nat.min_eq_left (by omega)] at this;rw [this];simp [za8]
  have e2:(cur.toList.take i++za8 (l.drop (i+1))).length=n:=by rw [List.length_append,hdl,List.length_take,Nat.min_eq_left (by simp;omega)];omega
  rw [hcur1];simp only;rw [List.take_append_of_le_length (by omega),List.take_of_length_le (by omega),e1,List.eraseIdx_eq_take_drop_succ];simp [za8]
 refine ⟨_,_,zfb (.tmp 22) (.tmp 25) 24 24 rfl rfl rfl hr,fun w1 p1 p2 p3=>?_⟩;have g1:w1.heap[g]?=some (.cells cur1 3 (0,0)):=(p1 g (C.dm O (by rw [og];simp))).trans (setRow_heap wp g cur _ 3 _ gp);have o1:∀ b,b≠g→w1.heap[b]?=w.heap[b]?:=fun b hb=>p2 b (setRow_other wp g b _ hb);have s1:w1.heap.size=w.heap.size:=by rw [p3];simp [World.setRow];rw [hp.heap,zap]
 have C1:=(C.wrote O og hA s1 o1).1;clear hcur1 hr p1 p2 p3 gp hp wp;obtain ⟨dd,hdd⟩:∃ dd,cap - n=dd+1:=⟨cap - n - 1,by omega⟩;have k0:¬ cap=n:=by omega
 have k1:n≤cap:=by omega
 walk_nrm;refine zb9 (O.xc ..) 7 1 (by decide) (by decide) (zah (by kernel_rfl)) (C1.st O) fun wp hp=>?_;simp only [yaf,yag,yad,yae];replace hp:=yay hp
 go_wp2_with fail
 refine zag hp.out (C1.st O).okd ?_;clear hp  wp;refine zad (O.xc ..) ?_;obtain rfl:=hR0.out;clear hR0;refine zae (O.xc ..) fun R0 hR0=>?_;refine zbj (O.xc ..) 5 (by decide) (by decide) (zah (by kernel_rfl)) (C1.st O) fun wp hp=>?_;simp only [yad,yae];replace hp:=yay hp
 go_wp2_with fail
 refine zag hp.out (C1.st O).okd ?_;clear hp  wp;have hcl:∀ wp,Sim wp (poi md.D w1)→∀ ty,(Builtin.clear_ #[24] ty #[.slice (some ⟨g,n,none⟩) 1 (dd+1)]).run Try.prog wp = .ok (.tuple #[]) (wp.setCells g n (List.replicate 1 (.int .i64 0))):=fun wp hp ty=>by
  have gp:=(zbe hp (C1.dm O (by rw [og];simp))).trans g1;refine Lib.run_clear_slice wp 24 3 ty _ Try.underlying24 zero3g rfl rfl g n 1 (dd+1) (by decide) (fun j hj=>?_) fun j hj=>zat gp _;have:n+j < cur1.size:=by omega
  rw [zac gp,Array.getElem?_eq_getElem this];rfl
 refine O.opDT C1 rfl rfl (by decide) (zml (.tmp 31) 24 rfl rfl) fun wp hp=>⟨_,_,zn9 (.tmp 31) 24 rfl rfl (hcl wp hp _),fun w2 p1 p2 p3=>?_⟩;have gp:=(zbe hp (C1.dm O (by rw [og];simp))).trans g1;have g2:w2.heap[g]?=some (.cells (cur1.setIfInBounds n (.int .i64 0)) 3 (0,0)):=(p1 g (C1.dm O (by rw [og];simp))).trans (zau gp n _);have o2:∀ b,b≠g→w2.heap[b]?=w1.heap[b]?:=fun b hb=>p2 b (Below.heap_setCell _ _ _ _ hb);have s2:w2.heap.size=w1.heap.size:=by
  rw [p3];have:(wp.setCells g n (List.replicate 1 (.int .i64 0))).heap.size=wp.heap.size:=by simp [World.setCells,World.setCell]
  rw [this,hp.heap,zap]
 have C2:=(C1.wrote O og hA s2 o2).1;have hfin:=hcont.out w2 _ C2 (s2.trans s1) (fun b hb=>(o2 b hb).trans (o1 b hb)) g2 (by simpa using hs1) (by
  rw [← ht1,Array.toList_setIfInBounds,List.take_set_of_le (yax _)])
 replace hfin:=yay hfin;clear hcont C1 C o1 o2 s1 s2 g1 g2 gp p1 p2 p3 hp wp hcl hs1 ht1;walk_nrm;refine zad (O.xc ..) ?_;obtain rfl:=hR0.out;clear hR0;refine zae (O.xc ..) fun R0 hR0=>?_;refine O.seg0 C2 zbu (zab zaf (by kernel_rfl)) rfl (zaa Try.func134) rfl fun wp hp=>?_;replace hp:=yay hp
 go_wp2_with fail
 refine ⟨hp.out,?_⟩;clear hp  wp;obtain rfl:=hR0.out;clear hR0;refine zct (O.xc ..) ?_;refine za4 (O.xc ..) (zaa Try.func134) (C2.st O) ⟨rfl,rfl,rfl,_,Try.func134,results_tmp rfl _ _ _⟩ ?_;exact hfin.out
end
end Go.Proofs.Ytofacoojpgkbiaa
