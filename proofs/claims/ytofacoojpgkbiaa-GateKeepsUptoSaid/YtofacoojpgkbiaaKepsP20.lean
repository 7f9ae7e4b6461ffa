/-
  A part of a proof. No condition of its own.
-/
import Derived.Test.YtofacoojpgkbiaaKepsP19
set_option linter.unusedVariables false
set_option maxHeartbeats 8000000
set_option linter.unusedSimpArgs false
namespace Go.Proofs.Ytofacoojpgkbiaa
open Go.Conc Go.RowKit
open Go.ConcN (upd upd_ne upd_same)
set_option maxRecDepth 100000
noncomputable def zwa:Code:=(Try.f170.body).getD .skip
def zv9 (x:Nat→Value):Act:=⟨#[x 0,x 1,x 2,x 3,x 4,x 5,x 6,x 7,x 8,x 9,x 10,x 11,x 12,x 13,x 14,x 15,x 16,x 17,x 18,x 19,x 20,x 21,x 22,x 23,x 24,x 25,x 26,x 27,x 28,x 29,x 30,x 31,x 32],[]⟩
theorem zkw (l:Array Value) (hl:l.size=33):(⟨l,[]⟩:Act)=zv9 fun j=>l.getD j undef:=by
 have e:∀ x:Nat→Value,(zv9 x).tmps=((List.range 33).map x).toArray:=fun x=>rfl;have h1:l=(zv9 fun j=>l.getD j undef).tmps:=by
  rw [e];apply Array.ext_getElem?;intro i;by_cases h:i < 33
  ·have h':i < l.size:=by omega
   simp [h,h',List.getElem?_range]
  ·have h':¬ i < l.size:=by omega
   rw [Array.getElem?_eq_none (by omega),Array.getElem?_eq_none (by simp;omega)]
 exact congrArg (Act.mk · []) h1
def znf:Code→Code:=fun c=>cA (cA (cB c))
def inT:Code→Code:=fun c=>cA (cA (cB (cB (znf c))))
theorem info42z:(Try.prog.info? 42).map (fun i=>(i.zero,i.size,i.bytes))=some (some (.agg #[.bool false,.int .i64 0,.slice none 0 0]),3,40):=by kernel_rfl
theorem zdm {S:Type} {R:S→(Nat→Owner)→World→Prop} {Z:AL} {m:SM S} {own:Nat→Owner} {w wp:World} {D:Nat→Option (Nat×Nat)} (h:GRep R Z m own w) (hp:Sim wp (poi D w)) {b:Nat} {c:Array Value} {t:TypeId} {f:Nat×Nat} (hm:(b,.cells c t f)∈Z.stc) (i:Nat):wp.cell? ⟨b,i,none⟩=c[i]? :=
 (zar hp _).trans (zdw (h.stc _ hm).2)
theorem zq0 {x:Nat→Value} {v3 v4 v8:Value} {t:List Value} (h3:x 3=v3) (h4:x 4=v4) (h8:x 8=v8) (j:Nat) (hj:j < 22) :
  (([x 0,x 1,x 2,v3,v4,x 5,x 6,x 7,v8,x 9,x 10,x 11,x 12,x 13,x 14,x 15,x 16,x 17,x 18,x 19,x 20,x 21]++t).toArray).getD j undef=x j:=by
 subst h3 h4 h8;rcases j with _|_|_|_|_|_|_|_|_|_|_|_|_|_|_|_|_|_|_|_|_|_|j<;>first|rfl|omega
section
variable {S:Type} {R:S→(Nat→Owner)→World→Prop} {Z:AL} {md:Md (SM S)} {A:Nat→Prop} {w₀:W0 (SM S)} {cs:List Frame} {K:List Item} {y:md.β} {own:Nat→Owner} {w w1:World} {m:SM S}
def SM.tell (m:SM S) (i:Nat) (r:Ans):SM S:={ m with an:=upd m.an i (m.an i++[r]) }
theorem zni (O:md.Ok) (hmd:md.Rep=GRep R Z) (F:zk9 R) (C:md.C y own A w₀ w m) (hi:md.i < Z.n) {c:Array Value} {vs:Nat→List Value} (ha:AnsRep Z m.an c vs own w) {r:Ans} {u v':Value} (hL:LRow (.th md.i) Z.lo own w u r.l) (hu:∀ g,u.ownBlock=some g→¬ A g) (hs:w.heap.size≤w1.heap.size)
  (hv:w1.ownsRow Z.lo 42 3 v' ((m.an md.i).length+1) (zfl (m.an md.i++[r]) (vs md.i++[u]))) (hb:∀ g,v'.ownBlock=some g→(c.getD md.i undef).ownBlock=some g∨w.heap.size≤g) (har:w1.heap[Z.ar]?=some (.cells (c.setIfInBounds md.i v') 40 (0,0)))
  (hk:∀ b,b < w.heap.size→b≠Z.ar→(c.getD md.i undef).ownBlock≠some b→w1.heap[b]?=w.heap[b]?) :
  md.C y (zpa w.heap.size w1.heap.size u own) A ⟨w₀.heap,m.tell md.i r,w₀.own⟩ w1 (m.tell md.i r)∧OwnStep md.i own (zpa w.heap.size w1.heap.size u own) w.heap.size∧Frm md.i own w w1:=by
 have hR:GRep R Z m own w:=hmd▸C.rep;have old:∀ {b},own b ≠ .out→¬ (w.heap.size≤b∧b < w1.heap.size):=fun {b} hb=>by have:=C.lt hb;omega
 have same:∀ {b},own b ≠ .out→own b ≠ .th md.i→zpa w.heap.size w1.heap.size u own b=own b:=fun {b} h1 h2=>by
  unfold zpa;rw [if_neg (old h1),if_neg fun z=>h2 (hL.mine b z)]
 have hkn:∀ b,own b ≠ .out→own b ≠ .sh→w1.heap[b]?=w.heap[b]?:=fun b h1 h2=>hk b (C.lt h1) (fun z=>h2 (z▸ha.osh)) fun z=>h2 (ha.rsh md.i b hi z);have htag:∀ b v,own b = .tag v→zpa w.heap.size w1.heap.size u own b = .tag v∧w1.heap[b]?=w.heap[b]?:=fun b v hb=>⟨(same (by rw [hb];simp) (by rw [hb];simp)).trans hb,hkn b (by rw [hb];simp) (by rw [hb];simp)⟩;refine C.turn O (fun b=>?_) hs (fun b hb h1 h2=>hk b hb (fun z=>h2 (z▸ha.osh)) fun z=>h2 (ha.rsh md.i b hi z)) (fun b hb=>?_) ?_ (fun b hb=>?_) rfl fun b v hb=>?_
 ·unfold zpa;split
  ·rename_i h;exact .inr ⟨.inl h.1,.inr (.inl rfl)⟩
  ·split
   ·rename_i h;exact .inr ⟨.inr (.inl (hL.mine b h)),.inr (.inr ⟨_,rfl⟩)⟩
   ·exact .inl rfl
 ·have h1:=C.fresh b (by omega);unfold zpa;rw [if_neg (by omega),if_neg fun z=>by rw [hL.mine b z] at h1;cases h1];exact h1
 ·rw [hmd];refine ⟨F.keep hR.fam (fun b cc t f hb hh t1 t2=>⟨(same (by rw [hb];simp) (by rw [hb];simp)).trans hb,hk b (C.lt (by rw [hb];simp)) (fun z=>?_) fun z=>?_⟩) (fun b v _ hb=>htag b v hb) (fun b v hb=>?_),⟨_,_,ha.answered hi C.fresh hs hL hv hb har hk⟩,fun x hx=>⟨(htag _ _ (hR.stc x hx).1).1,(htag _ _ (hR.stc x hx).1).2.trans (hR.stc x hx).2⟩,hR.lo⟩
  ·rw [z,ha.ar] at hh;simp only [Option.some.injEq,Obj.cells.injEq] at hh;exact t1 hh.2.1.symm
  ·obtain ⟨cc',hcc⟩:=zak (ha.row md.i hi) z;rw [hcc] at hh;simp only [Option.some.injEq,Obj.cells.injEq] at hh;exact t2 hh.2.1.symm
  ·unfold zpa at hb;split at hb
   ·cases hb
   ·split at hb
    ·cases hb;exact .inr (yax _)
    ·exact .inl hb
 ·obtain ⟨q1,q2⟩:=C.mine b hb;have h1:own b ≠ .out:=by rw [q1];simp
  refine ⟨?_,(hkn b h1 (by rw [q1];simp)).trans q2⟩;unfold zpa;rw [if_neg (old h1),if_neg fun z=>hu b z hb];exact q1
 ·obtain ⟨q1,q2⟩:=C.tg b v hb;exact ⟨(htag b v q1).1,(htag b v q1).2.trans q2⟩
set_option maxRecDepth 100000 in
theorem zo3 (O:md.Ok) (hmd:md.Rep=GRep R Z) (F:zk9 R) (C:md.C y own A w₀ w m) (hi:md.i < Z.n) (hn:Z.n≤64) {ic ac B:Nat} (hic:(ic,.cells #[.int .i64 md.i] 3 (0,0))∈Z.stc) (hac:(ac,.cells #[.slice (some ⟨Z.ar,0,none⟩) Z.n Z.n] 29 (0,0))∈Z.stc) {r:Ans} {ua:Option Addr} {un uc:Nat}
  (hL:LRow (.th md.i) Z.lo own w (.slice ua un uc) r.l) (hu:∀ g,(Value.slice ua un uc).ownBlock=some g→¬ A g) (oB:own B = .th md.i) (eB:w.heap[B]?=some (.cells #[.bool r.ok,.int .i64 r.n,.slice ua un uc] 42 (0,0))) (hlen:(m.an md.i).length < 65536) {mc:SM S×Co (SM S)} {x:Nat→Value} (x3:x 3 = .pointer (some ⟨ic,0,none⟩)) (x4:x 4 = .pointer (some ⟨ac,0,none⟩)) (x8:x 8 = .pointer (some ⟨B,0,none⟩))
  (h:∀ own' w1 x',md.C y own' A ⟨w₀.heap,m.tell md.i r,w₀.own⟩ w1 (m.tell md.i r)→(∀ j,j < 22→x' j=x j)→md.GO y own' w1 mc (G ((base 170).at (zv9 x') K) cs) w1) :
  md.GO y own w mc (G ((base 170).at (zv9 x) (.code (cB (cB (cB (inT zwa))))::K)) cs) w:=by
 rw [show cB (cB (cB (inT zwa)))=Code.region _ _ _ from rfl]
 refine O.segA C zbu (zab zaf (by kernel_rfl)) rfl (zaa Try.func170) rfl fun wp hp=>?_;have hR:GRep R Z m own w:=hmd▸C.rep;obtain ⟨c,vs,ha⟩:=hR.ans;have oar:=ha.osh;have hc:=ha.ar;have hcs:=ha.size;have hDar:md.D Z.ar=none:=C.dm O (by rw [oar];simp);have hDB:md.D B=none:=C.dm O (by rw [oB];simp);have har:=(zbe hp hDar).trans hc;have hB:=(zbe hp hDB).trans eB;have hrow:=ha.row md.i hi;have hro:=fun g=>ha.rsh md.i g hi;obtain ⟨v,hv⟩:∃ v,c.getD md.i undef=v:=⟨_,rfl⟩;rw [hv] at hrow hro;have cv:wp.cell? ⟨Z.ar,md.i,none⟩=some v:=by
  rw [zac har md.i,← hv];have:md.i < c.size:=by omega
  simp [this]
 have fv:=zat har md.i;have hrowp:wp.ownsRow Z.lo 42 3 v (m.an md.i).length (zfl (m.an md.i) (vs md.i)):=zal hrow fun g ob hg hh=>by
  rw [zbe hp (C.dm O (by rw [hro g hg];simp))];exact hh
 have q0:(0:Int)≤(md.i:Nat):=by omega
 have q1:((md.i:Nat):Int) < (Z.n:Nat):=by omega
 have hca:=zdm hR hp hac 0;have hci:=zdm hR hp hic 0;simp only [yac,yaa] at hca hci;have cB0:=zac hB 0;have cB1:=zac hB 1;have cB2:=zac hB 2;simp only [yac,yaa,yab] at cB0 cB1 cB2;obtain ⟨i0,hi0,hz0,hz1,hz2⟩:=info_parts info42z;have hsrc:SrcN (wp.drew.alloc (.cells #[.bool r.ok,.int .i64 r.n,.slice ua un uc] 42)) (.slice (some ⟨wp.heap.size,0,none⟩) 1 1) 1 [.bool r.ok,.int .i64 r.n,.slice ua un uc]:=by
  refine ⟨rfl,fun u hu=>?_,.inr ⟨_,_,rfl,fun j u hj=>?_⟩⟩
  ·simp only [List.mem_cons,List.not_mem_nil,or_false] at hu;rcases hu with rfl|rfl|rfl<;>rfl
  ·have h2:(wp.drew.alloc (.cells #[.bool r.ok,.int .i64 r.n,.slice ua un uc] 42)).heap[wp.heap.size]?=some (.cells #[.bool r.ok,.int .i64 r.n,.slice ua un uc] 42 (0,0)):=heap_alloc_new wp.drew _;have:=zac h2 j;rcases j with _|_|_|j
   ·simp at hj;subst hj;simpa [Addr.add] using this
   ·simp at hj;subst hj;simpa [Addr.add] using this
   ·simp at hj;subst hj;simpa [Addr.add] using this
   ·simp at hj
 have hlo12:Z.lo≤(wp.drew.alloc (.cells #[.bool r.ok,.int .i64 r.n,.slice ua un uc] 42)).heap.size:=by
  have h1:=hR.size;have h3:wp.heap.size=w.heap.size:=by rw [hp.heap,zap]
  have h4:(wp.drew.alloc (.cells #[.bool r.ok,.int .i64 r.n,.slice ua un uc] 42)).heap.size=wp.heap.size+1:=by simp
  omega
 obtain ⟨v',w',hrun,hapd⟩:=zj6 (P:=Try.prog) (wp.drew.alloc (.cells #[.bool r.ok,.int .i64 r.n,.slice ua un uc] 42)) Z.lo 40 40 42 i0 _ 40 Try.underlying40 hi0 hz0 hz1 hz2 (by rfl) v (m.an md.i).length _ (hrowp.alloc (.cells #[.bool r.ok,.int .i64 r.n,.slice ua un uc] 42)) (.slice (some ⟨wp.heap.size,0,none⟩) 1 1) 1 [.bool r.ok,.int .i64 r.n,.slice ua un uc]
  hsrc (by unfold maxLen;omega) (by omega) hlo12
 have HRUN:Hid ((Builtin.append_ #[40,40] 40 #[v,.slice (some ⟨wp.heap.size,0,none⟩) 1 1]).run Try.prog (wp.drew.alloc (.cells #[.bool r.ok,.int .i64 r.n,.slice ua un uc] 42)) = .ok v' w'):=yay hrun;clear hrun;obtain ⟨hown',hg,hsh⟩:=hapd;have hsz:wp.heap.size=w.heap.size:=by rw [hp.heap,zap]
 have hgs:w.heap.size+1≤w'.heap.size:=by
  have:=hg.size;simp at this;omega
 have oldk:∀ b,b < w.heap.size→v.ownBlock≠some b→w'.heap[b]?=wp.heap[b]?:=fun b hb hne=>(hg.block b (by simp;omega) (fun q=>hne q.symm)).trans (Below.heap_alloc wp.drew _ b (by show b < wp.heap.size;omega));have lt:∀ {b:Nat},own b ≠ .out→b < w.heap.size:=fun hb=>C.lt hb;obtain ⟨oac,hacw⟩:=hR.stc _ hac;obtain ⟨oic,hicw⟩:=hR.stc _ hic;have pac:=(zbe hp (C.dm O (by rw [oac];simp))).trans hacw;have pic:=(zbe hp (C.dm O (by rw [oic];simp))).trans hicw;have nT:∀ {b:Nat} {cc:Array Value} {t:TypeId},wp.heap[b]?=some (.cells cc t (0,0))→t≠42→v.ownBlock≠some b:=fun e ht q=>by
  obtain ⟨c1,hc1⟩:=zak hrowp q;rw [e] at hc1;simp at hc1;exact ht hc1.2
 have nB:v.ownBlock≠some B:=fun q=>by have:=hro B q;rw [oB] at this;cases this
 have w1ac:=(oldk ac (lt (by rw [oac];simp)) (nT (t:=29) pac (by decide))).trans pac;have w1ic:=(oldk ic (lt (by rw [oic];simp)) (nT (t:=3) pic (by decide))).trans pic;have w1B:=(oldk B (lt (by rw [oB];simp)) nB).trans hB;have w1ar:=(oldk Z.ar (lt (by rw [oar];simp)) (nT (t:=40) har (by decide))).trans har;have nac:ac≠Z.ar:=fun z=>by rw [z,har] at pac;simp at pac
 have nic:ic≠Z.ar:=fun z=>by rw [z,har] at pic;simp at pic
 have nBr:B≠Z.ar:=fun z=>by rw [z,har] at hB;simp at hB
 have sS:∀ W:World,W.heap[ac]?=some (.cells #[.slice (some ⟨Z.ar,0,none⟩) Z.n Z.n] 29 (0,0))→W.heap[ic]?=some (.cells #[.int .i64 md.i] 3 (0,0))→W.heap[B]?=some (.cells #[.bool r.ok,.int .i64 r.n,.slice ua un uc] 42 (0,0)) →
   W.cell? ⟨ac,0,none⟩=some (.slice (some ⟨Z.ar,0,none⟩) Z.n Z.n)∧W.cell? ⟨ic,0,none⟩=some (.int .i64 md.i)∧W.cell? ⟨B,0,none⟩=some (.bool r.ok)∧W.cell? ⟨B,1,none⟩=some (.int .i64 r.n)∧W.cell? ⟨B,2,none⟩=some (.slice ua un uc) :=
  fun W z1 z2 z3=>⟨zac z1 0,zac z2 0,zac z3 0,zac z3 1,zac z3 2⟩
 have b0:=yay (sS wp.drew pac pic hB);have al:∀ {b:Nat} {ob:Obj},wp.heap[b]?=some ob→(wp.drew.alloc (.cells #[.bool r.ok,.int .i64 r.n,.slice ua un uc] 42)).heap[b]?=some ob:=fun {b ob} e=>(Below.heap_alloc wp.drew _ b (yah.1 e).1).trans e;have b1:=yay (sS (wp.drew.alloc (.cells #[.bool r.ok,.int .i64 r.n,.slice ua un uc] 42)) (al pac) (al pic) (al hB));have e0:=yay (sS w' w1ac w1ic w1B);have oth:∀ b,b≠Z.ar→(w'.setCell ⟨Z.ar,md.i,none⟩ v').heap[b]?=w'.heap[b]?:=fun b hb=>Below.heap_setCell _ _ _ _ hb;have e3:=yay (sS (w'.setCell ⟨Z.ar,md.i,none⟩ v') ((oth _ nac).trans w1ac) ((oth _ nic).trans w1ic) ((oth _ nBr).trans w1B));have f0:w'.cell? ⟨Z.ar,md.i,none⟩=some v:=by
  rw [zac w1ar md.i,← hv];have:md.i < c.size:=by omega
  simp [this]
 have f1:=zat w1ar md.i;have cv1:(wp.drew.alloc (.cells #[.bool r.ok,.int .i64 r.n,.slice ua un uc] 42)).cell? ⟨Z.ar,md.i,none⟩=some v:=by
  rw [zac (al har) md.i,← hv];have:md.i < c.size:=by omega
  simp [this]
 have cv2:(wp.alloc (.cells #[.bool r.ok,.int .i64 r.n,.slice ua un uc] 42)).drew.cell? ⟨Z.ar,md.i,none⟩=some v:=cv1;have cv0:wp.drew.cell? ⟨Z.ar,md.i,none⟩=some v:=cv;have fin:∀ w1:World,(∀ b:Nat,md.D b=none→w1.heap[b]?=(w'.setCell ⟨Z.ar,md.i,none⟩ v').heap[b]?)→(∀ b:Nat,(w'.setCell ⟨Z.ar,md.i,none⟩ v').heap[b]?=wp.heap[b]?→w1.heap[b]?=w.heap[b]?)→w1.heap.size=(w'.setCell ⟨Z.ar,md.i,none⟩ v').heap.size →
   ∀ x',(∀ j,j < 22→x' j=x j)→md.GO y own w mc (G ((base 170).at (zv9 x') K) cs) w1:=fun w1 g1 g2 g3 x' hx'=>by
  have hs1:w1.heap.size=w'.heap.size:=by rw [g3];simp [World.setCell]
  have hgb:∀ g,v'.ownBlock=some g→v.ownBlock=some g∨w.heap.size≤g:=fun g hg'=>by
   rcases hsh with ⟨z,_⟩|⟨gx,cap,z,_,q⟩
   ·rw [z] at hg';cases hg'
   ·rw [z] at hg';obtain rfl:gx=g:=by simpa [Value.ownBlock] using hg'
    rcases q with q|q
    ·exact .inl q
    ·have q2:wp.heap.size+1≤gx:=by simpa using q
     exact .inr (by omega)
  have hD':∀ g,v'.ownBlock=some g→md.D g=none:=fun g hg'=>by
   rcases hgb g hg' with q|q
   ·exact C.dm O (by rw [hro g q];simp)
   ·exact C.dn O q
  obtain ⟨C1,hO,hF⟩:=zni O hmd F C hi ha hL hu (w1:=w1) (v':=v') (by omega) (zal (w:=w') (by rw [zl2 (ha.len md.i hi)];exact hown') fun g ob hg' hh=>by
     have ng:g≠Z.ar:=fun z=>by
      obtain ⟨c1,hc1⟩:=zak hown' hg';rw [z,w1ar] at hc1;simp at hc1
     rw [g1 g (hD' g hg'),oth g ng];exact hh) (fun g hg'=>by rw [hv];exact hgb g hg') (by rw [g1 _ hDar];exact zau w1ar md.i v') (fun b hb h1 h2=>g2 b ((oth b h1).trans (oldk b hb (by rw [← hv];exact h2))))
  exact O.rebase hO hF (h _ w1 x' C1 hx')
 obtain ⟨g,cap,rfl⟩:∃ g cap,v' = .slice (some ⟨g,0,none⟩) ((m.an md.i).length+1) cap:=by
  rcases hsh with ⟨_,_,z,_⟩|⟨g,cap,e,_⟩
  ·cases z
  ·exact ⟨g,cap,e⟩
 replace fin:=yay fin;clear hsz hgs oldk lt hown' hg hsh w1ac w1ic w1B w1ar nT nB sS al pac pic hrowp hrow hro hsrc oth h har hB hc eB hlo12 ha hR hL hu;unfold zv9;simp only [x3,x4,x8];replace C:=yay C;replace hp:=yay hp;replace x3:=yay x3;replace x4:=yay x4;replace x8:=yay x8;generalize hmi:md.i=mi at *;replace hmi:=yay hmi
 go_wp2_with fail
 refine wp_region_held_drew (S:=fun w'=>w'.cell? ⟨ac,0,none⟩=some (.slice (some ⟨Z.ar,0,none⟩) Z.n Z.n)∧w'.cell? ⟨ic,0,none⟩=some (.int .i64 mi)∧w'.cell? ⟨B,0,none⟩=some (.bool r.ok)∧w'.cell? ⟨B,1,none⟩=some (.int .i64 r.n)∧w'.cell? ⟨B,2,none⟩=some (.slice ua un uc)) (by kernel_rfl) b0.out (fun hHeld=>?_);refine zd6 (i:=0) (v:=?v1) rfl (by kernel_rfl) (by kernel_rfl) (by kernel_rfl) (fun _ _ _ h=>absurd (And.left h) (fun e=>by cases e)) (by rfl) (by assumption) ?hy1 ?rest1
 case hy1=>(intro w hSw;(try dsimp only at hSw);first|(go_simp;done)|(go_simp;with_reducible rfl))
 try simp only [Act.put,yak,yal,yam]
 refine zd6 (i:=1) (v:=?v2) rfl (by kernel_rfl) (by kernel_rfl) (by kernel_rfl) (fun _ _ _ h=>absurd (And.left h) (fun e=>by cases e)) (by rfl) (by assumption) ?hy2 ?rest2
 case hy2=>(intro w hSw;(try dsimp only at hSw);first|(go_simp;done)|(go_simp;with_reducible rfl))
 try simp only [Act.put,yak,yal,yam]
 refine zd6 (i:=2) (v:=?v3) rfl (by kernel_rfl) (by kernel_rfl) (by kernel_rfl) (fun _ _ _ h=>absurd (And.left h) (fun e=>by cases e)) (by rfl) (by assumption) ?hy3 ?rest3
 case hy3=>(intro w hSw;(try dsimp only at hSw);first|(go_simp;done)|(go_simp;with_reducible rfl))
 try simp only [Act.put,yak,yal,yam]
 refine zd6 (i:=3) (v:=?v4) rfl (by kernel_rfl) (by kernel_rfl) (by kernel_rfl) (fun _ _ _ h=>absurd (And.left h) (fun e=>by cases e)) (by rfl) (by assumption) ?hy4 ?rest4
 case hy4=>(intro w hSw;(try dsimp only at hSw);first|(go_simp;done)|(go_simp;with_reducible rfl))
 try simp only [Act.put,yak,yal,yam]
 refine zd6 (i:=4) (v:=?v5) rfl (by kernel_rfl) (by kernel_rfl) (by kernel_rfl) (fun _ _ _ h=>absurd (And.left h) (fun e=>by cases e)) (by rfl) (by assumption) ?hy5 ?rest5
 case hy5=>(intro w hSw;(try dsimp only at hSw);first|(go_simp;done)|(go_simp;with_reducible rfl))
 try simp only [Act.put,yak,yal,yam]
 refine zd6 (i:=6) (v:=?v6) rfl (by kernel_rfl) (by kernel_rfl) (by kernel_rfl) (fun _ _ _ h=>absurd (And.left h) (fun e=>by cases e)) (by rfl) (by assumption) ?hy6 ?rest6
 case hy6=>(intro w hSw;(try dsimp only at hSw);first|(go_simp;done)|(go_simp;with_reducible rfl))
 try simp only [Act.put,yak,yal,yam]
 refine wpAnyH_ready (rs:=[5,7]) (by kernel_rfl) (by simp) (zdf rfl (fun K hK=>?_) (zdf rfl (fun K hK=>?_) AllReadyH.nil))
 ·rw [if_pos (by kernel_rfl)]
  go_simp
  refine hK.out _ _ hHeld (fun hHeld=>?_);clear hK K
  try simp only [Act.put,yak,yal,yam]
  refine wpAnyH_ready (rs:=[7]) (by kernel_rfl) (by simp) (zdf rfl (fun K hK=>?_) AllReadyH.nil)
  go_simp
  refine hK.out _ _ b1.out (fun hHeld=>?_);clear hK K
  try simp only [Act.put,yak,yal,yam]
  refine wpAnyH_ready (rs:=[8]) (by kernel_rfl) (by simp) (zdf rfl (fun K hK=>?_) AllReadyH.nil);refine zcc (by rfl) _ _ 40 40 (by rfl) v (.slice (some ⟨wp.heap.size,0,none⟩) 1 1) (by rfl) (by rfl) HRUN.out ?_;refine hK.out _ _ e0.out (fun hHeld=>?_);clear hK K
  try simp only [Act.put,yak,yal,yam]
  refine zd6 (i:=9) (v:=?v7) rfl (by kernel_rfl) (by kernel_rfl) (by kernel_rfl) (fun _ _ _ h=>absurd (And.left h) (fun e=>by cases e)) (by rfl) (by assumption) ?hy7 ?rest7
  case hy7=>(intro w hSw;(try dsimp only at hSw);first|(go_simp;done)|(go_simp;with_reducible rfl))
  try simp only [Act.put,yak,yal,yam]
  refine wpAnyH_ready (rs:=[10]) (by kernel_rfl) (by simp) (zdf rfl (fun K hK=>?_) AllReadyH.nil)
  go_simp
  refine hK.out _ _ e3.out (fun hHeld=>?_);clear hK K
  try simp only [Act.put,yak,yal,yam]
  refine wpAnyH_done (by kernel_rfl) ?_ _
  go_wp2_with fail
  intro w1 g1 g2 g3;rw [zkw _ rfl];refine fin.out w1 g1 g2 (g3.trans (by simp [World.setCell])) _ fun j hj=>?_;exact zq0 x3.out x4.out x8.out j hj
 ·go_simp
  refine hK.out _ _ b1.out (fun hHeld=>?_);clear hK K
  try simp only [Act.put,yak,yal,yam]
  refine wpAnyH_ready (rs:=[5]) (by kernel_rfl) (by simp) (zdf rfl (fun K hK=>?_) AllReadyH.nil);rw [if_pos (by kernel_rfl)]
  go_simp
  refine hK.out _ _ hHeld (fun hHeld=>?_);clear hK K
  try simp only [Act.put,yak,yal,yam]
  refine wpAnyH_ready (rs:=[8]) (by kernel_rfl) (by simp) (zdf rfl (fun K hK=>?_) AllReadyH.nil);refine zcc (by rfl) _ _ 40 40 (by rfl) v (.slice (some ⟨wp.heap.size,0,none⟩) 1 1) (by rfl) (by rfl) HRUN.out ?_;refine hK.out _ _ e0.out (fun hHeld=>?_);clear hK K
  try simp only [Act.put,yak,yal,yam]
  refine zd6 (i:=9) (v:=?v8) rfl (by kernel_rfl) (by kernel_rfl) (by kernel_rfl) (fun _ _ _ h=>absurd (And.left h) (fun e=>by cases e)) (by rfl) (by assumption) ?hy8 ?rest8
  case hy8=>(intro w hSw;(try dsimp only at hSw);first|(go_simp;done)|(go_simp;with_reducible rfl))
  try simp only [Act.put,yak,yal,yam]
  refine wpAnyH_ready (rs:=[10]) (by kernel_rfl) (by simp) (zdf rfl (fun K hK=>?_) AllReadyH.nil)
  go_simp
  refine hK.out _ _ e3.out (fun hHeld=>?_);clear hK K
  try simp only [Act.put,yak,yal,yam]
  refine wpAnyH_done (by kernel_rfl) ?_ _
  go_wp2_with fail
  intro w1 g1 g2 g3;rw [zkw _ rfl];refine fin.out w1 g1 g2 (g3.trans (by simp [World.setCell])) _ fun j hj=>?_;exact zq0 x3.out x4.out x8.out j hj
end
def zk0 {S:Type} (doφ:OpD→(Ans→Fu (SM S))→Fu (SM S)) (i:Nat):List OpD→Fu (SM S)
 | []=>zu7
 | o::l=>doφ o (fun r m=>zk0 doφ i l (m.tell i r))
structure TW (Z:AL) (fdo:FuncId) (recv:Value) (i:Nat) (L:List OpD) (oc dc ic ac:Nat) (ob:Option Addr) (ocap:Nat):Prop where
 oc:(oc,.cells #[.slice ob L.length ocap] 34 (0,0))∈Z.stc
 ob:L≠[]→∃ b off cells t fr,ob=some ⟨b,off,none⟩∧(b,.cells cells t fr)∈Z.stc∧∀ j o,L[j]?=some o→cells[off+j * 4]?=some (.int .i64 o.kind)∧cells[off+j * 4+1]?=some (.int .i64 o.a)∧cells[off+j * 4+2]?=some (.int .i64 o.b)∧cells[off+j * 4+3]?=some (.int .i64 o.c)
 dc:(dc,.cells #[.func (.func fdo) #[recv] #[]] 158 (0,0))∈Z.stc
 ic:(ic,.cells #[.int .i64 i] 3 (0,0))∈Z.stc
 ac:(ac,.cells #[.slice (some ⟨Z.ar,0,none⟩) Z.n Z.n] 29 (0,0))∈Z.stc
 len:L.length≤65536
 ok:∀ o∈L,o.Ok
structure X170 (sv:Value) (oc dc ic ac:Nat) (ob:Option Addr) (len ocap:Nat) (x:Nat→Value):Prop where
 x0:x 0=sv
 x2:x 2 = .pointer (some ⟨dc,0,none⟩)
 x3:x 3 = .pointer (some ⟨ic,0,none⟩)
 x4:x 4 = .pointer (some ⟨ac,0,none⟩)
 x9:x 9 = .slice ob len ocap
 x10:x 10 = .int .i64 len
theorem zuh (f:Fn) (a b:Array Value) (W:World):(binOp .neq 158 (.func f a b) .nilFunc).run Try.prog W = .ok (.bool true) W:=by
 have h:(Op.equalIn (9999+1) 158 (.func f a b) .nilFunc).run Try.prog W = .ok false W:=by
  unfold Op.equalIn;simp [run_underlying Try.underlying158]
 simp only [binOp];simp [Op.equal,Op.maxDepth,h]
section
variable {S:Type} {R:S→(Nat→Owner)→World→Prop} {Z:AL} {md:Md (SM S)} {A:Nat→Prop} {c:Frame} {cs:List Frame} {fdo:FuncId} {fnd:Func} {recv:Value} {doφ:OpD→(Ans→Fu (SM S))→Fu (SM S)}
theorem zsu (O:md.Ok) (hmd:md.Rep=GRep R Z) (F:zk9 R) (hi:md.i < Z.n) (hn:Z.n≤64) (hdo:DoOk md Z.lo fdo recv doφ) (hfd:Try.prog.funcs[fdo]?=some fnd) (hname:(fnd.name == "runtime.NumGoroutine")=false) (hbody:fnd.body.isNone=false)
  {L:List OpD} {oc dc ic ac:Nat} {ob:Option Addr} {ocap:Nat} (T:TW Z fdo recv md.i L oc dc ic ac ob ocap) {h₀:Array Obj} {o₀:Nat→Owner} (hret:∀ m',md.F zu7 A ⟨h₀,m',o₀⟩ (G (c.finish (.tuple #[])) cs)) (hend:∀ m',md.End A ⟨h₀,m',o₀⟩ c cs) :
  ∀ l j,L.drop j=l→j≤L.length→∀ x y own w m,md.C y own A ⟨h₀,m,o₀⟩ w m→(m.an md.i).length≤j→X170 md.sv oc dc ic ac ob L.length ocap x→x 11 = .int .i64 j →
   md.GO y own w (zk0 doφ md.i l m) (G ((base 170).at (zv9 x) (.code (znf zwa) :: .inLoop (znf zwa) :: .inBlock 0::[])) (c::cs)) w:=by
 intro l
 induction l with
 | nil =>
  intro j hl hj x y own w m C hlen hx h11;have hjl:j=L.length:=by
   have:=congrArg List.length hl;simp at this;omega
  subst hjl;have e1:¬ (L.length:Int) < (L.length:Int):=by omega
  refine za0 (O.xc ..) rfl fun R0 hR0=>?_;rw [show cA (znf zwa)=Code.region _ _ _ from rfl]
  unfold zv9;simp only [hx.x0,hx.x2,hx.x3,hx.x4,hx.x9,hx.x10,h11];refine O.seg0 C zbu (zab zaf (by kernel_rfl)) rfl (zaa Try.func170) rfl fun wp hp=>?_;replace hp:=yay hp
  go_wp2_with fail
  refine ⟨hp.out,?_⟩;clear hp  wp;obtain rfl:=hR0.out;clear hR0;refine za0 (O.xc ..) rfl fun R0 hR0=>?_;rw [show cA (cB (znf zwa))=Code.cond _ _ _ from rfl]
  refine zao (O.xc ..) (t:=false) rfl ?_;obtain rfl:=hR0.out;refine zgi (O.xc ..) rfl ?_;refine zk1 (O.xc ..) ?_;refine za4 (O.xc ..) (zaa Try.func170) (C.st O) ⟨rfl,rfl,rfl,_,Try.func170,results_none rfl _ _ _⟩ ?_;exact hret m _ _ _ _ C
 | cons o l ih =>
  intro j hl hj x y own w m C hlen hx h11;have hjl:j < L.length:=by
   rcases Nat.lt_or_ge j L.length with z|z
   ·exact z
   ·rw [List.drop_eq_nil_of_le z] at hl;cases hl
  have hLj:L[j]?=some o:=by
   have:=congrArg (·[0]?) hl
   simpa using this
  have hl':L.drop (j+1)=l:=by
   have:=congrArg List.tail hl
   simpa [List.tail_drop] using this
  have hok:=T.ok o (List.mem_of_getElem? hLj);obtain ⟨b,off,cells,t0,fr0,hob,hbst,hcell⟩:=T.ob (by intro z;rw [z] at hjl;simp at hjl);obtain ⟨k0,k1,k2,k3⟩:=hcell j o hLj;have hR:GRep R Z m own w:=hmd▸C.rep;generalize hmc:zk0 doφ md.i (o::l) m=mc;replace hmc:=yay hmc;replace ih:=yay ih;have e1:(j:Int) < (L.length:Int):=by omega
  have hlen2:=T.len;refine za0 (O.xc ..) rfl fun R0 hR0=>?_;rw [show cA (znf zwa)=Code.region _ _ _ from rfl]
  unfold zv9;simp only [hx.x0,hx.x2,hx.x3,hx.x4,hx.x9,hx.x10,h11];rw [hob];refine O.seg0 C zbu (zab zaf (by kernel_rfl)) rfl (zaa Try.func170) rfl fun wp hp=>?_;replace hp:=yay hp
  go_wp2_with fail
  refine ⟨hp.out,?_⟩;clear hp  wp;obtain rfl:=hR0.out;clear hR0;refine za0 (O.xc ..) rfl fun R0 hR0=>?_;rw [show cA (cB (znf zwa))=Code.cond _ _ _ from rfl]
  refine zao (O.xc ..) (t:=true) rfl ?_;refine zbq (O.xc ..) ?_;obtain rfl:=hR0.out;clear hR0;refine za0 (O.xc ..) rfl fun R0 hR0=>?_;rw [show cA (cB (cB (znf zwa)))=Code.block _ _ from rfl]
  refine zb1 (O.xc ..) ?_;refine zae (O.xc ..) fun R1 hR1=>?_;obtain ⟨N,hN⟩:∃ N,w.heap.size=N:=⟨_,rfl⟩;refine O.segA C zbu (zab zaf (by kernel_rfl)) rfl (zaa Try.func170) rfl fun wp hp=>?_;have f0:=(zdm hR hp hbst _).trans k0;have f1:=(zdm hR hp hbst _).trans k1;have f2:=(zdm hR hp hbst _).trans k2;have f3:=(zdm hR hp hbst _).trans k3;have hsz:wp.heap.size=N:=by rw [hp.heap,zap];exact hN
  have q0:(0:Int)≤(j:Nat):=by omega
  replace hsz:=yay hsz;replace hp:=yay hp;replace hN:=yay hN
  go_wp2_with fail
  rw [hsz.out];refine fun w1 p1 p2 p3=>O.one C hp.out rfl hN.out p1 p2 p3 fun own1 C1 e7 hs1 o1 L1 _=>?_;have hAN:∀ b,A b→b < N:=fun b hb=>by
   rw [← hN.out];exact C.lt (by rw [(C.mine b hb).1];simp)
  clear p1 p2 p3 hp hsz wp f0 f1 f2 f3 k0 k1 k2 k3 q0 e1 hN C hR;obtain rfl:=hR1.out;clear hR1;refine zae (O.xc ..) fun R1 hR1=>?_;refine O.segA C1 zbu (zab zaf (by kernel_rfl)) rfl (zaa Try.func170) rfl fun wp hp=>?_;have hsz:wp.heap.size=N+1:=by rw [hp.heap,zap];exact hs1
  replace hsz:=yay hsz;replace hp:=yay hp;replace hs1:=yay hs1;replace hAN:=yay hAN
  go_wp2_with fail
  rw [hsz.out];refine fun w2 p1 p2 p3=>O.one C1 hp.out rfl hs1.out p1 p2 p3 fun own2 C2 e8 hs2 o2 L2 hlow=>?_;replace e7:=(hlow N (by omega)).1.trans e7;replace o1:=(hlow N (by omega)).2.trans o1;have LL:=L1.trans L2;clear p1 p2 p3 hp hsz wp hlow C1 L1 L2 hs1 hs2;obtain rfl:=hR1.out;clear hR1;refine zae (O.xc ..) fun R1 hR1=>?_;refine zae (O.xc ..) fun R2 hR2=>?_;have hR:GRep R Z m own2 w2:=hmd▸C2.rep;have hneq:=zuh (.func fdo) #[recv] #[];refine zbj (O.xc ..) 2 (by decide) (by decide) (zah (by kernel_rfl)) (C2.st O) fun wp hp=>?_;simp only [yad,yae];have fd:=zdm hR hp T.dc 0;simp only [yac,yaa] at fd;replace hp:=yay hp
  go_wp2_with fail
  refine zag hp.out (C2.st O).okd ?_;clear hp fd hneq wp;refine zad (O.xc ..) ?_;obtain rfl:=hR2.out;clear hR2;refine zao (O.xc ..) (t:=true) rfl ?_;refine zbj (O.xc ..) 4 (by decide) (by decide) (zah (by kernel_rfl)) (C2.st O) fun wp hp=>?_;simp only [yad,yae];have fd:=zdm hR hp T.dc 0;have fi:=zdm hR hp T.ic 0;have f0:=(zar hp _).trans (zac e7 0);have f1:=(zar hp _).trans (zac e7 1);have f2:=(zar hp _).trans (zac e7 2);have f3:=(zar hp _).trans (zac e7 3);simp only [yac,yaa,yab] at fd fi f0 f1 f2 f3;replace hp:=yay hp
  go_wp2_with fail
  refine zag hp.out (C2.st O).okd ?_;clear hp fd fi f0 f1 f2 f3 wp;refine zmg (O.xc ..) rfl rfl (by decide) rfl rfl hfd hname hbody ?_;walk_nrm;obtain rfl:=hmc.out;clear hmc;refine hdo (th:=md.i) (A:=fun b=>own2 b = .th md.i) (w₀:=⟨w2.heap,m,own2⟩) (κ:=fun r m=>zk0 doφ md.i l (m.tell md.i r)) hok (O.endUp (zaa Try.func170) rfl rfl (O.endMore (hend m) LL)) (fun r v y3 own3 w3 m3 C3 hL hv=>?_) _ _ _ _ C2;rw [Frame.finish_at];walk_nrm;obtain ⟨oB,q2⟩:=C3.mine (N+1) o2;have e9:=q2.trans e8;have hD:md.D (N+1)=none:=C3.dm O (by rw [oB];simp);have hpv3:Hid (m3.an md.i=m.an md.i):=yay C3.pv;generalize hmc:zk0 doφ md.i l (m3.tell md.i r)=mc;replace hmc:=yay hmc;obtain ⟨ua,un,uc,rfl⟩:∃ ua un uc,v = .slice ua un uc:=by
   rcases hL.row.2 with ⟨e,_⟩|⟨g',cap,cur,e,_⟩<;>exact ⟨_,_,_,e⟩
  refine zb9 (O.xc ..) 5 1 (by decide) (by decide) (zah (by kernel_rfl)) (C3.st O) fun wp hp=>?_;simp only [yaf,yag,yad,yae];have hg:=(zbe hp hD).trans e9;have c0:=zac hg 0;have c1:=zac hg 1;have c2:=zac hg 2;have z0:=zat hg 0;have z1:=zat hg 1;have z2:=zat hg 2;simp only [yac,yaa,yab] at c0 c1 c2;replace hg:=yay hg;replace hp:=yay hp;unfold zql
  go_wp2_with fail
  refine ⟨⟨rfl,rfl⟩,zkz w3 (N+1) r (.slice ua un uc),rfl,zd2 (C3.st O).okd _ _ _,zd1 hp.out _ r _,?_⟩;clear hg hp c0 c1 c2 z0 z1 z2 wp;refine zad (O.xc ..) ?_;obtain rfl:=hR1.out;clear hR1;obtain rfl:=hR0.out;clear hR0;have C4:=C3.less LL;obtain ⟨C5,hF⟩:=C4.wrote (w1:=zkz w3 (N+1) r (.slice ua un uc)) O oB (fun h=>by have:=hAN.out _ h;omega) (zoc _ _ _ _) (fun b hb=>zjd hb r _);refine O.rebase .refl hF ?_;rw [zkw _ rfl];have hvA:∀ g,(Value.slice ua un uc).ownBlock=some g→¬ A g:=fun g hg h=>hv g hg (LL.own g h).1;have hL5:LRow (.th md.i) Z.lo own3 (zkz w3 (N+1) r (.slice ua un uc)) (.slice ua un uc) r.l:=hL.keep fun b hb ho=>⟨ho,zjd (fun z=>by rw [z] at hb;exact hv _ hb o2) r _⟩;refine zo3 O hmd F C5 hi hn T.ic T.ac hL5 hvA oB (zt5 e9 rfl r _) (by rw [hpv3.out];omega) rfl rfl rfl fun own4 w4 x' C6 hx'=>?_;have g0:x' 0=md.sv:=hx' 0 (by decide);have g2:x' 2 = .pointer (some ⟨dc,0,none⟩):=hx' 2 (by decide);have g3:x' 3 = .pointer (some ⟨ic,0,none⟩):=hx' 3 (by decide);have g4:x' 4 = .pointer (some ⟨ac,0,none⟩):=hx' 4 (by decide);have g9:x' 9 = .slice ob L.length ocap:=by rw [hob];exact hx' 9 (by decide)
  have g10:x' 10 = .int .i64 L.length:=hx' 10 (by decide);have g11:x' 11 = .int .i64 j:=hx' 11 (by decide);clear hx';have qq:IntKind.i64.wrap ((j:Int)+1)=((j+1:Nat):Int):=by rw [IntKind.wrap_i64];omega
  refine zb3 (O.xc ..) ?_;rw [show cB (cB (cB (znf zwa)))=Code.region _ _ _ from rfl]
  unfold zv9;simp only [g0,g2,g3,g4,g9,g10,g11];refine O.seg0 C6 zbu (zab zaf (by kernel_rfl)) rfl (zaa Try.func170) rfl fun wp hp=>?_;replace hp:=yay hp
  go_wp2_with fail
  refine ⟨hp.out,?_⟩;clear hp  wp;refine zcu (O.xc ..) ?_;rw [zkw _ rfl];obtain rfl:=hmc.out;refine ih.out (j+1) hl' (by omega) _ _ _ _ _ C6 ?_ ⟨rfl,rfl,rfl,rfl,by rw [hob];rfl,rfl⟩ rfl;show (upd m3.an md.i (m3.an md.i++[r]) md.i).length≤j+1;rw [upd_same,List.length_append,hpv3.out];simp;omega
end
section
variable {S:Type} {R:S→(Nat→Owner)→World→Prop} {Z:AL} {md:Md (SM S)} {A:Nat→Prop} {c:Frame} {cs:List Frame} {fdo:FuncId} {fnd:Func} {recv:Value} {doφ:OpD→(Ans→Fu (SM S))→Fu (SM S)}
theorem zvd (O:md.Ok) (hmd:md.Rep=GRep R Z) (F:zk9 R) (hi:md.i < Z.n) (hn:Z.n≤64) (hdo:DoOk md Z.lo fdo recv doφ) (hfd:Try.prog.funcs[fdo]?=some fnd) (hname:(fnd.name == "runtime.NumGoroutine")=false) (hbody:fnd.body.isNone=false)
  {L:List OpD} {oc dc ic ac:Nat} {ob:Option Addr} {ocap:Nat} (T:TW Z fdo recv md.i L oc dc ic ac ob ocap) {h₀:Array Obj} {o₀:Nat→Owner} {m₀:SM S} (h0:m₀.an md.i=[]) (hret:∀ m',md.F zu7 A ⟨h₀,m',o₀⟩ (G (c.finish (.tuple #[])) cs)) (hend:∀ m',md.End A ⟨h₀,m',o₀⟩ c cs) :
  md.F (zk0 doφ md.i L) A ⟨h₀,m₀,o₀⟩ (G (Frame.enter Try.prog 170 #[md.sv,.pointer (some ⟨oc,0,none⟩),.pointer (some ⟨dc,0,none⟩),.pointer (some ⟨ic,0,none⟩),.pointer (some ⟨ac,0,none⟩)] .normal) (c::cs)):=by
 intro y own w m C;rw [enter_at _ Try.func170 rfl];simp only [Try.ntmps170,yan,yau,yav,Nat.reduceAdd,Nat.reduceSub,yao,
   yap,yaq,yar,yas,yat]
 have hm:m.an md.i=[]:=C.pv.trans h0;have hR:GRep R Z m own w:=hmd▸C.rep;have C':md.C y own A ⟨h₀,m,o₀⟩ w m:=C.less ⟨fun b hb=>⟨hb,rfl⟩,C.pv.symm,fun b v h=>⟨h,rfl⟩⟩;generalize hmc:zk0 doφ md.i L m=mc;replace hmc:=yay hmc;replace hm:=yay hm;replace hret:=yay hret;refine zae (O.xc ..) fun R0 hR0=>?_;refine O.seg0 C zbu (zab zaf (by kernel_rfl)) rfl (zaa Try.func170) rfl fun wp hp=>?_;have fo:=zdm hR hp T.oc 0;simp only [yac,yaa] at fo;replace hp:=yay hp
 go_wp2_with fail
 refine ⟨hp.out,?_⟩;clear hp fo wp;obtain rfl:=hR0.out;clear hR0;refine zb1 (O.xc ..) ?_;refine zfm (O.xc ..) ?_;obtain rfl:=hmc.out;clear hmc;rw [zkw _ rfl];exact zsu O hmd F hi hn hdo hfd hname hbody T hret.out hend L 0 rfl (Nat.zero_le _) _ _ _ _ _ C' (by rw [hm.out];exact yax _) ⟨rfl,rfl,rfl,rfl,rfl,rfl⟩ rfl
theorem zry {U:Tun} {i:Nat} (F:zk9 R) (hi:i < Z.n) (hn:Z.n≤64) (hU:U.n≤64) (hdo:DoOk (zrz (GRep R Z) U i) Z.lo fdo recv doφ) (hfd:Try.prog.funcs[fdo]?=some fnd) (hname:(fnd.name == "runtime.NumGoroutine")=false) (hbody:fnd.body.isNone=false)
  {L:List OpD} {oc dc ic ac:Nat} {ob:Option Addr} {ocap:Nat} (T:TW Z fdo recv i L oc dc ic ac ob ocap) {h₀:Array Obj} {o₀:Nat→Owner} {m₀:SM S} (h0:m₀.an i=[]) :
  GOF (GRep R Z) Try.prog U i (zk0 doφ i L) (fun _=>False) ⟨h₀,m₀,o₀⟩ (born Try.prog (zl7 U.tu i (.func (.func 170) #[] #[.pointer (some ⟨oc,0,none⟩),.pointer (some ⟨dc,0,none⟩),.pointer (some ⟨ic,0,none⟩),.pointer (some ⟨ac,0,none⟩)]))) :=
 have hloc:zcy (GRep R Z):=GRep.local F
 run_cps hloc Try.func170 (by kernel_rfl) (by kernel_rfl) hU fun c cs A h₁ m₁ o₁ hp hret hend =>
  gof_md (zvd (md:=zrz (GRep R Z) U i) (zph hloc) rfl F hi hn hdo hfd hname hbody T ((show m₁.an i=m₀.an i from hp).trans h0) (fun m'=>md_gof hloc (hret m')) hend)
end
section
variable {S:Type} {i:Nat}
theorem zg4 {κ:Fu (SM S)} (h:zb5 i κ):zb5 i (zbp κ):=fun m=>⟨fun _ _=>rfl,fun m j hj=>(h m).1 j hj,fun m=>(h m).2⟩
theorem zye:zb5 (M:=SM S) i zl4:=fun m=>⟨fun _ _=>rfl,trivial⟩
theorem zio {κ:SM S→Fu (SM S)} {f:SM S→SM S} (hf:∀ m,(f m).an=m.an) (h:∀ x,zb5 i (κ x)):zb5 i fun m=>κ m (f m):=fun m =>
 ⟨fun j hj=>((h m (f m)).1 j hj).trans (show (f m).an j=m.an j by rw [hf]),(h m (f m)).2⟩
theorem zyc {doφ:OpD→(Ans→Fu (SM S))→Fu (SM S)} (h:∀ o κ,(∀ r,zb5 i (κ r))→zb5 i (doφ o κ)):∀ l,zb5 i (zk0 doφ i l)
 | []=>fun m=>⟨fun _ _=>rfl,trivial⟩
 | o::l=>h o _ fun r m=>by
  obtain ⟨h1,h2⟩:=zyc h l (m.tell i r);exact ⟨fun j hj=>(h1 j hj).trans (upd_ne _ _ hj),h2⟩
def FD {M:Type} (d:Nat) (φ:Fu M):Prop:=∀ m,Deep d (φ m).2
theorem zg6 {M:Type} {d:Nat} {φ:Fu M} (h:FD (d+1) φ):FD d φ:=fun m=>(h m).less
theorem zqb {M:Type} {d:Nat} {φ:Fu M} (h:FD d φ):FD (d+1) (zbp φ):=fun m m'=>h m'
theorem zhz {M:Type} {d:Nat} {φ:Fu M} (h:FD d φ):FD d (zbp φ):=zg6 (zqb h)
theorem fd_fin {M:Type} {d:Nat}:FD d (zu7 (M:=M)):=fun m=>by cases d<;>trivial
theorem znc {M:Type} {φ:Fu M}:FD 0 φ:=fun m=>Deep.zero _
theorem zyg {d:Nat} {doφ:OpD→(Ans→Fu (SM S))→Fu (SM S)} (h:∀ o κ,(∀ r,FD d (κ r))→FD d (doφ o κ)):∀ l,FD d (zk0 doφ i l)
 | []=>fd_fin
 | o::l=>h o _ fun r m=>zyg h l (m.tell i r)
end
section
variable {S:Type} {L:zgn S GateS} {i d f:Nat}
theorem zu4 {s:Nat} {l:List Int} {κ:Bool→Fu (SM S)} (h:∀ t,zb5 i (κ t)):zb5 i (zbp (zgl L s l κ)):=by
 refine zg4 fun m=>?_;unfold zgl;split
 ·exact ⟨fun j hj=>((h true _).1 j hj).trans rfl,(h true _).2⟩
 ·exact h false m
theorem zu2 {p a:Int} {κ:Int→Fu (SM S)} (h:∀ e,zb5 i (κ e)):zb5 i (zmu L p a κ):=by
 unfold zmu;split
 ·exact h 1
 ·exact zg4 (zio (κ:=fun _=>κ 0) (f:=fun m=>m.with (L.put ((L.get m.st).lay p a) m.st)) (fun _=>rfl) fun _=>h 0)
theorem zu3 {p:Int} {κ:Int→Int→Fu (SM S)} (h:∀ v e,zb5 i (κ v e)):zb5 i (znl L p κ):=by
 unfold znl;split
 ·exact h 0 1
 ·exact zg4 (zio (κ:=fun m=>κ ((L.get m.st).num p.toNat) 0) (f:=id) (fun _=>rfl) fun _=>h _ _)
theorem zkm {κ:Int→Int→Fu (SM S)} (h:∀ v e,zb5 i (κ v e)):∀ l n p,zb5 i (zbs L κ l n p)
 | [],n,p=>h n p
 | q::l,n,p=>zu3 fun v _=>by
  split
  ·exact zkm h l v q
  ·exact zkm h l n p
theorem zor {n:Int} {κ:Int→Int→Fu (SM S)} (h:∀ v e,zb5 i (κ v e)):zb5 i (zfi L n κ) :=
 zg4 (zio (κ:=fun m=>zbs L κ (L.get m.st).mem n (-1)) (f:=id) (fun _=>rfl) fun _=>zkm h _ _ _)
theorem zrj {p a:Int} {κ:Int→Fu (SM S)} (h:∀ e,zb5 i (κ e)):∀ f,zb5 i (ze1 L p a κ f)
 | 0=>zye
 | f+1=>zg4 (zio (κ:=fun m=>zf0 L p a κ (ze1 L p a κ f) (L.get m.st).ser (L.get m.st).mem) (f:=id) (fun _=>rfl) fun m=>by
  unfold zf0;split
  ·exact h 7
  ·refine zu2 fun _=>zu4 fun t=>?_;split
   ·exact h 0
   ·exact zrj h f)
theorem zoq {p:Int} {κ:Int→Fu (SM S)} (h:∀ e,zb5 i (κ e)):∀ f,zb5 i (zec L p κ f)
 | 0=>zye
 | f+1=>zg4 (zio (κ:=fun m=>zed L p κ (zec L p κ f) (L.get m.st).ser (L.get m.st).mem) (f:=id) (fun _=>rfl) fun m=>by
  unfold zed;split
  ·refine zu4 fun t=>?_;split
   ·exact h 0
   ·exact zoq h f
  ·exact h 6)
theorem zyd (o:OpD) (κ:Ans→Fu (SM S)) (h:∀ r,zb5 i (κ r)):zb5 i (doG L f o κ):=by
 unfold doG;split
 ·unfold zfc;split
  ·exact h _
  ·exact zrj (fun e=>h _) f
 split
 ·unfold zdv;split
  ·exact h _
  ·exact zoq (fun e=>h _) f
 split
 ·exact zu2 fun e=>h _
 split
 ·exact zu3 fun v e=>h _
 split
 ·exact zg4 (zio (κ:=fun m=>κ ⟨true,0,(L.get m.st).mem⟩) (f:=id) (fun _=>rfl) fun _=>h _)
 split
 ·exact zor fun n p=>h _
 split
 ·exact zor fun n p=>by split<;>exact h _
 ·exact h _
theorem zvb {s:Nat} {l:List Int} {κ:Bool→Fu (SM S)} (h:∀ t,FD d (κ t)):FD d (zbp (zgl L s l κ)):=by
 refine zhz fun m=>?_;unfold zgl;split
 ·exact h true _
 ·exact h false m
theorem zu9 {p a:Int} {κ:Int→Fu (SM S)} (h:∀ e,FD d (κ e)):FD d (zmu L p a κ):=by
 unfold zmu;split
 ·exact h 1
 ·exact zhz fun m=>h 0 _
theorem zva {p:Int} {κ:Int→Int→Fu (SM S)} (h:∀ v e,FD d (κ v e)):FD d (znl L p κ):=by
 unfold znl;split
 ·exact h 0 1
 ·exact zhz fun m=>h _ _ m
theorem zkq {κ:Int→Int→Fu (SM S)} (h:∀ v e,FD d (κ v e)):∀ l n p,FD d (zbs L κ l n p)
 | [],n,p=>h n p
 | q::l,n,p=>zva fun v _=>by
  split
  ·exact zkq h l v q
  ·exact zkq h l n p
theorem zou {n:Int} {κ:Int→Int→Fu (SM S)} (h:∀ v e,FD d (κ v e)):FD d (zfi L n κ):=zhz fun m=>zkq h _ _ _ m
theorem zrl {p a:Int} {κ:Int→Fu (SM S)}:∀ f d,d≤f→(∀ e,FD d (κ e))→FD d (ze1 L p a κ f)
 | 0,d,hd,h=>by
  obtain rfl:d=0:=by omega
  exact znc
 | f+1,0,hd,h=>znc
 | f+1,d+1,hd,h=>zqb fun m=>by
  unfold zf0;split
  ·exact zg6 (h 7) m
  ·refine zu9 (fun _=>zvb fun t=>?_) m;split
   ·exact zg6 (h 0)
   ·exact zrl f d (by omega) fun e=>zg6 (h e)
theorem zot {p:Int} {κ:Int→Fu (SM S)}:∀ f d,d≤f→(∀ e,FD d (κ e))→FD d (zec L p κ f)
 | 0,d,hd,h=>by
  obtain rfl:d=0:=by omega
  exact znc
 | f+1,0,hd,h=>znc
 | f+1,d+1,hd,h=>zqb fun m=>by
  unfold zed;split
  ·refine zvb (fun t=>?_) m;split
   ·exact zg6 (h 0)
   ·exact zot f d (by omega) fun e=>zg6 (h e)
  ·exact zg6 (h 6) m
theorem zyh (hd:d≤f) (o:OpD) (κ:Ans→Fu (SM S)) (h:∀ r,FD d (κ r)):FD d (doG L f o κ):=by
 unfold doG;split
 ·unfold zfc;split
  ·exact h _
  ·exact zrl f d hd (fun e=>h _)
 split
 ·unfold zdv;split
  ·exact h _
  ·exact zot f d hd (fun e=>h _)
 split
 ·exact zu9 fun e=>h _
 split
 ·exact zva fun v e=>h _
 split
 ·exact zhz fun m=>h _ m
 split
 ·exact zou fun n p=>h _
 split
 ·exact zou fun n p=>by split<;>exact h _
 ·exact h _
end
end Go.Proofs.Ytofacoojpgkbiaa
namespace Go.Proofs.Ytofacoojpgkbiaa
open Go.Conc Go.RowKit
set_option maxRecDepth 100000
def zer (dc ac:Nat) (oc ic:Nat→Nat) (j:Nat):Value := .func (.func 170) #[] #[.pointer (some ⟨oc j,0,none⟩),.pointer (some ⟨dc,0,none⟩),.pointer (some ⟨ic j,0,none⟩),.pointer (some ⟨ac,0,none⟩)]
structure DM (w0:World) (N dc ac ar n:Nat) (dv:Value) (S:Nat→Value) (k:Nat) (oc ic:Nat→Nat) (v:Value) (w:World):Prop where
 fdc:w.heap[dc]?=some (.cells #[dv] 158 (0,0))
 fac:w.heap[ac]?=some (.cells #[.slice (some ⟨ar,0,none⟩) n n] 29 (0,0))
 far:w.heap[ar]?=some (.cells (madeCells #[.slice none 0 0] n) 40 (0,0))
 foc:∀ j,j < k→N≤oc j∧w.heap[oc j]?=some (.cells #[S j] 34 (0,0))
 fic:∀ j,j < k→N≤ic j∧w.heap[ic j]?=some (.cells #[.int .i64 j] 3 (0,0))
 row:w.ownsRow N 168 1 v k ((List.range k).map (zer dc ac oc ic))
 low:∀ b,b < N→w.heap[b]?=w0.heap[b]?
 nd:N≤dc∧N≤ac∧N≤ar
 nw:N≤w.heap.size
 outs:w.os=w0.os∧w.output=w0.output
section
variable {w0 w w1:World} {N dc ac ar n:Nat} {dv:Value} {S:Nat→Value} {k:Nat} {oc ic:Nat→Nat} {v v':Value}
theorem DM.alloc (h:DM w0 N dc ac ar n dv S k oc ic v w) (o:Obj):DM w0 N dc ac ar n dv S k oc ic v (w.alloc o):=by
 have kp:∀ {b:Nat} {ob:Obj},w.heap[b]?=some ob→(w.alloc o).heap[b]?=some ob:=fun hb=>(Below.heap_alloc _ _ _ (yah.1 hb).1).trans hb;exact ⟨kp h.fdc,kp h.fac,kp h.far,fun j hj=>⟨(h.foc j hj).1,kp (h.foc j hj).2⟩,fun j hj=>⟨(h.fic j hj).1,kp (h.fic j hj).2⟩,h.row.alloc o,fun b hb=>(Below.heap_alloc _ _ _ (Nat.lt_of_lt_of_le hb h.nw)).trans (h.low b hb),h.nd,by have:=h.nw;simp;omega,h.outs⟩
theorem DM.more (h:DM w0 N dc ac ar n dv S k oc ic v w) {p q:Nat} (hp:N≤p∧w.heap[p]?=some (.cells #[.int .i64 k] 3 (0,0))) (hq:N≤q∧w.heap[q]?=some (.cells #[S k] 34 (0,0)))
  (hA:zeo (w.alloc (.cells #[zer dc ac (Go.ConcN.upd oc k q) (Go.ConcN.upd ic k p) k] 168)) N 168 v k 1 (((List.range k).map (zer dc ac oc ic))++[zer dc ac (Go.ConcN.upd oc k q) (Go.ConcN.upd ic k p) k]) v' w1) :
  (∃ g cap,v' = .slice (some ⟨g,0,none⟩) (k+1) cap)∧DM w0 N dc ac ar n dv S (k+1) (Go.ConcN.upd oc k q) (Go.ConcN.upd ic k p) v' w1:=by
 obtain ⟨ho,hg,hsh⟩:=hA;have h2:=h.alloc (.cells #[zer dc ac (Go.ConcN.upd oc k q) (Go.ConcN.upd ic k p) k] 168);have ka:∀ {b:Nat} {ob:Obj},w.heap[b]?=some ob→(w.alloc (.cells #[zer dc ac (Go.ConcN.upd oc k q) (Go.ConcN.upd ic k p) k] 168)).heap[b]?=some ob:=fun hb=>(Below.heap_alloc _ _ _ (yah.1 hb).1).trans hb;have keep:∀ {b:Nat} {c:Array Value} {t:Nat},w.heap[b]?=some (.cells c t (0,0))→t≠168→w1.heap[b]?=some (.cells c t (0,0)):=fun {b c t} hb ht=>by
  refine (hg.block b (yah.1 (ka hb)).1 fun z=>?_).trans (ka hb);obtain ⟨cc,hcc⟩:=zak h2.row z.symm;rw [ka hb] at hcc;simp at hcc;exact ht hcc.2
 refine ⟨?_,keep h.fdc (by decide),keep h.fac (by decide),keep h.far (by decide),fun j hj=>?_,fun j hj=>?_,?_,fun b hb=>?_,h.nd,by have:=hg.size;have:=h2.nw;omega,hg.os.trans h.outs.1,hg.output.trans h.outs.2⟩
 ·rcases hsh with ⟨_,_,z,_⟩|⟨g,cap,e,_⟩
  ·cases z
  ·exact ⟨g,cap,e⟩
 ·by_cases z:j=k
  ·subst z;rw [Go.ConcN.upd_same];exact ⟨hq.1,keep hq.2 (by decide)⟩
  ·rw [Go.ConcN.upd_ne _ _ z];exact ⟨(h.foc j (by omega)).1,keep (h.foc j (by omega)).2 (by decide)⟩
 ·by_cases z:j=k
  ·subst z;rw [Go.ConcN.upd_same];exact ⟨hp.1,keep hp.2 (by decide)⟩
  ·rw [Go.ConcN.upd_ne _ _ z];exact ⟨(h.fic j (by omega)).1,keep (h.fic j (by omega)).2 (by decide)⟩
 ·rw [List.range_succ,List.map_append];have e:(List.range k).map (zer dc ac (Go.ConcN.upd oc k q) (Go.ConcN.upd ic k p))=(List.range k).map (zer dc ac oc ic):=List.map_congr_left fun j hj=>by
   have:=List.mem_range.1 hj;unfold zer;rw [Go.ConcN.upd_ne _ _ (by omega),Go.ConcN.upd_ne _ _ (by omega)]
  rw [e];exact ho
 ·refine (hg.block b (Nat.lt_of_lt_of_le hb h2.nw) fun z=>?_).trans (h2.low b hb);have:=(h2.row.lt b z.symm).1;omega
end
end Go.Proofs.Ytofacoojpgkbiaa
