/-
  A part of a proof. No condition of its own.
-/
import Derived.Test.YtofacoojpgkbiaaCBxP17
set_option linter.unusedVariables false
set_option maxHeartbeats 8000000
set_option linter.unusedSimpArgs false
namespace Go.Proofs.Ytofacoojpgkbiaa
open Go.Conc Go.RowKit
set_option maxRecDepth 100000
def zea (dc ac:Nat) (oc ic:Nat→Nat) (j:Nat):Value := .func (.func 170) #[] #[.pointer (some ⟨oc j,0,none⟩),.pointer (some ⟨dc,0,none⟩),.pointer (some ⟨ic j,0,none⟩),.pointer (some ⟨ac,0,none⟩)]
structure DM (w0:World) (N dc ac ar n:Nat) (dv:Value) (S:Nat→Value) (k:Nat) (oc ic:Nat→Nat) (v:Value) (w:World):Prop where
 fdc:w.heap[dc]?=some (.cells #[dv] 158 (0,0))
 fac:w.heap[ac]?=some (.cells #[.slice (some ⟨ar,0,none⟩) n n] 29 (0,0))
 far:w.heap[ar]?=some (.cells (madeCells #[.slice none 0 0] n) 40 (0,0))
 foc:∀ j,j < k→N≤oc j∧w.heap[oc j]?=some (.cells #[S j] 34 (0,0))
 fic:∀ j,j < k→N≤ic j∧w.heap[ic j]?=some (.cells #[.int .i64 j] 3 (0,0))
 row:w.ownsRow N 168 1 v k ((List.range k).map (zea dc ac oc ic))
 low:∀ b,b < N→w.heap[b]?=w0.heap[b]?
 nd:N≤dc∧N≤ac∧N≤ar
 nw:N≤w.heap.size
 outs:w.os=w0.os∧w.output=w0.output
section
variable {w0 w w1:World} {N dc ac ar n:Nat} {dv:Value} {S:Nat→Value} {k:Nat} {oc ic:Nat→Nat} {v v':Value}
theorem DM.alloc (h:DM w0 N dc ac ar n dv S k oc ic v w) (o:Obj):DM w0 N dc ac ar n dv S k oc ic v (w.alloc o):=by
 have kp:∀ {b:Nat} {ob:Obj},w.heap[b]?=some ob→(w.alloc o).heap[b]?=some ob:=fun hb=>(Below.heap_alloc _ _ _ (yah.1 hb).1).trans hb;exact ⟨kp h.fdc,kp h.fac,kp h.far,fun j hj=>⟨(h.foc j hj).1,kp (h.foc j hj).2⟩,fun j hj=>⟨(h.fic j hj).1,kp (h.fic j hj).2⟩,h.row.alloc o,fun b hb=>(Below.heap_alloc _ _ _ (Nat.lt_of_lt_of_le hb h.nw)).trans (h.low b hb),h.nd,by have:=h.nw;simp;omega,h.outs⟩
theorem DM.more (h:DM w0 N dc ac ar n dv S k oc ic v w) {p q:Nat} (hp:N≤p∧w.heap[p]?=some (.cells #[.int .i64 k] 3 (0,0))) (hq:N≤q∧w.heap[q]?=some (.cells #[S k] 34 (0,0)))
  (hA:zdp (w.alloc (.cells #[zea dc ac (Go.ConcN.upd oc k q) (Go.ConcN.upd ic k p) k] 168)) N 168 v k 1 (((List.range k).map (zea dc ac oc ic))++[zea dc ac (Go.ConcN.upd oc k q) (Go.ConcN.upd ic k p) k]) v' w1) :
  (∃ g cap,v' = .slice (some ⟨g,0,none⟩) (k+1) cap)∧DM w0 N dc ac ar n dv S (k+1) (Go.ConcN.upd oc k q) (Go.ConcN.upd ic k p) v' w1:=by
 obtain ⟨ho,hg,hsh⟩:=hA;have h2:=h.alloc (.cells #[zea dc ac (Go.ConcN.upd oc k q) (Go.ConcN.upd ic k p) k] 168);have ka:∀ {b:Nat} {ob:Obj},w.heap[b]?=some ob→(w.alloc (.cells #[zea dc ac (Go.ConcN.upd oc k q) (Go.ConcN.upd ic k p) k] 168)).heap[b]?=some ob:=fun hb=>(Below.heap_alloc _ _ _ (yah.1 hb).1).trans hb;have keep:∀ {b:Nat} {c:Array Value} {t:Nat},w.heap[b]?=some (.cells c t (0,0))→t≠168→w1.heap[b]?=some (.cells c t (0,0)):=fun {b c t} hb ht=>by
  refine (hg.block b (yah.1 (ka hb)).1 fun z=>?_).trans (ka hb);obtain ⟨cc,hcc⟩:=za4 h2.row z.symm;rw [ka hb] at hcc;simp at hcc;exact ht hcc.2
 refine ⟨?_,keep h.fdc (by decide),keep h.fac (by decide),keep h.far (by decide),fun j hj=>?_,fun j hj=>?_,?_,fun b hb=>?_,h.nd,by have:=hg.size;have:=h2.nw;omega,hg.os.trans h.outs.1,hg.output.trans h.outs.2⟩
 ·rcases hsh with ⟨_,_,z,_⟩|⟨g,cap,e,_⟩
  ·cases z
  ·exact ⟨g,cap,e⟩
 ·by_cases z:j=k
  ·subst z;rw [Go.ConcN.upd_same];exact ⟨hq.1,keep hq.2 (by decide)⟩
  ·rw [Go.ConcN.upd_ne _ _ z];exact ⟨(h.foc j (by omega)).1,keep (h.foc j (by omega)).2 (by decide)⟩
 ·by_cases z:j=k
  ·subst z;rw [Go.ConcN.upd_same];exact ⟨hp.1,keep hp.2 (by decide)⟩
  ·rw [Go.ConcN.upd_ne _ _ z];exact ⟨(h.fic j (by omega)).1,keep (h.fic j (by omega)).2 (by decide)⟩
 ·rw [List.range_succ,List.map_append];have e:(List.range k).map (zea dc ac (Go.ConcN.upd oc k q) (Go.ConcN.upd ic k p))=(List.range k).map (zea dc ac oc ic):=List.map_congr_left fun j hj=>by
   have:=List.mem_range.1 hj;unfold zea;rw [Go.ConcN.upd_ne _ _ (by omega),Go.ConcN.upd_ne _ _ (by omega)]
  rw [e];exact ho
 ·refine (hg.block b (Nat.lt_of_lt_of_le hb h2.nw) fun z=>?_).trans (h2.low b hb);have:=(h2.row.lt b z.symm).1;omega
end
open Go.ConcN (upd upd_ne upd_same)
noncomputable def c96:Code:=(Try.f96.body).getD .skip
def A96 (x:Nat→Value):Act:=⟨#[x 0,x 1,x 2,x 3,x 4,x 5,x 6,x 7,x 8,x 9,x 10,x 11,x 12,x 13,x 14,x 15,x 16,x 17,x 18,x 19,x 20,x 21,x 22,x 23,x 24,x 25,x 26,x 27,x 28,x 29,x 30,x 31,x 32,x 33,x 34,x 35,x 36,x 37,x 38,x 39,x 40,x 41,x 42,x 43,x 44,x 45,x 46,x 47,x 48,x 49,x 50,x 51,x 52,x 53,x 54,x 55,x 56,x 57,x 58,x 59,x 60,x 61,x 62,x 63,x 64,x 65,x 66,x 67,x 68,x 69,x 70,x 71,x 72,x 73,x 74,x 75,x 76,x 77,x 78,x 79,x 80,x 81,x 82,x 83,x 84,x 85,x 86,x 87,x 88,x 89,x 90,x 91,x 92,x 93,x 94,x 95,x 96,x 97,x 98,x 99,x 100,x 101,x 102,x 103,x 104,x 105,x 106,x 107,x 108,x 109,x 110,x 111,x 112,x 113,x 114,x 115,x 116,x 117,x 118,x 119,x 120,x 121,x 122,x 123,x 124,x 125,x 126,x 127,x 128,x 129,x 130,x 131,x 132,x 133,x 134,x 135,x 136,x 137,x 138,x 139,x 140,x 141,x 142,x 143,x 144,x 145,x 146,x 147,x 148,x 149,x 150,x 151,x 152,x 153,x 154,x 155,x 156,x 157,x 158,x 159,x 160,x 161,x 162,x 163,x 164,x 165,x 166,x 167,x 168,x 169,x 170,x 171,x 172,x 173,x 174,x 175,x 176,x 177,x 178,x 179,x 180,x 181,x 182,x 183,x 184,x 185,x 186,x 187,x 188,x 189,x 190,x 191,x 192,x 193,x 194,x 195,x 196],[]⟩
theorem zck (l:Array Value) (hl:l.size=197):(⟨l,[]⟩:Act)=A96 fun j=>l.getD j undef:=by
 have e:∀ x:Nat→Value,(A96 x).tmps=((List.range 197).map x).toArray:=fun x=>rfl;have h1:l=(A96 fun j=>l.getD j undef).tmps:=by
  rw [e];apply Array.ext_getElem?;intro i;by_cases h:i < 197
  ·have h':i < l.size:=by omega
   simp [h,h',List.getElem?_range]
  ·have h':¬ i < l.size:=by omega
   rw [Array.getElem?_eq_none (by omega),Array.getElem?_eq_none (by simp;omega)]
 exact congrArg (Act.mk · []) h1
noncomputable def zb6:Nat→Code
 | 0=>cB (cA (cB (cA (cB (cB (cB (cB c96)))))))
 | k+1=>cB (cB (zb6 k))
noncomputable def zdx:Code:=cB (cB (cB (cB (cB c96))))
structure zno {S:Type} (md:Md (SM S)) (wb fb bb lo:Nat) (A:Nat→Prop) (w₀:W0 (SM S)) (c:Frame) (cs:List Frame) (κ:Ans→Fu (SM S)) (o:OpD) (y:md.β) (own1:Nat→Owner) (w1:World) (m:SM S) (N:Nat) (x:Nat→Value):Prop where
 ho:o.Ok
 hend:md.End A w₀ c cs
 hret:∀ r v y own w m,md.C y own A w₀ w m→LRow (.th md.i) lo own w v r.l→(∀ g,v.ownBlock=some g→¬ A g)→md.GO y own w (κ r m) (G (c.finish (zq1 r v)) cs) w
 C:md.C y own1 (fun b=>own1 b = .th md.i) ⟨w1.heap,m,own1⟩ w1 m
 LL:Less md.i A w₀ (fun b=>own1 b = .th md.i) ⟨w1.heap,m,own1⟩
 hA:∀ b,A b→b < N
 oN:own1 N = .th md.i
 eN:w1.heap[N]?=some (.cells #[.int .i64 o.kind,.int .i64 o.a,.int .i64 o.b,.int .i64 o.c] 45 (0,0))
 oB:own1 (N+1) = .th md.i
 eB:w1.heap[N+1]?=some (.cells #[.bool false,.int .i64 0,.slice none 0 0] 42 (0,0))
 oK:own1 (N+2) = .th md.i
 eK:w1.heap[N+2]?=some (.cells #[.bool true,.int .i64 0,.slice none 0 0] 42 (0,0))
 x1:x 1=md.sv
 x7:x 7 = .pointer (some ⟨N,0,none⟩)
 x8:x 8 = .pointer (some ⟨N+1,0,none⟩)
 x9:x 9=gpv wb
 x10:x 10=gpv fb
 x11:x 11=gpv bb
 x12:x 12 = .pointer (some ⟨N+2,0,none⟩)
section
variable {S:Type} {md:Md (SM S)} {LW:zcl S Int} {LF:zcl S Bool} {LB:zcl S BoxS} {ib wb fb bb lo:Nat} {TW TF:Nat→Prop} {A A1:Nat→Prop} {w₀ w₁:W0 (SM S)} {c:Frame} {cs:List Frame} {κ:Ans→Fu (SM S)} {o:OpD} {y:md.β} {own1:Nat→Owner} {w1:World} {m:SM S} {N:Nat} {x:Nat→Value} {R:List Item}
theorem zh9 {own:Nat→Owner} {w:World} (O:md.Ok) (C:md.C y own A1 w₁ w m) (LL:Less md.i A w₀ A1 w₁) (hA:∀ b,A b→b < N) (oB:own (N+1) = .th md.i) {cc:Array Value} (eB:w.heap[N+1]?=some (.cells cc 42 (0,0))) (hcc:cc.size=3) (r:Ans) (hr:r.l=[])
  (oK:own (N+2) = .th md.i) (eK:w.heap[N+2]?=some (.cells #[.bool r.ok,.int .i64 r.n,.slice none 0 0] 42 (0,0))) (x8:x 8 = .pointer (some ⟨N+1,0,none⟩)) (x12:x 12 = .pointer (some ⟨N+2,0,none⟩))
  (hret:∀ v y own w m,md.C y own A w₀ w m→LRow (.th md.i) lo own w v r.l→(∀ g,v.ownBlock=some g→¬ A g)→md.GO y own w (κ r m) (G (c.finish (zq1 r v)) cs) w) :
  md.GO y own w (κ r m) (G ((base 96).at (A96 x) [.code zdx]) (c::cs)) w:=by
 generalize hmc:κ r m=mc;replace hmc:=yay hmc;replace hret:=yay hret;replace hA:=yay hA;refine zas (c:=zdx) (O.xc ..) rfl fun R0 hR0=>?_;rw [show cA zdx=Code.region _ _ _ from rfl]
 unfold A96;simp only [x8,x12];refine zbc (O.xc ..) 2 (by decide) (by decide) (zai (by kernel_rfl)) (C.st O) fun wp hp=>?_;simp only [yad,yae];obtain ⟨u0,u1,u2,hcc3⟩:∃ a b c,cc=#[a,b,c]:=by
  rcases cc with ⟨l⟩
  match l,hcc with
  | [a,b,c],_=>exact ⟨a,b,c,rfl⟩
 subst hcc3;have hg:=(zbb hp (C.dm O (by rw [oB];simp))).trans eB;have hk:=(zbb hp (C.dm O (by rw [oK];simp))).trans eK;have k0:=zae hk 0;have k1:=zae hk 1;have k2:=zae hk 2;have c0:=zae hg 0;have c1:=zae hg 1;have c2:=zae hg 2;have z0:=zau hg 0;have z1:=zau hg 1;have z2:=zau hg 2;simp only [yac,yaa,yab] at c0 c1 c2 k0 k1 k2;replace hg:=yay hg;replace hk:=yay hk;replace hp:=yay hp;replace eK:=yay eK;replace eB:=yay eB
 go_wp2_with fail
 refine ⟨⟨rfl,rfl⟩,zmo _ (N+1) r (.slice none 0 0),rfl,zik (C.st O).okd _ _ _,zij hp.out _ r (.slice none 0 0),?_⟩;clear hg hk hp c0 c1 c2 z0 z1 z2 k0 k1 k2 wp;refine zad (O.xc ..) ?_;obtain rfl:=hR0.out;clear hR0;rw [show cB zdx=Code.ret from rfl]
 obtain rfl:=hmc.out;exact zov O C LL (fun h=>by have:=hA.out _ h;omega) oB eB.out rfl r (by rw [hr];exact LRow.nil) (fun g hg=>by cases hg) (hret.out _) Try.func96 (zaa Try.func96) rfl rfl
theorem zlq {own:Nat→Owner} {w:World} {ops:Array Oper} {n0:Int} (O:md.Ok) (C:md.C y own A w₀ w m) (nK:¬ A (N+2)) (hA:∀ b,A b→b < N) (oB:own (N+1) = .th md.i) (eB:w.heap[N+1]?=some (.cells #[.bool false,.int .i64 0,.slice none 0 0] 42 (0,0))) (r:Ans) (hr:r.l=[])
  (oK:own (N+2) = .th md.i) (eK:w.heap[N+2]?=some (.cells #[.bool r.ok,.int .i64 n0,.slice none 0 0] 42 (0,0))) (xa:x 8 = .pointer (some ⟨N+1,0,none⟩)) (xb:x 12 = .pointer (some ⟨N+2,0,none⟩))
  (hret:∀ v y own w m,md.C y own A w₀ w m→LRow (.th md.i) lo own w v r.l→(∀ g,v.ownBlock=some g→¬ A g)→md.GO y own w (κ r m) (G (c.finish (zq1 r v)) cs) w) :
  md.GO y own w (κ r m) (G ((base 96).at (A96 x) [.inRegion ops [],.inBlock 0,.code zdx]) (c::cs)) (w.setCell ⟨N+2,1,none⟩ (.int .i64 r.n)):=by
 refine zad (O.xc ..) ?_;refine zbh (O.xc ..) ?_;have hk:∀ b,b≠N+2→(w.setCell ⟨N+2,1,none⟩ (.int .i64 r.n)).heap[b]?=w.heap[b]?:=fun b hb=>Below.heap_setCell _ _ _ _ hb;obtain ⟨C3,F3⟩:=C.wrote (w1:=(w.setCell ⟨N+2,1,none⟩ (.int .i64 r.n))) O oK nK (by simp [World.setCell]) hk;exact O.rebase .refl F3 (zh9 O C3 .refl hA oB ((hk _ (by omega)).trans eB) rfl r hr oK (zaz eK 1 (.int .i64 r.n)) xa xb hret)
theorem zlr {own:Nat→Owner} {w:World} {ops:Array Oper} {b0:Bool} (O:md.Ok) (C:md.C y own A w₀ w m) (nK:¬ A (N+2)) (hA:∀ b,A b→b < N) (oB:own (N+1) = .th md.i) (eB:w.heap[N+1]?=some (.cells #[.bool false,.int .i64 0,.slice none 0 0] 42 (0,0))) (r:Ans) (hr:r.l=[])
  (oK:own (N+2) = .th md.i) (eK:w.heap[N+2]?=some (.cells #[.bool b0,.int .i64 r.n,.slice none 0 0] 42 (0,0))) (xa:x 8 = .pointer (some ⟨N+1,0,none⟩)) (xb:x 12 = .pointer (some ⟨N+2,0,none⟩))
  (hret:∀ v y own w m,md.C y own A w₀ w m→LRow (.th md.i) lo own w v r.l→(∀ g,v.ownBlock=some g→¬ A g)→md.GO y own w (κ r m) (G (c.finish (zq1 r v)) cs) w) :
  md.GO y own w (κ r m) (G ((base 96).at (A96 x) [.inRegion ops [],.inBlock 0,.code zdx]) (c::cs)) (w.setCell ⟨N+2,0,none⟩ (.bool r.ok)):=by
 refine zad (O.xc ..) ?_;refine zbh (O.xc ..) ?_;have hk:∀ b,b≠N+2→(w.setCell ⟨N+2,0,none⟩ (.bool r.ok)).heap[b]?=w.heap[b]?:=fun b hb=>Below.heap_setCell _ _ _ _ hb;obtain ⟨C3,F3⟩:=C.wrote (w1:=(w.setCell ⟨N+2,0,none⟩ (.bool r.ok))) O oK nK (by simp [World.setCell]) hk;exact O.rebase .refl F3 (zh9 O C3 .refl hA oB ((hk _ (by omega)).trans eB) rfl r hr oK (zaz eK 0 (.bool r.ok)) xa xb hret)
theorem zoq {own:Nat→Owner} {w:World} {ops:Array Oper} {n0:Int} {b0:Bool} (O:md.Ok) (C:md.C y own A w₀ w m) (nK:¬ A (N+2)) (hA:∀ b,A b→b < N) (oB:own (N+1) = .th md.i) (eB:w.heap[N+1]?=some (.cells #[.bool false,.int .i64 0,.slice none 0 0] 42 (0,0))) (r:Ans) (hr:r.l=[])
  (oK:own (N+2) = .th md.i) (eK:w.heap[N+2]?=some (.cells #[.bool b0,.int .i64 n0,.slice none 0 0] 42 (0,0))) (xa:x 8 = .pointer (some ⟨N+1,0,none⟩)) (xb:x 12 = .pointer (some ⟨N+2,0,none⟩))
  (hret:∀ v y own w m,md.C y own A w₀ w m→LRow (.th md.i) lo own w v r.l→(∀ g,v.ownBlock=some g→¬ A g)→md.GO y own w (κ r m) (G (c.finish (zq1 r v)) cs) w) :
  md.GO y own w (κ r m) (G ((base 96).at (A96 x) [.inRegion ops [],.inBlock 0,.code zdx]) (c::cs)) ((w.setCell ⟨N+2,1,none⟩ (.int .i64 r.n)).setCell ⟨N+2,0,none⟩ (.bool r.ok)):=by
 refine zad (O.xc ..) ?_;refine zbh (O.xc ..) ?_;have hk:∀ b,b≠N+2→((w.setCell ⟨N+2,1,none⟩ (.int .i64 r.n)).setCell ⟨N+2,0,none⟩ (.bool r.ok)).heap[b]?=w.heap[b]?:=fun b hb=>(Below.heap_setCell _ _ _ _ hb).trans (Below.heap_setCell _ _ _ _ hb);obtain ⟨C3,F3⟩:=C.wrote (w1:=((w.setCell ⟨N+2,1,none⟩ (.int .i64 r.n)).setCell ⟨N+2,0,none⟩ (.bool r.ok))) O oK nK (by simp [World.setCell]) hk;exact O.rebase .refl F3 (zh9 O C3 .refl hA oB ((hk _ (by omega)).trans eB) rfl r hr oK (zaz (zaz eK 1 (.int .i64 r.n)) 0 (.bool r.ok)) xa xb hret)
theorem dc_load (O:md.Ok) (Pt:Part md LW (WAt wb) wb TW) (I:zno md wb fb bb lo A w₀ c cs κ o y own1 w1 m N x) :
  md.GO y own1 w1 (zeb LW (fun r=>κ ⟨true,r,[]⟩) m) (G ((base 96).at (A96 x) (.code (cA (zb6 0)) :: .inBlock 0 :: .code zdx::[])) (c::cs)) w1:=by
 generalize hmc:zeb LW (fun r=>κ ⟨true,r,[]⟩) m=mc;replace hmc:=yay hmc;rw [show cA (zb6 0)=Code.region _ _ _ from rfl]
 unfold A96;simp only [I.x1,I.x7,I.x8,I.x9,I.x10,I.x11,I.x12];unfold gpv;refine zbc (O.xc ..) 2 (by decide) (by decide) (zai (by kernel_rfl)) (I.C.st O) fun wp hp=>?_;simp only [yad,yae];replace hp:=yay hp
 go_wp2_with fail
 refine zag hp.out (I.C.st O).okd ?_;clear hp  wp;refine zal (O.xc ..) rfl rfl (by decide) rfl Try.func46 (by kernel_rfl) (by kernel_rfl) ?_;walk_nrm;obtain rfl:=hmc.out;clear hmc;refine zgi O Pt (κ:=fun r=>κ ⟨true,r,[]⟩) (.inr rfl) (O.endUp (zaa Try.func96) rfl rfl (O.endMore I.hend I.LL)) (fun _ r hr=>?_) _ _ _ _ I.C;clear hr;intro y2 own2 w2 m2 C2;rw [Frame.finish_at];walk_nrm;obtain ⟨⟨oB1,eB1⟩,⟨oK1,eK1⟩,C2',nK⟩:=C2.two I.oB I.oK I.eB I.eK I.LL I.hA;generalize hmc:κ ⟨true,r,[]⟩ m2=mc;replace hmc:=yay hmc;refine zbs (O.xc ..) 3 2 (by decide) (by decide) (zai (by kernel_rfl)) (C2.st O) fun wp hp=>?_;simp only [yaf,yag,yad,yae];obtain ⟨k0,k1,z0,z1⟩:=C2.kf O hp oK1 eK1;replace hp:=yay hp;replace eK1:=yay eK1
 go_wp2_with fail
 refine ⟨⟨rfl,rfl⟩,w2.setCell ⟨N+2,1,none⟩ (.int .i64 r),rfl,zbz (C2.st O).okd _ _,za3 hp.out _ _,?_⟩;clear hp k0 k1 z0 z1 wp;obtain rfl:=hmc.out;rw [zck _ rfl];exact zlq O C2' nK I.hA oB1 eB1 ⟨true,r,[]⟩ rfl oK1 eK1.out rfl rfl (I.hret _)
theorem zvl (O:md.Ok) (Pt:Part md LW (WAt wb) wb TW) (I:zno md wb fb bb lo A w₀ c cs κ o y own1 w1 m N x) :
  md.GO y own1 w1 (zhg LW o.b (κ ⟨true,0,[]⟩) m) (G ((base 96).at (A96 x) (.code (cA (zb6 1)) :: .inBlock 0 :: .code zdx::[])) (c::cs)) w1:=by
 generalize hmc:zhg LW o.b (κ ⟨true,0,[]⟩) m=mc;replace hmc:=yay hmc;rw [show cA (zb6 1)=Code.region _ _ _ from rfl]
 unfold A96;simp only [I.x1,I.x7,I.x8,I.x9,I.x10,I.x11,I.x12];unfold gpv;refine zbc (O.xc ..) 4 (by decide) (by decide) (zai (by kernel_rfl)) (I.C.st O) fun wp hp=>?_;simp only [yad,yae];obtain ⟨f1,f2,f3⟩:=zls hp I.eN;replace hp:=yay hp
 go_wp2_with fail
 refine zag hp.out (I.C.st O).okd ?_;clear hp f1 f2 f3 wp;refine zal (O.xc ..) rfl rfl (by decide) rfl Try.func102 (by kernel_rfl) (by kernel_rfl) ?_;walk_nrm;obtain rfl:=hmc.out;clear hmc;refine zp3 O Pt (κ:=κ ⟨true,0,[]⟩) I.ho.b (O.endUp (zaa Try.func96) rfl rfl (O.endMore I.hend I.LL)) (?_) _ _ _ _ I.C;intro y2 own2 w2 m2 C2;rw [Frame.finish_at];walk_nrm;obtain ⟨⟨oB1,eB1⟩,⟨oK1,eK1⟩,C2',nK⟩:=C2.two I.oB I.oK I.eB I.eK I.LL I.hA;generalize hmc:κ ⟨true,0,[]⟩ m2=mc;replace hmc:=yay hmc;refine zad (O.xc ..) ?_;refine zbh (O.xc ..) ?_;rw [zck _ rfl];obtain rfl:=hmc.out;exact zh9 O C2' .refl I.hA oB1 eB1 rfl ⟨true,0,[]⟩ rfl oK1 eK1 rfl rfl (I.hret ⟨true,0,[]⟩)
theorem dc_add (O:md.Ok) (Pt:Part md LW (WAt wb) wb TW) (I:zno md wb fb bb lo A w₀ c cs κ o y own1 w1 m N x) :
  md.GO y own1 w1 (znr LW o.b (fun r=>κ ⟨true,r,[]⟩) m) (G ((base 96).at (A96 x) (.code (cA (zb6 2)) :: .inBlock 0 :: .code zdx::[])) (c::cs)) w1:=by
 generalize hmc:znr LW o.b (fun r=>κ ⟨true,r,[]⟩) m=mc;replace hmc:=yay hmc;rw [show cA (zb6 2)=Code.region _ _ _ from rfl]
 unfold A96;simp only [I.x1,I.x7,I.x8,I.x9,I.x10,I.x11,I.x12];unfold gpv;refine zbc (O.xc ..) 4 (by decide) (by decide) (zai (by kernel_rfl)) (I.C.st O) fun wp hp=>?_;simp only [yad,yae];obtain ⟨f1,f2,f3⟩:=zls hp I.eN;replace hp:=yay hp
 go_wp2_with fail
 refine zag hp.out (I.C.st O).okd ?_;clear hp f1 f2 f3 wp;refine zal (O.xc ..) rfl rfl (by decide) rfl Try.func47 (by kernel_rfl) (by kernel_rfl) ?_;walk_nrm;obtain rfl:=hmc.out;clear hmc;refine zo4 O Pt (κ:=fun r=>κ ⟨true,r,[]⟩) (O.endUp (zaa Try.func96) rfl rfl (O.endMore I.hend I.LL)) (fun r hr=>?_) _ _ _ _ I.C;clear hr;intro y2 own2 w2 m2 C2;rw [Frame.finish_at];walk_nrm;obtain ⟨⟨oB1,eB1⟩,⟨oK1,eK1⟩,C2',nK⟩:=C2.two I.oB I.oK I.eB I.eK I.LL I.hA;generalize hmc:κ ⟨true,r,[]⟩ m2=mc;replace hmc:=yay hmc;refine zbs (O.xc ..) 5 2 (by decide) (by decide) (zai (by kernel_rfl)) (C2.st O) fun wp hp=>?_;simp only [yaf,yag,yad,yae];obtain ⟨k0,k1,z0,z1⟩:=C2.kf O hp oK1 eK1;replace hp:=yay hp;replace eK1:=yay eK1
 go_wp2_with fail
 refine ⟨⟨rfl,rfl⟩,w2.setCell ⟨N+2,1,none⟩ (.int .i64 r),rfl,zbz (C2.st O).okd _ _,za3 hp.out _ _,?_⟩;clear hp k0 k1 z0 z1 wp;obtain rfl:=hmc.out;rw [zck _ rfl];exact zlq O C2' nK I.hA oB1 eB1 ⟨true,r,[]⟩ rfl oK1 eK1.out rfl rfl (I.hret _)
theorem dc_swap (O:md.Ok) (Pt:Part md LW (WAt wb) wb TW) (I:zno md wb fb bb lo A w₀ c cs κ o y own1 w1 m N x) :
  md.GO y own1 w1 (zj5 LW o.b (fun r=>κ ⟨true,r,[]⟩) m) (G ((base 96).at (A96 x) (.code (cA (zb6 3)) :: .inBlock 0 :: .code zdx::[])) (c::cs)) w1:=by
 generalize hmc:zj5 LW o.b (fun r=>κ ⟨true,r,[]⟩) m=mc;replace hmc:=yay hmc;rw [show cA (zb6 3)=Code.region _ _ _ from rfl]
 unfold A96;simp only [I.x1,I.x7,I.x8,I.x9,I.x10,I.x11,I.x12];unfold gpv;refine zbc (O.xc ..) 4 (by decide) (by decide) (zai (by kernel_rfl)) (I.C.st O) fun wp hp=>?_;simp only [yad,yae];obtain ⟨f1,f2,f3⟩:=zls hp I.eN;replace hp:=yay hp
 go_wp2_with fail
 refine zag hp.out (I.C.st O).okd ?_;clear hp f1 f2 f3 wp;refine zal (O.xc ..) rfl rfl (by decide) rfl Try.func48 (by kernel_rfl) (by kernel_rfl) ?_;walk_nrm;obtain rfl:=hmc.out;clear hmc;refine zq9 O Pt (κ:=fun r=>κ ⟨true,r,[]⟩) I.ho.b (O.endUp (zaa Try.func96) rfl rfl (O.endMore I.hend I.LL)) (fun r hr=>?_) _ _ _ _ I.C;clear hr;intro y2 own2 w2 m2 C2;rw [Frame.finish_at];walk_nrm;obtain ⟨⟨oB1,eB1⟩,⟨oK1,eK1⟩,C2',nK⟩:=C2.two I.oB I.oK I.eB I.eK I.LL I.hA;generalize hmc:κ ⟨true,r,[]⟩ m2=mc;replace hmc:=yay hmc;refine zbs (O.xc ..) 5 2 (by decide) (by decide) (zai (by kernel_rfl)) (C2.st O) fun wp hp=>?_;simp only [yaf,yag,yad,yae];obtain ⟨k0,k1,z0,z1⟩:=C2.kf O hp oK1 eK1;replace hp:=yay hp;replace eK1:=yay eK1
 go_wp2_with fail
 refine ⟨⟨rfl,rfl⟩,w2.setCell ⟨N+2,1,none⟩ (.int .i64 r),rfl,zbz (C2.st O).okd _ _,za3 hp.out _ _,?_⟩;clear hp k0 k1 z0 z1 wp;obtain rfl:=hmc.out;rw [zck _ rfl];exact zlq O C2' nK I.hA oB1 eB1 ⟨true,r,[]⟩ rfl oK1 eK1.out rfl rfl (I.hret _)
theorem dc_cas (O:md.Ok) (Pt:Part md LW (WAt wb) wb TW) (I:zno md wb fb bb lo A w₀ c cs κ o y own1 w1 m N x) :
  md.GO y own1 w1 (zhh LW o.b o.c (fun t=>κ ⟨t,0,[]⟩) m) (G ((base 96).at (A96 x) (.code (cA (zb6 4)) :: .inBlock 0 :: .code zdx::[])) (c::cs)) w1:=by
 generalize hmc:zhh LW o.b o.c (fun t=>κ ⟨t,0,[]⟩) m=mc;replace hmc:=yay hmc;rw [show cA (zb6 4)=Code.region _ _ _ from rfl]
 unfold A96;simp only [I.x1,I.x7,I.x8,I.x9,I.x10,I.x11,I.x12];unfold gpv;refine zbc (O.xc ..) 6 (by decide) (by decide) (zai (by kernel_rfl)) (I.C.st O) fun wp hp=>?_;simp only [yad,yae];obtain ⟨f1,f2,f3⟩:=zls hp I.eN;replace hp:=yay hp
 go_wp2_with fail
 refine zag hp.out (I.C.st O).okd ?_;clear hp f1 f2 f3 wp;refine zal (O.xc ..) rfl rfl (by decide) rfl Try.func49 (by kernel_rfl) (by kernel_rfl) ?_;walk_nrm;obtain rfl:=hmc.out;clear hmc;refine zgj O Pt (κ:=fun t=>κ ⟨t,0,[]⟩) I.ho.c (O.endUp (zaa Try.func96) rfl rfl (O.endMore I.hend I.LL)) (fun t=>?_) _ _ _ _ I.C;intro y2 own2 w2 m2 C2;rw [Frame.finish_at];walk_nrm;obtain ⟨⟨oB1,eB1⟩,⟨oK1,eK1⟩,C2',nK⟩:=C2.two I.oB I.oK I.eB I.eK I.LL I.hA;generalize hmc:κ ⟨t,0,[]⟩ m2=mc;replace hmc:=yay hmc;refine zbs (O.xc ..) 7 2 (by decide) (by decide) (zai (by kernel_rfl)) (C2.st O) fun wp hp=>?_;simp only [yaf,yag,yad,yae];obtain ⟨k0,k1,z0,z1⟩:=C2.kf O hp oK1 eK1;replace hp:=yay hp;replace eK1:=yay eK1
 go_wp2_with fail
 refine ⟨⟨rfl,rfl⟩,w2.setCell ⟨N+2,0,none⟩ (.bool t),rfl,zbz (C2.st O).okd _ _,za3 hp.out _ _,?_⟩;clear hp k0 k1 z0 z1 wp;obtain rfl:=hmc.out;rw [zck _ rfl];exact zlr O C2' nK I.hA oB1 eB1 ⟨t,0,[]⟩ rfl oK1 eK1.out rfl rfl (I.hret _)
theorem zor (O:md.Ok) (Pt:Part md LW (WAt wb) wb TW) (f:Nat) (I:zno md wb fb bb lo A w₀ c cs κ o y own1 w1 m N x) :
  md.GO y own1 w1 (zca LW (grT o.b) (fun r t=>κ ⟨t,r,[]⟩) f m) (G ((base 96).at (A96 x) (.code (cA (zb6 5)) :: .inBlock 0 :: .code zdx::[])) (c::cs)) w1:=by
 generalize hmc:zca LW (grT o.b) (fun r t=>κ ⟨t,r,[]⟩) f m=mc;replace hmc:=yay hmc;rw [show cA (zb6 5)=Code.region _ _ _ from rfl]
 unfold A96;simp only [I.x1,I.x7,I.x8,I.x9,I.x10,I.x11,I.x12];unfold gpv;refine zbc (O.xc ..) 4 (by decide) (by decide) (zai (by kernel_rfl)) (I.C.st O) fun wp hp=>?_;simp only [yad,yae];obtain ⟨f1,f2,f3⟩:=zls hp I.eN;replace hp:=yay hp
 go_wp2_with fail
 refine zag hp.out (I.C.st O).okd ?_;clear hp f1 f2 f3 wp;refine zal (O.xc ..) rfl rfl (by decide) rfl Try.func57 (by kernel_rfl) (by kernel_rfl) ?_;walk_nrm;obtain rfl:=hmc.out;clear hmc;refine zm2 O Pt (κ:=fun r t=>κ ⟨t,r,[]⟩) I.ho.b f (O.endUp (zaa Try.func96) rfl rfl (O.endMore I.hend I.LL)) (fun r t hr=>?_) _ _ _ _ I.C;clear hr;intro y2 own2 w2 m2 C2;rw [Frame.finish_at];walk_nrm;obtain ⟨⟨oB1,eB1⟩,⟨oK1,eK1⟩,C2',nK⟩:=C2.two I.oB I.oK I.eB I.eK I.LL I.hA;generalize hmc:κ ⟨t,r,[]⟩ m2=mc;replace hmc:=yay hmc;refine zbs (O.xc ..) 5 7 (by decide) (by decide) (zai (by kernel_rfl)) (C2.st O) fun wp hp=>?_;simp only [yaf,yag,yad,yae];obtain ⟨k0,k1,z0,z1⟩:=C2.kf O hp oK1 eK1;replace hp:=yay hp;replace eK1:=yay eK1
 go_wp2_with fail
 refine ⟨⟨rfl,rfl⟩,(w2.setCell ⟨N+2,1,none⟩ (.int .i64 r)).setCell ⟨N+2,0,none⟩ (.bool t),rfl,zbz (zbz (C2.st O).okd _ _) _ _,za3 (za3 hp.out _ _) _ _,?_⟩;clear hp k0 k1 z0 z1 wp;obtain rfl:=hmc.out;rw [zck _ rfl];exact zoq O C2' nK I.hA oB1 eB1 ⟨t,r,[]⟩ rfl oK1 eK1.out rfl rfl (I.hret _)
theorem zvm (O:md.Ok) (Pt:Part md LW (WAt wb) wb TW) (f:Nat) (I:zno md wb fb bb lo A w₀ c cs κ o y own1 w1 m N x) :
  md.GO y own1 w1 (zca LW (leT o.b) (fun r t=>κ ⟨t,r,[]⟩) f m) (G ((base 96).at (A96 x) (.code (cA (zb6 6)) :: .inBlock 0 :: .code zdx::[])) (c::cs)) w1:=by
 generalize hmc:zca LW (leT o.b) (fun r t=>κ ⟨t,r,[]⟩) f m=mc;replace hmc:=yay hmc;rw [show cA (zb6 6)=Code.region _ _ _ from rfl]
 unfold A96;simp only [I.x1,I.x7,I.x8,I.x9,I.x10,I.x11,I.x12];unfold gpv;refine zbc (O.xc ..) 4 (by decide) (by decide) (zai (by kernel_rfl)) (I.C.st O) fun wp hp=>?_;simp only [yad,yae];obtain ⟨f1,f2,f3⟩:=zls hp I.eN;replace hp:=yay hp
 go_wp2_with fail
 refine zag hp.out (I.C.st O).okd ?_;clear hp f1 f2 f3 wp;refine zal (O.xc ..) rfl rfl (by decide) rfl Try.func58 (by kernel_rfl) (by kernel_rfl) ?_;walk_nrm;obtain rfl:=hmc.out;clear hmc;refine zqn O Pt (κ:=fun r t=>κ ⟨t,r,[]⟩) I.ho.b f (O.endUp (zaa Try.func96) rfl rfl (O.endMore I.hend I.LL)) (fun r t hr=>?_) _ _ _ _ I.C;clear hr;intro y2 own2 w2 m2 C2;rw [Frame.finish_at];walk_nrm;obtain ⟨⟨oB1,eB1⟩,⟨oK1,eK1⟩,C2',nK⟩:=C2.two I.oB I.oK I.eB I.eK I.LL I.hA;generalize hmc:κ ⟨t,r,[]⟩ m2=mc;replace hmc:=yay hmc;refine zbs (O.xc ..) 5 7 (by decide) (by decide) (zai (by kernel_rfl)) (C2.st O) fun wp hp=>?_;simp only [yaf,yag,yad,yae];obtain ⟨k0,k1,z0,z1⟩:=C2.kf O hp oK1 eK1;replace hp:=yay hp;replace eK1:=yay eK1
 go_wp2_with fail
 refine ⟨⟨rfl,rfl⟩,(w2.setCell ⟨N+2,1,none⟩ (.int .i64 r)).setCell ⟨N+2,0,none⟩ (.bool t),rfl,zbz (zbz (C2.st O).okd _ _) _ _,za3 (za3 hp.out _ _) _ _,?_⟩;clear hp k0 k1 z0 z1 wp;obtain rfl:=hmc.out;rw [zck _ rfl];exact zoq O C2' nK I.hA oB1 eB1 ⟨t,r,[]⟩ rfl oK1 eK1.out rfl rfl (I.hret _)
theorem dc_bump (O:md.Ok) (Pt:Part md LW (WAt wb) wb TW) (f:Nat) (I:zno md wb fb bb lo A w₀ c cs κ o y own1 w1 m N x) :
  md.GO y own1 w1 (zca LW (buT o.b o.c) (fun r t=>κ ⟨t,r,[]⟩) f m) (G ((base 96).at (A96 x) (.code (cA (zb6 7)) :: .inBlock 0 :: .code zdx::[])) (c::cs)) w1:=by
 generalize hmc:zca LW (buT o.b o.c) (fun r t=>κ ⟨t,r,[]⟩) f m=mc;replace hmc:=yay hmc;rw [show cA (zb6 7)=Code.region _ _ _ from rfl]
 unfold A96;simp only [I.x1,I.x7,I.x8,I.x9,I.x10,I.x11,I.x12];unfold gpv;refine zbc (O.xc ..) 6 (by decide) (by decide) (zai (by kernel_rfl)) (I.C.st O) fun wp hp=>?_;simp only [yad,yae];obtain ⟨f1,f2,f3⟩:=zls hp I.eN;replace hp:=yay hp
 go_wp2_with fail
 refine zag hp.out (I.C.st O).okd ?_;clear hp f1 f2 f3 wp;refine zal (O.xc ..) rfl rfl (by decide) rfl Try.func59 (by kernel_rfl) (by kernel_rfl) ?_;walk_nrm;obtain rfl:=hmc.out;clear hmc;refine zvp O Pt (κ:=fun r t=>κ ⟨t,r,[]⟩) I.ho.b f (O.endUp (zaa Try.func96) rfl rfl (O.endMore I.hend I.LL)) (fun r t hr=>?_) _ _ _ _ I.C;clear hr;intro y2 own2 w2 m2 C2;rw [Frame.finish_at];walk_nrm;obtain ⟨⟨oB1,eB1⟩,⟨oK1,eK1⟩,C2',nK⟩:=C2.two I.oB I.oK I.eB I.eK I.LL I.hA;generalize hmc:κ ⟨t,r,[]⟩ m2=mc;replace hmc:=yay hmc;refine zbs (O.xc ..) 7 7 (by decide) (by decide) (zai (by kernel_rfl)) (C2.st O) fun wp hp=>?_;simp only [yaf,yag,yad,yae];obtain ⟨k0,k1,z0,z1⟩:=C2.kf O hp oK1 eK1;replace hp:=yay hp;replace eK1:=yay eK1
 go_wp2_with fail
 refine ⟨⟨rfl,rfl⟩,(w2.setCell ⟨N+2,1,none⟩ (.int .i64 r)).setCell ⟨N+2,0,none⟩ (.bool t),rfl,zbz (zbz (C2.st O).okd _ _) _ _,za3 (za3 hp.out _ _) _ _,?_⟩;clear hp k0 k1 z0 z1 wp;obtain rfl:=hmc.out;rw [zck _ rfl];exact zoq O C2' nK I.hA oB1 eB1 ⟨t,r,[]⟩ rfl oK1 eK1.out rfl rfl (I.hret _)
theorem zvn (O:md.Ok) (Pt:Part md LF (FAt fb) fb TF) (I:zno md wb fb bb lo A w₀ c cs κ o y own1 w1 m N x) :
  md.GO y own1 w1 (zkk LF (fun t=>κ ⟨t,0,[]⟩) m) (G ((base 96).at (A96 x) (.code (cA (zb6 8)) :: .inBlock 0 :: .code zdx::[])) (c::cs)) w1:=by
 generalize hmc:zkk LF (fun t=>κ ⟨t,0,[]⟩) m=mc;replace hmc:=yay hmc;rw [show cA (zb6 8)=Code.region _ _ _ from rfl]
 unfold A96;simp only [I.x1,I.x7,I.x8,I.x9,I.x10,I.x11,I.x12];unfold gpv;refine zbc (O.xc ..) 2 (by decide) (by decide) (zai (by kernel_rfl)) (I.C.st O) fun wp hp=>?_;simp only [yad,yae];replace hp:=yay hp
 go_wp2_with fail
 refine zag hp.out (I.C.st O).okd ?_;clear hp  wp;refine zal (O.xc ..) rfl rfl (by decide) rfl Try.func50 (by kernel_rfl) (by kernel_rfl) ?_;walk_nrm;obtain rfl:=hmc.out;clear hmc;refine zs2 O Pt (κ:=fun t=>κ ⟨t,0,[]⟩) (O.endUp (zaa Try.func96) rfl rfl (O.endMore I.hend I.LL)) (fun t=>?_) _ _ _ _ I.C;intro y2 own2 w2 m2 C2;rw [Frame.finish_at];walk_nrm;obtain ⟨⟨oB1,eB1⟩,⟨oK1,eK1⟩,C2',nK⟩:=C2.two I.oB I.oK I.eB I.eK I.LL I.hA;generalize hmc:κ ⟨t,0,[]⟩ m2=mc;replace hmc:=yay hmc;refine zbs (O.xc ..) 3 2 (by decide) (by decide) (zai (by kernel_rfl)) (C2.st O) fun wp hp=>?_;simp only [yaf,yag,yad,yae];obtain ⟨k0,k1,z0,z1⟩:=C2.kf O hp oK1 eK1;replace hp:=yay hp;replace eK1:=yay eK1
 go_wp2_with fail
 refine ⟨⟨rfl,rfl⟩,w2.setCell ⟨N+2,0,none⟩ (.bool t),rfl,zbz (C2.st O).okd _ _,za3 hp.out _ _,?_⟩;clear hp k0 k1 z0 z1 wp;obtain rfl:=hmc.out;rw [zck _ rfl];exact zlr O C2' nK I.hA oB1 eB1 ⟨t,0,[]⟩ rfl oK1 eK1.out rfl rfl (I.hret _)
theorem dc_fset (O:md.Ok) (Pt:Part md LF (FAt fb) fb TF) (I:zno md wb fb bb lo A w₀ c cs κ o y own1 w1 m N x) :
  md.GO y own1 w1 (zqp LF (fun t=>κ ⟨t,0,[]⟩) m) (G ((base 96).at (A96 x) (.code (cA (zb6 9)) :: .inBlock 0 :: .code zdx::[])) (c::cs)) w1:=by
 generalize hmc:zqp LF (fun t=>κ ⟨t,0,[]⟩) m=mc;replace hmc:=yay hmc;rw [show cA (zb6 9)=Code.region _ _ _ from rfl]
 unfold A96;simp only [I.x1,I.x7,I.x8,I.x9,I.x10,I.x11,I.x12];unfold gpv;refine zbc (O.xc ..) 2 (by decide) (by decide) (zai (by kernel_rfl)) (I.C.st O) fun wp hp=>?_;simp only [yad,yae];replace hp:=yay hp
 go_wp2_with fail
 refine zag hp.out (I.C.st O).okd ?_;clear hp  wp;refine zal (O.xc ..) rfl rfl (by decide) rfl Try.func51 (by kernel_rfl) (by kernel_rfl) ?_;walk_nrm;obtain rfl:=hmc.out;clear hmc;refine zu9 O Pt (κ:=fun t=>κ ⟨t,0,[]⟩) (O.endUp (zaa Try.func96) rfl rfl (O.endMore I.hend I.LL)) (fun t=>?_) _ _ _ _ I.C;intro y2 own2 w2 m2 C2;rw [Frame.finish_at];walk_nrm;obtain ⟨⟨oB1,eB1⟩,⟨oK1,eK1⟩,C2',nK⟩:=C2.two I.oB I.oK I.eB I.eK I.LL I.hA;generalize hmc:κ ⟨t,0,[]⟩ m2=mc;replace hmc:=yay hmc;refine zbs (O.xc ..) 3 2 (by decide) (by decide) (zai (by kernel_rfl)) (C2.st O) fun wp hp=>?_;simp only [yaf,yag,yad,yae];obtain ⟨k0,k1,z0,z1⟩:=C2.kf O hp oK1 eK1;replace hp:=yay hp;replace eK1:=yay eK1
 go_wp2_with fail
 refine ⟨⟨rfl,rfl⟩,w2.setCell ⟨N+2,0,none⟩ (.bool t),rfl,zbz (C2.st O).okd _ _,za3 hp.out _ _,?_⟩;clear hp k0 k1 z0 z1 wp;obtain rfl:=hmc.out;rw [zck _ rfl];exact zlr O C2' nK I.hA oB1 eB1 ⟨t,0,[]⟩ rfl oK1 eK1.out rfl rfl (I.hret _)
theorem ztd (O:md.Ok) (Pt:Part md LF (FAt fb) fb TF) (I:zno md wb fb bb lo A w₀ c cs κ o y own1 w1 m N x) :
  md.GO y own1 w1 (zhw LF (fun t=>κ ⟨t,0,[]⟩) m) (G ((base 96).at (A96 x) (.code (cA (zb6 10)) :: .inBlock 0 :: .code zdx::[])) (c::cs)) w1:=by
 generalize hmc:zhw LF (fun t=>κ ⟨t,0,[]⟩) m=mc;replace hmc:=yay hmc;rw [show cA (zb6 10)=Code.region _ _ _ from rfl]
 unfold A96;simp only [I.x1,I.x7,I.x8,I.x9,I.x10,I.x11,I.x12];unfold gpv;refine zbc (O.xc ..) 2 (by decide) (by decide) (zai (by kernel_rfl)) (I.C.st O) fun wp hp=>?_;simp only [yad,yae];replace hp:=yay hp
 go_wp2_with fail
 refine zag hp.out (I.C.st O).okd ?_;clear hp  wp;refine zal (O.xc ..) rfl rfl (by decide) rfl Try.func52 (by kernel_rfl) (by kernel_rfl) ?_;walk_nrm;obtain rfl:=hmc.out;clear hmc;refine zqr O Pt (κ:=fun t=>κ ⟨t,0,[]⟩) (O.endUp (zaa Try.func96) rfl rfl (O.endMore I.hend I.LL)) (fun t=>?_) _ _ _ _ I.C;intro y2 own2 w2 m2 C2;rw [Frame.finish_at];walk_nrm;obtain ⟨⟨oB1,eB1⟩,⟨oK1,eK1⟩,C2',nK⟩:=C2.two I.oB I.oK I.eB I.eK I.LL I.hA;generalize hmc:κ ⟨t,0,[]⟩ m2=mc;replace hmc:=yay hmc;refine zbs (O.xc ..) 3 2 (by decide) (by decide) (zai (by kernel_rfl)) (C2.st O) fun wp hp=>?_;simp only [yaf,yag,yad,yae];obtain ⟨k0,k1,z0,z1⟩:=C2.kf O hp oK1 eK1;replace hp:=yay hp;replace eK1:=yay eK1
 go_wp2_with fail
 refine ⟨⟨rfl,rfl⟩,w2.setCell ⟨N+2,0,none⟩ (.bool t),rfl,zbz (C2.st O).okd _ _,za3 hp.out _ _,?_⟩;clear hp k0 k1 z0 z1 wp;obtain rfl:=hmc.out;rw [zck _ rfl];exact zlr O C2' nK I.hA oB1 eB1 ⟨t,0,[]⟩ rfl oK1 eK1.out rfl rfl (I.hret _)
theorem ztc (O:md.Ok) (Pt:Part md LB (BAt ib bb) bb TS2) (hib:ib < 65536) (I:zno md wb fb bb lo A w₀ c cs κ o y own1 w1 m N x) :
  md.GO y own1 w1 (zhd LB o.b (κ ⟨true,0,[]⟩) m) (G ((base 96).at (A96 x) (.code (cA (zb6 12)) :: .inBlock 0 :: .code zdx::[])) (c::cs)) w1:=by
 generalize hmc:zhd LB o.b (κ ⟨true,0,[]⟩) m=mc;replace hmc:=yay hmc;rw [show cA (zb6 12)=Code.region _ _ _ from rfl]
 unfold A96;simp only [I.x1,I.x7,I.x8,I.x9,I.x10,I.x11,I.x12];unfold gpv;refine zbc (O.xc ..) 4 (by decide) (by decide) (zai (by kernel_rfl)) (I.C.st O) fun wp hp=>?_;simp only [yad,yae];obtain ⟨f1,f2,f3⟩:=zls hp I.eN;replace hp:=yay hp
 go_wp2_with fail
 refine zag hp.out (I.C.st O).okd ?_;clear hp f1 f2 f3 wp;refine zal (O.xc ..) rfl rfl (by decide) rfl Try.func103 (by kernel_rfl) (by kernel_rfl) ?_;walk_nrm;obtain rfl:=hmc.out;clear hmc;refine zp2 O Pt hib (κ:=κ ⟨true,0,[]⟩) I.ho.b (O.endUp (zaa Try.func96) rfl rfl (O.endMore I.hend I.LL)) (?_) _ _ _ _ I.C;intro y2 own2 w2 m2 C2;rw [Frame.finish_at];walk_nrm;obtain ⟨⟨oB1,eB1⟩,⟨oK1,eK1⟩,C2',nK⟩:=C2.two I.oB I.oK I.eB I.eK I.LL I.hA;generalize hmc:κ ⟨true,0,[]⟩ m2=mc;replace hmc:=yay hmc;refine zad (O.xc ..) ?_;refine zbh (O.xc ..) ?_;rw [zck _ rfl];obtain rfl:=hmc.out;exact zh9 O C2' .refl I.hA oB1 eB1 rfl ⟨true,0,[]⟩ rfl oK1 eK1 rfl rfl (I.hret ⟨true,0,[]⟩)
theorem zvj (O:md.Ok) (Pt:Part md LB (BAt ib bb) bb TS2) (hib:ib < 65536) (I:zno md wb fb bb lo A w₀ c cs κ o y own1 w1 m N x) :
  md.GO y own1 w1 (zj4 LB o.b (fun r=>κ ⟨true,r,[]⟩) m) (G ((base 96).at (A96 x) (.code (cA (zb6 13)) :: .inBlock 0 :: .code zdx::[])) (c::cs)) w1:=by
 generalize hmc:zj4 LB o.b (fun r=>κ ⟨true,r,[]⟩) m=mc;replace hmc:=yay hmc;rw [show cA (zb6 13)=Code.region _ _ _ from rfl]
 unfold A96;simp only [I.x1,I.x7,I.x8,I.x9,I.x10,I.x11,I.x12];unfold gpv;refine zbc (O.xc ..) 4 (by decide) (by decide) (zai (by kernel_rfl)) (I.C.st O) fun wp hp=>?_;simp only [yad,yae];obtain ⟨f1,f2,f3⟩:=zls hp I.eN;replace hp:=yay hp
 go_wp2_with fail
 refine zag hp.out (I.C.st O).okd ?_;clear hp f1 f2 f3 wp;refine zal (O.xc ..) rfl rfl (by decide) rfl Try.func53 (by kernel_rfl) (by kernel_rfl) ?_;walk_nrm;obtain rfl:=hmc.out;clear hmc;refine zq2 O Pt hib (κ:=fun r=>κ ⟨true,r,[]⟩) I.ho.b (O.endUp (zaa Try.func96) rfl rfl (O.endMore I.hend I.LL)) (fun r hr=>?_) _ _ _ _ I.C;clear hr;intro y2 own2 w2 m2 C2;rw [Frame.finish_at];walk_nrm;obtain ⟨⟨oB1,eB1⟩,⟨oK1,eK1⟩,C2',nK⟩:=C2.two I.oB I.oK I.eB I.eK I.LL I.hA;generalize hmc:κ ⟨true,r,[]⟩ m2=mc;replace hmc:=yay hmc;refine zbs (O.xc ..) 5 2 (by decide) (by decide) (zai (by kernel_rfl)) (C2.st O) fun wp hp=>?_;simp only [yaf,yag,yad,yae];obtain ⟨k0,k1,z0,z1⟩:=C2.kf O hp oK1 eK1;replace hp:=yay hp;replace eK1:=yay eK1
 go_wp2_with fail
 refine ⟨⟨rfl,rfl⟩,w2.setCell ⟨N+2,1,none⟩ (.int .i64 r),rfl,zbz (C2.st O).okd _ _,za3 hp.out _ _,?_⟩;clear hp k0 k1 z0 z1 wp;obtain rfl:=hmc.out;rw [zck _ rfl];exact zlq O C2' nK I.hA oB1 eB1 ⟨true,r,[]⟩ rfl oK1 eK1.out rfl rfl (I.hret _)
end
section
variable {S:Type} {md:Md (SM S)} {LB:zcl S BoxS} {ib wb fb bb lo:Nat} {A A1:Nat→Prop} {w₀ w₁:W0 (SM S)} {c:Frame} {cs:List Frame} {κ:Ans→Fu (SM S)} {o:OpD} {y:md.β} {own0 own1 own:Nat→Owner} {w0 w1 w:World} {m:SM S} {N K3:Nat} {x:Nat→Value} {R:List Item} {tv:Nat→Option Value} {bs bd:Nat} {listed:Array Bool}
structure J96 (md:Md (SM S)) (tv:Nat→Option Value) (bs bb N K3:Nat) (y:md.β) (own0:Nat→Owner) (w0:World) (A:Nat→Prop) (w₀:W0 (SM S)) (m:SM S) (listed:Array Bool) (x:Nat→Value) (own:Nat→Owner) (w:World):Prop where
 x1:x 1=md.sv
 x7:x 7 = .pointer (some ⟨N,0,none⟩)
 x8:x 8 = .pointer (some ⟨N+1,0,none⟩)
 x11:x 11=gpv bb
 x12:x 12 = .pointer (some ⟨N+2,0,none⟩)
 x13:x 13=gpv K3
 tab:Tab tv bs listed x
 C:md.C y own A w₀ w m
 hO:OwnStep md.i own0 own w0.heap.size
 hF:Frm md.i own0 w0 w
theorem J96.put (h:J96 md tv bs bb N K3 y own0 w0 A w₀ m listed x own w) (hb:14≤bs) {i:Nat} {u:Value} (ht:tv i=some u):J96 md tv bs bb N K3 y own0 w0 A w₀ m (listed.setIfInBounds i true) (upd x (bs+i) u) own w :=
 ⟨by rw [upd_ne _ _ (by omega)];exact h.x1,by rw [upd_ne _ _ (by omega)];exact h.x7,by rw [upd_ne _ _ (by omega)];exact h.x8,by rw [upd_ne _ _ (by omega)];exact h.x11,by rw [upd_ne _ _ (by omega)];exact h.x12,by rw [upd_ne _ _ (by omega)];exact h.x13,h.tab.put (.inl ht),h.C,h.hO,h.hF⟩
theorem J96.grow (h:J96 md tv bs bb N K3 y own0 w0 A w₀ m listed x own w) {own':Nat→Owner} {w':World} (C:md.C y own' A w₀ w' m) (hO:OwnStep md.i own own' w.heap.size) (hF:Frm md.i own w w'):J96 md tv bs bb N K3 y own0 w0 A w₀ m listed x own' w' :=
 ⟨h.x1,h.x7,h.x8,h.x11,h.x12,h.x13,h.tab,C,h.hO.trans hO h.hF.1,.trans h.hO h.hF hF⟩
def tv37 (bb N:Nat) (sv:Value) (p:Option Addr) (v ob:Int):Nat→Option Value
 | 0=>some (gpv bb)
 | 1=>some sv
 | 2=>some (.agg #[.pointer p,gpv bb])
 | 3=>some (.agg #[.pointer p,gpv bb])
 | 4=>some (.int .i64 v)
 | 5=>some (.pointer (some ⟨N,2,none⟩))
 | 6=>some (.int .i64 ob)
 | 7=>some (.int .i64 (zdf v ob))
 | _=>none
def tv39 (bb N:Nat) (p:Option Addr) (v ob:Int):Nat→Option Value
 | 0=>some (.agg #[.pointer p,gpv bb])
 | 1=>some (.int .i64 v)
 | 2=>some (.pointer (some ⟨N,2,none⟩))
 | 3=>some (.int .i64 ob)
 | 4=>some (.int .i64 (zdf v ob))
 | _=>none
theorem zvk (O:md.Ok) (Pt:Part md LB (BAt ib bb) bb TS2) (I:zno md wb fb bb lo A w₀ c cs κ o y own1 w1 m N x) :
  md.GO y own1 w1 (xloadF LB (fun _ v=>κ ⟨true,v,[]⟩) m) (G ((base 96).at (A96 x) (.code (cA (zb6 11)) :: .inBlock 0 :: .code zdx::[])) (c::cs)) w1:=by
 obtain ⟨ho,hend,hret,C1,LL,hA,oN,eN,oB,eB,oK,eK,x1,x7,x8,x9,x10,x11,x12⟩:=I;generalize hmc:xloadF LB (fun _ v=>κ ⟨true,v,[]⟩) m=mc;replace hmc:=yay hmc;replace hret:=yay hret;replace eB:=yay eB;replace eK:=yay eK;replace hA:=yay hA;rw [show cA (zb6 11)=Code.region _ _ _ from rfl]
 unfold A96;simp only [x1,x7,x8,x9,x10,x11,x12];unfold gpv;refine zbc (O.xc ..) 2 (by decide) (by decide) (zai (by kernel_rfl)) (C1.st O) fun wp hp=>?_;simp only [yad,yae];replace hp:=yay hp
 go_wp2_with fail
 refine zag hp.out (C1.st O).okd ?_;clear hp  wp;refine zal (O.xc ..) rfl rfl (by decide) rfl Try.func54 (by kernel_rfl) (by kernel_rfl) ?_;walk_nrm;obtain rfl:=hmc.out;clear hmc;refine xload_cps O Pt (κ:=fun _ v=>κ ⟨true,v,[]⟩) (O.endUp (zaa Try.func96) rfl rfl (O.endMore hend LL)) (fun s v p A₁ w₁ L1 hH=>?_) _ _ _ _ C1;intro y2 own2 w2 m2 C2;rw [Frame.finish_at];walk_nrm;have CA:=C2.less L1;obtain ⟨oB1,qB⟩:=CA.mine (N+1) oB;obtain ⟨oK1,qK⟩:=CA.mine (N+2) oK;have eB1:=qB.trans eB.out;have eK1:=qK.trans eK.out;clear qB qK;have C2':=CA.less LL;have nK:¬ A (N+2):=fun h=>by have:=hA.out _ h;omega
 generalize hmc:κ ⟨true,v,[]⟩ m2=mc;replace hmc:=yay hmc;have hBlt:N+1 < w2.heap.size:=C2.lt (by rw [oB1];simp);have hKlt:N+2 < w2.heap.size:=C2.lt (by rw [oK1];simp);have hH2:HeldC own2 w2.heap ib s v p:=hH.keep fun b t _ q=>C2.tg b t q;unfold gpv;refine O.callA C2' zba (f:=55) (by simp) rfl rfl (by decide) rfl Try.func55 (by kernel_rfl) (by kernel_rfl) fun wp hp=>?_;walk_nrm;refine (heldI_walk wp (hH2.kept (w:=wp) fun b ⟨t,hb⟩=>zbb hp (C2.dm O (by rw [hb];simp))) ⟨_,rfl⟩).mono ?_;rintro e' w' ⟨rfl,rfl⟩;refine ⟨_,rfl,fun w4 q1 q2 q3=>O.one C2' hp rfl rfl q1 q2 (q3.trans (by simp;rw [hp.heap,za2])) fun own4 C4 e4 s4 o4 L4 low4=>?_⟩;have oB2:=(low4 (N+1) hBlt).2.trans oB1;have eB2:=(low4 (N+1) hBlt).1.trans eB1;have oK2:=(low4 (N+2) hKlt).2.trans oK1;have eK2:=(low4 (N+2) hKlt).1.trans eK1;clear q1 q2 q3 low4 e4 s4 o4 hp wp hBlt hKlt oB1 eB1 oK1 eK1;have C4':=C4.less L4;refine zbs (O.xc ..) 4 2 (by decide) (by decide) (zai (by kernel_rfl)) (C4.st O) fun wp hp=>?_;simp only [yaf,yag,yad,yae];obtain ⟨k0,k1,z0,z1⟩:=C4.kf O hp oK2 eK2;replace hp:=yay hp;replace eK2:=yay eK2
 go_wp2_with fail
 refine ⟨⟨rfl,rfl⟩,w4.setCell ⟨N+2,1,none⟩ (.int .i64 v),rfl,zbz (C4.st O).okd _ _,za3 hp.out _ _,?_⟩;clear hp k0 k1 z0 z1 wp;refine zad (O.xc ..) ?_;refine zbh (O.xc ..) ?_;obtain ⟨C5,F5⟩:=C4'.wrote (w1:=w4.setCell ⟨N+2,1,none⟩ (.int .i64 v)) O oK2 nK (by simp [World.setCell]) (fun b hb=>Below.heap_setCell _ _ _ _ hb);refine O.rebase .refl F5 ?_;obtain rfl:=hmc.out;rw [zck _ rfl];exact zh9 O C5 .refl hA.out oB2 ((Below.heap_setCell _ _ _ _ (show N+1≠N+2 by omega)).trans eB2) rfl ⟨true,v,[]⟩ rfl oK2 (zaz eK2.out 1 (.int .i64 v)) rfl rfl (hret.out ⟨true,v,[]⟩)
theorem reg37 (O:md.Ok) (Pt:Part md LB (BAt ib bb) bb TS2) (hib:ib < 65536) {s:Nat} {v:Int} {p:Option Addr} {κb:Bool→Fu (SM S)} (hH:HeldC w₁.own w₁.heap ib s v p) (hend:md.End A1 w₁ c cs)
  (C:md.C y own0 A1 w₁ w0 m) (hAN:A1 N) (hAK:A1 (N+2)) (hAH:A1 K3) (eNb:w₁.heap[N]?=some (.cells #[.int .i64 o.kind,.int .i64 o.a,.int .i64 o.b,.int .i64 o.c] 45 (0,0))) (eHb:w₁.heap[K3]?=some (.cells #[.pointer p,gpv bb] 119 (0,0))) (eKb:w₁.heap[N+2]?=some (.cells #[.bool true,.int .i64 0,.slice none 0 0] 42 (0,0)))
  (x1:x 1=md.sv) (x7:x 7 = .pointer (some ⟨N,0,none⟩)) (x8:x 8 = .pointer (some ⟨N+1,0,none⟩)) (x11:x 11=gpv bb) (x12:x 12 = .pointer (some ⟨N+2,0,none⟩)) (x13:x 13=gpv K3)
  (hret:∀ t x y own w m,md.C y own (fun b=>A1 b∧b≠N+2) w₁ w m→own (N+2) = .th md.i→w.heap[N+2]?=some (.cells #[.bool t,.int .i64 0,.slice none 0 0] 42 (0,0))→x 1=md.sv→x 7 = .pointer (some ⟨N,0,none⟩)→x 8 = .pointer (some ⟨N+1,0,none⟩)→x 11=gpv bb→x 12 = .pointer (some ⟨N+2,0,none⟩)→x 13=gpv K3 →
   md.GO y own w (κb t m) (G ((base 96).at (A96 x) (.code (cB (cB (cA (zb6 14))))::R)) (c::cs)) w) :
  md.GO y own0 w0 (zb1 (xcasP LB s (zdf v o.b) κb) m) (G ((base 96).at (A96 x) (.code (cB (cA (zb6 14)))::R)) (c::cs)) w0:=by
 generalize hmc:zb1 (xcasP LB s (zdf v o.b) κb) m=mc;replace hmc:=yay hmc;refine zas (c:=cB (cA (zb6 14))) (O.xc ..) rfl fun R0 hR0=>?_;rw [show cA (cB (cA (zb6 14)))=Code.region _ _ _ from rfl]
 refine zem (O.xc ..) 8 [[8,9,10]] rfl (by kernel_rfl) (C.st O) (fun listed a w=>∃ x own,a=A96 x∧J96 md (tv37 bb N md.sv p v o.b) 178 bb N K3 y own0 w0 A1 w₁ m listed x own w) ?i0 ?ie ?ist
 case i0=>exact ⟨x,own0,rfl,x1,x7,x8,x11,x12,x13,.zero,C,.refl,.refl⟩
 case ie =>
  rintro a w3 ⟨x,own3,rfl,hI⟩ r hr;obtain rfl:r=[8,9,10]:=by simpa using hr
  have t0:x 178=gpv bb:=hI.tab 0 _ rfl rfl;have t1:x 179=md.sv:=hI.tab 1 _ rfl rfl;have t2:x 180 = .agg #[.pointer p,gpv bb]:=hI.tab 2 _ rfl rfl;have t7:x 185 = .int .i64 (zdf v o.b):=hI.tab 7 _ rfl rfl;have y1:=hI.x1;have y7:=hI.x7;have y8:=hI.x8;have y11:=hI.x11;have y12:=hI.x12;have y13:=hI.x13;refine O.rebase hI.hO hI.hF ?_;unfold A96;simp only [y1,y7,y8,y11,y12,y13,t0,t1,t2,t7];refine zal (O.xc ..) rfl rfl (by decide) rfl Try.func56 (by kernel_rfl) (by kernel_rfl) ?_;walk_nrm;obtain rfl:=hmc.out;refine xcas_cps O Pt hib (zn1 _ _) hH (O.endUp (zaa Try.func96) rfl rfl hend) (fun t=>?_) y own3 w3 m hI.C;intro y4 own4 w4 m4 C4;rw [Frame.finish_at];walk_nrm;generalize hmc4:κb t m4=mc4;replace hmc4:=yay hmc4;obtain ⟨oK1,qK⟩:=C4.mine (N+2) hAK;have eK1:=qK.trans eKb;refine zia (O.xc ..) (rest:=[]) (by decide) [9,10] [_,_] _ _ rfl (zai (by kernel_rfl)) (C4.st O) rfl fun wp hp=>?_;obtain ⟨k0,k1,z0,z1⟩:=C4.kf O hp oK1 eK1;replace hp:=yay hp;replace eK1:=yay eK1;unfold gpv
  go_wp2_with fail
  refine ⟨⟨rfl,rfl⟩,w4.setCell ⟨N+2,0,none⟩ (.bool t),rfl,zbz (C4.st O).okd _ _,za3 hp.out _ _,?_⟩;clear hp k0 k1 z0 z1 wp;refine zad (O.xc ..) ?_;have C4':=C4.less (zuz (A:=fun b=>A1 b∧b≠N+2) fun b hb=>hb.1);obtain ⟨C5,F5⟩:=C4'.wrote (w1:=w4.setCell ⟨N+2,0,none⟩ (.bool t)) O oK1 (fun z=>z.2 rfl) (by simp [World.setCell]) (fun b hb=>Below.heap_setCell _ _ _ _ hb);refine O.rebase .refl F5 ?_;obtain rfl:=hmc4.out;obtain rfl:=hR0.out;rw [zck _ rfl];exact hret t _ _ _ _ m4 C5 oK1 (zaz eK1.out 0 (.bool t)) rfl rfl rfl rfl rfl rfl
 case ist =>
  rintro listed i hsz hi a w3 r ⟨x,own3,rfl,hI⟩ hnext;obtain ⟨hun,op,ho,hdep⟩:=mem_ready.1 hi;have C3:=hI.C;have eN:=(C3.mine N hAN).2.trans eNb;have eH:=(C3.mine K3 hAH).2.trans eHb;have hcase:i=0∨i=1∨i=2∨i=3∨i=4∨i=5∨i=6∨i=7:=by omega
  rcases hcase with rfl|rfl|rfl|rfl|rfl|rfl|rfl|rfl
  ·have y11:=hI.x11
   try unfold gpv at y11
   refine O.op1 C3 rfl rfl (by decide) (zai (l:=[_]) (by kernel_rfl) _ (yaj.2 rfl)) (v:=gpv bb) (fun wp hp=>by
    unfold A96
    try unfold gpv
    go_simp<;>rfl) ?_
   exact hnext (A96 (upd x 178 (gpv bb))) w3 ⟨_,own3,rfl,hI.put (by decide) (i:=0) rfl⟩
  ·have y1:=hI.x1
   try unfold gpv at y1
   refine O.op1 C3 rfl rfl (by decide) (zai (l:=[_]) (by kernel_rfl) _ (yaj.2 rfl)) (v:=md.sv) (fun wp hp=>by
    unfold A96
    try unfold gpv
    go_simp<;>rfl) ?_
   exact hnext (A96 (upd x 179 (md.sv))) w3 ⟨_,own3,rfl,hI.put (by decide) (i:=1) rfl⟩
  ·have y13:=hI.x13
   try unfold gpv at y13
   refine O.op1 C3 rfl rfl (by decide) (zai (l:=[_]) (by kernel_rfl) _ (yaj.2 rfl)) (v := .agg #[.pointer p,gpv bb]) (fun wp hp=>by
    have cK0:=(za1 hp ⟨K3,0,none⟩).trans (zae eH 0);have cK1:=(za1 hp ⟨K3,1,none⟩).trans (zae eH 1);simp only [yac,yaa,yab] at cK0 cK1;unfold A96
    try unfold gpv
    go_simp<;>rfl) ?_
   exact hnext (A96 (upd x 180 (.agg #[.pointer p,gpv bb]))) w3 ⟨_,own3,rfl,hI.put (by decide) (i:=2) rfl⟩
  ·have y13:=hI.x13
   try unfold gpv at y13
   refine O.op1 C3 rfl rfl (by decide) (zai (l:=[_]) (by kernel_rfl) _ (yaj.2 rfl)) (v := .agg #[.pointer p,gpv bb]) (fun wp hp=>by
    have cK0:=(za1 hp ⟨K3,0,none⟩).trans (zae eH 0);have cK1:=(za1 hp ⟨K3,1,none⟩).trans (zae eH 1);simp only [yac,yaa,yab] at cK0 cK1;unfold A96
    try unfold gpv
    go_simp<;>rfl) ?_
   exact hnext (A96 (upd x 181 (.agg #[.pointer p,gpv bb]))) w3 ⟨_,own3,rfl,hI.put (by decide) (i:=3) rfl⟩
  ·have ho':=yaw ho;subst ho';have d3:listed.getD 3 false=true:=hdep ⟨3,.data⟩ (by simp) rfl;have t3:x 181=_:=hI.tab 3 _ rfl d3
   try unfold gpv at t3
   refine O.callA C3 zba (f:=55) (by simp) rfl rfl (by decide) rfl Try.func55 (by kernel_rfl) (by kernel_rfl) fun wp hp=>?_;walk_nrm;show Calls Try.prog 55 #[x 181] wp _;rw [t3];have hHw:HeldC own3 w3.heap ib s v p:=hH.keep fun b t _ q=>C3.tg b t q;refine (heldI_walk wp (hHw.kept (w:=wp) fun b ⟨t,hb⟩=>zbb hp (C3.dm O (by rw [hb];simp))) ⟨_,rfl⟩).mono ?_;rintro e' w' ⟨rfl,rfl⟩;refine ⟨_,rfl,fun w4 q1 q2 q3=>?_⟩;have hsz:wp.heap.size=w3.heap.size:=by rw [hp.heap,za2]
   have hs4:w4.heap.size=w3.heap.size+1:=by rw [q3];simp [hsz]
   have low4:∀ b,b < w3.heap.size→w4.heap[b]?=w3.heap[b]?:=fun b hb=>q2 b (Below.heap_alloc _ _ _ (by omega));obtain ⟨own4,C4,h1,h2,h3,h4⟩:=C3.grown (w1:=w4) O (by omega) (fun b hb' _=>low4 b hb');exact hnext (A96 (upd x 182 (.int .i64 v))) w4 ⟨_,own4,rfl,(hI.grow (C4.less (zde C3 (fun b hb' _=>low4 b hb') h4)) h1 h2).put (by decide) (i:=4) rfl⟩
  ·have y7:=hI.x7
   try unfold gpv at y7
   refine O.op1 C3 rfl rfl (by decide) (zai (l:=[_]) (by kernel_rfl) _ (yaj.2 rfl)) (v := .pointer (some ⟨N,2,none⟩)) (fun wp hp=>by
    unfold A96
    try unfold gpv
    go_simp<;>rfl) ?_
   exact hnext (A96 (upd x 183 (.pointer (some ⟨N,2,none⟩)))) w3 ⟨_,own3,rfl,hI.put (by decide) (i:=5) rfl⟩
  ·have ho':=yaw ho;subst ho';have d5:listed.getD 5 false=true:=hdep ⟨5,.data⟩ (by simp) rfl;have t5:x 183=_:=hI.tab 5 _ rfl d5
   try unfold gpv at t5
   refine O.op1 C3 rfl rfl (by decide) (zai (l:=[_]) (by kernel_rfl) _ (yaj.2 rfl)) (v := .int .i64 o.b) (fun wp hp=>by
    have cN:=(za1 hp ⟨N,2,none⟩).trans (zae eN 2);simp only [yac,yaa,yab] at cN;unfold A96
    try unfold gpv
    go_simp<;>rfl) ?_
   exact hnext (A96 (upd x 184 (.int .i64 o.b))) w3 ⟨_,own3,rfl,hI.put (by decide) (i:=6) rfl⟩
  ·have ho':=yaw ho;subst ho';have d4:listed.getD 4 false=true:=hdep ⟨4,.data⟩ (by simp) rfl;have t4:x 182=_:=hI.tab 4 _ rfl d4;have d6:listed.getD 6 false=true:=hdep ⟨6,.data⟩ (by simp) rfl;have t6:x 184=_:=hI.tab 6 _ rfl d6
   try unfold gpv at t4 t6
   refine O.op1 C3 rfl rfl (by decide) (zai (l:=[_]) (by kernel_rfl) _ (yaj.2 rfl)) (v := .int .i64 (zdf v o.b)) (fun wp hp=>by
    unfold A96 zdf
    go_simp<;>rfl) ?_
   exact hnext (A96 (upd x 185 (.int .i64 (zdf v o.b)))) w3 ⟨_,own3,rfl,hI.put (by decide) (i:=7) rfl⟩
end
section
variable {S:Type} {md:Md (SM S)} {LB:zcl S BoxS} {ib wb fb bb lo:Nat} {A A1:Nat→Prop} {w₀ w₁:W0 (SM S)} {c:Frame} {cs:List Frame} {κ:Ans→Fu (SM S)} {o:OpD} {y:md.β} {own0 own1 own:Nat→Owner} {w0 w1 w:World} {m:SM S} {N K3:Nat} {x:Nat→Value} {R:List Item} {tv:Nat→Option Value} {bs bd:Nat} {listed:Array Bool}
theorem reg39 (O:md.Ok) {s:Nat} {v:Int} {p:Option Addr} (hH:HeldC w₁.own w₁.heap ib s v p) (LL:Less md.i A w₀ A1 w₁) (hA:∀ b,A b→b < N)
  (C:md.C y own0 A1 w₁ w0 m) (hAN:A1 N) (hAB:A1 (N+1)) (hAK:A1 (N+2)) (hAH:A1 K3) (eNb:w₁.heap[N]?=some (.cells #[.int .i64 o.kind,.int .i64 o.a,.int .i64 o.b,.int .i64 o.c] 45 (0,0))) (eHb:w₁.heap[K3]?=some (.cells #[.pointer p,gpv bb] 119 (0,0))) {cc:Array Value} (eBb:w₁.heap[N+1]?=some (.cells cc 42 (0,0))) (hcc:cc.size=3) (eKb:w₁.heap[N+2]?=some (.cells #[.bool true,.int .i64 0,.slice none 0 0] 42 (0,0)))
  (x1:x 1=md.sv) (x7:x 7 = .pointer (some ⟨N,0,none⟩)) (x8:x 8 = .pointer (some ⟨N+1,0,none⟩)) (x11:x 11=gpv bb) (x12:x 12 = .pointer (some ⟨N+2,0,none⟩)) (x13:x 13=gpv K3)
  (hret:∀ v' y own w m,md.C y own A w₀ w m→LRow (.th md.i) lo own w v' []→(∀ g,v'.ownBlock=some g→¬ A g)→md.GO y own w (κ ⟨true,zdf v o.b,[]⟩ m) (G (c.finish (zq1 ⟨true,zdf v o.b,[]⟩ v')) cs) w) :
  md.GO y own0 w0 (κ ⟨true,zdf v o.b,[]⟩ m) (G ((base 96).at (A96 x) (.code (cA (cB (cB (cB (cA (zb6 14)))))) :: .inBlock 0 :: .code zdx::[])) (c::cs)) w0:=by
 generalize hmc:κ ⟨true,zdf v o.b,[]⟩ m=mc;replace hmc:=yay hmc;replace hret:=yay hret;replace hA:=yay hA;rw [show cA (cB (cB (cB (cA (zb6 14)))))=Code.region _ _ _ from rfl]
 refine zem (O.xc ..) 5 [[5,6]] rfl (by kernel_rfl) (C.st O) (fun listed a w=>∃ x own,a=A96 x∧J96 md (tv39 bb N p v o.b) 190 bb N K3 y own0 w0 A1 w₁ m listed x own w) ?i0 ?ie ?ist
 case i0=>exact ⟨x,own0,rfl,x1,x7,x8,x11,x12,x13,.zero,C,.refl,.refl⟩
 case ie =>
  rintro a w3 ⟨x,own3,rfl,hI⟩ r hr;obtain rfl:r=[5,6]:=by simpa using hr
  have t4:x 194 = .int .i64 (zdf v o.b):=hI.tab 4 _ rfl rfl;have y8:=hI.x8;have y12:=hI.x12;have C3:=hI.C;obtain ⟨oK1,qK⟩:=C3.mine (N+2) hAK;obtain ⟨oB1,qB⟩:=C3.mine (N+1) hAB;have eK1:=qK.trans eKb;have eB1:=qB.trans eBb;have nK:¬ A (N+2):=fun h=>by have:=hA.out _ h;omega
  refine O.rebase hI.hO hI.hF ?_;unfold A96;simp only [y8,y12,t4];refine zia (O.xc ..) (rest:=[]) (by decide) [5,6] [_,_] _ _ rfl (zai (by kernel_rfl)) (C3.st O) rfl fun wp hp=>?_;obtain ⟨k0,k1,z0,z1⟩:=C3.kf O hp oK1 eK1;replace hp:=yay hp;replace eK1:=yay eK1;replace eB1:=yay eB1
  go_wp2_with fail
  refine ⟨⟨rfl,rfl⟩,w3.setCell ⟨N+2,1,none⟩ (.int .i64 (zdf v o.b)),rfl,zbz (C3.st O).okd _ _,za3 hp.out _ _,?_⟩;clear hp k0 k1 z0 z1 wp;refine zad (O.xc ..) ?_;refine zbh (O.xc ..) ?_;obtain ⟨C5,F5⟩:=(C3.less LL).wrote (w1:=w3.setCell ⟨N+2,1,none⟩ (.int .i64 (zdf v o.b))) O oK1 nK (by simp [World.setCell]) (fun b hb=>Below.heap_setCell _ _ _ _ hb);refine O.rebase .refl F5 ?_;obtain rfl:=hmc.out;rw [zck _ rfl];exact zh9 O C5 .refl hA.out oB1 ((Below.heap_setCell _ _ _ _ (show N+1≠N+2 by omega)).trans eB1.out) hcc ⟨true,zdf v o.b,[]⟩ rfl oK1 (zaz eK1.out 1 (.int .i64 (zdf v o.b))) rfl rfl hret.out
 case ist =>
  rintro listed i hsz hi a w3 r ⟨x,own3,rfl,hI⟩ hnext;obtain ⟨hun,op,ho,hdep⟩:=mem_ready.1 hi;have C3:=hI.C;have eN:=(C3.mine N hAN).2.trans eNb;have eH:=(C3.mine K3 hAH).2.trans eHb;have hcase:i=0∨i=1∨i=2∨i=3∨i=4:=by omega
  rcases hcase with rfl|rfl|rfl|rfl|rfl
  ·have y13:=hI.x13
   try unfold gpv at y13
   refine O.op1 C3 rfl rfl (by decide) (zai (l:=[_]) (by kernel_rfl) _ (yaj.2 rfl)) (v := .agg #[.pointer p,gpv bb]) (fun wp hp=>by
    have cK0:=(za1 hp ⟨K3,0,none⟩).trans (zae eH 0);have cK1:=(za1 hp ⟨K3,1,none⟩).trans (zae eH 1);simp only [yac,yaa,yab] at cK0 cK1;unfold A96
    try unfold gpv
    go_simp<;>rfl) ?_
   exact hnext (A96 (upd x 190 (.agg #[.pointer p,gpv bb]))) w3 ⟨_,own3,rfl,hI.put (by decide) (i:=0) rfl⟩
  ·have ho':=yaw ho;subst ho';have d0:listed.getD 0 false=true:=hdep ⟨0,.data⟩ (by simp) rfl;have t0:x 190=_:=hI.tab 0 _ rfl d0
   try unfold gpv at t0
   refine O.callA C3 zba (f:=55) (by simp) rfl rfl (by decide) rfl Try.func55 (by kernel_rfl) (by kernel_rfl) fun wp hp=>?_;walk_nrm;show Calls Try.prog 55 #[x 190] wp _;rw [t0];have hHw:HeldC own3 w3.heap ib s v p:=hH.keep fun b t _ q=>C3.tg b t q;refine (heldI_walk wp (hHw.kept (w:=wp) fun b ⟨t,hb⟩=>zbb hp (C3.dm O (by rw [hb];simp))) ⟨_,rfl⟩).mono ?_;rintro e' w' ⟨rfl,rfl⟩;refine ⟨_,rfl,fun w4 q1 q2 q3=>?_⟩;have hsz:wp.heap.size=w3.heap.size:=by rw [hp.heap,za2]
   have hs4:w4.heap.size=w3.heap.size+1:=by rw [q3];simp [hsz]
   have low4:∀ b,b < w3.heap.size→w4.heap[b]?=w3.heap[b]?:=fun b hb=>q2 b (Below.heap_alloc _ _ _ (by omega));obtain ⟨own4,C4,h1,h2,h3,h4⟩:=C3.grown (w1:=w4) O (by omega) (fun b hb' _=>low4 b hb');exact hnext (A96 (upd x 191 (.int .i64 v))) w4 ⟨_,own4,rfl,(hI.grow (C4.less (zde C3 (fun b hb' _=>low4 b hb') h4)) h1 h2).put (by decide) (i:=1) rfl⟩
  ·have y7:=hI.x7
   try unfold gpv at y7
   refine O.op1 C3 rfl rfl (by decide) (zai (l:=[_]) (by kernel_rfl) _ (yaj.2 rfl)) (v := .pointer (some ⟨N,2,none⟩)) (fun wp hp=>by
    unfold A96
    try unfold gpv
    go_simp<;>rfl) ?_
   exact hnext (A96 (upd x 192 (.pointer (some ⟨N,2,none⟩)))) w3 ⟨_,own3,rfl,hI.put (by decide) (i:=2) rfl⟩
  ·have ho':=yaw ho;subst ho';have d2:listed.getD 2 false=true:=hdep ⟨2,.data⟩ (by simp) rfl;have t2:x 192=_:=hI.tab 2 _ rfl d2
   try unfold gpv at t2
   refine O.op1 C3 rfl rfl (by decide) (zai (l:=[_]) (by kernel_rfl) _ (yaj.2 rfl)) (v := .int .i64 o.b) (fun wp hp=>by
    have cN:=(za1 hp ⟨N,2,none⟩).trans (zae eN 2);simp only [yac,yaa,yab] at cN;unfold A96
    try unfold gpv
    go_simp<;>rfl) ?_
   exact hnext (A96 (upd x 193 (.int .i64 o.b))) w3 ⟨_,own3,rfl,hI.put (by decide) (i:=3) rfl⟩
  ·have ho':=yaw ho;subst ho';have d1:listed.getD 1 false=true:=hdep ⟨1,.data⟩ (by simp) rfl;have t1:x 191=_:=hI.tab 1 _ rfl d1;have d3:listed.getD 3 false=true:=hdep ⟨3,.data⟩ (by simp) rfl;have t3:x 193=_:=hI.tab 3 _ rfl d3
   try unfold gpv at t1 t3
   refine O.op1 C3 rfl rfl (by decide) (zai (l:=[_]) (by kernel_rfl) _ (yaj.2 rfl)) (v := .int .i64 (zdf v o.b)) (fun wp hp=>by
    unfold A96 zdf
    go_simp<;>rfl) ?_
   exact hnext (A96 (upd x 194 (.int .i64 (zdf v o.b)))) w3 ⟨_,own3,rfl,hI.put (by decide) (i:=4) rfl⟩
theorem zte (O:md.Ok) (Pt:Part md LB (BAt ib bb) bb TS2) (hib:ib < 65536) (I:zno md wb fb bb lo A w₀ c cs κ o y own1 w1 m N x) :
  md.GO y own1 w1 (xloadF LB (fun s v=>zb1 (xcasP LB s (zdf v o.b) (fun t=>κ (if t then ⟨true,zdf v o.b,[]⟩ else ⟨false,0,[]⟩)))) m) (G ((base 96).at (A96 x) (.code (cA (zb6 14)) :: .inBlock 0 :: .code zdx::[])) (c::cs)) w1:=by
 obtain ⟨ho,hend,hret,C1,LL,hA,oN,eN,oB,eB,oK,eK,x1,x7,x8,x9,x10,x11,x12⟩:=I;generalize hmc:xloadF LB (fun s v=>zb1 (xcasP LB s (zdf v o.b) (fun t=>κ (if t then ⟨true,zdf v o.b,[]⟩ else ⟨false,0,[]⟩)))) m=mc;replace hmc:=yay hmc;replace hret:=yay hret;replace eB:=yay eB;replace eK:=yay eK;replace hA:=yay hA;refine zas (c:=cA (zb6 14)) (O.xc ..) rfl fun R0 hR0=>?_;rw [show cA (cA (zb6 14))=Code.region _ _ _ from rfl]
 unfold A96;simp only [x1,x7,x8,x9,x10,x11,x12];unfold gpv;refine zbc (O.xc ..) 2 (by decide) (by decide) (zai (by kernel_rfl)) (C1.st O) fun wp hp=>?_;simp only [yad,yae];replace hp:=yay hp
 go_wp2_with fail
 refine zag hp.out (C1.st O).okd ?_;clear hp  wp;refine zal (O.xc ..) rfl rfl (by decide) rfl Try.func54 (by kernel_rfl) (by kernel_rfl) ?_;walk_nrm;obtain rfl:=hmc.out;clear hmc;refine xload_cps O Pt (κ:=fun s v=>zb1 (xcasP LB s (zdf v o.b) (fun t=>κ (if t then ⟨true,zdf v o.b,[]⟩ else ⟨false,0,[]⟩)))) (O.endUp (zaa Try.func96) rfl rfl (O.endMore hend LL)) (fun s v p A₁ w₁ L1 hH=>?_) _ _ _ _ C1;intro y2 own2 w2 m2 C2;rw [Frame.finish_at];walk_nrm;have CA:=C2.less L1;obtain ⟨oN1,qN⟩:=CA.mine N oN;obtain ⟨oB1,qB⟩:=CA.mine (N+1) oB;obtain ⟨oK1,qK⟩:=CA.mine (N+2) oK;have eN1:=qN.trans eN;have eB1:=qB.trans eB.out;have eK1:=qK.trans eK.out;clear qB qK qN;have hH2:HeldC own2 w2.heap ib s v p:=hH.keep fun b t _ q=>C2.tg b t q;generalize hmc:(fun s v=>zb1 (xcasP LB s (zdf v o.b) (fun t=>κ (if t then ⟨true,zdf v o.b,[]⟩ else ⟨false,0,[]⟩)))) s v m2=mc;replace hmc:=yay hmc;obtain ⟨K3,hN⟩:∃ N,w2.heap.size=N:=⟨_,rfl⟩;have hOk:=(C2.st O).okd;have hD0:md.D w2.heap.size=none:=C2.dn O (yax _);refine zbs (O.xc ..) 3 2 (by decide) (by decide) (zai (by kernel_rfl)) (C2.st O) fun wp hp=>?_;simp only [yaf,yag,yad,yae];have hsz:wp.heap.size=K3:=by rw [hp.heap,za2];exact hN
 replace hsz:=yay hsz;replace hp:=yay hp;replace eN1:=yay eN1;replace eB1:=yay eB1;replace eK1:=yay eK1
 try unfold gpv at *
 go_wp2_with fail
 refine ⟨⟨rfl,rfl⟩,w2.alloc (.cells #[.pointer p,.pointer (some ⟨bb,0,none⟩)] 119),rfl,zej hOk _,?_,?_⟩
 ·exact zeh hp.out _ hD0
 rw [hsz.out];clear hp hsz wp;refine zad (O.xc ..) ?_;obtain rfl:=hR0.out;clear hR0;have e3:(w2.alloc (.cells #[.pointer p,.pointer (some ⟨bb,0,none⟩)] 119)).heap[K3]?=some (.cells #[.pointer p,gpv bb] 119 (0,0)):=by rw [← hN];exact heap_alloc_new _ _
 have k3:∀ b,b < w2.heap.size→(w2.alloc (.cells #[.pointer p,.pointer (some ⟨bb,0,none⟩)] 119)).heap[b]?=w2.heap[b]?:=fun b hb=>Below.heap_alloc _ _ _ hb;have s3:(w2.alloc (.cells #[.pointer p,.pointer (some ⟨bb,0,none⟩)] 119)).heap.size=K3+1:=by rw [← hN];exact Array.size_push _
 generalize w2.alloc (.cells #[.pointer p,.pointer (some ⟨bb,0,none⟩)] 119)=w3 at *;obtain ⟨own3,C3,hO3,hF3,hn3,ho3⟩:=C2.grown (w1:=w3) O (by omega) (fun b hb _=>k3 b hb);refine O.rebase hO3 hF3 ?_;have L3:Less md.i A₁ w₁ (fun b=>own3 b = .th md.i) ⟨w3.heap,m2,own3⟩:=zde C2 (fun b hb _=>k3 b hb) ho3;have o3:=hn3 K3 (by omega) (by omega);have LLL:=(LL.trans L1).trans L3;have hH3:HeldC own3 w3.heap ib s v p:=hH2.keep fun b t _ q=>by
  have hlt:=C2.lt (b:=b) (by rw [q];simp);exact ⟨(ho3 b hlt).trans q,k3 b hlt⟩
 have lt2:∀ b,own2 b = .th md.i→b < w2.heap.size:=fun b hb=>C2.lt (by rw [hb];simp);have oN3:=(ho3 N (lt2 _ oN1)).trans oN1;have oB3:=(ho3 _ (lt2 _ oB1)).trans oB1;have oK3:=(ho3 _ (lt2 _ oK1)).trans oK1;have eN3:=(k3 N (lt2 _ oN1)).trans eN1.out;have eB3:=(k3 _ (lt2 _ oB1)).trans eB1.out;have eK3:=(k3 _ (lt2 _ oK1)).trans eK1.out;have nK:∀ b,A b→b≠N+2:=fun b h=>by have:=hA.out _ h;omega
 clear hO3 hF3 hn3 ho3 k3 hD0 hOk hN C2 CA lt2 eN1 eB1 eK1 oN1 oB1 oK1 hH2 hH;rw [zck _ rfl];obtain rfl:=hmc.out;clear hmc;refine reg37 O Pt hib (K3:=K3) (N:=N) (w₁:=⟨w3.heap,m2,own3⟩) (A1:=fun b=>own3 b = .th md.i) hH3 (O.endMore hend LLL) C3 oN3 oK3 o3 eN3 e3 eK3 rfl rfl rfl rfl rfl rfl fun t x4 y4 own4 w4 m4 C4 oK4 eK4 u1 u7 u8 u11 u12 u13=>?_;have hBK:N+1≠N+2:=by omega
 obtain ⟨oB4,qB⟩:=C4.mine (N+1) ⟨oB3,hBK⟩;have eB4:=qB.trans eB3;clear qB;have LL4:Less md.i A w₀ (fun b=>own3 b = .th md.i∧b≠N+2) ⟨w3.heap,m2,own3⟩:=LLL.drop nK;cases t with
 | false =>
  show md.GO y4 own4 w4 (κ ⟨false,0,[]⟩ m4) _ w4;generalize hmc:κ ⟨false,0,[]⟩ m4=mc;replace hmc:=yay hmc;refine zas (c:=cB (cB (cA (zb6 14)))) (O.xc ..) rfl fun R0 hR0=>?_;rw [show cA (cB (cB (cA (zb6 14))))=Code.region _ _ _ from rfl]
  unfold A96;simp only [u1,u7,u8,u11,u12,u13];refine O.seg0 C4 zba (zab zah (by kernel_rfl)) rfl (zaa Try.func96) rfl fun wp hp=>?_;obtain ⟨k0,k1,z0,z1⟩:=C4.kf O hp oK4 eK4;replace hp:=yay hp;replace eK4:=yay eK4;replace eB4:=yay eB4;replace eN3:=yay eN3;replace e3:=yay e3
  go_wp2_with fail
  refine ⟨hp.out,?_⟩;clear hp k0 k1 z0 z1 wp;obtain rfl:=hR0.out;clear hR0;rw [show cB (cB (cB (cA (zb6 14))))=Code.cond (.tmp 189) (cA (cB (cB (cB (cA (zb6 14)))))) .skip from rfl]
  refine zao (O.xc ..) (t:=false) rfl ?_;refine za7 (O.xc ..) ?_;refine zbh (O.xc ..) ?_;rw [zck _ rfl];obtain rfl:=hmc.out;exact zh9 O C4 LL4 hA.out oB4 eB4.out rfl ⟨false,0,[]⟩ rfl oK4 eK4.out rfl rfl (hret.out ⟨false,0,[]⟩)
 | true =>
  show md.GO y4 own4 w4 (κ ⟨true,zdf v o.b,[]⟩ m4) _ w4;generalize hmc:κ ⟨true,zdf v o.b,[]⟩ m4=mc;replace hmc:=yay hmc;refine zas (c:=cB (cB (cA (zb6 14)))) (O.xc ..) rfl fun R0 hR0=>?_;rw [show cA (cB (cB (cA (zb6 14))))=Code.region _ _ _ from rfl]
  unfold A96;simp only [u1,u7,u8,u11,u12,u13];refine O.seg0 C4 zba (zab zah (by kernel_rfl)) rfl (zaa Try.func96) rfl fun wp hp=>?_;obtain ⟨k0,k1,z0,z1⟩:=C4.kf O hp oK4 eK4;replace hp:=yay hp;replace eK4:=yay eK4;replace eB4:=yay eB4;replace eN3:=yay eN3;replace e3:=yay e3
  go_wp2_with fail
  refine ⟨hp.out,?_⟩;clear hp k0 k1 z0 z1 wp;obtain rfl:=hR0.out;clear hR0;rw [show cB (cB (cB (cA (zb6 14))))=Code.cond (.tmp 189) (cA (cB (cB (cB (cA (zb6 14)))))) .skip from rfl]
  refine zao (O.xc ..) (t:=true) rfl ?_;rw [if_pos rfl];rw [zck _ rfl];obtain rfl:=hmc.out;have C5:=C4.all;have L5:=LL4.trans C4.allLess;obtain ⟨oN4,qN⟩:=C4.mine N ⟨oN3,by omega⟩;have hKK:K3≠N+2:=fun z=>by
   have:=e3.out;rw [z,eK3] at this;simp at this
  obtain ⟨oH4,qH⟩:=C4.mine K3 ⟨o3,hKK⟩;exact reg39 O (ib:=ib) (s:=s) (p:=p) (K3:=K3) (w₁:=⟨w4.heap,m4,own4⟩) (A1:=fun b=>own4 b = .th md.i) (hH3.keep fun b t _ q=>C4.tg b t q) L5 hA.out C5 oN4 oB4 oK4 oH4 (qN.trans eN3.out) (qH.trans e3.out) eB4.out rfl eK4.out rfl rfl rfl rfl rfl rfl (hret.out ⟨true,zdf v o.b,[]⟩)
theorem dc_none (O:md.Ok) (C:md.C y own A1 w₁ w m) (LL:Less md.i A w₀ A1 w₁) (hA:∀ b,A b→b < N) (oB:own (N+1) = .th md.i) (eB:w.heap[N+1]?=some (.cells #[.bool false,.int .i64 0,.slice none 0 0] 42 (0,0))) (x8:x 8 = .pointer (some ⟨N+1,0,none⟩))
  (hret:∀ v y own w m,md.C y own A w₀ w m→LRow (.th md.i) lo own w v []→(∀ g,v.ownBlock=some g→¬ A g)→md.GO y own w (κ ⟨false,0,[]⟩ m) (G (c.finish (zq1 ⟨false,0,[]⟩ v)) cs) w) :
  md.GO y own w (κ ⟨false,0,[]⟩ m) (G ((base 96).at (A96 x) (.code (cB (zb6 14))::R)) (c::cs)) w:=by
 generalize hmc:κ ⟨false,0,[]⟩ m=mc;replace hmc:=yay hmc;replace hret:=yay hret;replace hA:=yay hA;refine zas (c:=cB (zb6 14)) (O.xc ..) rfl fun R0 hR0=>?_;rw [show cA (cB (zb6 14))=Code.region _ _ _ from rfl]
 unfold A96;simp only [x8];refine zbc (O.xc ..) 2 (by decide) (by decide) (zai (by kernel_rfl)) (C.st O) fun wp hp=>?_;simp only [yad,yae];have hg:=(zbb hp (C.dm O (by rw [oB];simp))).trans eB;have c0:=zae hg 0;have c1:=zae hg 1;have c2:=zae hg 2;have z0:=zau hg 0;have z1:=zau hg 1;have z2:=zau hg 2;simp only [yac,yaa,yab] at c0 c1 c2;replace hg:=yay hg;replace hp:=yay hp;replace eB:=yay eB
 go_wp2_with fail
 refine ⟨⟨rfl,rfl⟩,zmo _ (N+1) ⟨false,0,[]⟩ (.slice none 0 0),rfl,zik (C.st O).okd _ _ _,zij hp.out _ ⟨false,0,[]⟩ (.slice none 0 0),?_⟩;clear hg hp c0 c1 c2 z0 z1 z2 wp;refine zad (O.xc ..) ?_;obtain rfl:=hR0.out;clear hR0;rw [show cB (cB (zb6 14))=Code.ret from rfl]
 obtain rfl:=hmc.out;exact zov O C LL (fun h=>by have:=hA.out _ h;omega) oB eB.out rfl ⟨false,0,[]⟩ LRow.nil (fun g hg=>by cases hg) (hret.out _) Try.func96 (zaa Try.func96) rfl rfl
noncomputable def zoe:Code:=cA (cB (cA (cB c96)))
theorem zv9 (O:md.Ok) (C:md.C y own A1 w₁ w m) (LL:Less md.i A w₀ A1 w₁) (hA:∀ b,A b→b < N) (oB:own (N+1) = .th md.i) (eB:w.heap[N+1]?=some (.cells #[.bool false,.int .i64 0,.slice none 0 0] 42 (0,0))) (x8:x 8 = .pointer (some ⟨N+1,0,none⟩))
  (hret:∀ v y own w m,md.C y own A w₀ w m→LRow (.th md.i) lo own w v []→(∀ g,v.ownBlock=some g→¬ A g)→md.GO y own w (κ ⟨false,0,[]⟩ m) (G (c.finish (zq1 ⟨false,0,[]⟩ v)) cs) w) :
  md.GO y own w (κ ⟨false,0,[]⟩ m) (G ((base 96).at (A96 x) (.code (zoe)::R)) (c::cs)) w:=by
 generalize hmc:κ ⟨false,0,[]⟩ m=mc;replace hmc:=yay hmc;replace hret:=yay hret;replace hA:=yay hA;refine zas (c:=zoe) (O.xc ..) rfl fun R0 hR0=>?_;rw [show cA (zoe)=Code.region _ _ _ from rfl]
 unfold A96;simp only [x8];refine zbc (O.xc ..) 2 (by decide) (by decide) (zai (by kernel_rfl)) (C.st O) fun wp hp=>?_;simp only [yad,yae];have hg:=(zbb hp (C.dm O (by rw [oB];simp))).trans eB;have c0:=zae hg 0;have c1:=zae hg 1;have c2:=zae hg 2;have z0:=zau hg 0;have z1:=zau hg 1;have z2:=zau hg 2;simp only [yac,yaa,yab] at c0 c1 c2;replace hg:=yay hg;replace hp:=yay hp;replace eB:=yay eB
 go_wp2_with fail
 refine ⟨⟨rfl,rfl⟩,zmo _ (N+1) ⟨false,0,[]⟩ (.slice none 0 0),rfl,zik (C.st O).okd _ _ _,zij hp.out _ ⟨false,0,[]⟩ (.slice none 0 0),?_⟩;clear hg hp c0 c1 c2 z0 z1 z2 wp;refine zad (O.xc ..) ?_;obtain rfl:=hR0.out;clear hR0;rw [show cB (zoe)=Code.ret from rfl]
 obtain rfl:=hmc.out;exact zov O C LL (fun h=>by have:=hA.out _ h;omega) oB eB.out rfl ⟨false,0,[]⟩ LRow.nil (fun g hg=>by cases hg) (hret.out _) Try.func96 (zaa Try.func96) rfl rfl
end
structure V96 (sv:Value) (wb fb bb N:Nat) (ok:Int) (x:Nat→Value):Prop where
 x1:x 1=sv
 x7:x 7 = .pointer (some ⟨N,0,none⟩)
 x8:x 8 = .pointer (some ⟨N+1,0,none⟩)
 x9:x 9=gpv wb
 x10:x 10=gpv fb
 x11:x 11=gpv bb
 x12:x 12 = .pointer (some ⟨N+2,0,none⟩)
 q:x 54 = .int .i64 ok
theorem zdy {main:Bool} {K:World→Prop} {Still:Loc→Prop} {Inb:Nat→Option Seat} {GO:Goroutine→World→Prop} (X:XC Try.prog main K Still Inb GO) {k:List Item} {cs:List Frame} {w:World} {id d1 d2 t1 t2:Nat} {p1 p2:String} {e1 e2:Array Edge} {sv:Value} {wb fb bb N:Nat} {ok n:Int} {A B:Code} {x:Nat→Value} (Y:V96 sv wb fb bb N ok x) (hd:∀ j∈[1,7,8,9,10,11,12,54],j≠d1∧j≠d2) (h1:d1 < 197) (h2:d2 < 197)
  (hp:ok=n→∀ y,V96 sv wb fb bb N ok y→GO (G ((base 96).at (A96 y) (.code A::k)) cs) w) (hn:ok≠n→∀ y,V96 sv wb fb bb N ok y→GO (G ((base 96).at (A96 y) (.code B::k)) cs) w) :
  GO (G ((base 96).at (A96 x) (.code (.seq (.region id #[⟨some d1,.binOp .eql 3 (.tmp 54) (.const (.int .i64 n)) 3,t1,p1,e1,none⟩,⟨some d2,.assign (.tmp d1),t2,p2,e2,none⟩] false) (.cond (.tmp d2) A B))::k)) cs) w:=by
 have hs:(A96 x).tmps.size=197:=rfl;have fin:∀ v:Value,∃ y,(⟨((A96 x).tmps.setIfInBounds d1 v).setIfInBounds d2 v,[]⟩:Act)=A96 y∧V96 sv wb fb bb N ok y:=fun v=>by
  refine ⟨_,zck _ (by rw [Array.size_setIfInBounds,Array.size_setIfInBounds];exact hs),?_⟩;have e:∀ j,j∈[1,7,8,9,10,11,12,54]→(((A96 x).tmps.setIfInBounds d1 v).setIfInBounds d2 v).getD j undef=(A96 x).tmps.getD j undef:=fun j hj=>by
   rw [Array.getD_eq_getD_getElem?,Array.getD_eq_getD_getElem?,Array.getElem?_setIfInBounds_ne (Ne.symm (hd j hj).2),Array.getElem?_setIfInBounds_ne (Ne.symm (hd j hj).1)]
  exact ⟨(e 1 (by decide)).trans Y.x1,(e 7 (by decide)).trans Y.x7,(e 8 (by decide)).trans Y.x8,(e 9 (by decide)).trans Y.x9,(e 10 (by decide)).trans Y.x10,(e 11 (by decide)).trans Y.x11,(e 12 (by decide)).trans Y.x12,(e 54 (by decide)).trans Y.q⟩
 refine x_disp X (l:=(A96 x).tmps) (by decide) (congrArg some Y.q) (hs▸h1) (hs▸h2) (fun h=>?_) fun h=>?_
 ·obtain ⟨y,e,V⟩:=fin (.bool true);rw [e];exact hp h y V
 ·obtain ⟨y,e,V⟩:=fin (.bool false);rw [e];exact hn h y V
theorem zig {w v:World} (h:Sim w v):Sim w.drew v:=by
 obtain ⟨τ,d,rfl⟩:=h;exact ⟨τ,d+1,rfl⟩
def RowT (own:Nat→Owner) (hp:Array Obj) (e:TypeId) (v:Value) (n:Nat) (f:Nat→Nat):Prop:=∃ a cap,v = .slice a n cap∧n≤cap∧(0 < n→∃ b c,a=some ⟨b,0,none⟩∧own b = .tag 1∧hp[b]?=some (.cells c e (0,0))∧∀ i,i < n→c[i]?=some (gpv (f i)))
structure PlAt (P:Nat) (L:CL) (own:Nat→Owner) (w:World):Prop where
 tag:own P = .tag 1
 at_:∃ vw vf vb,w.heap[P]?=some (.cells #[vw,vf,vb] 256 (0,0))∧RowT own w.heap 73 vw L.n L.wb∧RowT own w.heap 75 vf L.n L.fb∧RowT own w.heap 77 vb L.n L.bb
theorem RowT.keep {own own':Nat→Owner} {hp hp':Array Obj} {e:TypeId} {v:Value} {n:Nat} {f:Nat→Nat} (h:RowT own hp e v n f) (hk:∀ b v,0 < v→own b = .tag v→own' b = .tag v∧hp'[b]?=hp[b]?):RowT own' hp' e v n f:=by
 obtain ⟨a,cap,e0,h0,q⟩:=h;exact ⟨a,cap,e0,h0,fun hn=>by
  obtain ⟨b,c,e1,e2,e3,e4⟩:=q hn;exact ⟨b,c,e1,(hk b 1 (by decide) e2).1,(hk b 1 (by decide) e2).2.trans e3,e4⟩⟩
theorem PlAt.stab (P:Nat) (L:CL):Stab (PlAt P L):=fun {own own' w w'} h hk=>by
 obtain ⟨h1,vw,vf,vb,h2,h3,h4,h5⟩:=h;exact ⟨(hk P 1 (by decide) h1).1,vw,vf,vb,(hk P 1 (by decide) h1).2.trans h2,h3.keep hk,h4.keep hk,h5.keep hk⟩
def doC (n f:Nat) (o:OpD) (κ:Ans→Fu (SM zge)):Fu (SM zge) :=
 if o.a < 0∨(n:Int)≤o.a then κ ⟨false,0,[]⟩
 else if o.kind=1 then zeb (zle o.a.toNat) (fun r=>κ ⟨true,r,[]⟩)
 else if o.kind=2 then zhg (zle o.a.toNat) o.b (κ ⟨true,0,[]⟩)
 else if o.kind=3 then znr (zle o.a.toNat) o.b (fun r=>κ ⟨true,r,[]⟩)
 else if o.kind=4 then zj5 (zle o.a.toNat) o.b (fun r=>κ ⟨true,r,[]⟩)
 else if o.kind=5 then zhh (zle o.a.toNat) o.b o.c (fun t=>κ ⟨t,0,[]⟩)
 else if o.kind=6 then zca (zle o.a.toNat) (grT o.b) (fun r t=>κ ⟨t,r,[]⟩) f
 else if o.kind=7 then zca (zle o.a.toNat) (leT o.b) (fun r t=>κ ⟨t,r,[]⟩) f
 else if o.kind=8 then zca (zle o.a.toNat) (buT o.b o.c) (fun r t=>κ ⟨t,r,[]⟩) f
 else if o.kind=9 then zkk (zu0 o.a.toNat) (fun t=>κ ⟨t,0,[]⟩)
 else if o.kind=10 then zqp (zu0 o.a.toNat) (fun t=>κ ⟨t,0,[]⟩)
 else if o.kind=11 then zhw (zu0 o.a.toNat) (fun t=>κ ⟨t,0,[]⟩)
 else if o.kind=12 then xloadF (zqo o.a.toNat) (fun _ v=>κ ⟨true,v,[]⟩)
 else if o.kind=13 then zhd (zqo o.a.toNat) o.b (κ ⟨true,0,[]⟩)
 else if o.kind=14 then zj4 (zqo o.a.toNat) o.b (fun r=>κ ⟨true,r,[]⟩)
 else if o.kind=15 then xloadF (zqo o.a.toNat) (fun s v=>zb1 (xcasP (zqo o.a.toNat) s (zdf v o.b) (fun t=>κ (if t then ⟨true,zdf v o.b,[]⟩ else ⟨false,0,[]⟩))))
 else κ ⟨false,0,[]⟩
section
variable {md:Md (SM zge)} {L:CL} {Z:AL} {P lo:Nat}
theorem doC_ok (O:md.Ok) (hmd:md.Rep=GRep (zhb L (PlAt P L)) Z) (f:Nat) (hlo:∀ {m own w},md.Rep m own w→lo≤w.heap.size):DoOk md lo 96 (gpv P) (doC L.n f):=by
 intro o th κ A w₀ c cs ho hend hret y own w m C;obtain ⟨ok,oa,ob,oc⟩:=o;unfold opV gpv;rw [enter_at _ Try.func96 rfl];simp only [Try.ntmps96,yan,yau,yav,Nat.reduceAdd,Nat.reduceSub,yao,
   yap,yaq,yar,yas,yat]
 show md.GO _ _ _ _ (G ((base 96).at _ [.code c96]) _) _;generalize hmc:doC L.n f ⟨ok,oa,ob,oc⟩ κ m=mc;replace hmc:=yay hmc;replace hret:=yay hret;obtain ⟨N,hN⟩:∃ N,w.heap.size=N:=⟨_,rfl⟩;have hloN:=hlo C.rep;refine zas (c:=c96) (O.xc ..) rfl fun R0 hR0=>?_;rw [show cA c96=Code.region _ _ _ from rfl]
 refine O.segA C zba (zab zah (by kernel_rfl)) rfl (zaa Try.func96) rfl fun wp hp=>?_;have hsz:wp.heap.size=N:=by rw [hp.heap,za2];exact hN
 replace hp:=yay hp;replace hsz:=yay hsz;replace hN:=yay hN;replace hloN:=yay hloN
 go_wp2_with fail
 rw [hsz.out];refine fun w1 q1 q2 q3=>O.two C hp.out rfl hN.out q1 q2 q3 fun own1 C1 e1 e2 s1 o1 o2 LL low=>?_;have hA:∀ b,A b→b < N:=fun b hb=>by
  rw [← hN.out];exact C.lt (by rw [(C.mine b hb).1];simp)
 clear q1 q2 q3 hp hsz wp low;obtain rfl:=hR0.out;clear hR0;have hQ:PlAt P L own1 w1:=by
  have:=C1.rep;rw [hmd] at this;exact this.fam.2
 obtain ⟨hPt,vw,vf,vb,hP,hrw,hrf,hrb⟩:=hQ;have hn6:L.n≤65536:=by
  have:=C1.rep;rw [hmd] at this;exact this.fam.1.n
 obtain ⟨aw,cw,rfl,hcw,hrw⟩:=hrw;obtain ⟨af,cf,rfl,hcf,hrf⟩:=hrf;obtain ⟨ab,cb,rfl,hcb,hrb⟩:=hrb;obtain ⟨n,hnn⟩:∃ n,L.n=n:=⟨_,rfl⟩;rw [hnn] at hP hrw hrf hrb hn6 hmc;rw [hnn] at hcw hcf hcb;replace hnn:=yay hnn;replace C:=yay C;replace hA:=yay hA;replace s1:=yay s1;replace hP:=yay hP;replace hrw:=yay hrw;replace hrf:=yay hrf;replace hrb:=yay hrb;replace hn6:=yay hn6;have cP:Hid (∀ wp:World,Sim wp (poi md.D w1)→wp.cell? ⟨P,0,none⟩=some (.slice aw n cw)∧wp.cell? ⟨P,1,none⟩=some (.slice af n cf)∧wp.cell? ⟨P,2,none⟩=some (.slice ab n cb)):=yay fun wp hp=>by
  have g:=(zbb hp (C1.dm O (by rw [hPt];simp))).trans hP.out;exact ⟨zae g 0,zae g 1,zae g 2⟩
 have cN:Hid (∀ wp:World,Sim wp (poi md.D w1)→wp.cell? ⟨N,0,none⟩=some (.int .i64 ok)∧wp.cell? ⟨N,1,none⟩=some (.int .i64 oa)):=yay fun wp hp=>by
  have g:=(zbb hp (C1.dm O (by rw [o1];simp))).trans e1;exact ⟨zae g 0,zae g 1⟩
 refine zas (c:=cB c96) (O.xc ..) rfl fun R0 hR0=>?_;refine zas (c:=cA (cB c96)) (O.xc ..) rfl fun R1 hR1=>?_;rw [show cA (cA (cB c96))=Code.region _ _ _ from rfl]
 by_cases hneg:oa < 0
 ·have hbad:oa < 0∨(n:Int)≤oa := .inl hneg;have hd:decide (oa < 0)=true:=decide_eq_true hneg;have eD:doC n f ⟨ok,oa,ob,oc⟩ κ=κ ⟨false,0,[]⟩:=by unfold doC;rw [if_pos hbad]
  rw [eD] at hmc;clear eD;clear hneg;replace hbad:=yay hbad;refine O.seg0 C1 zba (zab zah (by kernel_rfl)) rfl (zaa Try.func96) rfl fun wp hp=>?_;have p0:=(cP.out wp hp).1;have n1:=(cN.out wp hp).2;replace hp:=yay hp;go_region
  go_wp2_with fail
  refine ⟨zig hp.out,?_⟩;clear hp p0 n1 wp;obtain rfl:=hR1.out;clear hR1;rw [show cB (cA (cB c96))=Code.cond (.tmp 26) zoe .skip from rfl]
  refine zao (O.xc ..) (t:=true) rfl ?_;rw [if_pos rfl,zck _ rfl];obtain rfl:=hmc.out;exact zv9 O C1 LL hA.out o2 e2 rfl (hret.out ⟨false,0,[]⟩)
 have hd:decide (oa < 0)=false:=decide_eq_false hneg;by_cases hge:oa≥n
 ·have hbad:oa < 0∨(n:Int)≤oa := .inr hge;have hd2:decide (oa≥n)=true:=decide_eq_true hge;have eD:doC n f ⟨ok,oa,ob,oc⟩ κ=κ ⟨false,0,[]⟩:=by unfold doC;rw [if_pos hbad]
  rw [eD] at hmc;clear eD;clear hneg hge;replace hbad:=yay hbad;refine O.seg0 C1 zba (zab zah (by kernel_rfl)) rfl (zaa Try.func96) rfl fun wp hp=>?_;have p0:=(cP.out wp hp).1;have n1:=(cN.out wp hp).2;replace hp:=yay hp;go_region
  go_wp2_with fail
  refine ⟨zig hp.out,?_⟩;clear hp p0 n1 wp;obtain rfl:=hR1.out;clear hR1;rw [show cB (cA (cB c96))=Code.cond (.tmp 26) zoe .skip from rfl]
  refine zao (O.xc ..) (t:=true) rfl ?_;rw [if_pos rfl,zck _ rfl];obtain rfl:=hmc.out;exact zv9 O C1 LL hA.out o2 e2 rfl (hret.out ⟨false,0,[]⟩)
 have hd2:decide (oa≥n)=false:=decide_eq_false hge;obtain ⟨j,rfl⟩:∃ j:Nat,oa=j:=⟨oa.toNat,by omega⟩;have hj:j < n:=by omega
 have hgood:¬ (((j:Nat):Int) < 0∨(n:Int)≤((j:Nat):Int)):=by omega
 replace hgood:=yay hgood;clear hneg hge;refine O.seg0 C1 zba (zab zah (by kernel_rfl)) rfl (zaa Try.func96) rfl fun wp hp=>?_;have p0:=(cP.out wp hp).1;have n1:=(cN.out wp hp).2;replace hp:=yay hp;go_region
 go_wp2_with fail
 refine ⟨zig hp.out,?_⟩;clear hp p0 n1 wp;obtain rfl:=hR1.out;clear hR1 hd hd2;rw [show cB (cA (cB c96))=Code.cond (.tmp 26) zoe .skip from rfl]
 refine zao (O.xc ..) (t:=false) (by show Value.bool (decide (n≤j))=_;rw [decide_eq_false (by omega)]) ?_;refine za7 (O.xc ..) ?_;obtain rfl:=hR0.out;clear hR0;have hjL:j < L.n:=by rw [hnn.out];exact hj
 have hPW:=partW (i:=j) (PlAt.stab P L) hmd hjL;have hPF:=partF (i:=j) (PlAt.stab P L) hmd hjL;have hPB:=partB (i:=j) (PlAt.stab P L) hmd hjL;have hib:j < 65536:=by have:=hn6.out;omega
 obtain ⟨rw_,rwc,rfl,ow,ew,cw'⟩:=hrw.out (by omega);obtain ⟨rf_,rfc,rfl,of_,ef,cf'⟩:=hrf.out (by omega);obtain ⟨rb_,rbc,rfl,ob_,eb,cb'⟩:=hrb.out (by omega);have hw3:=cw' j hj;have hf3:=cf' j hj;have hb3:=cb' j hj;clear cw' cf' cb' hrw hrf hrb;have cR:Hid (∀ wp:World,Sim wp (poi md.D w1)→wp.cell? ⟨rw_,j,none⟩=some (gpv (L.wb j))∧wp.cell? ⟨rf_,j,none⟩=some (gpv (L.fb j))∧wp.cell? ⟨rb_,j,none⟩=some (gpv (L.bb j))):=yay fun wp hp=>by
  have g1:=(zbb hp (C1.dm O (by rw [ow];simp))).trans ew;have g2:=(zbb hp (C1.dm O (by rw [of_];simp))).trans ef;have g3:=(zbb hp (C1.dm O (by rw [ob_];simp))).trans eb;exact ⟨(zae g1 j).trans hw3,(zae g2 j).trans hf3,(zae g3 j).trans hb3⟩
 clear hw3 hf3 hb3 ow of_ ob_ ew ef eb;have q0:(0:Int)≤(j:Nat):=by omega
 have q1:(j:Int) < (n:Int):=by omega
 generalize hwb:L.wb j=wb at *;generalize hfb:L.fb j=fb at *;generalize hbb:L.bb j=bb at *;unfold gpv at cR;refine zas (c:=cB (cB c96)) (O.xc ..) rfl fun R0 hR0=>?_;rw [show cA (cB (cB c96))=Code.region _ _ _ from rfl]
 refine O.seg0 C1 zba (zab zah (by kernel_rfl)) rfl (zaa Try.func96) rfl fun wp hp=>?_;obtain ⟨p0,p1,p2⟩:=cP.out wp hp;obtain ⟨r0,r1,r2⟩:=cR.out wp hp;have n1:=(cN.out wp hp).2;replace hp:=yay hp
 go_region_held3 (fun W'=>W'.cell? ⟨P,0,none⟩=some (.slice (some ⟨rw_,0,none⟩) n cw)∧W'.cell? ⟨P,1,none⟩=some (.slice (some ⟨rf_,0,none⟩) n cf)∧W'.cell? ⟨P,2,none⟩=some (.slice (some ⟨rb_,0,none⟩) n cb)∧W'.cell? ⟨rw_,j,none⟩=some (.pointer (some ⟨wb,0,none⟩))∧W'.cell? ⟨rf_,j,none⟩=some (.pointer (some ⟨fb,0,none⟩))∧W'.cell? ⟨rb_,j,none⟩=some (.pointer (some ⟨bb,0,none⟩))∧W'.cell? ⟨N,1,none⟩=some (.int .i64 (j:Nat)))
  (exact ⟨p0,p1,p2,r0,r1,r2,n1⟩)
  (fail)
 go_wp2_with fail
 refine ⟨zig hp.out,?_⟩;rename_i hHd;clear hHd hp p0 p1 p2 r0 r1 r2 n1 wp;obtain rfl:=hR0.out;clear hR0;have hI1:=C1;refine zas (c:=cB (cB (cB c96))) (O.xc ..) rfl fun R0 hR0=>?_;rw [show cA (cB (cB (cB c96)))=Code.region _ _ _ from rfl]
 have s1':=s1.out;refine O.segA C1 zba (zab zah (by kernel_rfl)) rfl (zaa Try.func96) rfl fun wp hp=>?_;have hsz:wp.heap.size=N+2:=by rw [hp.heap,za2];exact s1'
 clear s1';replace hp:=yay hp;replace hsz:=yay hsz;replace hN:=yay hN;replace hloN:=yay hloN
 go_wp2_with fail
 rw [hsz.out];refine fun w4 q1 q2 q3=>O.one C1 hp.out rfl s1.out q1 q2 q3 fun own4 C4 e4 s4 o4 L4 low4=>?_;have hlt0:N < w1.heap.size:=by rw [s1.out];omega
 have hlt1:N+1 < w1.heap.size:=by rw [s1.out];omega
 have eN4:=(low4 N (by omega)).1.trans e1;have oN4:=(low4 N (by omega)).2.trans o1;have eB4:=(low4 (N+1) (by omega)).1.trans e2;have oB4:=(low4 (N+1) (by omega)).2.trans o2;have LL4:=LL.trans L4;clear q1 q2 q3 hp hsz wp low4 hI1 hlt0 hlt1;obtain rfl:=hR0.out;clear hR0;have mkI:∀ x:Nat→Value,x 1=md.sv→x 7 = .pointer (some ⟨N,0,none⟩)→x 8 = .pointer (some ⟨N+1,0,none⟩)→x 9=gpv wb→x 10=gpv fb→x 11=gpv bb→x 12 = .pointer (some ⟨N+2,0,none⟩)→zno md wb fb bb lo A w₀ c cs κ ⟨ok,(j:Nat),ob,oc⟩ y own4 w4 m N x:=fun x z1 z7 z8 z9 z10 z11 z12=>⟨ho,hend,hret.out,C4,LL4,hA.out,oN4,eN4,oB4,eB4,o4,e4,z1,z7,z8,z9,z10,z11,z12⟩;replace mkI:=yay mkI;replace hend:=yay hend;replace ho:=yay ho;replace LL:=yay LL;replace LL4:=yay LL4;replace L4:=yay L4;replace s1:=yay s1;replace s4:=yay s4;replace e1:=yay e1;replace e2:=yay e2;replace eN4:=yay eN4;replace eB4:=yay eB4;replace e4:=yay e4;replace C1:=yay C1;have n4:Hid (∀ wp:World,Sim wp (poi md.D w4)→wp.cell? ⟨N,0,none⟩=some (.int .i64 ok)):=yay fun wp hp=>by
  have g:=(zbb hp (C4.dm O (by rw [oN4];simp))).trans eN4.out;exact zae g 0
 clear cP cN cR hP;refine zas (c:=cB (cB (cB (cB c96)))) (O.xc ..) rfl fun R0 hR0=>?_;refine zas (c:=cA (cB (cB (cB (cB c96))))) (O.xc ..) rfl fun R1 hR1=>?_;rw [show cA (cA (cB (cB (cB (cB c96)))))=Code.region _ _ _ from rfl]
 refine O.seg0 C4 zba (zab zah (by kernel_rfl)) rfl (zaa Try.func96) rfl fun wp hp=>?_;have k0:=n4.out wp hp;replace hp:=yay hp
 go_wp2_with fail
 refine ⟨hp.out,?_⟩;clear hp k0 wp;obtain rfl:=hR1.out;clear hR1;rw [show cB (cA (cB (cB (cB (cB c96)))))=Code.block _ (cA (cB (cA (cB (cB (cB (cB c96))))))) from rfl]
 refine zb7 (O.xc ..) ?_;have hm:=hmc.out;unfold doC at hm;rw [if_neg hgood.out] at hm;dsimp only at hm;replace hmc:=yay hm;clear hm;rw [zck _ rfl];refine zdy (A:=cA (zb6 0)) (B:=cB (zb6 0)) (O.xc ..) (show V96 md.sv wb fb bb N ok _ from ⟨rfl,rfl,rfl,rfl,rfl,rfl,rfl,rfl⟩) (by decide) (by decide) (by decide) (fun k x V=>?_) fun k x V=>?_
 ·have hm:=hmc.out;rw [if_pos k] at hm;obtain rfl:=hR0.out;obtain rfl:=hm;exact dc_load O hPW (o:=⟨ok,(j:Nat),ob,oc⟩) (mkI.out _ V.x1 V.x7 V.x8 V.x9 V.x10 V.x11 V.x12)
 have hm:=hmc.out;rw [if_neg k] at hm;replace hmc:=yay hm;clear hm k;refine zdy (A:=cA (zb6 1)) (B:=cB (zb6 1)) (O.xc ..) V (by decide) (by decide) (by decide) (fun k x V=>?_) fun k x V=>?_
 ·have hm:=hmc.out;rw [if_pos k] at hm;obtain rfl:=hR0.out;obtain rfl:=hm;exact zvl O hPW (o:=⟨ok,(j:Nat),ob,oc⟩) (mkI.out _ V.x1 V.x7 V.x8 V.x9 V.x10 V.x11 V.x12)
 have hm:=hmc.out;rw [if_neg k] at hm;replace hmc:=yay hm;clear hm k;refine zdy (A:=cA (zb6 2)) (B:=cB (zb6 2)) (O.xc ..) V (by decide) (by decide) (by decide) (fun k x V=>?_) fun k x V=>?_
 ·have hm:=hmc.out;rw [if_pos k] at hm;obtain rfl:=hR0.out;obtain rfl:=hm;exact dc_add O hPW (o:=⟨ok,(j:Nat),ob,oc⟩) (mkI.out _ V.x1 V.x7 V.x8 V.x9 V.x10 V.x11 V.x12)
 have hm:=hmc.out;rw [if_neg k] at hm;replace hmc:=yay hm;clear hm k;refine zdy (A:=cA (zb6 3)) (B:=cB (zb6 3)) (O.xc ..) V (by decide) (by decide) (by decide) (fun k x V=>?_) fun k x V=>?_
 ·have hm:=hmc.out;rw [if_pos k] at hm;obtain rfl:=hR0.out;obtain rfl:=hm;exact dc_swap O hPW (o:=⟨ok,(j:Nat),ob,oc⟩) (mkI.out _ V.x1 V.x7 V.x8 V.x9 V.x10 V.x11 V.x12)
 have hm:=hmc.out;rw [if_neg k] at hm;replace hmc:=yay hm;clear hm k;refine zdy (A:=cA (zb6 4)) (B:=cB (zb6 4)) (O.xc ..) V (by decide) (by decide) (by decide) (fun k x V=>?_) fun k x V=>?_
 ·have hm:=hmc.out;rw [if_pos k] at hm;obtain rfl:=hR0.out;obtain rfl:=hm;exact dc_cas O hPW (o:=⟨ok,(j:Nat),ob,oc⟩) (mkI.out _ V.x1 V.x7 V.x8 V.x9 V.x10 V.x11 V.x12)
 have hm:=hmc.out;rw [if_neg k] at hm;replace hmc:=yay hm;clear hm k;refine zdy (A:=cA (zb6 5)) (B:=cB (zb6 5)) (O.xc ..) V (by decide) (by decide) (by decide) (fun k x V=>?_) fun k x V=>?_
 ·have hm:=hmc.out;rw [if_pos k] at hm;obtain rfl:=hR0.out;obtain rfl:=hm;exact zor O hPW f (o:=⟨ok,(j:Nat),ob,oc⟩) (mkI.out _ V.x1 V.x7 V.x8 V.x9 V.x10 V.x11 V.x12)
 have hm:=hmc.out;rw [if_neg k] at hm;replace hmc:=yay hm;clear hm k;refine zdy (A:=cA (zb6 6)) (B:=cB (zb6 6)) (O.xc ..) V (by decide) (by decide) (by decide) (fun k x V=>?_) fun k x V=>?_
 ·have hm:=hmc.out;rw [if_pos k] at hm;obtain rfl:=hR0.out;obtain rfl:=hm;exact zvm O hPW f (o:=⟨ok,(j:Nat),ob,oc⟩) (mkI.out _ V.x1 V.x7 V.x8 V.x9 V.x10 V.x11 V.x12)
 have hm:=hmc.out;rw [if_neg k] at hm;replace hmc:=yay hm;clear hm k;refine zdy (A:=cA (zb6 7)) (B:=cB (zb6 7)) (O.xc ..) V (by decide) (by decide) (by decide) (fun k x V=>?_) fun k x V=>?_
 ·have hm:=hmc.out;rw [if_pos k] at hm;obtain rfl:=hR0.out;obtain rfl:=hm;exact dc_bump O hPW f (o:=⟨ok,(j:Nat),ob,oc⟩) (mkI.out _ V.x1 V.x7 V.x8 V.x9 V.x10 V.x11 V.x12)
 have hm:=hmc.out;rw [if_neg k] at hm;replace hmc:=yay hm;clear hm k;refine zdy (A:=cA (zb6 8)) (B:=cB (zb6 8)) (O.xc ..) V (by decide) (by decide) (by decide) (fun k x V=>?_) fun k x V=>?_
 ·have hm:=hmc.out;rw [if_pos k] at hm;obtain rfl:=hR0.out;obtain rfl:=hm;exact zvn O hPF (o:=⟨ok,(j:Nat),ob,oc⟩) (mkI.out _ V.x1 V.x7 V.x8 V.x9 V.x10 V.x11 V.x12)
 have hm:=hmc.out;rw [if_neg k] at hm;replace hmc:=yay hm;clear hm k;refine zdy (A:=cA (zb6 9)) (B:=cB (zb6 9)) (O.xc ..) V (by decide) (by decide) (by decide) (fun k x V=>?_) fun k x V=>?_
 ·have hm:=hmc.out;rw [if_pos k] at hm;obtain rfl:=hR0.out;obtain rfl:=hm;exact dc_fset O hPF (o:=⟨ok,(j:Nat),ob,oc⟩) (mkI.out _ V.x1 V.x7 V.x8 V.x9 V.x10 V.x11 V.x12)
 have hm:=hmc.out;rw [if_neg k] at hm;replace hmc:=yay hm;clear hm k;refine zdy (A:=cA (zb6 10)) (B:=cB (zb6 10)) (O.xc ..) V (by decide) (by decide) (by decide) (fun k x V=>?_) fun k x V=>?_
 ·have hm:=hmc.out;rw [if_pos k] at hm;obtain rfl:=hR0.out;obtain rfl:=hm;exact ztd O hPF (o:=⟨ok,(j:Nat),ob,oc⟩) (mkI.out _ V.x1 V.x7 V.x8 V.x9 V.x10 V.x11 V.x12)
 have hm:=hmc.out;rw [if_neg k] at hm;replace hmc:=yay hm;clear hm k;refine zdy (A:=cA (zb6 11)) (B:=cB (zb6 11)) (O.xc ..) V (by decide) (by decide) (by decide) (fun k x V=>?_) fun k x V=>?_
 ·have hm:=hmc.out;rw [if_pos k] at hm;obtain rfl:=hR0.out;obtain rfl:=hm;exact zvk O hPB (o:=⟨ok,(j:Nat),ob,oc⟩) (mkI.out _ V.x1 V.x7 V.x8 V.x9 V.x10 V.x11 V.x12)
 have hm:=hmc.out;rw [if_neg k] at hm;replace hmc:=yay hm;clear hm k;refine zdy (A:=cA (zb6 12)) (B:=cB (zb6 12)) (O.xc ..) V (by decide) (by decide) (by decide) (fun k x V=>?_) fun k x V=>?_
 ·have hm:=hmc.out;rw [if_pos k] at hm;obtain rfl:=hR0.out;obtain rfl:=hm;exact ztc O hPB hib (o:=⟨ok,(j:Nat),ob,oc⟩) (mkI.out _ V.x1 V.x7 V.x8 V.x9 V.x10 V.x11 V.x12)
 have hm:=hmc.out;rw [if_neg k] at hm;replace hmc:=yay hm;clear hm k;refine zdy (A:=cA (zb6 13)) (B:=cB (zb6 13)) (O.xc ..) V (by decide) (by decide) (by decide) (fun k x V=>?_) fun k x V=>?_
 ·have hm:=hmc.out;rw [if_pos k] at hm;obtain rfl:=hR0.out;obtain rfl:=hm;exact zvj O hPB hib (o:=⟨ok,(j:Nat),ob,oc⟩) (mkI.out _ V.x1 V.x7 V.x8 V.x9 V.x10 V.x11 V.x12)
 have hm:=hmc.out;rw [if_neg k] at hm;replace hmc:=yay hm;clear hm k;refine zdy (A:=cA (zb6 14)) (B:=cB (zb6 14)) (O.xc ..) V (by decide) (by decide) (by decide) (fun k x V=>?_) fun k x V=>?_
 ·have hm:=hmc.out;rw [if_pos k] at hm;obtain rfl:=hR0.out;obtain rfl:=hm;exact zte O hPB hib (o:=⟨ok,(j:Nat),ob,oc⟩) (mkI.out _ V.x1 V.x7 V.x8 V.x9 V.x10 V.x11 V.x12)
 have hm:=hmc.out;rw [if_neg k] at hm;replace hmc:=yay hm;clear hm k;obtain rfl:=hR0.out;obtain rfl:=hmc.out;exact dc_none O C4 LL4.out hA.out oB4 eB4.out V.x8 (hret.out ⟨false,0,[]⟩)
end
section
variable {S:Type} {i d n f:Nat}
theorem zpo {L:zcl S Int} {κ:Int→Fu (SM S)} (h:∀ r,zbi i (κ r)):zbi i (zeb L κ) :=
 zdm (zd9 (κ:=fun m=>κ (L.get m.st)) (f:=id) (fun _=>rfl) fun _=>h _)
theorem zsz {L:zcl S Int} {v:Int} {κ:Fu (SM S)} (h:zbi i κ):zbi i (zhg L v κ) :=
 zdm (zd9 (κ:=fun _=>κ) (f:=fun m=>m.with (L.put v m.st)) (fun _=>rfl) fun _=>h)
theorem fp_wadd {L:zcl S Int} {v:Int} {κ:Int→Fu (SM S)} (h:∀ r,zbi i (κ r)):zbi i (znr L v κ) :=
 zdm (zd9 (κ:=fun m=>κ (zdf (L.get m.st) v)) (f:=fun m=>m.with (L.put (zdf (L.get m.st) v) m.st)) (fun _=>rfl) fun _=>h _)
theorem zvb {L:zcl S Int} {v:Int} {κ:Int→Fu (SM S)} (h:∀ r,zbi i (κ r)):zbi i (zj5 L v κ) :=
 zdm (zd9 (κ:=fun m=>κ (L.get m.st)) (f:=fun m=>m.with (L.put v m.st)) (fun _=>rfl) fun _=>h _)
theorem zs0 {L:zcl S Int} {x v:Int} {κ:Bool→Fu (SM S)} (h:∀ t,zbi i (κ t)):zbi i (zhh L x v κ):=by
 refine zdm fun m=>?_;unfold zib;split
 ·exact ⟨fun j hj=>((h true _).1 j hj).trans rfl,(h true _).2⟩
 ·exact h false m
theorem ziq {L:zcl S Int} {tst:Int→Option Int} {κ:Int→Bool→Fu (SM S)} (h:∀ r t,zbi i (κ r t)):∀ f,zbi i (zca L tst κ f)
 | 0=>fp_cut
 | f+1=>zpo fun x=>by
  unfold zcb;split
  ·exact h _ _
  ·refine zs0 fun t=>?_;split
   ·exact h _ _
   ·exact ziq h f
theorem zvc {L:zcl S Bool} {κ:Bool→Fu (SM S)} (h:∀ r,zbi i (κ r)):zbi i (zkk L κ) :=
 zdm (zd9 (κ:=fun m=>κ (L.get m.st)) (f:=id) (fun _=>rfl) fun _=>h _)
theorem fp_fset {L:zcl S Bool} {κ:Bool→Fu (SM S)} (h:∀ r,zbi i (κ r)):zbi i (zqp L κ) :=
 zdm (zd9 (κ:=fun m=>κ (!L.get m.st)) (f:=fun m=>m.with (L.put true m.st)) (fun _=>rfl) fun _=>h _)
theorem zs1 {L:zcl S Bool} {κ:Bool→Fu (SM S)} (h:∀ r,zbi i (κ r)):zbi i (zhw L κ) :=
 zdm (zd9 (κ:=fun m=>κ (L.get m.st)) (f:=fun m=>m.with (L.put false m.st)) (fun _=>rfl) fun _=>h _)
theorem zpn {L:zcl S BoxS} {κ:Nat→Int→Fu (SM S)} (h:∀ s v,zbi i (κ s v)):zbi i (xloadF L κ) :=
 zdm (zd9 (κ:=fun m=>κ (L.get m.st).ser (L.get m.st).v) (f:=id) (fun _=>rfl) fun _=>h _ _)
theorem zsy {L:zcl S BoxS} {v:Int} {κ:Fu (SM S)} (h:zbi i κ):zbi i (zhd L v κ) :=
 zdm (zd9 (κ:=fun _=>κ) (f:=fun m=>m.with (L.put ((L.get m.st).lay v) m.st)) (fun _=>rfl) fun _=>h)
theorem zva {L:zcl S BoxS} {v:Int} {κ:Int→Fu (SM S)} (h:∀ r,zbi i (κ r)):zbi i (zj4 L v κ) :=
 zdm (zd9 (κ:=fun m=>κ (L.get m.st).v) (f:=fun m=>m.with (L.put ((L.get m.st).lay v) m.st)) (fun _=>rfl) fun _=>h _)
theorem fp_xcas {L:zcl S BoxS} {s:Nat} {v:Int} {κ:Bool→Fu (SM S)} (h:∀ t,zbi i (κ t)):zbi i (zb1 (xcasP L s v κ)):=by
 refine zdm fun m=>?_;unfold xcasP;split
 ·exact ⟨fun j hj=>((h true _).1 j hj).trans rfl,(h true _).2⟩
 ·exact h false m
theorem fp_doC (o:OpD) (κ:Ans→Fu (SM zge)) (h:∀ r,zbi i (κ r)):zbi i (doC n f o κ):=by
 unfold doC;by_cases b0:o.a < 0∨(n:Int)≤o.a
 ·rw [if_pos b0];exact h _
 rw [if_neg b0];by_cases b1:o.kind=1
 ·rw [if_pos b1];exact zpo fun _=>h _
 rw [if_neg b1];by_cases b2:o.kind=2
 ·rw [if_pos b2];exact zsz (h _)
 rw [if_neg b2];by_cases b3:o.kind=3
 ·rw [if_pos b3];exact fp_wadd fun _=>h _
 rw [if_neg b3];by_cases b4:o.kind=4
 ·rw [if_pos b4];exact zvb fun _=>h _
 rw [if_neg b4];by_cases b5:o.kind=5
 ·rw [if_pos b5];exact zs0 fun _=>h _
 rw [if_neg b5];by_cases b6:o.kind=6
 ·rw [if_pos b6];exact ziq (fun _ _=>h _) f
 rw [if_neg b6];by_cases b7:o.kind=7
 ·rw [if_pos b7];exact ziq (fun _ _=>h _) f
 rw [if_neg b7];by_cases b8:o.kind=8
 ·rw [if_pos b8];exact ziq (fun _ _=>h _) f
 rw [if_neg b8];by_cases b9:o.kind=9
 ·rw [if_pos b9];exact zvc fun _=>h _
 rw [if_neg b9];by_cases b10:o.kind=10
 ·rw [if_pos b10];exact fp_fset fun _=>h _
 rw [if_neg b10];by_cases b11:o.kind=11
 ·rw [if_pos b11];exact zs1 fun _=>h _
 rw [if_neg b11];by_cases b12:o.kind=12
 ·rw [if_pos b12];exact zpn fun _ _=>h _
 rw [if_neg b12];by_cases b13:o.kind=13
 ·rw [if_pos b13];exact zsy (h _)
 rw [if_neg b13];by_cases b14:o.kind=14
 ·rw [if_pos b14];exact zva fun _=>h _
 rw [if_neg b14];by_cases b15:o.kind=15
 ·rw [if_pos b15];exact zpn fun _ _=>fp_xcas fun t=>h _
 rw [if_neg b15];exact h _
theorem zs5 {L:zcl S Int} {x v:Int} {κ:Bool→Fu (SM S)} (h:∀ t,FD d (κ t)):FD d (zhh L x v κ):=by
 refine zcn fun m=>?_;unfold zib;split
 ·exact h true _
 ·exact h false m
theorem zis {L:zcl S Int} {tst:Int→Option Int} {κ:Int→Bool→Fu (SM S)}:∀ f d,d≤f→(∀ r t,FD d (κ r t))→FD d (zca L tst κ f)
 | 0,d,hd,h=>by
  obtain rfl:d=0:=by omega
  exact zs4
 | f+1,0,hd,h=>zs4
 | f+1,d+1,hd,h=>zs6 fun m=>by
  show Deep d (zcb L tst κ (zca L tst κ f) (L.get m.st) m).2;rcases h':tst (L.get m.st) with _|y
  ·rw [zfn h'];exact zlm (h _ _) m
  ·rw [zfm h'];refine zs5 (fun t=>?_) m;split
   ·exact zlm (h _ _)
   ·exact zis f d (by omega) fun r t=>zlm (h r t)
theorem fd_xcas {L:zcl S BoxS} {s:Nat} {v:Int} {κ:Bool→Fu (SM S)} (h:∀ t,FD d (κ t)):FD d (zb1 (xcasP L s v κ)):=by
 refine zcn fun m=>?_;unfold xcasP;split
 ·exact h true _
 ·exact h false m
theorem fd_doC (hd:d≤f) (o:OpD) (κ:Ans→Fu (SM zge)) (h:∀ r,FD d (κ r)):FD d (doC n f o κ):=by
 unfold doC;by_cases b0:o.a < 0∨(n:Int)≤o.a
 ·rw [if_pos b0];exact h _
 rw [if_neg b0];by_cases b1:o.kind=1
 ·rw [if_pos b1];exact zcn fun m=>h _ m
 rw [if_neg b1];by_cases b2:o.kind=2
 ·rw [if_pos b2];exact zcn fun m=>h _ _
 rw [if_neg b2];by_cases b3:o.kind=3
 ·rw [if_pos b3];exact zcn fun m=>h _ _
 rw [if_neg b3];by_cases b4:o.kind=4
 ·rw [if_pos b4];exact zcn fun m=>h _ _
 rw [if_neg b4];by_cases b5:o.kind=5
 ·rw [if_pos b5];exact zs5 fun _=>h _
 rw [if_neg b5];by_cases b6:o.kind=6
 ·rw [if_pos b6];exact zis f d hd fun _ _=>h _
 rw [if_neg b6];by_cases b7:o.kind=7
 ·rw [if_pos b7];exact zis f d hd fun _ _=>h _
 rw [if_neg b7];by_cases b8:o.kind=8
 ·rw [if_pos b8];exact zis f d hd fun _ _=>h _
 rw [if_neg b8];by_cases b9:o.kind=9
 ·rw [if_pos b9];exact zcn fun m=>h _ m
 rw [if_neg b9];by_cases b10:o.kind=10
 ·rw [if_pos b10];exact zcn fun m=>h _ _
 rw [if_neg b10];by_cases b11:o.kind=11
 ·rw [if_pos b11];exact zcn fun m=>h _ _
 rw [if_neg b11];by_cases b12:o.kind=12
 ·rw [if_pos b12];exact zcn fun m=>h _ m
 rw [if_neg b12];by_cases b13:o.kind=13
 ·rw [if_pos b13];exact zcn fun m=>h _ _
 rw [if_neg b13];by_cases b14:o.kind=14
 ·rw [if_pos b14];exact zcn fun m=>h _ _
 rw [if_neg b14];by_cases b15:o.kind=15
 ·rw [if_pos b15];exact zcn fun m=>fd_xcas (fun t=>h _) m
 rw [if_neg b15];exact h _
end
end Go.Proofs.Ytofacoojpgkbiaa
namespace Go.Proofs.Ytofacoojpgkbiaa
def rowC (W:Nat→Int) (F:Nat→Bool) (B:Nat→Int) (i:Nat):List Int:=[W i,bit (F i),B i]
def zos (k:Nat) (W:Nat→Int) (F:Nat→Bool) (B:Nat→Int):List Int:=(List.range k).flatMap (rowC W F B)
theorem zqu (k:Nat) (W:Nat→Int) (F:Nat→Bool) (B:Nat→Int):zos (k+1) W F B=zos k W F B++[W k,bit (F k),B k]:=by
 unfold zos;rw [List.range_succ,List.flatMap_append];simp [rowC]
end Go.Proofs.Ytofacoojpgkbiaa
namespace Go.Proofs.Ytofacoojpgkbiaa.Cl
open Go.Conc Go.RowKit
open Go.ConcN (upd upd_ne upd_same)
set_option maxRecDepth 100000
structure GT where
 ops:List OpD
 ans:List Ans
 at_:Nat
 pc:Int
 x:Int
 h:Int
structure GMc where
 k:Nat
 W:Nat→Int
 F:Nat→Bool
 B:Nat→Int
 Ser:Nat→Int
 N:Int
 T:Nat→GT
def GMc.setT (S:GMc) (i:Nat) (t:GT):GMc:={ S with T:=upd S.T i t }
theorem GMc.setT_T (S:GMc) (i:Nat) (t:GT):(S.setT i t).T i=t:=upd_same _ _ _
def opG (t:GT):OpD:=t.ops.getD t.at_ ⟨0,0,0,0⟩
def endT (t:GT) (r:Ans):GT:={ t with ans:=t.ans++[r],at_:=t.at_+1,pc:=0 }
def endS (S:GMc) (i:Nat) (r:Ans):GMc:=S.setT i (endT (S.T i) r)
def GMc.setW (S:GMc) (j:Nat) (v:Int):GMc:={ S with W:=upd S.W j v }
def GMc.setF (S:GMc) (j:Nat) (v:Bool):GMc:={ S with F:=upd S.F j v }
def GMc.lay (S:GMc) (j:Nat) (v:Int):GMc:={ S with B:=upd S.B j v,Ser:=upd S.Ser j (S.N+1),N:=S.N+1 }
def wordM (S:GMc) (o:OpD):GMc×Ans :=
 if o.kind=1 then (S,⟨true,S.W o.a.toNat,[]⟩)
 else if o.kind=2 then (S.setW o.a.toNat o.b,⟨true,0,[]⟩)
 else if o.kind=3 then (S.setW o.a.toNat (zdf (S.W o.a.toNat) o.b),⟨true,zdf (S.W o.a.toNat) o.b,[]⟩)
 else if o.kind=4 then (S.setW o.a.toNat o.b,⟨true,S.W o.a.toNat,[]⟩)
 else if S.W o.a.toNat=o.b then (S.setW o.a.toNat o.c,⟨true,0,[]⟩) else (S,⟨false,0,[]⟩)
def flagM (S:GMc) (o:OpD):GMc×Ans :=
 if o.kind=10 then (S.setF o.a.toNat true,⟨!S.F o.a.toNat,0,[]⟩)
 else if o.kind=11 then (S.setF o.a.toNat false,⟨S.F o.a.toNat,0,[]⟩)
 else (S,⟨S.F o.a.toNat,0,[]⟩)
structure ztu (k:Nat) (t:GT):Prop where
 at_:t.at_ < t.ops.length
 kind:1≤(opG t).kind∧(opG t).kind≤15
 a:0≤(opG t).a∧(opG t).a < k
 pc:1≤t.pc∧t.pc≤2
 one:¬ (6≤(opG t).kind∧(opG t).kind≤8)→(opG t).kind≠15→t.pc=1
structure GTOk (k:Nat) (t:GT):Prop where
 ops:t.ops.length≤65536
 at_:t.at_≤t.ops.length
 ans:t.ans.length=t.at_
 lst:∀ r∈t.ans,r.l=[]
 pc:t.pc=0∨ztu k t
structure GInv (n:Nat) (S:GMc):Prop where
 n0:0≤S.N
 th:∀ i,i < n→GTOk S.k (S.T i)
structure TK (t:GT):Prop where
 ops:t.ops.length≤65536
 at_:t.at_ < t.ops.length
 ans:t.ans.length=t.at_
 lst:∀ r∈t.ans,r.l=[]
theorem GTOk.tk {k:Nat} {t:GT} (h:GTOk k t) (hl:t.at_ < t.ops.length):TK t:=⟨h.ops,hl,h.ans,h.lst⟩
theorem TK.end {k:Nat} {t:GT} (h:TK t) {r:Ans} (hr:r.l=[]):GTOk k (endT t r):=⟨h.ops,by have:=h.at_;show t.at_+1≤t.ops.length;omega,by show (t.ans++[r]).length=t.at_+1;rw [List.length_append,h.ans];rfl,fun x hx=>by
 rcases List.mem_append.1 (show x∈t.ans++[r] from hx) with q|q
 ·exact h.lst x q
 ·obtain rfl:x=r:=by simpa using q
  exact hr,.inl rfl⟩
theorem TK.stand {k:Nat} {t:GT} (h:TK t) (hs:ztu k t):GTOk k t:=⟨h.ops,Nat.le_of_lt h.at_,h.ans,h.lst,.inr hs⟩
structure GPre (n i:Nat) (S:GMc):Prop where
 n0:0≤S.N
 th:∀ j,j < n→j≠i→GTOk S.k (S.T j)
 me:TK (S.T i)
section
variable {n i:Nat} {S:GMc} {t:GT} {o:OpD}
theorem GInv.pre (h:GInv n S) (hi:i < n) (hl:(S.T i).at_ < (S.T i).ops.length):GPre n i S:=⟨h.n0,fun j hj _=>h.th j hj,(h.th i hi).tk hl⟩
theorem GPre.setT (h:GPre n i S) (ho:t.ops=(S.T i).ops) (ha:t.at_=(S.T i).at_) (hn:t.ans=(S.T i).ans):GPre n i (S.setT i t):=by
 refine ⟨h.n0,fun j hj e=>?_,?_⟩
 ·show GTOk S.k (upd S.T i t j);rw [upd_ne _ _ e];exact h.th j hj e
 ·rw [GMc.setT_T];exact ⟨by rw [ho];exact h.me.ops,by rw [ho,ha];exact h.me.at_,by rw [hn,ha];exact h.me.ans,by rw [hn];exact h.me.lst⟩
theorem GPre.end (h:GPre n i S) {r:Ans} (hr:r.l=[]):GInv n (endS S i r):=by
 refine ⟨h.n0,fun j hj=>?_⟩;show GTOk S.k (upd S.T i (endT (S.T i) r) j);by_cases e:j=i
 ·subst e;rw [upd_same];exact h.me.end hr
 ·rw [upd_ne _ _ e];exact h.th j hj e
theorem GPre.stand (h:GPre n i S) (hs:ztu S.k (S.T i)):GInv n S:=⟨h.n0,fun j hj=>by
 by_cases e:j=i
 ·subst e;exact h.me.stand hs
 ·exact h.th j hj e⟩
theorem GPre.setW (h:GPre n i S) (j:Nat) (v:Int):GPre n i (S.setW j v):=⟨h.n0,h.th,h.me⟩
theorem GPre.setF (h:GPre n i S) (j:Nat) (v:Bool):GPre n i (S.setF j v):=⟨h.n0,h.th,h.me⟩
theorem GPre.lay (h:GPre n i S) (j:Nat) (v:Int):GPre n i (S.lay j v):=⟨by have:=h.n0;show 0≤S.N+1;omega,h.th,h.me⟩
theorem GPre.word (h:GPre n i S):GPre n i (wordM S o).1∧(wordM S o).2.l=[]:=by
 unfold wordM;split
 ·exact ⟨h,rfl⟩
 ·split
  ·exact ⟨h.setW _ _,rfl⟩
  ·split
   ·exact ⟨h.setW _ _,rfl⟩
   ·split
    ·exact ⟨h.setW _ _,rfl⟩
    ·split
     ·exact ⟨h.setW _ _,rfl⟩
     ·exact ⟨h,rfl⟩
theorem GPre.flag (h:GPre n i S):GPre n i (flagM S o).1∧(flagM S o).2.l=[]:=by
 unfold flagM;split
 ·exact ⟨h.setF _ _,rfl⟩
 ·split
  ·exact ⟨h.setF _ _,rfl⟩
  ·exact ⟨h,rfl⟩
end
structure GRun where
 S:GMc
 ord:List Int
section
variable {n mo i:Nat} {S:GMc} {r:GRun} {o:OpD}
end
end Go.Proofs.Ytofacoojpgkbiaa.Cl
