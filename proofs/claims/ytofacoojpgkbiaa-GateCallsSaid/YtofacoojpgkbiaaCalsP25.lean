/-
  A part of a proof. No condition of its own.
-/
import Derived.Test.YtofacoojpgkbiaaCalsP24
import Derived.Deep.RegionLaw
import Derived.Deep.DeepCutAuto
set_option linter.unusedVariables false
set_option maxHeartbeats 8000000
set_option linter.unusedSimpArgs false
namespace Go.Proofs.Ytofacoojpgkbiaa
open Go.Conc Go.RowKit
open Go.ConcN (upd upd_ne upd_same)
set_option maxRecDepth 100000
theorem info42r:(Try.prog.info? 42).map (fun i=>(i.zero,i.size,i.bytes))=some (some (.agg #[.bool false,.int .i64 0,.slice none 0 0]),3,40):=by kernel_rfl
def zdw (t:GT) (r:Ans):GT:={ t with ans:=t.ans++[r],at_:=t.at_+1,pc:=0 }
def MDone (K:MK) (S':GMc) (w:World) (e:Ending) (w':World):Prop:=e = .returned (.tuple #[])∧∃ V',MMem K V' S' w'∧KeepM K.nb w w'
theorem zy6 (w1:World) (a:Bool) (b:Int) (p:Option Addr) (n c:Nat):SrcN (w1.alloc (.cells #[.bool a,.int .i64 b,.slice p n c] 42)) (.slice (some ⟨w1.heap.size,0,none⟩) 1 1) 1 [.bool a,.int .i64 b,.slice p n c] :=
 ⟨rfl,by intro u hu;simp at hu;rcases hu with rfl|rfl|rfl<;>rfl,.inr ⟨_,1,rfl,fun j u hj=>by
  have e:(⟨w1.heap.size,0,none⟩:Addr).add j=⟨w1.heap.size,j,none⟩:=by simp [Addr.add];try (intro h;exact h.symm)
  rw [e,zac (heap_alloc_new w1 (.cells #[.bool a,.int .i64 b,.slice p n c] 42)) j]
  simpa using hj⟩⟩
section
variable {K:MK} {V:MV} {S:GMc} {w:World} {i:Nat}
theorem zbs (h:MMem K V S w) (hi:i < K.n) (hlen:(S.T i).ans.length≤100000) (hat:(S.T i).at_≤100000) {r:Ans} {u:Value} (hu:LstN K.nb w u r.l) :
  Calls Try.prog 176 #[.pointer (some ⟨K.mb,0,none⟩),.int .i64 i,.agg #[.bool r.ok,.int .i64 r.n,u]] w (MDone K (S.setT i (zdw (S.T i) r)) w):=by
 obtain ⟨i0,hi0,hz0,hz1,hz2⟩:=info_parts info42r;obtain ⟨ua,uc,rfl,_,_⟩:=id hu;obtain ⟨un,hun⟩:∃ n,r.l.length=n:=⟨_,rfl⟩;rw [hun] at hu ⊢;have hi':(i:Int) < (K.n:Int):=by omega
 have h0:=h.alloc (.cells #[.bool r.ok,.int .i64 r.n,.slice ua un uc] 42);have k0:KeepM K.nb w (w.alloc (.cells #[.bool r.ok,.int .i64 r.n,.slice ua un uc] 42)):=KeepM.refl.alloc _;have EN:=heap_alloc_new w (.cells #[.bool r.ok,.int .i64 r.n,.slice ua un uc] 42);have hu0:=k0.lst hu;replace h:=yay h;go_enter Try.func176,Try.ntmps176
 go_upto_region 1 with fail
 generalize w.alloc (.cells #[.bool r.ok,.int .i64 r.n,.slice ua un uc] 42)=w1 at *;generalize hMM:w.heap.size=M at *;obtain ⟨vs,hvs,hrow,hlst⟩:=h0.ans i hi;obtain ⟨p,c,hva⟩:∃ p c,V.va i = .slice p (S.T i).ans.length c:=by
  rcases hrow.2 with ⟨e,q⟩|⟨g,cap,cur,e,_⟩
  ·exact ⟨none,0,by rw [e,q]⟩
  ·exact ⟨_,_,e⟩
 have c3:=h0.cellM 3;have c1:=h0.cellT hi (k:=1) (by decide);simp only [tcV,yac,yaa,yab,hva] at c1 c3;have b0:w1.cell? ⟨M,0,none⟩=some (.bool r.ok):=by rw [zac EN 0];rfl
 have b1:w1.cell? ⟨M,1,none⟩=some (.int .i64 r.n):=by rw [zac EN 1];rfl
 have b2:w1.cell? ⟨M,2,none⟩=some (.slice ua un uc):=by rw [zac EN 2];rfl
 have al:∀ {a:Addr} {v:Value} (o:Obj),w1.cell? a=some v→(w1.alloc o).cell? a=some v:=fun {a v} o hv=>(World.cell?_of_block (w:=w1) (Below.heap_alloc _ _ _ (World.block_lt_of_cell? w1 _ hv))).trans hv;have c1':=al (.cells #[.bool r.ok,.int .i64 r.n,.slice ua un uc] 42) c1;have c3':=al (.cells #[.bool r.ok,.int .i64 r.n,.slice ua un uc] 42) c3;clear al;have HSX:=zy6 w1.drew r.ok r.n ua un uc;rw [hva] at hrow;have hrowd:w1.drew.ownsRow K.base 42 3 (.slice p (S.T i).ans.length c) (S.T i).ans.length (zf0 (S.T i).ans vs):=hrow;have HOW:=hrowd.alloc (.cells #[.bool r.ok,.int .i64 r.n,.slice ua un uc] 42);have hbs:K.base≤(w1.drew.alloc (.cells #[.bool r.ok,.int .i64 r.n,.slice ua un uc] 42)).heap.size:=(h0.drew.alloc _).size;obtain ⟨v',w2,hrun,ha⟩:=zgk (P:=Try.prog) (w1.drew.alloc (.cells #[.bool r.ok,.int .i64 r.n,.slice ua un uc] 42)) K.base 40 40 42 i0 _ 40 Try.underlying40 hi0 hz0 hz1 hz2 (by rfl) (.slice p (S.T i).ans.length c) (S.T i).ans.length _ HOW (.slice (some ⟨w1.heap.size,0,none⟩) 1 1) 1 [.bool r.ok,.int .i64 r.n,.slice ua un uc] HSX (by unfold maxLen;omega) (by omega) hbs;have HRUN:Hid ((Builtin.append_ #[40,40] 40 #[.slice p (S.T i).ans.length c,.slice (some ⟨w1.heap.size,0,none⟩) 1 1]).run Try.prog (w1.alloc (.cells #[.bool r.ok,.int .i64 r.n,.slice ua un uc] 42)).drew = .ok v' w2):=yay hrun;obtain ⟨ho,hg,hsh⟩:=ha;have h1:=h0.drew.alloc (.cells #[.bool r.ok,.int .i64 r.n,.slice ua un uc] 42);have k1:KeepM K.nb w (w1.drew.alloc (.cells #[.bool r.ok,.int .i64 r.n,.slice ua un uc] 42)):=KeepM.alloc (w':=w1.drew) k0 _;have hg':(w1.drew.alloc (.cells #[.bool r.ok,.int .i64 r.n,.slice ua un uc] 42)).grownBy w2 (V.va i).ownBlock:=by rw [hva];exact hg
 have ka:KeepM K.nb w1 (w1.drew.alloc (.cells #[.bool r.ok,.int .i64 r.n,.slice ua un uc] 42)):=KeepM.alloc (w':=w1.drew) KeepM.refl _;obtain ⟨q0,q1,q2,h3,k3⟩:=h1.answered hi (r:=r) (u := .slice ua un uc) (v':=v') (ka.lst hu0) hvs (fun k r' u' e1 e2=>ka.lst (hlst k r' u' e1 e2)) ho hg' (fun g hgg=>by
  rw [hva];rcases hsh with ⟨_,_,e,_⟩|⟨g',cap,e1,_,e3⟩
  ·cases e
  ·rw [e1] at hgg;simp only [Value.ownBlock,Option.some.injEq] at hgg;subst hgg;exact e3)
 have k4:=k1.trans k3;have hmw:w2.heap[K.mb]?=w1.heap[K.mb]?:=q0.trans (Below.heap_alloc _ _ _ (yah.1 h0.mach).1);have d3:w2.cell? ⟨K.mb,3,none⟩=some (.slice (some ⟨K.tb,0,none⟩) K.n K.cap):=by
  rw [World.cell?_of_block (w:=w1) hmw];exact c3
 have d1:w2.cell? ⟨K.tb,i * 9+1,none⟩=some (.slice p (S.T i).ans.length c):=(q1 1 (by decide)).trans c1';clear hrun hg hsh ho HOW HSX hg' hbs hrow hrowd q0 q1 hlst hvs k1 k3 ka hmw;obtain ⟨p2,c2,e2⟩:∃ p c,v' = .slice p ((S.T i).ans.length+1) c:=by
  obtain ⟨vs',_,hr2,_⟩:=h3.ans i hi;have ee:(({ V with va:=upd V.va i v' }:MV).va i)=v':=upd_same _ _ _;have ea:(((S.setT i { S.T i with ans:=(S.T i).ans++[r] }).T i).ans).length=(S.T i).ans.length+1:=by rw [GMc.setT_T];simp
  rw [ee,ea] at hr2;rcases hr2.2 with ⟨_,q⟩|⟨g,cap,cur,e,_⟩
  ·omega
  ·exact ⟨_,_,e⟩
 subst e2;replace h0:=yay h0;replace h1:=yay h1;replace h3:=yay h3;replace k4:=yay k4;replace k0:=yay k0;replace EN:=yay EN;replace hva:=yay hva;replace hu:=yay hu;replace hu0:=yay hu0
 go_cut [21] (fun v wx=>wx=w2.setCell ⟨K.tb,i * 9+1,none⟩ (.slice p2 ((S.T i).ans.length+1) c2))
 case first =>
  go_region_law (refine zbx (by rfl) _ _ 40 40 (by rfl) (.slice p (S.T i).ans.length c) (.slice (some ⟨w1.heap.size,0,none⟩) 1 1) (by rfl) (by rfl) HRUN.out ?_)
  all_goals (go_wp2_with fail;go_meet)
  all_goals rfl
 case rest =>
  subst hcut;clear HRUN c1 c3 c1' c3' b0 b1 b2 d3 d1 q2;generalize w2.setCell ⟨K.tb,i * 9+1,none⟩ (.slice p2 ((S.T i).ans.length+1) c2)=w3 at *;have c3:=h3.out.cellM 3;have c1:=h3.out.cellT hi (k:=3) (by decide);have z1:=h3.out.trow.free (i * 9+3);have z2:=h3.out.trow.free (i * 9+4);simp only [tcV,yac,yaa,yab,GMc.setT_T] at c1 c3;have e1:IntKind.i64.wrap (((S.T i).at_:Int)+1)=(((S.T i).at_+1:Nat):Int):=by rw [IntKind.wrap_i64];omega
  have hE:=e1;rw [Int.natCast_add] at e1;replace hE:=yay hE;go_upto_region 2 with fail
  go_cut [36] (fun v wx=>wx=(w3.setCell ⟨K.tb,i * 9+3,none⟩ (.int .i64 (((S.T i).at_:Int)+1))).drew)
  case first =>
   go_region
   all_goals (go_wp2_with fail;go_meet)
   all_goals rfl
  case rest =>
   subst hcut;obtain ⟨V4,h4,k5⟩:=h3.out.setAt hi (GMc.setT_T _ _ _) ((S.T i).at_+1);rw [GMc.setT_setT,hE.out.symm,e1] at h4;rw [hE.out.symm,e1] at k5;have k6:KeepM K.nb w (w3.setCell ⟨K.tb,i * 9+3,none⟩ (.int .i64 (((S.T i).at_:Int)+1))).drew:=k4.out.trans k5;have h5:=h4.drew;have z3:=h5.trow.free (i * 9+4);have d1:=h5.cellT hi (k:=4) (by decide);have d3:=h5.cellM 3;simp only [tcV,yac,yaa,yab,GMc.setT_T] at d1 d3;clear h4 k5 c1 c3 z1 z2;generalize (w3.setCell ⟨K.tb,i * 9+3,none⟩ (.int .i64 (((S.T i).at_:Int)+1))).drew=w5 at *;obtain ⟨V6,h6,k7⟩:=h5.setPc hi (GMc.setT_T _ _ _) 0;rw [GMc.setT_setT] at h6;have k8:=yay (k6.trans k7);replace h6:=yay h6;replace h5:=yay h5;clear k6 k7
   go_wp2_with fail
   go_end0
   exact ⟨rfl,_,h6.out,k8.out⟩
end
end Go.Proofs.Ytofacoojpgkbiaa
