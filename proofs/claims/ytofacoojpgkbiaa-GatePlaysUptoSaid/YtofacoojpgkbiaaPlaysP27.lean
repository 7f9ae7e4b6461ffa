/-
  Merged out of: Ans1 Gate18 Ans2 Ans3. No condition of its own.
-/
import Derived.Test.YtofacoojpgkbiaaPlaysP26
import Derived.Test.YtofacoojpgkbiaaPlaysP15
import Derived.Test.YtofacoojpgkbiaaPlaysP02
set_option linter.unusedVariables false
set_option maxHeartbeats 8000000
set_option linter.unusedSimpArgs false
/-
 What threads have answered,as it lies in memory;a family of shared things beside it. No condition of its own.
-/
namespace Go.Proofs.Ytofacoojpgkbiaa
open Go.Conc Go.RowKit
open Go.ConcN (upd upd_ne upd_same)
set_option maxRecDepth 100000
theorem zaq {w w':World} {base n:Nat} {e:TypeId} {sz:Nat} {v:Value} {ys:List Value} (h:w.ownsRow base e sz v n ys) (hk:∀ g ob,v.ownBlock=some g→w.heap[g]?=some ob→w'.heap[g]?=some ob):w'.ownsRow base e sz v n ys:=by
 obtain ⟨h1,h2⟩:=h
 refine ⟨h1,?_⟩
 rcases h2 with h2 | ⟨g,cap,cur,rfl,hb,hg,r⟩
 ·
  exact .inl h2
 ·
  exact .inr ⟨g,cap,cur,rfl,hb,hk g _ rfl hg,r⟩
theorem zak {w:World} {base n:Nat} {e:TypeId} {sz:Nat} {v:Value} {ys:List Value} (h:w.ownsRow base e sz v n ys) {g:Nat} (hg:v.ownBlock=some g):∃ c,w.heap[g]?=some (.cells c e (0,0)):=by
 rcases h.2 with ⟨rfl,_⟩ | ⟨g',cap,cur,rfl,_,hh,_⟩
 ·
  cases hg
 ·
  cases hg
  exact ⟨cur,hh⟩
theorem zb6 {w:World} {base n:Nat} {e:TypeId} {sz:Nat} {v:Value} {ys:List Value} (h:w.ownsRow base e sz v n ys) {g:Nat} (hg:v.ownBlock=some g):base≤g∧g < w.heap.size:=by
 rcases h.2 with ⟨rfl,_⟩ | ⟨g',cap,cur,rfl,q1,hh,_⟩
 ·
  cases hg
 ·
  cases hg
  exact ⟨q1,(Array.getElem?_eq_some_iff.1 hh).1⟩
structure AL where
 n:Nat
 ar:Nat
 lo:Nat
 stc:List (Nat×Obj)
def cellR (r:Ans) (u:Value):List Value:=[.bool r.ok,.int .i64 r.n,u]
def flatA (l:List Ans) (vs:List Value):List Value:=(l.zip vs).flatMap fun x=>cellR x.1 x.2
theorem flatA_snoc {l:List Ans} {vs:List Value} (h:vs.length=l.length) (r:Ans) (u:Value):flatA (l++[r]) (vs++[u])=flatA l vs++cellR r u:=by
 unfold flatA
 rw [List.zip_append h.symm]
 simp
structure AnsRep (Z:AL) (an:Nat→List Ans) (c:Array Value) (vs:Nat→List Value) (own:Nat→Owner) (w:World):Prop where
 osh:own Z.ar = .sh
 ar:w.heap[Z.ar]?=some (.cells c 40 (0,0))
 size:c.size=Z.n
 dis:∀ j k g,j < Z.n→k < Z.n→(c.getD j undef).ownBlock=some g→(c.getD k undef).ownBlock=some g→j=k
 len:∀ j,j < Z.n→(vs j).length=(an j).length
 row:∀ j,j < Z.n→w.ownsRow Z.lo 42 3 (c.getD j undef) (an j).length (flatA (an j) (vs j))
 rsh:∀ j g,j < Z.n→(c.getD j undef).ownBlock=some g→own g = .sh
 lst:∀ (j k:Nat) (r:Ans) (u:Value),j < Z.n→(an j)[k]?=some r→(vs j)[k]?=some u→LRow (.tag 1) Z.lo own w u r.l
 ldis:∀ (j k j' k':Nat) (u u':Value) (g:Nat),j < Z.n→j' < Z.n→(vs j)[k]?=some u→(vs j')[k']?=some u'→u.ownBlock=some g→u'.ownBlock=some g→j=j'∧k=k'
structure FamOk {S:Type} (R:S→(Nat→Owner)→World→Prop):Prop where
 keep:∀ {s own own' w w'},R s own w→(∀ b c t f,own b = .sh→w.heap[b]?=some (.cells c t f)→t≠40→t≠42→own' b = .sh∧w'.heap[b]?=w.heap[b]?)→(∀ b v,0 < v→own b = .tag v→own' b = .tag v∧w'.heap[b]?=w.heap[b]?) →
  (∀ b v,own' b = .tag v→own b = .tag v∨v≤1)→R s own' w'
structure GRep {S:Type} (R:S→(Nat→Owner)→World→Prop) (Z:AL) (m:SM S) (own:Nat→Owner) (w:World):Prop where
 fam:R m.st own w
 ans:∃ c vs,AnsRep Z m.an c vs own w
 stc:∀ x∈Z.stc,own x.1 = .tag 1∧w.heap[x.1]?=some x.2
 lo:Z.lo≤Z.ar
section
variable {S:Type} {R:S→(Nat→Owner)→World→Prop} {Z:AL} {m:SM S} {an:Nat→List Ans} {c:Array Value} {vs:Nat→List Value} {own own':Nat→Owner} {w w' w1:World}
theorem AnsRep.keep (h:AnsRep Z an c vs own w) (hs:∀ b c t f,own b = .sh→w.heap[b]?=some (.cells c t f)→t=40∨t=42→own' b = .sh∧w'.heap[b]?=w.heap[b]?) (ht:∀ b,own b = .tag 1→own' b = .tag 1∧w'.heap[b]?=w.heap[b]?):AnsRep Z an c vs own' w':=by
 obtain ⟨a1,a2,a3,a4,a5,a6,a7,a8,a9⟩:=h
 have h1:=hs _ _ _ _ a1 a2 (.inl rfl)
 have h2:∀ j g,j < Z.n→(c.getD j undef).ownBlock=some g→own' g = .sh∧w'.heap[g]?=w.heap[g]?:=fun j g hj hg=>by
  obtain ⟨cc,hcc⟩:=zak (a6 j hj) hg
  exact hs _ _ _ _ (a7 j g hj hg) hcc (.inr rfl)
 exact ⟨h1.1,h1.2.trans a2,a3,a4,a5,fun j hj=>zaq (a6 j hj) fun g ob hg hh=>(h2 j g hj hg).2.trans hh,fun j g hj hg=>(h2 j g hj hg).1,fun j k r u hj e1 e2=>(a8 j k r u hj e1 e2).keep fun b _ ho=>ht b ho,a9⟩
theorem GRep.size (h:GRep R Z m own w):Z.lo≤w.heap.size:=by
 obtain ⟨c,vs,ha⟩:=h.ans
 have:=(Array.getElem?_eq_some_iff.1 ha.ar).1
 have:=h.lo
 omega
theorem GRep.local (F:FamOk R):zc2 (GRep R Z):=fun m own own' w w' h hk=>by
 obtain ⟨h1,⟨c,vs,h2⟩,h3,h4⟩:=h
 exact ⟨F.keep h1 (fun b _ _ _ hb _ _ _=>hk.sh hb) (fun b v _ hb=>hk.tag hb) (fun b v hb => .inl (hk.2 b v hb)),⟨c,vs,h2.keep (fun b _ _ _ hb _ _=>hk.sh hb) fun b hb=>hk.tag hb⟩,fun x hx=>⟨(hk.tag (h3 x hx).1).1,(hk.tag (h3 x hx).1).2.trans (h3 x hx).2⟩,h4⟩
theorem GRep.part {V:Type} {L:Lens S V} {At:V→(Nat→Owner)→World→Prop} {B:Nat} {TS:Nat→Prop} (hr:∀ {s own w},R s own w→At (L.get s) own w) (hty:∀ {s own w},R s own w→∃ c t f,w.heap[B]?=some (.cells c t f)∧t≠40∧t≠42)
  (hu:∀ {s own own' w w' v},R s own w→KBlk B TS own own' w w'→At v own' w'→R (L.put v s) own' w') {md:Md (SM S)} (hmd:md.Rep=GRep R Z):Part md L At B TS:=by
 refine ⟨fun h => ?_,fun {m own own' w w' v} h hk hv => ?_⟩
 ·
  rw [hmd] at h
  exact hr h.fam
 ·
  rw [hmd] at h ⊢
  obtain ⟨h1,⟨c,vs,h2⟩,h3,h4⟩:=h
  obtain ⟨cc,t,f,e1,e2,e3⟩:=hty h1
  exact ⟨hu h1 hk hv,⟨c,vs,h2.keep (fun b c' t' f' hb hh ht=>hk.sh b hb fun z=>by
   rw [z,e1] at hh
   simp only [Option.some.injEq,Obj.cells.injEq] at hh
   rcases ht with ht | ht
   ·
    exact e2 (hh.2.1.trans ht)
   ·
    exact e3 (hh.2.1.trans ht)) fun b hb=>hk.tag b 1 hb⟩,fun x hx=>⟨(hk.tag _ _ (h3 x hx).1).1,(hk.tag _ _ (h3 x hx).1).2.trans (h3 x hx).2⟩,h4⟩
def ownA (lo hi:Nat) (u:Value) (own:Nat→Owner):Nat→Owner:=fun b=>if lo≤b∧b < hi then .sh else if u.ownBlock=some b then .tag 1 else own b
theorem AnsRep.answered (h:AnsRep Z an c vs own w) {i:Nat} (hi:i < Z.n) (hfresh:∀ b,w.heap.size≤b→own b = .out) (hs:w.heap.size≤w1.heap.size) {v' u:Value} {r:Ans} (hul:LRow (.th i) Z.lo own w u r.l)
  (hv:w1.ownsRow Z.lo 42 3 v' ((an i).length+1) (flatA (an i++[r]) (vs i++[u]))) (hb:∀ g,v'.ownBlock=some g→(c.getD i undef).ownBlock=some g∨w.heap.size≤g) (har:w1.heap[Z.ar]?=some (.cells (c.setIfInBounds i v') 40 (0,0)))
  (hk:∀ b,b < w.heap.size→b≠Z.ar→(c.getD i undef).ownBlock≠some b→w1.heap[b]?=w.heap[b]?):AnsRep Z (upd an i (an i++[r])) (c.setIfInBounds i v') (upd vs i (vs i++[u])) (ownA w.heap.size w1.heap.size u own) w1:=by
 obtain ⟨a1,a2,a3,a4,a5,a6,a7,a8,a9⟩:=h
 have lt:∀ {x:Nat},own x ≠ .out→x < w.heap.size:=fun {x} hx=>by
  rcases Nat.lt_or_ge x w.heap.size with z | z
  ·
   exact z
  ·
   exact absurd (hfresh x z) hx
 have ush:∀ {x:Nat},own x = .sh→u.ownBlock≠some x:=fun hx z=>by rw [hul.mine _ z] at hx;cases hx
 have osh:∀ {x:Nat},own x = .sh→ownA w.heap.size w1.heap.size u own x = .sh:=fun {x} hx=>by
  unfold ownA
  have:=lt (x:=x) (by rw [hx];simp)
  rw [if_neg (by omega),if_neg (ush hx)]
  exact hx
 have otg:∀ {x:Nat},own x = .tag 1→ownA w.heap.size w1.heap.size u own x = .tag 1:=fun {x} hx=>by
  unfold ownA
  have:=lt (x:=x) (by rw [hx];simp)
  rw [if_neg (by omega)]
  split
  ·
   rfl
  ·
   exact hx
 have ktg:∀ {x:Nat},(own x = .tag 1∨own x = .th i)→w1.heap[x]?=w.heap[x]?:=fun {x} hx=>by
  refine hk x (lt (by rcases hx with q | q<;>rw [q]<;>simp)) (fun z => ?_) fun z => ?_
  ·
   rw [z,a1] at hx;rcases hx with q | q<;>cases q
  ·
   rw [a7 i x hi z] at hx;rcases hx with q | q<;>cases q
 have hget:∀ j,j < Z.n→(c.setIfInBounds i v').getD j undef=if j=i then v' else c.getD j undef:=fun j hj=>by
  have hj':j < c.size:=by omega
  by_cases z:j=i
  ·
   subst z;simp [hj']
  ·
   rw [if_neg z]
   simp only [Array.getD_eq_getD_getElem?,Array.getElem?_setIfInBounds]
   rw [if_neg (Ne.symm z)]
 refine ⟨osh a1,har,by simpa using a3,fun j k g hj hk' e1 e2 => ?_,fun j hj => ?_,fun j hj => ?_,fun j g hj hg => ?_,fun j k r' u' hj e1 e2 => ?_,fun j k j' k' u1 u2 g hj hj' e1 e2 f1 f2 => ?_⟩
 ·
  rw [hget j hj] at e1
  rw [hget k hk'] at e2
  have big:∀ x,x < Z.n→(c.getD x undef).ownBlock=some g→g < w.heap.size:=fun x hx hg=>lt (by rw [a7 x g hx hg];simp)
  by_cases zj:j=i<;>by_cases zk:k=i
  ·
   rw [zj,zk]
  ·
   rw [if_pos zj] at e1
   rw [if_neg zk] at e2
   rcases hb g e1 with z | z
   ·
    exact absurd (a4 i k g hi hk' z e2) (by omega)
   ·
    have:=big k hk' e2;omega
  ·
   rw [if_neg zj] at e1
   rw [if_pos zk] at e2
   rcases hb g e2 with z | z
   ·
    exact absurd (a4 i j g hi hj z e1) (by omega)
   ·
    have:=big j hj e1;omega
  ·
   rw [if_neg zj] at e1
   rw [if_neg zk] at e2
   exact a4 j k g hj hk' e1 e2
 ·
  by_cases z:j=i
  ·
   subst z
   simp only [upd_same,List.length_append,a5 j hj,List.length_singleton]
  ·
   simp only [upd_ne _ _ z];exact a5 j hj
 ·
  rw [hget j hj]
  by_cases z:j=i
  ·
   subst z
   rw [if_pos rfl]
   simp only [upd_same]
   rw [List.length_append]
   exact hv
  ·
   rw [if_neg z]
   simp only [upd_ne _ _ z]
   refine zaq (a6 j hj) fun g ob hg hh => ?_
   refine (hk g (lt (by rw [a7 j g hj hg];simp)) (fun y => ?_) fun y=>z (a4 j i g hj hi hg y)).trans hh
   obtain ⟨cc,hcc⟩:=zak (a6 j hj) hg
   rw [y,a2] at hcc
   simp at hcc
 ·
  rw [hget j hj] at hg
  by_cases z:j=i
  ·
   subst z
   rw [if_pos rfl] at hg
   rcases hb g hg with z | z
   ·
    exact osh (a7 j g hi z)
   ·
    have:=(zb6 hv hg).2
    unfold ownA
    rw [if_pos ⟨z,this⟩]
  ·
   rw [if_neg z] at hg
   exact osh (a7 j g hj hg)
 ·
  by_cases z:j=i
  ·
   subst z
   simp only [upd_same] at e1 e2
   by_cases hkk:k < (an j).length
   ·
    rw [List.getElem?_append_left hkk] at e1
    rw [List.getElem?_append_left (by rw [a5 j hj];exact hkk)] at e2
    exact (a8 j k r' u' hj e1 e2).keep fun b _ ho=>⟨otg ho,ktg (.inl ho)⟩
   ·
    rw [List.getElem?_append_right (by omega)] at e1
    rw [List.getElem?_append_right (by rw [a5 j hj];omega),a5 j hj] at e2
    have:k - (an j).length=0:=by
     have:=(List.getElem?_eq_some_iff.1 e1).1
     simp at this
     omega
    rw [this] at e1 e2
    simp at e1 e2
    subst e1 e2
    obtain ⟨⟨q1,q2⟩,q3⟩:=hul
    rcases q2 with ⟨rfl,q2⟩ | ⟨g,cap,cur,rfl,k1,k2,k3⟩
    ·
     exact ⟨⟨q1,.inl ⟨rfl,q2⟩⟩,fun g hg=>by cases hg⟩
    ·
     have og:=q3 g rfl
     have hlt:=lt (x:=g) (by rw [og];simp)
     refine ⟨⟨q1,.inr ⟨g,cap,cur,rfl,k1,(ktg (.inr og)).trans k2,k3⟩⟩,fun b hb' => ?_⟩
     cases hb'
     unfold ownA
     rw [if_neg (by show ¬ (w.heap.size≤g∧_);omega)]
     exact if_pos rfl
  ·
   simp only [upd_ne _ _ z] at e1 e2
   exact (a8 j k r' u' hj e1 e2).keep fun b _ ho=>⟨otg ho,ktg (.inl ho)⟩
 ·
  have old:∀ {j k:Nat} {u1:Value},j < Z.n→(vs j)[k]?=some u1→u1.ownBlock=some g→own g = .tag 1:=fun {j k u1} hj e f=>by
   have hlt:=(List.getElem?_eq_some_iff.1 e).1
   rw [a5 j hj] at hlt
   exact (a8 j k _ u1 hj (List.getElem?_eq_getElem hlt) e).mine g f
  have new:u.ownBlock=some g→own g = .th i:=fun f=>hul.mine g f
  have cs:∀ {j k:Nat} {u1:Value},j < Z.n→(upd vs i (vs i++[u]) j)[k]?=some u1→((vs j)[k]?=some u1∨(j=i∧k=(vs i).length∧u1=u)):=fun {j k u1} hj e=>by
   by_cases z:j=i
   ·
    subst z
    simp only [upd_same] at e
    by_cases hkk:k < (vs j).length
    ·
     rw [List.getElem?_append_left hkk] at e
     exact .inl e
    ·
     rw [List.getElem?_append_right (by omega)] at e
     have:k - (vs j).length=0:=by
      have:=(List.getElem?_eq_some_iff.1 e).1
      simp at this
      omega
     rw [this] at e
     simp at e
     exact .inr ⟨rfl,by omega,e.symm⟩
   ·
    simp only [upd_ne _ _ z] at e
    exact .inl e
  rcases cs hj e1 with z1 | ⟨z1,z2,z3⟩<;>rcases cs hj' e2 with y1 | ⟨y1,y2,y3⟩
  ·
   exact a9 j k j' k' u1 u2 g hj hj' z1 y1 f1 f2
  ·
   have h1:=old hj z1 f1
   rw [y3] at f2
   rw [new f2] at h1
   cases h1
  ·
   have h1:=old hj' y1 f2
   rw [z3] at f1
   rw [new f1] at h1
   cases h1
  ·
   exact ⟨z1.trans y1.symm,z2.trans y2.symm⟩
end
theorem ListAt.keep1 {own own':Nat→Owner} {hp hp':Array Obj} {v:Value} {l:List Int} (h:ListAt own hp v l) (hk:∀ b v,0 < v→own b = .tag v→own' b = .tag v∧hp'[b]?=hp[b]?):ListAt own' hp' v l:=by
 obtain ⟨h0,a,cap,e,hc,q⟩:=h
 exact ⟨h0,a,cap,e,hc,fun hne=>by
  obtain ⟨b,o,c,e1,e2,e3,e4⟩:=q hne
  exact ⟨b,o,c,e1,(hk b 1 (by decide) e2).1,(hk b 1 (by decide) e2).2.trans e3,e4⟩⟩
theorem famGate (gb:Nat):FamOk (GateAt gb):=⟨fun {s own own' w w'} h hs ht hn=>by
 obtain ⟨a,⟨p,c,c1,c2,c3,c4,c5⟩,d,e,f,g⟩:=h
 have h1:=hs gb _ _ _ a c1 (by decide) (by decide)
 have hh:∀ b t,own' b = .tag (t+2)→own b = .tag (t+2):=fun b t hb=>(hn b _ hb).resolve_right (by omega)
 refine ⟨h1.1,⟨p,c,h1.2.trans c1,c2,c3,c4,?_⟩,d,e,fun b b' t q1 q2=>f b b' t (hh _ _ q1) (hh _ _ q2),fun b t q=>g b t (hh _ _ q)⟩
 rcases c5 with c5 | ⟨h0,kb,v,e1,e2,e3,e4⟩
 ·
  exact .inl c5
 ·
  exact .inr ⟨h0,kb,v,e1,(ht _ _ (Nat.succ_pos _) e2).1,(ht _ _ (Nat.succ_pos _) e2).2.trans e3,e4.keep1 ht⟩⟩
def idL (S:Type):Lens S S:=⟨id,fun v _=>v,fun _ _=>rfl⟩
theorem partGate {gb:Nat} {Z:AL} {md:Md (SM GateS)} (hmd:md.Rep=GRep (GateAt gb) Z):Part md (idL GateS) (GateAt gb) gb TS2 :=
 GRep.part (fun h=>h) (fun h=>by obtain ⟨p,c,e,_⟩:=h.cell;exact ⟨_,_,_,e,by decide,by decide⟩) (fun _ _ h=>h) hmd
end Go.Proofs.Ytofacoojpgkbiaa
/-
 A new gate,alone. No condition of its own.
-/
namespace Go.Proofs.Ytofacoojpgkbiaa
open Go.Conc Go.RowKit
open Go.ConcN (upd upd_ne upd_same)
set_option maxRecDepth 100000
def NewG (N j:Nat) (w0 w:World):Prop:=Below N w0 w∧w.heap.size=N+1∧∃ c,w.heap[N]?=some (.cells c 66 (0,0))∧c.size=65∧c[0]?=some (.pointer none)∧∀ i,i < 64→c[1+i]?=some (.int .i64 (if i < j then -1 else 0))
theorem NewG.cell {N j i:Nat} {w0 w:World} (h:NewG N j w0 w) (hi:i < 64):∃ v,w.cell? ⟨N,1+i,none⟩=some (.int .i64 v)∧w.frozen? ⟨N,1+i,none⟩=false:=by
 obtain ⟨_,_,c,h1,_,_,h2⟩:=h
 exact ⟨_,(zac h1 (1+i)).trans (h2 i hi),zau h1 _⟩
theorem NewG.put {N j:Nat} {w0 w:World} (h:NewG N j w0 w) (hj:j < 64) (hN:N=w0.heap.size):NewG N (j+1) w0 (w.setCell ⟨N,1+j,none⟩ (.int .i64 (-1))):=by
 obtain ⟨h0,hs,c,h1,h2,h3,h4⟩:=h
 refine ⟨h0.setCell (by rw [hN];exact Nat.le_refl _) _,by simp [World.setCell,hs],_,za1 h1 _ _,by simpa using h2,?_,fun i hi => ?_⟩
 ·
  rw [Array.getElem?_setIfInBounds_ne (by omega)]
  exact h3
 ·
  by_cases z:i=j
  ·
   subst z
   have:1+i < c.size:=by omega
   simp [this]
  ·
   rw [Array.getElem?_setIfInBounds_ne (by omega),h4 i hi]
   have:(i < j)=(i < j+1):=by apply propext;omega
   simp only [this]
theorem zero66:Try.zeroCells66=(Value.pointer none::List.replicate 64 (.int .i64 0)).toArray:=by kernel_rfl
theorem new_start (w:World):NewG w.heap.size 0 w (w.alloc (.cells Try.zeroCells66 66)):=by
 refine ⟨(Below.refl _ _).alloc (Nat.le_refl _) _,by simp,_,heap_alloc_new _ _,by rw [zero66];rfl,by rw [zero66];rfl,fun i hi => ?_⟩
 rw [zero66,Nat.add_comm,List.getElem?_toArray,List.getElem?_cons_succ,List.getElem?_replicate,if_pos hi,if_neg (Nat.not_lt_zero _)]
theorem new_walk (w:World):Calls Try.prog 20 #[] w fun e w'=>e = .returned (gpv w.heap.size)∧NewG w.heap.size 64 w w':=by
 go_enter Try.func20,Try.ntmps20
 have H0:=Lib.hid (new_start w)
 generalize hN:w.heap.size=N at *
 replace hN:=Lib.hid hN
 go_wp2
 rw [hN.out]
 go_loopw [5] (fun iv wr=>∃ (j:Nat),j≤64∧iv = .int .i64 j∧Hid (NewG N j w wr)) (fun iv _=>64 - (intOf iv).toNat)
 case atStart=>exact ⟨0,by omega,rfl,H0⟩
 case round =>
  obtain ⟨j,hj,rfl,hG⟩:=hrel
  have e1:IntKind.i64.wrap ((j:Int)+1)=((j+1:Nat):Int):=by rw [IntKind.wrap_i64];omega
  by_cases hlt:j < 64
  ·
   have hlt':(j:Int) < 64:=by omega
   have hj0:(0:Int)≤(j:Int):=by omega
   obtain ⟨v,c1,c2⟩:=hG.out.cell hlt
   have hs:=wordStore N (1+j) v (-1) wr c1 c2
   have hP:=Lib.hid (hG.out.put hlt hN.out.symm)
   go_wp2_with (go_at_call 83;refine hs.mono ?_;rintro e w' ⟨rfl,rfl⟩)
   exact ⟨⟨j+1,by omega,by rw [Int.natCast_add];rfl,hP⟩,by simp [intOf];omega⟩
  ·
   have hlt':¬ (j:Int) < 64:=by omega
   obtain rfl:j=64:=by omega
   go_wp2
   go_ret
   exact ⟨rfl,hG.out⟩
end Go.Proofs.Ytofacoojpgkbiaa
/-
 A thread's answer is laid behind its others (printed by gen/ans2.py). No condition of its own.
-/
namespace Go.Proofs.Ytofacoojpgkbiaa
open Go.Conc Go.RowKit
open Go.ConcN (upd upd_ne upd_same)
set_option maxRecDepth 100000
noncomputable def c170:Code:=(Try.f170.body).getD .skip
def A170 (x:Nat→Value):Act:=⟨#[x 0,x 1,x 2,x 3,x 4,x 5,x 6,x 7,x 8,x 9,x 10,x 11,x 12,x 13,x 14,x 15,x 16,x 17,x 18,x 19,x 20,x 21,x 22,x 23,x 24,x 25,x 26,x 27,x 28,x 29,x 30,x 31,x 32],[]⟩
theorem a170_of (l:Array Value) (hl:l.size=33):(⟨l,[]⟩:Act)=A170 fun j=>l.getD j undef:=by
 have e:∀ x:Nat→Value,(A170 x).tmps=((List.range 33).map x).toArray:=fun x=>rfl
 have h1:l=(A170 fun j=>l.getD j undef).tmps:=by
  rw [e]
  apply Array.ext_getElem?
  intro i
  by_cases h:i < 33
  ·
   have h':i < l.size:=by omega
   simp [h,h',List.getElem?_range]
  ·
   have h':¬ i < l.size:=by omega
   rw [Array.getElem?_eq_none (by omega),Array.getElem?_eq_none (by simp;omega)]
 exact congrArg (Act.mk · []) h1
def bodyT:Code→Code:=fun c=>cA (cA (cB c))
def inT:Code→Code:=fun c=>cA (cA (cB (cB (bodyT c))))
theorem info42z:(Try.prog.info? 42).map (fun i=>(i.zero,i.size,i.bytes))=some (some (.agg #[.bool false,.int .i64 0,.slice none 0 0]),3,40):=by kernel_rfl
theorem zdt {S:Type} {R:S→(Nat→Owner)→World→Prop} {Z:AL} {m:SM S} {own:Nat→Owner} {w wp:World} {D:Nat→Option (Nat×Nat)} (h:GRep R Z m own w) (hp:Sim wp (poi D w)) {b:Nat} {c:Array Value} {t:TypeId} {f:Nat×Nat} (hm:(b,.cells c t f)∈Z.stc) (i:Nat):wp.cell? ⟨b,i,none⟩=c[i]? :=
 (zas hp _).trans (zd3 (h.stc _ hm).2)
theorem slots170 {x:Nat→Value} {v3 v4 v8:Value} {t:List Value} (h3:x 3=v3) (h4:x 4=v4) (h8:x 8=v8) (j:Nat) (hj:j < 22) :
  (([x 0,x 1,x 2,v3,v4,x 5,x 6,x 7,v8,x 9,x 10,x 11,x 12,x 13,x 14,x 15,x 16,x 17,x 18,x 19,x 20,x 21]++t).toArray).getD j undef=x j:=by
 subst h3 h4 h8
 rcases j with _ | _ | _ | _ | _ | _ | _ | _ | _ | _ | _ | _ | _ | _ | _ | _ | _ | _ | _ | _ | _ | _ | j<;>first | rfl | omega
section
variable {S:Type} {R:S→(Nat→Owner)→World→Prop} {Z:AL} {md:Md (SM S)} {A:Nat→Prop} {w₀:W0 (SM S)} {cs:List Frame} {K:List Item} {y:md.β} {own:Nat→Owner} {w w1:World} {m:SM S}
def SM.tell (m:SM S) (i:Nat) (r:Ans):SM S:={ m with an:=upd m.an i (m.an i++[r]) }
theorem answered_turn (O:md.Ok) (hmd:md.Rep=GRep R Z) (F:FamOk R) (C:md.C y own A w₀ w m) (hi:md.i < Z.n) {c:Array Value} {vs:Nat→List Value} (ha:AnsRep Z m.an c vs own w) {r:Ans} {u v':Value} (hL:LRow (.th md.i) Z.lo own w u r.l) (hu:∀ g,u.ownBlock=some g→¬ A g) (hs:w.heap.size≤w1.heap.size)
  (hv:w1.ownsRow Z.lo 42 3 v' ((m.an md.i).length+1) (flatA (m.an md.i++[r]) (vs md.i++[u]))) (hb:∀ g,v'.ownBlock=some g→(c.getD md.i undef).ownBlock=some g∨w.heap.size≤g) (har:w1.heap[Z.ar]?=some (.cells (c.setIfInBounds md.i v') 40 (0,0)))
  (hk:∀ b,b < w.heap.size→b≠Z.ar→(c.getD md.i undef).ownBlock≠some b→w1.heap[b]?=w.heap[b]?) :
  md.C y (ownA w.heap.size w1.heap.size u own) A ⟨w₀.heap,m.tell md.i r,w₀.own⟩ w1 (m.tell md.i r)∧OwnStep md.i own (ownA w.heap.size w1.heap.size u own) w.heap.size∧Frm md.i own w w1:=by
 have hR:GRep R Z m own w:=hmd▸C.rep
 have old:∀ {b},own b ≠ .out→¬ (w.heap.size≤b∧b < w1.heap.size):=fun {b} hb=>by have:=C.lt hb;omega
 have same:∀ {b},own b ≠ .out→own b ≠ .th md.i→ownA w.heap.size w1.heap.size u own b=own b:=fun {b} h1 h2=>by
  unfold ownA
  rw [if_neg (old h1),if_neg fun z=>h2 (hL.mine b z)]
 have hkn:∀ b,own b ≠ .out→own b ≠ .sh→w1.heap[b]?=w.heap[b]?:=fun b h1 h2=>hk b (C.lt h1) (fun z=>h2 (z▸ha.osh)) fun z=>h2 (ha.rsh md.i b hi z)
 have htag:∀ b v,own b = .tag v→ownA w.heap.size w1.heap.size u own b = .tag v∧w1.heap[b]?=w.heap[b]?:=fun b v hb=>⟨(same (by rw [hb];simp) (by rw [hb];simp)).trans hb,hkn b (by rw [hb];simp) (by rw [hb];simp)⟩
 refine C.turn O (fun b => ?_) hs (fun b hb h1 h2=>hk b hb (fun z=>h2 (z▸ha.osh)) fun z=>h2 (ha.rsh md.i b hi z)) (fun b hb => ?_) ?_ (fun b hb => ?_) rfl fun b v hb => ?_
 ·
  unfold ownA
  split
  ·
   rename_i h
   exact .inr ⟨.inl h.1,.inr (.inl rfl)⟩
  ·
   split
   ·
    rename_i h
    exact .inr ⟨.inr (.inl (hL.mine b h)),.inr (.inr ⟨_,rfl⟩)⟩
   ·
    exact .inl rfl
 ·
  have h1:=C.fresh b (by omega)
  unfold ownA
  rw [if_neg (by omega),if_neg fun z=>by rw [hL.mine b z] at h1;cases h1]
  exact h1
 ·
  rw [hmd]
  refine ⟨F.keep hR.fam (fun b cc t f hb hh t1 t2=>⟨(same (by rw [hb];simp) (by rw [hb];simp)).trans hb,hk b (C.lt (by rw [hb];simp)) (fun z => ?_) fun z => ?_⟩) (fun b v _ hb=>htag b v hb) (fun b v hb => ?_),⟨_,_,ha.answered hi C.fresh hs hL hv hb har hk⟩,fun x hx=>⟨(htag _ _ (hR.stc x hx).1).1,(htag _ _ (hR.stc x hx).1).2.trans (hR.stc x hx).2⟩,hR.lo⟩
  ·
   rw [z,ha.ar] at hh
   simp only [Option.some.injEq,Obj.cells.injEq] at hh
   exact t1 hh.2.1.symm
  ·
   obtain ⟨cc',hcc⟩:=zak (ha.row md.i hi) z
   rw [hcc] at hh
   simp only [Option.some.injEq,Obj.cells.injEq] at hh
   exact t2 hh.2.1.symm
  ·
   unfold ownA at hb
   split at hb
   ·
    cases hb
   ·
    split at hb
    ·
     cases hb
     exact .inr (Nat.le_refl _)
    ·
     exact .inl hb
 ·
  obtain ⟨q1,q2⟩:=C.mine b hb
  have h1:own b ≠ .out:=by rw [q1];simp
  refine ⟨?_,(hkn b h1 (by rw [q1];simp)).trans q2⟩
  unfold ownA
  rw [if_neg (old h1),if_neg fun z=>hu b z hb]
  exact q1
 ·
  obtain ⟨q1,q2⟩:=C.tg b v hb
  exact ⟨(htag b v q1).1,(htag b v q1).2.trans q2⟩
set_option maxRecDepth 100000 in
theorem answer_piece (O:md.Ok) (hmd:md.Rep=GRep R Z) (F:FamOk R) (C:md.C y own A w₀ w m) (hi:md.i < Z.n) (hn:Z.n≤64) {ic ac B:Nat} (hic:(ic,.cells #[.int .i64 md.i] 3 (0,0))∈Z.stc) (hac:(ac,.cells #[.slice (some ⟨Z.ar,0,none⟩) Z.n Z.n] 29 (0,0))∈Z.stc) {r:Ans} {ua:Option Addr} {un uc:Nat}
  (hL:LRow (.th md.i) Z.lo own w (.slice ua un uc) r.l) (hu:∀ g,(Value.slice ua un uc).ownBlock=some g→¬ A g) (oB:own B = .th md.i) (eB:w.heap[B]?=some (.cells #[.bool r.ok,.int .i64 r.n,.slice ua un uc] 42 (0,0))) (hlen:(m.an md.i).length < 65536) {mc:SM S×Co (SM S)} {x:Nat→Value} (x3:x 3 = .pointer (some ⟨ic,0,none⟩)) (x4:x 4 = .pointer (some ⟨ac,0,none⟩)) (x8:x 8 = .pointer (some ⟨B,0,none⟩))
  (h:∀ own' w1 x',md.C y own' A ⟨w₀.heap,m.tell md.i r,w₀.own⟩ w1 (m.tell md.i r)→(∀ j,j < 22→x' j=x j)→md.GO y own' w1 mc (G ((base 170).at (A170 x') K) cs) w1) :
  md.GO y own w mc (G ((base 170).at (A170 x) (.code (cB (cB (cB (inT c170))))::K)) cs) w:=by
 rw [show cB (cB (cB (inT c170)))=Code.region _ _ _ from rfl]
 refine O.segA C zbv (zab zag (by kernel_rfl)) rfl (zaa Try.func170) rfl fun wp hp => ?_
 have hR:GRep R Z m own w:=hmd▸C.rep
 obtain ⟨c,vs,ha⟩:=hR.ans
 have oar:=ha.osh
 have hc:=ha.ar
 have hcs:=ha.size
 have hDar:md.D Z.ar=none:=C.dm O (by rw [oar];simp)
 have hDB:md.D B=none:=C.dm O (by rw [oB];simp)
 have har:=(zba hp hDar).trans hc
 have hB:=(zba hp hDB).trans eB
 have hrow:=ha.row md.i hi
 have hro:=fun g=>ha.rsh md.i g hi
 obtain ⟨v,hv⟩:∃ v,c.getD md.i undef=v:=⟨_,rfl⟩
 rw [hv] at hrow hro
 have cv:wp.cell? ⟨Z.ar,md.i,none⟩=some v:=by
  rw [zac har md.i,← hv]
  have:md.i < c.size:=by omega
  simp [this]
 have fv:=zau har md.i
 have hrowp:wp.ownsRow Z.lo 42 3 v (m.an md.i).length (flatA (m.an md.i) (vs md.i)):=zaq hrow fun g ob hg hh=>by
  rw [zba hp (C.dm O (by rw [hro g hg];simp))];exact hh
 have q0:(0:Int)≤(md.i:Nat):=by omega
 have q1:((md.i:Nat):Int) < (Z.n:Nat):=by omega
 have hca:=zdt hR hp hac 0
 have hci:=zdt hR hp hic 0
 simp only [List.getElem?_toArray,List.getElem?_cons_zero] at hca hci
 have cB0:=zac hB 0
 have cB1:=zac hB 1
 have cB2:=zac hB 2
 simp only [List.getElem?_toArray,List.getElem?_cons_zero,List.getElem?_cons_succ] at cB0 cB1 cB2
 obtain ⟨i0,hi0,hz0,hz1,hz2⟩:=info_parts info42z
 have hsrc:SrcN (wp.drew.alloc (.cells #[.bool r.ok,.int .i64 r.n,.slice ua un uc] 42)) (.slice (some ⟨wp.heap.size,0,none⟩) 1 1) 1 [.bool r.ok,.int .i64 r.n,.slice ua un uc]:=by
  refine ⟨rfl,fun u hu => ?_,.inr ⟨_,_,rfl,fun j u hj => ?_⟩⟩
  ·
   simp only [List.mem_cons,List.not_mem_nil,or_false] at hu
   rcases hu with rfl | rfl | rfl<;>rfl
  ·
   have h2:(wp.drew.alloc (.cells #[.bool r.ok,.int .i64 r.n,.slice ua un uc] 42)).heap[wp.heap.size]?=some (.cells #[.bool r.ok,.int .i64 r.n,.slice ua un uc] 42 (0,0)):=heap_alloc_new wp.drew _
   have:=zac h2 j
   rcases j with _ | _ | _ | j
   ·
    simp at hj;subst hj;simpa [Addr.add] using this
   ·
    simp at hj;subst hj;simpa [Addr.add] using this
   ·
    simp at hj;subst hj;simpa [Addr.add] using this
   ·
    simp at hj
 have hlo12:Z.lo≤(wp.drew.alloc (.cells #[.bool r.ok,.int .i64 r.n,.slice ua un uc] 42)).heap.size:=by
  have h1:=hR.size
  have h3:wp.heap.size=w.heap.size:=by rw [hp.heap,zap]
  have h4:(wp.drew.alloc (.cells #[.bool r.ok,.int .i64 r.n,.slice ua un uc] 42)).heap.size=wp.heap.size+1:=by simp
  omega
 obtain ⟨v',w',hrun,hapd⟩:=run_append_rowN (P:=Try.prog) (wp.drew.alloc (.cells #[.bool r.ok,.int .i64 r.n,.slice ua un uc] 42)) Z.lo 40 40 42 i0 _ 40 Try.underlying40 hi0 hz0 hz1 hz2 (by rfl) v (m.an md.i).length _ (hrowp.alloc (.cells #[.bool r.ok,.int .i64 r.n,.slice ua un uc] 42)) (.slice (some ⟨wp.heap.size,0,none⟩) 1 1) 1 [.bool r.ok,.int .i64 r.n,.slice ua un uc]
  hsrc (by unfold maxLen;omega) (by omega) hlo12
 have HRUN:Hid ((Builtin.append_ #[40,40] 40 #[v,.slice (some ⟨wp.heap.size,0,none⟩) 1 1]).run Try.prog (wp.drew.alloc (.cells #[.bool r.ok,.int .i64 r.n,.slice ua un uc] 42)) = .ok v' w'):=Lib.hid hrun
 clear hrun
 obtain ⟨hown',hg,hsh⟩:=hapd
 have hsz:wp.heap.size=w.heap.size:=by rw [hp.heap,zap]
 have hgs:w.heap.size+1≤w'.heap.size:=by
  have:=hg.size
  simp at this
  omega
 have oldk:∀ b,b < w.heap.size→v.ownBlock≠some b→w'.heap[b]?=wp.heap[b]?:=fun b hb hne=>(hg.block b (by simp;omega) (fun q=>hne q.symm)).trans (Below.heap_alloc wp.drew _ b (by show b < wp.heap.size;omega))
 have lt:∀ {b:Nat},own b ≠ .out→b < w.heap.size:=fun hb=>C.lt hb
 obtain ⟨oac,hacw⟩:=hR.stc _ hac
 obtain ⟨oic,hicw⟩:=hR.stc _ hic
 have pac:=(zba hp (C.dm O (by rw [oac];simp))).trans hacw
 have pic:=(zba hp (C.dm O (by rw [oic];simp))).trans hicw
 have nT:∀ {b:Nat} {cc:Array Value} {t:TypeId},wp.heap[b]?=some (.cells cc t (0,0))→t≠42→v.ownBlock≠some b:=fun e ht q=>by
  obtain ⟨c1,hc1⟩:=zak hrowp q
  rw [e] at hc1
  simp at hc1
  exact ht hc1.2
 have nB:v.ownBlock≠some B:=fun q=>by have:=hro B q;rw [oB] at this;cases this
 have w1ac:=(oldk ac (lt (by rw [oac];simp)) (nT (t:=29) pac (by decide))).trans pac
 have w1ic:=(oldk ic (lt (by rw [oic];simp)) (nT (t:=3) pic (by decide))).trans pic
 have w1B:=(oldk B (lt (by rw [oB];simp)) nB).trans hB
 have w1ar:=(oldk Z.ar (lt (by rw [oar];simp)) (nT (t:=40) har (by decide))).trans har
 have nac:ac≠Z.ar:=fun z=>by rw [z,har] at pac;simp at pac
 have nic:ic≠Z.ar:=fun z=>by rw [z,har] at pic;simp at pic
 have nBr:B≠Z.ar:=fun z=>by rw [z,har] at hB;simp at hB
 have sS:∀ W:World,W.heap[ac]?=some (.cells #[.slice (some ⟨Z.ar,0,none⟩) Z.n Z.n] 29 (0,0))→W.heap[ic]?=some (.cells #[.int .i64 md.i] 3 (0,0))→W.heap[B]?=some (.cells #[.bool r.ok,.int .i64 r.n,.slice ua un uc] 42 (0,0)) →
   W.cell? ⟨ac,0,none⟩=some (.slice (some ⟨Z.ar,0,none⟩) Z.n Z.n)∧W.cell? ⟨ic,0,none⟩=some (.int .i64 md.i)∧W.cell? ⟨B,0,none⟩=some (.bool r.ok)∧W.cell? ⟨B,1,none⟩=some (.int .i64 r.n)∧W.cell? ⟨B,2,none⟩=some (.slice ua un uc) :=
  fun W z1 z2 z3=>⟨zac z1 0,zac z2 0,zac z3 0,zac z3 1,zac z3 2⟩
 have b0:=Lib.hid (sS wp.drew pac pic hB)
 have al:∀ {b:Nat} {ob:Obj},wp.heap[b]?=some ob→(wp.drew.alloc (.cells #[.bool r.ok,.int .i64 r.n,.slice ua un uc] 42)).heap[b]?=some ob:=fun {b ob} e=>(Below.heap_alloc wp.drew _ b (Array.getElem?_eq_some_iff.1 e).1).trans e
 have b1:=Lib.hid (sS (wp.drew.alloc (.cells #[.bool r.ok,.int .i64 r.n,.slice ua un uc] 42)) (al pac) (al pic) (al hB))
 have e0:=Lib.hid (sS w' w1ac w1ic w1B)
 have oth:∀ b,b≠Z.ar→(w'.setCell ⟨Z.ar,md.i,none⟩ v').heap[b]?=w'.heap[b]?:=fun b hb=>Below.heap_setCell _ _ _ _ hb
 have e3:=Lib.hid (sS (w'.setCell ⟨Z.ar,md.i,none⟩ v') ((oth _ nac).trans w1ac) ((oth _ nic).trans w1ic) ((oth _ nBr).trans w1B))
 have f0:w'.cell? ⟨Z.ar,md.i,none⟩=some v:=by
  rw [zac w1ar md.i,← hv]
  have:md.i < c.size:=by omega
  simp [this]
 have f1:=zau w1ar md.i
 have cv1:(wp.drew.alloc (.cells #[.bool r.ok,.int .i64 r.n,.slice ua un uc] 42)).cell? ⟨Z.ar,md.i,none⟩=some v:=by
  rw [zac (al har) md.i,← hv]
  have:md.i < c.size:=by omega
  simp [this]
 have cv2:(wp.alloc (.cells #[.bool r.ok,.int .i64 r.n,.slice ua un uc] 42)).drew.cell? ⟨Z.ar,md.i,none⟩=some v:=cv1
 have cv0:wp.drew.cell? ⟨Z.ar,md.i,none⟩=some v:=cv
 have fin:∀ w1:World,(∀ b:Nat,md.D b=none→w1.heap[b]?=(w'.setCell ⟨Z.ar,md.i,none⟩ v').heap[b]?)→(∀ b:Nat,(w'.setCell ⟨Z.ar,md.i,none⟩ v').heap[b]?=wp.heap[b]?→w1.heap[b]?=w.heap[b]?)→w1.heap.size=(w'.setCell ⟨Z.ar,md.i,none⟩ v').heap.size →
   ∀ x',(∀ j,j < 22→x' j=x j)→md.GO y own w mc (G ((base 170).at (A170 x') K) cs) w1:=fun w1 g1 g2 g3 x' hx'=>by
  have hs1:w1.heap.size=w'.heap.size:=by rw [g3];simp [World.setCell]
  have hgb:∀ g,v'.ownBlock=some g→v.ownBlock=some g∨w.heap.size≤g:=fun g hg'=>by
   rcases hsh with ⟨z,_⟩ | ⟨gx,cap,z,_,q⟩
   ·
    rw [z] at hg';cases hg'
   ·
    rw [z] at hg'
    obtain rfl:gx=g:=by simpa [Value.ownBlock] using hg'
    rcases q with q | q
    ·
     exact .inl q
    ·
     have q2:wp.heap.size+1≤gx:=by simpa using q
     exact .inr (by omega)
  have hD':∀ g,v'.ownBlock=some g→md.D g=none:=fun g hg'=>by
   rcases hgb g hg' with q | q
   ·
    exact C.dm O (by rw [hro g q];simp)
   ·
    exact C.dn O q
  obtain ⟨C1,hO,hF⟩:=answered_turn O hmd F C hi ha hL hu (w1:=w1) (v':=v') (by omega) (zaq (w:=w') (by rw [flatA_snoc (ha.len md.i hi)];exact hown') fun g ob hg' hh=>by
     have ng:g≠Z.ar:=fun z=>by
      obtain ⟨c1,hc1⟩:=zak hown' hg'
      rw [z,w1ar] at hc1
      simp at hc1
     rw [g1 g (hD' g hg'),oth g ng]
     exact hh) (fun g hg'=>by rw [hv];exact hgb g hg') (by rw [g1 _ hDar];exact za1 w1ar md.i v') (fun b hb h1 h2=>g2 b ((oth b h1).trans (oldk b hb (by rw [← hv];exact h2))))
  exact O.rebase hO hF (h _ w1 x' C1 hx')
 obtain ⟨g,cap,rfl⟩:∃ g cap,v' = .slice (some ⟨g,0,none⟩) ((m.an md.i).length+1) cap:=by
  rcases hsh with ⟨_,_,z,_⟩ | ⟨g,cap,e,_⟩
  ·
   cases z
  ·
   exact ⟨g,cap,e⟩
 replace fin:=Lib.hid fin
 clear hsz hgs oldk lt hown' hg hsh w1ac w1ic w1B w1ar nT nB sS al pac pic hrowp hrow hro hsrc oth h har hB hc eB hlo12 ha hR hL hu
 unfold A170
 simp only [x3,x4,x8]
 replace C:=Lib.hid C
 replace hp:=Lib.hid hp
 replace x3:=Lib.hid x3
 replace x4:=Lib.hid x4
 replace x8:=Lib.hid x8
 generalize hmi:md.i=mi at *
 replace hmi:=Lib.hid hmi
 go_wp2_with fail
 refine wp_region_held_drew (S:=fun w'=>w'.cell? ⟨ac,0,none⟩=some (.slice (some ⟨Z.ar,0,none⟩) Z.n Z.n)∧w'.cell? ⟨ic,0,none⟩=some (.int .i64 mi)∧w'.cell? ⟨B,0,none⟩=some (.bool r.ok)∧w'.cell? ⟨B,1,none⟩=some (.int .i64 r.n)∧w'.cell? ⟨B,2,none⟩=some (.slice ua un uc)) (by kernel_rfl) b0.out (fun hHeld => ?_)
 refine zec (i:=0) (v := ?v1) rfl (by kernel_rfl) (by kernel_rfl) (by kernel_rfl) (fun _ _ _ h=>absurd (And.left h) (fun e=>by cases e)) (by rfl) (by assumption) ?hy1 ?rest1
 case hy1=>(intro w hSw;(try dsimp only at hSw);first | (go_simp;done) | (go_simp;with_reducible rfl))
 try simp only [Act.put,List.setIfInBounds_toArray,List.set_cons_zero,List.set_cons_succ]
 refine zec (i:=1) (v := ?v2) rfl (by kernel_rfl) (by kernel_rfl) (by kernel_rfl) (fun _ _ _ h=>absurd (And.left h) (fun e=>by cases e)) (by rfl) (by assumption) ?hy2 ?rest2
 case hy2=>(intro w hSw;(try dsimp only at hSw);first | (go_simp;done) | (go_simp;with_reducible rfl))
 try simp only [Act.put,List.setIfInBounds_toArray,List.set_cons_zero,List.set_cons_succ]
 refine zec (i:=2) (v := ?v3) rfl (by kernel_rfl) (by kernel_rfl) (by kernel_rfl) (fun _ _ _ h=>absurd (And.left h) (fun e=>by cases e)) (by rfl) (by assumption) ?hy3 ?rest3
 case hy3=>(intro w hSw;(try dsimp only at hSw);first | (go_simp;done) | (go_simp;with_reducible rfl))
 try simp only [Act.put,List.setIfInBounds_toArray,List.set_cons_zero,List.set_cons_succ]
 refine zec (i:=3) (v := ?v4) rfl (by kernel_rfl) (by kernel_rfl) (by kernel_rfl) (fun _ _ _ h=>absurd (And.left h) (fun e=>by cases e)) (by rfl) (by assumption) ?hy4 ?rest4
 case hy4=>(intro w hSw;(try dsimp only at hSw);first | (go_simp;done) | (go_simp;with_reducible rfl))
 try simp only [Act.put,List.setIfInBounds_toArray,List.set_cons_zero,List.set_cons_succ]
 refine zec (i:=4) (v := ?v5) rfl (by kernel_rfl) (by kernel_rfl) (by kernel_rfl) (fun _ _ _ h=>absurd (And.left h) (fun e=>by cases e)) (by rfl) (by assumption) ?hy5 ?rest5
 case hy5=>(intro w hSw;(try dsimp only at hSw);first | (go_simp;done) | (go_simp;with_reducible rfl))
 try simp only [Act.put,List.setIfInBounds_toArray,List.set_cons_zero,List.set_cons_succ]
 refine zec (i:=6) (v := ?v6) rfl (by kernel_rfl) (by kernel_rfl) (by kernel_rfl) (fun _ _ _ h=>absurd (And.left h) (fun e=>by cases e)) (by rfl) (by assumption) ?hy6 ?rest6
 case hy6=>(intro w hSw;(try dsimp only at hSw);first | (go_simp;done) | (go_simp;with_reducible rfl))
 try simp only [Act.put,List.setIfInBounds_toArray,List.set_cons_zero,List.set_cons_succ]
 refine wpAnyH_ready (rs:=[5,7]) (by kernel_rfl) (by simp) (zdk rfl (fun K hK => ?_) (zdk rfl (fun K hK => ?_) AllReadyH.nil))
 ·
  rw [if_pos (by kernel_rfl)]
  go_simp
  refine hK.out _ _ hHeld (fun hHeld => ?_)
  clear hK K
  try simp only [Act.put,List.setIfInBounds_toArray,List.set_cons_zero,List.set_cons_succ]
  refine wpAnyH_ready (rs:=[7]) (by kernel_rfl) (by simp) (zdk rfl (fun K hK => ?_) AllReadyH.nil)
  go_simp
  refine hK.out _ _ b1.out (fun hHeld => ?_)
  clear hK K
  try simp only [Act.put,List.setIfInBounds_toArray,List.set_cons_zero,List.set_cons_succ]
  refine wpAnyH_ready (rs:=[8]) (by kernel_rfl) (by simp) (zdk rfl (fun K hK => ?_) AllReadyH.nil)
  refine zbo (by rfl) _ _ 40 40 (by rfl) v (.slice (some ⟨wp.heap.size,0,none⟩) 1 1) (by rfl) (by rfl) HRUN.out ?_
  refine hK.out _ _ e0.out (fun hHeld => ?_)
  clear hK K
  try simp only [Act.put,List.setIfInBounds_toArray,List.set_cons_zero,List.set_cons_succ]
  refine zec (i:=9) (v := ?v7) rfl (by kernel_rfl) (by kernel_rfl) (by kernel_rfl) (fun _ _ _ h=>absurd (And.left h) (fun e=>by cases e)) (by rfl) (by assumption) ?hy7 ?rest7
  case hy7=>(intro w hSw;(try dsimp only at hSw);first | (go_simp;done) | (go_simp;with_reducible rfl))
  try simp only [Act.put,List.setIfInBounds_toArray,List.set_cons_zero,List.set_cons_succ]
  refine wpAnyH_ready (rs:=[10]) (by kernel_rfl) (by simp) (zdk rfl (fun K hK => ?_) AllReadyH.nil)
  go_simp
  refine hK.out _ _ e3.out (fun hHeld => ?_)
  clear hK K
  try simp only [Act.put,List.setIfInBounds_toArray,List.set_cons_zero,List.set_cons_succ]
  refine wpAnyH_done (by kernel_rfl) ?_ _
  go_wp2_with fail
  intro w1 g1 g2 g3
  rw [a170_of _ rfl]
  refine fin.out w1 g1 g2 (g3.trans (by simp [World.setCell])) _ fun j hj => ?_
  exact slots170 x3.out x4.out x8.out j hj
 ·
  go_simp
  refine hK.out _ _ b1.out (fun hHeld => ?_)
  clear hK K
  try simp only [Act.put,List.setIfInBounds_toArray,List.set_cons_zero,List.set_cons_succ]
  refine wpAnyH_ready (rs:=[5]) (by kernel_rfl) (by simp) (zdk rfl (fun K hK => ?_) AllReadyH.nil)
  rw [if_pos (by kernel_rfl)]
  go_simp
  refine hK.out _ _ hHeld (fun hHeld => ?_)
  clear hK K
  try simp only [Act.put,List.setIfInBounds_toArray,List.set_cons_zero,List.set_cons_succ]
  refine wpAnyH_ready (rs:=[8]) (by kernel_rfl) (by simp) (zdk rfl (fun K hK => ?_) AllReadyH.nil)
  refine zbo (by rfl) _ _ 40 40 (by rfl) v (.slice (some ⟨wp.heap.size,0,none⟩) 1 1) (by rfl) (by rfl) HRUN.out ?_
  refine hK.out _ _ e0.out (fun hHeld => ?_)
  clear hK K
  try simp only [Act.put,List.setIfInBounds_toArray,List.set_cons_zero,List.set_cons_succ]
  refine zec (i:=9) (v := ?v8) rfl (by kernel_rfl) (by kernel_rfl) (by kernel_rfl) (fun _ _ _ h=>absurd (And.left h) (fun e=>by cases e)) (by rfl) (by assumption) ?hy8 ?rest8
  case hy8=>(intro w hSw;(try dsimp only at hSw);first | (go_simp;done) | (go_simp;with_reducible rfl))
  try simp only [Act.put,List.setIfInBounds_toArray,List.set_cons_zero,List.set_cons_succ]
  refine wpAnyH_ready (rs:=[10]) (by kernel_rfl) (by simp) (zdk rfl (fun K hK => ?_) AllReadyH.nil)
  go_simp
  refine hK.out _ _ e3.out (fun hHeld => ?_)
  clear hK K
  try simp only [Act.put,List.setIfInBounds_toArray,List.set_cons_zero,List.set_cons_succ]
  refine wpAnyH_done (by kernel_rfl) ?_ _
  go_wp2_with fail
  intro w1 g1 g2 g3
  rw [a170_of _ rfl]
  refine fin.out w1 g1 g2 (g3.trans (by simp [World.setCell])) _ fun j hj => ?_
  exact slots170 x3.out x4.out x8.out j hj
end
end Go.Proofs.Ytofacoojpgkbiaa
/-
 A thread that calls do for its operations. No condition of its own.
-/
namespace Go.Proofs.Ytofacoojpgkbiaa
open Go.Conc Go.RowKit
open Go.ConcN (upd upd_ne upd_same)
set_option maxRecDepth 100000
def opsT {S:Type} (doφ:OpD→(Ans→Fu (SM S))→Fu (SM S)) (i:Nat):List OpD→Fu (SM S)
 | []=>finF
 | o::l=>doφ o (fun r m=>opsT doφ i l (m.tell i r))
structure TW (Z:AL) (fdo:FuncId) (recv:Value) (i:Nat) (L:List OpD) (oc dc ic ac:Nat) (ob:Option Addr) (ocap:Nat):Prop where
 oc:(oc,.cells #[.slice ob L.length ocap] 34 (0,0))∈Z.stc
 ob:L≠[]→∃ b off cells t fr,ob=some ⟨b,off,none⟩∧(b,.cells cells t fr)∈Z.stc∧∀ j o,L[j]?=some o→cells[off+j * 4]?=some (.int .i64 o.kind)∧cells[off+j * 4+1]?=some (.int .i64 o.a)∧cells[off+j * 4+2]?=some (.int .i64 o.b)∧cells[off+j * 4+3]?=some (.int .i64 o.c)
 dc:(dc,.cells #[.func (.func fdo) #[recv] #[]] 158 (0,0))∈Z.stc
 ic:(ic,.cells #[.int .i64 i] 3 (0,0))∈Z.stc
 ac:(ac,.cells #[.slice (some ⟨Z.ar,0,none⟩) Z.n Z.n] 29 (0,0))∈Z.stc
 len:L.length≤65536
 ok:∀ o∈L,o.Ok
structure X170 (sv:Value) (oc dc ic ac:Nat) (ob:Option Addr) (len ocap:Nat) (x:Nat→Value):Prop where
 x0:x 0=sv
 x2:x 2 = .pointer (some ⟨dc,0,none⟩)
 x3:x 3 = .pointer (some ⟨ic,0,none⟩)
 x4:x 4 = .pointer (some ⟨ac,0,none⟩)
 x9:x 9 = .slice ob len ocap
 x10:x 10 = .int .i64 len
theorem neq_fn158 (f:Fn) (a b:Array Value) (W:World):(binOp .neq 158 (.func f a b) .nilFunc).run Try.prog W = .ok (.bool true) W:=by
 have h:(Op.equalIn (9999+1) 158 (.func f a b) .nilFunc).run Try.prog W = .ok false W:=by
  unfold Op.equalIn
  simp [run_underlying Try.underlying158]
 simp only [binOp]
 simp [Op.equal,Op.maxDepth,h]
section
variable {S:Type} {R:S→(Nat→Owner)→World→Prop} {Z:AL} {md:Md (SM S)} {A:Nat→Prop} {c:Frame} {cs:List Frame} {fdo:FuncId} {fnd:Func} {recv:Value} {doφ:OpD→(Ans→Fu (SM S))→Fu (SM S)}
theorem doing_loop (O:md.Ok) (hmd:md.Rep=GRep R Z) (F:FamOk R) (hi:md.i < Z.n) (hn:Z.n≤64) (hdo:DoOk md Z.lo fdo recv doφ) (hfd:Try.prog.funcs[fdo]?=some fnd) (hname:(fnd.name == "runtime.NumGoroutine")=false) (hbody:fnd.body.isNone=false)
  {L:List OpD} {oc dc ic ac:Nat} {ob:Option Addr} {ocap:Nat} (T:TW Z fdo recv md.i L oc dc ic ac ob ocap) {h₀:Array Obj} {o₀:Nat→Owner} (hret:∀ m',md.F finF A ⟨h₀,m',o₀⟩ (G (c.finish (.tuple #[])) cs)) (hend:∀ m',md.End A ⟨h₀,m',o₀⟩ c cs) :
  ∀ l j,L.drop j=l→j≤L.length→∀ x y own w m,md.C y own A ⟨h₀,m,o₀⟩ w m→(m.an md.i).length≤j→X170 md.sv oc dc ic ac ob L.length ocap x→x 11 = .int .i64 j →
   md.GO y own w (opsT doφ md.i l m) (G ((base 170).at (A170 x) (.code (bodyT c170) :: .inLoop (bodyT c170) :: .inBlock 0::[])) (c::cs)) w:=by
 intro l
 induction l with
 | nil =>
  intro j hl hj x y own w m C hlen hx h11
  have hjl:j=L.length:=by
   have:=congrArg List.length hl
   simp at this
   omega
  subst hjl
  have e1:¬ (L.length:Int) < (L.length:Int):=by omega
  refine za4 (O.xc ..) rfl fun R0 hR0 => ?_
  rw [show cA (bodyT c170)=Code.region _ _ _ from rfl]
  unfold A170
  simp only [hx.x0,hx.x2,hx.x3,hx.x4,hx.x9,hx.x10,h11]
  refine O.seg0 C zbv (zab zag (by kernel_rfl)) rfl (zaa Try.func170) rfl fun wp hp => ?_
  replace hp:=Lib.hid hp
  go_wp2_with fail
  refine ⟨hp.out,?_⟩
  clear hp  wp
  obtain rfl:=hR0.out
  clear hR0
  refine za4 (O.xc ..) rfl fun R0 hR0 => ?_
  rw [show cA (cB (bodyT c170))=Code.cond _ _ _ from rfl]
  refine zao (O.xc ..) (t:=false) rfl ?_
  obtain rfl:=hR0.out
  refine x_exit (O.xc ..) rfl ?_
  refine x_end (O.xc ..) ?_
  refine za0 (O.xc ..) (zaa Try.func170) (C.st O) ⟨rfl,rfl,rfl,_,Try.func170,results_none rfl _ _ _⟩ ?_
  exact hret m _ _ _ _ C
 | cons o l ih =>
  intro j hl hj x y own w m C hlen hx h11
  have hjl:j < L.length:=by
   rcases Nat.lt_or_ge j L.length with z | z
   ·
    exact z
   ·
    rw [List.drop_eq_nil_of_le z] at hl;cases hl
  have hLj:L[j]?=some o:=by
   have:=congrArg (·[0]?) hl
   simpa using this
  have hl':L.drop (j+1)=l:=by
   have:=congrArg List.tail hl
   simpa [List.tail_drop] using this
  have hok:=T.ok o (List.mem_of_getElem? hLj)
  obtain ⟨b,off,cells,t0,fr0,hob,hbst,hcell⟩:=T.ob (by intro z;rw [z] at hjl;simp at hjl)
  obtain ⟨k0,k1,k2,k3⟩:=hcell j o hLj
  have hR:GRep R Z m own w:=hmd▸C.rep
  generalize hmc:opsT doφ md.i (o::l) m=mc
  replace hmc:=Lib.hid hmc
  replace ih:=Lib.hid ih
  have e1:(j:Int) < (L.length:Int):=by omega
  have hlen2:=T.len
  refine za4 (O.xc ..) rfl fun R0 hR0 => ?_
  rw [show cA (bodyT c170)=Code.region _ _ _ from rfl]
  unfold A170
  simp only [hx.x0,hx.x2,hx.x3,hx.x4,hx.x9,hx.x10,h11]
  rw [hob]
  refine O.seg0 C zbv (zab zag (by kernel_rfl)) rfl (zaa Try.func170) rfl fun wp hp => ?_
  replace hp:=Lib.hid hp
  go_wp2_with fail
  refine ⟨hp.out,?_⟩
  clear hp  wp
  obtain rfl:=hR0.out
  clear hR0
  refine za4 (O.xc ..) rfl fun R0 hR0 => ?_
  rw [show cA (cB (bodyT c170))=Code.cond _ _ _ from rfl]
  refine zao (O.xc ..) (t:=true) rfl ?_
  refine zbq (O.xc ..) ?_
  obtain rfl:=hR0.out
  clear hR0
  refine za4 (O.xc ..) rfl fun R0 hR0 => ?_
  rw [show cA (cB (cB (bodyT c170)))=Code.block _ _ from rfl]
  refine zb4 (O.xc ..) ?_
  refine zae (O.xc ..) fun R1 hR1 => ?_
  obtain ⟨N,hN⟩:∃ N,w.heap.size=N:=⟨_,rfl⟩
  refine O.segA C zbv (zab zag (by kernel_rfl)) rfl (zaa Try.func170) rfl fun wp hp => ?_
  have f0:=(zdt hR hp hbst _).trans k0
  have f1:=(zdt hR hp hbst _).trans k1
  have f2:=(zdt hR hp hbst _).trans k2
  have f3:=(zdt hR hp hbst _).trans k3
  have hsz:wp.heap.size=N:=by rw [hp.heap,zap];exact hN
  have q0:(0:Int)≤(j:Nat):=by omega
  replace hsz:=Lib.hid hsz
  replace hp:=Lib.hid hp
  replace hN:=Lib.hid hN
  go_wp2_with fail
  rw [hsz.out]
  refine fun w1 p1 p2 p3=>O.one C hp.out rfl hN.out p1 p2 p3 fun own1 C1 e7 hs1 o1 L1 _ => ?_
  have hAN:∀ b,A b→b < N:=fun b hb=>by
   rw [← hN.out]
   exact C.lt (by rw [(C.mine b hb).1];simp)
  clear p1 p2 p3 hp hsz wp f0 f1 f2 f3 k0 k1 k2 k3 q0 e1 hN C hR
  obtain rfl:=hR1.out
  clear hR1
  refine zae (O.xc ..) fun R1 hR1 => ?_
  refine O.segA C1 zbv (zab zag (by kernel_rfl)) rfl (zaa Try.func170) rfl fun wp hp => ?_
  have hsz:wp.heap.size=N+1:=by rw [hp.heap,zap];exact hs1
  replace hsz:=Lib.hid hsz
  replace hp:=Lib.hid hp
  replace hs1:=Lib.hid hs1
  replace hAN:=Lib.hid hAN
  go_wp2_with fail
  rw [hsz.out]
  refine fun w2 p1 p2 p3=>O.one C1 hp.out rfl hs1.out p1 p2 p3 fun own2 C2 e8 hs2 o2 L2 hlow => ?_
  replace e7:=(hlow N (by omega)).1.trans e7
  replace o1:=(hlow N (by omega)).2.trans o1
  have LL:=L1.trans L2
  clear p1 p2 p3 hp hsz wp hlow C1 L1 L2 hs1 hs2
  obtain rfl:=hR1.out
  clear hR1
  refine zae (O.xc ..) fun R1 hR1 => ?_
  refine zae (O.xc ..) fun R2 hR2 => ?_
  have hR:GRep R Z m own2 w2:=hmd▸C2.rep
  have hneq:=neq_fn158 (.func fdo) #[recv] #[]
  refine zbi (O.xc ..) 2 (by decide) (by decide) (zaj (by kernel_rfl)) (C2.st O) fun wp hp => ?_
  simp only [List.take_succ_cons,List.take_zero]
  have fd:=zdt hR hp T.dc 0
  simp only [List.getElem?_toArray,List.getElem?_cons_zero] at fd
  replace hp:=Lib.hid hp
  go_wp2_with fail
  refine zaf hp.out (C2.st O).okd ?_
  clear hp fd hneq wp
  refine zad (O.xc ..) ?_
  obtain rfl:=hR2.out
  clear hR2
  refine zao (O.xc ..) (t:=true) rfl ?_
  refine zbi (O.xc ..) 4 (by decide) (by decide) (zaj (by kernel_rfl)) (C2.st O) fun wp hp => ?_
  simp only [List.take_succ_cons,List.take_zero]
  have fd:=zdt hR hp T.dc 0
  have fi:=zdt hR hp T.ic 0
  have f0:=(zas hp _).trans (zac e7 0)
  have f1:=(zas hp _).trans (zac e7 1)
  have f2:=(zas hp _).trans (zac e7 2)
  have f3:=(zas hp _).trans (zac e7 3)
  simp only [List.getElem?_toArray,List.getElem?_cons_zero,List.getElem?_cons_succ] at fd fi f0 f1 f2 f3
  replace hp:=Lib.hid hp
  go_wp2_with fail
  refine zaf hp.out (C2.st O).okd ?_
  clear hp fd fi f0 f1 f2 f3 wp
  refine x_callV (O.xc ..) rfl rfl (by decide) rfl rfl hfd hname hbody ?_
  walk_nrm
  obtain rfl:=hmc.out
  clear hmc
  refine hdo (th:=md.i) (A:=fun b=>own2 b = .th md.i) (w₀:=⟨w2.heap,m,own2⟩) (κ:=fun r m=>opsT doφ md.i l (m.tell md.i r)) hok (O.endUp (zaa Try.func170) rfl rfl (O.endMore (hend m) LL)) (fun r v y3 own3 w3 m3 C3 hL hv => ?_) _ _ _ _ C2
  rw [Frame.finish_at]
  walk_nrm
  obtain ⟨oB,q2⟩:=C3.mine (N+1) o2
  have e9:=q2.trans e8
  have hD:md.D (N+1)=none:=C3.dm O (by rw [oB];simp)
  have hpv3:Hid (m3.an md.i=m.an md.i):=Lib.hid C3.pv
  generalize hmc:opsT doφ md.i l (m3.tell md.i r)=mc
  replace hmc:=Lib.hid hmc
  obtain ⟨ua,un,uc,rfl⟩:∃ ua un uc,v = .slice ua un uc:=by
   rcases hL.row.2 with ⟨e,_⟩ | ⟨g',cap,cur,e,_⟩<;>exact ⟨_,_,_,e⟩
  refine zca (O.xc ..) 5 1 (by decide) (by decide) (zaj (by kernel_rfl)) (C3.st O) fun wp hp => ?_
  simp only [List.drop_succ_cons,List.drop_zero,List.take_succ_cons,List.take_zero]
  have hg:=(zba hp hD).trans e9
  have c0:=zac hg 0
  have c1:=zac hg 1
  have c2:=zac hg 2
  have z0:=zau hg 0
  have z1:=zau hg 1
  have z2:=zau hg 2
  simp only [List.getElem?_toArray,List.getElem?_cons_zero,List.getElem?_cons_succ] at c0 c1 c2
  replace hg:=Lib.hid hg
  replace hp:=Lib.hid hp
  unfold ansV
  go_wp2_with fail
  refine ⟨⟨rfl,rfl⟩,put3 w3 (N+1) r (.slice ua un uc),rfl,zd8 (C3.st O).okd _ _ _,zd7 hp.out _ r _,?_⟩
  clear hg hp c0 c1 c2 z0 z1 z2 wp
  refine zad (O.xc ..) ?_
  obtain rfl:=hR1.out
  clear hR1
  obtain rfl:=hR0.out
  clear hR0
  have C4:=C3.less LL
  obtain ⟨C5,hF⟩:=C4.wrote (w1:=put3 w3 (N+1) r (.slice ua un uc)) O oB (fun h=>by have:=hAN.out _ h;omega) (put3_size _ _ _ _) (fun b hb=>put3_off hb r _)
  refine O.rebase .refl hF ?_
  rw [a170_of _ rfl]
  have hvA:∀ g,(Value.slice ua un uc).ownBlock=some g→¬ A g:=fun g hg h=>hv g hg (LL.own g h).1
  have hL5:LRow (.th md.i) Z.lo own3 (put3 w3 (N+1) r (.slice ua un uc)) (.slice ua un uc) r.l:=hL.keep fun b hb ho=>⟨ho,put3_off (fun z=>by rw [z] at hb;exact hv _ hb o2) r _⟩
  refine answer_piece O hmd F C5 hi hn T.ic T.ac hL5 hvA oB (putA_at e9 rfl r _) (by rw [hpv3.out];omega) rfl rfl rfl fun own4 w4 x' C6 hx' => ?_
  have g0:x' 0=md.sv:=hx' 0 (by decide)
  have g2:x' 2 = .pointer (some ⟨dc,0,none⟩):=hx' 2 (by decide)
  have g3:x' 3 = .pointer (some ⟨ic,0,none⟩):=hx' 3 (by decide)
  have g4:x' 4 = .pointer (some ⟨ac,0,none⟩):=hx' 4 (by decide)
  have g9:x' 9 = .slice ob L.length ocap:=by rw [hob];exact hx' 9 (by decide)
  have g10:x' 10 = .int .i64 L.length:=hx' 10 (by decide)
  have g11:x' 11 = .int .i64 j:=hx' 11 (by decide)
  clear hx'
  have qq:IntKind.i64.wrap ((j:Int)+1)=((j+1:Nat):Int):=by rw [IntKind.wrap_i64];omega
  refine zb7 (O.xc ..) ?_
  rw [show cB (cB (cB (bodyT c170)))=Code.region _ _ _ from rfl]
  unfold A170
  simp only [g0,g2,g3,g4,g9,g10,g11]
  refine O.seg0 C6 zbv (zab zag (by kernel_rfl)) rfl (zaa Try.func170) rfl fun wp hp => ?_
  replace hp:=Lib.hid hp
  go_wp2_with fail
  refine ⟨hp.out,?_⟩
  clear hp  wp
  refine zcu (O.xc ..) ?_
  rw [a170_of _ rfl]
  obtain rfl:=hmc.out
  refine ih.out (j+1) hl' (by omega) _ _ _ _ _ C6 ?_ ⟨rfl,rfl,rfl,rfl,by rw [hob];rfl,rfl⟩ rfl
  show (upd m3.an md.i (m3.an md.i++[r]) md.i).length≤j+1
  rw [upd_same,List.length_append,hpv3.out]
  simp
  omega
end
end Go.Proofs.Ytofacoojpgkbiaa
