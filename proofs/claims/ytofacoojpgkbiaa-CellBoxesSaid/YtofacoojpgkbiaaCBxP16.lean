/-
  A part of a proof. No condition of its own.
-/
import Derived.Test.YtofacoojpgkbiaaCBxP15
import Derived.Lib.SliceRun
set_option linter.unusedVariables false
set_option maxHeartbeats 8000000
set_option linter.unusedSimpArgs false
namespace Go.Proofs.Ytofacoojpgkbiaa
open Go.Conc Go.RowKit
open Go.ConcN (upd upd_ne upd_same)
set_option maxRecDepth 100000
def zfc (l:List Int):List Value:=l.map (Value.int .i64)
theorem IntsAt.mono {w w':World} {v:Value} {l:List Int} (h:IntsAt w v l) (hb:∀ b,b < w.heap.size→w'.heap[b]?=w.heap[b]?):IntsAt w' v l:=by
 obtain ⟨a,cap,e,q⟩:=h;exact ⟨a,cap,e,fun hne=>by
  obtain ⟨b,o,e1,q1⟩:=q hne;exact ⟨b,o,e1,fun j x hj=>by
   have:=q1 j x hj;have hlt:=World.block_lt_of_cell? w _ this;exact (World.cell?_of_block (w:=w) (hb _ hlt)).trans this⟩⟩
section
variable {S:Type} {md:Md (SM S)} {L:zcl S GateS} {gb:Nat} {A:Nat→Prop} {w₀:W0 (SM S)} {c:Frame} {cs:List Frame}
def GateS.lay (g:GateS) (p at_:Int):GateS:={ g with num:=upd g.num p.toNat at_ }
def setF (L:zcl S GateS) (p at_:Int) (κ:Int→Fu (SM S)):Fu (SM S):=if p < 0∨64≤p then κ 1 else zb1 fun m=>κ 0 (m.with (L.put ((L.get m.st).lay p at_) m.st))
end
theorem zml {w:World} {base e n:Nat} {v:Value} {xs:List Value} (h:w.ownsRow base e 1 v n xs) :
  ∃ p cap,v = .slice p n cap∧n≤cap∧(0 < n→∃ g c,p=some ⟨g,0,none⟩∧base≤g∧w.heap[g]?=some (.cells c e (0,0))∧∀ j,j < n→c[j]?=xs[j]?):=by
 rcases h.2 with ⟨rfl,rfl⟩|⟨g,cap,cur,rfl,q1,q2,q3,q4,q5,q6⟩
 ·exact ⟨none,0,rfl,yax _,fun h=>by omega⟩
 ·refine ⟨_,cap,rfl,q3,fun _=>⟨g,cur,rfl,q1,q2,fun j hj=>?_⟩⟩;rw [← q6,List.getElem?_take_of_lt (by omega)];simp
section
variable {M:Type} [Priv M] {md:Md M} {x:md.β} {own:Nat→Owner} {A:Nat→Prop} {w₀:W0 M} {w wp w' w1:World} {m:M} {mc:M×Co M} {g:Goroutine} {N:Nat}
end
section
variable {S:Type} {md:Md (SM S)} {L:zcl S GateS} {gb:Nat} {A:Nat→Prop} {w₀:W0 (SM S)} {c:Frame} {cs:List Frame}
end
section
variable {S:Type} {md:Md (SM S)} {L:zcl S GateS} {gb:Nat} {A:Nat→Prop} {w₀:W0 (SM S)} {c:Frame} {cs:List Frame} {R:List Item}
end
section
variable {S:Type} {md:Md (SM S)} {L:zcl S GateS} {gb:Nat} {A:Nat→Prop} {w₀:W0 (SM S)} {c:Frame} {cs:List Frame} {R:List Item}
end
section
variable {M:Type} [Priv M] {md:Md M} {y:md.β} {own own0:Nat→Owner} {A:Nat→Prop} {w₀:W0 M} {w w0 w1:World} {m:M} {mc:M×Co M} {b:Frame} {a:Act} {k:List Item} {cs:List Frame} {ops:Array Oper} {i:Nat} {rest:List Nat} {o:Oper}
end
theorem zku {P:Program} {main:Bool} {K:World→Prop} {Still:Loc→Prop} {Inb:Nat→Option Seat} {GO:Goroutine→World→Prop} {b:Frame} {a:Act} {k:List Item} {cs:List Frame} {w:World} {id:Nat} {c:Code} (X:XC P main K Still Inb GO) (hc:c = .block id (cA c)) (h:GO (G (b.at a (.code (cA c) :: .inBlock id::k)) cs) w):GO (G (b.at a (.code c::k)) cs) w:=by
 rw [hc];exact zb7 X h
section
variable {S:Type} {md:Md (SM S)} {L:zcl S GateS} {gb H:Nat} {A:Nat→Prop} {w₀:W0 (SM S)} {c:Frame} {cs:List Frame} {hv v:Value} {p:Int} {l:List Int} {y:md.β} {own0 own:Nat→Owner} {w0 w w1:World} {m:SM S} {listed:Array Bool} {x:Nat→Value}
end
section
variable {S:Type} {md:Md (SM S)} {L:zcl S GateS} {gb:Nat} {A:Nat→Prop} {w₀:W0 (SM S)} {c:Frame} {cs:List Frame}
end
section
variable {M:Type} [Priv M] {md:Md M} {x:md.β} {own own0:Nat→Owner} {A:Nat→Prop} {w₀:W0 M} {w w0:World} {m:M} {mc:M×Co M} {b:Frame} {a:Act} {k:List Item} {cs:List Frame} {ops:Array Oper} {i:Nat} {rest:List Nat} {o:Oper} {C':FuncId→Prop} {c:Frame}
end
theorem zsn (l:List Int):(zfc l).length=l.length:=by simp [zfc]
section
variable {M:Type} [Priv M] {md:Md M} {y:md.β} {own own0:Nat→Owner} {A:Nat→Prop} {w₀:W0 M} {w w0:World} {m:M} {mc:M×Co M} {c:Frame} {cs:List Frame}
end
section
variable {S:Type} {md:Md (SM S)} {L:zcl S GateS} {gb H:Nat} {A:Nat→Prop} {w₀:W0 (SM S)} {c:Frame} {cs:List Frame} {hv v:Value} {p i:Int} {l:List Int} {y:md.β} {own0 own:Nat→Owner} {w0 w w1:World} {m:SM S} {listed:Array Bool} {x:Nat→Value}
end
section
variable {S:Type} {md:Md (SM S)} {L:zcl S GateS} {gb:Nat} {A:Nat→Prop} {w₀:W0 (SM S)} {c:Frame} {cs:List Frame}
end
structure OpD where
 kind:Int
 a:Int
 b:Int
 c:Int
structure OpD.Ok (o:OpD):Prop where
 kind:zcm o.kind
 a:zcm o.a
 b:zcm o.b
 c:zcm o.c
def opV (o:OpD):Value := .agg #[.int .i64 o.kind,.int .i64 o.a,.int .i64 o.b,.int .i64 o.c]
def zq1 (r:Ans) (v:Value):Value := .agg #[.bool r.ok,.int .i64 r.n,v]
structure LRow (ow:Owner) (lo:Nat) (own:Nat→Owner) (w:World) (v:Value) (l:List Int):Prop where
 row:w.ownsRow lo 2 1 v l.length (zfc l)
 mine:∀ g,v.ownBlock=some g→own g=ow
theorem LRow.nil {ow:Owner} {lo:Nat} {own:Nat→Owner} {w:World}:LRow ow lo own w (.slice none 0 0) []:=⟨⟨rfl,.inl ⟨rfl,rfl⟩⟩,fun g hg=>by cases hg⟩
theorem LRow.keep {ow:Owner} {lo:Nat} {own own':Nat→Owner} {w w':World} {v:Value} {l:List Int} (h:LRow ow lo own w v l) (hk:∀ b,v.ownBlock=some b→own b=ow→own' b=ow∧w'.heap[b]?=w.heap[b]?):LRow ow lo own' w' v l:=by
 obtain ⟨⟨h1,h2⟩,h3⟩:=h;rcases h2 with ⟨rfl,h2⟩|⟨g,cap,cur,rfl,q1,q2,q3⟩
 ·exact ⟨⟨h1,.inl ⟨rfl,h2⟩⟩,fun g hg=>by cases hg⟩
 ·obtain ⟨k1,k2⟩:=hk g rfl (h3 g rfl);refine ⟨⟨h1,.inr ⟨g,cap,cur,rfl,q1,k2.trans q2,q3⟩⟩,fun b hb=>?_⟩;cases hb;exact k1
def DoOk {S:Type} (md:Md (SM S)) (lo:Nat) (fdo:FuncId) (recv:Value) (doφ:OpD→(Ans→Fu (SM S))→Fu (SM S)):Prop :=
 ∀ {o:OpD} {th:Int} {κ:Ans→Fu (SM S)} {A:Nat→Prop} {w₀:W0 (SM S)} {c:Frame} {cs:List Frame},o.Ok→md.End A w₀ c cs →
  (∀ r v y own w m,md.C y own A w₀ w m→LRow (.th md.i) lo own w v r.l→(∀ g,v.ownBlock=some g→¬ A g)→md.GO y own w (κ r m) (G (c.finish (zq1 r v)) cs) w) →
  md.F (doφ o κ) A w₀ (G (Frame.enter Try.prog fdo #[recv,md.sv,.int .i64 th,opV o] .normal) (c::cs))
def zmo (w:World) (b:Nat) (r:Ans) (v:Value):World:=((w.setCell ⟨b,0,none⟩ (.bool r.ok)).setCell ⟨b,1,none⟩ (.int .i64 r.n)).setCell ⟨b,2,none⟩ v
theorem zr5 {w:World} {b:Nat} {c:Array Value} {t:TypeId} (h:w.heap[b]?=some (.cells c t (0,0))) (hc:c.size=3) (r:Ans) (v:Value):(zmo w b r v).heap[b]?=some (.cells #[.bool r.ok,.int .i64 r.n,v] t (0,0)):=put3_at h hc _ _ _
theorem zil {w:World} {b x:Nat} (h:x≠b) (r:Ans) (v:Value):(zmo w b r v).heap[x]?=w.heap[x]?:=by
 unfold zmo;rw [Below.heap_setCell _ _ _ _ h,Below.heap_setCell _ _ _ _ h,Below.heap_setCell _ _ _ _ h]
theorem zmn (w:World) (b:Nat) (r:Ans) (v:Value):(zmo w b r v).heap.size=w.heap.size:=by simp [zmo,World.setCell]
theorem zij {D:Nat→Option (Nat×Nat)} {w wp:World} (h:Sim wp (poi D w)) (b:Nat) (r:Ans) (v:Value):Sim (zmo wp b r v) (poi D (zmo w b r v)):=za3 (za3 (za3 h _ _) _ _) _ _
theorem zik {D:Nat→Option (Nat×Nat)} {w:World} (h:Okd D w) (b:Nat) (r:Ans) (v:Value):Okd D (zmo w b r v):=zbz (zbz (zbz h _ _) _ _) _ _
theorem info42:(Try.prog.info? 42).map (·.size)=some 3:=by kernel_rfl
section
variable {S:Type} {md:Md (SM S)} {A A1:Nat→Prop} {w₀ w₁:W0 (SM S)} {c:Frame} {cs:List Frame} {y:md.β} {own1:Nat→Owner} {w1:World} {m:SM S} {R:List Item} {lo:Nat}
theorem zov (O:md.Ok) (C1:md.C y own1 A1 w₁ w1 m) (LL:Less md.i A w₀ A1 w₁) {B:Nat} (hA:¬ A B) (oB:own1 B = .th md.i) {k:Array Value} (eB:w1.heap[B]?=some (.cells k 42 (0,0))) (hk:k.size=3)
  {κ:Fu (SM S)} (r:Ans) {v:Value} (hL:LRow (.th md.i) lo own1 w1 v r.l) (hv:∀ g,v.ownBlock=some g→¬ A g∧g≠B) (hret:∀ y own w m,md.C y own A w₀ w m→LRow (.th md.i) lo own w v r.l→(∀ g,v.ownBlock=some g→¬ A g)→md.GO y own w (κ m) (G (c.finish (zq1 r v)) cs) w)
  {f:FuncId} {fn:Func} (hf:Try.prog.funcs[f]?=some fn) (hres:zbr true Try.prog f) {p:Tmp} (hr:fn.results=#[.cell p 42]) {l:Array Value} (hp:l.getD p undef = .pointer (some ⟨B,0,none⟩)) :
  md.GO y own1 w1 (κ m) (G ((base f).at ⟨l,[]⟩ (.code .ret::R)) (c::cs)) (zmo w1 B r v):=by
 have C2:=C1.less LL;obtain ⟨C3,hF⟩:=C2.wrote (w1:=zmo w1 B r v) O oB hA (zmn _ _ _ _) (fun b hb=>zil hb r v);have hD:md.D B=none:=C1.dm O (by rw [oB];simp);have hB:=(zbb (Sim.refl (poi md.D (zmo w1 B r v))) hD).trans (zr5 eB hk r v);refine zb5 (O.xc ..) ?_;refine zav (O.xc ..) hres (C3.st O) ⟨rfl,rfl,rfl,fn,hf,?_⟩ ?_ (v:=zq1 r v)
 ·exact results_cell_row hr _ _ B 42 _ (0,0) _ hp hB Try.underlying42 (by rfl) (by rw [info42];rfl)
 ·exact O.rebase .refl hF (hret _ _ _ _ C3 (hL.keep fun b hb ho=>⟨ho,zil (hv b hb).2 r v⟩) fun g hg=>(hv g hg).1)
end
section
variable {S:Type} {md:Md (SM S)} {L:zcl S GateS} {gb lo:Nat} {A:Nat→Prop} {w₀:W0 (SM S)} {c:Frame} {cs:List Frame} {κ:Ans→Fu (SM S)} {o:OpD} {y:md.β} {own1:Nat→Owner} {w1:World} {m:SM S} {N:Nat} {x:Nat→Value} {R:List Item}
end
theorem info2g:(Try.prog.info? 2).map (fun i=>(i.zero,i.size,i.bytes))=some (some (.int .i64 0),1,8):=by kernel_rfl
theorem LRow.frozen {ow:Owner} {lo:Nat} {own:Nat→Owner} {w wp:World} {D:Nat→Option (Nat×Nat)} {v:Value} {l:List Int} (h:LRow ow lo own w v l) (hp:Sim wp (poi D w)) (hD:∀ b,own b=ow→D b=none):wp.ownsRow lo 2 1 v l.length (zfc l):=by
 obtain ⟨⟨h1,h2⟩,h3⟩:=h;rcases h2 with ⟨rfl,h2⟩|⟨g,cap,cur,rfl,q1,q2,q3⟩
 ·exact ⟨h1,.inl ⟨rfl,h2⟩⟩
 ·exact ⟨h1,.inr ⟨g,cap,cur,rfl,q1,(zbb hp (hD g (h3 g rfl))).trans q2,q3⟩⟩
theorem LRow.lt {ow:Owner} {lo:Nat} {own:Nat→Owner} {w:World} {v:Value} {l:List Int} (h:LRow ow lo own w v l) {g:Nat} (hg:v.ownBlock=some g):lo≤g∧g < w.heap.size:=by
 rcases h.row.2 with ⟨rfl,_⟩|⟨g',cap,cur,rfl,q1,q2,_⟩
 ·cases hg
 ·cases hg;exact ⟨q1,(yah.1 q2).1⟩
section
variable {M:Type} [Priv M] {md:Md M} {y:md.β} {own:Nat→Owner} {A:Nat→Prop} {w₀:W0 M} {w:World} {m:M} {lo:Nat} {u:Value} {xs:List Int} {g0:Nat} {q:Int}
end
section
variable {S:Type} {md:Md (SM S)} {L:zcl S GateS} {gb lo:Nat} {A A₁:Nat→Prop} {w₀ w₁:W0 (SM S)} {c:Frame} {cs:List Frame} {κ:Ans→Fu (SM S)} {o:OpD} {y:md.β} {own1:Nat→Owner} {w1:World} {m:SM S} {N K:Nat} {x:Nat→Value} {R:List Item}
end
theorem zaq {w w':World} {base n:Nat} {e:TypeId} {sz:Nat} {v:Value} {ys:List Value} (h:w.ownsRow base e sz v n ys) (hk:∀ g ob,v.ownBlock=some g→w.heap[g]?=some ob→w'.heap[g]?=some ob):w'.ownsRow base e sz v n ys:=by
 obtain ⟨h1,h2⟩:=h;refine ⟨h1,?_⟩;rcases h2 with h2|⟨g,cap,cur,rfl,hb,hg,r⟩
 ·exact .inl h2
 ·exact .inr ⟨g,cap,cur,rfl,hb,hk g _ rfl hg,r⟩
theorem za4 {w:World} {base n:Nat} {e:TypeId} {sz:Nat} {v:Value} {ys:List Value} (h:w.ownsRow base e sz v n ys) {g:Nat} (hg:v.ownBlock=some g):∃ c,w.heap[g]?=some (.cells c e (0,0)):=by
 rcases h.2 with ⟨rfl,_⟩|⟨g',cap,cur,rfl,_,hh,_⟩
 ·cases hg
 ·cases hg;exact ⟨cur,hh⟩
theorem zc3 {w:World} {base n:Nat} {e:TypeId} {sz:Nat} {v:Value} {ys:List Value} (h:w.ownsRow base e sz v n ys) {g:Nat} (hg:v.ownBlock=some g):base≤g∧g < w.heap.size:=by
 rcases h.2 with ⟨rfl,_⟩|⟨g',cap,cur,rfl,q1,hh,_⟩
 ·cases hg
 ·cases hg;exact ⟨q1,(yah.1 hh).1⟩
structure AL where
 n:Nat
 ar:Nat
 lo:Nat
 stc:List (Nat×Obj)
def zth (r:Ans) (u:Value):List Value:=[.bool r.ok,.int .i64 r.n,u]
def zgb (l:List Ans) (vs:List Value):List Value:=(l.zip vs).flatMap fun x=>zth x.1 x.2
theorem zqq {l:List Ans} {vs:List Value} (h:vs.length=l.length) (r:Ans) (u:Value):zgb (l++[r]) (vs++[u])=zgb l vs++zth r u:=by
 unfold zgb;rw [List.zip_append h.symm];simp
structure AnsRep (Z:AL) (an:Nat→List Ans) (c:Array Value) (vs:Nat→List Value) (own:Nat→Owner) (w:World):Prop where
 osh:own Z.ar = .sh
 ar:w.heap[Z.ar]?=some (.cells c 40 (0,0))
 size:c.size=Z.n
 dis:∀ j k g,j < Z.n→k < Z.n→(c.getD j undef).ownBlock=some g→(c.getD k undef).ownBlock=some g→j=k
 len:∀ j,j < Z.n→(vs j).length=(an j).length
 row:∀ j,j < Z.n→w.ownsRow Z.lo 42 3 (c.getD j undef) (an j).length (zgb (an j) (vs j))
 rsh:∀ j g,j < Z.n→(c.getD j undef).ownBlock=some g→own g = .sh
 lst:∀ (j k:Nat) (r:Ans) (u:Value),j < Z.n→(an j)[k]?=some r→(vs j)[k]?=some u→LRow (.tag 1) Z.lo own w u r.l
 ldis:∀ (j k j' k':Nat) (u u':Value) (g:Nat),j < Z.n→j' < Z.n→(vs j)[k]?=some u→(vs j')[k']?=some u'→u.ownBlock=some g→u'.ownBlock=some g→j=j'∧k=k'
structure zgd {S:Type} (R:S→(Nat→Owner)→World→Prop):Prop where
 keep:∀ {s own own' w w'},R s own w→(∀ b c t f,own b = .sh→w.heap[b]?=some (.cells c t f)→t≠40→t≠42→own' b = .sh∧w'.heap[b]?=w.heap[b]?)→(∀ b v,0 < v→own b = .tag v→own' b = .tag v∧w'.heap[b]?=w.heap[b]?) →
  (∀ b v,own' b = .tag v→own b = .tag v∨v≤1)→R s own' w'
structure GRep {S:Type} (R:S→(Nat→Owner)→World→Prop) (Z:AL) (m:SM S) (own:Nat→Owner) (w:World):Prop where
 fam:R m.st own w
 ans:∃ c vs,AnsRep Z m.an c vs own w
 stc:∀ x∈Z.stc,own x.1 = .tag 1∧w.heap[x.1]?=some x.2
 lo:Z.lo≤Z.ar
section
variable {S:Type} {R:S→(Nat→Owner)→World→Prop} {Z:AL} {m:SM S} {an:Nat→List Ans} {c:Array Value} {vs:Nat→List Value} {own own':Nat→Owner} {w w' w1:World}
theorem AnsRep.keep (h:AnsRep Z an c vs own w) (hs:∀ b c t f,own b = .sh→w.heap[b]?=some (.cells c t f)→t=40∨t=42→own' b = .sh∧w'.heap[b]?=w.heap[b]?) (ht:∀ b,own b = .tag 1→own' b = .tag 1∧w'.heap[b]?=w.heap[b]?):AnsRep Z an c vs own' w':=by
 obtain ⟨a1,a2,a3,a4,a5,a6,a7,a8,a9⟩:=h;have h1:=hs _ _ _ _ a1 a2 (.inl rfl);have h2:∀ j g,j < Z.n→(c.getD j undef).ownBlock=some g→own' g = .sh∧w'.heap[g]?=w.heap[g]?:=fun j g hj hg=>by
  obtain ⟨cc,hcc⟩:=za4 (a6 j hj) hg;exact hs _ _ _ _ (a7 j g hj hg) hcc (.inr rfl)
 exact ⟨h1.1,h1.2.trans a2,a3,a4,a5,fun j hj=>zaq (a6 j hj) fun g ob hg hh=>(h2 j g hj hg).2.trans hh,fun j g hj hg=>(h2 j g hj hg).1,fun j k r u hj e1 e2=>(a8 j k r u hj e1 e2).keep fun b _ ho=>ht b ho,a9⟩
theorem GRep.size (h:GRep R Z m own w):Z.lo≤w.heap.size:=by
 obtain ⟨c,vs,ha⟩:=h.ans;have:=(yah.1 ha.ar).1;have:=h.lo;omega
theorem GRep.local (F:zgd R):zcp (GRep R Z):=fun m own own' w w' h hk=>by
 obtain ⟨h1,⟨c,vs,h2⟩,h3,h4⟩:=h;exact ⟨F.keep h1 (fun b _ _ _ hb _ _ _=>hk.sh hb) (fun b v _ hb=>hk.tag hb) (fun b v hb => .inl (hk.2 b v hb)),⟨c,vs,h2.keep (fun b _ _ _ hb _ _=>hk.sh hb) fun b hb=>hk.tag hb⟩,fun x hx=>⟨(hk.tag (h3 x hx).1).1,(hk.tag (h3 x hx).1).2.trans (h3 x hx).2⟩,h4⟩
theorem GRep.part {V:Type} {L:zcl S V} {At:V→(Nat→Owner)→World→Prop} {B:Nat} {TS:Nat→Prop} (hr:∀ {s own w},R s own w→At (L.get s) own w) (hty:∀ {s own w},R s own w→∃ c t f,w.heap[B]?=some (.cells c t f)∧t≠40∧t≠42)
  (hu:∀ {s own own' w w' v},R s own w→KBlk B TS own own' w w'→At v own' w'→R (L.put v s) own' w') {md:Md (SM S)} (hmd:md.Rep=GRep R Z):Part md L At B TS:=by
 refine ⟨fun h=>?_,fun {m own own' w w' v} h hk hv=>?_⟩
 ·rw [hmd] at h;exact hr h.fam
 ·rw [hmd] at h ⊢;obtain ⟨h1,⟨c,vs,h2⟩,h3,h4⟩:=h;obtain ⟨cc,t,f,e1,e2,e3⟩:=hty h1;exact ⟨hu h1 hk hv,⟨c,vs,h2.keep (fun b c' t' f' hb hh ht=>hk.sh b hb fun z=>by
   rw [z,e1] at hh;simp only [Option.some.injEq,Obj.cells.injEq] at hh;rcases ht with ht|ht
   ·exact e2 (hh.2.1.trans ht)
   ·exact e3 (hh.2.1.trans ht)) fun b hb=>hk.tag b 1 hb⟩,fun x hx=>⟨(hk.tag _ _ (h3 x hx).1).1,(hk.tag _ _ (h3 x hx).1).2.trans (h3 x hx).2⟩,h4⟩
def znm (lo hi:Nat) (u:Value) (own:Nat→Owner):Nat→Owner:=fun b=>if lo≤b∧b < hi then .sh else if u.ownBlock=some b then .tag 1 else own b
theorem AnsRep.answered (h:AnsRep Z an c vs own w) {i:Nat} (hi:i < Z.n) (hfresh:∀ b,w.heap.size≤b→own b = .out) (hs:w.heap.size≤w1.heap.size) {v' u:Value} {r:Ans} (hul:LRow (.th i) Z.lo own w u r.l)
  (hv:w1.ownsRow Z.lo 42 3 v' ((an i).length+1) (zgb (an i++[r]) (vs i++[u]))) (hb:∀ g,v'.ownBlock=some g→(c.getD i undef).ownBlock=some g∨w.heap.size≤g) (har:w1.heap[Z.ar]?=some (.cells (c.setIfInBounds i v') 40 (0,0)))
  (hk:∀ b,b < w.heap.size→b≠Z.ar→(c.getD i undef).ownBlock≠some b→w1.heap[b]?=w.heap[b]?):AnsRep Z (upd an i (an i++[r])) (c.setIfInBounds i v') (upd vs i (vs i++[u])) (znm w.heap.size w1.heap.size u own) w1:=by
 obtain ⟨a1,a2,a3,a4,a5,a6,a7,a8,a9⟩:=h;have lt:∀ {x:Nat},own x ≠ .out→x < w.heap.size:=fun {x} hx=>by
  rcases Nat.lt_or_ge x w.heap.size with z|z
  ·exact z
  ·exact absurd (hfresh x z) hx
 have ush:∀ {x:Nat},own x = .sh→u.ownBlock≠some x:=fun hx z=>by rw [hul.mine _ z] at hx;cases hx
 have osh:∀ {x:Nat},own x = .sh→znm w.heap.size w1.heap.size u own x = .sh:=fun {x} hx=>by
  unfold znm;have:=lt (x:=x) (by rw [hx];simp);rw [if_neg (by omega),if_neg (ush hx)];exact hx
 have otg:∀ {x:Nat},own x = .tag 1→znm w.heap.size w1.heap.size u own x = .tag 1:=fun {x} hx=>by
  unfold znm;have:=lt (x:=x) (by rw [hx];simp);rw [if_neg (by omega)];split
  ·rfl
  ·exact hx
 have ktg:∀ {x:Nat},(own x = .tag 1∨own x = .th i)→w1.heap[x]?=w.heap[x]?:=fun {x} hx=>by
  refine hk x (lt (by rcases hx with q|q<;>rw [q]<;>simp)) (fun z=>?_) fun z=>?_
  ·rw [z,a1] at hx;rcases hx with q|q<;>cases q
  ·rw [a7 i x hi z] at hx;rcases hx with q|q<;>cases q
 have hget:∀ j,j < Z.n→(c.setIfInBounds i v').getD j undef=if j=i then v' else c.getD j undef:=fun j hj=>by
  have hj':j < c.size:=by omega
  by_cases z:j=i
  ·subst z;simp [hj']
  ·rw [if_neg z];simp only [Array.getD_eq_getD_getElem?,Array.getElem?_setIfInBounds];rw [if_neg (Ne.symm z)]
 refine ⟨osh a1,har,by simpa using a3,fun j k g hj hk' e1 e2=>?_,fun j hj=>?_,fun j hj=>?_,fun j g hj hg=>?_,fun j k r' u' hj e1 e2=>?_,fun j k j' k' u1 u2 g hj hj' e1 e2 f1 f2=>?_⟩
 ·rw [hget j hj] at e1;rw [hget k hk'] at e2;have big:∀ x,x < Z.n→(c.getD x undef).ownBlock=some g→g < w.heap.size:=fun x hx hg=>lt (by rw [a7 x g hx hg];simp);by_cases zj:j=i<;>by_cases zk:k=i
  ·rw [zj,zk]
  ·rw [if_pos zj] at e1;rw [if_neg zk] at e2;rcases hb g e1 with z|z
   ·exact absurd (a4 i k g hi hk' z e2) (by omega)
   ·have:=big k hk' e2;omega
  ·rw [if_neg zj] at e1;rw [if_pos zk] at e2;rcases hb g e2 with z|z
   ·exact absurd (a4 i j g hi hj z e1) (by omega)
   ·have:=big j hj e1;omega
  ·rw [if_neg zj] at e1;rw [if_neg zk] at e2;exact a4 j k g hj hk' e1 e2
 ·by_cases z:j=i
  ·subst z;simp only [upd_same,List.length_append,a5 j hj,List.length_singleton]
  ·simp only [upd_ne _ _ z];exact a5 j hj
 ·rw [hget j hj];by_cases z:j=i
  ·subst z;rw [if_pos rfl];simp only [upd_same];rw [List.length_append];exact hv
  ·rw [if_neg z];simp only [upd_ne _ _ z];refine zaq (a6 j hj) fun g ob hg hh=>?_;refine (hk g (lt (by rw [a7 j g hj hg];simp)) (fun y=>?_) fun y=>z (a4 j i g hj hi hg y)).trans hh;obtain ⟨cc,hcc⟩:=za4 (a6 j hj) hg;rw [y,a2] at hcc;simp at hcc
 ·rw [hget j hj] at hg;by_cases z:j=i
  ·subst z;rw [if_pos rfl] at hg;rcases hb g hg with z|z
   ·exact osh (a7 j g hi z)
   ·have:=(zc3 hv hg).2;unfold znm;rw [if_pos ⟨z,this⟩]
  ·rw [if_neg z] at hg;exact osh (a7 j g hj hg)
 ·by_cases z:j=i
  ·subst z;simp only [upd_same] at e1 e2;by_cases hkk:k < (an j).length
   ·rw [List.getElem?_append_left hkk] at e1;rw [List.getElem?_append_left (by rw [a5 j hj];exact hkk)] at e2;exact (a8 j k r' u' hj e1 e2).keep fun b _ ho=>⟨otg ho,ktg (.inl ho)⟩
   ·rw [List.getElem?_append_right (by omega)] at e1;rw [List.getElem?_append_right (by rw [a5 j hj];omega),a5 j hj] at e2;have:k - (an j).length=0:=by
     have:=(yai.1 e1).1;simp at this;omega
    rw [this] at e1 e2;simp at e1 e2;subst e1 e2;obtain ⟨⟨q1,q2⟩,q3⟩:=hul;rcases q2 with ⟨rfl,q2⟩|⟨g,cap,cur,rfl,k1,k2,k3⟩
    ·exact ⟨⟨q1,.inl ⟨rfl,q2⟩⟩,fun g hg=>by cases hg⟩
    ·have og:=q3 g rfl;have hlt:=lt (x:=g) (by rw [og];simp);refine ⟨⟨q1,.inr ⟨g,cap,cur,rfl,k1,(ktg (.inr og)).trans k2,k3⟩⟩,fun b hb'=>?_⟩;cases hb';unfold znm;rw [if_neg (by show ¬ (w.heap.size≤g∧_);omega)];exact if_pos rfl
  ·simp only [upd_ne _ _ z] at e1 e2;exact (a8 j k r' u' hj e1 e2).keep fun b _ ho=>⟨otg ho,ktg (.inl ho)⟩
 ·have old:∀ {j k:Nat} {u1:Value},j < Z.n→(vs j)[k]?=some u1→u1.ownBlock=some g→own g = .tag 1:=fun {j k u1} hj e f=>by
   have hlt:=(yai.1 e).1;rw [a5 j hj] at hlt;exact (a8 j k _ u1 hj (List.getElem?_eq_getElem hlt) e).mine g f
  have new:u.ownBlock=some g→own g = .th i:=fun f=>hul.mine g f;have cs:∀ {j k:Nat} {u1:Value},j < Z.n→(upd vs i (vs i++[u]) j)[k]?=some u1→((vs j)[k]?=some u1∨(j=i∧k=(vs i).length∧u1=u)):=fun {j k u1} hj e=>by
   by_cases z:j=i
   ·subst z;simp only [upd_same] at e;by_cases hkk:k < (vs j).length
    ·rw [List.getElem?_append_left hkk] at e;exact .inl e
    ·rw [List.getElem?_append_right (by omega)] at e;have:k - (vs j).length=0:=by
      have:=(yai.1 e).1;simp at this;omega
     rw [this] at e;simp at e;exact .inr ⟨rfl,by omega,e.symm⟩
   ·simp only [upd_ne _ _ z] at e;exact .inl e
  rcases cs hj e1 with z1|⟨z1,z2,z3⟩<;>rcases cs hj' e2 with y1|⟨y1,y2,y3⟩
  ·exact a9 j k j' k' u1 u2 g hj hj' z1 y1 f1 f2
  ·have h1:=old hj z1 f1;rw [y3] at f2;rw [new f2] at h1;cases h1
  ·have h1:=old hj' y1 f2;rw [z3] at f1;rw [new f1] at h1;cases h1
  ·exact ⟨z1.trans y1.symm,z2.trans y2.symm⟩
end
def idL (S:Type):zcl S S:=⟨id,fun v _=>v,fun _ _=>rfl⟩
noncomputable def zt2:Code:=(Try.f170.body).getD .skip
def zt1 (x:Nat→Value):Act:=⟨#[x 0,x 1,x 2,x 3,x 4,x 5,x 6,x 7,x 8,x 9,x 10,x 11,x 12,x 13,x 14,x 15,x 16,x 17,x 18,x 19,x 20,x 21,x 22,x 23,x 24,x 25,x 26,x 27,x 28,x 29,x 30,x 31,x 32],[]⟩
theorem zjx (l:Array Value) (hl:l.size=33):(⟨l,[]⟩:Act)=zt1 fun j=>l.getD j undef:=by
 have e:∀ x:Nat→Value,(zt1 x).tmps=((List.range 33).map x).toArray:=fun x=>rfl;have h1:l=(zt1 fun j=>l.getD j undef).tmps:=by
  rw [e];apply Array.ext_getElem?;intro i;by_cases h:i < 33
  ·have h':i < l.size:=by omega
   simp [h,h',List.getElem?_range]
  ·have h':¬ i < l.size:=by omega
   rw [Array.getElem?_eq_none (by omega),Array.getElem?_eq_none (by simp;omega)]
 exact congrArg (Act.mk · []) h1
def zlu:Code→Code:=fun c=>cA (cA (cB c))
def inT:Code→Code:=fun c=>cA (cA (cB (cB (zlu c))))
theorem info42z:(Try.prog.info? 42).map (fun i=>(i.zero,i.size,i.bytes))=some (some (.agg #[.bool false,.int .i64 0,.slice none 0 0]),3,40):=by kernel_rfl
theorem zdg {S:Type} {R:S→(Nat→Owner)→World→Prop} {Z:AL} {m:SM S} {own:Nat→Owner} {w wp:World} {D:Nat→Option (Nat×Nat)} (h:GRep R Z m own w) (hp:Sim wp (poi D w)) {b:Nat} {c:Array Value} {t:TypeId} {f:Nat×Nat} (hm:(b,.cells c t f)∈Z.stc) (i:Nat):wp.cell? ⟨b,i,none⟩=c[i]? :=
 (za1 hp _).trans (zd8 (h.stc _ hm).2)
theorem zo9 {x:Nat→Value} {v3 v4 v8:Value} {t:List Value} (h3:x 3=v3) (h4:x 4=v4) (h8:x 8=v8) (j:Nat) (hj:j < 22) :
  (([x 0,x 1,x 2,v3,v4,x 5,x 6,x 7,v8,x 9,x 10,x 11,x 12,x 13,x 14,x 15,x 16,x 17,x 18,x 19,x 20,x 21]++t).toArray).getD j undef=x j:=by
 subst h3 h4 h8;rcases j with _|_|_|_|_|_|_|_|_|_|_|_|_|_|_|_|_|_|_|_|_|_|j<;>first|rfl|omega
section
variable {S:Type} {R:S→(Nat→Owner)→World→Prop} {Z:AL} {md:Md (SM S)} {A:Nat→Prop} {w₀:W0 (SM S)} {cs:List Frame} {K:List Item} {y:md.β} {own:Nat→Owner} {w w1:World} {m:SM S}
def SM.tell (m:SM S) (i:Nat) (r:Ans):SM S:={ m with an:=upd m.an i (m.an i++[r]) }
theorem zly (O:md.Ok) (hmd:md.Rep=GRep R Z) (F:zgd R) (C:md.C y own A w₀ w m) (hi:md.i < Z.n) {c:Array Value} {vs:Nat→List Value} (ha:AnsRep Z m.an c vs own w) {r:Ans} {u v':Value} (hL:LRow (.th md.i) Z.lo own w u r.l) (hu:∀ g,u.ownBlock=some g→¬ A g) (hs:w.heap.size≤w1.heap.size)
  (hv:w1.ownsRow Z.lo 42 3 v' ((m.an md.i).length+1) (zgb (m.an md.i++[r]) (vs md.i++[u]))) (hb:∀ g,v'.ownBlock=some g→(c.getD md.i undef).ownBlock=some g∨w.heap.size≤g) (har:w1.heap[Z.ar]?=some (.cells (c.setIfInBounds md.i v') 40 (0,0)))
  (hk:∀ b,b < w.heap.size→b≠Z.ar→(c.getD md.i undef).ownBlock≠some b→w1.heap[b]?=w.heap[b]?) :
  md.C y (znm w.heap.size w1.heap.size u own) A ⟨w₀.heap,m.tell md.i r,w₀.own⟩ w1 (m.tell md.i r)∧OwnStep md.i own (znm w.heap.size w1.heap.size u own) w.heap.size∧Frm md.i own w w1:=by
 have hR:GRep R Z m own w:=hmd▸C.rep;have old:∀ {b},own b ≠ .out→¬ (w.heap.size≤b∧b < w1.heap.size):=fun {b} hb=>by have:=C.lt hb;omega
 have same:∀ {b},own b ≠ .out→own b ≠ .th md.i→znm w.heap.size w1.heap.size u own b=own b:=fun {b} h1 h2=>by
  unfold znm;rw [if_neg (old h1),if_neg fun z=>h2 (hL.mine b z)]
 have hkn:∀ b,own b ≠ .out→own b ≠ .sh→w1.heap[b]?=w.heap[b]?:=fun b h1 h2=>hk b (C.lt h1) (fun z=>h2 (z▸ha.osh)) fun z=>h2 (ha.rsh md.i b hi z);have htag:∀ b v,own b = .tag v→znm w.heap.size w1.heap.size u own b = .tag v∧w1.heap[b]?=w.heap[b]?:=fun b v hb=>⟨(same (by rw [hb];simp) (by rw [hb];simp)).trans hb,hkn b (by rw [hb];simp) (by rw [hb];simp)⟩;refine C.turn O (fun b=>?_) hs (fun b hb h1 h2=>hk b hb (fun z=>h2 (z▸ha.osh)) fun z=>h2 (ha.rsh md.i b hi z)) (fun b hb=>?_) ?_ (fun b hb=>?_) rfl fun b v hb=>?_
 ·unfold znm;split
  ·rename_i h;exact .inr ⟨.inl h.1,.inr (.inl rfl)⟩
  ·split
   ·rename_i h;exact .inr ⟨.inr (.inl (hL.mine b h)),.inr (.inr ⟨_,rfl⟩)⟩
   ·exact .inl rfl
 ·have h1:=C.fresh b (by omega);unfold znm;rw [if_neg (by omega),if_neg fun z=>by rw [hL.mine b z] at h1;cases h1];exact h1
 ·rw [hmd];refine ⟨F.keep hR.fam (fun b cc t f hb hh t1 t2=>⟨(same (by rw [hb];simp) (by rw [hb];simp)).trans hb,hk b (C.lt (by rw [hb];simp)) (fun z=>?_) fun z=>?_⟩) (fun b v _ hb=>htag b v hb) (fun b v hb=>?_),⟨_,_,ha.answered hi C.fresh hs hL hv hb har hk⟩,fun x hx=>⟨(htag _ _ (hR.stc x hx).1).1,(htag _ _ (hR.stc x hx).1).2.trans (hR.stc x hx).2⟩,hR.lo⟩
  ·rw [z,ha.ar] at hh;simp only [Option.some.injEq,Obj.cells.injEq] at hh;exact t1 hh.2.1.symm
  ·obtain ⟨cc',hcc⟩:=za4 (ha.row md.i hi) z;rw [hcc] at hh;simp only [Option.some.injEq,Obj.cells.injEq] at hh;exact t2 hh.2.1.symm
  ·unfold znm at hb;split at hb
   ·cases hb
   ·split at hb
    ·cases hb;exact .inr (yax _)
    ·exact .inl hb
 ·obtain ⟨q1,q2⟩:=C.mine b hb;have h1:own b ≠ .out:=by rw [q1];simp
  refine ⟨?_,(hkn b h1 (by rw [q1];simp)).trans q2⟩;unfold znm;rw [if_neg (old h1),if_neg fun z=>hu b z hb];exact q1
 ·obtain ⟨q1,q2⟩:=C.tg b v hb;exact ⟨(htag b v q1).1,(htag b v q1).2.trans q2⟩
set_option maxRecDepth 100000 in
theorem zne (O:md.Ok) (hmd:md.Rep=GRep R Z) (F:zgd R) (C:md.C y own A w₀ w m) (hi:md.i < Z.n) (hn:Z.n≤64) {ic ac B:Nat} (hic:(ic,.cells #[.int .i64 md.i] 3 (0,0))∈Z.stc) (hac:(ac,.cells #[.slice (some ⟨Z.ar,0,none⟩) Z.n Z.n] 29 (0,0))∈Z.stc) {r:Ans} {ua:Option Addr} {un uc:Nat}
  (hL:LRow (.th md.i) Z.lo own w (.slice ua un uc) r.l) (hu:∀ g,(Value.slice ua un uc).ownBlock=some g→¬ A g) (oB:own B = .th md.i) (eB:w.heap[B]?=some (.cells #[.bool r.ok,.int .i64 r.n,.slice ua un uc] 42 (0,0))) (hlen:(m.an md.i).length < 65536) {mc:SM S×Co (SM S)} {x:Nat→Value} (x3:x 3 = .pointer (some ⟨ic,0,none⟩)) (x4:x 4 = .pointer (some ⟨ac,0,none⟩)) (x8:x 8 = .pointer (some ⟨B,0,none⟩))
  (h:∀ own' w1 x',md.C y own' A ⟨w₀.heap,m.tell md.i r,w₀.own⟩ w1 (m.tell md.i r)→(∀ j,j < 22→x' j=x j)→md.GO y own' w1 mc (G ((base 170).at (zt1 x') K) cs) w1) :
  md.GO y own w mc (G ((base 170).at (zt1 x) (.code (cB (cB (cB (inT zt2))))::K)) cs) w:=by
 rw [show cB (cB (cB (inT zt2)))=Code.region _ _ _ from rfl]
 refine O.segA C prgG (zab zah (by kernel_rfl)) rfl (zaa Try.func170) rfl fun wp hp=>?_;have hR:GRep R Z m own w:=hmd▸C.rep;obtain ⟨c,vs,ha⟩:=hR.ans;have oar:=ha.osh;have hc:=ha.ar;have hcs:=ha.size;have hDar:md.D Z.ar=none:=C.dm O (by rw [oar];simp);have hDB:md.D B=none:=C.dm O (by rw [oB];simp);have har:=(zbb hp hDar).trans hc;have hB:=(zbb hp hDB).trans eB;have hrow:=ha.row md.i hi;have hro:=fun g=>ha.rsh md.i g hi;obtain ⟨v,hv⟩:∃ v,c.getD md.i undef=v:=⟨_,rfl⟩;rw [hv] at hrow hro;have cv:wp.cell? ⟨Z.ar,md.i,none⟩=some v:=by
  rw [zae har md.i,← hv];have:md.i < c.size:=by omega
  simp [this]
 have fv:=zau har md.i;have hrowp:wp.ownsRow Z.lo 42 3 v (m.an md.i).length (zgb (m.an md.i) (vs md.i)):=zaq hrow fun g ob hg hh=>by
  rw [zbb hp (C.dm O (by rw [hro g hg];simp))];exact hh
 have q0:(0:Int)≤(md.i:Nat):=by omega
 have q1:((md.i:Nat):Int) < (Z.n:Nat):=by omega
 have hca:=zdg hR hp hac 0;have hci:=zdg hR hp hic 0;simp only [yac,yaa] at hca hci;have cB0:=zae hB 0;have cB1:=zae hB 1;have cB2:=zae hB 2;simp only [yac,yaa,yab] at cB0 cB1 cB2;obtain ⟨i0,hi0,hz0,hz1,hz2⟩:=info_parts info42z;have hsrc:SrcN (wp.drew.alloc (.cells #[.bool r.ok,.int .i64 r.n,.slice ua un uc] 42)) (.slice (some ⟨wp.heap.size,0,none⟩) 1 1) 1 [.bool r.ok,.int .i64 r.n,.slice ua un uc]:=by
  refine ⟨rfl,fun u hu=>?_,.inr ⟨_,_,rfl,fun j u hj=>?_⟩⟩
  ·simp only [List.mem_cons,List.not_mem_nil,or_false] at hu;rcases hu with rfl|rfl|rfl<;>rfl
  ·have h2:(wp.drew.alloc (.cells #[.bool r.ok,.int .i64 r.n,.slice ua un uc] 42)).heap[wp.heap.size]?=some (.cells #[.bool r.ok,.int .i64 r.n,.slice ua un uc] 42 (0,0)):=heap_alloc_new wp.drew _;have:=zae h2 j;rcases j with _|_|_|j
   ·simp at hj;subst hj;simpa [Addr.add] using this
   ·simp at hj;subst hj;simpa [Addr.add] using this
   ·simp at hj;subst hj;simpa [Addr.add] using this
   ·simp at hj
 have hlo12:Z.lo≤(wp.drew.alloc (.cells #[.bool r.ok,.int .i64 r.n,.slice ua un uc] 42)).heap.size:=by
  have h1:=hR.size;have h3:wp.heap.size=w.heap.size:=by rw [hp.heap,za2]
  have h4:(wp.drew.alloc (.cells #[.bool r.ok,.int .i64 r.n,.slice ua un uc] 42)).heap.size=wp.heap.size+1:=by simp
  omega
 obtain ⟨v',w',hrun,hapd⟩:=zje (P:=Try.prog) (wp.drew.alloc (.cells #[.bool r.ok,.int .i64 r.n,.slice ua un uc] 42)) Z.lo 40 40 42 i0 _ 40 Try.underlying40 hi0 hz0 hz1 hz2 (by rfl) v (m.an md.i).length _ (hrowp.alloc (.cells #[.bool r.ok,.int .i64 r.n,.slice ua un uc] 42)) (.slice (some ⟨wp.heap.size,0,none⟩) 1 1) 1 [.bool r.ok,.int .i64 r.n,.slice ua un uc]
  hsrc (by unfold maxLen;omega) (by omega) hlo12
 have HRUN:Hid ((Builtin.append_ #[40,40] 40 #[v,.slice (some ⟨wp.heap.size,0,none⟩) 1 1]).run Try.prog (wp.drew.alloc (.cells #[.bool r.ok,.int .i64 r.n,.slice ua un uc] 42)) = .ok v' w'):=yay hrun;clear hrun;obtain ⟨hown',hg,hsh⟩:=hapd;have hsz:wp.heap.size=w.heap.size:=by rw [hp.heap,za2]
 have hgs:w.heap.size+1≤w'.heap.size:=by
  have:=hg.size;simp at this;omega
 have oldk:∀ b,b < w.heap.size→v.ownBlock≠some b→w'.heap[b]?=wp.heap[b]?:=fun b hb hne=>(hg.block b (by simp;omega) (fun q=>hne q.symm)).trans (Below.heap_alloc wp.drew _ b (by show b < wp.heap.size;omega));have lt:∀ {b:Nat},own b ≠ .out→b < w.heap.size:=fun hb=>C.lt hb;obtain ⟨oac,hacw⟩:=hR.stc _ hac;obtain ⟨oic,hicw⟩:=hR.stc _ hic;have pac:=(zbb hp (C.dm O (by rw [oac];simp))).trans hacw;have pic:=(zbb hp (C.dm O (by rw [oic];simp))).trans hicw;have nT:∀ {b:Nat} {cc:Array Value} {t:TypeId},wp.heap[b]?=some (.cells cc t (0,0))→t≠42→v.ownBlock≠some b:=fun e ht q=>by
  obtain ⟨c1,hc1⟩:=za4 hrowp q;rw [e] at hc1;simp at hc1;exact ht hc1.2
 have nB:v.ownBlock≠some B:=fun q=>by have:=hro B q;rw [oB] at this;cases this
 have w1ac:=(oldk ac (lt (by rw [oac];simp)) (nT (t:=29) pac (by decide))).trans pac;have w1ic:=(oldk ic (lt (by rw [oic];simp)) (nT (t:=3) pic (by decide))).trans pic;have w1B:=(oldk B (lt (by rw [oB];simp)) nB).trans hB;have w1ar:=(oldk Z.ar (lt (by rw [oar];simp)) (nT (t:=40) har (by decide))).trans har;have nac:ac≠Z.ar:=fun z=>by rw [z,har] at pac;simp at pac
 have nic:ic≠Z.ar:=fun z=>by rw [z,har] at pic;simp at pic
 have nBr:B≠Z.ar:=fun z=>by rw [z,har] at hB;simp at hB
 have sS:∀ W:World,W.heap[ac]?=some (.cells #[.slice (some ⟨Z.ar,0,none⟩) Z.n Z.n] 29 (0,0))→W.heap[ic]?=some (.cells #[.int .i64 md.i] 3 (0,0))→W.heap[B]?=some (.cells #[.bool r.ok,.int .i64 r.n,.slice ua un uc] 42 (0,0)) →
   W.cell? ⟨ac,0,none⟩=some (.slice (some ⟨Z.ar,0,none⟩) Z.n Z.n)∧W.cell? ⟨ic,0,none⟩=some (.int .i64 md.i)∧W.cell? ⟨B,0,none⟩=some (.bool r.ok)∧W.cell? ⟨B,1,none⟩=some (.int .i64 r.n)∧W.cell? ⟨B,2,none⟩=some (.slice ua un uc) :=
  fun W z1 z2 z3=>⟨zae z1 0,zae z2 0,zae z3 0,zae z3 1,zae z3 2⟩
 have b0:=yay (sS wp.drew pac pic hB);have al:∀ {b:Nat} {ob:Obj},wp.heap[b]?=some ob→(wp.drew.alloc (.cells #[.bool r.ok,.int .i64 r.n,.slice ua un uc] 42)).heap[b]?=some ob:=fun {b ob} e=>(Below.heap_alloc wp.drew _ b (yah.1 e).1).trans e;have b1:=yay (sS (wp.drew.alloc (.cells #[.bool r.ok,.int .i64 r.n,.slice ua un uc] 42)) (al pac) (al pic) (al hB));have e0:=yay (sS w' w1ac w1ic w1B);have oth:∀ b,b≠Z.ar→(w'.setCell ⟨Z.ar,md.i,none⟩ v').heap[b]?=w'.heap[b]?:=fun b hb=>Below.heap_setCell _ _ _ _ hb;have e3:=yay (sS (w'.setCell ⟨Z.ar,md.i,none⟩ v') ((oth _ nac).trans w1ac) ((oth _ nic).trans w1ic) ((oth _ nBr).trans w1B));have f0:w'.cell? ⟨Z.ar,md.i,none⟩=some v:=by
  rw [zae w1ar md.i,← hv];have:md.i < c.size:=by omega
  simp [this]
 have f1:=zau w1ar md.i;have cv1:(wp.drew.alloc (.cells #[.bool r.ok,.int .i64 r.n,.slice ua un uc] 42)).cell? ⟨Z.ar,md.i,none⟩=some v:=by
  rw [zae (al har) md.i,← hv];have:md.i < c.size:=by omega
  simp [this]
 have cv2:(wp.alloc (.cells #[.bool r.ok,.int .i64 r.n,.slice ua un uc] 42)).drew.cell? ⟨Z.ar,md.i,none⟩=some v:=cv1;have cv0:wp.drew.cell? ⟨Z.ar,md.i,none⟩=some v:=cv;have fin:∀ w1:World,(∀ b:Nat,md.D b=none→w1.heap[b]?=(w'.setCell ⟨Z.ar,md.i,none⟩ v').heap[b]?)→(∀ b:Nat,(w'.setCell ⟨Z.ar,md.i,none⟩ v').heap[b]?=wp.heap[b]?→w1.heap[b]?=w.heap[b]?)→w1.heap.size=(w'.setCell ⟨Z.ar,md.i,none⟩ v').heap.size →
   ∀ x',(∀ j,j < 22→x' j=x j)→md.GO y own w mc (G ((base 170).at (zt1 x') K) cs) w1:=fun w1 g1 g2 g3 x' hx'=>by
  have hs1:w1.heap.size=w'.heap.size:=by rw [g3];simp [World.setCell]
  have hgb:∀ g,v'.ownBlock=some g→v.ownBlock=some g∨w.heap.size≤g:=fun g hg'=>by
   rcases hsh with ⟨z,_⟩|⟨gx,cap,z,_,q⟩
   ·rw [z] at hg';cases hg'
   ·rw [z] at hg';obtain rfl:gx=g:=by simpa [Value.ownBlock] using hg'
    rcases q with q|q
    ·exact .inl q
    ·have q2:wp.heap.size+1≤gx:=by simpa using q
     exact .inr (by omega)
  have hD':∀ g,v'.ownBlock=some g→md.D g=none:=fun g hg'=>by
   rcases hgb g hg' with q|q
   ·exact C.dm O (by rw [hro g q];simp)
   ·exact C.dn O q
  obtain ⟨C1,hO,hF⟩:=zly O hmd F C hi ha hL hu (w1:=w1) (v':=v') (by omega) (zaq (w:=w') (by rw [zqq (ha.len md.i hi)];exact hown') fun g ob hg' hh=>by
     have ng:g≠Z.ar:=fun z=>by
      obtain ⟨c1,hc1⟩:=za4 hown' hg';rw [z,w1ar] at hc1;simp at hc1
     rw [g1 g (hD' g hg'),oth g ng];exact hh) (fun g hg'=>by rw [hv];exact hgb g hg') (by rw [g1 _ hDar];exact zaz w1ar md.i v') (fun b hb h1 h2=>g2 b ((oth b h1).trans (oldk b hb (by rw [← hv];exact h2))))
  exact O.rebase hO hF (h _ w1 x' C1 hx')
 obtain ⟨g,cap,rfl⟩:∃ g cap,v' = .slice (some ⟨g,0,none⟩) ((m.an md.i).length+1) cap:=by
  rcases hsh with ⟨_,_,z,_⟩|⟨g,cap,e,_⟩
  ·cases z
  ·exact ⟨g,cap,e⟩
 replace fin:=yay fin;clear hsz hgs oldk lt hown' hg hsh w1ac w1ic w1B w1ar nT nB sS al pac pic hrowp hrow hro hsrc oth h har hB hc eB hlo12 ha hR hL hu;unfold zt1;simp only [x3,x4,x8];replace C:=yay C;replace hp:=yay hp;replace x3:=yay x3;replace x4:=yay x4;replace x8:=yay x8;generalize hmi:md.i=mi at *;replace hmi:=yay hmi
 go_wp2_with fail
 refine wp_region_held_drew (S:=fun w'=>w'.cell? ⟨ac,0,none⟩=some (.slice (some ⟨Z.ar,0,none⟩) Z.n Z.n)∧w'.cell? ⟨ic,0,none⟩=some (.int .i64 mi)∧w'.cell? ⟨B,0,none⟩=some (.bool r.ok)∧w'.cell? ⟨B,1,none⟩=some (.int .i64 r.n)∧w'.cell? ⟨B,2,none⟩=some (.slice ua un uc)) (by kernel_rfl) b0.out (fun hHeld=>?_);refine zdt (i:=0) (v:=?v1) rfl (by kernel_rfl) (by kernel_rfl) (by kernel_rfl) (fun _ _ _ h=>absurd (And.left h) (fun e=>by cases e)) (by rfl) (by assumption) ?hy1 ?rest1
 case hy1=>(intro w hSw;(try dsimp only at hSw);first|(go_simp;done)|(go_simp;with_reducible rfl))
 try simp only [Act.put,yak,yal,yam]
 refine zdt (i:=1) (v:=?v2) rfl (by kernel_rfl) (by kernel_rfl) (by kernel_rfl) (fun _ _ _ h=>absurd (And.left h) (fun e=>by cases e)) (by rfl) (by assumption) ?hy2 ?rest2
 case hy2=>(intro w hSw;(try dsimp only at hSw);first|(go_simp;done)|(go_simp;with_reducible rfl))
 try simp only [Act.put,yak,yal,yam]
 refine zdt (i:=2) (v:=?v3) rfl (by kernel_rfl) (by kernel_rfl) (by kernel_rfl) (fun _ _ _ h=>absurd (And.left h) (fun e=>by cases e)) (by rfl) (by assumption) ?hy3 ?rest3
 case hy3=>(intro w hSw;(try dsimp only at hSw);first|(go_simp;done)|(go_simp;with_reducible rfl))
 try simp only [Act.put,yak,yal,yam]
 refine zdt (i:=3) (v:=?v4) rfl (by kernel_rfl) (by kernel_rfl) (by kernel_rfl) (fun _ _ _ h=>absurd (And.left h) (fun e=>by cases e)) (by rfl) (by assumption) ?hy4 ?rest4
 case hy4=>(intro w hSw;(try dsimp only at hSw);first|(go_simp;done)|(go_simp;with_reducible rfl))
 try simp only [Act.put,yak,yal,yam]
 refine zdt (i:=4) (v:=?v5) rfl (by kernel_rfl) (by kernel_rfl) (by kernel_rfl) (fun _ _ _ h=>absurd (And.left h) (fun e=>by cases e)) (by rfl) (by assumption) ?hy5 ?rest5
 case hy5=>(intro w hSw;(try dsimp only at hSw);first|(go_simp;done)|(go_simp;with_reducible rfl))
 try simp only [Act.put,yak,yal,yam]
 refine zdt (i:=6) (v:=?v6) rfl (by kernel_rfl) (by kernel_rfl) (by kernel_rfl) (fun _ _ _ h=>absurd (And.left h) (fun e=>by cases e)) (by rfl) (by assumption) ?hy6 ?rest6
 case hy6=>(intro w hSw;(try dsimp only at hSw);first|(go_simp;done)|(go_simp;with_reducible rfl))
 try simp only [Act.put,yak,yal,yam]
 refine wpAnyH_ready (rs:=[5,7]) (by kernel_rfl) (by simp) (zc9 rfl (fun K hK=>?_) (zc9 rfl (fun K hK=>?_) AllReadyH.nil))
 ·rw [if_pos (by kernel_rfl)]
  go_simp
  refine hK.out _ _ hHeld (fun hHeld=>?_);clear hK K
  try simp only [Act.put,yak,yal,yam]
  refine wpAnyH_ready (rs:=[7]) (by kernel_rfl) (by simp) (zc9 rfl (fun K hK=>?_) AllReadyH.nil)
  go_simp
  refine hK.out _ _ b1.out (fun hHeld=>?_);clear hK K
  try simp only [Act.put,yak,yal,yam]
  refine wpAnyH_ready (rs:=[8]) (by kernel_rfl) (by simp) (zc9 rfl (fun K hK=>?_) AllReadyH.nil);refine za9 (by rfl) _ _ 40 40 (by rfl) v (.slice (some ⟨wp.heap.size,0,none⟩) 1 1) (by rfl) (by rfl) HRUN.out ?_;refine hK.out _ _ e0.out (fun hHeld=>?_);clear hK K
  try simp only [Act.put,yak,yal,yam]
  refine zdt (i:=9) (v:=?v7) rfl (by kernel_rfl) (by kernel_rfl) (by kernel_rfl) (fun _ _ _ h=>absurd (And.left h) (fun e=>by cases e)) (by rfl) (by assumption) ?hy7 ?rest7
  case hy7=>(intro w hSw;(try dsimp only at hSw);first|(go_simp;done)|(go_simp;with_reducible rfl))
  try simp only [Act.put,yak,yal,yam]
  refine wpAnyH_ready (rs:=[10]) (by kernel_rfl) (by simp) (zc9 rfl (fun K hK=>?_) AllReadyH.nil)
  go_simp
  refine hK.out _ _ e3.out (fun hHeld=>?_);clear hK K
  try simp only [Act.put,yak,yal,yam]
  refine wpAnyH_done (by kernel_rfl) ?_ _
  go_wp2_with fail
  intro w1 g1 g2 g3;rw [zjx _ rfl];refine fin.out w1 g1 g2 (g3.trans (by simp [World.setCell])) _ fun j hj=>?_;exact zo9 x3.out x4.out x8.out j hj
 ·go_simp
  refine hK.out _ _ b1.out (fun hHeld=>?_);clear hK K
  try simp only [Act.put,yak,yal,yam]
  refine wpAnyH_ready (rs:=[5]) (by kernel_rfl) (by simp) (zc9 rfl (fun K hK=>?_) AllReadyH.nil);rw [if_pos (by kernel_rfl)]
  go_simp
  refine hK.out _ _ hHeld (fun hHeld=>?_);clear hK K
  try simp only [Act.put,yak,yal,yam]
  refine wpAnyH_ready (rs:=[8]) (by kernel_rfl) (by simp) (zc9 rfl (fun K hK=>?_) AllReadyH.nil);refine za9 (by rfl) _ _ 40 40 (by rfl) v (.slice (some ⟨wp.heap.size,0,none⟩) 1 1) (by rfl) (by rfl) HRUN.out ?_;refine hK.out _ _ e0.out (fun hHeld=>?_);clear hK K
  try simp only [Act.put,yak,yal,yam]
  refine zdt (i:=9) (v:=?v8) rfl (by kernel_rfl) (by kernel_rfl) (by kernel_rfl) (fun _ _ _ h=>absurd (And.left h) (fun e=>by cases e)) (by rfl) (by assumption) ?hy8 ?rest8
  case hy8=>(intro w hSw;(try dsimp only at hSw);first|(go_simp;done)|(go_simp;with_reducible rfl))
  try simp only [Act.put,yak,yal,yam]
  refine wpAnyH_ready (rs:=[10]) (by kernel_rfl) (by simp) (zc9 rfl (fun K hK=>?_) AllReadyH.nil)
  go_simp
  refine hK.out _ _ e3.out (fun hHeld=>?_);clear hK K
  try simp only [Act.put,yak,yal,yam]
  refine wpAnyH_done (by kernel_rfl) ?_ _
  go_wp2_with fail
  intro w1 g1 g2 g3;rw [zjx _ rfl];refine fin.out w1 g1 g2 (g3.trans (by simp [World.setCell])) _ fun j hj=>?_;exact zo9 x3.out x4.out x8.out j hj
end
def zql {S:Type} (doφ:OpD→(Ans→Fu (SM S))→Fu (SM S)) (i:Nat):List OpD→Fu (SM S)
 | []=>zvf
 | o::l=>doφ o (fun r m=>zql doφ i l (m.tell i r))
structure TW (Z:AL) (fdo:FuncId) (recv:Value) (i:Nat) (L:List OpD) (oc dc ic ac:Nat) (ob:Option Addr) (ocap:Nat):Prop where
 oc:(oc,.cells #[.slice ob L.length ocap] 34 (0,0))∈Z.stc
 ob:L≠[]→∃ b off cells t fr,ob=some ⟨b,off,none⟩∧(b,.cells cells t fr)∈Z.stc∧∀ j o,L[j]?=some o→cells[off+j * 4]?=some (.int .i64 o.kind)∧cells[off+j * 4+1]?=some (.int .i64 o.a)∧cells[off+j * 4+2]?=some (.int .i64 o.b)∧cells[off+j * 4+3]?=some (.int .i64 o.c)
 dc:(dc,.cells #[.func (.func fdo) #[recv] #[]] 158 (0,0))∈Z.stc
 ic:(ic,.cells #[.int .i64 i] 3 (0,0))∈Z.stc
 ac:(ac,.cells #[.slice (some ⟨Z.ar,0,none⟩) Z.n Z.n] 29 (0,0))∈Z.stc
 len:L.length≤65536
 ok:∀ o∈L,o.Ok
structure X170 (sv:Value) (oc dc ic ac:Nat) (ob:Option Addr) (len ocap:Nat) (x:Nat→Value):Prop where
 x0:x 0=sv
 x2:x 2 = .pointer (some ⟨dc,0,none⟩)
 x3:x 3 = .pointer (some ⟨ic,0,none⟩)
 x4:x 4 = .pointer (some ⟨ac,0,none⟩)
 x9:x 9 = .slice ob len ocap
 x10:x 10 = .int .i64 len
theorem zsg (f:Fn) (a b:Array Value) (W:World):(binOp .neq 158 (.func f a b) .nilFunc).run Try.prog W = .ok (.bool true) W:=by
 have h:(Op.equalIn (9999+1) 158 (.func f a b) .nilFunc).run Try.prog W = .ok false W:=by
  unfold Op.equalIn;simp [run_underlying Try.underlying158]
 simp only [binOp];simp [Op.equal,Op.maxDepth,h]
section
variable {S:Type} {R:S→(Nat→Owner)→World→Prop} {Z:AL} {md:Md (SM S)} {A:Nat→Prop} {c:Frame} {cs:List Frame} {fdo:FuncId} {fnd:Func} {recv:Value} {doφ:OpD→(Ans→Fu (SM S))→Fu (SM S)}
theorem zqt (O:md.Ok) (hmd:md.Rep=GRep R Z) (F:zgd R) (hi:md.i < Z.n) (hn:Z.n≤64) (hdo:DoOk md Z.lo fdo recv doφ) (hfd:Try.prog.funcs[fdo]?=some fnd) (hname:(fnd.name == "runtime.NumGoroutine")=false) (hbody:fnd.body.isNone=false)
  {L:List OpD} {oc dc ic ac:Nat} {ob:Option Addr} {ocap:Nat} (T:TW Z fdo recv md.i L oc dc ic ac ob ocap) {h₀:Array Obj} {o₀:Nat→Owner} (hret:∀ m',md.F zvf A ⟨h₀,m',o₀⟩ (G (c.finish (.tuple #[])) cs)) (hend:∀ m',md.End A ⟨h₀,m',o₀⟩ c cs) :
  ∀ l j,L.drop j=l→j≤L.length→∀ x y own w m,md.C y own A ⟨h₀,m,o₀⟩ w m→(m.an md.i).length≤j→X170 md.sv oc dc ic ac ob L.length ocap x→x 11 = .int .i64 j →
   md.GO y own w (zql doφ md.i l m) (G ((base 170).at (zt1 x) (.code (zlu zt2) :: .inLoop (zlu zt2) :: .inBlock 0::[])) (c::cs)) w:=by
 intro l
 induction l with
 | nil =>
  intro j hl hj x y own w m C hlen hx h11;have hjl:j=L.length:=by
   have:=congrArg List.length hl;simp at this;omega
  subst hjl;have e1:¬ (L.length:Int) < (L.length:Int):=by omega
  refine zas (O.xc ..) rfl fun R0 hR0=>?_;rw [show cA (zlu zt2)=Code.region _ _ _ from rfl]
  unfold zt1;simp only [hx.x0,hx.x2,hx.x3,hx.x4,hx.x9,hx.x10,h11];refine O.seg0 C prgG (zab zah (by kernel_rfl)) rfl (zaa Try.func170) rfl fun wp hp=>?_;replace hp:=yay hp
  go_wp2_with fail
  refine ⟨hp.out,?_⟩;clear hp  wp;obtain rfl:=hR0.out;clear hR0;refine zas (O.xc ..) rfl fun R0 hR0=>?_;rw [show cA (cB (zlu zt2))=Code.cond _ _ _ from rfl]
  refine zao (O.xc ..) (t:=false) rfl ?_;obtain rfl:=hR0.out;refine zh2 (O.xc ..) rfl ?_;refine zhf (O.xc ..) ?_;refine zav (O.xc ..) (zaa Try.func170) (C.st O) ⟨rfl,rfl,rfl,_,Try.func170,results_none rfl _ _ _⟩ ?_;exact hret m _ _ _ _ C
 | cons o l ih =>
  intro j hl hj x y own w m C hlen hx h11;have hjl:j < L.length:=by
   rcases Nat.lt_or_ge j L.length with z|z
   ·exact z
   ·rw [List.drop_eq_nil_of_le z] at hl;cases hl
  have hLj:L[j]?=some o:=by
   have:=congrArg (·[0]?) hl
   simpa using this
  have hl':L.drop (j+1)=l:=by
   have:=congrArg List.tail hl
   simpa [List.tail_drop] using this
  have hok:=T.ok o (List.mem_of_getElem? hLj);obtain ⟨b,off,cells,t0,fr0,hob,hbst,hcell⟩:=T.ob (by intro z;rw [z] at hjl;simp at hjl);obtain ⟨k0,k1,k2,k3⟩:=hcell j o hLj;have hR:GRep R Z m own w:=hmd▸C.rep;generalize hmc:zql doφ md.i (o::l) m=mc;replace hmc:=yay hmc;replace ih:=yay ih;have e1:(j:Int) < (L.length:Int):=by omega
  have hlen2:=T.len;refine zas (O.xc ..) rfl fun R0 hR0=>?_;rw [show cA (zlu zt2)=Code.region _ _ _ from rfl]
  unfold zt1;simp only [hx.x0,hx.x2,hx.x3,hx.x4,hx.x9,hx.x10,h11];rw [hob];refine O.seg0 C prgG (zab zah (by kernel_rfl)) rfl (zaa Try.func170) rfl fun wp hp=>?_;replace hp:=yay hp
  go_wp2_with fail
  refine ⟨hp.out,?_⟩;clear hp  wp;obtain rfl:=hR0.out;clear hR0;refine zas (O.xc ..) rfl fun R0 hR0=>?_;rw [show cA (cB (zlu zt2))=Code.cond _ _ _ from rfl]
  refine zao (O.xc ..) (t:=true) rfl ?_;refine za7 (O.xc ..) ?_;obtain rfl:=hR0.out;clear hR0;refine zas (O.xc ..) rfl fun R0 hR0=>?_;rw [show cA (cB (cB (zlu zt2)))=Code.block _ _ from rfl]
  refine zb7 (O.xc ..) ?_;refine zaf (O.xc ..) fun R1 hR1=>?_;obtain ⟨N,hN⟩:∃ N,w.heap.size=N:=⟨_,rfl⟩;refine O.segA C prgG (zab zah (by kernel_rfl)) rfl (zaa Try.func170) rfl fun wp hp=>?_;have f0:=(zdg hR hp hbst _).trans k0;have f1:=(zdg hR hp hbst _).trans k1;have f2:=(zdg hR hp hbst _).trans k2;have f3:=(zdg hR hp hbst _).trans k3;have hsz:wp.heap.size=N:=by rw [hp.heap,za2];exact hN
  have q0:(0:Int)≤(j:Nat):=by omega
  replace hsz:=yay hsz;replace hp:=yay hp;replace hN:=yay hN
  go_wp2_with fail
  rw [hsz.out];refine fun w1 p1 p2 p3=>O.one C hp.out rfl hN.out p1 p2 p3 fun own1 C1 e7 hs1 o1 L1 _=>?_;have hAN:∀ b,A b→b < N:=fun b hb=>by
   rw [← hN.out];exact C.lt (by rw [(C.mine b hb).1];simp)
  clear p1 p2 p3 hp hsz wp f0 f1 f2 f3 k0 k1 k2 k3 q0 e1 hN C hR;obtain rfl:=hR1.out;clear hR1;refine zaf (O.xc ..) fun R1 hR1=>?_;refine O.segA C1 prgG (zab zah (by kernel_rfl)) rfl (zaa Try.func170) rfl fun wp hp=>?_;have hsz:wp.heap.size=N+1:=by rw [hp.heap,za2];exact hs1
  replace hsz:=yay hsz;replace hp:=yay hp;replace hs1:=yay hs1;replace hAN:=yay hAN
  go_wp2_with fail
  rw [hsz.out];refine fun w2 p1 p2 p3=>O.one C1 hp.out rfl hs1.out p1 p2 p3 fun own2 C2 e8 hs2 o2 L2 hlow=>?_;replace e7:=(hlow N (by omega)).1.trans e7;replace o1:=(hlow N (by omega)).2.trans o1;have LL:=L1.trans L2;clear p1 p2 p3 hp hsz wp hlow C1 L1 L2 hs1 hs2;obtain rfl:=hR1.out;clear hR1;refine zaf (O.xc ..) fun R1 hR1=>?_;refine zaf (O.xc ..) fun R2 hR2=>?_;have hR:GRep R Z m own2 w2:=hmd▸C2.rep;have hneq:=zsg (.func fdo) #[recv] #[];refine zbc (O.xc ..) 2 (by decide) (by decide) (zai (by kernel_rfl)) (C2.st O) fun wp hp=>?_;simp only [yad,yae];have fd:=zdg hR hp T.dc 0;simp only [yac,yaa] at fd;replace hp:=yay hp
  go_wp2_with fail
  refine zag hp.out (C2.st O).okd ?_;clear hp fd hneq wp;refine zad (O.xc ..) ?_;obtain rfl:=hR2.out;clear hR2;refine zao (O.xc ..) (t:=true) rfl ?_;refine zbc (O.xc ..) 4 (by decide) (by decide) (zai (by kernel_rfl)) (C2.st O) fun wp hp=>?_;simp only [yad,yae];have fd:=zdg hR hp T.dc 0;have fi:=zdg hR hp T.ic 0;have f0:=(za1 hp _).trans (zae e7 0);have f1:=(za1 hp _).trans (zae e7 1);have f2:=(za1 hp _).trans (zae e7 2);have f3:=(za1 hp _).trans (zae e7 3);simp only [yac,yaa,yab] at fd fi f0 f1 f2 f3;replace hp:=yay hp
  go_wp2_with fail
  refine zag hp.out (C2.st O).okd ?_;clear hp fd fi f0 f1 f2 f3 wp;refine zkt (O.xc ..) rfl rfl (by decide) rfl rfl hfd hname hbody ?_;walk_nrm;obtain rfl:=hmc.out;clear hmc;refine hdo (th:=md.i) (A:=fun b=>own2 b = .th md.i) (w₀:=⟨w2.heap,m,own2⟩) (κ:=fun r m=>zql doφ md.i l (m.tell md.i r)) hok (O.endUp (zaa Try.func170) rfl rfl (O.endMore (hend m) LL)) (fun r v y3 own3 w3 m3 C3 hL hv=>?_) _ _ _ _ C2;rw [Frame.finish_at];walk_nrm;obtain ⟨oB,q2⟩:=C3.mine (N+1) o2;have e9:=q2.trans e8;have hD:md.D (N+1)=none:=C3.dm O (by rw [oB];simp);have hpv3:Hid (m3.an md.i=m.an md.i):=yay C3.pv;generalize hmc:zql doφ md.i l (m3.tell md.i r)=mc;replace hmc:=yay hmc;obtain ⟨ua,un,uc,rfl⟩:∃ ua un uc,v = .slice ua un uc:=by
   rcases hL.row.2 with ⟨e,_⟩|⟨g',cap,cur,e,_⟩<;>exact ⟨_,_,_,e⟩
  refine zbs (O.xc ..) 5 1 (by decide) (by decide) (zai (by kernel_rfl)) (C3.st O) fun wp hp=>?_;simp only [yaf,yag,yad,yae];have hg:=(zbb hp hD).trans e9;have c0:=zae hg 0;have c1:=zae hg 1;have c2:=zae hg 2;have z0:=zau hg 0;have z1:=zau hg 1;have z2:=zau hg 2;simp only [yac,yaa,yab] at c0 c1 c2;replace hg:=yay hg;replace hp:=yay hp;unfold zq1
  go_wp2_with fail
  refine ⟨⟨rfl,rfl⟩,zmo w3 (N+1) r (.slice ua un uc),rfl,zik (C3.st O).okd _ _ _,zij hp.out _ r _,?_⟩;clear hg hp c0 c1 c2 z0 z1 z2 wp;refine zad (O.xc ..) ?_;obtain rfl:=hR1.out;clear hR1;obtain rfl:=hR0.out;clear hR0;have C4:=C3.less LL;obtain ⟨C5,hF⟩:=C4.wrote (w1:=zmo w3 (N+1) r (.slice ua un uc)) O oB (fun h=>by have:=hAN.out _ h;omega) (zmn _ _ _ _) (fun b hb=>zil hb r _);refine O.rebase .refl hF ?_;rw [zjx _ rfl];have hvA:∀ g,(Value.slice ua un uc).ownBlock=some g→¬ A g:=fun g hg h=>hv g hg (LL.own g h).1;have hL5:LRow (.th md.i) Z.lo own3 (zmo w3 (N+1) r (.slice ua un uc)) (.slice ua un uc) r.l:=hL.keep fun b hb ho=>⟨ho,zil (fun z=>by rw [z] at hb;exact hv _ hb o2) r _⟩;refine zne O hmd F C5 hi hn T.ic T.ac hL5 hvA oB (zr5 e9 rfl r _) (by rw [hpv3.out];omega) rfl rfl rfl fun own4 w4 x' C6 hx'=>?_;have g0:x' 0=md.sv:=hx' 0 (by decide);have g2:x' 2 = .pointer (some ⟨dc,0,none⟩):=hx' 2 (by decide);have g3:x' 3 = .pointer (some ⟨ic,0,none⟩):=hx' 3 (by decide);have g4:x' 4 = .pointer (some ⟨ac,0,none⟩):=hx' 4 (by decide);have g9:x' 9 = .slice ob L.length ocap:=by rw [hob];exact hx' 9 (by decide)
  have g10:x' 10 = .int .i64 L.length:=hx' 10 (by decide);have g11:x' 11 = .int .i64 j:=hx' 11 (by decide);clear hx';have qq:IntKind.i64.wrap ((j:Int)+1)=((j+1:Nat):Int):=by rw [IntKind.wrap_i64];omega
  refine zbh (O.xc ..) ?_;rw [show cB (cB (cB (zlu zt2)))=Code.region _ _ _ from rfl]
  unfold zt1;simp only [g0,g2,g3,g4,g9,g10,g11];refine O.seg0 C6 prgG (zab zah (by kernel_rfl)) rfl (zaa Try.func170) rfl fun wp hp=>?_;replace hp:=yay hp
  go_wp2_with fail
  refine ⟨hp.out,?_⟩;clear hp  wp;refine zcu (O.xc ..) ?_;rw [zjx _ rfl];obtain rfl:=hmc.out;refine ih.out (j+1) hl' (by omega) _ _ _ _ _ C6 ?_ ⟨rfl,rfl,rfl,rfl,by rw [hob];rfl,rfl⟩ rfl;show (upd m3.an md.i (m3.an md.i++[r]) md.i).length≤j+1;rw [upd_same,List.length_append,hpv3.out];simp;omega
end
section
variable {S:Type} {md:Md (SM S)} {L:zcl S GateS} {gb lo:Nat}
end
section
variable {S:Type} {R:S→(Nat→Owner)→World→Prop} {Z:AL} {md:Md (SM S)} {A:Nat→Prop} {c:Frame} {cs:List Frame} {fdo:FuncId} {fnd:Func} {recv:Value} {doφ:OpD→(Ans→Fu (SM S))→Fu (SM S)}
theorem ztb (O:md.Ok) (hmd:md.Rep=GRep R Z) (F:zgd R) (hi:md.i < Z.n) (hn:Z.n≤64) (hdo:DoOk md Z.lo fdo recv doφ) (hfd:Try.prog.funcs[fdo]?=some fnd) (hname:(fnd.name == "runtime.NumGoroutine")=false) (hbody:fnd.body.isNone=false)
  {L:List OpD} {oc dc ic ac:Nat} {ob:Option Addr} {ocap:Nat} (T:TW Z fdo recv md.i L oc dc ic ac ob ocap) {h₀:Array Obj} {o₀:Nat→Owner} {m₀:SM S} (h0:m₀.an md.i=[]) (hret:∀ m',md.F zvf A ⟨h₀,m',o₀⟩ (G (c.finish (.tuple #[])) cs)) (hend:∀ m',md.End A ⟨h₀,m',o₀⟩ c cs) :
  md.F (zql doφ md.i L) A ⟨h₀,m₀,o₀⟩ (G (Frame.enter Try.prog 170 #[md.sv,.pointer (some ⟨oc,0,none⟩),.pointer (some ⟨dc,0,none⟩),.pointer (some ⟨ic,0,none⟩),.pointer (some ⟨ac,0,none⟩)] .normal) (c::cs)):=by
 intro y own w m C;rw [enter_at _ Try.func170 rfl];simp only [Try.ntmps170,yan,yau,yav,Nat.reduceAdd,Nat.reduceSub,yao,
   yap,yaq,yar,yas,yat]
 have hm:m.an md.i=[]:=C.pv.trans h0;have hR:GRep R Z m own w:=hmd▸C.rep;have C':md.C y own A ⟨h₀,m,o₀⟩ w m:=C.less ⟨fun b hb=>⟨hb,rfl⟩,C.pv.symm,fun b v h=>⟨h,rfl⟩⟩;generalize hmc:zql doφ md.i L m=mc;replace hmc:=yay hmc;replace hm:=yay hm;replace hret:=yay hret;refine zaf (O.xc ..) fun R0 hR0=>?_;refine O.seg0 C prgG (zab zah (by kernel_rfl)) rfl (zaa Try.func170) rfl fun wp hp=>?_;have fo:=zdg hR hp T.oc 0;simp only [yac,yaa] at fo;replace hp:=yay hp
 go_wp2_with fail
 refine ⟨hp.out,?_⟩;clear hp fo wp;obtain rfl:=hR0.out;clear hR0;refine zb7 (O.xc ..) ?_;refine zft (O.xc ..) ?_;obtain rfl:=hmc.out;clear hmc;rw [zjx _ rfl];exact zqt O hmd F hi hn hdo hfd hname hbody T hret.out hend L 0 rfl (Nat.zero_le _) _ _ _ _ _ C' (by rw [hm.out];exact yax _) ⟨rfl,rfl,rfl,rfl,rfl,rfl⟩ rfl
theorem zp5 {U:Tun} {i:Nat} (F:zgd R) (hi:i < Z.n) (hn:Z.n≤64) (hU:U.n≤64) (hdo:DoOk (zp6 (GRep R Z) U i) Z.lo fdo recv doφ) (hfd:Try.prog.funcs[fdo]?=some fnd) (hname:(fnd.name == "runtime.NumGoroutine")=false) (hbody:fnd.body.isNone=false)
  {L:List OpD} {oc dc ic ac:Nat} {ob:Option Addr} {ocap:Nat} (T:TW Z fdo recv i L oc dc ic ac ob ocap) {h₀:Array Obj} {o₀:Nat→Owner} {m₀:SM S} (h0:m₀.an i=[]) :
  GOF (GRep R Z) Try.prog U i (zql doφ i L) (fun _=>False) ⟨h₀,m₀,o₀⟩ (born Try.prog (zko U.tu i (.func (.func 170) #[] #[.pointer (some ⟨oc,0,none⟩),.pointer (some ⟨dc,0,none⟩),.pointer (some ⟨ic,0,none⟩),.pointer (some ⟨ac,0,none⟩)]))) :=
 have hloc:zcp (GRep R Z):=GRep.local F
 run_cps hloc Try.func170 (by kernel_rfl) (by kernel_rfl) hU fun c cs A h₁ m₁ o₁ hp hret hend =>
  gof_md (ztb (md:=zp6 (GRep R Z) U i) (zrb hloc) rfl F hi hn hdo hfd hname hbody T ((show m₁.an i=m₀.an i from hp).trans h0) (fun m'=>md_gof hloc (hret m')) hend)
end
section
variable {S:Type} {i:Nat}
theorem zdm {κ:Fu (SM S)} (h:zbi i κ):zbi i (zb1 κ):=fun m=>⟨fun _ _=>rfl,fun m j hj=>(h m).1 j hj,fun m=>(h m).2⟩
theorem fp_cut:zbi (M:=SM S) i zkm:=fun m=>⟨fun _ _=>rfl,trivial⟩
theorem zd9 {κ:SM S→Fu (SM S)} {f:SM S→SM S} (hf:∀ m,(f m).an=m.an) (h:∀ x,zbi i (κ x)):zbi i fun m=>κ m (f m):=fun m =>
 ⟨fun j hj=>((h m (f m)).1 j hj).trans (show (f m).an j=m.an j by rw [hf]),(h m (f m)).2⟩
theorem zv3 {doφ:OpD→(Ans→Fu (SM S))→Fu (SM S)} (h:∀ o κ,(∀ r,zbi i (κ r))→zbi i (doφ o κ)):∀ l,zbi i (zql doφ i l)
 | []=>fun m=>⟨fun _ _=>rfl,trivial⟩
 | o::l=>h o _ fun r m=>by
  obtain ⟨h1,h2⟩:=zv3 h l (m.tell i r);exact ⟨fun j hj=>(h1 j hj).trans (upd_ne _ _ hj),h2⟩
def FD {M:Type} (d:Nat) (φ:Fu M):Prop:=∀ m,Deep d (φ m).2
theorem zlm {M:Type} {d:Nat} {φ:Fu M} (h:FD (d+1) φ):FD d φ:=fun m=>(h m).less
theorem zs6 {M:Type} {d:Nat} {φ:Fu M} (h:FD d φ):FD (d+1) (zb1 φ):=fun m m'=>h m'
theorem zcn {M:Type} {d:Nat} {φ:Fu M} (h:FD d φ):FD d (zb1 φ):=zlm (zs6 h)
theorem fd_fin {M:Type} {d:Nat}:FD d (zvf (M:=M)):=fun m=>by cases d<;>trivial
theorem zs4 {M:Type} {φ:Fu M}:FD 0 φ:=fun m=>Deep.zero _
theorem zv4 {d:Nat} {doφ:OpD→(Ans→Fu (SM S))→Fu (SM S)} (h:∀ o κ,(∀ r,FD d (κ r))→FD d (doφ o κ)):∀ l,FD d (zql doφ i l)
 | []=>fd_fin
 | o::l=>h o _ fun r m=>zv4 h l (m.tell i r)
end
section
variable {S:Type} {L:zcl S GateS} {i d f:Nat}
end
def zdf (x y:Int):Int:=IntKind.i64.wrap (x+y)
theorem zn1 (x y:Int):zcm (zdf x y):=by
 unfold zdf zcm;rw [IntKind.wrap_i64];omega
theorem add64 {a:Addr} {x y:Int} {w:World} (hc:w.cell? a=some (.int .i64 x)) (hz:w.frozen? a=false):(callFunc 159 #[.pointer (some a),.int .i64 y]).run Try.prog w = .ok (.value (.int .i64 (zdf x y))) (w.setCell a (.int .i64 (zdf x y))) :=
 run_call_add (P:=Try.prog) Try.func159 (by kernel_rfl) (by kernel_rfl) (by kernel_rfl) .i64 (by kernel_rfl) hc hz (by simp [Op.intArith,zdf])
theorem swap64 {a:Addr} {x y:Int} {w:World} (hc:w.cell? a=some (.int .i64 x)) (hz:w.frozen? a=false):(callFunc 160 #[.pointer (some a),.int .i64 y]).run Try.prog w = .ok (.value (.int .i64 x)) (w.setCell a (.int .i64 y)) :=
 zgv (P:=Try.prog) Try.func160 (by kernel_rfl) (by kernel_rfl) (by kernel_rfl) .i64 (by kernel_rfl) hc hz
theorem store32 {a:Addr} {x y:Int} {w:World} (hc:w.cell? a=some (.int .u32 x)) (hz:w.frozen? a=false):(callFunc 152 #[.pointer (some a),.int .u32 y]).run Try.prog w = .ok (.value (.tuple #[])) (w.setCell a (.int .u32 y)) :=
 run_call_store (P:=Try.prog) Try.func152 (by kernel_rfl) (by kernel_rfl) (by kernel_rfl) (by kernel_rfl) hc hz
theorem wordAdd (b o:Nat) (x y:Int) (w:World) (hc:w.cell? ⟨b,o,none⟩=some (.int .i64 x)) (hf:w.frozen? ⟨b,o,none⟩=false) :
  Calls Try.prog 113 #[.pointer (some ⟨b,o,none⟩),.int .i64 y] w fun e w'=>e = .returned (.int .i64 (zdf x y))∧w.setCell ⟨b,o,none⟩ (.int .i64 (zdf x y))=w':=by
 have hl:=add64 (y:=y) hc hf;go_enter Try.func113,Try.ntmps113
 go_wp2
 go_ret
 exact ⟨rfl,rfl⟩
theorem zt4 (b o:Nat) (x y:Int) (w:World) (hc:w.cell? ⟨b,o,none⟩=some (.int .i64 x)) (hf:w.frozen? ⟨b,o,none⟩=false) :
  Calls Try.prog 114 #[.pointer (some ⟨b,o,none⟩),.int .i64 y] w fun e w'=>e = .returned (.int .i64 x)∧w.setCell ⟨b,o,none⟩ (.int .i64 y)=w':=by
 have hl:=swap64 (y:=y) hc hf;go_enter Try.func114,Try.ntmps114
 go_wp2
 go_ret
 exact ⟨rfl,rfl⟩
theorem ztq (x:Bool) (w:World):Calls Try.prog 153 #[.bool x] w fun e w'=>e = .returned (.int .u32 (bit x))∧w=w':=b32_any x w
theorem bit_ne (x:Bool):(bit x != 0)=x:=by cases x<;>rfl
theorem zpy (b off:Nat) (x y:Bool) (w:World) (hc:w.cell? ⟨b,off,none⟩=some (.int .u32 (bit x))) (hf:w.frozen? ⟨b,off,none⟩=false) :
  Calls Try.prog 116 #[.pointer (some ⟨b,off,none⟩),.bool y] w fun e w'=>e = .returned (.bool x)∧(w.setCell ⟨b,off,none⟩ (.int .u32 (bit y))).drew=w':=by
 have hl:=swap32 (y:=bit y) (w:=w.drew) (a:=⟨b,off,none⟩) (x:=bit x) hc hf;have hx:=bit_ne x;go_enter Try.func116,Try.ntmps116
 go_wp2
 go_region_with (go_at_call 153;refine (ztq _ _).mono ?_;rintro e w' ⟨rfl,rfl⟩)
 go_wp2
 go_ret
 exact ⟨rfl,rfl⟩
theorem zto (b off:Nat) (x y:Bool) (w:World) (hc:w.cell? ⟨b,off,none⟩=some (.int .u32 (bit x))) (hf:w.frozen? ⟨b,off,none⟩=false) :
  Calls Try.prog 100 #[.pointer (some ⟨b,off,none⟩),.bool y] w fun e w'=>e = .returned (.tuple #[])∧(w.setCell ⟨b,off,none⟩ (.int .u32 (bit y))).drew=w':=by
 have hl:=store32 (y:=bit y) (w:=w.drew) (a:=⟨b,off,none⟩) (x:=bit x) hc hf;go_enter Try.func100,Try.ntmps100
 go_region_with (go_at_call 153;refine (ztq _ _).mono ?_;rintro e w' ⟨rfl,rfl⟩)
 go_end0
 exact ⟨rfl,rfl⟩
section
variable {P:Program} {f:FuncId} {fn:Func}
theorem zjd (hf:P.funcs[f]?=some fn) (hname:(fn.name == "runtime.NumGoroutine")=false) (hb:fn.body.isNone=true) (hn:Extern.findNext fn=none)
  (he:Extern.find fn=some Extern.Atomic.storeT) {a:Addr} {x y:Option Addr} {w:World} (hc:w.cell? a=some (.pointer x)) (hz:w.frozen? a=false) :
  (callFunc f #[.pointer (some a),.pointer y]).run P w = .ok (.value (.tuple #[])) (w.setCell a (.pointer y)):=by
 rw [run_callFunc_extern hf hname hb hn he]
 change (Sem.run P (do
  store (← asAddr (.pointer (some a))) (.pointer y) .atomic
  pure Extern.Atomic.none_) w).andThen _=_
 simp [asAddr,hc,hz,run_store P w a (.pointer y) .atomic rfl,Result.andThen,Extern.Atomic.none_]
theorem zjz (hf:P.funcs[f]?=some fn) (hname:(fn.name == "runtime.NumGoroutine")=false) (hb:fn.body.isNone=true) (hn:Extern.findNext fn=none)
  (he:Extern.find fn=some (Extern.Atomic.swapT .ptr)) {a:Addr} {x y:Option Addr} {w:World} (hc:w.cell? a=some (.pointer x)) (hz:w.frozen? a=false) :
  (callFunc f #[.pointer (some a),.pointer y]).run P w = .ok (.value (.pointer x)) (w.setCell a (.pointer y)):=by
 rw [run_callFunc_extern hf hname hb hn he]
 change (Sem.run P (do
  let a' ← asAddr (.pointer (some a))
  let old ← Extern.Atomic.read .ptr a'
  store a' (.pointer y) .atomic
  pure old) w).andThen _=_
 simp [Extern.Atomic.read,asAddr,hc,hz,run_store P w a (.pointer y) .atomic rfl,Result.andThen]
end
theorem zi9 {a:Addr} {x y:Option Addr} {w:World} (hc:w.cell? a=some (.pointer x)) (hz:w.frozen? a=false):(callFunc 154 #[.pointer (some a),.pointer y]).run Try.prog w = .ok (.value (.tuple #[])) (w.setCell a (.pointer y)) :=
 zjd (P:=Try.prog) Try.func154 (by kernel_rfl) (by kernel_rfl) (by kernel_rfl) (by kernel_rfl) hc hz
theorem zo8 {a:Addr} {x y:Option Addr} {w:World} (hc:w.cell? a=some (.pointer x)) (hz:w.frozen? a=false):(callFunc 158 #[.pointer (some a),.pointer y]).run Try.prog w = .ok (.value (.pointer x)) (w.setCell a (.pointer y)) :=
 zjz (P:=Try.prog) Try.func158 (by kernel_rfl) (by kernel_rfl) (by kernel_rfl) (by kernel_rfl) hc hz
def KeptI (w:World) (p:Option Addr) (v:Int):Prop:=p=none∧v=0∨∃ kb,p=some ⟨kb,0,none⟩∧w.heap[kb]?=some (.cells #[.int .i64 v,.int .i64 0] 184 (0,0))
theorem KeptI.conv {w:World} {p:Option Addr} {v:Int} (h:KeptI w p v):(convert 56 108 (.pointer p)).run Try.prog w = .ok (.pointer p) w:=by
 rcases h with ⟨rfl,_⟩|⟨kb,rfl,hk⟩
 ·exact zpw 56 108 184 (by kernel_rfl) (by kernel_rfl) w
 ·exact zjv 56 108 184 (by kernel_rfl) (by kernel_rfl) (n:=2) (by kernel_rfl) (by kernel_rfl) (by kernel_rfl) hk rfl
theorem KeptI.back {w:World} {p:Option Addr} {v:Int} (h:KeptI w p v):(convert 108 56 (.pointer p)).run Try.prog w = .ok (.pointer p) w:=by
 rcases h with ⟨rfl,_⟩|⟨kb,rfl,hk⟩
 ·exact zdz 108 56 184 (by kernel_rfl) (by kernel_rfl) w
 ·exact run_convert_to_unsafe (P:=Try.prog) (t:=184) (by kernel_rfl) (by kernel_rfl) (by kernel_rfl) (zae hk 0)
theorem KeptI.keep {w w':World} {p:Option Addr} {v:Int} (h:KeptI w p v) (hk:∀ b,p=some ⟨b,0,none⟩→w'.heap[b]?=w.heap[b]?):KeptI w' p v:=by
 rcases h with h|⟨kb,e,h⟩
 ·exact .inl h
 ·exact .inr ⟨kb,e,(hk kb e).trans h⟩
theorem ptrLoadI (b o:Nat) {p:Option Addr} {v:Int} (w:World) (hc:w.cell? ⟨b,o,none⟩=some (.pointer p)) (hk:KeptI w p v) :
  Calls Try.prog 106 #[.pointer (some ⟨b,o,none⟩)] w fun e w'=>e = .returned (.pointer p)∧w=w':=by
 have hl:=zlc hc;have hcv:=hk.conv;clear hk hc;go_enter Try.func106,Try.ntmps106
 go_wp2
 go_ret
 exact ⟨rfl,rfl⟩
theorem ptrStoreI (b o:Nat) {p q:Option Addr} {v:Int} (w:World) (hc:w.cell? ⟨b,o,none⟩=some (.pointer p)) (hf:w.frozen? ⟨b,o,none⟩=false) (hk:KeptI w q v) :
  Calls Try.prog 101 #[.pointer (some ⟨b,o,none⟩),.pointer q] w fun e w'=>e = .returned (.tuple #[])∧w.setCell ⟨b,o,none⟩ (.pointer q)=w':=by
 have hl:=zi9 (y:=q) hc hf;have hcv:=hk.back;clear hk hc;go_enter Try.func101,Try.ntmps101
 go_wp2
 go_end0
 exact ⟨rfl,rfl⟩
theorem zun (b o:Nat) {p q:Option Addr} {u v:Int} (w:World) (hc:w.cell? ⟨b,o,none⟩=some (.pointer p)) (hf:w.frozen? ⟨b,o,none⟩=false) (hk:KeptI w q v) (hp:KeptI w p u) (hpb:p≠some ⟨b,0,none⟩) :
  Calls Try.prog 117 #[.pointer (some ⟨b,o,none⟩),.pointer q] w fun e w'=>e = .returned (.pointer p)∧w.setCell ⟨b,o,none⟩ (.pointer q)=w':=by
 have hl:=zo8 (y:=q) hc hf;have hcv:=hk.back;have hcv2:=(hp.keep (w':=w.setCell ⟨b,o,none⟩ (.pointer q)) fun x e=>Below.heap_setCell _ _ _ _ fun z=>hpb (by rw [e,z])).conv;clear hk hc hp;go_enter Try.func117,Try.ntmps117
 go_wp2
 go_ret
 exact ⟨rfl,rfl⟩
theorem valueI_walk {p:Option Addr} {v:Int} (w:World) (hk:KeptI w p v):Calls Try.prog 105 #[.pointer p] w fun e w'=>e = .returned (.int .i64 v)∧w=w':=by
 rcases hk with ⟨rfl,rfl⟩|⟨kb,rfl,hk⟩
 ·go_enter Try.func105,Try.ntmps105
  go_wp2
  go_ret
  exact ⟨rfl,rfl⟩
 ·have hc:=zae hk 0;simp only [yac,yaa] at hc;go_enter Try.func105,Try.ntmps105
  go_wp2
  go_ret
  exact ⟨rfl,rfl⟩
theorem heldI_walk {p:Option Addr} {v:Int} {of:Value} (w:World) (hk:KeptI w p v) (ho:∃ q,of = .pointer q):Calls Try.prog 55 #[.agg #[.pointer p,of]] w fun e w'=>e = .returned (.int .i64 v)∧w.alloc (.cells #[.pointer p,of] 119)=w':=by
 obtain ⟨q,rfl⟩:=ho;have hv:=valueI_walk _ (hk.keep (w':=w.alloc (.cells #[.pointer p,.pointer q] 119)) fun b e=>by
  rcases hk with ⟨e1,_⟩|⟨kb,e1,h⟩
  ·rw [e1] at e;cases e
  ·rw [e1] at e;cases e;exact Below.heap_alloc _ _ _ (yah.1 h).1)
 clear hk;go_enter Try.func55,Try.ntmps55
 go_wp2_with (go_at_call 105;refine hv.mono ?_;rintro e w' ⟨rfl,rfl⟩)
 go_ret
 exact ⟨rfl,rfl⟩
theorem zba:Prg true Try.prog (·∈[36,37,38,55,83,87,100,101,104,105,106,113,114,116,117,119,153]):=zgw zah (by kernel_rfl) (by kernel_rfl) (by kernel_rfl)
def zhc (i s:Nat):Nat:=s * 65536+i
def HeldC (own:Nat→Owner) (hp:Array Obj) (i s:Nat) (v:Int) (p:Option Addr):Prop :=
 zcm v∧((s=0∧v=0∧p=none)∨(0 < s∧∃ kb,p=some ⟨kb,0,none⟩∧own kb = .tag (zhc i s+2)∧hp[kb]?=some (.cells #[.int .i64 v,.int .i64 0] 184 (0,0))))
theorem HeldC.keep {own own':Nat→Owner} {hp hp':Array Obj} {i s:Nat} {v:Int} {p:Option Addr} (h:HeldC own hp i s v p) (hk:∀ b v,0 < v→own b = .tag v→own' b = .tag v∧hp'[b]?=hp[b]?):HeldC own' hp' i s v p:=by
 obtain ⟨h1,h|⟨h0,kb,e1,e2,e3⟩⟩:=h
 ·exact ⟨h1,.inl h⟩
 ·exact ⟨h1,.inr ⟨h0,kb,e1,(hk _ _ (by omega) e2).1,(hk _ _ (by omega) e2).2.trans e3⟩⟩
theorem HeldC.kept {own:Nat→Owner} {hp:Array Obj} {i s:Nat} {v:Int} {p:Option Addr} {w:World} (h:HeldC own hp i s v p) (hw:∀ b,(∃ v,own b = .tag v)→w.heap[b]?=hp[b]?):KeptI w p v:=by
 obtain ⟨_,⟨_,rfl,rfl⟩|⟨_,kb,rfl,e2,e3⟩⟩:=h
 ·exact .inl ⟨rfl,rfl⟩
 ·exact .inr ⟨kb,rfl,(hw kb ⟨_,e2⟩).trans e3⟩
structure WAt (b:Nat) (v:Int) (own:Nat→Owner) (w:World):Prop where
 sh:own b = .sh
 at_:w.heap[b]?=some (.cells #[.int .i64 v] 102 (0,0))
 ok:zcm v
structure FAt (b:Nat) (v:Bool) (own:Nat→Owner) (w:World):Prop where
 sh:own b = .sh
 at_:w.heap[b]?=some (.cells #[.int .u32 (bit v)] 107 (0,0))
structure BoxS where
 v:Int
 ser:Nat
 top:Nat
structure BAt (i b:Nat) (V:BoxS) (own:Nat→Owner) (w:World):Prop where
 sh:own b = .sh
 cell:∃ p,w.heap[b]?=some (.cells #[.pointer p] 113 (0,0))∧HeldC own w.heap i V.ser V.v p
 inj:∀ b b' t,own b = .tag (t+2)→own b' = .tag (t+2)→b=b'
 top:∀ b t,own b = .tag (t+2)→t / 65536≤V.top
structure zge where
 W:Nat→Int
 F:Nat→Bool
 B:Nat→Int
 Ser:Nat→Nat
 N:Nat
structure CL where
 n:Nat
 wb:Nat→Nat
 fb:Nat→Nat
 bb:Nat→Nat
structure zoy (L:CL) (S:zge) (own:Nat→Owner) (w:World):Prop where
 n:L.n≤65536
 wo:∀ i,i < L.n→WAt (L.wb i) (S.W i) own w
 fl:∀ i,i < L.n→FAt (L.fb i) (S.F i) own w
 bo:∀ i,i < L.n→BAt i (L.bb i) ⟨S.B i,S.Ser i,S.N⟩ own w
 wd:∀ i j,i < L.n→j < L.n→L.wb i=L.wb j→i=j
 fd:∀ i j,i < L.n→j < L.n→L.fb i=L.fb j→i=j
 bd:∀ i j,i < L.n→j < L.n→L.bb i=L.bb j→i=j
def zle (i:Nat):zcl zge Int:=⟨fun s=>s.W i,fun v s=>{ s with W:=upd s.W i v },fun v s=>upd_same ..⟩
def zu0 (i:Nat):zcl zge Bool:=⟨fun s=>s.F i,fun v s=>{ s with F:=upd s.F i v },fun v s=>upd_same ..⟩
def zqo (i:Nat):zcl zge BoxS:=⟨fun s=>⟨s.B i,s.Ser i,s.N⟩,fun v s=>{ s with B:=upd s.B i v.v,Ser:=upd s.Ser i v.ser,N:=v.top },fun v s=>by simp only [upd_same]⟩
theorem WAt.keep {b:Nat} {v:Int} {own own':Nat→Owner} {w w':World} (h:WAt b v own w) (hk:own' b = .sh∧w'.heap[b]?=w.heap[b]?):WAt b v own' w':=⟨hk.1,hk.2.trans h.at_,h.ok⟩
theorem FAt.keep {b:Nat} {v:Bool} {own own':Nat→Owner} {w w':World} (h:FAt b v own w) (hk:own' b = .sh∧w'.heap[b]?=w.heap[b]?):FAt b v own' w':=⟨hk.1,hk.2.trans h.at_⟩
theorem BAt.keep {i b:Nat} {V:BoxS} {own own':Nat→Owner} {w w':World} (h:BAt i b V own w) (hk:own' b = .sh∧w'.heap[b]?=w.heap[b]?) (ht:∀ b v,0 < v→own b = .tag v→own' b = .tag v∧w'.heap[b]?=w.heap[b]?) (hn:∀ b v,own' b = .tag v→own b = .tag v∨v≤1):BAt i b V own' w':=by
 obtain ⟨a,⟨p,c1,c2⟩,f,g⟩:=h;have hh:∀ b t,own' b = .tag (t+2)→own b = .tag (t+2):=fun b t hb=>(hn b _ hb).resolve_right (by omega);exact ⟨hk.1,⟨p,hk.2.trans c1,c2.keep ht⟩,fun b b' t q1 q2=>f b b' t (hh _ _ q1) (hh _ _ q2),fun b t q=>g b t (hh _ _ q)⟩
theorem zvg (L:CL):zgd (zoy L):=⟨fun {s own own' w w'} h hs ht hn =>
 ⟨h.n,fun i hi=>(h.wo i hi).keep (hs _ _ _ _ (h.wo i hi).sh (h.wo i hi).at_ (by decide) (by decide)),fun i hi=>(h.fl i hi).keep (hs _ _ _ _ (h.fl i hi).sh (h.fl i hi).at_ (by decide) (by decide)),
  fun i hi=>by
   obtain ⟨p,c1,_⟩:=(h.bo i hi).cell;exact (h.bo i hi).keep (hs _ _ _ _ (h.bo i hi).sh c1 (by decide) (by decide)) ht hn,h.wd,h.fd,h.bd⟩⟩
theorem zf0 {w:World} {b b':Nat} {c c':Array Value} {t t':TypeId} (h:w.heap[b]?=some (.cells c t (0,0))) (h':w.heap[b']?=some (.cells c' t' (0,0))) (ht:t≠t'):b≠b':=fun z=>by
 rw [z,h'] at h;simp only [Option.some.injEq,Obj.cells.injEq] at h;exact ht h.2.1.symm
def Stab (Q:(Nat→Owner)→World→Prop):Prop:=∀ {own own' w w'},Q own w→(∀ b v,0 < v→own b = .tag v→own' b = .tag v∧w'.heap[b]?=w.heap[b]?)→Q own' w'
def zhb (L:CL) (Q:(Nat→Owner)→World→Prop) (s:zge) (own:Nat→Owner) (w:World):Prop:=zoy L s own w∧Q own w
theorem famQ (L:CL) {Q:(Nat→Owner)→World→Prop} (hQ:Stab Q):zgd (zhb L Q):=⟨fun h hs ht hn=>⟨(zvg L).keep h.1 hs ht hn,hQ h.2 ht⟩⟩
section
variable {Q:(Nat→Owner)→World→Prop} {L:CL} {Z:AL} {md:Md (SM zge)} {i:Nat}
theorem partW (hQ:Stab Q) (hmd:md.Rep=GRep (zhb L Q) Z) (hi:i < L.n):Part md (zle i) (WAt (L.wb i)) (L.wb i) (fun _=>False) :=
 GRep.part (fun h=>h.1.wo i hi) (fun h=>⟨_,_,_,(h.1.wo i hi).at_,by decide,by decide⟩) (fun {s own own' w w' v} hh hk hv=>by
  refine ⟨?_,hQ hh.2 fun b v _ q=>hk.tag b v q⟩;have h:=hh.1;refine ⟨h.n,fun j hj=>?_,fun j hj=>(h.fl j hj).keep (hk.sh _ (h.fl j hj).sh (zf0 (h.fl j hj).at_ (h.wo i hi).at_ (by decide))),fun j hj=>?_,h.wd,h.fd,h.bd⟩
  ·show WAt _ (upd s.W i v j) _ _;by_cases e:j=i
   ·subst e;rw [upd_same];exact hv
   ·rw [upd_ne _ _ e];exact (h.wo j hj).keep (hk.sh _ (h.wo j hj).sh fun z=>e (h.wd j i hj hi z))
  ·obtain ⟨p,c1,_⟩:=(h.bo j hj).cell;exact (h.bo j hj).keep (hk.sh _ (h.bo j hj).sh (zf0 c1 (h.wo i hi).at_ (by decide))) (fun b v _ q=>hk.tag b v q) fun b v q=>by
    rcases hk.new b v q with z|z|z
    ·exact .inl z
    ·exact .inr (by omega)
    ·exact z.elim) hmd
theorem partF (hQ:Stab Q) (hmd:md.Rep=GRep (zhb L Q) Z) (hi:i < L.n):Part md (zu0 i) (FAt (L.fb i)) (L.fb i) (fun _=>False) :=
 GRep.part (fun h=>h.1.fl i hi) (fun h=>⟨_,_,_,(h.1.fl i hi).at_,by decide,by decide⟩) (fun {s own own' w w' v} hh hk hv=>by
  refine ⟨?_,hQ hh.2 fun b v _ q=>hk.tag b v q⟩;have h:=hh.1;refine ⟨h.n,fun j hj=>(h.wo j hj).keep (hk.sh _ (h.wo j hj).sh (zf0 (h.wo j hj).at_ (h.fl i hi).at_ (by decide))),fun j hj=>?_,fun j hj=>?_,h.wd,h.fd,h.bd⟩
  ·show FAt _ (upd s.F i v j) _ _;by_cases e:j=i
   ·subst e;rw [upd_same];exact hv
   ·rw [upd_ne _ _ e];exact (h.fl j hj).keep (hk.sh _ (h.fl j hj).sh fun z=>e (h.fd j i hj hi z))
  ·obtain ⟨p,c1,_⟩:=(h.bo j hj).cell;exact (h.bo j hj).keep (hk.sh _ (h.bo j hj).sh (zf0 c1 (h.fl i hi).at_ (by decide))) (fun b v _ q=>hk.tag b v q) fun b v q=>by
    rcases hk.new b v q with z|z|z
    ·exact .inl z
    ·exact .inr (by omega)
    ·exact z.elim) hmd
theorem partB (hQ:Stab Q) (hmd:md.Rep=GRep (zhb L Q) Z) (hi:i < L.n):Part md (zqo i) (BAt i (L.bb i)) (L.bb i) TS2 :=
 GRep.part (fun h=>h.1.bo i hi) (fun h=>by obtain ⟨p,c1,_⟩:=(h.1.bo i hi).cell;exact ⟨_,_,_,c1,by decide,by decide⟩) (fun {s own own' w w' v} hh hk hv=>by
  refine ⟨?_,hQ hh.2 fun b v _ q=>hk.tag b v q⟩;have h:=hh.1;obtain ⟨p,c1,_⟩:=(h.bo i hi).cell;refine ⟨h.n,fun j hj=>(h.wo j hj).keep (hk.sh _ (h.wo j hj).sh (zf0 (h.wo j hj).at_ c1 (by decide))),fun j hj=>(h.fl j hj).keep (hk.sh _ (h.fl j hj).sh (zf0 (h.fl j hj).at_ c1 (by decide))),fun j hj=>?_,h.wd,h.fd,h.bd⟩;show BAt j (L.bb j) ⟨upd s.B i v.v j,upd s.Ser i v.ser j,v.top⟩ _ _;by_cases e:j=i
  ·subst e;rw [upd_same,upd_same];exact hv
  ·rw [upd_ne _ _ e,upd_ne _ _ e];obtain ⟨q,d1,d2⟩:=(h.bo j hj).cell;have hq:=hk.sh _ (h.bo j hj).sh fun z=>e (h.bd j i hj hi z);exact ⟨hq.1,⟨q,hq.2.trans d1,d2.keep fun b v _ q=>hk.tag b v q⟩,hv.inj,hv.top⟩) hmd
end
section
variable {S:Type} {md:Md (SM S)} {L:zcl S Int} {LF:zcl S Bool} {gb:Nat} {TS:Nat→Prop} {A:Nat→Prop} {w₀:W0 (SM S)} {c:Frame} {cs:List Frame}
def zeb (L:zcl S Int) (κ:Int→Fu (SM S)):Fu (SM S):=zb1 fun m=>κ (L.get m.st) m
def zhg (L:zcl S Int) (v:Int) (κ:Fu (SM S)):Fu (SM S):=zb1 fun m=>κ (m.with (L.put v m.st))
def znr (L:zcl S Int) (v:Int) (κ:Int→Fu (SM S)):Fu (SM S):=zb1 fun m=>κ (zdf (L.get m.st) v) (m.with (L.put (zdf (L.get m.st) v) m.st))
def zj5 (L:zcl S Int) (v:Int) (κ:Int→Fu (SM S)):Fu (SM S):=zb1 fun m=>κ (L.get m.st) (m.with (L.put v m.st))
def zib (L:zcl S Int) (x v:Int) (κ:Bool→Fu (SM S)):Fu (SM S):=fun m=>if L.get m.st=x then κ true (m.with (L.put v m.st)) else κ false m
def zhh (L:zcl S Int) (x v:Int) (κ:Bool→Fu (SM S)):Fu (SM S):=zb1 (zib L x v κ)
def zkk (L:zcl S Bool) (κ:Bool→Fu (SM S)):Fu (SM S):=zb1 fun m=>κ (L.get m.st) m
def zqp (L:zcl S Bool) (κ:Bool→Fu (SM S)):Fu (SM S):=zb1 fun m=>κ (!L.get m.st) (m.with (L.put true m.st))
def zhw (L:zcl S Bool) (κ:Bool→Fu (SM S)):Fu (SM S):=zb1 fun m=>κ (L.get m.st) (m.with (L.put false m.st))
theorem Part.word {x:md.β} {own:Nat→Owner} {w w1:World} {m:SM S} {v:Int} (Pt:Part md L (WAt gb) gb TS) (O:md.Ok) (C:md.C x own A w₀ w m) (hs:w1.heap.size=w.heap.size) (hk:∀ b,b≠gb→w1.heap[b]?=w.heap[b]?) (hv:zcm v) (h1:w1.heap[gb]?=some (.cells #[.int .i64 v] 102 (0,0))) :
  md.C x own A w₀ w1 (m.with (L.put v m.st))∧Frm md.i own w w1:=Pt.write O C (Pt.rep C.rep).sh hs hk ⟨(Pt.rep C.rep).sh,h1,hv⟩
theorem Part.flag {x:md.β} {own:Nat→Owner} {w w1:World} {m:SM S} {v:Bool} (Pt:Part md LF (FAt gb) gb TS) (O:md.Ok) (C:md.C x own A w₀ w m) (hs:w1.heap.size=w.heap.size) (hk:∀ b,b≠gb→w1.heap[b]?=w.heap[b]?) (h1:w1.heap[gb]?=some (.cells #[.int .u32 (bit v)] 107 (0,0))) :
  md.C x own A w₀ w1 (m.with (LF.put v m.st))∧Frm md.i own w w1:=Pt.write O C (Pt.rep C.rep).sh hs hk ⟨(Pt.rep C.rep).sh,h1⟩
theorem zgi (O:md.Ok) (Pt:Part md L (WAt gb) gb TS) {φ:Fu (SM S)} {κ:Int→Fu (SM S)} (hφ:φ=zkm∨φ=zeb L κ) (hend:md.End A w₀ c cs) (hret:φ=zeb L κ→∀ v,zcm v→md.F (κ v) A w₀ (G (c.finish (.int .i64 v)) cs)) :
  md.F φ A w₀ (G (Frame.enter Try.prog 46 #[gpv gb,md.sv] .normal) (c::cs)):=by
 intro x own w m C;unfold gpv;rw [enter_at _ Try.func46 rfl];simp only [Try.ntmps46,yan,yau,yav,Nat.reduceAdd,Nat.reduceSub,yao,
   yap,yaq,yar,yas,yat]
 generalize hmc:φ m=mc;replace hmc:=yay hmc;replace hret:=yay hret;refine zaf (O.xc ..) fun R0 hR0=>?_;refine O.seg0 C zba (zab zah (by kernel_rfl)) rfl (zaa Try.func46) rfl fun wp hp=>?_;replace hp:=yay hp
 go_wp2_with fail
 refine ⟨hp.out,?_⟩;clear hp  wp;obtain rfl:=hR0.out;clear hR0;refine zaf (O.xc ..) fun R0 hR0=>?_;refine zaf (O.xc ..) fun R1 hR1=>?_;refine O.seg0 C zba (zab zah (by kernel_rfl)) rfl (zaa Try.func46) rfl fun wp hp=>?_;replace hp:=yay hp
 go_wp2_with fail
 refine ⟨hp.out,?_⟩;clear hp  wp;obtain rfl:=hR1.out;clear hR1;refine zao (O.xc ..) (t:=false) rfl ?_;refine za7 (O.xc ..) ?_;obtain rfl:=hR0.out;clear hR0;refine zaf (O.xc ..) fun R0 hR0=>?_;refine zbc (O.xc ..) 1 (by decide) (by decide) (zai (by kernel_rfl)) (C.st O) fun wp hp=>?_;simp only [yad,yae];replace hp:=yay hp
 go_wp2_with fail
 refine zag hp.out (C.st O).okd ?_;clear hp  wp;refine zal (O.xc ..) rfl rfl (by decide) rfl Try.func108 (by kernel_rfl) (by kernel_rfl) ?_;walk_nrm;obtain rfl:=hmc.out;clear hmc;refine O.cstep hφ (O.endUp (zaa Try.func46) rfl rfl hend) (fun hst x2 own2 w2 m2 C2=>?_) C;replace hret:=yay (hret.out hst);clear hst;rw [Frame.finish_at];clear C;refine zad (O.xc ..) ?_;obtain rfl:=hR0.out;clear hR0;refine zaf (O.xc ..) fun R0 hR0=>?_;have hG:=Pt.rep C2.rep;have og:=hG.sh;have hD:md.D gb=none:=C2.dm O (by rw [og];simp);have ga:=hG.at_;have hin:=hG.ok;generalize L.get m2.st=v at *;generalize hmc:κ v m2=mc;replace hmc:=yay hmc;refine O.seg0 C2 zba (zab zah (by kernel_rfl)) rfl (zaa Try.func46) rfl fun wp hp=>?_;have g1:=(zbb hp hD).trans ga;have hc:=zae g1 0;have hf:=zau g1 0;simp only [yac,yaa] at hc;have hw:=zo1 gb 0 _ wp hc;replace g1:=yay g1;clear hc hf ga hG;replace hp:=yay hp
 go_wp2_with (go_at_call 87;refine hw.mono ?_;rintro e w' ⟨rfl,rfl⟩)
 refine ⟨hp.out,?_⟩;clear hp hw g1 wp;obtain rfl:=hR0.out;clear hR0;refine zb5 (O.xc ..) ?_;refine zav (O.xc ..) (zaa Try.func46) (C2.st O) ⟨rfl,rfl,rfl,_,Try.func46,results_tmp rfl _ _ _⟩ ?_;obtain rfl:=hmc.out;clear hmc;exact hret.out v hin _ _ _ _ C2
theorem zp3 (O:md.Ok) (Pt:Part md L (WAt gb) gb TS) {v:Int} (hv:zcm v) {κ:Fu (SM S)} (hend:md.End A w₀ c cs) (hret:md.F κ A w₀ (G (c.finish (.tuple #[])) cs)) :
  md.F (zhg L v κ) A w₀ (G (Frame.enter Try.prog 102 #[gpv gb,md.sv,.int .i64 v] .normal) (c::cs)):=by
 intro x own w m C;unfold gpv;rw [enter_at _ Try.func102 rfl];simp only [Try.ntmps102,yan,yau,yav,Nat.reduceAdd,Nat.reduceSub,yao,
   yap,yaq,yar,yas,yat]
 generalize hmc:zhg L v κ m=mc;replace hmc:=yay hmc;replace hret:=yay hret;refine zaf (O.xc ..) fun R0 hR0=>?_;refine O.seg0 C zba (zab zah (by kernel_rfl)) rfl (zaa Try.func102) rfl fun wp hp=>?_;replace hp:=yay hp
 go_wp2_with fail
 refine ⟨hp.out,?_⟩;clear hp  wp;obtain rfl:=hR0.out;clear hR0;refine zao (O.xc ..) (t:=true) rfl ?_;refine zaf (O.xc ..) fun R0 hR0=>?_;refine zbc (O.xc ..) 1 (by decide) (by decide) (zai (by kernel_rfl)) (C.st O) fun wp hp=>?_;simp only [yad,yae];replace hp:=yay hp
 go_wp2_with fail
 refine zag hp.out (C.st O).okd ?_;clear hp  wp;refine zal (O.xc ..) rfl rfl (by decide) rfl Try.func108 (by kernel_rfl) (by kernel_rfl) ?_;walk_nrm;obtain rfl:=hmc.out;clear hmc;refine O.cstep (.inr rfl) (O.endUp (zaa Try.func102) rfl rfl hend) (fun hst x2 own2 w2 m2 C2=>?_) C;rw [Frame.finish_at];clear C;refine zad (O.xc ..) ?_;obtain rfl:=hR0.out;clear hR0;have hG:=Pt.rep C2.rep;have og:=hG.sh;have hD:md.D gb=none:=C2.dm O (by rw [og];simp);have ga:=hG.at_;have hin:=hG.ok;generalize hmc:κ (m2.with (L.put v m2.st))=mc;replace hmc:=yay hmc;refine O.segA C2 zba (zab zah (by kernel_rfl)) rfl (zaa Try.func102) rfl fun wp hp=>?_;have g1:=(zbb hp hD).trans ga;have hc:=zae g1 0;have hf:=zau g1 0;simp only [yac,yaa] at hc;have hw:=zl2 gb 0 _ v wp hc hf;replace g1:=yay g1;replace hp:=yay hp;replace ga:=yay ga;clear hc hf hG
 go_wp2_with (go_at_call 83;refine hw.mono ?_;rintro e w' ⟨rfl,rfl⟩)
 refine fun w3 q1 q2 q3=>?_;have k3:∀ b,b≠gb→w3.heap[b]?=w2.heap[b]?:=fun b hb=>q2 b (Below.heap_setCell _ _ _ _ hb);have s3:w3.heap.size=w2.heap.size:=by rw [q3];simp [World.setCell,hp.out.heap,za2]
 have e3:w3.heap[gb]?=some (.cells #[.int .i64 v] 102 (0,0)):=(q1 gb hD).trans (zaz g1.out 0 _);clear q1 q2 q3 hw g1 hp wp;obtain ⟨C3,F3⟩:=Pt.word O C2 s3 k3 hv e3;refine O.rebase .refl F3 ?_;refine zhf (O.xc ..) ?_;refine zav (O.xc ..) (zaa Try.func102) (C3.st O) ⟨rfl,rfl,rfl,_,Try.func102,results_none rfl _ _ _⟩ ?_;obtain rfl:=hmc.out;exact hret.out _ _ _ _ C3
theorem zo4 (O:md.Ok) (Pt:Part md L (WAt gb) gb TS) {v:Int} {κ:Int→Fu (SM S)} (hend:md.End A w₀ c cs) (hret:∀ r,zcm r→md.F (κ r) A w₀ (G (c.finish (.int .i64 r)) cs)) :
  md.F (znr L v κ) A w₀ (G (Frame.enter Try.prog 47 #[gpv gb,md.sv,.int .i64 v] .normal) (c::cs)):=by
 intro x own w m C;unfold gpv;rw [enter_at _ Try.func47 rfl];simp only [Try.ntmps47,yan,yau,yav,Nat.reduceAdd,Nat.reduceSub,yao,
   yap,yaq,yar,yas,yat]
 generalize hmc:znr L v κ m=mc;replace hmc:=yay hmc;replace hret:=yay hret;refine zaf (O.xc ..) fun R0 hR0=>?_;refine O.seg0 C zba (zab zah (by kernel_rfl)) rfl (zaa Try.func47) rfl fun wp hp=>?_;replace hp:=yay hp
 go_wp2_with fail
 refine ⟨hp.out,?_⟩;clear hp  wp;obtain rfl:=hR0.out;clear hR0;refine zaf (O.xc ..) fun R0 hR0=>?_;refine zaf (O.xc ..) fun R1 hR1=>?_;refine O.seg0 C zba (zab zah (by kernel_rfl)) rfl (zaa Try.func47) rfl fun wp hp=>?_;replace hp:=yay hp
 go_wp2_with fail
 refine ⟨hp.out,?_⟩;clear hp  wp;obtain rfl:=hR1.out;clear hR1;refine zao (O.xc ..) (t:=false) rfl ?_;refine za7 (O.xc ..) ?_;obtain rfl:=hR0.out;clear hR0;refine zaf (O.xc ..) fun R0 hR0=>?_;refine zbc (O.xc ..) 1 (by decide) (by decide) (zai (by kernel_rfl)) (C.st O) fun wp hp=>?_;simp only [yad,yae];replace hp:=yay hp
 go_wp2_with fail
 refine zag hp.out (C.st O).okd ?_;clear hp  wp;refine zal (O.xc ..) rfl rfl (by decide) rfl Try.func108 (by kernel_rfl) (by kernel_rfl) ?_;walk_nrm;obtain rfl:=hmc.out;clear hmc;refine O.cstep (.inr rfl) (O.endUp (zaa Try.func47) rfl rfl hend) (fun hst x2 own2 w2 m2 C2=>?_) C;rw [Frame.finish_at];clear C;refine zad (O.xc ..) ?_;obtain rfl:=hR0.out;clear hR0;refine zaf (O.xc ..) fun R0 hR0=>?_;have hG:=Pt.rep C2.rep;have og:=hG.sh;have hD:md.D gb=none:=C2.dm O (by rw [og];simp);have ga:=hG.at_;have hin:=hG.ok;generalize hmc:κ (zdf (L.get m2.st) v) (m2.with (L.put (zdf (L.get m2.st) v) m2.st))=mc;replace hmc:=yay hmc;refine O.segA C2 zba (zab zah (by kernel_rfl)) rfl (zaa Try.func47) rfl fun wp hp=>?_;have g1:=(zbb hp hD).trans ga;have hc:=zae g1 0;have hf:=zau g1 0;simp only [yac,yaa] at hc;have hw:=wordAdd gb 0 _ v wp hc hf;replace g1:=yay g1;replace hp:=yay hp;replace ga:=yay ga;clear hc hf hG
 go_wp2_with (go_at_call 113;refine hw.mono ?_;rintro e w' ⟨rfl,rfl⟩)
 refine fun w3 q1 q2 q3=>?_;have k3:∀ b,b≠gb→w3.heap[b]?=w2.heap[b]?:=fun b hb=>q2 b (Below.heap_setCell _ _ _ _ hb);have s3:w3.heap.size=w2.heap.size:=by rw [q3];simp [World.setCell,hp.out.heap,za2]
 have e3:w3.heap[gb]?=some (.cells #[.int .i64 (zdf (L.get m2.st) v)] 102 (0,0)):=(q1 gb hD).trans (zaz g1.out 0 _);clear q1 q2 q3 hw g1 hp wp;obtain ⟨C3,F3⟩:=Pt.word O C2 s3 k3 (zn1 _ _) e3;refine O.rebase .refl F3 ?_;obtain rfl:=hR0.out;clear hR0;refine zb5 (O.xc ..) ?_;refine zav (O.xc ..) (zaa Try.func47) (C3.st O) ⟨rfl,rfl,rfl,_,Try.func47,results_tmp rfl _ _ _⟩ ?_;obtain rfl:=hmc.out;exact hret.out _ (zn1 _ _) _ _ _ _ C3
theorem zq9 (O:md.Ok) (Pt:Part md L (WAt gb) gb TS) {v:Int} (hv:zcm v) {κ:Int→Fu (SM S)} (hend:md.End A w₀ c cs) (hret:∀ r,zcm r→md.F (κ r) A w₀ (G (c.finish (.int .i64 r)) cs)) :
  md.F (zj5 L v κ) A w₀ (G (Frame.enter Try.prog 48 #[gpv gb,md.sv,.int .i64 v] .normal) (c::cs)):=by
 intro x own w m C;unfold gpv;rw [enter_at _ Try.func48 rfl];simp only [Try.ntmps48,yan,yau,yav,Nat.reduceAdd,Nat.reduceSub,yao,
   yap,yaq,yar,yas,yat]
 generalize hmc:zj5 L v κ m=mc;replace hmc:=yay hmc;replace hret:=yay hret;refine zaf (O.xc ..) fun R0 hR0=>?_;refine O.seg0 C zba (zab zah (by kernel_rfl)) rfl (zaa Try.func48) rfl fun wp hp=>?_;replace hp:=yay hp
 go_wp2_with fail
 refine ⟨hp.out,?_⟩;clear hp  wp;obtain rfl:=hR0.out;clear hR0;refine zaf (O.xc ..) fun R0 hR0=>?_;refine zaf (O.xc ..) fun R1 hR1=>?_;refine O.seg0 C zba (zab zah (by kernel_rfl)) rfl (zaa Try.func48) rfl fun wp hp=>?_;replace hp:=yay hp
 go_wp2_with fail
 refine ⟨hp.out,?_⟩;clear hp  wp;obtain rfl:=hR1.out;clear hR1;refine zao (O.xc ..) (t:=false) rfl ?_;refine za7 (O.xc ..) ?_;obtain rfl:=hR0.out;clear hR0;refine zaf (O.xc ..) fun R0 hR0=>?_;refine zbc (O.xc ..) 1 (by decide) (by decide) (zai (by kernel_rfl)) (C.st O) fun wp hp=>?_;simp only [yad,yae];replace hp:=yay hp
 go_wp2_with fail
 refine zag hp.out (C.st O).okd ?_;clear hp  wp;refine zal (O.xc ..) rfl rfl (by decide) rfl Try.func108 (by kernel_rfl) (by kernel_rfl) ?_;walk_nrm;obtain rfl:=hmc.out;clear hmc;refine O.cstep (.inr rfl) (O.endUp (zaa Try.func48) rfl rfl hend) (fun hst x2 own2 w2 m2 C2=>?_) C;rw [Frame.finish_at];clear C;refine zad (O.xc ..) ?_;obtain rfl:=hR0.out;clear hR0;refine zaf (O.xc ..) fun R0 hR0=>?_;have hG:=Pt.rep C2.rep;have og:=hG.sh;have hD:md.D gb=none:=C2.dm O (by rw [og];simp);have ga:=hG.at_;have hin:=hG.ok;generalize hmc:κ (L.get m2.st) (m2.with (L.put v m2.st))=mc;replace hmc:=yay hmc;refine O.segA C2 zba (zab zah (by kernel_rfl)) rfl (zaa Try.func48) rfl fun wp hp=>?_;have g1:=(zbb hp hD).trans ga;have hc:=zae g1 0;have hf:=zau g1 0;simp only [yac,yaa] at hc;have hw:=zt4 gb 0 _ v wp hc hf;replace g1:=yay g1;replace hp:=yay hp;replace ga:=yay ga;clear hc hf hG
 go_wp2_with (go_at_call 114;refine hw.mono ?_;rintro e w' ⟨rfl,rfl⟩)
 refine fun w3 q1 q2 q3=>?_;have k3:∀ b,b≠gb→w3.heap[b]?=w2.heap[b]?:=fun b hb=>q2 b (Below.heap_setCell _ _ _ _ hb);have s3:w3.heap.size=w2.heap.size:=by rw [q3];simp [World.setCell,hp.out.heap,za2]
 have e3:w3.heap[gb]?=some (.cells #[.int .i64 v] 102 (0,0)):=(q1 gb hD).trans (zaz g1.out 0 _);clear q1 q2 q3 hw g1 hp wp;obtain ⟨C3,F3⟩:=Pt.word O C2 s3 k3 hv e3;refine O.rebase .refl F3 ?_;obtain rfl:=hR0.out;clear hR0;refine zb5 (O.xc ..) ?_;refine zav (O.xc ..) (zaa Try.func48) (C3.st O) ⟨rfl,rfl,rfl,_,Try.func48,results_tmp rfl _ _ _⟩ ?_;obtain rfl:=hmc.out;exact hret.out _ hin _ _ _ _ C3
theorem zs2 (O:md.Ok) (Pt:Part md LF (FAt gb) gb TS) {κ:Bool→Fu (SM S)} (hend:md.End A w₀ c cs) (hret:∀ v,md.F (κ v) A w₀ (G (c.finish (.bool v)) cs)) :
  md.F (zkk LF κ) A w₀ (G (Frame.enter Try.prog 50 #[gpv gb,md.sv] .normal) (c::cs)):=by
 intro x own w m C;unfold gpv;rw [enter_at _ Try.func50 rfl];simp only [Try.ntmps50,yan,yau,yav,Nat.reduceAdd,Nat.reduceSub,yao,
   yap,yaq,yar,yas,yat]
 generalize hmc:zkk LF κ m=mc;replace hmc:=yay hmc;replace hret:=yay hret;refine zaf (O.xc ..) fun R0 hR0=>?_;refine O.seg0 C zba (zab zah (by kernel_rfl)) rfl (zaa Try.func50) rfl fun wp hp=>?_;replace hp:=yay hp
 go_wp2_with fail
 refine ⟨hp.out,?_⟩;clear hp  wp;obtain rfl:=hR0.out;clear hR0;refine zaf (O.xc ..) fun R0 hR0=>?_;refine zaf (O.xc ..) fun R1 hR1=>?_;refine O.seg0 C zba (zab zah (by kernel_rfl)) rfl (zaa Try.func50) rfl fun wp hp=>?_;replace hp:=yay hp
 go_wp2_with fail
 refine ⟨hp.out,?_⟩;clear hp  wp;obtain rfl:=hR1.out;clear hR1;refine zao (O.xc ..) (t:=false) rfl ?_;refine za7 (O.xc ..) ?_;obtain rfl:=hR0.out;clear hR0;refine zaf (O.xc ..) fun R0 hR0=>?_;refine zbc (O.xc ..) 1 (by decide) (by decide) (zai (by kernel_rfl)) (C.st O) fun wp hp=>?_;simp only [yad,yae];replace hp:=yay hp
 go_wp2_with fail
 refine zag hp.out (C.st O).okd ?_;clear hp  wp;refine zal (O.xc ..) rfl rfl (by decide) rfl Try.func108 (by kernel_rfl) (by kernel_rfl) ?_;walk_nrm;obtain rfl:=hmc.out;clear hmc;refine O.cstep (.inr rfl) (O.endUp (zaa Try.func50) rfl rfl hend) (fun hst x2 own2 w2 m2 C2=>?_) C;rw [Frame.finish_at];clear C;refine zad (O.xc ..) ?_;obtain rfl:=hR0.out;clear hR0;refine zaf (O.xc ..) fun R0 hR0=>?_;have hG:=Pt.rep C2.rep;have og:=hG.sh;have hD:md.D gb=none:=C2.dm O (by rw [og];simp);have ga:=hG.at_;generalize LF.get m2.st=v at *;generalize hmc:κ v m2=mc;replace hmc:=yay hmc;refine O.seg0 C2 zba (zab zah (by kernel_rfl)) rfl (zaa Try.func50) rfl fun wp hp=>?_;have g1:=(zbb hp hD).trans ga;have hc:=zae g1 0;have hf:=zau g1 0;simp only [yac,yaa] at hc;have hw:=zlt gb 0 _ wp hc;replace g1:=yay g1;clear hc hf ga hG;replace hp:=yay hp
 go_wp2_with (go_at_call 104;refine hw.mono ?_;rintro e w' ⟨rfl,rfl⟩)
 refine ⟨hp.out,?_⟩;clear hp hw g1 wp;obtain rfl:=hR0.out;clear hR0;refine zb5 (O.xc ..) ?_;refine zav (O.xc ..) (zaa Try.func50) (C2.st O) ⟨rfl,rfl,rfl,_,Try.func50,results_tmp rfl _ _ _⟩ ?_;obtain rfl:=hmc.out;clear hmc;exact hret.out v _ _ _ _ C2
theorem zu9 (O:md.Ok) (Pt:Part md LF (FAt gb) gb TS) {κ:Bool→Fu (SM S)} (hend:md.End A w₀ c cs) (hret:∀ v,md.F (κ v) A w₀ (G (c.finish (.bool v)) cs)) :
  md.F (zqp LF κ) A w₀ (G (Frame.enter Try.prog 51 #[gpv gb,md.sv] .normal) (c::cs)):=by
 intro x own w m C;unfold gpv;rw [enter_at _ Try.func51 rfl];simp only [Try.ntmps51,yan,yau,yav,Nat.reduceAdd,Nat.reduceSub,yao,
   yap,yaq,yar,yas,yat]
 generalize hmc:zqp LF κ m=mc;replace hmc:=yay hmc;replace hret:=yay hret;refine zaf (O.xc ..) fun R0 hR0=>?_;refine O.seg0 C zba (zab zah (by kernel_rfl)) rfl (zaa Try.func51) rfl fun wp hp=>?_;replace hp:=yay hp
 go_wp2_with fail
 refine ⟨hp.out,?_⟩;clear hp  wp;obtain rfl:=hR0.out;clear hR0;refine zaf (O.xc ..) fun R0 hR0=>?_;refine zaf (O.xc ..) fun R1 hR1=>?_;refine O.seg0 C zba (zab zah (by kernel_rfl)) rfl (zaa Try.func51) rfl fun wp hp=>?_;replace hp:=yay hp
 go_wp2_with fail
 refine ⟨hp.out,?_⟩;clear hp  wp;obtain rfl:=hR1.out;clear hR1;refine zao (O.xc ..) (t:=false) rfl ?_;refine za7 (O.xc ..) ?_;obtain rfl:=hR0.out;clear hR0;refine zaf (O.xc ..) fun R0 hR0=>?_;refine zbc (O.xc ..) 1 (by decide) (by decide) (zai (by kernel_rfl)) (C.st O) fun wp hp=>?_;simp only [yad,yae];replace hp:=yay hp
 go_wp2_with fail
 refine zag hp.out (C.st O).okd ?_;clear hp  wp;refine zal (O.xc ..) rfl rfl (by decide) rfl Try.func108 (by kernel_rfl) (by kernel_rfl) ?_;walk_nrm;obtain rfl:=hmc.out;clear hmc;refine O.cstep (.inr rfl) (O.endUp (zaa Try.func51) rfl rfl hend) (fun hst x2 own2 w2 m2 C2=>?_) C;rw [Frame.finish_at];clear C;refine zad (O.xc ..) ?_;obtain rfl:=hR0.out;clear hR0;refine zaf (O.xc ..) fun R0 hR0=>?_;have hG:=Pt.rep C2.rep;have og:=hG.sh;have hD:md.D gb=none:=C2.dm O (by rw [og];simp);have ga:=hG.at_;generalize hmc:κ (!LF.get m2.st) (m2.with (LF.put true m2.st))=mc;replace hmc:=yay hmc;refine O.segA C2 zba (zab zah (by kernel_rfl)) rfl (zaa Try.func51) rfl fun wp hp=>?_;have g1:=(zbb hp hD).trans ga;have hc:=zae g1 0;have hf:=zau g1 0;simp only [yac,yaa] at hc;have hw:=zpy gb 0 _ true wp hc hf;replace g1:=yay g1;replace hp:=yay hp;replace ga:=yay ga;clear hc hf hG
 go_wp2_with (go_at_call 116;refine hw.mono ?_;rintro e w' ⟨rfl,rfl⟩)
 refine fun w3 q1 q2 q3=>?_;have k3:∀ b,b≠gb→w3.heap[b]?=w2.heap[b]?:=fun b hb=>q2 b (Below.heap_setCell _ _ _ _ hb);have s3:w3.heap.size=w2.heap.size:=by rw [q3];simp [World.setCell,hp.out.heap,za2]
 have e3:w3.heap[gb]?=some (.cells #[.int .u32 (bit true)] 107 (0,0)):=(q1 gb hD).trans (zaz g1.out 0 _);clear q1 q2 q3 hw g1 hp wp;obtain ⟨C3,F3⟩:=Pt.flag O C2 s3 k3 e3;refine O.rebase .refl F3 ?_;obtain rfl:=hR0.out;clear hR0;refine zb5 (O.xc ..) ?_;refine zav (O.xc ..) (zaa Try.func51) (C3.st O) ⟨rfl,rfl,rfl,_,Try.func51,results_tmp rfl _ _ _⟩ ?_;obtain rfl:=hmc.out;exact hret.out _ _ _ _ _ C3
theorem zqr (O:md.Ok) (Pt:Part md LF (FAt gb) gb TS) {κ:Bool→Fu (SM S)} (hend:md.End A w₀ c cs) (hret:∀ v,md.F (κ v) A w₀ (G (c.finish (.bool v)) cs)) :
  md.F (zhw LF κ) A w₀ (G (Frame.enter Try.prog 52 #[gpv gb,md.sv] .normal) (c::cs)):=by
 intro x own w m C;unfold gpv;rw [enter_at _ Try.func52 rfl];simp only [Try.ntmps52,yan,yau,yav,Nat.reduceAdd,Nat.reduceSub,yao,
   yap,yaq,yar,yas,yat]
 generalize hmc:zhw LF κ m=mc;replace hmc:=yay hmc;replace hret:=yay hret;refine zaf (O.xc ..) fun R0 hR0=>?_;refine O.seg0 C zba (zab zah (by kernel_rfl)) rfl (zaa Try.func52) rfl fun wp hp=>?_;replace hp:=yay hp
 go_wp2_with fail
 refine ⟨hp.out,?_⟩;clear hp  wp;obtain rfl:=hR0.out;clear hR0;refine zaf (O.xc ..) fun R0 hR0=>?_;refine zaf (O.xc ..) fun R1 hR1=>?_;refine O.seg0 C zba (zab zah (by kernel_rfl)) rfl (zaa Try.func52) rfl fun wp hp=>?_;replace hp:=yay hp
 go_wp2_with fail
 refine ⟨hp.out,?_⟩;clear hp  wp;obtain rfl:=hR1.out;clear hR1;refine zao (O.xc ..) (t:=false) rfl ?_;refine za7 (O.xc ..) ?_;obtain rfl:=hR0.out;clear hR0;refine zaf (O.xc ..) fun R0 hR0=>?_;refine zbc (O.xc ..) 1 (by decide) (by decide) (zai (by kernel_rfl)) (C.st O) fun wp hp=>?_;simp only [yad,yae];replace hp:=yay hp
 go_wp2_with fail
 refine zag hp.out (C.st O).okd ?_;clear hp  wp;refine zal (O.xc ..) rfl rfl (by decide) rfl Try.func108 (by kernel_rfl) (by kernel_rfl) ?_;walk_nrm;obtain rfl:=hmc.out;clear hmc;refine O.cstep (.inr rfl) (O.endUp (zaa Try.func52) rfl rfl hend) (fun hst x2 own2 w2 m2 C2=>?_) C;rw [Frame.finish_at];clear C;refine zad (O.xc ..) ?_;obtain rfl:=hR0.out;clear hR0;refine zaf (O.xc ..) fun R0 hR0=>?_;have hG:=Pt.rep C2.rep;have og:=hG.sh;have hD:md.D gb=none:=C2.dm O (by rw [og];simp);have ga:=hG.at_;generalize hmc:κ (LF.get m2.st) (m2.with (LF.put false m2.st))=mc;replace hmc:=yay hmc;refine O.segA C2 zba (zab zah (by kernel_rfl)) rfl (zaa Try.func52) rfl fun wp hp=>?_;have g1:=(zbb hp hD).trans ga;have hc:=zae g1 0;have hf:=zau g1 0;simp only [yac,yaa] at hc;have hw:=zpy gb 0 _ false wp hc hf;replace g1:=yay g1;replace hp:=yay hp;replace ga:=yay ga;clear hc hf hG
 go_wp2_with (go_at_call 116;refine hw.mono ?_;rintro e w' ⟨rfl,rfl⟩)
 refine fun w3 q1 q2 q3=>?_;have k3:∀ b,b≠gb→w3.heap[b]?=w2.heap[b]?:=fun b hb=>q2 b (Below.heap_setCell _ _ _ _ hb);have s3:w3.heap.size=w2.heap.size:=by rw [q3];simp [World.setCell,hp.out.heap,za2]
 have e3:w3.heap[gb]?=some (.cells #[.int .u32 (bit false)] 107 (0,0)):=(q1 gb hD).trans (zaz g1.out 0 _);clear q1 q2 q3 hw g1 hp wp;obtain ⟨C3,F3⟩:=Pt.flag O C2 s3 k3 e3;refine O.rebase .refl F3 ?_;obtain rfl:=hR0.out;clear hR0;refine zb5 (O.xc ..) ?_;refine zav (O.xc ..) (zaa Try.func52) (C3.st O) ⟨rfl,rfl,rfl,_,Try.func52,results_tmp rfl _ _ _⟩ ?_;obtain rfl:=hmc.out;exact hret.out _ _ _ _ _ C3
end
end Go.Proofs.Ytofacoojpgkbiaa
