/-
  Merged out of: Calm. No condition of its own.
-/
import Derived.Test.YtofacoojpgkbiaaPlaysP00
set_option linter.unusedVariables false
set_option maxHeartbeats 8000000
set_option linter.unusedSimpArgs false
/-
 Calm code: each step of a goroutine that goes through it is its own,whoever has called,wherever the tape stands. No condition of its own.
-/
namespace Go.Proofs.Ytofacoojpgkbiaa
open Go.Conc
def OpOk (C:FuncId→Prop):Next→Prop
 | .value _=>True
 | .skip=>True
 | .enter f _=>C f
 | _=>False
structure zde (z:Bool) (P:Program) (C:FuncId→Prop) (o:Oper):Prop where
 nodefer:∀ c,o.op ≠ .defer c
 tame:∀ fr:Frame,zd1 z P (OpOk C) (execOp fr.eval o)
def zb3 (z:Bool) (P:Program) (C:FuncId→Prop):Code→Prop
 | .skip | .label _ | .ret | .exit _=>True
 | .seq a b=>zb3 z P C a∧zb3 z P C b
 | .cond _ a b=>zb3 z P C a∧zb3 z P C b
 | .block _ c=>zb3 z P C c
 | .loop c=>zb3 z P C c
 | .region _ ops _=>∀ o∈ops,zde z P C o
 | _=>False
def CalmItem (z:Bool) (P:Program) (C:FuncId→Prop):Item→Prop
 | .code c=>zb3 z P C c
 | .inBlock _=>True
 | .inLoop c=>zb3 z P C c
 | .inRegion ops _=>∀ o∈ops,zde z P C o
 | _=>False
def zbu (z:Bool) (P:Program) (f:FuncId):Prop:=∃ fn,P.funcs[f]?=some fn∧∀ tmps,zd1 z P (fun _=>True) (results fn tmps)
structure CalmF (z:Bool) (P:Program) (C:FuncId→Prop) (fr:Frame):Prop where
 kind:fr.kind = .normal
 round:fr.roundOf=none
 defers:fr.defers=[]
 todo:∀ it∈fr.todo,CalmItem z P C it
 res:zbu z P fr.fn
structure CalmFn (z:Bool) (P:Program) (C:FuncId→Prop) (f:FuncId):Prop where
 body:∃ fn c,P.funcs[f]?=some fn∧fn.body=some c∧zb3 z P C c
 res:zbu z P f
structure CalmS (z:Bool) (P:Program) (C:FuncId→Prop) (s:Frame×List Frame):Prop where
 top:CalmF z P C s.1
 low:∀ f∈s.2,CalmF z P C f∧f.todo≠[]
def kk (k:List Item):List Frame→List Item
 | []=>k
 | _::_=>[]
def more (fr:Frame) (x:List Item):Frame:={ fr with todo:=fr.todo++x }
def lo (k:List Item):List Frame→List Frame
 | []=>[]
 | c::r=>more c (kk k r)::lo k r
def GK (fr:Frame) (frs:List Frame) (k:List Item) (cs:List Frame):Goroutine:=G (more fr (kk k frs)) (lo k frs++cs)
inductive Way where
 | fn
 | seg
def Al:Way→List Item→Prop
 | .fn,k=>k=[]
 | .seg,_=>True
def Fin (y:Way) (s:Frame×List Frame):Prop:=s.2=[]∧(s.1.mode ≠ .run∨(y = .seg∧(s.1.todo=[]∨∃ id tl,s.1.todo = .code (.exit id)::tl∧exitTo id tl=none)))
def out {β:Type} (Fn:β→Frame×List Frame) (Fp:Option (Value→Frame×List Frame)) (sn:Array Event→Array Event) (E:List Item→List Frame→Halt→World→Array Event→GStep) (k:List Item) (cs:List Frame):Result β×Array Event→GStep
 | (.ok b w',es) => .go (GK (Fn b).1 (Fn b).2 k cs) w' (sn es)
 | (.halt h w',es)=>match h,Fp with
  | .panic v,some Fp => .go (GK (Fp v).1 (Fp v).2 k cs) w' (sn es)
  | h,_=>E k cs h w' es
structure Form (y:Way) (z:Bool) (P:Program) (C:FuncId→Prop) (fr:Frame) (frs:List Frame) {β:Type} (V:β→Prop) (s:Sem β) (Fn:β→Frame×List Frame) (Fp:Option (Value→Frame×List Frame)) (sn:Array Event→Array Event) (E:List Item→List Frame→Halt→World→Array Event→GStep):Prop where
 tame:zd1 z P V s
 seen:∀ es e,e∈sn es→e∈es
 next:∀ b,V b→CalmS z P C (Fn b)
 pan:∀ F,Fp=some F→∀ v,CalmS z P C (F v)
 bad:∀ k cs h w es,soft h→(Fp=none∨∀ v,h ≠ .panic v)→∃ o w' es',E k cs h w es = .ended o w' es'
 eq:∀ w k cs main,Al y k→(∀ a w',(s.runT P w #[]).1 = .ok a w'→V a)→(∀ h w',(s.runT P w #[]).1 = .halt h w'→soft h)→stepG P main (GK fr frs k cs) w=out Fn Fp sn E k cs (s.runT P w #[])
def HasForm (y:Way) (z:Bool) (P:Program) (C:FuncId→Prop) (fr:Frame) (frs:List Frame):Prop:=∃ (β:Type) (V:β→Prop) (s:Sem β) (Fn:β→Frame×List Frame) (Fp:Option (Value→Frame×List Frame)) (sn:Array Event→Array Event) (E:List Item→List Frame→Halt→World→Array Event→GStep),Form y z P C fr frs V s Fn Fp sn E
section
variable {y:Way} {z:Bool} {P:Program} {C:FuncId→Prop} {fr:Frame} {frs:List Frame}
theorem form_go (fr':Frame) (frs':List Frame) (hs:CalmS z P C (fr',frs')) (h:∀ w k cs main,Al y k→stepG P main (GK fr frs k cs) w = .go (GK fr' frs' k cs) w #[]):HasForm y z P C fr frs :=
 ⟨Unit,fun _=>True,.pure (),fun _=>(fr',frs'),none,id,fun _ _ _ w _ => .ended (.stuck "" "") w #[],⟨trivial,fun _ _ h=>h,fun _ _=>hs,(fun _ e=>by cases e),fun _ _ _ w _ _ _=>⟨_,_,_,rfl⟩,fun w k cs main ha _ _=>by rw [h _ _ _ _ ha];rfl⟩⟩
theorem form_end (h0:CalmS z P C (fr,frs)) (o:List Item→Outcome) (h:∀ w k cs main,Al y k→stepG P main (GK fr frs k cs) w = .ended (o k) w #[]):HasForm y z P C fr frs :=
 ⟨Unit,fun _=>True,.halt (.stuck ""),fun _=>(fr,frs),none,id,fun k _ _ w _ => .ended (o k) w #[],⟨trivial,fun _ _ h=>h,fun _ _=>h0,(fun _ e=>by cases e),fun _ _ _ w _ _ _=>⟨_,_,_,rfl⟩,fun w k cs main ha _ _=>by rw [h _ _ _ _ ha];rfl⟩⟩
theorem exitTo_app {id:Nat} {x:List Item}:∀ {k k':List Item},exitTo id k=some k'→exitTo id (k++x)=some (k'++x)
 | [],k',h=>by cases h
 | y::k,k',h=>by
  cases y with
  | inBlock id' =>
   simp only [exitTo,List.cons_append] at h ⊢
   split at h
   ·
    rename_i hh
    cases h
    rw [if_pos hh]
   ·
    rename_i hh
    rw [if_neg hh]
    exact exitTo_app h
  | _=>exact exitTo_app (k:=k) h
theorem exitTo_mem {id:Nat}:∀ {k k':List Item},exitTo id k=some k'→∀ it∈k',it∈k
 | [],k',h=>by cases h
 | x::k,k',h=>by
  have key:exitTo id k=some k'→∀ it∈k',it∈x::k:=fun h it hit=>List.mem_cons_of_mem _ (exitTo_mem h it hit)
  cases x with
  | inBlock id' =>
   simp only [exitTo] at h
   split at h
   ·
    cases h
    exact fun it hit=>List.mem_cons_of_mem _ hit
   ·
    exact key h
  | _=>exact key h
theorem calm_to (h:CalmF z P C fr) (todo:List Item) (ht:∀ it∈todo,CalmItem z P C it):CalmF z P C { fr with todo }:=⟨h.kind,h.round,h.defers,ht,h.res⟩
theorem calm_mode (h:CalmF z P C fr) (m:FrameMode):CalmF z P C { fr with mode:=m }:=⟨h.kind,h.round,h.defers,h.todo,h.res⟩
theorem finish_fn (fr:Frame) (v:Value):(fr.finish v).fn=fr.fn∧(fr.finish v).kind=fr.kind∧(fr.finish v).roundOf=fr.roundOf∧(fr.finish v).defers=fr.defers:=by
 unfold Frame.finish
 split<;>exact ⟨rfl,rfl,rfl,rfl⟩
theorem catches_false (h:zbu z P fr.fn):fr.catches P=false:=by
 obtain ⟨fn,h1,_⟩:=h
 unfold Frame.catches
 rw [h1]
theorem calm_finish (h:CalmF z P C fr) (v:Value):CalmF z P C (fr.finish v):=by
 obtain ⟨e1,e2,e3,e4⟩:=finish_fn fr v
 refine ⟨by rw [e2];exact h.kind,by rw [e3];exact h.round,by rw [e4];exact h.defers,fun it hit => ?_,by rw [e1];exact h.res⟩
 have ht:=h.todo
 unfold Frame.finish at hit
 split at hit
 ·
  rename_i ops i rest k heq
  rw [heq] at ht
  simp only [List.mem_cons] at hit ht
  rcases hit with rfl | hit
  ·
   exact ht (.inRegion ops (i::rest)) (.inl rfl)
  ·
   exact ht it (.inr hit)
 ·
  rename_i l k heq
  exact (ht (.inRangeFunc l) (by rw [heq];exact .head _)).elim
 ·
  rename_i k heq
  exact (ht .beginRound (by rw [heq];exact .head _)).elim
 ·
  rename_i a b c d k heq
  exact (ht (.call a b c d) (by rw [heq];exact .head _)).elim
 ·
  rename_i a b k heq
  exact (ht (.extern a b) (by rw [heq];exact .head _)).elim
 ·
  exact ht it hit
theorem calm_raise (h:CalmF z P C fr) (c:List PanicEntry):CalmF z P C (fr.raise c):=by
 unfold Frame.raise
 split<;>exact calm_mode h _
theorem calm_enter {f:FuncId} (h:CalmFn z P C f) (args:Array Value):CalmF z P C (Frame.enter P f args .normal):=by
 obtain ⟨fn,c,h1,h2,h3⟩:=h.body
 refine ⟨rfl,rfl,rfl,fun it hit => ?_,h.res⟩
 simp only [Frame.enter,h1,h2,Option.bind_some,Option.getD_some,List.mem_singleton] at hit
 subst hit
 exact h3
theorem finish_more {c:Frame} (h:c.todo≠[]) (x:List Item) (v:Value):(more c x).finish v=more (c.finish v) x:=by
 obtain ⟨fn,tmps,todo,defers,mode,kind,ro⟩:=c
 cases todo with
 | nil=>exact absurd rfl h
 | cons it tl =>
  cases it with
  | inRegion ops l=>cases l<;>rfl
  | _=>rfl
theorem raise_more {c:Frame} (x:List Item) (l:List PanicEntry):(more c x).raise l=more (c.raise l) x:=by
 obtain ⟨fn,tmps,todo,defers,mode,kind,ro⟩:=c
 cases mode<;>rfl
theorem zdv (c:Frame):more c []=c:=by
 obtain ⟨fn,tmps,todo,defers,mode,kind,ro⟩:=c
 simp [more]
theorem za9 (h:fr.mode = .run) (cs:List Frame) (main:Bool) (w:World):stepG P main (G fr cs) w=stepG.exec P main true fr cs none w:=by
 obtain ⟨a,b,c,d,e,f,g⟩:=fr
 simp only at h
 subst h
 rfl
theorem zbh (h:fr.mode ≠ .run) (cs:List Frame) (main:Bool) (w:World):stepG P main (G fr cs) w=unwind P main fr cs none w:=by
 obtain ⟨a,b,c,d,e,f,g⟩:=fr
 simp only at h
 cases e<;>first | exact absurd rfl h | rfl
theorem seen_ev {fn:FuncId} (es:Array Event) (h:∀ e∈es,evF e):∀ e∈seen P fn es,evF e:=fun e he=>h e (mem_seen he)
theorem form_unwind {c:Frame} (h0:CalmS z P C (fr,c::frs)) (hm:fr.mode ≠ .run):HasForm y z P C fr (c::frs):=by
 have hf:CalmF z P C fr:=h0.top
 have hc:CalmF z P C c:=(h0.low c (.head _)).1
 have hcn:c.todo≠[]:=(h0.low c (.head _)).2
 have hr:∀ f∈frs,CalmF z P C f∧f.todo≠[]:=fun f hf=>h0.low f (.tail _ hf)
 obtain ⟨fn,hfn,hres⟩:=hf.res
 have hGK:∀ k cs,GK fr (c::frs) k cs=G fr (more c (kk k frs)::(lo k frs++cs)):=fun k cs=>by
  unfold GK
  rw [show kk k (c::frs)=[] from rfl,zdv]
  rfl
 cases hmode:fr.mode with
 | run=>exact absurd hmode hm
 | panicking chain =>
  refine form_go (c.raise chain) frs ⟨calm_raise hc _,hr⟩ fun w k cs main _ => ?_
  rw [hGK,zbh hm]
  unfold unwind
  rw [hf.defers]
  simp only [hmode]
  rw [catches_false hf.res,raise_more]
  rfl
 | returning =>
  refine ⟨Value,fun _=>True,results fn fr.tmps,fun v=>(c.finish v,frs),none,seen P fr.fn,fun _ _ h w es=>match h with
   | .stuck s=>GStep.after (seen P fr.fn es) (.ended (.stuck s (fr.pos P)) w)
   | _=>GStep.after (seen P fr.fn es) (.ended (.stuck "return: the result variables cannot be read" (fr.pos P)) w),⟨hres _,fun es e h=>mem_seen h,fun v _=>⟨calm_finish hc v,hr⟩,(fun _ e=>by cases e),fun _ _ h w es _ _=>by cases h<;>exact ⟨_,_,_,rfl⟩,fun w k cs main _ _ _ => ?_⟩⟩
  rw [hGK,zbh hm]
  unfold unwind
  rw [hf.defers]
  simp only [hmode,hfn]
  rcases hx:(results fn fr.tmps).runT P w #[] with ⟨r,es⟩
  cases r with
  | ok v w' =>
   have hk:=hf.kind
   simp only [out,doReturn,hk,GK,G]
   rw [finish_more hcn]
   simp [GStep.after]
  | halt h w'=>cases h<;>simp [out]
theorem form_run (hE:∀ (fr:Frame) (cs:List Frame) (dy:Option Dying) (g:Nat) (w:World),∃ o w' es,early P fr cs dy g w = .ended o w' es) (hC:∀ f,C f→CalmFn z P C f) (h0:CalmS z P C (fr,frs)) (hm:fr.mode = .run) (hl:¬ Fin y (fr,frs)):HasForm y z P C fr frs:=by
 have hf:CalmF z P C fr:=h0.top
 have hr:∀ f∈frs,CalmF z P C f∧f.todo≠[]:=h0.low
 have hmm:∀ x,(more fr x).mode = .run:=fun _=>hm
 have hmo:∀ x,(more fr x).todo=fr.todo++x:=fun _=>rfl
 have hmr:∀ x,(more fr x).roundOf=fr.roundOf:=fun _=>rfl
 have ht:=hf.todo
 have hro:=hf.round
 have hki:=hf.kind
 have key:∀ (todo:List Item),(∀ it∈todo,CalmItem z P C it)→(∀ w k cs main,Al y k→stepG P main (GK fr frs k cs) w = .go (GK { fr with todo } frs k cs) w #[])→HasForm y z P C fr frs:=fun todo h1 h2=>form_go { fr with todo } frs ⟨calm_to hf todo h1,hr⟩ h2
 cases hto:fr.todo with
 | nil =>
  cases frs with
  | nil =>
   cases y with
   | seg=>exact absurd ⟨rfl,.inr ⟨rfl,.inl hto⟩⟩ hl
   | fn =>
    refine form_go { fr with mode := .returning } [] ⟨calm_mode hf _,hr⟩ fun w k' cs main hal => ?_
    have hal':k'=[]:=hal
    subst hal'
    unfold GK
    rw [za9 (hmm _)]
    unfold stepG.exec
    simp only [hmo,hto,List.nil_append,hmr,hro,show kk [] []=[] from rfl]
    rfl
  | cons c r =>
   refine form_go { fr with mode := .returning } (c::r) ⟨calm_mode hf _,hr⟩ fun w k' cs main hal => ?_
   unfold GK
   rw [za9 (hmm _)]
   unfold stepG.exec
   simp only [hmo,hto,List.nil_append,hmr,hro,show kk k' (c::r)=[] from rfl]
   rfl
 | cons it k =>
  rw [hto] at ht
  have hit:=ht it (.head _)
  have hk:∀ it∈k,CalmItem z P C it:=fun x hx=>ht x (.tail _ hx)
  cases it with
  | inBlock id =>
   refine key k hk fun w k' cs main hal => ?_
   unfold GK
   rw [za9 (hmm _)]
   unfold stepG.exec
   simp only [hmo,hto,List.cons_append,List.nil_append]
   rfl
  | inLoop body =>
   refine key (.code body :: .inLoop body::k) (fun x hx => ?_) fun w k' cs main hal => ?_
   ·
    simp only [List.mem_cons] at hx
    rcases hx with rfl | rfl | hx
    ·
     exact hit
    ·
     exact hit
    ·
     exact hk x hx
   ·
    unfold GK
    rw [za9 (hmm _)]
    unfold stepG.exec
    simp only [hmo,hto,List.cons_append,List.nil_append]
    rfl
  | inScope body=>exact hit.elim
  | inRangeFunc l=>exact hit.elim
  | endRangeFunc l=>exact hit.elim
  | beginRound=>exact hit.elim
  | call d a b c=>exact hit.elim
  | extern a b=>exact hit.elim
  | code c =>
   cases c with
   | skip =>
    refine key k hk fun w k' cs main hal => ?_
    unfold GK
    rw [za9 (hmm _)]
    unfold stepG.exec
    simp only [hmo,hto,List.cons_append,List.nil_append]
    rfl
   | label l =>
    refine key k hk fun w k' cs main hal => ?_
    unfold GK
    rw [za9 (hmm _)]
    unfold stepG.exec
    simp only [hmo,hto,List.cons_append,List.nil_append]
    rfl
   | ret =>
    refine form_go { fr with mode := .returning } frs ⟨calm_mode hf _,hr⟩ fun w k' cs main hal => ?_
    unfold GK
    rw [za9 (hmm _)]
    unfold stepG.exec
    simp only [hmo,hto,List.cons_append,List.nil_append,hmr,hro]
    rfl
   | seq a b =>
    refine key (.code a :: .code b::k) (fun x hx => ?_) fun w k' cs main hal => ?_
    ·
     simp only [List.mem_cons] at hx
     rcases hx with rfl | rfl | hx
     ·
      exact hit.1
     ·
      exact hit.2
     ·
      exact hk x hx
    ·
     unfold GK
     rw [za9 (hmm _)]
     unfold stepG.exec
     simp only [hmo,hto,List.cons_append,List.nil_append]
     rfl
   | cond x a b =>
    by_cases hb:∃ t,fr.eval x = .bool t
    ·
     obtain ⟨t,hb⟩:=hb
     refine key (.code (if t then a else b)::k) (fun y hx => ?_) fun w k' cs main hal => ?_
     ·
      simp only [List.mem_cons] at hx
      rcases hx with rfl | hx
      ·
       cases t
       ·
        exact hit.2
       ·
        exact hit.1
      ·
       exact hk y hx
     ·
      unfold GK
      rw [za9 (hmm _)]
      unfold stepG.exec
      simp only [hmo,hto,List.cons_append,List.nil_append,show ∀ y,(more fr y).eval x=fr.eval x from fun _=>rfl,hb]
      rfl
    ·
     refine form_end h0 (fun k' => .stuck "cond: bool expected" ((more fr (kk k' frs)).pos P)) fun w k' cs main hal => ?_
     unfold GK
     rw [za9 (hmm _)]
     unfold stepG.exec
     simp only [hmo,hto,List.cons_append,List.nil_append]
     rw [show ∀ y,(more fr y).eval x=fr.eval x from fun _=>rfl]
     cases hv:fr.eval x<;>first | rfl | exact absurd ⟨_,hv⟩ hb
   | block id body =>
    refine key (.code body :: .inBlock id::k) (fun x hx => ?_) fun w k' cs main hal => ?_
    ·
     simp only [List.mem_cons] at hx
     rcases hx with rfl | rfl | hx
     ·
      exact hit
     ·
      exact trivial
     ·
      exact hk x hx
    ·
     unfold GK
     rw [za9 (hmm _)]
     unfold stepG.exec
     simp only [hmo,hto,List.cons_append,List.nil_append]
     rfl
   | loop body =>
    refine key (.code body :: .inLoop body::k) (fun x hx => ?_) fun w k' cs main hal => ?_
    ·
     simp only [List.mem_cons] at hx
     rcases hx with rfl | rfl | hx
     ·
      exact hit
     ·
      exact hit
     ·
      exact hk x hx
    ·
     unfold GK
     rw [za9 (hmm _)]
     unfold stepG.exec
     simp only [hmo,hto,List.cons_append,List.nil_append]
     rfl
   | exit id =>
    cases hx:exitTo id k with
    | some k' =>
     refine key k' (fun y hy=>hk y (exitTo_mem hx y hy)) fun w k' cs main hal => ?_
     unfold GK
     rw [za9 (hmm _)]
     unfold stepG.exec
     simp only [hmo,hto,List.cons_append,List.nil_append,exitTo_app hx]
     rfl
    | none =>
     cases frs with
     | nil =>
      cases y with
      | seg=>exact absurd ⟨rfl,.inr ⟨rfl,.inr ⟨id,k,hto,hx⟩⟩⟩ hl
      | fn =>
       refine form_end h0 (fun _ => .stuck "exit, goto: no such block or label" (fr.pos P)) fun w k' cs main hal => ?_
       have hal':k'=[]:=hal
       subst hal'
       unfold GK
       rw [za9 (hmm _)]
       unfold stepG.exec
       simp only [hmo,hto,List.cons_append,List.append_nil,hx,hmr,hro,show kk [] []=[] from rfl,zdv]
       rfl
     | cons c r =>
      refine form_end h0 (fun _ => .stuck "exit, goto: no such block or label" (fr.pos P)) fun w k' cs main hal => ?_
      unfold GK
      rw [za9 (hmm _)]
      unfold stepG.exec
      simp only [hmo,hto,List.cons_append,List.append_nil,hx,hmr,hro,show kk k' (c::r)=[] from rfl,zdv]
      rfl
   | goto l=>exact hit.elim
   | scope b=>exact hit.elim
   | refuse w=>exact hit.elim
   | rangeFunc a b c d=>exact hit.elim
   | region id ops draw =>
    cases draw with
    | false =>
     refine key (.inRegion ops (List.range ops.size)::k) (fun x hx => ?_) fun w k' cs main hal => ?_
     ·
      simp only [List.mem_cons] at hx
      rcases hx with rfl | hx
      ·
       exact hit
      ·
       exact hk x hx
     ·
      unfold GK
      rw [za9 (hmm _)]
      unfold stepG.exec
      simp only [hmo,hto,List.cons_append,List.nil_append]
      rfl
    | true =>
     refine ⟨Nat,fun _=>True,choose (.order fr.fn id),fun t=>({ fr with todo := .inRegion ops (Region.schedule (P.follows .mixedOrders) ops t)::k },frs),none,(fun es=>es),fun k' _ h w _ => .ended (.stuck "order" ((more fr (kk k' frs)).pos P)) w,⟨fun _=>trivial,fun _ _ h=>h,fun t _=>⟨calm_to hf _ (fun x hx => ?_),hr⟩,(fun _ e=>by cases e),fun _ _ _ _ _ _ _=>⟨_,_,_,rfl⟩,fun w k' cs main _ _ _ => ?_⟩⟩
     ·
      simp only [List.mem_cons] at hx
      rcases hx with rfl | hx
      ·
       exact hit
      ·
       exact hk x hx
     ·
      unfold GK
      rw [za9 (hmm _)]
      unfold stepG.exec
      simp only [hmo,hto,List.cons_append,List.nil_append]
      rfl
  | inRegion ops l =>
   cases l with
   | nil =>
    refine key k hk fun w k' cs main hal => ?_
    unfold GK
    rw [za9 (hmm _)]
    unfold stepG.exec
    simp only [hmo,hto,List.cons_append,List.nil_append]
    rfl
   | cons i rest =>
    by_cases hw:((ops[i]?).map (Region.wanted · (yielded ops fr.tmps))).getD false=true
    ·
     obtain ⟨o,ho⟩:∃ o,ops[i]?=some o:=by
      cases h:ops[i]? with
      | none=>rw [h] at hw;cases hw
      | some o=>exact ⟨o,rfl⟩
     have hop:zde z P C o:=hit o (Array.mem_of_getElem? ho)
     have hoper:∀ x,(more fr x).oper?=some o:=fun x=>by simp [Frame.oper?,more,hto,ho]
     have hne:fr.todo≠[]:=by rw [hto];simp
     refine ⟨Next,OpOk C,execOp fr.eval o,fun b=>match b with
      | .value v=>(fr.finish v,frs)
      | .skip=>(fr.finish undef,frs)
      | .enter f args=>(Frame.enter P f args .normal,fr::frs)
      | _=>(fr,frs),some (fun v=>(fr.raise [{ v,recovered:=false }],frs)),seen P fr.fn,fun k' cs h w es=>match h with
      | .unsupported (.initOrder g)=>GStep.after (seen P fr.fn #[]) (early P (more fr (kk k' frs)) (lo k' frs++cs) none g w)
      | .unsupported u=>GStep.after (seen P fr.fn es) (.ended (.unsupported u ((more fr (kk k' frs)).pos P)) w)
      | .stuck s=>GStep.after (seen P fr.fn es) (.ended (.stuck s ((more fr (kk k' frs)).pos P)) w)
      | _ => .ended (.stuck "" "") w,⟨hop.tame fr,fun es e h=>mem_seen h,fun b hb => ?_,fun F e v=>by cases e;exact ⟨calm_raise hf _,hr⟩,fun k' cs h w es hs hn => ?_,fun w k' cs main _ h1 h2 => ?_⟩⟩
     ·
      cases b with
      | value v=>exact ⟨calm_finish hf v,hr⟩
      | skip=>exact ⟨calm_finish hf _,hr⟩
      | enter f args=>exact ⟨calm_enter (hC f hb) args,fun x hx=>by
        simp only [List.mem_cons] at hx
        rcases hx with rfl | hx
        ·
         exact ⟨hf,hne⟩
        ·
         exact hr x hx⟩
      | _=>exact hb.elim
     ·
      cases h with
      | unsupported u =>
       cases u with
       | initOrder g =>
        obtain ⟨o',w',es',he⟩:=hE (more fr (kk k' frs)) (lo k' frs++cs) none g w
        exact ⟨o',w',_,by simp only [he];rfl⟩
       | _=>exact ⟨_,_,_,rfl⟩
      | stuck s=>exact ⟨_,_,_,rfl⟩
      | panic v=>exact (hn.elim (fun e=>by cases e) (fun e=>(e v rfl).elim))
      | _=>exact hs.elim
     ·
      unfold GK
      rw [za9 (hmm _)]
      unfold stepG.exec
      have hw':((ops[i]?).map (Region.wanted · (yielded ops (more fr (kk k' frs)).tmps))).getD false=true:=hw
      simp only [hmo,hto,List.cons_append,hw',if_true]
      unfold stepG.oper
      simp only [hoper,hmr,hro]
      have hkm:(more fr (kk k' frs)).kind = .normal:=hki
      have hev:(more fr (kk k' frs)).eval=fr.eval:=rfl
      have hfn:(more fr (kk k' frs)).fn=fr.fn:=rfl
      unfold stepG.apply
      simp only [hmo,hto,List.cons_append,if_true,hkm,hev,hfn]
      rcases hx:(execOp fr.eval o).runT P w #[] with ⟨r,es⟩
      rw [hx] at h1 h2
      cases r with
      | ok b w' =>
       have hb:=h1 b w' rfl
       cases b with
       | value v =>
        simp only [out,GK,finish_more hne]
        simp [GStep.after,G]
       | skip =>
        simp only [out,GK,finish_more hne]
        simp [GStep.after,G]
       | enter f args =>
        simp only [out,GK]
        simp [GStep.after,G,kk,lo,zdv]
       | _=>exact hb.elim
      | halt h w' =>
       have hs:=h2 h w' rfl
       cases h with
       | panic v =>
        simp only [out,GK,raise_more]
        simp [GStep.after,G]
       | stuck s=>simp [out,GStep.after,G]
       | unsupported u=>cases u<;>simp [out,GStep.after,G]
       | _=>exact hs.elim
    ·
     refine form_go (fr.finish undef) frs ⟨calm_finish hf _,hr⟩ fun w k' cs main hal => ?_
     have hne:fr.todo≠[]:=by rw [hto];simp
     unfold GK
     rw [za9 (hmm _)]
     unfold stepG.exec
     have hw':¬ ((ops[i]?).map (Region.wanted · (yielded ops (more fr (kk k' frs)).tmps))).getD false=true:=hw
     simp only [hmo,hto,List.cons_append,hw',if_false,Bool.false_eq_true,finish_more hne]
     rfl
end
end Go.Proofs.Ytofacoojpgkbiaa
