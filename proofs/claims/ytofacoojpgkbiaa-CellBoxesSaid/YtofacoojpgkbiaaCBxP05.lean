/-
  A part of a proof. No condition of its own.
-/
import Derived.Test.YtofacoojpgkbiaaCBxPZ
import Derived.Test.YtofacoojpgkbiaaRows
import Derived.WalkKit
set_option linter.unusedVariables false
set_option maxHeartbeats 8000000
set_option linter.unusedSimpArgs false
namespace Go.Proofs.Ytofacoojpgkbiaa
open Go.RowKit
def zng (w:World) (x:Value) (m:Nat) (news:List Value):Prop :=
 news.length=m∧(∀ u∈news,u.oneCell'=true)∧((x = .slice none 0 0∧m=0)∨∃ ad c,x = .slice (some ad) m c∧∀ j u,news[j]?=some u→w.cell? (ad.add j)=some u)
def zdp (w:World) (base e:Nat) (v:Value) (n m:Nat) (ys:List Value) (v':Value) (w':World):Prop :=
 w'.ownsRow base e 1 v' (n+m) ys∧w.grownBy w' v.ownBlock ∧
  ((v' = .slice none 0 0∧v = .slice none 0 0∧m=0∧n=0)∨∃ g cap,v' = .slice (some ⟨g,0,none⟩) (n+m) cap∧n+m≤cap∧(v.ownBlock=some g∨w.heap.size≤g))
theorem zce {P:Program} (w:World) (base:Nat) (t ty e:TypeId) (i:TypeInfo) (z:Value) (bytes:Nat) (ht:P.underlying t=some (.slice e)) (hi:P.info? e=some i) (hz:i.zero=some z)
  (hsize:i.size=1) (hby:i.bytes=bytes) (hzs:z.cells.size=1) (v:Value) (n:Nat) (xs:List Value) (hown:w.ownsRow base e 1 v n xs) (x:Value) (m:Nat) (news:List Value) (hx:zng w x m news)
  (h63:n+m≤maxLen) (hbytes:(n+m) * bytes≤140737488355328) (hbase:base≤w.heap.size) :
  ∃ v' w',(Builtin.append_ #[t,t] ty #[v,x]).run P w = .ok v' w'∧zdp w base e v n m (xs++news) v' w':=by
 obtain ⟨hl,h1,hx⟩:=hx;rcases hx with ⟨rfl,rfl⟩|⟨ad,c,rfl,hnews⟩
 ·have hn:news=[]:=List.eq_nil_of_length_eq_zero hl;subst hn;refine ⟨v,w,run_append_owned_none (P:=P) (w:=w) base t ty e i 1 ht hi v n xs hown,by simpa using hown,⟨rfl,rfl,rfl,yax _,fun _ _ _=>rfl⟩,?_⟩;rcases hown.2 with ⟨rfl,rfl⟩|⟨g,cap,cur,rfl,hb,hg,hc,_⟩
  ·exact .inl ⟨rfl,rfl,rfl,rfl⟩
  ·exact .inr ⟨g,cap,rfl,hc,.inl rfl⟩
 ·subst hby
  have hsmall:n+m≤9223372036854775807:=by simp only [maxLen] at h63;omega
  have hl':news.length=m * i.size:=by rw [hl,hsize,Nat.mul_one]
  have hxl:xs.length=n:=by have:=hown.1;omega
  have grown:∀ (old:Nat),old < n+m→∀ (row:Option Nat),
    (w.drew.alloc (.cells (xs.toArray++news.toArray++Builtin.zeroCells z.cells (grownCap w (n+m) old e - (n+m))) e)).ownsRow base e 1
     (.slice (some ⟨w.heap.size,0,none⟩) (n+m) (grownCap w (n+m) old e)) (n+m) (xs++news) ∧
    w.grownBy (w.drew.alloc (.cells (xs.toArray++news.toArray++Builtin.zeroCells z.cells (grownCap w (n+m) old e - (n+m))) e)) row∧n+m≤grownCap w (n+m) old e:=by
   intro old ho row;have hge:=grownCap_ge w (n+m) old e;have hcm:grownCap w (n+m) old e≤maxLen:=grownCap_le_maxLen w (n+m) old e h63;refine ⟨⟨by simp [hxl,hl],.inr ⟨w.heap.size,_,_,rfl,hbase,heap_alloc_new w.drew _,hge,hcm,?_,?_⟩⟩,⟨rfl,rfl,rfl,by simp,fun k hk _=>Below.heap_alloc w.drew _ k hk⟩,hge⟩
   ·simp only [Array.size_append,yan,size_zeroCells,hzs,hxl,hl];omega
   ·simp only [Array.toList_append,List.append_assoc];rw [← List.append_assoc,show (n+m) * 1=(xs++news).length by simp [hxl,hl]];exact List.take_left
  rcases hown.2 with ⟨rfl,rfl⟩|⟨g,cap,cur,rfl,hbg,hg,hnc,hcm,hcs,htake⟩
  ·have hx0:xs=[]:=List.eq_nil_of_length_eq_zero hxl;subst hx0;by_cases hm:m=0
   ·subst hm;have hn:news=[]:=List.eq_nil_of_length_eq_zero hl;subst hn;refine ⟨.slice none 0 0,w,?_,World.ownsRow_nil w base e 1,⟨rfl,rfl,rfl,yax _,fun _ _ _=>rfl⟩,.inl ⟨rfl,rfl,rfl,rfl⟩⟩;simp [Builtin.append_,run_underlying ht,sizeOf,typeInfo,hi,Builtin.lenOf,Builtin.firstCells,loadCells,loadCellsFrom]
   ·have hr:=run_append_nil (P:=P) w t ty e i z ht hi hz ad m c news hl' hnews (by omega) (by omega) (by have hb:=hbytes;simp only [Nat.zero_add] at hb;omega);have hgr:=grown 0 (by omega) (Value.ownBlock (.slice none 0 0));simp only [Nat.zero_add,yas,Array.empty_append] at hgr ⊢;exact ⟨_,_,hr,by rw [Nat.zero_add];exact hgr.1,hgr.2.1,.inr ⟨w.heap.size,grownCap w m 0 e,by rw [Nat.zero_add],by rw [Nat.zero_add];exact hgr.2.2,.inr (yax _)⟩⟩
  ·by_cases hroom:n+m≤cap
   ·have hfit:n * i.size+news.length≤cur.size:=by rw [hl,hcs,hsize];omega
    have hr:=run_append_room (P:=P) w t ty e i ht hi g n cap cur hg ad m c news hl' hnews h1 hroom hfit;refine ⟨_,_,hr,⟨by simp [hxl,hl],.inr ⟨g,cap,_,rfl,hbg,setRow_heap w g cur _ e _ hg,hroom,hcm,?_,?_⟩⟩,⟨rfl,rfl,rfl,by simp,fun k _ hk=>setRow_other w g k _ (fun e=>hk (by simp [Value.ownBlock,e]))⟩,.inr ⟨g,cap,rfl,hroom,.inl rfl⟩⟩
    ·simp only [yan,List.length_append,List.length_take,List.length_drop,Array.length_toList,hsize,hl];omega
    ·rw [hsize,htake,show (n+m) * 1=(xs++news).length by simp [hxl,hl]];exact List.take_left
   ·have holds:∀ j u,xs[j]?=some u→w.cell? ((⟨g,0,none⟩:Addr).add j)=some u:=hown.cells (g:=g) rfl;have hr:=run_append_grow (P:=P) w t ty e i z ht hi hz ⟨g,0,none⟩ n cap xs (by rw [hxl,hsize,Nat.mul_one]) holds ad m c news hl' hnews (by omega) (by omega) (growslice_fits (by omega) hbytes);have hgr:=grown cap (by omega) (Value.ownBlock (.slice (some ⟨g,0,none⟩) n cap));exact ⟨_,_,hr,hgr.1,hgr.2.1,.inr ⟨w.heap.size,_,rfl,hgr.2.2,.inr (yax _)⟩⟩
theorem zdb {P:Program} {w:World} {ops:Array Oper} {rest:List Oper} {o:Oper} {a:Act} {Q:Exit→Act→World→Prop} (hgd:o.guard=none) (s x:Operand) (t:TypeId)
  (ho:o.op = .call { callee := .builtin .append,args:=#[s,x],argTypes:=#[t,t] })
  (base:Nat) (e:TypeId) (i:TypeInfo) (z:Value) (bytes:Nat) (ht:P.underlying t=some (.slice e)) (hi:P.info? e=some i) (hz:i.zero=some z)
  (hsize:i.size=1) (hby:i.bytes=bytes) (hzs:z.cells.size=1)
  (v:Value) (n:Nat) (xs:List Value) (hs:a.eval s=v) (hown:w.ownsRow base e 1 v n xs) (m:Nat) (news:List Value) (hx:zng w (a.eval x) m news)
  (h63:n+m≤maxLen) (hbytes:(n+m) * bytes≤140737488355328) (hbase:base≤w.heap.size)
  (h:∀ v' w',zdp w base e v n m (xs++news) v' w'→wpList P ops Q rest (a.put o.dst v') w'):wpList P ops Q (o::rest) a w:=by
 refine wpList_plain hgd fun _ hK=>?_;obtain ⟨v',w',hr,h2⟩:=zce (P:=P) w base t o.type e i z bytes ht hi hz hsize hby hzs v n xs hown (a.eval x) m news hx h63 hbytes hbase;unfold Oper.wp execOp;simp only [ho,resolve,invoke,builtin,Sem.run_bind,Sem.run_pure,Result.andThen_ok,List.map_toArray,List.map_cons,List.map_nil,hs,hr];exact hK _ _ (h v' w' h2)
def SrcN (w:World) (x:Value) (m:Nat) (news:List Value):Prop :=
 news.length=m * 3∧(∀ u∈news,u.oneCell'=true)∧((x = .slice none 0 0∧m=0)∨∃ ad c,x = .slice (some ad) m c∧∀ j u,news[j]?=some u→w.cell? (ad.add j)=some u)
def ztz (w:World) (base e:Nat) (v:Value) (n m:Nat) (ys:List Value) (v':Value) (w':World):Prop :=
 w'.ownsRow base e 3 v' (n+m) ys∧w.grownBy w' v.ownBlock ∧
  ((v' = .slice none 0 0∧v = .slice none 0 0∧m=0∧n=0)∨∃ g cap,v' = .slice (some ⟨g,0,none⟩) (n+m) cap∧n+m≤cap∧(v.ownBlock=some g∨w.heap.size≤g))
theorem zje {P:Program} (w:World) (base:Nat) (t ty e:TypeId) (i:TypeInfo) (z:Value) (bytes:Nat) (ht:P.underlying t=some (.slice e)) (hi:P.info? e=some i) (hz:i.zero=some z)
  (hsize:i.size=3) (hby:i.bytes=bytes) (hzs:z.cells.size=3) (v:Value) (n:Nat) (xs:List Value) (hown:w.ownsRow base e 3 v n xs) (x:Value) (m:Nat) (news:List Value) (hx:SrcN w x m news)
  (h63:n+m≤maxLen) (hbytes:(n+m) * bytes≤140737488355328) (hbase:base≤w.heap.size) :
  ∃ v' w',(Builtin.append_ #[t,t] ty #[v,x]).run P w = .ok v' w'∧ztz w base e v n m (xs++news) v' w':=by
 obtain ⟨hl,h1,hx⟩:=hx;rcases hx with ⟨rfl,rfl⟩|⟨ad,c,rfl,hnews⟩
 ·have hn:news=[]:=List.eq_nil_of_length_eq_zero (by omega);subst hn;refine ⟨v,w,run_append_owned_none (P:=P) (w:=w) base t ty e i 3 ht hi v n xs hown,by simpa using hown,⟨rfl,rfl,rfl,yax _,fun _ _ _=>rfl⟩,?_⟩;rcases hown.2 with ⟨rfl,rfl⟩|⟨g,cap,cur,rfl,hb,hg,hc,_⟩
  ·exact .inl ⟨rfl,rfl,rfl,rfl⟩
  ·exact .inr ⟨g,cap,rfl,hc,.inl rfl⟩
 ·subst hby
  have hsmall:n+m≤9223372036854775807:=by simp only [maxLen] at h63;omega
  have hl':news.length=m * i.size:=by rw [hl,hsize]
  have hxl:xs.length=n * 3:=by have:=hown.1;omega
  have grown:∀ (old:Nat),old < n+m→∀ (row:Option Nat),
    (w.drew.alloc (.cells (xs.toArray++news.toArray++Builtin.zeroCells z.cells (grownCap w (n+m) old e - (n+m))) e)).ownsRow base e 3
     (.slice (some ⟨w.heap.size,0,none⟩) (n+m) (grownCap w (n+m) old e)) (n+m) (xs++news) ∧
    w.grownBy (w.drew.alloc (.cells (xs.toArray++news.toArray++Builtin.zeroCells z.cells (grownCap w (n+m) old e - (n+m))) e)) row∧n+m≤grownCap w (n+m) old e:=by
   intro old ho row;have hge:=grownCap_ge w (n+m) old e;have hcm:grownCap w (n+m) old e≤maxLen:=grownCap_le_maxLen w (n+m) old e h63;refine ⟨⟨by simp [hxl,hl,Nat.add_mul],.inr ⟨w.heap.size,_,_,rfl,hbase,heap_alloc_new w.drew _,hge,hcm,?_,?_⟩⟩,⟨rfl,rfl,rfl,by simp,fun k hk _=>Below.heap_alloc w.drew _ k hk⟩,hge⟩
   ·simp only [Array.size_append,yan,size_zeroCells,hzs,hxl,hl];omega
   ·simp only [Array.toList_append,List.append_assoc];rw [← List.append_assoc,show (n+m) * 3=(xs++news).length by simp [hxl,hl,Nat.add_mul]];exact List.take_left
  rcases hown.2 with ⟨rfl,rfl⟩|⟨g,cap,cur,rfl,hbg,hg,hnc,hcm,hcs,htake⟩
  ·have hx0:xs=[]:=List.eq_nil_of_length_eq_zero (by omega);subst hx0;by_cases hm:m=0
   ·subst hm;have hn:news=[]:=List.eq_nil_of_length_eq_zero (by omega);subst hn;refine ⟨.slice none 0 0,w,?_,World.ownsRow_nil w base e 3,⟨rfl,rfl,rfl,yax _,fun _ _ _=>rfl⟩,.inl ⟨rfl,rfl,rfl,rfl⟩⟩;simp [Builtin.append_,run_underlying ht,sizeOf,typeInfo,hi,Builtin.lenOf,Builtin.firstCells,loadCells,loadCellsFrom]
   ·have hr:=run_append_nil (P:=P) w t ty e i z ht hi hz ad m c news hl' hnews (by omega) (by omega) (by have hb:=hbytes;simp only [Nat.zero_add] at hb;omega);have hgr:=grown 0 (by omega) (Value.ownBlock (.slice none 0 0));simp only [Nat.zero_add,yas,Array.empty_append] at hgr ⊢;exact ⟨_,_,hr,by rw [Nat.zero_add];exact hgr.1,hgr.2.1,.inr ⟨w.heap.size,grownCap w m 0 e,by rw [Nat.zero_add],by rw [Nat.zero_add];exact hgr.2.2,.inr (yax _)⟩⟩
  ·by_cases hroom:n+m≤cap
   ·have hfit:n * i.size+news.length≤cur.size:=by rw [hl,hcs,hsize];omega
    have hr:=run_append_room (P:=P) w t ty e i ht hi g n cap cur hg ad m c news hl' hnews h1 hroom hfit;refine ⟨_,_,hr,⟨by simp [hxl,hl,Nat.add_mul],.inr ⟨g,cap,_,rfl,hbg,setRow_heap w g cur _ e _ hg,hroom,hcm,?_,?_⟩⟩,⟨rfl,rfl,rfl,by simp,fun k _ hk=>setRow_other w g k _ (fun e=>hk (by simp [Value.ownBlock,e]))⟩,.inr ⟨g,cap,rfl,hroom,.inl rfl⟩⟩
    ·simp only [yan,List.length_append,List.length_take,List.length_drop,Array.length_toList,hsize,hl];omega
    ·rw [hsize,htake,show (n+m) * 3=(xs++news).length by simp [hxl,hl,Nat.add_mul]];exact List.take_left
   ·have holds:∀ j u,xs[j]?=some u→w.cell? ((⟨g,0,none⟩:Addr).add j)=some u:=hown.cells (g:=g) rfl;have hr:=run_append_grow (P:=P) w t ty e i z ht hi hz ⟨g,0,none⟩ n cap xs (by rw [hxl,hsize]) holds ad m c news hl' hnews (by omega) (by omega) (growslice_fits (by omega) hbytes);have hgr:=grown cap (by omega) (Value.ownBlock (.slice (some ⟨g,0,none⟩) n cap));exact ⟨_,_,hr,hgr.1,hgr.2.1,.inr ⟨w.heap.size,_,rfl,hgr.2.2,.inr (yax _)⟩⟩
end Go.Proofs.Ytofacoojpgkbiaa
