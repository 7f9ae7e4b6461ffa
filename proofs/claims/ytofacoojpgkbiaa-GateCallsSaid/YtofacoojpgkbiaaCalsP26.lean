/-
  A part of a proof. No condition of its own.
-/
import Derived.Test.YtofacoojpgkbiaaCalsP24
import Derived.Test.YtofacoojpgkbiaaCalsP21
import Derived.Deep.DeepCutAuto
set_option linter.unusedVariables false
set_option maxHeartbeats 8000000
set_option linter.unusedSimpArgs false
namespace Go.Proofs.Ytofacoojpgkbiaa
open Go.Conc Go.RowKit
open Go.ConcN (upd upd_ne upd_same)
set_option maxRecDepth 100000
theorem zke {v:Value} {l:List Int} {p:Int} {w:World} (hv:IntsAt w v l) (hl:l.length≤1000000000) :
  Calls Try.prog 177 #[v,.int .i64 p] w fun e w'=>e = .returned (.bool (decide (p∈l)))∧Below w.heap.size w w':=by
 obtain ⟨pa,ca,rfl,qa⟩:=hv;have H0:=yay (Below.refl w.heap.size w);generalize hN:w.heap.size=N at *;replace hN:=yay hN;go_enter Try.func177,Try.ntmps177
 go_wp2_with fail
 go_loopw [5] (fun iv wr=>∃ j:Nat,j≤l.length∧iv = .int .i64 j∧Hid (∀ k,k < j→l[k]?≠some p)∧Hid (Below N w wr)) (fun iv _=>l.length - (intOf iv).toNat)
 case atStart=>exact ⟨0,by omega,rfl,yay (fun k hk=>by omega),H0⟩
 case round =>
  obtain ⟨j,hj,rfl,HP,HB⟩:=hrel;by_cases hlt:j < l.length
  ·have hlt':(j:Int) < (l.length:Int):=by omega
   have hne:l≠[]:=fun z=>by rw [z] at hlt;simp at hlt
   obtain ⟨ba,oa,rfl,ka⟩:=qa hne;have hx:=List.getElem?_eq_getElem hlt;have k1:=ka j _ hx;generalize l[j]=x at *;have k1:wr.cell? ⟨ba,oa+j,none⟩=some (.int .i64 x):=zax (w:=w) (fun b hb=>HB.out.block b (by rw [← hN.out];exact hb)) k1;have e2:IntKind.i64.wrap ((j:Int)+1)=((j+1:Nat):Int):=by rw [IntKind.wrap_i64];omega
   clear ka qa;by_cases hxp:x=p
   ·subst hxp;have hm:decide (x∈l)=true:=decide_eq_true (List.mem_of_getElem? hx);replace hm:=yay hm;clear hx
    go_wp2_with fail
    go_ret
    exact ⟨by rw [hm.out];rfl,HB.out⟩
   ·have hb:(x==p)=false:=by simpa using hxp
    replace hx:=yay hx;replace hxp:=yay hxp
    go_wp2_with fail
    refine ⟨⟨j+1,by omega,by rw [Int.natCast_add];rfl,yay fun k hk=>?_,HB⟩,by simp [intOf];omega⟩;by_cases e:k < j
    ·exact HP.out k e
    ·obtain rfl:k=j:=by omega
     rw [hx.out];intro z;exact hxp.out (yaw z)
  ·obtain rfl:j=l.length:=by omega
   have hm:decide (p∈l)=false:=decide_eq_false fun z=>by
    obtain ⟨k,hk,e⟩:=List.getElem_of_mem z;exact HP.out k hk (by rw [List.getElem?_eq_getElem hk,e])
   replace hm:=yay hm
   go_wp2_with fail
   go_ret
   exact ⟨by rw [hm.out];rfl,HB.out⟩
def zdz (least q size:Int):Bool:=decide (q < wrap64 (q - (if size < 1 then 1 else size))) || decide (wrap64 (q - (if size < 1 then 1 else size))≤least)
theorem zd5 {least q size:Int} (w:World):Calls Try.prog 191 #[.int .i64 least,.int .i64 q,.int .i64 size] w fun e w'=>e = .returned (.bool (zdz least q size))∧w'=w:=by
 unfold zdz;by_cases h1:size < 1
 ·rw [if_pos h1];generalize hd:wrap64 (q - 1)=d;have hw:IntKind.i64.wrap (q - 1)=d:=by rw [IntKind.wrap_i64];unfold wrap64 at hd;exact hd
  have d1:decide (size < 1)=true:=decide_eq_true h1;by_cases h2:q < d
  ·have d2:decide (q < d)=true:=decide_eq_true h2;rw [d2];go_enter Try.func191,Try.ntmps191
   go_wp2_with fail
   go_ret
   exact ⟨rfl,rfl⟩
  ·have d2:decide (q < d)=false:=decide_eq_false h2;rw [d2];go_enter Try.func191,Try.ntmps191
   go_wp2_with fail
   go_ret
   exact ⟨rfl,rfl⟩
 ·rw [if_neg h1];generalize hd:wrap64 (q - size)=d;have hw:IntKind.i64.wrap (q - size)=d:=by rw [IntKind.wrap_i64];unfold wrap64 at hd;exact hd
  have d1:decide (size < 1)=false:=decide_eq_false h1;by_cases h2:q < d
  ·have d2:decide (q < d)=true:=decide_eq_true h2;rw [d2];go_enter Try.func191,Try.ntmps191
   go_wp2_with fail
   go_ret
   exact ⟨rfl,rfl⟩
  ·have d2:decide (q < d)=false:=decide_eq_false h2;rw [d2];go_enter Try.func191,Try.ntmps191
   go_wp2_with fail
   go_ret
   exact ⟨rfl,rfl⟩
def zca (l:List Int) (p:Int):List Int:=l.filter fun x => !(x==p)
theorem znc (l:List Int) (p x:Int):zca (l++[x]) p=if x=p then zca l p else zca l p++[x]:=by
 unfold zca;rw [List.filter_append];by_cases h:x=p
 ·subst h;simp
 ·simp [h]
theorem zon {v:Value} {l:List Int} {p:Int} {w:World} (hv:IntsAt w v l) (hl:l.length≤1000000000) :
  Calls Try.prog 179 #[v,.int .i64 p] w fun e w'=>∃ v',e = .returned v'∧w'.ownsRow w.heap.size 2 1 v' (zca l p).length (zaw (zca l p))∧Below w.heap.size w w':=by
 obtain ⟨i1,hi1,hz1,hz11,hz12⟩:=info_parts zij;obtain ⟨pa,ca,rfl,qa⟩:=hv;replace qa:=yay qa;generalize hN:w.heap.size=N at *;replace hN:=yay hN;go_enter Try.func179,Try.ntmps179
 go_wp2_with fail
 go_loopw [5,6] (fun va iv wr=>∃ (j:Nat),j≤l.length∧iv = .int .i64 j∧Hid (wr.ownsRow N 2 1 va (zca (l.take j) p).length (zaw (zca (l.take j) p)))∧Hid (Below N w wr)) (fun _ iv _=>l.length - (intOf iv).toNat)
 case atStart=>exact ⟨0,by omega,rfl,yay (World.ownsRow_nil _ _ _ _),yay (Below.refl _ _)⟩
 case round =>
  obtain ⟨j,hj,rfl,HS,HB⟩:=hrel;obtain ⟨vp,vcc,e0⟩:=zbg HS.out;have hk9:(zca (l.take j) p).length≤1000000000:=by
   unfold zca;have:=List.length_filter_le (fun x => !(x==p)) (l.take j);rw [List.length_take] at this;omega
  generalize hr:zca (l.take j) p=rr at *;obtain ⟨m,hm⟩:∃ m,rr.length=m:=⟨_,rfl⟩;rw [hm] at HS hk9 e0;subst e0;replace hm:=yay hm;replace hr:=yay hr;by_cases hlt2:j < l.length
  ·have hlt':(j:Int) < (l.length:Int):=by omega
   obtain ⟨x,hx⟩:∃ x,l[j]?=some x:=⟨_,List.getElem?_eq_getElem hlt2⟩;obtain ⟨b,off,hva,hcl⟩:=qa.out (by intro z;rw [z] at hx;simp at hx);have q0:=hcl j x hx;have hb:=World.block_lt_of_cell? w _ q0;have q1:wr.cell? ⟨b,off+j,none⟩=some (.int .i64 x):=(World.cell?_of_block (w:=w) (HB.out.block _ (by rw [← hN.out];exact hb))).trans q0;have hsz:=yay (hN.out▸HB.out.size);have HSx:=yay (zfw wr x 2);have HO1:=yay (HS.out.alloc (.cells #[.int .i64 x] 2));have HBa:=yay (HB.out.alloc (by have:=hsz.out;omega) (.cells #[.int .i64 x] 2));have htk:zca (l.take (j+1)) p=if x=p then rr else rr++[x]:=by
    rw [List.take_add_one,hx];show zca (l.take j++[x]) p=_;rw [znc,hr.out]
   replace htk:=yay htk;have e1:IntKind.i64.wrap ((j:Int)+1)=((j+1:Nat):Int):=by rw [IntKind.wrap_i64];omega
   clear hx hb hcl q0;subst hva;by_cases hxp:x=p
   ·have hbq:(x != p)=false:=by simp [hxp]
    replace hxp:=yay hxp
    go_wp2_with fail
    refine ⟨⟨j+1,by omega,by rw [Int.natCast_add];rfl,?_,HB⟩,by simp [intOf];omega⟩;rw [htk.out,if_pos hxp.out,hm.out];exact HS
   ·have hbq:(x != p)=true:=by simp [hxp]
    replace hxp:=yay hxp
    go_wp2_with (at_builtin;(refine zas rfl (.tmp 19) (.tmp 24) 22 rfl N 2 i1 _ _ Try.underlying22 hi1 hz1 hz11 hz12 rfl (.slice vp m vcc) m _ rfl HO1.out 1 _ HSx.out ?l2 ?b2 ?n2 ?_);(case l2=>(unfold maxLen;omega));(case b2=>omega);(case n2=>(have h1:=hsz.out;simp;omega));intro v' w1 ha;obtain ⟨ho,hg,hsh⟩:=ha;have HH:=yay ho;have HB2:=yay (zbu HO1.out HBa.out (by have h1:=hsz.out;simp;omega) hg);clear ho hg hsh)
    refine ⟨⟨j+1,by omega,by rw [Int.natCast_add];rfl,?_,HB2⟩,by simp [intOf];omega⟩;rw [htk.out,if_neg hxp.out,List.length_append,hm.out,zd4];exact HH
  ·obtain rfl:j=l.length:=by omega
   have hfull:zca l p=rr:=by rw [← hr.out,List.take_of_length_le (yax _)]
   go_wp2_with fail
   go_ret
   refine ⟨_,rfl,?_,HB.out⟩;rw [hfull,hm.out];exact HS.out
end Go.Proofs.Ytofacoojpgkbiaa
