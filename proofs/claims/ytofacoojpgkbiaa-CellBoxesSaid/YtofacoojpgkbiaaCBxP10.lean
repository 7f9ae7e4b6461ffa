/-
  A part of a proof. No condition of its own.
-/
import Derived.Test.YtofacoojpgkbiaaCBxP04
import Derived.Test.YtofacoojpgkbiaaCBxP09
import Derived.Test.YtofacoojpgkbiaaCBxP05
import Derived.Deep.RegionHeld3
set_option linter.unusedVariables false
set_option maxHeartbeats 8000000
set_option linter.unusedSimpArgs false
namespace Go.Proofs.Ytofacoojpgkbiaa
open Go.Conc Go.RowKit
open Go.ConcN (upd upd_ne upd_same sumTo)
set_option maxRecDepth 100000
section
variable {z:Bool} {P:Program} {Z:Machine→Trace→Prop} {C:FuncId→Prop} {b:Frame} {a:Act} {k:List Item} {cs:List Frame} {w:World}
theorem zaf {main:Bool} {K:World→Prop} {Still:Loc→Prop} {Inb:Nat→Option Seat} {GO:Goroutine→World→Prop} (X:XC P main K Still Inb GO) {x y:Code} (h:∀ R,RowKit.Hid (R=Item.code y::k)→GO (G (b.at a (.code x::R)) cs) w):GO (G (b.at a (.code (.seq x y)::k)) cs) w:=zl0 X (h _ (yay rfl))
theorem zbg (hP:Prg z P C) {c:Code} (hc:zby z P C c) (hk:b.kind = .normal) (hres:zbr z P b.fn) (hd:a.defers=[]) (h:∀ wp,Sim wp w→c.wp P (fun e a' w'=>e = .normal∧∀ w1,Sim w1 w'→RM P Z (G (b.at a' k) cs) w1) a wp):RM P Z (G (b.at a (.code c::k)) cs) w:=by
 refine rm_xc.closed _ _ (fut_seg (Q:=fun e a' w'=>e = .normal∧∀ w1,Sim w1 w'→RM P Z (G (b.at a' k) cs) w1) hP hc hk hres hd (fun a w τ d ⟨h1,h2⟩=>⟨h1,fun w1 ⟨τ',d',e⟩=>h2 w1 ⟨τ',d',by rw [e];rfl⟩⟩) (fun e a w q=>q.1) (fun τ d=>h _ ⟨τ,d,rfl⟩) fun a' w' ⟨_,h2⟩ => .stop (h2 w' (.refl _)))
end
theorem zkv {P:Program} {w:World} {ops:Array Oper} {rest:List Oper} {o:Oper} {a:Act} {Q:Exit→Act→World→Prop} (hgd:o.guard=none) (s x:Operand) (t u:TypeId)
  (ho:o.op = .call { callee := .builtin .min,args:=#[s,x],argTypes:=#[t,u] }) (m n r:Int)
  (hs:a.eval s = .int .i64 m) (hx:a.eval x = .int .i64 n) (hr:min m n=r)
  (h:wpList P ops Q rest (a.put o.dst (.int .i64 r)) w):wpList P ops Q (o::rest) a w:=by
 refine wpList_plain hgd fun _ hK=>?_;unfold Oper.wp execOp;have e:(if n < m then n else m)=r:=by rw [← hr];split<;>omega
 simp [ho,resolve,invoke,builtin,Sem.run_pure,List.map_toArray,List.map_cons,List.map_nil,hs,hx,Builtin.min_,Builtin.min2];rw [e];exact hK _ _ h
theorem wpL_max {P:Program} {w:World} {ops:Array Oper} {rest:List Oper} {o:Oper} {a:Act} {Q:Exit→Act→World→Prop} (hgd:o.guard=none) (s x:Operand) (t u:TypeId)
  (ho:o.op = .call { callee := .builtin .max,args:=#[s,x],argTypes:=#[t,u] }) (m n r:Int)
  (hs:a.eval s = .int .i64 m) (hx:a.eval x = .int .i64 n) (hr:max m n=r)
  (h:wpList P ops Q rest (a.put o.dst (.int .i64 r)) w):wpList P ops Q (o::rest) a w:=by
 refine wpList_plain hgd fun _ hK=>?_;unfold Oper.wp execOp;have e:(if m < n then n else m)=r:=by rw [← hr];split<;>omega
 simp [ho,resolve,invoke,builtin,Sem.run_pure,List.map_toArray,List.map_cons,List.map_nil,hs,hx,Builtin.max_,Builtin.max2];rw [e];exact hK _ _ h
theorem heap_al (w:World) (o:Obj):(w.alloc o).heap=w.heap.push o:=rfl
theorem heap_dr (w:World):w.drew.heap=w.heap:=rfl
theorem zae {w:World} {b:Nat} {c:Array Value} {e:TypeId} (h:w.heap[b]?=some (.cells c e (0,0))) (i:Nat):w.cell? ⟨b,i,none⟩=c[i]?:=zd8 h
theorem zau {w:World} {b:Nat} {c:Array Value} {e:TypeId} (h:w.heap[b]?=some (.cells c e (0,0))) (i:Nat):w.frozen? ⟨b,i,none⟩=false:=by
 unfold World.frozen?;rw [h];simp
theorem zaz {w:World} {b:Nat} {c:Array Value} {e:TypeId} {f:Nat×Nat} (h:w.heap[b]?=some (.cells c e f)) (i:Nat) (v:Value):(w.setCell ⟨b,i,none⟩ v).heap[b]?=some (.cells (c.setIfInBounds i v) e f):=by
 have hlt:b < w.heap.size:=(yah.1 h).1;simp [World.setCell,Array.getElem?_modify,h]
theorem zr6:Prg false Try.prog (·∈calmL):=prg
theorem mk136:((Try.prog.underlying 299).map (fun | .chan _ e=>(Try.prog.info? e).map (·.bytes)|_=>none))=some (some 0):=by kernel_rfl
theorem mk141:((Try.prog.underlying 304).map (fun | .chan _ e=>(Try.prog.info? e).map (·.bytes)|_=>none))=some (some 1):=by kernel_rfl
theorem zsh {P:Program} {t:TypeId} {n:Nat} (h:((P.underlying t).map (fun | .chan _ e=>(P.info? e).map (·.bytes)|_=>none))=some (some n)) (W:World):(Instr.makeChan t (.int .i64 0)).run P W = .ok (.chan (some W.heap.size)) (W.alloc (.chan 0 #[] false 0 0 false)):=by
 cases hu:P.underlying t with
 | none=>rw [hu] at h;cases h
 | some u =>
  rw [hu] at h;cases u with
  | chan dir e =>
   cases hi:P.info? e with
   | none=>simp [hi] at h
   | some i=>exact run_makeChan hu hi .i64 0 (by omega) (by omega)
  | _=>simp at h
theorem info4:(Try.prog.info? 4).map (fun i=>(i.zero,i.size,i.bytes))=some (some (.bool false),1,1):=by kernel_rfl
theorem zuv {n:Nat} (hn:n≤64) (W:World):(Instr.makeSlice 227 (.int .i64 (n:Int)) (.int .i64 (n:Int))).run Try.prog W = .ok (.slice (some ⟨W.heap.size,0,none⟩) n n) (W.alloc (.cells (madeCells #[.bool false] n) 4)):=by
 obtain ⟨i0,hi0,hz0,hz1,hz2⟩:=info_parts info4;have:=run_make (P:=Try.prog) W 227 4 i0 _ Try.underlying227 hi0 hz0 .i64 .i64 (n:Int) (n:Int) (by omega) (by omega) (by rw [hz2];omega) (by omega);rw [hz1,Nat.mul_one] at this
 simpa [Value.cells] using this
set_option maxRecDepth 100000 in
theorem zss (n:Int) (w:World) (hn:n < 9223372036854775808):Calls Try.prog 171 #[.int .i64 n,.int .i64 1048576] w fun e w'=>e = .returned (.int .i64 (min (max n 0) 1048576))∧w'=w:=by
 go_enter Try.func171,Try.ntmps171
 go_wp2_with (first|(refine wpL_max rfl _ _ _ _ rfl n 0 _ rfl rfl rfl ?_)|(refine zkv rfl _ _ _ _ rfl (max n 0) 1048576 _ rfl rfl rfl ?_))
 exact ⟨rfl,_,results_tmp rfl _ _ _,rfl,rfl⟩
def cA:Code→Code
 | .seq a _=>a
 | .block _ c=>c
 | .loop c=>c
 | .cond _ a _=>a
 | c=>c
def cB:Code→Code
 | .seq _ b=>b
 | .cond _ _ b=>b
 | c=>c
def A44 (x:Nat→Value):Act:=⟨#[x 0,x 1,x 2,x 3,x 4,x 5,x 6,x 7,x 8,x 9,x 10,x 11,x 12,x 13,x 14,x 15,x 16,x 17,x 18,x 19,x 20,x 21,x 22,x 23,x 24,x 25,x 26,x 27,x 28,x 29,x 30,x 31,x 32,x 33,x 34,x 35,x 36,x 37,x 38,x 39,x 40,x 41,x 42,x 43,x 44,x 45,x 46,x 47,x 48,x 49,x 50,x 51,x 52,x 53,x 54,x 55,x 56,x 57,x 58,x 59,x 60,x 61,x 62,x 63,x 64,x 65,x 66,x 67,x 68,x 69,x 70,x 71,x 72,x 73,x 74,x 75,x 76,x 77,x 78,x 79,x 80,x 81,x 82,x 83,x 84,x 85,x 86,x 87,x 88,x 89,x 90,x 91,x 92,x 93,x 94,x 95,x 96,x 97,x 98,x 99,x 100,x 101,x 102,x 103,x 104,x 105,x 106,x 107,x 108,x 109,x 110,x 111,x 112,x 113,x 114,x 115,x 116,x 117,x 118,x 119,x 120,x 121,x 122,x 123,x 124,x 125,x 126,x 127,x 128],[]⟩
theorem zc4 (l:Array Value) (hl:l.size=129):(⟨l,[]⟩:Act)=A44 fun j=>l.getD j undef:=by
 have e:∀ x:Nat→Value,(A44 x).tmps=((List.range 129).map x).toArray:=fun x=>rfl;have h1:l=(A44 fun j=>l.getD j undef).tmps:=by
  rw [e];apply Array.ext_getElem?;intro i;by_cases h:i < 129
  ·have h':i < l.size:=by omega
   simp [h,h',List.getElem?_range]
  ·have h':¬ i < l.size:=by omega
   rw [Array.getElem?_eq_none (by omega),Array.getElem?_eq_none (by simp;omega)]
 exact congrArg (Act.mk · []) h1
structure S44 (thr sch:Value) (N bx:Nat) (x:Nat→Value):Prop where
 x0:x 0=thr
 x1:x 1=sch
 x5:x 5 = .pointer (some ⟨N,0,none⟩)
 x6:x 6 = .pointer (some ⟨N+1,0,none⟩)
 x9:x 9 = .pointer (some ⟨N+2,0,none⟩)
 x10:x 10 = .pointer (some ⟨bx,0,none⟩)
noncomputable def c44:Code:=(Try.f136.body).getD .skip
structure Base0 (w0:World) (n:Nat) (M:Int) (bx tu br bk:Nat) (w:World):Prop where
 fm:w.heap[w0.heap.size]?=some (.cells #[.int .i64 M] 3 (0,0))
 fo:w.heap[w0.heap.size+1]?=some (.cells #[.slice none 0 0] 24 (0,0))
 fn:w.heap[w0.heap.size+2]?=some (.cells #[.int .i64 n] 3 (0,0))
 fbx:w.heap[bx]?=some (.cells #[.pointer (some ⟨tu,0,none⟩)] 298 (0,0))
 ftu:w.heap[tu]?=some (.cells #[.chan (some bk),.slice none 0 0,.slice (some ⟨br,0,none⟩) n n] 302 (0,0))
 fbr:w.heap[br]?=some (.cells (madeCells #[.bool false] n) 4 (0,0))
 fbk:w.heap[bk]?=some (.chan 0 #[] false 0 0 false)
 ge:w0.heap.size+3≤bx∧w0.heap.size+3≤tu∧w0.heap.size+3≤br∧w0.heap.size+3≤bk
 low:∀ b,b < w0.heap.size→w.heap[b]?=w0.heap[b]?
 outs:w.os=w0.os∧w.output=w0.output
set_option maxRecDepth 100000 in
theorem over_r3 {Z:Machine→Trace→Prop} {cs:List Frame} {w:World} {ta sa:Option Addr} {nT cT nS cS n:Nat} {most M:Int} (hn:min (nT:Int) 64=n) (hM:min (max most 0) 1048576=M) (hmost:most < 9223372036854775808) 
  (h:∀ (x:Nat→Value) (bx tu br bk:Nat) (w1:World),x 24 = .chan (some bk)→x 26 = .slice (some ⟨br,0,none⟩) n n→x 28 = .pointer (some ⟨tu,0,none⟩)→S44 (.slice ta nT cT) (.slice sa nS cS) w.heap.size bx x→Base0 w n M bx tu br bk w1→RM Try.prog Z (G ((base 136).at (A44 x) [.code (cB (cB (cB (cB c44))))]) cs) w1) :
 RM Try.prog Z (G (Frame.enter Try.prog 136 #[.slice ta nT cT,.slice sa nS cS,.int .i64 most] .normal) cs) w:=by
 have hmk:∀ W,(Instr.makeChan 299 (.int .i64 0)).run Try.prog W = .ok (.chan (some W.heap.size)) (W.alloc (.chan 0 #[] false 0 0 false)):=zsh mk136;have hn64:n≤64:=by omega
 have hms:=zuv hn64;rw [enter_at _ Try.func136 rfl];simp only [Try.ntmps136,yan,yau,yav,Nat.reduceAdd,Nat.reduceSub,yao,
   yap,yaq,yar,yas,yat]
 refine zaf rm_xc fun R0 hR0=>?_;refine zbg zr6 (zab zah (by kernel_rfl)) rfl (zaa Try.func136) rfl fun wp hp=>?_
 go_wp2_with fail
 refine fun w1 h1=>?_;have s0:wp.heap.size=w.heap.size:=by rw [hp.heap]
 have s1:w1.heap.size=w.heap.size+2:=by rw [h1.heap];simp [s0]
 have m1:w1.heap[w.heap.size]?=some (.cells #[.int .i64 most] 3 (0,0)):=by rw [h1.heap,Below.heap_alloc _ _ _ (by simp;omega),← s0];exact heap_alloc_new _ _
 have o1:w1.heap[w.heap.size+1]?=some (.cells #[.slice none 0 0] 24 (0,0)):=by
  have:=heap_alloc_new (wp.alloc (Obj.cells #[Value.int IntKind.i64 most] 3)) (Obj.cells #[Value.slice none 0 0] 24);rw [h1.heap];simpa [s0] using this
 have b1:∀ b,b < w.heap.size→w1.heap[b]?=w.heap[b]?:=fun b hb=>by rw [h1.heap,Below.heap_alloc _ _ _ (by simp;omega),Below.heap_alloc _ _ _ (by omega),hp.heap]
 have u1:w1.os=w.os∧w1.output=w.output:=⟨h1.outs.1.trans hp.outs.1,h1.outs.2.trans hp.outs.2⟩;rw [s0];clear h1 hp s0;obtain rfl:=hR0.out;clear hR0;refine zaf rm_xc fun R1 hR1=>?_;refine zbg zr6 (zab zah (by kernel_rfl)) rfl (zaa Try.func136) rfl fun wp hp=>?_
 go_wp2_with (refine zkv rfl _ _ _ _ rfl nT 64 n rfl rfl hn ?_)
 refine fun w2 h2=>?_;have s0:wp.heap.size=w.heap.size+2:=by rw [hp.heap,s1]
 have s2:w2.heap.size=w.heap.size+3:=by rw [h2.heap];simp [s0]
 have m2:w2.heap[w.heap.size]?=some (.cells #[.int .i64 most] 3 (0,0)):=by rw [h2.heap,Below.heap_alloc _ _ _ (by omega),hp.heap];exact m1
 have o2:w2.heap[w.heap.size+1]?=some (.cells #[.slice none 0 0] 24 (0,0)):=by rw [h2.heap,Below.heap_alloc _ _ _ (by omega),hp.heap];exact o1
 have n2:w2.heap[w.heap.size+2]?=some (.cells #[.int .i64 n] 3 (0,0)):=by rw [h2.heap,← s0];exact heap_alloc_new _ _
 have b2:∀ b,b < w.heap.size→w2.heap[b]?=w.heap[b]?:=fun b hb=>by rw [h2.heap,Below.heap_alloc _ _ _ (by omega),hp.heap];exact b1 b hb
 have u2:w2.os=w.os∧w2.output=w.output:=⟨(h2.outs.1.trans hp.outs.1).trans u1.1,(h2.outs.2.trans hp.outs.2).trans u1.2⟩;rw [s0];clear h2 hp s0 s1 m1 o1 b1 u1;obtain rfl:=hR1.out;clear hR1;refine zaf rm_xc fun R2 hR2=>?_;refine zbg zr6 (zab zah (by kernel_rfl)) rfl (zaa Try.func136) rfl fun wp hp=>?_;have c1:wp.cell? ⟨w.heap.size,0,none⟩=some (.int .i64 most):=zae (by rw [hp.heap];exact m2) 0;have c2:wp.frozen? ⟨w.heap.size,0,none⟩=false:=zau (by rw [hp.heap];exact m2) 0
 go_wp2_with (refine (zss most _ hmost).mono ?_;rintro e w' ⟨rfl,ew⟩;rw [ew];clear ew w')
 refine fun w3 h3=>?_;have s0:wp.heap.size=w.heap.size+3:=by rw [hp.heap,s2]
 have s3:w3.heap.size=w.heap.size+3:=by rw [h3.heap];simp [World.setCell,s0]
 have m3:w3.heap[w.heap.size]?=some (.cells #[.int .i64 M] 3 (0,0)):=by rw [h3.heap];exact zaz (by rw [hp.heap];exact m2) 0 _
 have o3:w3.heap[w.heap.size+1]?=some (.cells #[.slice none 0 0] 24 (0,0)):=by rw [h3.heap,Below.heap_setCell _ _ _ _ (by simp),hp.heap];exact o2
 have n3:w3.heap[w.heap.size+2]?=some (.cells #[.int .i64 n] 3 (0,0)):=by rw [h3.heap,Below.heap_setCell _ _ _ _ (by simp),hp.heap];exact n2
 have b3:∀ b,b < w.heap.size→w3.heap[b]?=w.heap[b]?:=fun b hb=>by rw [h3.heap,Below.heap_setCell _ _ _ _ (by simp;omega),hp.heap];exact b2 b hb
 have u3:w3.os=w.os∧w3.output=w.output:=⟨(h3.outs.1.trans hp.outs.1).trans u2.1,(h3.outs.2.trans hp.outs.2).trans u2.2⟩;clear h3 hp s0 s2 m2 o2 b2 n2 c1 c2 u2;obtain rfl:=hR2.out;clear hR2;refine zaf rm_xc fun R3 hR3=>?_;refine zbg zr6 (zab zah (by kernel_rfl)) rfl (zaa Try.func136) rfl fun wp hp=>?_;have c1:wp.cell? ⟨w.heap.size+2,0,none⟩=some (.int .i64 n):=zae (by rw [hp.heap];exact n3) 0;have s4:wp.heap.size=w.heap.size+3:=by rw [hp.heap,s3]
 have hne:wp.heap.size≠w.heap.size+2:=by omega
 clear hn hM hmost;have fm:=m3;have fo:=o3;have fn:=n3;rw [← hp.heap] at fm fo fn;have fb:∀ b,b < w.heap.size→wp.heap[b]?=w.heap[b]?:=fun b hb=>by rw [hp.heap];exact b3 b hb
 have u4:Hid (wp.os=w.os∧wp.output=w.output):=yay ⟨hp.outs.1.trans u3.1,hp.outs.2.trans u3.2⟩;clear m3 o3 n3 b3 s3 hp u3;replace fm:=yay fm;replace fo:=yay fo;replace fn:=yay fn;replace fb:=yay fb;go_region
 all_goals refine ⟨rfl,fun w1 h1=>?_⟩
 all_goals (obtain rfl:=hR3.out;clear hR3)
 all_goals rw [zc4 _ rfl]
 all_goals
  have u5:w1.os=w.os∧w1.output=w.output:=⟨h1.outs.1.trans u4.out.1,h1.outs.2.trans u4.out.2⟩;replace h1:=h1.heap;simp only [heap_al,heap_dr] at h1;refine h _ _ _ _ _ w1 rfl rfl rfl ⟨rfl,rfl,rfl,rfl,rfl,rfl⟩ ⟨?_,?_,?_,?_,?_,?_,?_,?_,?_,u5⟩
  ·rw [h1];refine Eq.trans ?_ fm.out;simp only [Array.getElem?_push,Array.size_push,s4];rw [if_neg (by omega),if_neg (by omega),if_neg (by omega),if_neg (by omega)]
  ·rw [h1];refine Eq.trans ?_ fo.out;simp only [Array.getElem?_push,Array.size_push,s4];rw [if_neg (by omega),if_neg (by omega),if_neg (by omega),if_neg (by omega)]
  ·rw [h1];refine Eq.trans ?_ fn.out;simp only [Array.getElem?_push,Array.size_push,s4];rw [if_neg (by omega),if_neg (by omega),if_neg (by omega),if_neg (by omega)]
  ·rw [h1];simp only [Array.getElem?_push,Array.size_push,s4]
   repeat (first|rw [if_pos trivial]|rw [if_pos (by omega)]|rw [if_neg (by omega)])
  ·rw [h1];simp only [Array.getElem?_push,Array.size_push,s4]
   repeat (first|rw [if_pos trivial]|rw [if_pos (by omega)]|rw [if_neg (by omega)])
  ·rw [h1];simp only [Array.getElem?_push,Array.size_push,s4]
   repeat (first|rw [if_pos trivial]|rw [if_pos (by omega)]|rw [if_neg (by omega)])
  ·rw [h1];simp only [Array.getElem?_push,Array.size_push,s4]
   repeat (first|rw [if_pos trivial]|rw [if_pos (by omega)]|rw [if_neg (by omega)])
  ·omega
  ·intro b hb;rw [h1];refine Eq.trans ?_ (fb.out b hb);simp only [Array.getElem?_push,Array.size_push,s4];rw [if_neg (by omega),if_neg (by omega),if_neg (by omega),if_neg (by omega)]
theorem zas {P:Program} {b:Frame} {a:Act} {k:List Item} {cs:List Frame} {w:World} {main:Bool} {K:World→Prop} {Still:Loc→Prop} {Inb:Nat→Option Seat} {GO:Goroutine→World→Prop} (X:XC P main K Still Inb GO) {c:Code} (hc:c = .seq (cA c) (cB c))
  (h:∀ R,RowKit.Hid (R=Item.code (cB c)::k)→GO (G (b.at a (.code (cA c)::R)) cs) w):GO (G (b.at a (.code c::k)) cs) w:=by
 rw [hc];exact zl0 X (h _ (yay rfl))
structure Stands (w0:World) (n:Nat) (M:Int) (bx tu br bk k:Nat) (st ps:Nat→Nat) (v:Value) (w:World):Prop where
 fm:w.heap[w0.heap.size]?=some (.cells #[.int .i64 M] 3 (0,0))
 fo:w.heap[w0.heap.size+1]?=some (.cells #[.slice none 0 0] 24 (0,0))
 fn:w.heap[w0.heap.size+2]?=some (.cells #[.int .i64 n] 3 (0,0))
 fbx:w.heap[bx]?=some (.cells #[.pointer (some ⟨tu,0,none⟩)] 298 (0,0))
 ftu:w.heap[tu]?=some (.cells #[.chan (some bk),v,.slice (some ⟨br,0,none⟩) n n] 302 (0,0))
 fbr:w.heap[br]?=some (.cells (madeCells #[.bool false] n) 4 (0,0))
 fbk:w.heap[bk]?=some (.chan 0 #[] false 0 0 false)
 ge:w0.heap.size+3≤bx∧w0.heap.size+3≤tu∧w0.heap.size+3≤br∧w0.heap.size+3≤bk
 low:∀ b,b < w0.heap.size→w.heap[b]?=w0.heap[b]?
 row:w.ownsRow (w0.heap.size+3) 303 1 v k ((List.range k).map fun i=>Value.pointer (some ⟨st i,0,none⟩))
 sts:∀ i,i < k→w.heap[st i]?=some (.cells #[.pointer (some ⟨tu,0,none⟩),.chan (some (ps i)),.bool false] 306 (0,0))
 psc:∀ i,i < k→w.heap[ps i]?=some (.chan 0 #[] false 0 0 false)
 injS:∀ i j,i < k→j < k→st i=st j→i=j
 injP:∀ i j,i < k→j < k→ps i=ps j→i=j
 pb:∀ i,i < k→ps i≠bk
 ges:∀ i,i < k→w0.heap.size+3≤st i∧w0.heap.size+3≤ps i
 sz:w0.heap.size+3≤w.heap.size
 outs:w.os=w0.os∧w.output=w0.output
section
variable {w0 w w1:World} {n bx tu br bk k:Nat} {M:Int} {st ps:Nat→Nat} {v v':Value}
theorem Stands.base (h:Base0 w0 n M bx tu br bk w):Stands w0 n M bx tu br bk 0 (fun _=>0) (fun _=>0) (.slice none 0 0) w :=
 ⟨h.fm,h.fo,h.fn,h.fbx,h.ftu,h.fbr,h.fbk,h.ge,h.low,World.ownsRow_nil _ _ _ _,fun _ h=>by omega,fun _ h=>by omega,fun _ _ h=>by omega,fun _ _ h=>by omega,fun _ h=>by omega,fun _ h=>by omega,by
  have:=(yah.1 h.fn).1;omega,h.outs⟩
theorem Stands.heap (h:Stands w0 n M bx tu br bk k st ps v w) (e:w1.heap=w.heap) (eo:w1.os=w.os∧w1.output=w.output):Stands w0 n M bx tu br bk k st ps v w1:=by
 obtain ⟨a1,a2,a3,a4,a5,a6,a7,a8,a9,b1,b2,b3,b4,b5,b6,b7,b8,b9⟩:=h;exact ⟨by rw [e];exact a1,by rw [e];exact a2,by rw [e];exact a3,by rw [e];exact a4,by rw [e];exact a5,by rw [e];exact a6,by rw [e];exact a7,a8,fun b hb=>by rw [e];exact a9 b hb,by
  obtain ⟨x,y⟩:=b1;exact ⟨x,by rw [e];exact y⟩,fun i hi=>by rw [e];exact b2 i hi,fun i hi=>by rw [e];exact b3 i hi,b4,b5,b6,b7,by rw [e];exact b8,eo.1.trans b9.1,eo.2.trans b9.2⟩
def zc0 (w:World) (tu:Nat):World:=((w.alloc (.chan 0 #[] false 0 0 false)).alloc (.cells #[.pointer (some ⟨tu,0,none⟩),.chan (some w.heap.size),.bool false] 306)).alloc (.cells #[.pointer (some ⟨w.heap.size+1,0,none⟩)] 303)
theorem zf6:(zc0 w tu).heap.size=w.heap.size+3:=by simp [zc0]
theorem zhp {b:Nat} (hb:b < w.heap.size):(zc0 w tu).heap[b]?=w.heap[b]?:=by
 unfold zc0;rw [Below.heap_alloc _ _ _ (by simp;omega),Below.heap_alloc _ _ _ (by simp;omega),Below.heap_alloc _ _ _ hb]
theorem zuh:(zc0 w tu).heap[w.heap.size]?=some (.chan 0 #[] false 0 0 false):=by
 unfold zc0;rw [Below.heap_alloc _ _ _ (by simp;omega),Below.heap_alloc _ _ _ (by simp)];exact heap_alloc_new w _
theorem zug:(zc0 w tu).heap[w.heap.size+1]?=some (.cells #[.pointer (some ⟨tu,0,none⟩),.chan (some w.heap.size),.bool false] 306 (0,0)):=by
 unfold zc0;rw [Below.heap_alloc _ _ _ (by simp)];have:=heap_alloc_new (w.alloc (.chan 0 #[] false 0 0 false)) (.cells #[.pointer (some ⟨tu,0,none⟩),.chan (some w.heap.size),.bool false] 306)
 simpa using this
theorem zuf:(zc0 w tu).heap[w.heap.size+2]?=some (.cells #[.pointer (some ⟨w.heap.size+1,0,none⟩)] 303 (0,0)):=by
 have:=heap_alloc_new ((w.alloc (.chan 0 #[] false 0 0 false)).alloc (.cells #[.pointer (some ⟨tu,0,none⟩),.chan (some w.heap.size),.bool false] 306)) (.cells #[.pointer (some ⟨w.heap.size+1,0,none⟩)] 303)
 simpa [zc0] using this
theorem Stands.standRow (h:Stands w0 n M bx tu br bk k st ps v w):(zc0 w tu).ownsRow (w0.heap.size+3) 303 1 v k ((List.range k).map fun i=>Value.pointer (some ⟨st i,0,none⟩)) :=
 ((h.row.alloc _).alloc _).alloc _
theorem zqb:zng (zc0 w tu).drew (.slice (some ⟨w.heap.size+1+1,0,none⟩) 1 1) 1 [.pointer (some ⟨w.heap.size+1,0,none⟩)]:=by
 refine ⟨rfl,fun u hu=>?_,.inr ⟨_,_,rfl,fun j u hj=>?_⟩⟩
 ·rw [yaj.1 hu];rfl
 ·cases j with
  | zero =>
   simp at hj;subst hj;have h2:(zc0 w tu).drew.heap[w.heap.size+1+1]?=some (.cells #[.pointer (some ⟨w.heap.size+1,0,none⟩)] 303 (0,0)):=zuf;have:=zae h2 0
   simpa [Addr.add] using this
  | succ j=>simp at hj
theorem Stands.step (h:Stands w0 n M bx tu br bk k st ps v w) (ha:zdp (zc0 w tu).drew (w0.heap.size+3) 303 v k 1 ((List.range k).map (fun i=>Value.pointer (some ⟨st i,0,none⟩))++[Value.pointer (some ⟨w.heap.size+1,0,none⟩)]) v' w1) :
  w1.cell? ⟨bx,0,none⟩=some (.pointer (some ⟨tu,0,none⟩))∧w1.cell? ⟨tu,1,none⟩=some v∧w1.frozen? ⟨tu,1,none⟩=false∧Stands w0 n M bx tu br bk (k+1) (upd st k (w.heap.size+1)) (upd ps k w.heap.size) v' (w1.setCell ⟨tu,1,none⟩ v'):=by
 obtain ⟨hown,hg,hsh⟩:=ha;have hs:=hg.size;have hs':w.heap.size+3≤w1.heap.size:=by
  have e:(zc0 w tu).drew.heap.size=w.heap.size+3:=zf6;omega
 have own:∀ g,v.ownBlock=some g→∃ c,w.heap[g]?=some (.cells c 303 (0,0)):=fun g e=>by
  rcases h.row.2 with ⟨rfl,_⟩|⟨g',cap,cur,rfl,_,hgg,_⟩
  ·simp [Value.ownBlock] at e
  ·simp [Value.ownBlock] at e;subst e;exact ⟨_,hgg⟩
 have keep:∀ b (o:Obj),(zc0 w tu).heap[b]?=some o→(∀ c,o ≠ .cells c 303 (0,0)∨w.heap.size≤b)→w1.heap[b]?=some o:=fun b o e hne=>by
  have hlt:b < (zc0 w tu).heap.size:=(yah.1 e).1;refine (hg.block b hlt fun q=>?_).trans e;obtain ⟨c,hc⟩:=own b q.symm;have hltw:b < w.heap.size:=(yah.1 hc).1;rw [zhp hltw,hc] at e;rcases hne c with z|z
  ·exact z (yaw e).symm
  ·omega
 have old:∀ b (o:Obj),w.heap[b]?=some o→(∀ c,o ≠ .cells c 303 (0,0))→w1.heap[b]?=some o:=fun b o e hne=>keep b o ((zhp (yah.1 e).1).trans e) fun c => .inl (hne c);have tu1:=old tu _ h.ftu (fun c=>by simp);have set:=zaz tu1 1 v';simp at set;have oth:∀ b,b≠tu→(w1.setCell ⟨tu,1,none⟩ v').heap[b]?=w1.heap[b]?:=fun b hb=>Below.heap_setCell _ _ _ _ hb;have fin:∀ b (o:Obj),w1.heap[b]?=some o→(∀ c,o ≠ .cells c 302 (0,0))→(w1.setCell ⟨tu,1,none⟩ v').heap[b]?=some o:=fun b o e hne=>by
  rw [oth b (fun z=>by rw [z,tu1] at e;exact hne _ (yaw e).symm)];exact e
 have n0:=fin _ _ (keep _ _ (zuh (w:=w) (tu:=tu)) (fun c => .inl (by simp))) (fun c=>by simp);have n1:=fin _ _ (keep _ _ (zug (w:=w) (tu:=tu)) (fun c => .inl (by simp))) (fun c=>by simp);have lt:∀ {b:Nat} {o:Obj},w.heap[b]?=some o→b < w.heap.size:=fun e=>(yah.1 e).1;have hbk:=lt h.fbk;refine ⟨by rw [zae (old _ _ h.fbx (fun c=>by simp)) 0];rfl,by rw [zae tu1 1];rfl,zau tu1 1,fin _ _ (old _ _ h.fm (fun c=>by simp)) (fun c=>by simp),fin _ _ (old _ _ h.fo (fun c=>by simp)) (fun c=>by simp),fin _ _ (old _ _ h.fn (fun c=>by simp)) (fun c=>by simp),
  fin _ _ (old _ _ h.fbx (fun c=>by simp)) (fun c=>by simp),set,fin _ _ (old _ _ h.fbr (fun c=>by simp)) (fun c=>by simp),fin _ _ (old _ _ h.fbk (fun c=>by simp)) (fun c=>by simp),h.ge,fun b hb=>?_,?_,fun i hi=>?_,fun i hi=>?_,fun i j hi hj e=>?_,fun i j hi hj e=>?_,fun i hi=>?_,fun i hi=>?_,?_,hg.os.trans h.outs.1,hg.output.trans h.outs.2⟩
 ·have hge:=h.ge;have hsz:=h.sz;rw [oth b (by omega),hg.block b (by rw [show (zc0 w tu).drew.heap.size=w.heap.size+3 from zf6];omega) (fun q=>?_)]
  ·exact (zhp (by omega)).trans (h.low b hb)
  ·have:=(h.row.lt b q.symm).1;omega
 ·have e:(List.range (k+1)).map (fun i=>Value.pointer (some ⟨upd st k (w.heap.size+1) i,0,none⟩))=(List.range k).map (fun i=>Value.pointer (some ⟨st i,0,none⟩))++[Value.pointer (some ⟨w.heap.size+1,0,none⟩)]:=by
   rw [List.range_succ,List.map_append];congr 1
   ·refine List.map_congr_left fun i hi=>?_;rw [upd_ne _ _ (by have:=List.mem_range.1 hi;omega)]
   ·simp [upd]
  rw [e];refine ownsRow_setCell_other hown ?_ v';intro q;rcases hown.2 with ⟨rfl,_⟩|⟨g,cap,cur,rfl,_,hgg,_⟩
  ·simp [Value.ownBlock] at q
  ·simp [Value.ownBlock] at q;subst q;rw [tu1] at hgg;simp at hgg
 ·by_cases e:i=k
  ·subst e;rw [upd_same,upd_same];exact n1
  ·rw [upd_ne _ _ e,upd_ne _ _ e];exact fin _ _ (old _ _ (h.sts i (by omega)) (fun c=>by simp)) (fun c=>by simp)
 ·by_cases e:i=k
  ·subst e;rw [upd_same];exact n0
  ·rw [upd_ne _ _ e];exact fin _ _ (old _ _ (h.psc i (by omega)) (fun c=>by simp)) (fun c=>by simp)
 ·by_cases ei:i=k<;>by_cases ej:j=k
  ·omega
  ·subst ei;rw [upd_same,upd_ne _ _ ej] at e;have:=lt (h.sts j (by omega));omega
  ·subst ej;rw [upd_same,upd_ne _ _ ei] at e;have:=lt (h.sts i (by omega));omega
  ·rw [upd_ne _ _ ei,upd_ne _ _ ej] at e;exact h.injS i j (by omega) (by omega) e
 ·by_cases ei:i=k<;>by_cases ej:j=k
  ·omega
  ·subst ei;rw [upd_same,upd_ne _ _ ej] at e;have:=lt (h.psc j (by omega));omega
  ·subst ej;rw [upd_same,upd_ne _ _ ei] at e;have:=lt (h.psc i (by omega));omega
  ·rw [upd_ne _ _ ei,upd_ne _ _ ej] at e;exact h.injP i j (by omega) (by omega) e
 ·by_cases ei:i=k
  ·subst ei;rw [upd_same];omega
  ·rw [upd_ne _ _ ei];exact h.pb i (by omega)
 ·have hsz:=h.sz;by_cases ei:i=k
  ·subst ei;rw [upd_same,upd_same];omega
  ·rw [upd_ne _ _ ei,upd_ne _ _ ei];exact h.ges i (by omega)
 ·have hsz:=h.sz;simp [World.setCell];omega
end
section
variable {P:Program} {l:List Oper} {Q:Exit→Act→World→Prop} {md:Region.Mode} {S:World→Prop}
theorem zdt {i:Nat} {oi:Oper} {v:Value} {fuel:Nat} {listed:Array Bool} {a:Act} {w:World} (hi:l[i]?=some oi)
  (hs:Region.noSelect l.toArray=true) (hf:Region.free md l.toArray listed i=true) (hr:(Region.ready md l.toArray listed).contains i=true)
  (hQ:∀ c a w,Q (.panic c) (a.put oi.dst v) w→Q (.panic c) a w) (hw:Region.wanted oi (yielded l.toArray a.tmps)=true) (hS:S w)
  (hy:∀ w,S w→(execOp a.eval oi).run P w = .ok (.value v) w)
  (h:wpAnyH P md l.toArray Q S fuel (listed.setIfInBounds i true) (a.put oi.dst v) w):wpAnyH P md l.toArray Q S (fuel+1) listed a w :=
 wpAnyH_take (by simpa using hi) hs hf hr hQ (Or.inl ⟨hw,hy⟩) hS h
theorem zc9 {fuel:Nat} {listed:Array Bool} {a:Act} {w:World} {i:Nat} {o:Oper} {rs:List Nat} (ho:l[i]?=some o)
  (h:∀ K':Act→World→Prop,Shut (∀ a w,S w→(S w→wpAnyH P md l.toArray Q S fuel (listed.setIfInBounds i true) a w)→K' a w)→if Region.wanted o (yielded l.toArray a.tmps)=true then Oper.wp P o a w K' Q else K' (a.put o.dst undef) w)
  (hs:AllReadyH P md l.toArray Q S fuel listed a w rs):AllReadyH P md l.toArray Q S fuel listed a w (i::rs):=AllReadyH.cons (by simpa using ho) h hs
end
theorem info140:(Try.prog.info? 303).map (fun i=>(i.zero,i.size,i.bytes))=some (some (.pointer none),1,8):=by kernel_rfl
theorem za9 {P:Program} {ops:Array Oper} {o:Oper} {a:Act} {w:World} {K:Act→World→Prop} {Q:Exit→Act→World→Prop} {E:Prop}
  (hg:o.guard=none) (s x:Operand) (t tn:TypeId) (hop:o.op=Op.call { callee:=Callee.builtin Builtin.append,args:=#[s,x],argTypes:=#[t,tn] })
  (v u:Value) (hs:a.eval s=v) (hx:a.eval x=u) {v':Value} {w':World} (hr:(Builtin.append_ #[t,tn] o.type #[v,u]).run P w = .ok v' w') (hK:K (a.put o.dst v') w') :
  if Region.wanted o (yielded ops a.tmps)=true then Oper.wp P o a w K Q else E:=by
 have hw:Region.wanted o (yielded ops a.tmps)=true:=by simp [Region.wanted,hg]
 rw [if_pos hw];unfold Oper.wp execOp;simp only [hop,resolve,invoke,builtin,Sem.run_bind,Sem.run_pure,Result.andThen_ok,List.map_toArray,List.map_cons,List.map_nil,hs,hx,hr];exact hK
set_option maxRecDepth 100000 in
theorem zoc {Z:Machine→Trace→Prop} {cs:List Frame} {w0 w:World} {thr sch:Value} {n bx tu br bk:Nat} {M:Int} {x:Nat→Value} (hn:n≤64) (hx:S44 thr sch w0.heap.size bx x) (hB:Base0 w0 n M bx tu br bk w)
  (h:∀ (x:Nat→Value) (st ps:Nat→Nat) (v:Value) (w1:World),S44 thr sch w0.heap.size bx x→Stands w0 n M bx tu br bk n st ps v w1→RM Try.prog Z (G ((base 136).at (A44 x) [.code (cB (cB (cB (cB (cB c44)))))]) cs) w1) :
 RM Try.prog Z (G ((base 136).at (A44 x) [.code (cB (cB (cB (cB c44))))]) cs) w:=by
 have hmk:∀ W,(Instr.makeChan 304 (.int .i64 0)).run Try.prog W = .ok (.chan (some W.heap.size)) (W.alloc (.chan 0 #[] false 0 0 false)):=zsh mk141;refine zas rm_xc rfl fun R0 hR0=>?_;rw [show cA (cB (cB (cB (cB c44))))=Code.seq _ _ from rfl]
 refine zbg zr6 (zab zah (by kernel_rfl)) rfl (zaa Try.func136) rfl fun wp hp=>?_;replace h:=yay h;unfold A44;simp only [hx.x0,hx.x1,hx.x5,hx.x6,hx.x9,hx.x10];have S0:=(Stands.base hB).heap hp.heap hp.outs;clear hB hp hx;have c1:wp.cell? ⟨w0.heap.size+2,0,none⟩=some (.int .i64 n):=zae S0.fn 0;replace S0:=yay S0
 go_wp2_with fail
 go_loopw [30] (fun iv wr=>∃ (k:Nat) (st ps:Nat→Nat) (v:Value),k≤n∧iv = .int .i64 k∧Hid (Stands w0 n M bx tu br bk k st ps v wr)) (fun iv _=>n - (intOf iv).toNat)
 case atStart=>exact ⟨0,_,_,_,by omega,rfl,S0⟩
 case round =>
  obtain ⟨k,st,ps,v,hk,rfl,HS⟩:=hrel;by_cases hlt:k < n
  ·have hlt':(k:Int) < n:=by omega
   have cb:=zae HS.out.fbx 0;have cu:=zae HS.out.ftu 1;simp only [yac,yaa,yab] at cb cu;have fu:=zau HS.out.ftu 1;have q1:IntKind.i64.wrap ((k:Int)+1)=k+1:=by rw [IntKind.wrap_i64];omega
   have lb:=World.new_ne wr _ cb;have lu:=World.new_ne wr _ cu;have hlb:=World.block_lt_of_cell? wr _ cb;have hlu:=World.block_lt_of_cell? wr _ cu;have lb1:wr.heap.size+1≠bx:=by simp only at hlb;omega
   have lu1:wr.heap.size+1≠tu:=by simp only at hlu;omega
   have lb2:wr.heap.size+1+1≠bx:=by simp only at hlb;omega
   have lu2:wr.heap.size+1+1≠tu:=by simp only at hlu;omega
   clear hlb hlu;obtain ⟨i0,hi0,hz0,hz1,hz2⟩:=info_parts info140;obtain ⟨v',w',hrun,ha⟩:=zce (P:=Try.prog) (zc0 wr tu).drew (w0.heap.size+3) 300 300 303 i0 _ 8 Try.underlying300 hi0 hz0 hz1 hz2 (by rfl) v k _ HS.out.standRow (.slice (some ⟨wr.heap.size+1+1,0,none⟩) 1 1) 1 [.pointer (some ⟨wr.heap.size+1,0,none⟩)]
    zqb (by unfold maxLen;omega) (by omega) (by have:=HS.out.sz;have e:(zc0 wr tu).drew.heap.size=wr.heap.size+3:=zf6;omega)
   obtain ⟨e0,e1,e2,HS'⟩:=HS.out.step ha;replace HS':=yay HS';obtain ⟨g,cap,rfl⟩:∃ g cap,v' = .slice (some ⟨g,0,none⟩) (k+1) cap:=by
    rcases ha.2.2 with ⟨_,_,z,_⟩|⟨g,cap,e,_⟩
    ·cases z
    ·exact ⟨g,cap,e⟩
   clear ha;have HRUN:Hid ((Builtin.append_ #[300,300] 300 #[v,.slice (some ⟨wr.heap.size+1+1,0,none⟩) 1 1]).run Try.prog (((wr.alloc (.chan 0 #[] false 0 0 false)).alloc (.cells #[.pointer (some ⟨tu,0,none⟩),.chan (some wr.heap.size),.bool false] 306)).alloc (.cells #[.pointer (some ⟨wr.heap.size+1,0,none⟩)] 303)).drew = .ok (.slice (some ⟨g,0,none⟩) (k+1) cap) w'):=yay hrun;clear hrun;have b0:wr.drew.cell? ⟨bx,0,none⟩=some (.pointer (some ⟨tu,0,none⟩)):=cb;have l0:wr.drew.cell? ⟨tu,1,none⟩=some v:=cu;have b1:(wr.alloc (.chan 0 #[] false 0 0 false)).drew.cell? ⟨bx,0,none⟩=some (.pointer (some ⟨tu,0,none⟩)):=zae (show (wr.alloc (.chan 0 #[] false 0 0 false)).drew.heap[bx]?=_ from (Below.heap_alloc _ _ _ (yah.1 HS.out.fbx).1).trans HS.out.fbx) 0
   have l1:(wr.alloc (.chan 0 #[] false 0 0 false)).drew.cell? ⟨tu,1,none⟩=some (v):=zae (show (wr.alloc (.chan 0 #[] false 0 0 false)).drew.heap[tu]?=_ from (Below.heap_alloc _ _ _ (yah.1 HS.out.ftu).1).trans HS.out.ftu) 1
   have b2:((wr.alloc (.chan 0 #[] false 0 0 false)).alloc (.cells #[.pointer (some ⟨tu,0,none⟩),.chan (some wr.heap.size),.bool false] 306)).drew.cell? ⟨bx,0,none⟩=some (.pointer (some ⟨tu,0,none⟩)):=zae (show ((wr.alloc (.chan 0 #[] false 0 0 false)).alloc (.cells #[.pointer (some ⟨tu,0,none⟩),.chan (some wr.heap.size),.bool false] 306)).drew.heap[bx]?=_ from (Below.heap_alloc _ _ _ (by have:=(yah.1 HS.out.fbx).1;simp;omega)).trans ((Below.heap_alloc _ _ _ (yah.1 HS.out.fbx).1).trans HS.out.fbx)) 0
   have l2:((wr.alloc (.chan 0 #[] false 0 0 false)).alloc (.cells #[.pointer (some ⟨tu,0,none⟩),.chan (some wr.heap.size),.bool false] 306)).drew.cell? ⟨tu,1,none⟩=some (v):=zae (show ((wr.alloc (.chan 0 #[] false 0 0 false)).alloc (.cells #[.pointer (some ⟨tu,0,none⟩),.chan (some wr.heap.size),.bool false] 306)).drew.heap[tu]?=_ from (Below.heap_alloc _ _ _ (by have:=(yah.1 HS.out.ftu).1;simp;omega)).trans ((Below.heap_alloc _ _ _ (yah.1 HS.out.ftu).1).trans HS.out.ftu)) 1
   have b3:(((wr.alloc (.chan 0 #[] false 0 0 false)).alloc (.cells #[.pointer (some ⟨tu,0,none⟩),.chan (some wr.heap.size),.bool false] 306)).alloc (.cells #[.pointer (some ⟨wr.heap.size+1,0,none⟩)] 303)).drew.cell? ⟨bx,0,none⟩=some (.pointer (some ⟨tu,0,none⟩)):=zae (show (((wr.alloc (.chan 0 #[] false 0 0 false)).alloc (.cells #[.pointer (some ⟨tu,0,none⟩),.chan (some wr.heap.size),.bool false] 306)).alloc (.cells #[.pointer (some ⟨wr.heap.size+1,0,none⟩)] 303)).drew.heap[bx]?=_ from (Below.heap_alloc _ _ _ (by have:=(yah.1 HS.out.fbx).1;simp;omega)).trans ((Below.heap_alloc _ _ _ (by have:=(yah.1 HS.out.fbx).1;simp;omega)).trans ((Below.heap_alloc _ _ _ (yah.1 HS.out.fbx).1).trans HS.out.fbx))) 0
   have l3:(((wr.alloc (.chan 0 #[] false 0 0 false)).alloc (.cells #[.pointer (some ⟨tu,0,none⟩),.chan (some wr.heap.size),.bool false] 306)).alloc (.cells #[.pointer (some ⟨wr.heap.size+1,0,none⟩)] 303)).drew.cell? ⟨tu,1,none⟩=some (v):=zae (show (((wr.alloc (.chan 0 #[] false 0 0 false)).alloc (.cells #[.pointer (some ⟨tu,0,none⟩),.chan (some wr.heap.size),.bool false] 306)).alloc (.cells #[.pointer (some ⟨wr.heap.size+1,0,none⟩)] 303)).drew.heap[tu]?=_ from (Below.heap_alloc _ _ _ (by have:=(yah.1 HS.out.ftu).1;simp;omega)).trans ((Below.heap_alloc _ _ _ (by have:=(yah.1 HS.out.ftu).1;simp;omega)).trans ((Below.heap_alloc _ _ _ (yah.1 HS.out.ftu).1).trans HS.out.ftu))) 1
   have e3:(w'.setCell ⟨tu,1,none⟩ (.slice (some ⟨g,0,none⟩) (k+1) cap)).cell? ⟨bx,0,none⟩=some (.pointer (some ⟨tu,0,none⟩)):=zae HS'.out.fbx 0
   go_wp2_with fail
   refine wp_region_held_drew (S:=fun w'=>w'.cell? ⟨bx,0,none⟩=some (.pointer (some ⟨tu,0,none⟩))) (by kernel_rfl) b0 (fun hHeld=>?_);refine zdt (i:=0) (v:=?v1) rfl (by kernel_rfl) (by kernel_rfl) (by kernel_rfl) (fun _ _ _ h=>absurd (And.left h) (fun e=>by cases e)) (by rfl) (by assumption) ?hy1 ?rest1
   case hy1=>(intro w hSw;(try dsimp only at hSw);first|(go_simp;done)|(go_simp;with_reducible rfl))
   try simp only [Act.put,yak,yal,yam]
   refine zdt (i:=1) (v:=?v2) rfl (by kernel_rfl) (by kernel_rfl) (by kernel_rfl) (fun _ _ _ h=>absurd (And.left h) (fun e=>by cases e)) (by rfl) (by assumption) ?hy2 ?rest2
   case hy2=>(intro w hSw;(try dsimp only at hSw);first|(go_simp;done)|(go_simp;with_reducible rfl))
   try simp only [Act.put,yak,yal,yam]
   refine zdt (i:=2) (v:=?v3) rfl (by kernel_rfl) (by kernel_rfl) (by kernel_rfl) (fun _ _ _ h=>absurd (And.left h) (fun e=>by cases e)) (by rfl) (by assumption) ?hy3 ?rest3
   case hy3=>(intro w hSw;(try dsimp only at hSw);first|(go_simp;done)|(go_simp;with_reducible rfl))
   try simp only [Act.put,yak,yal,yam]
   refine zdt (i:=3) (v:=?v4) rfl (by kernel_rfl) (by kernel_rfl) (by kernel_rfl) (fun _ _ _ h=>absurd (And.left h) (fun e=>by cases e)) (by rfl) (by assumption) ?hy4 ?rest4
   case hy4=>(intro w hSw;(try dsimp only at hSw);first|(go_simp;done)|(go_simp;with_reducible rfl))
   try simp only [Act.put,yak,yal,yam]
   refine zdt (i:=5) (v:=?v5) rfl (by kernel_rfl) (by kernel_rfl) (by kernel_rfl) (fun _ _ _ h=>absurd (And.left h) (fun e=>by cases e)) (by rfl) (by assumption) ?hy5 ?rest5
   case hy5=>(intro w hSw;(try dsimp only at hSw);first|(go_simp;done)|(go_simp;with_reducible rfl))
   try simp only [Act.put,yak,yal,yam]
   refine wpAnyH_ready (rs:=[4,6]) (by kernel_rfl) (by simp) (zc9 rfl (fun K hK=>?_) (zc9 rfl (fun K hK=>?_) AllReadyH.nil))
   ·rw [if_pos (by kernel_rfl)]
    go_simp
    refine hK.out _ _ hHeld (fun hHeld=>?_);clear hK K
    try simp only [Act.put,yak,yal,yam]
    refine wpAnyH_ready (rs:=[6]) (by kernel_rfl) (by simp) (zc9 rfl (fun K hK=>?_) AllReadyH.nil)
    go_simp
    refine hK.out _ _ b1 (fun hHeld=>?_);clear hK K
    try simp only [Act.put,yak,yal,yam]
    refine zdt (i:=7) (v:=?v6) rfl (by kernel_rfl) (by kernel_rfl) (by kernel_rfl) (fun _ _ _ h=>absurd (And.left h) (fun e=>by cases e)) (by rfl) (by assumption) ?hy6 ?rest6
    case hy6=>(intro w hSw;(try dsimp only at hSw);first|(go_simp;done)|(go_simp;with_reducible rfl))
    try simp only [Act.put,yak,yal,yam]
    refine wpAnyH_ready (rs:=[8]) (by kernel_rfl) (by simp) (zc9 rfl (fun K hK=>?_) AllReadyH.nil)
    go_simp
    refine hK.out _ _ b2 (fun hHeld=>?_);clear hK K
    try simp only [Act.put,yak,yal,yam]
    refine wpAnyH_ready (rs:=[9]) (by kernel_rfl) (by simp) (zc9 rfl (fun K hK=>?_) AllReadyH.nil)
    go_simp
    refine hK.out _ _ b3 (fun hHeld=>?_);clear hK K
    try simp only [Act.put,yak,yal,yam]
    refine wpAnyH_ready (rs:=[10]) (by kernel_rfl) (by simp) (zc9 rfl (fun K hK=>?_) AllReadyH.nil);refine za9 (by rfl) _ _ 300 300 (by rfl) v (.slice (some ⟨wr.heap.size+1+1,0,none⟩) 1 1) (by rfl) (by rfl) HRUN.out ?_;refine hK.out _ _ e0 (fun hHeld=>?_);clear hK K
    try simp only [Act.put,yak,yal,yam]
    refine zdt (i:=11) (v:=?v7) rfl (by kernel_rfl) (by kernel_rfl) (by kernel_rfl) (fun _ _ _ h=>absurd (And.left h) (fun e=>by cases e)) (by rfl) (by assumption) ?hy7 ?rest7
    case hy7=>(intro w hSw;(try dsimp only at hSw);first|(go_simp;done)|(go_simp;with_reducible rfl))
    try simp only [Act.put,yak,yal,yam]
    refine zdt (i:=12) (v:=?v8) rfl (by kernel_rfl) (by kernel_rfl) (by kernel_rfl) (fun _ _ _ h=>absurd (And.left h) (fun e=>by cases e)) (by rfl) (by assumption) ?hy8 ?rest8
    case hy8=>(intro w hSw;(try dsimp only at hSw);first|(go_simp;done)|(go_simp;with_reducible rfl))
    try simp only [Act.put,yak,yal,yam]
    refine wpAnyH_ready (rs:=[13]) (by kernel_rfl) (by simp) (zc9 rfl (fun K hK=>?_) AllReadyH.nil)
    go_simp
    refine hK.out _ _ e3 (fun hHeld=>?_);clear hK K
    try simp only [Act.put,yak,yal,yam]
    refine wpAnyH_done (by kernel_rfl) ?_ _
    go_wp2_with fail
    go_roundw
    case rel=>exact ⟨k+1,_,_,_,by omega,by go_num,HS'⟩
    case measure=>simp [intOf];omega
   ·go_simp
    refine hK.out _ _ b1 (fun hHeld=>?_);clear hK K
    try simp only [Act.put,yak,yal,yam]
    refine zdt (i:=7) (v:=?v9) rfl (by kernel_rfl) (by kernel_rfl) (by kernel_rfl) (fun _ _ _ h=>absurd (And.left h) (fun e=>by cases e)) (by rfl) (by assumption) ?hy9 ?rest9
    case hy9=>(intro w hSw;(try dsimp only at hSw);first|(go_simp;done)|(go_simp;with_reducible rfl))
    try simp only [Act.put,yak,yal,yam]
    refine wpAnyH_ready (rs:=[4,8]) (by kernel_rfl) (by simp) (zc9 rfl (fun K hK=>?_) (zc9 rfl (fun K hK=>?_) AllReadyH.nil))
    ·rw [if_pos (by kernel_rfl)]
     go_simp
     refine hK.out _ _ hHeld (fun hHeld=>?_);clear hK K
     try simp only [Act.put,yak,yal,yam]
     refine wpAnyH_ready (rs:=[8]) (by kernel_rfl) (by simp) (zc9 rfl (fun K hK=>?_) AllReadyH.nil)
     go_simp
     refine hK.out _ _ b2 (fun hHeld=>?_);clear hK K
     try simp only [Act.put,yak,yal,yam]
     refine wpAnyH_ready (rs:=[9]) (by kernel_rfl) (by simp) (zc9 rfl (fun K hK=>?_) AllReadyH.nil)
     go_simp
     refine hK.out _ _ b3 (fun hHeld=>?_);clear hK K
     try simp only [Act.put,yak,yal,yam]
     refine wpAnyH_ready (rs:=[10]) (by kernel_rfl) (by simp) (zc9 rfl (fun K hK=>?_) AllReadyH.nil);refine za9 (by rfl) _ _ 300 300 (by rfl) v (.slice (some ⟨wr.heap.size+1+1,0,none⟩) 1 1) (by rfl) (by rfl) HRUN.out ?_;refine hK.out _ _ e0 (fun hHeld=>?_);clear hK K
     try simp only [Act.put,yak,yal,yam]
     refine zdt (i:=11) (v:=?v10) rfl (by kernel_rfl) (by kernel_rfl) (by kernel_rfl) (fun _ _ _ h=>absurd (And.left h) (fun e=>by cases e)) (by rfl) (by assumption) ?hy10 ?rest10
     case hy10=>(intro w hSw;(try dsimp only at hSw);first|(go_simp;done)|(go_simp;with_reducible rfl))
     try simp only [Act.put,yak,yal,yam]
     refine zdt (i:=12) (v:=?v11) rfl (by kernel_rfl) (by kernel_rfl) (by kernel_rfl) (fun _ _ _ h=>absurd (And.left h) (fun e=>by cases e)) (by rfl) (by assumption) ?hy11 ?rest11
     case hy11=>(intro w hSw;(try dsimp only at hSw);first|(go_simp;done)|(go_simp;with_reducible rfl))
     try simp only [Act.put,yak,yal,yam]
     refine wpAnyH_ready (rs:=[13]) (by kernel_rfl) (by simp) (zc9 rfl (fun K hK=>?_) AllReadyH.nil)
     go_simp
     refine hK.out _ _ e3 (fun hHeld=>?_);clear hK K
     try simp only [Act.put,yak,yal,yam]
     refine wpAnyH_done (by kernel_rfl) ?_ _
     go_wp2_with fail
     go_roundw
     case rel=>exact ⟨k+1,_,_,_,by omega,by go_num,HS'⟩
     case measure=>simp [intOf];omega
    ·go_simp
     refine hK.out _ _ b2 (fun hHeld=>?_);clear hK K
     try simp only [Act.put,yak,yal,yam]
     refine wpAnyH_ready (rs:=[4,9]) (by kernel_rfl) (by simp) (zc9 rfl (fun K hK=>?_) (zc9 rfl (fun K hK=>?_) AllReadyH.nil))
     ·rw [if_pos (by kernel_rfl)]
      go_simp
      refine hK.out _ _ hHeld (fun hHeld=>?_);clear hK K
      try simp only [Act.put,yak,yal,yam]
      refine wpAnyH_ready (rs:=[9]) (by kernel_rfl) (by simp) (zc9 rfl (fun K hK=>?_) AllReadyH.nil)
      go_simp
      refine hK.out _ _ b3 (fun hHeld=>?_);clear hK K
      try simp only [Act.put,yak,yal,yam]
      refine wpAnyH_ready (rs:=[10]) (by kernel_rfl) (by simp) (zc9 rfl (fun K hK=>?_) AllReadyH.nil);refine za9 (by rfl) _ _ 300 300 (by rfl) v (.slice (some ⟨wr.heap.size+1+1,0,none⟩) 1 1) (by rfl) (by rfl) HRUN.out ?_;refine hK.out _ _ e0 (fun hHeld=>?_);clear hK K
      try simp only [Act.put,yak,yal,yam]
      refine zdt (i:=11) (v:=?v12) rfl (by kernel_rfl) (by kernel_rfl) (by kernel_rfl) (fun _ _ _ h=>absurd (And.left h) (fun e=>by cases e)) (by rfl) (by assumption) ?hy12 ?rest12
      case hy12=>(intro w hSw;(try dsimp only at hSw);first|(go_simp;done)|(go_simp;with_reducible rfl))
      try simp only [Act.put,yak,yal,yam]
      refine zdt (i:=12) (v:=?v13) rfl (by kernel_rfl) (by kernel_rfl) (by kernel_rfl) (fun _ _ _ h=>absurd (And.left h) (fun e=>by cases e)) (by rfl) (by assumption) ?hy13 ?rest13
      case hy13=>(intro w hSw;(try dsimp only at hSw);first|(go_simp;done)|(go_simp;with_reducible rfl))
      try simp only [Act.put,yak,yal,yam]
      refine wpAnyH_ready (rs:=[13]) (by kernel_rfl) (by simp) (zc9 rfl (fun K hK=>?_) AllReadyH.nil)
      go_simp
      refine hK.out _ _ e3 (fun hHeld=>?_);clear hK K
      try simp only [Act.put,yak,yal,yam]
      refine wpAnyH_done (by kernel_rfl) ?_ _
      go_wp2_with fail
      go_roundw
      case rel=>exact ⟨k+1,_,_,_,by omega,by go_num,HS'⟩
      case measure=>simp [intOf];omega
     ·go_simp
      refine hK.out _ _ b3 (fun hHeld=>?_);clear hK K
      try simp only [Act.put,yak,yal,yam]
      refine wpAnyH_ready (rs:=[4]) (by kernel_rfl) (by simp) (zc9 rfl (fun K hK=>?_) AllReadyH.nil);rw [if_pos (by kernel_rfl)]
      go_simp
      refine hK.out _ _ hHeld (fun hHeld=>?_);clear hK K
      try simp only [Act.put,yak,yal,yam]
      refine wpAnyH_ready (rs:=[10]) (by kernel_rfl) (by simp) (zc9 rfl (fun K hK=>?_) AllReadyH.nil);refine za9 (by rfl) _ _ 300 300 (by rfl) v (.slice (some ⟨wr.heap.size+1+1,0,none⟩) 1 1) (by rfl) (by rfl) HRUN.out ?_;refine hK.out _ _ e0 (fun hHeld=>?_);clear hK K
      try simp only [Act.put,yak,yal,yam]
      refine zdt (i:=11) (v:=?v14) rfl (by kernel_rfl) (by kernel_rfl) (by kernel_rfl) (fun _ _ _ h=>absurd (And.left h) (fun e=>by cases e)) (by rfl) (by assumption) ?hy14 ?rest14
      case hy14=>(intro w hSw;(try dsimp only at hSw);first|(go_simp;done)|(go_simp;with_reducible rfl))
      try simp only [Act.put,yak,yal,yam]
      refine zdt (i:=12) (v:=?v15) rfl (by kernel_rfl) (by kernel_rfl) (by kernel_rfl) (fun _ _ _ h=>absurd (And.left h) (fun e=>by cases e)) (by rfl) (by assumption) ?hy15 ?rest15
      case hy15=>(intro w hSw;(try dsimp only at hSw);first|(go_simp;done)|(go_simp;with_reducible rfl))
      try simp only [Act.put,yak,yal,yam]
      refine wpAnyH_ready (rs:=[13]) (by kernel_rfl) (by simp) (zc9 rfl (fun K hK=>?_) AllReadyH.nil)
      go_simp
      refine hK.out _ _ e3 (fun hHeld=>?_);clear hK K
      try simp only [Act.put,yak,yal,yam]
      refine wpAnyH_done (by kernel_rfl) ?_ _
      go_wp2_with fail
      go_roundw
      case rel=>exact ⟨k+1,_,_,_,by omega,by go_num,HS'⟩
      case measure=>simp [intOf];omega
  ·have hlt':¬ (k:Int) < n:=by omega
   have e:Hid (k=n):=by
     have e:k=n:=by omega
     exact e
   clear hlt hk
   go_wp2_with fail
   refine fun w1 h1=>?_;obtain rfl:=hR0.out;rw [zc4 _ rfl];obtain rfl:=e.out;exact h.out _ st ps v w1 ⟨rfl,rfl,rfl,rfl,rfl,rfl⟩ (HS.out.heap h1.heap h1.outs)
end Go.Proofs.Ytofacoojpgkbiaa
