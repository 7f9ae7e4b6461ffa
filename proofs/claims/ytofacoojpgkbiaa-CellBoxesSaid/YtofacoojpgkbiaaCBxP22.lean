/-
  A part of a proof. No condition of its own.
-/
import Derived.Test.YtofacoojpgkbiaaCBxP21
import Derived.Laws.StructEq
set_option linter.unusedVariables false
set_option maxHeartbeats 8000000
set_option linter.unusedSimpArgs false
namespace Go.Proofs.Ytofacoojpgkbiaa.PB
open Go.Conc Go.RowKit
open Go.ConcN (upd upd_ne upd_same)
set_option maxRecDepth 100000
abbrev pv (a:ByteArray) (n:Int):Value := .agg #[.string a,.int .i64 n]
abbrev kO (a:ByteArray) (n:Int):Obj := .cells #[.string a,.int .i64 n,.int .i64 0] 195 (0,0)
abbrev bO (kb:Nat):Obj := .cells #[.pointer (some ⟨kb,0,none⟩)] 192 (0,0)
theorem zm0 {w:World} {kb:Nat} {a:ByteArray} {n:Int} (hk:w.heap[kb]?=some (kO a n)):(convert 56 93 (.pointer (some ⟨kb,0,none⟩))).run Try.prog w = .ok (.pointer (some ⟨kb,0,none⟩)) w :=
 zjv 56 93 195 (by kernel_rfl) (by kernel_rfl) (n:=3) (by kernel_rfl) (by kernel_rfl) (by kernel_rfl) hk rfl
theorem zg1 {w:World} {kb:Nat} {a:ByteArray} {n:Int} (hk:w.heap[kb]?=some (kO a n)):(convert 93 56 (.pointer (some ⟨kb,0,none⟩))).run Try.prog w = .ok (.pointer (some ⟨kb,0,none⟩)) w :=
 run_convert_to_unsafe (P:=Try.prog) (t:=195) (by kernel_rfl) (by kernel_rfl) (by kernel_rfl) (zae hk 0)
theorem zut (w:World):(convert 93 56 (.pointer none)).run Try.prog w = .ok (.pointer none) w:=zdz 93 56 195 (by kernel_rfl) (by kernel_rfl) w
theorem zpd (b kb:Nat) {a:ByteArray} {n:Int} (w:World) (hb:w.heap[b]?=some (bO kb)) (hk:w.heap[kb]?=some (kO a n)) :
  Calls Try.prog 111 #[.pointer (some ⟨b,0,none⟩)] w fun e w'=>e = .returned (.pointer (some ⟨kb,0,none⟩))∧w=w':=by
 have hl:=zlc (show w.cell? ⟨b,0,none⟩=some (.pointer (some ⟨kb,0,none⟩)) by rw [zae hb 0];rfl);have hcv:=zm0 hk;clear hk hb;go_enter Try.func111,Try.ntmps111
 go_wp2
 go_ret
 exact ⟨rfl,rfl⟩
theorem zmp (b kb:Nat) {p:Option Addr} {a:ByteArray} {n:Int} (w:World) (hb:w.heap[b]?=some (.cells #[.pointer p] 192 (0,0))) (hk:w.heap[kb]?=some (kO a n)) :
  Calls Try.prog 107 #[.pointer (some ⟨b,0,none⟩),.pointer (some ⟨kb,0,none⟩)] w fun e w'=>e = .returned (.tuple #[])∧w.setCell ⟨b,0,none⟩ (.pointer (some ⟨kb,0,none⟩))=w':=by
 have hl:=zi9 (y:=some ⟨kb,0,none⟩) (show w.cell? ⟨b,0,none⟩=some (.pointer p) by rw [zae hb 0];rfl) (zau hb 0);have hcv:=zg1 hk;clear hk hb;go_enter Try.func107,Try.ntmps107
 go_wp2
 go_end0
 exact ⟨rfl,rfl⟩
theorem zum (b kb k':Nat) {a a':ByteArray} {n n':Int} (w:World) (hb:w.heap[b]?=some (bO kb)) (hk:w.heap[k']?=some (kO a n)) (hp:w.heap[kb]?=some (kO a' n')) :
  Calls Try.prog 112 #[.pointer (some ⟨b,0,none⟩),.pointer (some ⟨k',0,none⟩)] w fun e w'=>e = .returned (.pointer (some ⟨kb,0,none⟩))∧w.setCell ⟨b,0,none⟩ (.pointer (some ⟨k',0,none⟩))=w':=by
 have hl:=zo8 (y:=some ⟨k',0,none⟩) (show w.cell? ⟨b,0,none⟩=some (.pointer (some ⟨kb,0,none⟩)) by rw [zae hb 0];rfl) (zau hb 0);have hcv:=zg1 hk;have hne:kb≠b:=fun z=>by rw [z,hb] at hp;cases hp
 have hcv2:=zm0 (w:=w.setCell ⟨b,0,none⟩ (.pointer (some ⟨k',0,none⟩))) ((Below.heap_setCell _ _ _ _ hne).trans hp);clear hk hb hp;go_enter Try.func112,Try.ntmps112
 go_wp2
 go_ret
 exact ⟨rfl,rfl⟩
theorem zqy (w:World) (x y u v:Value) (t:TypeId):(((w.alloc (.cells #[x,y] t)).setCell ⟨w.heap.size,0,none⟩ u).setCell ⟨w.heap.size,1,none⟩ v)=w.alloc (.cells #[u,v] t):=by
 have hc:=heap_alloc_new w (.cells #[x,y] t);have hh:(((w.alloc (.cells #[x,y] t)).setCell ⟨w.heap.size,0,none⟩ u).setCell ⟨w.heap.size,1,none⟩ v).heap=(w.alloc (.cells #[u,v] t)).heap:=by
  apply Array.ext_getElem?;intro b;by_cases z:b=w.heap.size
  ·subst z;rw [zeu hc rfl u v,heap_alloc_new]
  ·rw [Below.heap_setCell _ _ _ _ z,Below.heap_setCell _ _ _ _ z];by_cases y:b < w.heap.size
   ·rw [Below.heap_alloc _ _ _ y,Below.heap_alloc _ _ _ y]
   ·rw [Array.getElem?_eq_none (by simp;omega),Array.getElem?_eq_none (by simp;omega)]
 exact congrArg (fun h=>{ w with heap:=h }) hh
theorem zf1 (kb:Nat) {a:ByteArray} {n:Int} (w:World) (hk:w.heap[kb]?=some (kO a n)):Calls Try.prog 110 #[.pointer (some ⟨kb,0,none⟩)] w fun e w'=>e = .returned (pv a n)∧w.alloc (.cells #[.string a,.int .i64 n] 91)=w':=by
 have hlt:=(yah.1 hk).1;have e0:∀ o,(w.alloc o).heap[kb]?=some (kO a n):=fun o=>(Below.heap_alloc _ _ _ hlt).trans hk;have c0:=zae (e0 (.cells #[.string ⟨#[]⟩,.int .i64 0] 91)) 0;have c1:=zae (e0 (.cells #[.string ⟨#[]⟩,.int .i64 0] 91)) 1;have hp:=zqy w (.string ⟨#[]⟩) (.int .i64 0) (.string a) (.int .i64 n) 91;simp only [yac,yaa,yab] at c0 c1;replace hp:=yay hp;replace hk:=yay hk;replace e0:=yay e0;go_enter Try.func110,Try.ntmps110
 go_wp2
 refine bodyPost_ret (results_cell_row rfl _ _ w.heap.size 91 #[.string a,.int .i64 n] (0,0) _ rfl (heap_alloc_new _ _) Try.underlying91 rfl (by kernel_rfl)) rfl ?_;exact ⟨rfl,rfl⟩
theorem zd6 {w w3:World} (h:LeftW w w3) {b:Nat} (hb:w.heap.size≤b) (i:Nat) (v:Value):LeftW w (w3.setCell ⟨b,i,none⟩ v) :=
 ⟨fun x hx=>(Below.heap_setCell _ _ _ _ (by show x≠b;omega)).trans (h.same x hx),by simpa [World.setCell] using h.size,h.outs⟩
theorem zhs (kb:Nat) {of:Option Addr} {a:ByteArray} {n:Int} (w:World) (hk:w.heap[kb]?=some (kO a n)):Calls Try.prog 43 #[.agg #[.pointer (some ⟨kb,0,none⟩),.pointer of]] w fun e w'=>e = .returned (pv a n)∧LeftW w w':=by
 have hlt:=(yah.1 hk).1;obtain ⟨w2,hw2⟩:∃ w2,(w.alloc (.cells #[.pointer (some ⟨kb,0,none⟩),.pointer of] 95)).alloc (.cells #[.string ⟨#[]⟩,.int .i64 0] 91)=w2:=⟨_,rfl⟩;have hs1:(w.alloc (.cells #[.pointer (some ⟨kb,0,none⟩),.pointer of] 95)).heap.size=w.heap.size+1:=by simp
 have hs2:w2.heap.size=w.heap.size+1+1:=by rw [← hw2];simp
 have L2:LeftW w w2:=hw2▸(LeftW.refl.alloc _).alloc _;have e2:w2.heap[w.heap.size+1]?=some (.cells #[.string ⟨#[]⟩,.int .i64 0] 91 (0,0)):=by rw [← hw2,← hs1];exact heap_alloc_new _ _
 have d2:w2.heap[w.heap.size]?=some (.cells #[.pointer (some ⟨kb,0,none⟩),.pointer of] 95 (0,0)):=by rw [← hw2];exact (Below.heap_alloc _ _ _ (by rw [hs1];omega)).trans (heap_alloc_new _ _)
 have d0:=zae d2 0;simp only [yac,yaa,yab] at d0;replace d2:=yay d2;have hv:=zf1 kb w2 ((L2.same kb hlt).trans hk);obtain ⟨w3,hw3⟩:∃ w3,w2.alloc (.cells #[.string a,.int .i64 n] 91)=w3:=⟨_,rfl⟩;rw [hw3] at hv;have e3:w3.heap[w.heap.size+1]?=some (.cells #[.string ⟨#[]⟩,.int .i64 0] 91 (0,0)):=by rw [← hw3];exact (Below.heap_alloc _ _ _ (by rw [hs2];omega)).trans e2
 have L3:LeftW w w3:=hw3▸L2.alloc _;have c0:=zae e3 0;have c1:=zae e3 1;have z0:=zau e3 0;have z1:=zau e3 1;simp only [yac,yaa,yab] at c0 c1;have e4:=zeu e3 rfl (.string a) (.int .i64 n);have L4:LeftW w ((w3.setCell ⟨w.heap.size+1,0,none⟩ (.string a)).setCell ⟨w.heap.size+1,1,none⟩ (.int .i64 n)):=zd6 (zd6 L3 (by omega) _ _) (by omega) _ _;replace hk:=yay hk;replace e2:=yay e2;replace e3:=yay e3;replace e4:=yay e4;replace L2:=yay L2;replace L3:=yay L3;replace L4:=yay L4;replace hw3:=yay hw3;go_enter Try.func43,Try.ntmps43
 go_wp2_with (go_at_call 110;refine hv.mono ?_;rintro e w' ⟨rfl,rfl⟩)
 refine bodyPost_ret (results_cell_row rfl _ _ (w.heap.size+1) 91 #[.string a,.int .i64 n] (0,0) _ rfl e4.out Try.underlying91 rfl (by kernel_rfl)) rfl ?_;exact ⟨rfl,L4.out⟩
theorem zp4 (w:World):Calls Try.prog 110 #[.pointer none] w fun e w'=>e = .returned (pv ⟨#[]⟩ 0)∧(w.alloc (.cells #[.string ⟨#[]⟩,.int .i64 0] 91)).alloc (.cells #[.string ⟨#[]⟩,.int .i64 0] 91)=w':=by
 have hlt:w.heap.size < (w.alloc (.cells #[.string ⟨#[]⟩,.int .i64 0] 91)).heap.size:=by simp
 go_enter Try.func110,Try.ntmps110
 go_wp2
 refine bodyPost_ret (results_cell_row rfl _ _ w.heap.size 91 #[.string ⟨#[]⟩,.int .i64 0] (0,0) _ rfl ((Below.heap_alloc _ _ _ hlt).trans (heap_alloc_new _ _)) Try.underlying91 rfl (by kernel_rfl)) rfl ?_;exact ⟨rfl,rfl⟩
theorem zst {of:Option Addr} (w:World):Calls Try.prog 43 #[.agg #[.pointer none,.pointer of]] w fun e w'=>e = .returned (pv ⟨#[]⟩ 0)∧LeftW w w':=by
 obtain ⟨w2,hw2⟩:∃ w2,(w.alloc (.cells #[.pointer none,.pointer of] 95)).alloc (.cells #[.string ⟨#[]⟩,.int .i64 0] 91)=w2:=⟨_,rfl⟩;have hs1:(w.alloc (.cells #[.pointer none,.pointer of] 95)).heap.size=w.heap.size+1:=by simp
 have hs2:w2.heap.size=w.heap.size+1+1:=by rw [← hw2];simp
 have L2:LeftW w w2:=hw2▸(LeftW.refl.alloc _).alloc _;have e2:w2.heap[w.heap.size+1]?=some (.cells #[.string ⟨#[]⟩,.int .i64 0] 91 (0,0)):=by rw [← hw2,← hs1];exact heap_alloc_new _ _
 have d2:w2.heap[w.heap.size]?=some (.cells #[.pointer none,.pointer of] 95 (0,0)):=by rw [← hw2];exact (Below.heap_alloc _ _ _ (by rw [hs1];omega)).trans (heap_alloc_new _ _)
 have d0:=zae d2 0;simp only [yac,yaa,yab] at d0;replace d2:=yay d2;have hv:=zp4 w2;obtain ⟨w3,hw3⟩:∃ w3,(w2.alloc (.cells #[.string ⟨#[]⟩,.int .i64 0] 91)).alloc (.cells #[.string ⟨#[]⟩,.int .i64 0] 91)=w3:=⟨_,rfl⟩;rw [hw3] at hv;have e3:w3.heap[w.heap.size+1]?=some (.cells #[.string ⟨#[]⟩,.int .i64 0] 91 (0,0)):=by rw [← hw3];exact (Below.heap_alloc _ _ _ (by simp [hs2])).trans ((Below.heap_alloc _ _ _ (by rw [hs2];omega)).trans e2)
 have L3:LeftW w w3:=hw3▸(L2.alloc _).alloc _;have c0:=zae e3 0;have c1:=zae e3 1;have z0:=zau e3 0;have z1:=zau e3 1;simp only [yac,yaa,yab] at c0 c1;have e4:=zeu e3 rfl (.string ⟨#[]⟩) (.int .i64 0);have L4:LeftW w ((w3.setCell ⟨w.heap.size+1,0,none⟩ (.string ⟨#[]⟩)).setCell ⟨w.heap.size+1,1,none⟩ (.int .i64 0)):=zd6 (zd6 L3 (by omega) _ _) (by omega) _ _;replace e2:=yay e2;replace e3:=yay e3;replace e4:=yay e4;replace L2:=yay L2;replace L3:=yay L3;replace L4:=yay L4;replace hw3:=yay hw3;go_enter Try.func43,Try.ntmps43
 go_wp2_with (go_at_call 110;refine hv.mono ?_;rintro e w' ⟨rfl,rfl⟩)
 refine bodyPost_ret (results_cell_row rfl _ _ (w.heap.size+1) 91 #[.string ⟨#[]⟩,.int .i64 0] (0,0) _ rfl e4.out Try.underlying91 rfl (by kernel_rfl)) rfl ?_;exact ⟨rfl,L4.out⟩
theorem zda (b kb:Nat) {a:ByteArray} {n:Int} (w:World) (hb:w.heap[b]?=some (bO kb)) (hk:w.heap[kb]?=some (kO a n)):Calls Try.prog 41 #[.pointer (some ⟨b,0,none⟩)] w fun e w'=>e = .returned (pv a n)∧LeftW w w':=by
 have hlt:=(yah.1 hk).1;have hlb:=(yah.1 hb).1;obtain ⟨w2,hw2⟩:∃ w2,w.alloc (.cells #[.string ⟨#[]⟩,.int .i64 0] 91)=w2:=⟨_,rfl⟩;have hs2:w2.heap.size=w.heap.size+1:=by rw [← hw2];simp
 have L2:LeftW w w2:=hw2▸LeftW.refl.alloc _;have e2:w2.heap[w.heap.size]?=some (.cells #[.string ⟨#[]⟩,.int .i64 0] 91 (0,0)):=by rw [← hw2];exact heap_alloc_new _ _
 have hl:=zpd b kb w2 ((L2.same b hlb).trans hb) ((L2.same kb hlt).trans hk);have hv:=zf1 kb w2 ((L2.same kb hlt).trans hk);obtain ⟨w3,hw3⟩:∃ w3,w2.alloc (.cells #[.string a,.int .i64 n] 91)=w3:=⟨_,rfl⟩;rw [hw3] at hv;have e3:w3.heap[w.heap.size]?=some (.cells #[.string ⟨#[]⟩,.int .i64 0] 91 (0,0)):=by rw [← hw3];exact (Below.heap_alloc _ _ _ (by rw [hs2];omega)).trans e2
 have L3:LeftW w w3:=hw3▸L2.alloc _;have c0:=zae e3 0;have c1:=zae e3 1;have z0:=zau e3 0;have z1:=zau e3 1;simp only [yac,yaa,yab] at c0 c1;have e4:=zeu e3 rfl (.string a) (.int .i64 n);have L4:LeftW w ((w3.setCell ⟨w.heap.size,0,none⟩ (.string a)).setCell ⟨w.heap.size,1,none⟩ (.int .i64 n)):=zd6 (zd6 L3 (by omega) _ _) (by omega) _ _;have hne:∀ w:World,(binOp .eql 88 (.pointer (some ⟨b,0,none⟩)) (.pointer none)).run Try.prog w = .ok (.bool false) w:=fun w=>by rfl
 replace hk:=yay hk;replace hb:=yay hb;replace e2:=yay e2;replace e3:=yay e3;replace e4:=yay e4;replace L2:=yay L2;replace L3:=yay L3;replace L4:=yay L4;replace hw3:=yay hw3;go_enter Try.func41,Try.ntmps41
 go_wp2_with (first|(go_at_call 111;refine hl.mono ?_;rintro e w' ⟨rfl,rfl⟩)|(go_at_call 110;refine hv.mono ?_;rintro e w' ⟨rfl,rfl⟩))
 refine bodyPost_ret (results_cell_row rfl _ _ w.heap.size 91 #[.string a,.int .i64 n] (0,0) _ rfl e4.out Try.underlying91 rfl (by kernel_rfl)) rfl ?_;exact ⟨rfl,L4.out⟩
end Go.Proofs.Ytofacoojpgkbiaa.PB
