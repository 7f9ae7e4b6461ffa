/-
  A part of a proof. No condition of its own.
-/
import Derived.Test.YtofacoojpgkbiaaCBxP19
import Derived.Test.YtofacoojpgkbiaaCBxP26
import Derived.Test.YtofacoojpgkbiaaCBxP27
import Derived.Deep.Slices
import Derived.Lib.Buffer
set_option linter.unusedVariables false
set_option maxHeartbeats 8000000
set_option linter.unusedSimpArgs false
namespace Go.Proofs.Ytofacoojpgkbiaa.OpenB
open Go.ChangeShapes Go.WideShapes Go.ChangeAt Go.RowKit Go.Deep
theorem ztf {α:Type} [Inhabited α] {n:Nat} {P:Nat→α→Prop} (h:∀ i,i < n→∃ x,P i x):∃ f:Nat→α,∀ i,i < n→P i (f i):=by
 refine ⟨fun i=>if hi:i < n then Classical.choose (h i hi) else default,fun i hi=>?_⟩;simp only [dif_pos hi];exact Classical.choose_spec (h i hi)
section
variable {H:Type} {enc:TypeId×Value→H} {W:World} {held:Bool}
theorem zqh {w:World} {x:Addr} {v:Value} {i:Nat} (h:w.cell? (x.add i)=some v) (hs:x.spot=none):x.add i=⟨x.block,x.off+i,none⟩:=by
 cases x;simp at hs;subst hs;simp [Addr.add];try (intro h;exact h)
theorem zrv {w:World} {x:Addr} {v:Value} (h:w.cell? (x.add 0)=some v):x.spot=none:=by
 cases hx:x.spot with
 | none=>rfl
 | some y =>
  unfold World.cell? at h;split at h
  ·simp [Addr.add,hx] at h
  ·cases h
theorem zsd {n:Nat} {t e:TypeId} {k len cap:Nat} {ao:Option Addr} {d:DataW H} {p:List MemPlace} (ht:Try.prog.underlying t=some (.slice e)) (hk:Try.prog.cellsOf e=k) (hk0:0 < k)
  (h:DataW.trod enc Try.prog W 0 (fun _=>true) held n t [.slice ao len cap]=some (d,p)) :
  ∃ D:Nat→DataW H,(len=0∨∃ g o,ao=some ⟨g,o,none⟩∧∀ i,i < len→∃ cs n' p',DataW.trod enc Try.prog W 0 (fun _=>true) held n' e cs=some (D i,p')∧cs.length=k∧∀ j,j < k→W.cell? ⟨g,o+i * k+j,none⟩=cs[j]?) ∧
   Rows.uptoBulkAll ((List.range len).map D)+1≤Rows.uptoBulk d∧len≤cap∧cap≤maxLen:=by
 rcases open_slice ht h with ⟨hcs,hd⟩|⟨a,l,c,m,n',D,Pl,hcs,_,hl,hm,hmm,hd,hx⟩
 ·cases hcs;cases hd;exact ⟨fun _ => .nil,.inl rfl,by simp [Rows.uptoBulkAll,Rows.uptoBulk],yax _,Nat.zero_le _⟩
 ·cases hcs;simp only [Prod.mk.injEq] at hd;obtain ⟨rfl,_⟩:=hd;simp only [if_true] at hmm;subst hmm;refine ⟨D,?_,bulks.slice_elems _ _,hl,hm⟩;rcases Nat.eq_zero_or_pos len with h0|h0
  ·exact .inl h0
  ·right;have hall:∀ i,i < len→∃ cs,DataW.trod enc Try.prog W 0 (fun _=>true) held n' e cs=some (D i,Pl i)∧cs.length=k∧∀ j,j < k→W.cell? (a.add (i * k+j))=cs[j]?:=by
    intro i hi;obtain ⟨cs,h1,h2⟩:=hx i (by omega);rw [hk] at h1;obtain ⟨_,hlen,hcell⟩:=World.cells?_some h1;refine ⟨cs,h2,hlen,fun j hj=>?_⟩;have:=hcell j hj;rw [add_add] at this;exact this
   obtain ⟨cs0,_,hl0,hc0⟩:=hall 0 h0;have hs:a.spot=none:=by
    have h1:=hc0 0 hk0;rw [List.getElem?_eq_getElem (by omega)] at h1;simp only [Nat.zero_mul,Nat.add_zero] at h1;exact zrv h1
   refine ⟨a.block,a.off,by cases a;simp at hs;rw [hs],fun i hi=>?_⟩;obtain ⟨cs,h1,h2,h3⟩:=hall i hi;refine ⟨cs,n',_,h1,h2,fun j hj=>?_⟩;have h4:=h3 j hj;obtain ⟨v,hv⟩:∃ v,cs[j]?=some v:=⟨_,List.getElem?_eq_getElem (by omega)⟩;rw [hv] at h4 ⊢;rw [zqh h4 hs,← Nat.add_assoc] at h4;exact h4
theorem int_one {n:Nat} {t:TypeId} (ht:Try.prog.underlying t=some (.int .i64)) {cs:List Value} {y:DataW H×List MemPlace} (h:DataW.trod enc Try.prog W 0 (fun _=>true) held n t cs=some y):∃ z,cs=[.int .i64 z]∧zcm z:=by
 obtain ⟨z,h1,h2,h3⟩:=DataW.trod_int ht h;refine ⟨z,h1,?_⟩;have h0:IntKind.i64.min = -9223372036854775808:=rfl;have h4:IntKind.i64.max=9223372036854775807:=rfl;simp only [Lit.wf,Bool.and_eq_true,decide_eq_true_eq] at h3;unfold zcm;omega
theorem cells2:Try.prog.cellsOf 2=1:=by kernel_rfl
instance:Inhabited OpD:=⟨⟨0,0,0,0⟩⟩
theorem zuw {α:Type} {n i:Nat} {f:Nat→α} {x:α} (h:((List.range n).map f)[i]?=some x):i < n∧x=f i:=by
 have hlt:=(yai.1 h).1;rw [List.length_map,List.length_range] at hlt;rw [List.getElem?_map,List.getElem?_range hlt] at h;exact ⟨hlt,(yaw h).symm⟩
end
end Go.Proofs.Ytofacoojpgkbiaa.OpenB
