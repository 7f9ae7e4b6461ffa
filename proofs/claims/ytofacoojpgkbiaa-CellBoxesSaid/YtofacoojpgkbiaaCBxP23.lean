/-
  A part of a proof. No condition of its own.
-/
import Derived.Test.YtofacoojpgkbiaaCBxP19
import Derived.Deep.DeepCutAuto
set_option linter.unusedVariables false
set_option maxHeartbeats 8000000
set_option linter.unusedSimpArgs false
namespace Go.Proofs.Ytofacoojpgkbiaa
open Go.Conc Go.RowKit
open Go.ConcN (upd upd_ne upd_same)
set_option maxRecDepth 100000
noncomputable def c5:Code:=(Try.f5.body).getD .skip
def sW (j:Nat):GateS:=⟨0,[],fun i=>if i < j then 0 else -1⟩
theorem setW (j:Nat) (hj:j < 64):(setR (sW j) j 0).1=0∧(setR (sW j) j 0).2.ser=(sW (j+1)).ser∧(setR (sW j) j 0).2.mem=(sW (j+1)).mem∧∀ i,i < 64→(sW (j+1)).num i=(setR (sW j) j 0).2.num i:=by
 unfold setR;rw [if_neg (by omega)];refine ⟨rfl,rfl,rfl,fun i hi=>?_⟩;show (if i < j+1 then (0:Int) else -1)=upd (fun i=>if i < j then (0:Int) else -1) ((j:Int)).toNat 0 i;rw [show ((j:Int)).toNat=j by omega];by_cases h:i=j
 ·subst h;rw [upd_same,if_pos (by omega)]
 ·rw [upd_ne _ _ h];by_cases h2:i < j
  ·rw [if_pos h2,if_pos (by omega)]
  ·rw [if_neg h2,if_neg (by omega)]
section
variable {w0 w w':World} {gz gw:Nat} {sz sw s':GateS} {oz ow o':Nat→Owner}
end
section
variable {Z:Machine→Trace→Prop} {c:Frame} {cs:List Frame} {gz gw:Nat} {oz:Nat→Owner} {R:List Item} {w0:World} {va:Value}
end
section
variable {w0 w w':World} {gz gw N:Nat} {s:GateS} {o:OpD} {z x:Nat→Value} {listed:Array Bool} {oz ow oz' ow':Nat→Owner}
theorem zdi {listed:Array Bool} {i j:Nat} (h:j≠i):(listed.setIfInBounds i true).getD j false=listed.getD j false:=by
 by_cases hj:j < listed.size
 ·simp only [Array.getD,Array.size_setIfInBounds,hj,dite_true,Array.getInternal_eq_getElem];rw [Array.getElem_setIfInBounds_ne _ (fun e=>h e.symm)]
 ·simp [Array.getD,hj]
end
section
variable {Z:Machine→Trace→Prop} {Q:Nat→SM GateS→Prop} {o:Os×Array (Nat×ByteArray)} {gb sb:Nat} {s s':GateS} {own:Nat→Owner} {w:World} {c:Frame} {cs:List Frame}
end
theorem za8 {P:Program} {Z:Machine→Trace→Prop} {b:Frame} {a:Act} {k:List Item} {cs:List Frame} {w:World} {ops:Array Oper} {i:Nat} {rest:List Nat} {o:Oper} {v:Value} (ho:ops[i]?=some o) (hw:Region.wanted o (yielded ops a.tmps)=true) (hk:b.kind ≠ .early) (hc:zci true P (fun _=>False) o)
  (hr:∀ wp,Sim wp w→(execOp a.eval o).run P wp = .ok (.value v) wp) (h:RM P Z (G (b.at (a.put o.dst v) (.inRegion ops rest::k)) cs) w):RM P Z (G (b.at a (.inRegion ops (i::rest)::k)) cs) w :=
 x_op rm_xc (zax w) ho hw hk hc (n := .value v) (.inl rfl) (hr _ (by rw [zbx];exact .refl _)) rfl fun d w1 h1 h2 h3=>by
  have hw1:w1=w.at d:=zf8 h2.okd (show Okd _ (w.at d) from (zax w).okd) h1
  subst hw1;exact rm_xc.at_ _ _ _ h
section
variable {Z:Machine→Trace→Prop} {c:Frame} {cs:List Frame} {w0 w:World} {gz gw N:Nat} {s:GateS} {o:OpD} {z:Nat→Value} {oz ow:Nat→Owner} {R:List Item}
end
noncomputable def c4:Code:=(Try.f4.body).getD .skip
noncomputable def mk (sb:Nat) (o:Nat→Owner):Nat→Owner:=upd o sb .tun
section
variable {w0 w w':World} {gz gw sb n n':Nat} {sz sw s':GateS} {oz ow o':Nat→Owner}
end
section
variable {w0 w w':World} {gz gw sb jj b off len cap n:Nat} {s:GateS} {o:OpD} {z x:Nat→Value} {listed:Array Bool} {oz ow oz' ow':Nat→Owner}
end
section
variable {Z:Machine→Trace→Prop} {c:Frame} {cs:List Frame} {w0 w:World} {gz gw sb N jj b off len cap n:Nat} {s:GateS} {o:OpD} {z:Nat→Value} {oz ow:Nat→Owner} {R:List Item}
end
theorem zu1 {w w':World} (τ:Nat→Question→Nat) (d:Nat) (h:LeftW w w'):LeftW w (re τ d w'):=⟨h.same,h.size,h.outs⟩
section
variable {Z:Machine→Trace→Prop} {c:Frame} {cs:List Frame} {w:World}
end
section
variable {Z:Machine→Trace→Prop} {c:Frame} {cs:List Frame} {w0 w:World} {gz gw N K K':Nat} {s:GateS} {o:OpD} {r:Ans} {u1 u2:Value} {z:Nat→Value} {oz ow:Nat→Owner} {R:List Item}
end
theorem zpb {P:Program} {Z:Machine→Trace→Prop} {b:Frame} {a:Act} {k:List Item} {cs:List Frame} {w w2:World} {ops:Array Oper} {i:Nat} {rest:List Nat} {o:Oper} {v:Value} (ho:ops[i]?=some o) (hw:Region.wanted o (yielded ops a.tmps)=true) (hk:b.kind ≠ .early) (hc:zci true P (fun _=>False) o)
  (hr:(execOp a.eval o).run P w = .ok (.value v) w2) (hdr:w2.drawn=w.drawn) (h:∀ w1,Sim w1 w2→RM P Z (G (b.at (a.put o.dst v) (.inRegion ops rest::k)) cs) w1):RM P Z (G (b.at a (.inRegion ops (i::rest)::k)) cs) w :=
 x_op rm_xc (zax w) ho hw hk hc (n := .value v) (.inl rfl) (by rw [zbx];exact hr) hdr fun d w1 e _ _=>h w1 (by rw [zbx] at e;subst e;exact ⟨w.tape,d,rfl⟩)
theorem Tab.at {tv:Nat→Option Value} {d j s:Nat} {v:Value} {listed:Array Bool} {x:Nat→Value} (h:Tab tv d listed x) (hl:listed.getD j false=true) (ht:tv j=some v) (hs:d+j=s):x s=v:=hs▸h j v ht hl
section
variable {W w w':World} {tv:Nat→Option Value} {r:Ans} {z x:Nat→Value} {listed:Array Bool}
end
section
variable {Z:Machine→Trace→Prop} {c:Frame} {cs:List Frame} {W:World} {N K K' ba oa ca bb ob ln cap jj:Nat} {r:Ans} {u1 u2 v3 vo vs st:Value} {z:Nat→Value} {R:List Item}
end
section
variable {Z:Machine→Trace→Prop} {gb:Nat} {s:GateS} {own:Nat→Owner} {w:World} {c:Frame} {cs:List Frame}
end
theorem zap {o:Oper} {ops:Array Oper} {tmps:Array Value} {g sl:Nat} {b:Bool} (ho:o.guard=some (g,b)) (hd:(ops[g]?).bind (·.dst)=some sl) (hy:tmps[sl]?=some (.bool b)):Region.wanted o (yielded ops tmps)=true:=by
 unfold Region.wanted yielded;rw [ho];simp only [hd,Option.bind_some,hy];cases b<;>rfl
section
variable {w0 w w':World} {gz gw sb n:Nat} {sz sw s':GateS} {oz ow o':Nat→Owner}
end
def tv14 (gz gw sb N bs os sl cst m:Nat) (vo:Value) (ol:Nat):Nat→Option Value
 | 0=>some (gpv gz)|3=>some (.pointer (some ⟨N,2,none⟩))|4=>some (.slice (some ⟨bs,os,none⟩) sl cst)|5=>some (.int .i64 m)|6=>some (.int .i64 ((m+1:Nat):Int))|7=>some (.slice (some ⟨bs,os+1,none⟩) m (cst - 1))|8=>some (.bool true)|9=>some (.bool true)
 | 10=>some (gpv gz)|12=>some (.pointer (some ⟨N,2,none⟩))|13=>some (.slice (some ⟨bs,os,none⟩) sl cst)|14=>some (.int .i64 m)|15=>some (.int .i64 ((m+1:Nat):Int))|16=>some (.slice (some ⟨bs,os+(m+1),none⟩) (sl - (m+1)) (cst - (m+1)))|17=>some (.bool true)|18=>some (.bool true)|19=>some (.bool true)
 | 20=>some (gpv gw)|23=>some (.pointer (some ⟨N,2,none⟩))|24=>some (.slice (some ⟨bs,os,none⟩) sl cst)|25=>some (.int .i64 m)|26=>some (.int .i64 ((m+1:Nat):Int))|27=>some (.slice (some ⟨bs,os+1,none⟩) m (cst - 1))|28=>some (.bool true)|29=>some (.bool true)|30=>some (.bool true)
 | 31=>some (.pointer (some ⟨sb,0,none⟩))|32=>some (.pointer (some ⟨sb,0,none⟩))|33=>some (.pointer (some ⟨sb,0,none⟩))|34=>some (.int .i64 ol)|35=>some (.pointer (some ⟨N,1,none⟩))|36=>some vo|37=>some (.int .i64 ol)|38=>some (.bool true)|39=>some (.bool true)
 | _=>none
section
variable {w0 w w':World} {gz gw sb ol:Nat} {s:GateS} {tv:Nat→Option Value} {z x:Nat→Value} {listed:Array Bool} {oz ow oz' ow':Nat→Owner}
end
section
variable {Z:Machine→Trace→Prop} {cs:List Frame} {w0 W:World} {gz gw sb N bs os sl cst m ol co:Nat} {po:Option Addr} {s:GateS} {va:Value} {st:Bool} {z:Nat→Value} {oz ow:Nat→Owner} {R:List Item}
end
end Go.Proofs.Ytofacoojpgkbiaa
