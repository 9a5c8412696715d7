import Derived.Test.YtfmgnaigcibcaaaGreatDoorTQ8
import Derived.Deep.RegionHeld3
import Derived.Deep.MidRow
set_option linter.unusedSimpArgs false
set_option linter.unusedVariables false
namespace Go.Proofs.YtfmgnaigcibcaaaGreatDoor
open Go.RowKit
theorem far_cell {w:World} {b b' k i:Nat} (h:b≠b') (v:Value):(w.setCell ⟨b,k,none⟩ v).cell? ⟨b',i,none⟩=w.cell? ⟨b',i,none⟩:=World.cell?_setCell_other _ _ _ _ (by intro e;simp only [Addr.mk.injEq] at e;omega)
theorem Blk.conv {w:World} {g:Nat} {t:TypeId} {cs cs':Array Value} (h:Blk w g t cs) (e:cs=cs'):Blk w g t cs':=e ▸ h
theorem Blk.range {w:World} {g:Nat} {t:TypeId} {cs:Array Value} (h:Blk w g t cs) (o:Nat) (l:List Value) (hl:∀ j,j < l.length→cs[o+j]?=l[j]?):w.rangeAt g o l:=fun j v hv=>by
 have hj:j < l.length:=(List.getElem?_eq_some_iff.1 hv).1
 rw [h.cell,hl j hj,hv]
theorem Blk.there {w:World} {g:Nat} {t:TypeId} {cs:Array Value} (h:Blk w g t cs):w.there g 0 cs.size:=fun j hj=>by
 rw [h.cell,h.frozen]
 refine ⟨?_,rfl⟩
 rw [Array.getElem?_eq_getElem (by omega)]
 rfl
theorem Blk.farAll {w:World} {g b:Nat} {t:TypeId} {cs:Array Value} (hne:g≠b):∀ (vs:List Value) (o:Nat) (w:World),Blk w g t cs→Blk (w.setCells b o vs) g t cs
 | [],_,_,h=>h
 | v :: vs,o,w,h=>Blk.farAll (w:=w) hne vs (o+1) _ (Blk.far (p:=⟨b,o,none⟩) h hne v)
theorem Blk.rowSet {g:Nat} {t:TypeId}:∀ (vs cs pre:List Value) (w:World),vs.length=cs.length→Blk w g t (pre ++ cs).toArray→Blk (w.setCells g pre.length vs) g t (pre ++ vs).toArray
 | [],[],pre,w,_,h=>h
 | [],_ :: _,_,_,e,_=>nomatch e
 | _ :: _,[],_,_,e,_=>nomatch e
 | v :: vs,c :: cs,pre,w,e,h=>by
   have h1:=h.set_ pre.length v
   have e1:(pre ++ c :: cs).toArray.setIfInBounds pre.length v=((pre ++ [v]) ++ cs).toArray:=by simp
   rw [e1] at h1
   have h2:=Blk.rowSet vs cs (pre ++ [v]) _ (by simpa using e) h1
   have e2:(pre ++ [v]).length=pre.length+1:=by simp
   rw [e2] at h2
   have e3:(pre ++ v :: vs).toArray=((pre ++ [v]) ++ vs).toArray:=by simp
   rw [e3]
   exact h2
theorem Blk.whole {w:World} {g:Nat} {t:TypeId} {cs vs:Array Value} (h:Blk w g t cs) (hs:vs.size=cs.size):Blk (w.setCells g 0 vs.toList) g t vs:=by
 have h1:=Blk.rowSet vs.toList cs.toList [] w (by simpa using hs) (by simpa using h)
 simpa using h1
theorem Ext.setAll {w:World} {b:Nat} (hb:w.heap.size≤b):∀ (vs:List Value) (o:Nat) (w':World),Ext w w'→Ext w (w'.setCells b o vs)
 | [],_,_,h=>h
 | v :: vs,o,_,h=>Ext.setAll hb vs (o+1) _ (Ext.setCell (p:=⟨b,o,none⟩) h hb v)
theorem Is.putAll {F:Nat→Prop} {p:Pv} {q:Qp} {b:Nat} (hb:¬ F b):∀ (vs:List Value) (o:Nat) (w:World),Is w F p q→Is (w.setCells b o vs) F p q
 | [],_,_,h=>h
 | v :: vs,o,_,h=>Is.putAll hb vs (o+1) _ (h.put hb v)
section
variable {P:Program} {ops:Array Oper} {Q:Exit→Act→World→Prop} {md:Region.Mode} {S:World→Prop}
theorem take_any {i:Nat} {oi:Oper} {v:Value} {fuel:Nat} {listed:Array Bool} {a:Act} {w:World} {d:Tmp} (hi:ops[i]?=some oi) (hd:oi.dst=some d)
 (hs:Region.noSelect ops=true) (hf:Region.free md ops listed i=true) (hr:(Region.ready md ops listed).contains i=true)
 (hy:YieldsIf P ops S oi v a) (hS:S w)
 (h:wpAnyH P md ops (NoPanic Q) S fuel (listed.setIfInBounds i true) (a.put (some d) v) w):wpAnyH P md ops (NoPanic Q) S (fuel+1) listed a w:=
 wpAnyH_take hi hs hf hr (fun _ _ _ h=>h) hy hS (by rw [hd];exact h)
theorem take_load {i:Nat} {oi:Oper} {fuel:Nat} {listed:Array Bool} {a:Act} {w:World} {d:Tmp} {ty:TypeId} {x:Operand} {b o:Nat} {ds:TypeDesc} (cs:List Value) (hi:ops[i]?=some oi) (hd:oi.dst=some d) (ho:oi.op=.load ty x) (hg:oi.guard=none)
 (hs:Region.noSelect ops=true) (hf:Region.free md ops listed i=true) (hr:(Region.ready md ops listed).contains i=true)
 (hx:a.eval x=.pointer (some ⟨b,o,none⟩)) (hu:P.underlying ty=some ds) (hrow:ds.isRow=true) (hl:(P.info? ty).map (·.size)=some cs.length) (hSr:∀ w,S w→w.rangeAt b o cs) (hS:S w)
 (h:wpAnyH P md ops (NoPanic Q) S fuel (listed.setIfInBounds i true) (a.put (some d) (.agg cs.toArray)) w):wpAnyH P md ops (NoPanic Q) S (fuel+1) listed a w:=
 take_any hi hd hs hf hr (yieldsIf_load_mid (by simp [Region.wanted,hg]) ty x ho b o hx cs ds hSr hu hrow hl) hS h
theorem wpAnyH_one {i:Nat} {o:Oper} {fuel:Nat} {listed:Array Bool} {a:Act} {w:World} (hr:Region.ready md ops listed=[i]) (hi:ops[i]?=some o) (hw:Region.wanted o (yielded ops a.tmps)=true)
 (h:o.wp P a w (fun a' w'=>S w'∧wpAnyH P md ops Q S fuel (listed.setIfInBounds i true) a' w') Q):wpAnyH P md ops Q S (fuel+1) listed a w:=by
 refine wpAnyH_all hr (by simp) fun j hj=>?_
 obtain rfl:j=i:=by simpa using hj
 unfold wpOp
 simp only [hi,hw,if_true]
 exact .inl h
structure Stored (w:World) (g1 g2:Nat) (W:World):Prop where
 ext:∀ w0,Ext w0 w→w0.heap.size≤g1→w0.heap.size≤g2→Ext w0 W
 keeps:∀ F p q,Is w F p q→¬ F g1→¬ F g2→Is W F p q
 blk:∀ g t cs,Blk w g t cs→g≠g1→g≠g2→Blk W g t cs
theorem two_stores {n:Nat} {o1 o2 o3:Oper} {listed:Array Bool} {a:Act} {w:World} {ty:TypeId} {x1 y1 x2 y2 z:Operand} {g1 g2:Nat} {v1 v2:Array Value} {c1 c2:Array Value} {u:Value} {dd:Tmp}
 (hr1:Region.ready md ops listed=[n]) (hr2:Region.ready md ops (listed.setIfInBounds n true)=[n+1]) (hr3:Region.ready md ops ((listed.setIfInBounds n true).setIfInBounds (n+1) true)=[n+2])
 (hr4:Region.ready md ops (((listed.setIfInBounds n true).setIfInBounds (n+1) true).setIfInBounds (n+2) true)=[])
 (h1:ops[n]?=some o1) (h2:ops[n+1]?=some o2) (h3:ops[n+2]?=some o3)
 (p1:o1.op=.store ty x1 y1) (p2:o2.op=.store ty x2 y2) (p3:o3.op=.assign z)
 (d1:o1.dst=none) (d2:o2.dst=none) (d3:o3.dst=some dd) (e1:o1.guard=none) (e2:o2.guard=none) (e3:o3.guard=none)
 (a1:a.eval x1=.pointer (some ⟨g1,0,none⟩)) (b1:a.eval y1=.agg v1) (a2:a.eval x2=.pointer (some ⟨g2,0,none⟩)) (b2:a.eval y2=.agg v2) (hz:a.eval z=u)
 (hb1:Blk w g1 ty c1) (hb2:Blk w g2 ty c2) (s1:c1.size=v1.size) (s2:c2.size=v2.size) (hne:g2≠g1)
 (i1:(P.info? ty).map (·.size)=some v1.size) (i2:(P.info? ty).map (·.size)=some v2.size) (k1:v1.all (·.oneCell')=true) (k2:v2.all (·.oneCell')=true)
 (S1:S (w.setCells g1 0 v1.toList)) (S2:S ((w.setCells g1 0 v1.toList).setCells g2 0 v2.toList))
 (h:∀ W,Blk W g1 ty v1→Blk W g2 ty v2→Stored w g1 g2 W→Q .normal (a.put (some dd) u) W) (fuel:Nat):
 wpAnyH P md ops Q S (fuel+1+1+1) listed a w:=by
 have hp:∀ v,a.put none v=a:=fun _=>rfl
 rw [← d3] at h
 refine wpAnyH_one hr1 h1 (by simp [Region.wanted,e1]) (wp_store_mid ty x1 y1 p1 g1 0 v1 a1 b1 (by rw [← s1];exact hb1.there) i1 k1 ⟨S1,?_⟩)
 rw [d1,hp]
 refine wpAnyH_one hr2 h2 (by simp [Region.wanted,e2]) (wp_store_mid ty x2 y2 p2 g2 0 v2 a2 b2 (by rw [← s2];exact (Blk.farAll (w:=w) hne _ _ _ hb2).there) i2 k2 ⟨S2,?_⟩)
 rw [d2,hp]
 refine wpAnyH_one hr3 h3 (by simp [Region.wanted,e3]) ?_
 unfold Oper.wp execOp
 simp only [p3,hz]
 refine ⟨S2,wpAnyH_done hr4 (h _ (Blk.farAll (w:=w) (Ne.symm hne) _ _ _ (Blk.whole hb1 s1.symm)) (Blk.whole (Blk.farAll (w:=w) hne _ _ _ hb2) s2.symm) ⟨fun w0 h0 l1 l2=>?_,fun F p q hi n1 n2=>?_,fun g t cs hb n1 n2=>?_⟩) _⟩
 ·exact Ext.setAll l2 _ _ _ (Ext.setAll l1 _ _ _ h0)
 ·exact Is.putAll n2 _ _ _ (Is.putAll n1 _ _ _ hi)
 ·exact Blk.farAll (w:=w) n2 _ _ _ (Blk.farAll (w:=w) n1 _ _ _ hb)
theorem tf {i:Nat} {oi:Oper} {v:Value} {fuel:Nat} {listed:Array Bool} {a:Act} {w:World} {d:Tmp} (hi:ops[i]?=some oi) (hd:oi.dst=some d)
 (hy:∀ w,(execOp a.eval oi).run P w=.ok (.value v) w) (hS:S w)
 (h:wpAnyH P md ops (NoPanic Q) S fuel (listed.setIfInBounds i true) (a.put (some d) v) w)
 (hw:Region.wanted oi (yielded ops a.tmps)=true:=by kernel_rfl) (hs:Region.noSelect ops=true:=by kernel_rfl) (hf:Region.free md ops listed i=true:=by kernel_rfl) (hr:(Region.ready md ops listed).contains i=true:=by kernel_rfl):wpAnyH P md ops (NoPanic Q) S (fuel+1) listed a w:=
 take_any hi hd hs hf hr (.inl ⟨hw,fun w _=>hy w⟩) hS h
theorem tk {i:Nat} {oi:Oper} {fuel:Nat} {listed:Array Bool} {a:Act} {w:World} {d:Tmp} (hi:ops[i]?=some oi) (hd:oi.dst=some d) (hS:S w)
 (h:wpAnyH P md ops (NoPanic Q) S fuel (listed.setIfInBounds i true) (a.put (some d) undef) w)
 (hw:Region.wanted oi (yielded ops a.tmps)=false:=by kernel_rfl) (hs:Region.noSelect ops=true:=by kernel_rfl) (hf:Region.free md ops listed i=true:=by kernel_rfl) (hr:(Region.ready md ops listed).contains i=true:=by kernel_rfl):wpAnyH P md ops (NoPanic Q) S (fuel+1) listed a w:=
 take_any hi hd hs hf hr (.inr ⟨hw,rfl⟩) hS h
theorem tl {i:Nat} {oi:Oper} {fuel:Nat} {listed:Array Bool} {a:Act} {w:World} {d:Tmp} {ty:TypeId} {x:Operand} {b o:Nat} {ds:TypeDesc} (cs:List Value) (hi:ops[i]?=some oi) (hd:oi.dst=some d) (ho:oi.op=.load ty x) (hg:oi.guard=none)
 (hx:a.eval x=.pointer (some ⟨b,o,none⟩)) (hu:P.underlying ty=some ds) (hrow:ds.isRow=true) (hSr:∀ w,S w→w.rangeAt b o cs) (hS:S w)
 (h:wpAnyH P md ops (NoPanic Q) S fuel (listed.setIfInBounds i true) (a.put (some d) (.agg cs.toArray)) w)
 (hs:Region.noSelect ops=true:=by kernel_rfl) (hf:Region.free md ops listed i=true:=by kernel_rfl) (hr:(Region.ready md ops listed).contains i=true:=by kernel_rfl) (hl:(P.info? ty).map (·.size)=some cs.length:=by kernel_rfl):wpAnyH P md ops (NoPanic Q) S (fuel+1) listed a w:=
 take_any hi hd hs hf hr (yieldsIf_load_mid (by simp [Region.wanted,hg]) ty x ho b o hx cs ds hSr hu hrow hl) hS h
theorem tg {i:Nat} {oi:Oper} {fuel:Nat} {listed:Array Bool} {a:Act} {w:World} {d:Tmp} {ty:TypeId} {x:Operand} {b o:Nat} {ds:TypeDesc} (cs:List Value) (hi:ops[i]?=some oi) (hd:oi.dst=some d) (ho:oi.op=.load ty x)
 (hx:a.eval x=.pointer (some ⟨b,o,none⟩)) (hu:P.underlying ty=some ds) (hrow:ds.isRow=true) (hSr:∀ w,S w→w.rangeAt b o cs) (hS:S w)
 (h:wpAnyH P md ops (NoPanic Q) S fuel (listed.setIfInBounds i true) (a.put (some d) (.agg cs.toArray)) w)
 (hw:Region.wanted oi (yielded ops a.tmps)=true:=by kernel_rfl) (hs:Region.noSelect ops=true:=by kernel_rfl) (hf:Region.free md ops listed i=true:=by kernel_rfl) (hr:(Region.ready md ops listed).contains i=true:=by kernel_rfl) (hl:(P.info? ty).map (·.size)=some cs.length:=by kernel_rfl):wpAnyH P md ops (NoPanic Q) S (fuel+1) listed a w:=
 take_any hi hd hs hf hr (yieldsIf_load_mid hw ty x ho b o hx cs ds hSr hu hrow hl) hS h
end
end Go.Proofs.YtfmgnaigcibcaaaGreatDoor
