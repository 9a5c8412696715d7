import Derived.Test.YtlbhaimfjfdppaaGreatDoorZ
import Derived.Test.YtlbhaimfjfdppaaGreatDoorAp
import Derived.Test.YtlbhaimfjfdppaaGreatDoorN
import Derived.OpenShut
import Derived.ReadAgain
import Derived.Deep.Strs
import Derived.Shelf.Vars
import Derived.SizedLaws
set_option linter.unusedSimpArgs false
set_option linter.unusedVariables false
namespace Go.Proofs.YtlbhaimfjfdppaaGreatDoor
open Go.RowKit
theorem commute_back {a b c d:Qp} (h:a.commute b=(c,d,true)):c.commute d=(a,b,true)∧c.check=0∧d.check=0:=by
 unfold Qp.commute at h
 split at h
 ·simp only [Prod.mk.injEq] at h
  exact absurd h.2.2 (by decide)
 rename_i h0
 split at h
 ·simp only [Prod.mk.injEq] at h
  exact absurd h.2.2 (by decide)
 rename_i h1
 split at h
 ·rename_i h2
  simp only [Prod.mk.injEq,and_true] at h
  generalize hr:a.run b=R at h h1 h2
  obtain ⟨c',d',k⟩:=R
  dsimp only at h h1 h2
  obtain ⟨rfl,rfl⟩:=h
  obtain rfl:k=true:=by simpa using h1
  have hc:=run_ok hr rfl
  generalize hs:c'.run d'=S at h2
  obtain ⟨x,y,k2⟩:=S
  simp only [Bool.and_eq_true] at h2
  obtain ⟨rfl,h3,h4⟩:=h2
  have ex:=Qp.same_iff.1 h3
  have ey:=Qp.same_iff.1 h4
  subst ex ey
  refine ⟨?_,hc⟩
  unfold Qp.commute
  rw [if_neg (by simp [hc.1,hc.2]),hs]
  dsimp only
  rw [if_neg (by simp),hr]
  dsimp only
  rw [if_pos (by simp [Qp.same_iff.2 rfl])]
 ·simp only [Prod.mk.injEq] at h
  exact absurd h.2.2 (by decide)
theorem check_fits {q:Qp} (h:q.check=0):q.Fits:=by
 have s:=Qp.bounds h
 have t:=Qp.small h
 have h1:=s.path
 have h2:=s.to_
 exact ⟨by omega,by omega,by omega,by omega⟩
end Go.Proofs.YtlbhaimfjfdppaaGreatDoor
namespace Go.Proofs.YtlbhaimfjfdppaaGreatDoor
open Go Go.ChangeShapes Go.WideShapes Go.RowKit Go.Deep
theorem cInt:Tryz.prog.cellsOf 3=1:=by kernel_rfl
theorem cString:Tryz.prog.cellsOf 9=1:=by kernel_rfl
theorem cStrings:Tryz.prog.cellsOf 38=1:=by kernel_rfl
theorem cHunk:Tryz.prog.cellsOf 40=3:=by kernel_rfl
theorem cPrim:Tryz.prog.cellsOf 42=12:=by kernel_rfl
theorem bString:Tryz.prog.bytesOf 9=16:=by kernel_rfl
section
variable {H:Type} {enc:TypeId × Value→H} {W:World} {held:Bool}
theorem add_none (b o i:Nat):(⟨b,o,none⟩:Addr).add i=⟨b,o+i,none⟩:=by unfold Addr.add;split <;> simp_all
theorem weightsAll_mem {e:TypeId} {d:DataW H}:∀ {ds:List (DataW H)},d∈ds→∀ n∈d.weights Tryz.prog e,n∈DataW.weightsAll Tryz.prog e ds
 | d0 :: r,hd,n,hn=>by
   unfold DataW.weightsAll
   rcases List.mem_cons.1 hd with rfl | h
   ·exact List.mem_append_left _ hn
   ·exact List.mem_append_right _ (weightsAll_mem h n hn)
theorem open_list {fuel:Nat} {v:Value} {x:DataW H × List MemPlace} (h:DataW.trod enc Tryz.prog W 0 (fun _=>true) held fuel 38 [v]=some x) (hw:∀ n∈x.1.weights Tryz.prog 38,n≤reachBytes):
 ∃ A l c,v=.slice A l.length c∧Sl W A l.length c l∧l.length≤1152921504606846976∧∀ x∈l,x.size≤4611686018427387904:=by
 rcases open_strs Tryz.underlying38 Tryz.underlying9 cString h with ⟨e,_⟩ | ⟨a,len,cap,m,Sx,e,_,hlc,_,hm,hx,hc⟩
 ·obtain rfl:v=.slice none 0 0:=by simpa using e
  exact ⟨none,[],0,rfl,Sl.none W,Nat.zero_le _,fun _ h=>nomatch h⟩
 ·obtain rfl:v=.slice (some a) len cap:=by simpa using e
  have hm':m=cap:=by simpa using hm
  have hlen:((List.range len).map Sx).length=len:=by simp
  have hz:∀ x∈(List.range len).map Sx,x.size≤4611686018427387904:=fun x hxm=>by
   obtain ⟨i,hi,rfl⟩:=List.mem_map.1 hxm
   have hu:Tryz.prog.underlying 38=some (.slice 9):=Tryz.underlying38
   have h9:=hw (Sx i).data.toList.length (by
    rw [hx]
    simp only [DataW.weights,hu]
    exact List.mem_cons_of_mem _ (List.mem_append_left _ (weightsAll_mem (d:=.lit (.string (Sx i).data.toList)) (List.mem_map.2 ⟨i,hi,rfl⟩) _ (by simp [DataW.weights]))))
   unfold reachBytes at h9
   rw [Array.length_toList] at h9
   have h8:(Sx i).size=(Sx i).data.size:=rfl
   omega
  have hb:len≤1152921504606846976:=by
   rw [hx] at hw
   have hu:Tryz.prog.underlying 38=some (.slice 9):=Tryz.underlying38
   simp only [DataW.weights,hu,bString,List.length_map,List.length_range] at hw
   have:=hw _ (List.mem_cons_self ..)
   unfold reachBytes at this
   omega
  refine ⟨some a,(List.range len).map Sx,cap,by rw [hlen],?_,by rw [hlen];exact hb,hz⟩
  rw [hlen]
  refine ⟨⟨hlen,fun h0=>?_⟩,fun h=>nomatch h⟩
  obtain ⟨b,o,spot⟩:=a
  have h1:=(hc 0 (by omega)).1
  have hs:spot=none:=by simpa [Addr.add] using World.cell?_spot h1
  subst hs
  refine ⟨b,o,rfl,?_,fun j hj=>?_⟩
  ·have:=lt_of_cell h1
   rw [add_none] at this
   exact this
  ·have h2:=(hc j (by omega)).1
   rw [add_none] at h2
   rw [h2]
   congr 2
   rw [List.getD_eq_getElem?_getD,List.getElem?_eq_getElem (by omega)]
   simp
theorem weights_mem {ts:List TypeId} {ds:List (DataW H)} {j:Nat} {t:TypeId} {d:DataW H} (hw:∀ n∈DataW.weightsEach Tryz.prog ts ds,n≤reachBytes) (ht:ts[j]?=some t) (hd:ds[j]?=some d):∀ n∈d.weights Tryz.prog t,n≤reachBytes:=
 fun n hn=>hw n (DataW.weights_mem_each ht hd n hn)
set_option maxRecDepth 100000 in
theorem open_hunk {fuel:Nat} {v0 v1 v2:Value} {x:DataW H × List MemPlace} (h:DataW.trod enc Tryz.prog W 0 (fun _=>true) held fuel 40 [v0,v1,v2]=some x) (hw:∀ n∈x.1.weights Tryz.prog 40,n≤reachBytes):
 ∃ (z:Int) (A1:Option Addr) (l1:List ByteArray) (c1:Nat) (A2:Option Addr) (l2:List ByteArray) (c2:Nat),v0=.int .i64 z∧v1=.slice A1 l1.length c1∧v2=.slice A2 l2.length c2∧Sl W A1 l1.length c1 l1∧Sl W A2 l2.length c2 l2∧l1.length≤1152921504606846976∧l2.length≤1152921504606846976∧(∀ x∈l1,x.size≤4611686018427387904)∧∀ x∈l2,x.size≤4611686018427387904:=by
 obtain ⟨xs,n,_,rfl,_,hxl,hf⟩:=DataW.trod_struct Tryz.underlying40 h
 have hxl3:xs.length=3:=hxl
 match xs,hxl3 with
 | [y0,y1,y2],_=>
   have e0:DataW.trod enc Tryz.prog W 0 (fun _=>true) held n 3 (([v0,v1,v2].drop 0).take (Tryz.prog.cellsOf 3))=some y0:=hf 0 _ rfl
   have e1:DataW.trod enc Tryz.prog W 0 (fun _=>true) held n 38 (([v0,v1,v2].drop 1).take (Tryz.prog.cellsOf 38))=some y1:=hf 1 _ rfl
   have e2:DataW.trod enc Tryz.prog W 0 (fun _=>true) held n 38 (([v0,v1,v2].drop 2).take (Tryz.prog.cellsOf 38))=some y2:=hf 2 _ rfl
   rw [cInt] at e0
   rw [cStrings] at e1 e2
   have e0:DataW.trod enc Tryz.prog W 0 (fun _=>true) held n 3 [v0]=some y0:=e0
   have e1:DataW.trod enc Tryz.prog W 0 (fun _=>true) held n 38 [v1]=some y1:=e1
   have e2:DataW.trod enc Tryz.prog W 0 (fun _=>true) held n 38 [v2]=some y2:=e2
   have hu:Tryz.prog.underlying 40=some (.struct _):=Tryz.underlying40
   simp only [DataW.weights,hu] at hw
   obtain ⟨z,hz,_⟩:=DataW.trod_int Tryz.underlying3 e0
   obtain ⟨A1,l1,c1,h1,s1,b1,z1⟩:=open_list e1 (weights_mem (j:=1) hw rfl rfl)
   obtain ⟨A2,l2,c2,h2,s2,b2,z2⟩:=open_list e2 (weights_mem (j:=2) hw rfl rfl)
   exact ⟨z,A1,l1,c1,A2,l2,c2,by simpa using hz,h1,h2,s1,s2,b1,b2,z1,z2⟩
theorem str_size {n:Nat} {v:Value} {z:ByteArray} {y:DataW H × List MemPlace} (h:DataW.trod enc Tryz.prog W 0 (fun _=>true) held n 9 [v]=some y) (hw:∀ k∈y.1.weights Tryz.prog 9,k≤reachBytes) (hv:v=.string z):z.size≤140737488351232:=by
 obtain ⟨s,h1,h2,_⟩:=DataW.trod_string Tryz.underlying9 h
 have:v=.string s:=by simpa using h1
 rw [hv] at this
 obtain rfl:z=s:=by simpa using this
 rw [h2] at hw
 have h9:=hw z.data.toList.length (by simp [DataW.weights])
 unfold reachBytes at h9
 rw [Array.length_toList] at h9
 have h8:z.size=z.data.size:=rfl
 omega
structure Qp.Meek (q:Qp):Prop where
 old:q.old.length≤1152921504606846976
 new:q.new.length≤1152921504606846976
 olds:∀ x∈q.old,x.size≤4611686018427387904
 news:∀ x∈q.new,x.size≤4611686018427387904
 path:q.path.size≤140737488351232
 to_:q.to_.size≤140737488351232
set_option maxRecDepth 100000 in
set_option maxHeartbeats 1000000 in
theorem open_cells {fuel:Nat} {v0 v1 v2 v3 v4 v5 v6 v7 v8 v9 v10 v11:Value} {d:DataW H} {ps:List MemPlace} (h:DataW.trod enc Tryz.prog W 0 (fun _=>true) held fuel 42 [v0,v1,v2,v3,v4,v5,v6,v7,v8,v9,v10,v11]=some (d,ps)) (hw:∀ n∈d.weights Tryz.prog 42,n≤reachBytes):
 ∃ (p:Pv) (q:Qp),Value.agg #[v0,v1,v2,v3,v4,v5,v6,v7,v8,v9,v10,v11]=p.v∧Is W (fun _=>True) p q∧q.Meek:=by
 obtain ⟨xs,n,_,hx,_,hxl,hf⟩:=DataW.trod_struct Tryz.underlying42 h
 have hxl3:xs.length=10:=hxl
 match xs,hxl3 with
 | [y0,y1,y2,y3,y4,y5,y6,y7,y8,y9],_=>
   have e0:DataW.trod enc Tryz.prog W 0 (fun _=>true) held n 3 (([v0,v1,v2,v3,v4,v5,v6,v7,v8,v9,v10,v11].drop 0).take (Tryz.prog.cellsOf 3))=some y0:=hf 0 _ rfl
   rw [cInt] at e0
   have e0:DataW.trod enc Tryz.prog W 0 (fun _=>true) held n 3 [v0]=some y0:=e0
   have e1:DataW.trod enc Tryz.prog W 0 (fun _=>true) held n 9 (([v0,v1,v2,v3,v4,v5,v6,v7,v8,v9,v10,v11].drop 1).take (Tryz.prog.cellsOf 9))=some y1:=hf 1 _ rfl
   rw [cString] at e1
   have e1:DataW.trod enc Tryz.prog W 0 (fun _=>true) held n 9 [v1]=some y1:=e1
   have e2:DataW.trod enc Tryz.prog W 0 (fun _=>true) held n 9 (([v0,v1,v2,v3,v4,v5,v6,v7,v8,v9,v10,v11].drop 2).take (Tryz.prog.cellsOf 9))=some y2:=hf 2 _ rfl
   rw [cString] at e2
   have e2:DataW.trod enc Tryz.prog W 0 (fun _=>true) held n 9 [v2]=some y2:=e2
   have e3:DataW.trod enc Tryz.prog W 0 (fun _=>true) held n 3 (([v0,v1,v2,v3,v4,v5,v6,v7,v8,v9,v10,v11].drop 3).take (Tryz.prog.cellsOf 3))=some y3:=hf 3 _ rfl
   rw [cInt] at e3
   have e3:DataW.trod enc Tryz.prog W 0 (fun _=>true) held n 3 [v3]=some y3:=e3
   have e4:DataW.trod enc Tryz.prog W 0 (fun _=>true) held n 40 (([v0,v1,v2,v3,v4,v5,v6,v7,v8,v9,v10,v11].drop 4).take (Tryz.prog.cellsOf 40))=some y4:=hf 4 _ rfl
   rw [cHunk] at e4
   have e4:DataW.trod enc Tryz.prog W 0 (fun _=>true) held n 40 [v4,v5,v6]=some y4:=e4
   have e5:DataW.trod enc Tryz.prog W 0 (fun _=>true) held n 3 (([v0,v1,v2,v3,v4,v5,v6,v7,v8,v9,v10,v11].drop 7).take (Tryz.prog.cellsOf 3))=some y5:=hf 5 _ rfl
   rw [cInt] at e5
   have e5:DataW.trod enc Tryz.prog W 0 (fun _=>true) held n 3 [v7]=some y5:=e5
   have e6:DataW.trod enc Tryz.prog W 0 (fun _=>true) held n 9 (([v0,v1,v2,v3,v4,v5,v6,v7,v8,v9,v10,v11].drop 8).take (Tryz.prog.cellsOf 9))=some y6:=hf 6 _ rfl
   rw [cString] at e6
   have e6:DataW.trod enc Tryz.prog W 0 (fun _=>true) held n 9 [v8]=some y6:=e6
   have e7:DataW.trod enc Tryz.prog W 0 (fun _=>true) held n 9 (([v0,v1,v2,v3,v4,v5,v6,v7,v8,v9,v10,v11].drop 9).take (Tryz.prog.cellsOf 9))=some y7:=hf 7 _ rfl
   rw [cString] at e7
   have e7:DataW.trod enc Tryz.prog W 0 (fun _=>true) held n 9 [v9]=some y7:=e7
   have e8:DataW.trod enc Tryz.prog W 0 (fun _=>true) held n 3 (([v0,v1,v2,v3,v4,v5,v6,v7,v8,v9,v10,v11].drop 10).take (Tryz.prog.cellsOf 3))=some y8:=hf 8 _ rfl
   rw [cInt] at e8
   have e8:DataW.trod enc Tryz.prog W 0 (fun _=>true) held n 3 [v10]=some y8:=e8
   have e9:DataW.trod enc Tryz.prog W 0 (fun _=>true) held n 3 (([v0,v1,v2,v3,v4,v5,v6,v7,v8,v9,v10,v11].drop 11).take (Tryz.prog.cellsOf 3))=some y9:=hf 9 _ rfl
   rw [cInt] at e9
   have e9:DataW.trod enc Tryz.prog W 0 (fun _=>true) held n 3 [v11]=some y9:=e9
   have ed:d=.agg ([y0,y1,y2,y3,y4,y5,y6,y7,y8,y9].map (·.1)):=congrArg Prod.fst hx
   subst ed
   have hu:Tryz.prog.underlying 42=some (.struct _):=Tryz.underlying42
   simp only [DataW.weights,hu] at hw
   obtain ⟨z0,g0,_⟩:=DataW.trod_int Tryz.underlying3 e0
   obtain rfl:v0=.int .i64 z0:=by simpa using g0
   obtain ⟨z1,g1,_⟩:=DataW.trod_string Tryz.underlying9 e1
   have t1:=str_size e1 (weights_mem (j:=1) hw rfl rfl) (by simpa using g1)
   obtain rfl:v1=.string z1:=by simpa using g1
   obtain ⟨z2,g2,_⟩:=DataW.trod_string Tryz.underlying9 e2
   have t2:=str_size e2 (weights_mem (j:=2) hw rfl rfl) (by simpa using g2)
   obtain rfl:v2=.string z2:=by simpa using g2
   obtain ⟨z3,g3,_⟩:=DataW.trod_int Tryz.underlying3 e3
   obtain rfl:v3=.int .i64 z3:=by simpa using g3
   obtain ⟨z4,A1,l1,c1,A2,l2,c2,rfl,rfl,rfl,s1,s2,b1,b2,n1,n2⟩:=open_hunk e4 (weights_mem (j:=4) hw rfl rfl)
   obtain ⟨z5,g5,_⟩:=DataW.trod_int Tryz.underlying3 e5
   obtain rfl:v7=.int .i64 z5:=by simpa using g5
   obtain ⟨z6,g6,_⟩:=DataW.trod_string Tryz.underlying9 e6
   obtain rfl:v8=.string z6:=by simpa using g6
   obtain ⟨z7,g7,_⟩:=DataW.trod_string Tryz.underlying9 e7
   obtain rfl:v9=.string z7:=by simpa using g7
   obtain ⟨z8,g8,_⟩:=DataW.trod_int Tryz.underlying3 e8
   obtain rfl:v10=.int .i64 z8:=by simpa using g8
   obtain ⟨z9,g9,_⟩:=DataW.trod_int Tryz.underlying3 e9
   obtain rfl:v11=.int .i64 z9:=by simpa using g9
   exact ⟨(⟨z0,z1,z2,z3,z4,l1,l2,z5,z6,z7,z8,z9⟩:Qp).pv A1 c1 A2 c2,⟨z0,z1,z2,z3,z4,l1,l2,z5,z6,z7,z8,z9⟩,rfl,⟨A1,c1,A2,c2,rfl,⟨s1,s2⟩,(fun _ _ _=>trivial),(fun _ _ _=>trivial)⟩,⟨b1,b2,n1,n2,t1,t2⟩⟩
theorem kids:Kids Tryz.prog (· < Tryz.prog.types.size):=kids_rows (by kernel_rfl) (by kernel_rfl)
theorem slices_full:∀ t e,t < Tryz.prog.types.size→Tryz.prog.underlying t=some (.slice e)→0 < Tryz.prog.cellsOf e:=slices_full_of Tryz.prog (by kernel_rfl)
theorem carryAll {w':World} {sp:Nat→Bool}:∀ {ts:List TypeId} {vs:List Value} {ds:List (DataW H)} {ps:List MemPlace},DataW.TrodAll enc Tryz.prog W 0 sp held ts vs ds ps→(∀ p∈ps,W.sameAt w' p)→DataW.TrodAll enc Tryz.prog w' 0 sp held ts vs ds ps
 | [],[],[],_,h,_=>h
 | _ :: _,_ :: _,_ :: _,_,⟨p,q,⟨n,h1⟩,h2,e⟩,hs=>⟨p,q,⟨n,DataW.trod_carry n _ _ _ h1 (fun x hx=>hs x (by rw [e];exact List.mem_append_left _ hx))⟩,carryAll h2 (fun x hx=>hs x (by rw [e];exact List.mem_append_right _ hx)),e⟩
set_option maxRecDepth 100000 in
theorem post_of_ext {f:Func} {s:ChangeSpec} {apart fresh handsOn again:Bool} {W':World} {args:Array Value} {v:Value} {ds:List (DataW H)} {before:List MemPlace} (hvars:s.vars=[])
 (hW:DataW.Whole enc Tryz.prog f.params.toList s.vars apart W args.toList ds [] before) (hx:Ext W W') (hT:∀ t∈f.params.toList,t < Tryz.prog.types.size)
 (hres:∀ (b:Nat) (sp:Nat→Bool) (hd:Bool),DataW.TrodAll enc Tryz.prog W' b sp hd f.resultTypes.toList (v.resultList f.resultTypes.size) (s.fn H ds).results [])
 (hargs:(s.fn H ds).args=ds) (hgs:(s.fn H ds).vars=[])
 (hok:∀ (j:Nat) (t:TypeId) (r:Value),f.resultTypes[j]?=some t→(v.resultList f.resultTypes.size)[j]?=some r→Value.okWide Tryz.prog W' .any 0 t r):
 s.post enc Tryz.prog f apart fresh handsOn again W args v W':=by
 have hlt:=hW.lt
 have hW0:=hW
 obtain ⟨p,q,hA,hV,rfl,hfz,hnd⟩:=hW
 rw [hvars] at hV
 have hq:q=[]:=hV
 subst hq
 rw [List.append_nil] at *
 have again':∀ sp:Nat→Bool,(∀ x∈p,sp x.block=true)→DataW.TrodAll enc Tryz.prog W' 0 sp true f.params.toList args.toList ds p:=fun sp hsp=>
  carryAll (DataW.TrodAll.respare kids (fun t e ht hu=>slices_full t e ht hu) hT hA hsp) (fun x hx'=>hx.same (hlt x hx'))
 have hv':∀ sp:Nat→Bool,DataW.TrodVars enc Tryz.prog W' sp s.vars (s.fn H ds).vars []:=fun sp=>by rw [hvars,hgs];exact rfl
 refine ⟨ds,[],p,[],p,[],hW0,?_,?_,?_,World.keptBut_mono (fun x hx'=>⟨hx',Or.inr (Or.inl hx')⟩) (hx.frame (·∈p)),fun _=>?_⟩
 ·rw [List.append_nil];exact hres _ _ _
 ·rw [List.append_nil,hargs];exact again' _ (fun x hx'=>by simpa using hlt x hx')
 ·rw [List.append_nil];exact hv' _
 ·have hall:=trodAll_append (again' (fun _=>true) (fun _ _=>rfl)) (hres 0 (fun _=>true) true)
  have hvv:DataW.TrodVars (H:=H) enc Tryz.prog W' (fun _=>true) s.vars [] []:=by rw [hvars];exact rfl
  have hz:W'.noneFrozen (([] ++ p) ++ []):=fun b off hp=>by
   have hp':MemPlace.cell b off∈p:=by simpa using hp
   rw [hx.frozen (p:=⟨b,off,none⟩) (hlt _ hp')]
   exact hfz b off hp'
  have hn:apart=true→(([] ++ p) ++ []).Nodup:=fun ha=>by simpa using hnd ha
  exact ⟨hok,_,[],([] ++ p) ++ [],⟨[] ++ p,[],hall,hvv,rfl,hz,hn⟩,fun x hx' _=>by simpa using hx'⟩
end
end Go.Proofs.YtlbhaimfjfdppaaGreatDoor
