import Derived.Test.YtfmgnaigcibcaaaGreatDoorTQ8
import Derived.OpenShut
import Derived.ReadAgain
import Derived.Deep.Strs
import Derived.Shelf.Vars
import Derived.SizedLaws
import Derived.Test.YtfmgnaigcibcaaaGreatDoorTQ1
import Derived.Deep.Slices
set_option linter.unusedSimpArgs false
set_option linter.unusedVariables false
namespace Go.Proofs.YtfmgnaigcibcaaaGreatDoor
open Go Go.ChangeShapes Go.WideShapes Go.RowKit Go.Deep
theorem cInt:Tryz.prog.cellsOf 3=1:=by kernel_rfl
theorem cString:Tryz.prog.cellsOf 9=1:=by kernel_rfl
theorem cStrings:Tryz.prog.cellsOf 24=1:=by kernel_rfl
theorem cHunk:Tryz.prog.cellsOf 26=3:=by kernel_rfl
theorem cPrim:Tryz.prog.cellsOf 28=12:=by kernel_rfl
theorem bString:Tryz.prog.bytesOf 9=16:=by kernel_rfl
section
variable {H:Type} {enc:TypeId × Value→H} {W:World} {held:Bool}
theorem add_none (b o i:Nat):(⟨b,o,none⟩:Addr).add i=⟨b,o+i,none⟩:=by unfold Addr.add;split <;> simp_all
theorem weightsAll_mem {e:TypeId} {d:DataW H}:∀ {ds:List (DataW H)},d∈ds→∀ n∈d.weights Tryz.prog e,n∈DataW.weightsAll Tryz.prog e ds
 | d0 :: r,hd,n,hn=>by
   unfold DataW.weightsAll
   rcases List.mem_cons.1 hd with rfl | h
   ·exact List.mem_append_left _ hn
   ·exact List.mem_append_right _ (weightsAll_mem h n hn)
theorem open_list {fuel:Nat} {v:Value} {x:DataW H × List MemPlace} (h:DataW.trod enc Tryz.prog W 0 (fun _=>true) held fuel 24 [v]=some x) (hw:∀ n∈x.1.weights Tryz.prog 24,n≤reachBytes):
 ∃ A l c,v=.slice A l.length c∧Sl W A l.length c l∧l.length≤1152921504606846976∧∀ x∈l,x.size≤4611686018427387904:=by
 rcases open_strs Tryz.underlying24 Tryz.underlying9 cString h with ⟨e,_⟩ | ⟨a,len,cap,m,Sx,e,_,hlc,_,hm,hx,hc⟩
 ·obtain rfl:v=.slice none 0 0:=by simpa using e
  exact ⟨none,[],0,rfl,Sl.none W,Nat.zero_le _,fun _ h=>nomatch h⟩
 ·obtain rfl:v=.slice (some a) len cap:=by simpa using e
  have hm':m=cap:=by simpa using hm
  have hlen:((List.range len).map Sx).length=len:=by simp
  have hz:∀ x∈(List.range len).map Sx,x.size≤4611686018427387904:=fun x hxm=>by
   obtain ⟨i,hi,rfl⟩:=List.mem_map.1 hxm
   have hu:Tryz.prog.underlying 24=some (.slice 9):=Tryz.underlying24
   have h9:=hw (Sx i).data.toList.length (by
    rw [hx]
    simp only [DataW.weights,hu]
    exact List.mem_cons_of_mem _ (List.mem_append_left _ (weightsAll_mem (d:=.lit (.string (Sx i).data.toList)) (List.mem_map.2 ⟨i,hi,rfl⟩) _ (by simp [DataW.weights]))))
   unfold reachBytes at h9
   rw [Array.length_toList] at h9
   have h8:(Sx i).size=(Sx i).data.size:=rfl
   omega
  have hb:len≤1152921504606846976:=by
   rw [hx] at hw
   have hu:Tryz.prog.underlying 24=some (.slice 9):=Tryz.underlying24
   simp only [DataW.weights,hu,bString,List.length_map,List.length_range] at hw
   have:=hw _ (List.mem_cons_self ..)
   unfold reachBytes at this
   omega
  refine ⟨some a,(List.range len).map Sx,cap,by rw [hlen],?_,by rw [hlen];exact hb,hz⟩
  rw [hlen]
  refine ⟨⟨hlen,fun h0=>?_⟩,fun h=>nomatch h⟩
  obtain ⟨b,o,spot⟩:=a
  have h1:=(hc 0 (by omega)).1
  have hs:spot=none:=by simpa [Addr.add] using World.cell?_spot h1
  subst hs
  refine ⟨b,o,rfl,?_,fun j hj=>?_⟩
  ·have:=lt_of_cell h1
   rw [add_none] at this
   exact this
  ·have h2:=(hc j (by omega)).1
   rw [add_none] at h2
   rw [h2]
   congr 2
   rw [List.getD_eq_getElem?_getD,List.getElem?_eq_getElem (by omega)]
   simp
theorem weights_mem {ts:List TypeId} {ds:List (DataW H)} {j:Nat} {t:TypeId} {d:DataW H} (hw:∀ n∈DataW.weightsEach Tryz.prog ts ds,n≤reachBytes) (ht:ts[j]?=some t) (hd:ds[j]?=some d):∀ n∈d.weights Tryz.prog t,n≤reachBytes:=
 fun n hn=>hw n (DataW.weights_mem_each ht hd n hn)
set_option maxRecDepth 100000 in
theorem open_hunk {fuel:Nat} {v0 v1 v2:Value} {x:DataW H × List MemPlace} (h:DataW.trod enc Tryz.prog W 0 (fun _=>true) held fuel 26 [v0,v1,v2]=some x) (hw:∀ n∈x.1.weights Tryz.prog 26,n≤reachBytes):
 ∃ (z:Int) (A1:Option Addr) (l1:List ByteArray) (c1:Nat) (A2:Option Addr) (l2:List ByteArray) (c2:Nat),v0=.int .i64 z∧v1=.slice A1 l1.length c1∧v2=.slice A2 l2.length c2∧Sl W A1 l1.length c1 l1∧Sl W A2 l2.length c2 l2∧l1.length≤1152921504606846976∧l2.length≤1152921504606846976∧(∀ x∈l1,x.size≤4611686018427387904)∧∀ x∈l2,x.size≤4611686018427387904:=by
 obtain ⟨xs,n,_,rfl,_,hxl,hf⟩:=DataW.trod_struct Tryz.underlying26 h
 have hxl3:xs.length=3:=hxl
 match xs,hxl3 with
 | [y0,y1,y2],_=>
   have e0:DataW.trod enc Tryz.prog W 0 (fun _=>true) held n 3 (([v0,v1,v2].drop 0).take (Tryz.prog.cellsOf 3))=some y0:=hf 0 _ rfl
   have e1:DataW.trod enc Tryz.prog W 0 (fun _=>true) held n 24 (([v0,v1,v2].drop 1).take (Tryz.prog.cellsOf 24))=some y1:=hf 1 _ rfl
   have e2:DataW.trod enc Tryz.prog W 0 (fun _=>true) held n 24 (([v0,v1,v2].drop 2).take (Tryz.prog.cellsOf 24))=some y2:=hf 2 _ rfl
   rw [cInt] at e0
   rw [cStrings] at e1 e2
   have e0:DataW.trod enc Tryz.prog W 0 (fun _=>true) held n 3 [v0]=some y0:=e0
   have e1:DataW.trod enc Tryz.prog W 0 (fun _=>true) held n 24 [v1]=some y1:=e1
   have e2:DataW.trod enc Tryz.prog W 0 (fun _=>true) held n 24 [v2]=some y2:=e2
   have hu:Tryz.prog.underlying 26=some (.struct _):=Tryz.underlying26
   simp only [DataW.weights,hu] at hw
   obtain ⟨z,hz,_⟩:=DataW.trod_int Tryz.underlying3 e0
   obtain ⟨A1,l1,c1,h1,s1,b1,z1⟩:=open_list e1 (weights_mem (j:=1) hw rfl rfl)
   obtain ⟨A2,l2,c2,h2,s2,b2,z2⟩:=open_list e2 (weights_mem (j:=2) hw rfl rfl)
   exact ⟨z,A1,l1,c1,A2,l2,c2,by simpa using hz,h1,h2,s1,s2,b1,b2,z1,z2⟩
theorem str_size {n:Nat} {v:Value} {z:ByteArray} {y:DataW H × List MemPlace} (h:DataW.trod enc Tryz.prog W 0 (fun _=>true) held n 9 [v]=some y) (hw:∀ k∈y.1.weights Tryz.prog 9,k≤reachBytes) (hv:v=.string z):z.size≤140737488351232:=by
 obtain ⟨s,h1,h2,_⟩:=DataW.trod_string Tryz.underlying9 h
 have:v=.string s:=by simpa using h1
 rw [hv] at this
 obtain rfl:z=s:=by simpa using this
 rw [h2] at hw
 have h9:=hw z.data.toList.length (by simp [DataW.weights])
 unfold reachBytes at h9
 rw [Array.length_toList] at h9
 have h8:z.size=z.data.size:=rfl
 omega
structure Qp.Meek (q:Qp):Prop where
 old:q.old.length≤1152921504606846976
 new:q.new.length≤1152921504606846976
 olds:∀ x∈q.old,x.size≤4611686018427387904
 news:∀ x∈q.new,x.size≤4611686018427387904
 path:q.path.size≤140737488351232
 to_:q.to_.size≤140737488351232
set_option maxRecDepth 100000 in
set_option maxHeartbeats 1000000 in
theorem open_cells {fuel:Nat} {v0 v1 v2 v3 v4 v5 v6 v7 v8 v9 v10 v11:Value} {d:DataW H} {ps:List MemPlace} (h:DataW.trod enc Tryz.prog W 0 (fun _=>true) held fuel 28 [v0,v1,v2,v3,v4,v5,v6,v7,v8,v9,v10,v11]=some (d,ps)) (hw:∀ n∈d.weights Tryz.prog 28,n≤reachBytes):
 ∃ (p:Pv) (q:Qp),Value.agg #[v0,v1,v2,v3,v4,v5,v6,v7,v8,v9,v10,v11]=p.v∧Is W (fun _=>True) p q∧q.Meek:=by
 obtain ⟨xs,n,_,hx,_,hxl,hf⟩:=DataW.trod_struct Tryz.underlying28 h
 have hxl3:xs.length=10:=hxl
 match xs,hxl3 with
 | [y0,y1,y2,y3,y4,y5,y6,y7,y8,y9],_=>
   have e0:DataW.trod enc Tryz.prog W 0 (fun _=>true) held n 3 (([v0,v1,v2,v3,v4,v5,v6,v7,v8,v9,v10,v11].drop 0).take (Tryz.prog.cellsOf 3))=some y0:=hf 0 _ rfl
   rw [cInt] at e0
   have e0:DataW.trod enc Tryz.prog W 0 (fun _=>true) held n 3 [v0]=some y0:=e0
   have e1:DataW.trod enc Tryz.prog W 0 (fun _=>true) held n 9 (([v0,v1,v2,v3,v4,v5,v6,v7,v8,v9,v10,v11].drop 1).take (Tryz.prog.cellsOf 9))=some y1:=hf 1 _ rfl
   rw [cString] at e1
   have e1:DataW.trod enc Tryz.prog W 0 (fun _=>true) held n 9 [v1]=some y1:=e1
   have e2:DataW.trod enc Tryz.prog W 0 (fun _=>true) held n 9 (([v0,v1,v2,v3,v4,v5,v6,v7,v8,v9,v10,v11].drop 2).take (Tryz.prog.cellsOf 9))=some y2:=hf 2 _ rfl
   rw [cString] at e2
   have e2:DataW.trod enc Tryz.prog W 0 (fun _=>true) held n 9 [v2]=some y2:=e2
   have e3:DataW.trod enc Tryz.prog W 0 (fun _=>true) held n 3 (([v0,v1,v2,v3,v4,v5,v6,v7,v8,v9,v10,v11].drop 3).take (Tryz.prog.cellsOf 3))=some y3:=hf 3 _ rfl
   rw [cInt] at e3
   have e3:DataW.trod enc Tryz.prog W 0 (fun _=>true) held n 3 [v3]=some y3:=e3
   have e4:DataW.trod enc Tryz.prog W 0 (fun _=>true) held n 26 (([v0,v1,v2,v3,v4,v5,v6,v7,v8,v9,v10,v11].drop 4).take (Tryz.prog.cellsOf 26))=some y4:=hf 4 _ rfl
   rw [cHunk] at e4
   have e4:DataW.trod enc Tryz.prog W 0 (fun _=>true) held n 26 [v4,v5,v6]=some y4:=e4
   have e5:DataW.trod enc Tryz.prog W 0 (fun _=>true) held n 3 (([v0,v1,v2,v3,v4,v5,v6,v7,v8,v9,v10,v11].drop 7).take (Tryz.prog.cellsOf 3))=some y5:=hf 5 _ rfl
   rw [cInt] at e5
   have e5:DataW.trod enc Tryz.prog W 0 (fun _=>true) held n 3 [v7]=some y5:=e5
   have e6:DataW.trod enc Tryz.prog W 0 (fun _=>true) held n 9 (([v0,v1,v2,v3,v4,v5,v6,v7,v8,v9,v10,v11].drop 8).take (Tryz.prog.cellsOf 9))=some y6:=hf 6 _ rfl
   rw [cString] at e6
   have e6:DataW.trod enc Tryz.prog W 0 (fun _=>true) held n 9 [v8]=some y6:=e6
   have e7:DataW.trod enc Tryz.prog W 0 (fun _=>true) held n 9 (([v0,v1,v2,v3,v4,v5,v6,v7,v8,v9,v10,v11].drop 9).take (Tryz.prog.cellsOf 9))=some y7:=hf 7 _ rfl
   rw [cString] at e7
   have e7:DataW.trod enc Tryz.prog W 0 (fun _=>true) held n 9 [v9]=some y7:=e7
   have e8:DataW.trod enc Tryz.prog W 0 (fun _=>true) held n 3 (([v0,v1,v2,v3,v4,v5,v6,v7,v8,v9,v10,v11].drop 10).take (Tryz.prog.cellsOf 3))=some y8:=hf 8 _ rfl
   rw [cInt] at e8
   have e8:DataW.trod enc Tryz.prog W 0 (fun _=>true) held n 3 [v10]=some y8:=e8
   have e9:DataW.trod enc Tryz.prog W 0 (fun _=>true) held n 3 (([v0,v1,v2,v3,v4,v5,v6,v7,v8,v9,v10,v11].drop 11).take (Tryz.prog.cellsOf 3))=some y9:=hf 9 _ rfl
   rw [cInt] at e9
   have e9:DataW.trod enc Tryz.prog W 0 (fun _=>true) held n 3 [v11]=some y9:=e9
   have ed:d=.agg ([y0,y1,y2,y3,y4,y5,y6,y7,y8,y9].map (·.1)):=congrArg Prod.fst hx
   subst ed
   have hu:Tryz.prog.underlying 28=some (.struct _):=Tryz.underlying28
   simp only [DataW.weights,hu] at hw
   obtain ⟨z0,g0,_⟩:=DataW.trod_int Tryz.underlying3 e0
   obtain rfl:v0=.int .i64 z0:=by simpa using g0
   obtain ⟨z1,g1,_⟩:=DataW.trod_string Tryz.underlying9 e1
   have t1:=str_size e1 (weights_mem (j:=1) hw rfl rfl) (by simpa using g1)
   obtain rfl:v1=.string z1:=by simpa using g1
   obtain ⟨z2,g2,_⟩:=DataW.trod_string Tryz.underlying9 e2
   have t2:=str_size e2 (weights_mem (j:=2) hw rfl rfl) (by simpa using g2)
   obtain rfl:v2=.string z2:=by simpa using g2
   obtain ⟨z3,g3,_⟩:=DataW.trod_int Tryz.underlying3 e3
   obtain rfl:v3=.int .i64 z3:=by simpa using g3
   obtain ⟨z4,A1,l1,c1,A2,l2,c2,rfl,rfl,rfl,s1,s2,b1,b2,n1,n2⟩:=open_hunk e4 (weights_mem (j:=4) hw rfl rfl)
   obtain ⟨z5,g5,_⟩:=DataW.trod_int Tryz.underlying3 e5
   obtain rfl:v7=.int .i64 z5:=by simpa using g5
   obtain ⟨z6,g6,_⟩:=DataW.trod_string Tryz.underlying9 e6
   obtain rfl:v8=.string z6:=by simpa using g6
   obtain ⟨z7,g7,_⟩:=DataW.trod_string Tryz.underlying9 e7
   obtain rfl:v9=.string z7:=by simpa using g7
   obtain ⟨z8,g8,_⟩:=DataW.trod_int Tryz.underlying3 e8
   obtain rfl:v10=.int .i64 z8:=by simpa using g8
   obtain ⟨z9,g9,_⟩:=DataW.trod_int Tryz.underlying3 e9
   obtain rfl:v11=.int .i64 z9:=by simpa using g9
   exact ⟨(⟨z0,z1,z2,z3,z4,l1,l2,z5,z6,z7,z8,z9⟩:Qp).pv A1 c1 A2 c2,⟨z0,z1,z2,z3,z4,l1,l2,z5,z6,z7,z8,z9⟩,rfl,⟨A1,c1,A2,c2,rfl,⟨s1,s2⟩,(fun _ _ _=>trivial),(fun _ _ _=>trivial)⟩,⟨b1,b2,n1,n2,t1,t2⟩⟩
set_option maxRecDepth 100000 in
theorem open_prim_meek {b0:Nat} {v:Value} {d:DataW H} {ps:List MemPlace} (hval:Value.okWide Tryz.prog W .any b0 28 v) (hd:DataW.Trod enc Tryz.prog W 0 (fun _=>true) held 28 v d ps) (hw:∀ n∈d.weights Tryz.prog 28,n≤reachBytes):
 ∃ (p:Pv) (q:Qp),v=p.v∧Is W (fun _=>True) p q∧q.Meek:=by
 obtain ⟨cs,rfl,hcs⟩:=okWide_struct Tryz.underlying28 hval
 rw [cPrim] at hcs
 obtain ⟨fuel,h⟩:=hd
 obtain ⟨l⟩:=cs
 match l,hcs with
 | [v0,v1,v2,v3,v4,v5,v6,v7,v8,v9,v10,v11],_=>exact open_cells h hw
set_option maxRecDepth 100000 in
theorem open_prim_sz {b0:Nat} {v:Value} {d:DataW H} {ps:List MemPlace} (hval:Value.okWide Tryz.prog W .any b0 28 v) (hd:DataW.Trod enc Tryz.prog W 0 (fun _=>true) held 28 v d ps) (hw:∀ n∈d.weights Tryz.prog 28,n≤reachBytes):
 ∃ (p:Pv) (q:Qp),v=p.v∧Is W (fun _=>True) p q∧q.old.length≤1152921504606846976∧q.new.length≤1152921504606846976∧(∀ x∈q.old,x.size≤4611686018427387904)∧∀ x∈q.new,x.size≤4611686018427387904:=by
 obtain ⟨p,q,h1,h2,h3⟩:=open_prim_meek hval hd hw
 exact ⟨p,q,h1,h2,h3.old,h3.new,h3.olds,h3.news⟩
set_option maxRecDepth 100000 in
set_option maxHeartbeats 1000000 in
theorem open_prim {b0:Nat} {v:Value} {d:DataW H} {ps:List MemPlace} (hval:Value.okWide Tryz.prog W .any b0 28 v) (hd:DataW.Trod enc Tryz.prog W 0 (fun _=>true) held 28 v d ps) (hw:∀ n∈d.weights Tryz.prog 28,n≤reachBytes):
 ∃ (p:Pv) (q:Qp),v=p.v∧Is W (fun _=>True) p q∧q.old.length≤1152921504606846976∧q.new.length≤1152921504606846976:=by
 obtain ⟨p,q,h1,h2,h3,h4,_⟩:=open_prim_sz hval hd hw
 exact ⟨p,q,h1,h2,h3,h4⟩
theorem kids:Kids Tryz.prog (· < Tryz.prog.types.size):=kids_rows (by kernel_rfl) (by kernel_rfl)
theorem slices_full:∀ t e,t < Tryz.prog.types.size→Tryz.prog.underlying t=some (.slice e)→0 < Tryz.prog.cellsOf e:=slices_full_of Tryz.prog (by kernel_rfl)
theorem carryAll {w':World} {sp:Nat→Bool}:∀ {ts:List TypeId} {vs:List Value} {ds:List (DataW H)} {ps:List MemPlace},DataW.TrodAll enc Tryz.prog W 0 sp held ts vs ds ps→(∀ p∈ps,W.sameAt w' p)→DataW.TrodAll enc Tryz.prog w' 0 sp held ts vs ds ps
 | [],[],[],_,h,_=>h
 | _ :: _,_ :: _,_ :: _,_,⟨p,q,⟨n,h1⟩,h2,e⟩,hs=>⟨p,q,⟨n,DataW.trod_carry n _ _ _ h1 (fun x hx=>hs x (by rw [e];exact List.mem_append_left _ hx))⟩,carryAll h2 (fun x hx=>hs x (by rw [e];exact List.mem_append_right _ hx)),e⟩
set_option maxRecDepth 100000 in
theorem post_of_ext {f:Func} {s:ChangeSpec} {apart fresh handsOn again:Bool} {W':World} {args:Array Value} {v:Value} {ds:List (DataW H)} {before:List MemPlace} (hvars:s.vars=[])
 (hW:DataW.Whole enc Tryz.prog f.params.toList s.vars apart W args.toList ds [] before) (hx:Ext W W') (hT:∀ t∈f.params.toList,t < Tryz.prog.types.size)
 (hres:∀ (b:Nat) (sp:Nat→Bool) (hd:Bool),DataW.TrodAll enc Tryz.prog W' b sp hd f.resultTypes.toList (v.resultList f.resultTypes.size) (s.fn H ds).results [])
 (hargs:(s.fn H ds).args=ds) (hgs:(s.fn H ds).vars=[])
 (hok:∀ (j:Nat) (t:TypeId) (r:Value),f.resultTypes[j]?=some t→(v.resultList f.resultTypes.size)[j]?=some r→Value.okWide Tryz.prog W' .any 0 t r):
 s.post enc Tryz.prog f apart fresh handsOn again W args v W':=by
 have hlt:=hW.lt
 have hW0:=hW
 obtain ⟨p,q,hA,hV,rfl,hfz,hnd⟩:=hW
 rw [hvars] at hV
 have hq:q=[]:=hV
 subst hq
 rw [List.append_nil] at *
 have again':∀ sp:Nat→Bool,(∀ x∈p,sp x.block=true)→DataW.TrodAll enc Tryz.prog W' 0 sp true f.params.toList args.toList ds p:=fun sp hsp=>
  carryAll (DataW.TrodAll.respare kids (fun t e ht hu=>slices_full t e ht hu) hT hA hsp) (fun x hx'=>hx.same (hlt x hx'))
 have hv':∀ sp:Nat→Bool,DataW.TrodVars enc Tryz.prog W' sp s.vars (s.fn H ds).vars []:=fun sp=>by rw [hvars,hgs];exact rfl
 refine ⟨ds,[],p,[],p,[],hW0,?_,?_,?_,World.keptBut_mono (fun x hx'=>⟨hx',Or.inr (Or.inl hx')⟩) (hx.frame (·∈p)),fun _=>?_⟩
 ·rw [List.append_nil];exact hres _ _ _
 ·rw [List.append_nil,hargs];exact again' _ (fun x hx'=>by simpa using hlt x hx')
 ·rw [List.append_nil];exact hv' _
 ·have hall:=trodAll_append (again' (fun _=>true) (fun _ _=>rfl)) (hres 0 (fun _=>true) true)
  have hvv:DataW.TrodVars (H:=H) enc Tryz.prog W' (fun _=>true) s.vars [] []:=by rw [hvars];exact rfl
  have hz:W'.noneFrozen (([] ++ p) ++ []):=fun b off hp=>by
   have hp':MemPlace.cell b off∈p:=by simpa using hp
   rw [hx.frozen (p:=⟨b,off,none⟩) (hlt _ hp')]
   exact hfz b off hp'
  have hn:apart=true→(([] ++ p) ++ []).Nodup:=fun ha=>by simpa using hnd ha
  exact ⟨hok,_,[],([] ++ p) ++ [],⟨[] ++ p,[],hall,hvv,rfl,hz,hn⟩,fun x hx' _=>by simpa using hx'⟩
end
end Go.Proofs.YtfmgnaigcibcaaaGreatDoor
namespace Go.Proofs.YtfmgnaigcibcaaaGreatDoor
open Go Go.ChangeShapes Go.WideShapes Go.RowKit Go.Deep
theorem cFile:Tryz.prog.cellsOf 61=4:=by kernel_rfl
structure Pf.Meek (f:Pf):Prop where
 path:f.path.size≤140737488351232
 data:f.data.size≤140737488351232
section
variable {H:Type} {enc:TypeId × Value→H} {W:World} {held:Bool}
set_option maxRecDepth 100000 in
set_option maxHeartbeats 1000000 in
theorem open_file {fuel:Nat} {v0 v1 v2 v3:Value} {d:DataW H} {ps:List MemPlace} (h:DataW.trod enc Tryz.prog W 0 (fun _=>true) held fuel 61 [v0,v1,v2,v3]=some (d,ps)) (hw:∀ n∈d.weights Tryz.prog 61,n≤reachBytes):
 ∃ f:Pf,[v0,v1,v2,v3]=f.arr.toList∧f.Meek:=by
 obtain ⟨xs,n,_,hx,_,hxl,hf⟩:=DataW.trod_struct Tryz.underlying61 h
 have hxl3:xs.length=4:=hxl
 match xs,hxl3 with
 | [y0,y1,y2,y3],_=>
   have e0:DataW.trod enc Tryz.prog W 0 (fun _=>true) held n 9 (([v0,v1,v2,v3].drop 0).take (Tryz.prog.cellsOf 9))=some y0:=hf 0 _ rfl
   rw [cString] at e0
   have e0:DataW.trod enc Tryz.prog W 0 (fun _=>true) held n 9 [v0]=some y0:=e0
   have e1:DataW.trod enc Tryz.prog W 0 (fun _=>true) held n 3 (([v0,v1,v2,v3].drop 1).take (Tryz.prog.cellsOf 3))=some y1:=hf 1 _ rfl
   rw [cInt] at e1
   have e1:DataW.trod enc Tryz.prog W 0 (fun _=>true) held n 3 [v1]=some y1:=e1
   have e2:DataW.trod enc Tryz.prog W 0 (fun _=>true) held n 3 (([v0,v1,v2,v3].drop 2).take (Tryz.prog.cellsOf 3))=some y2:=hf 2 _ rfl
   rw [cInt] at e2
   have e2:DataW.trod enc Tryz.prog W 0 (fun _=>true) held n 3 [v2]=some y2:=e2
   have e3:DataW.trod enc Tryz.prog W 0 (fun _=>true) held n 9 (([v0,v1,v2,v3].drop 3).take (Tryz.prog.cellsOf 9))=some y3:=hf 3 _ rfl
   rw [cString] at e3
   have e3:DataW.trod enc Tryz.prog W 0 (fun _=>true) held n 9 [v3]=some y3:=e3
   have ed:d=.agg ([y0,y1,y2,y3].map (·.1)):=congrArg Prod.fst hx
   subst ed
   have hu:Tryz.prog.underlying 61=some (.struct _):=Tryz.underlying61
   simp only [DataW.weights,hu] at hw
   obtain ⟨z0,g0,_⟩:=DataW.trod_string Tryz.underlying9 e0
   have t0:=str_size e0 (weights_mem (j:=0) hw rfl rfl) (by simpa using g0)
   obtain rfl:v0=.string z0:=by simpa using g0
   obtain ⟨z1,g1,_⟩:=DataW.trod_int Tryz.underlying3 e1
   obtain rfl:v1=.int .i64 z1:=by simpa using g1
   obtain ⟨z2,g2,_⟩:=DataW.trod_int Tryz.underlying3 e2
   obtain rfl:v2=.int .i64 z2:=by simpa using g2
   obtain ⟨z3,g3,_⟩:=DataW.trod_string Tryz.underlying9 e3
   have t3:=str_size e3 (weights_mem (j:=3) hw rfl rfl) (by simpa using g3)
   obtain rfl:v3=.string z3:=by simpa using g3
   exact ⟨⟨z0,z1,z2,z3⟩,rfl,⟨t0,t3⟩⟩
theorem fl_at {l:List Pf} {i j:Nat} {f:Pf} (hi:l[i]?=some f) (hj:j < 4):(fl l)[i * 4+j]?=f.arr.toList[j]?:=fl_get hi hj
theorem fl_len (l:List Pf):(fl l).length=l.length * 4:=by
 induction l with
 | nil=>rfl
 | cons f l ih=>
   rw [fl,List.length_append,ih,List.length_cons]
   simp
   omega
set_option maxRecDepth 100000 in
set_option maxHeartbeats 1000000 in
theorem open_tree {fuel:Nat} {v:Value} {x:DataW H × List MemPlace} (h:DataW.trod enc Tryz.prog W 0 (fun _=>true) held fuel 23 [v]=some x) (hw:∀ n∈x.1.weights Tryz.prog 23,n≤reachBytes):
 ∃ A l c,v=.slice A l.length c∧Trs W A l∧l.length≤c∧c≤2932031007402∧(A=none→c=0)∧∀ f∈l,f.Meek:=by
 have hu:Tryz.prog.underlying 23=some (.slice 61):=Tryz.underlying23
 rcases open_slice hu h with ⟨e,_⟩ | ⟨a,len,cap,m,n,D,Pl,e,_,hlc,_,hm,hx,hc⟩
 ·obtain rfl:v=.slice none 0 0:=by simpa using e
  exact ⟨none,[],0,rfl,Trs.nil _ _,Nat.zero_le _,Nat.zero_le _,fun _=>rfl,fun q hq=>by cases hq⟩
 ·obtain rfl:v=.slice (some a) len cap:=by simpa using e
  have hm':m=cap:=by simpa using hm
  subst hm'
  rw [hx] at hw
  simp only [DataW.weights,hu] at hw
  have hcap:m * 48≤reachBytes:=by
   have:=hw _ (List.mem_cons_self ..)
   have hb:Tryz.prog.bytesOf 61=48:=by kernel_rfl
   rw [hb] at this
   simp only [List.length_map,List.length_range] at this
   rwa [show len+(m - len)=m by omega] at this
  obtain ⟨pq,hpq⟩:=choose_lt (α:=Pf) (n:=len) (p:=fun i f=>(∀ j v,f.arr.toList[j]?=some v→W.cell? ((a.add (i * 4)).add j)=some v)∧f.Meek) (fun i hi=>by
   obtain ⟨cs',h1,h2⟩:=hc i (by omega)
   rw [cFile] at h1
   obtain ⟨_,hl,hcell⟩:=World.cells?_some h1
   match cs',hl with
   | [v0,v1,v2,v3],_=>
     obtain ⟨f,hp,hk⟩:=open_file h2 (fun k hk=>hw k (List.mem_cons_of_mem _ (List.mem_append_left _ (weightsAll_mem (d:=D i) (List.mem_map.2 ⟨i,List.mem_range.2 hi,rfl⟩) _ hk))))
     refine ⟨f,fun j v hv=>?_,hk⟩
     rw [← hp] at hv
     have hj:j < 4:=(List.getElem?_eq_some_iff.1 hv).1
     rw [hcell j hj,hv])
  have hl:((List.range len).map pq).length=len:=by simp
  refine ⟨some a,(List.range len).map pq,m,by rw [hl],fun h0=>?_,by rw [hl];exact hlc,?_,(fun h=>by cases h),fun q hq=>?_⟩
  ·have hlen:0 < len:=by simpa using h0
   obtain ⟨b,o,spot⟩:=a
   have h1:=(hpq 0 hlen).1 0 _ rfl
   have hs:spot=none:=by simpa [Addr.add] using World.cell?_spot h1
   subst hs
   refine ⟨b,o,rfl,?_,fun j v hv=>?_⟩
   ·have:=lt_of_cell h1
    simpa [add_none] using this
   ·have hj:=(List.getElem?_eq_some_iff.1 hv).1
    rw [fl_len,hl] at hj
    have h2:j / 4 < len:=by omega
    have h3:((List.range len).map pq)[j / 4]?=some (pq (j / 4)):=by
     rw [List.getElem?_map,List.getElem?_range h2]
     rfl
    have h4:=fl_at h3 (j:=j % 4) (by omega)
    rw [show j / 4 * 4+j % 4=j by omega,hv] at h4
    have:=(hpq (j / 4) h2).1 (j % 4) v h4.symm
    rw [add_none,add_none] at this
    rw [← this]
    congr 2
    omega
  ·unfold reachBytes at hcap
   omega
  ·obtain ⟨i,hi,rfl⟩:=List.mem_map.1 hq
   exact (hpq i (List.mem_range.1 hi)).2
set_option maxRecDepth 100000 in
theorem open_str {b0:Nat} {v:Value} {d:DataW H} {ps:List MemPlace} (hd:DataW.Trod enc Tryz.prog W 0 (fun _=>true) held 9 v d ps) (hw:∀ n∈d.weights Tryz.prog 9,n≤reachBytes) (hval:Value.okWide Tryz.prog W .any b0 9 v):
 ∃ s:ByteArray,v=.string s∧s.size≤140737488351232:=by
 obtain ⟨s,rfl⟩:=okWide_string Tryz.underlying9 hval
 obtain ⟨n,h⟩:=hd
 exact ⟨s,rfl,str_size h hw rfl⟩
end
end Go.Proofs.YtfmgnaigcibcaaaGreatDoor
