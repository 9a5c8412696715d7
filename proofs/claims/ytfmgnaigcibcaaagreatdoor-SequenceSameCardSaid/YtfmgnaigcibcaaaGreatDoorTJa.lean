import Derived.Test.YtfmgnaigcibcaaaGreatDoorTTs
import Derived.Test.YtfmgnaigcibcaaaGreatDoorTTf
import Derived.Test.YtfmgnaigcibcaaaGreatDoorTHeld
import Derived.Deep.RegionWith
import Derived.Shelf.Spec.SlicesInsert
import Derived.Lib.Overlaps
import Derived.Deep.RegionLaw
import Derived.Lib.AppendZerosOnto
set_option linter.unusedSimpArgs false
set_option linter.unusedVariables false
namespace Go.Proofs.YtfmgnaigcibcaaaGreatDoor
open Go Go.RowKit
theorem Blk.midT {g:Nat} {t:TypeId}:∀ (vs cs pre post:List Value) (w:World),vs.length=cs.length→Blk w g t (pre ++ (cs ++ post)).toArray→Blk (w.setCells g pre.length vs) g t (pre ++ (vs ++ post)).toArray
 | [],[],pre,post,w,_,h=>h
 | [],_ :: _,_,_,_,e,_=>nomatch e
 | _ :: _,[],_,_,_,e,_=>nomatch e
 | v :: vs,c :: cs,pre,post,w,e,h=>by
   have h1:=h.set_ pre.length v
   have e1:(pre ++ (c :: cs ++ post)).toArray.setIfInBounds pre.length v=((pre ++ [v]) ++ (cs ++ post)).toArray:=by simp
   rw [e1] at h1
   have h2:=Blk.midT vs cs (pre ++ [v]) post _ (by simpa using e) h1
   have e2:(pre ++ [v]).length=pre.length+1:=by simp
   rw [e2] at h2
   have e3:(pre ++ (v :: vs ++ post)).toArray=((pre ++ [v]) ++ (vs ++ post)).toArray:=by simp
   rw [e3]
   exact h2
theorem sizeAll (g:Nat):∀ (vs:List Value) (o:Nat) (w:World),(w.setCells g o vs).heap.size=w.heap.size
 | [],_,_=>rfl
 | v :: vs,o,w=>by
   show ((w.setCell ⟨g,o,none⟩ v).setCells g (o+1) vs).heap.size=_
   rw [sizeAll g vs]
   simp
structure Kg (g:Nat) (w w':World):Prop where
 ext:∀ w0,Ext w0 w→w0.heap.size≤g→Ext w0 w'
 blk:∀ g' t cs,Blk w g' t cs→g'≠g→Blk w' g' t cs
 size:w.heap.size≤w'.heap.size
theorem Kg.refl (g:Nat) (w:World):Kg g w w:=⟨fun _ h _=>h,fun _ _ _ h _=>h,Nat.le_refl _⟩
theorem Kg.of_ext {g:Nat} {w w':World} (h:Ext w w'):Kg g w w':=⟨fun _ k _=>k.trans h,fun _ _ _ k _=>Blk.ext h k,h.size_le⟩
theorem Kg.trans {g:Nat} {a b c:World} (h:Kg g a b) (k:Kg g b c):Kg g a c:=
 ⟨fun w0 h0 hg=>k.ext w0 (h.ext w0 h0 hg) hg,fun g' t cs hb hn=>k.blk g' t cs (h.blk g' t cs hb hn) hn,Nat.le_trans h.size k.size⟩
theorem Kg.set (g:Nat) (w:World) (o:Nat) (vs:List Value):Kg g w (w.setCells g o vs):=
 ⟨fun w0 h hg=>Ext.setAll hg vs o _ h,fun g' t cs hb hn=>Blk.farAll (w:=w) hn vs o _ hb,by rw [sizeAll];exact Nat.le_refl _⟩
def OwnC (W:World) (g:Nat) (l:List Pf) (c:Nat):Prop:=∃ post:List Value,Blk W g 61 (fl l ++ post).toArray∧l.length * 4+post.length=c * 4
theorem OwnC.own {W:World} {g c:Nat} {l:List Pf} (h:OwnC W g l c):OwnT W g l:=h.imp fun _ h=>h.1
theorem OwnC.le {W:World} {g c:Nat} {l:List Pf} (h:OwnC W g l c):l.length≤c:=by
 obtain ⟨_,_,e⟩:=h
 omega
theorem OwnC.ext {W W':World} {g c:Nat} {l:List Pf} (h:OwnC W g l c) (hx:Ext W W'):OwnC W' g l c:=by
 obtain ⟨post,h,e⟩:=h
 exact ⟨post,h.ext hx,e⟩
theorem OwnC.cut {W:World} {g c:Nat} {a b:List Pf} (h:OwnC W g (a ++ b) c):OwnC W g a c:=by
 obtain ⟨post,h,e⟩:=h
 have hf:=fl_length b
 refine ⟨fl b ++ post,?_,by simp only [List.length_append] at *;omega⟩
 rwa [← List.append_assoc,← fl_append]
theorem OwnC.over {W:World} {g c:Nat} {a b d:List Pf} (h:OwnC W g (a ++ (b ++ d)) c) (b':List Pf) (hb:b'.length=b.length):OwnC (W.setCells g (a.length * 4) (fl b')) g (a ++ (b' ++ d)) c:=by
 obtain ⟨post,h,e⟩:=h
 have h1:=fl_length a
 have h2:=fl_length b
 have h3:=fl_length b'
 have h4:=Blk.midT (fl b') (fl b) (fl a) (fl d ++ post) W (by omega) (Blk.conv' h (by simp [fl_append]))
 rw [h1] at h4
 refine ⟨post,Blk.conv' h4 (by simp [fl_append]),?_⟩
 simp only [List.length_append] at *
 omega
theorem OwnC.put {W:World} {g c:Nat} {l:List Pf} (h:OwnC W g l c) {i:Nat} (hi:i < l.length) (f:Pf):OwnC (W.setCells g (i * 4) f.arr.toList) g (l.set i f) c:=by
 have e1:l=l.take i ++ ([l[i]] ++ l.drop (i+1)):=by rw [List.singleton_append,List.getElem_cons_drop,List.take_append_drop]
 have e2:l.set i f=l.take i ++ ([f] ++ l.drop (i+1)):=by rw [List.set_eq_take_append_cons_drop,if_pos hi];rfl
 have e3:(l.take i).length=i:=by simp;omega
 rw [e1] at h
 have h2:=h.over [f] rfl
 rw [e3] at h2
 rw [e2]
 exact h2
def zf:Array Value:=#[.string ⟨#[]⟩,.int .i64 0,.int .i64 0,.string ⟨#[]⟩]
theorem zeros_fl (m:Nat):(Builtin.zeroCells zf m).toList=fl (List.replicate m Pf.zero):=by
 refine List.ext_getElem? fun i=>?_
 have hl:(fl (List.replicate m Pf.zero)).length=m * 4:=by rw [fl_length,List.length_replicate]
 have hz:zf.size=4:=rfl
 by_cases hi:i < m * 4
 ·have h1:(List.replicate m Pf.zero)[i / 4]?=some Pf.zero:=by rw [List.getElem?_replicate,if_pos (by omega)]
  have h3:=fl_get h1 (j:=i % 4) (by omega)
  rw [show i / 4 * 4+i % 4=i by omega] at h3
  rw [h3]
  have h4:i % 4 < 4:=by omega
  simp only [Builtin.zeroCells,hz,Array.toList_map,Array.toList_range,List.getElem?_map,List.getElem?_range hi,Option.map_some]
  rcases (show i % 4=0∨i % 4=1∨i % 4=2∨i % 4=3 by omega) with e | e | e | e <;> rw [e] <;> rfl
 ·rw [List.getElem?_eq_none (by simp [Builtin.zeroCells,hz];omega),List.getElem?_eq_none (by omega)]
theorem run_clear_files (w:World) (ty:TypeId) (g o m c:Nat) (hc:∀ j,j < m * 4→(w.cell? ⟨g,o+j,none⟩).isSome=true) (hf:∀ j,j < m * 4→w.frozen? ⟨g,o+j,none⟩=false):
 (Builtin.clear_ #[23] ty #[.slice (some ⟨g,o,none⟩) m c]).run Tryz.prog w=.ok (.tuple #[]) (w.setCells g o (fl (List.replicate m Pf.zero))):=by
 have hu:Tryz.prog.underlying 23=some (.slice 61):=Tryz.underlying23
 have hz:∀ w,(zeroValue 61).run Tryz.prog w=.ok (.agg zf) w:=fun w=>by kernel_rfl
 have hl:(Builtin.zeroCells zf m).toList.length=m * 4:=by rw [zeros_fl,fl_length,List.length_replicate]
 have hst:=run_storeCells_cells (P:=Tryz.prog) g o (Builtin.zeroCells zf m).toList 0 w (by rw [hl];simpa using hc) (by rw [hl];simpa using hf) (fun v hv=>fl_one (l:=List.replicate m Pf.zero) v (by rwa [← zeros_fl]))
 simp only [Nat.add_zero] at hst
 have e:((Value.agg zf).cells)=zf:=by kernel_rfl
 rw [← zeros_fl]
 cases m with
 | zero=>simp [Builtin.clear_,run_underlying hu,show (Builtin.zeroCells zf 0).toList=[] from by rw [zeros_fl];rfl,World.setCells]
 | succ m=>simp [Builtin.clear_,run_underlying hu,hz,e,hst]
theorem idx_from (p:Pf→Bool) (x:Pf):∀ (l:List Pf) (i:Nat),(Lib.idxByFrom (fun _ y=>p y) x l i=-1∧(l.filter fun x=>!p x)=l)∨∃ k,k < l.length∧Lib.idxByFrom (fun _ y=>p y) x l i=((i+k:Nat):Int)∧((l.take (k+1)).filter fun x=>!p x)=l.take k
 | [],_=>.inl ⟨rfl,rfl⟩
 | y :: r,i=>by
   cases h:p y with
   | true=>exact .inr ⟨0,by simp,by simp [Lib.idxByFrom,h],by simp [h]⟩
   | false=>
     rcases idx_from p x r (i+1) with ⟨e,ha⟩ | ⟨k,hk,e,ha⟩
     ·refine .inl ⟨?_,by rw [List.filter_cons_of_pos (by simp [h]),ha]⟩
      rw [← e]
      simp [Lib.idxByFrom,h]
     ·refine .inr ⟨k+1,by simpa using hk,?_,by rw [List.take_succ_cons,List.filter_cons_of_pos (by simp [h]),ha];rfl⟩
      rw [show ((i+(k+1):Nat):Int)=((i+1+k:Nat):Int) by omega,← e]
      simp [Lib.idxByFrom,h]
theorem idx_cases (p:Pf→Bool) (l:List Pf):(Lib.idxBy (fun _ y=>p y) l default=-1∧(l.filter fun x=>!p x)=l)∨∃ k:Nat,k < l.length∧Lib.idxBy (fun _ y=>p y) l default=(k:Int)∧((l.take (k+1)).filter fun x=>!p x)=l.take k:=by
 have:=idx_from p default l 0
 unfold Lib.idxBy
 simpa only [Nat.zero_add] using this
set_option maxHeartbeats 8000000 in
set_option maxRecDepth 100000 in
theorem tdelete_any (gf kc:Nat) (tc:TypeId) (vals:Array Value) (p:Pf→Bool) (eg:∀ args w,(callFunc gf args).run Tryz.prog w=.ok (.enter gf args) w) (g n c:Nat) (l:List Pf) (w:World) (h:OwnC w g l c) (hn:l.length=n) (hb:n≤1000000)
 (hk:Blk w kc tc vals) (hne:kc≠g) (hp:∀ W (x:Pf),Blk W kc tc vals→Calls Tryz.prog gf #[x.v,.pointer (some ⟨kc,0,none⟩)] W (Ret (.bool (p x)) W)):
 Calls Tryz.prog 184 #[.slice (some ⟨g,0,none⟩) n c,.func (.func gf) #[] #[.pointer (some ⟨kc,0,none⟩)]] w fun e w'=>∃ m,e=.returned (.slice (some ⟨g,0,none⟩) m c)∧m=(l.filter fun x=>!p x).length∧Hid (OwnC w' g (l.filter fun x=>!p x) c)∧Hid (Kg g w w'):=by
 have hI:=AnyQ.slices_IndexFunc Tryz.laysIndex 4 Tryz.isAgg61 Tryz.sizeOf61 pfe pfe_len p gf #[.pointer (some ⟨kc,0,none⟩)] eg g 0 n c l w
  (fun W x hB=>(hp W x (Blk.ext hB hk)).mono fun e w' ⟨he,hx⟩=>⟨he,Ext.trans (a:=w) hB hx⟩) (by omega) (by omega) h.own.lt (fun j hj i v hv=>by
    have hl:l[j]?=some l[j]!:=by rw [getElem!_pos l j hj];exact List.getElem?_eq_getElem hj
    obtain ⟨c0,c1,c2,c3⟩:=h.own.cells hl
    rw [Nat.zero_add]
    match i,hv with
    | 0,hv=>cases hv;exact c0
    | 1,hv=>cases hv;exact c1
    | 2,hv=>cases hv;exact c2
    | 3,hv=>cases hv;exact c3
    | i+4,hv=>cases hv)
 change Calls Tryz.prog 192 _ _ _ at hI
 rw [List.take_of_length_le (by omega)] at hI
 rcases idx_cases p l with ⟨e1,e2⟩ | ⟨k,hk0,e1,e2⟩
 ·rw [e1] at hI
  rw [e2]
  have HI:=Lib.hid hI
  have HO:=Lib.hid h
  have HN:=Lib.hid hn
  clear hI h hk hne hp e1 e2 eg
  go_enter Tryz.func184,Tryz.ntmps184
  have hx:=Ext.refl w
  go_wp2_with (go_at_call 192;refine HI.out.mono ?_;rintro e w1 ⟨rfl,hx0⟩)
  go_ret
  exact ⟨_,rfl,HN.out.symm,Lib.hid (HO.out.ext hx0),Lib.hid (Kg.of_ext hx0)⟩
 ·rw [e1] at hI
  have hlc:=h.le
  have HI:=Lib.hid hI
  have HP:=Lib.hid hp
  have HB:=Lib.hid hk
  have HO:=Lib.hid h
  have HN:=Lib.hid hn
  have E2:=Lib.hid e2
  have hne1:((k:Int) == -1)=false:=beq_eq_false_iff_ne.2 (by omega)
  clear hI h hk hp e1 e2
  go_enter Tryz.func184,Tryz.ntmps184
  have hx:=Ext.refl w
  go_wp2_with (go_at_call 192;refine HI.out.mono ?_;rintro e w1 ⟨rfl,hx0⟩)
  have HX1:Hid (Kg g w w1):=Lib.hid (Kg.of_ext hx0)
  have HO1:=Lib.hid (HO.out.ext hx0)
  clear hx0 HO
  go_loopw [5,6] (fun i j wr=>∃ (a b:Nat) (d:List Pf),i=.int .i64 a∧j=.int .i64 b∧a < b∧b≤n∧Hid (d.length=n∧d.take a=(l.take b).filter (fun x=>!p x)∧d.drop b=l.drop b)∧Hid (OwnC wr g d c)∧Hid (Kg g w wr)) (fun i j wr=>n - (intOf j).toNat)
  case atStart=>exact ⟨k,k+1,l,rfl,by go_num,by omega,by omega,Lib.hid ⟨HN.out,E2.out.symm,rfl⟩,HO1,HX1⟩
  case round=>
   clear HI HO1 HX1 E2 hne1
   obtain ⟨a,b,d,rfl,rfl,hab,hbn,HD,HO,HK⟩:=hrel
   have hdn:=HD.out.1
   by_cases hlt:b < n
   ·have hbl:b < l.length:=by rw [HN.out];exact hlt
    have hlb:l[b]?=some l[b]:=List.getElem?_eq_getElem hbl
    have hdb:d[b]?=some l[b]:=by
     have h1:(d.drop b)[0]?=(l.drop b)[0]?:=by rw [HD.out.2.2]
     rw [List.getElem?_drop,List.getElem?_drop,Nat.add_zero,hlb] at h1
     exact h1
    generalize l[b]=x at hlb hdb
    obtain ⟨c0,c1,c2,c3⟩:=HO.out.own.cells hdb
    obtain ⟨y,hda⟩:∃ y,d[a]?=some y:=⟨_,List.getElem?_eq_getElem (by omega)⟩
    obtain ⟨d0,d1,d2,d3⟩:=HO.out.own.cells hda
    have hfz:=HO.out.own.free
    have hgl:=HO.out.own.lt
    have HL:=Lib.hid hlb
    clear hlb hbl hda hdb
    have HBr:=Lib.hid (HK.out.blk kc tc vals HB.out hne)
    clear hx
    have hx:=Ext.refl wr
    cases hq:p x
    ·have HO2:Hid (∀ W,Ext wr W→OwnC (W.setCells g (a * 4) x.arr.toList) g (d.set a x) c):=Lib.hid (fun W hW=>(HO.out.ext hW).put (by omega) x)
     have HD2:Hid ((d.set a x).length=n∧(d.set a x).take (a+1)=(l.take (b+1)).filter (fun x=>!p x)∧(d.set a x).drop (b+1)=l.drop (b+1)):=Lib.hid (by
      obtain ⟨h1,h2,h3⟩:=HD.out
      refine ⟨by rw [List.length_set,h1],?_,?_⟩
      ·rw [List.take_add_one (l:=l),HL.out,List.filter_append,← h2,List.take_add_one,List.getElem?_set_self (by omega),List.take_set_of_le (Nat.le_refl a)]
       simp [hq]
      ·rw [List.drop_set_of_lt (by omega),← List.drop_drop,h3,List.drop_drop])
     clear HD HO
     go_wp2_with (go_at_fn gf;refine (HP.out _ x (Blk.ext EX HBr.out)).mono ?_;rintro e w2 ⟨rfl,hx0⟩;rw [hq];have hy:=Ext.trans (a:=wr) EX hx0;clear hx;have hx:=hy;clear hy;obtain ⟨hcc,hff⟩:=bcell hx0;have hzz:=hx0.size_le;(try simp only [World.size_alloc] at hzz);have hzl:=Nat.lt_of_succ_le hzz;clear hx0)
     exact ⟨⟨a+1,b+1,d.set a x,by go_num,by go_num,by omega,by omega,HD2,Lib.hid (HO2.out _ hx),Lib.hid (HK.out.trans ((Kg.of_ext hx).trans (Kg.set g _ (a * 4) x.arr.toList)))⟩,by simp [intOf];omega⟩
    ·have HD2:Hid (d.length=n∧d.take a=(l.take (b+1)).filter (fun x=>!p x)∧d.drop (b+1)=l.drop (b+1)):=Lib.hid (by
      obtain ⟨h1,h2,h3⟩:=HD.out
      refine ⟨h1,?_,by rw [← List.drop_drop,h3,List.drop_drop]⟩
      rw [List.take_add_one,HL.out,List.filter_append,← h2]
      simp [hq])
     clear HD
     go_wp2_with (go_at_fn gf;refine (HP.out _ x (Blk.ext EX HBr.out)).mono ?_;rintro e w2 ⟨rfl,hx0⟩;rw [hq];have hy:=Ext.trans (a:=wr) EX hx0;clear hx;have hx:=hy;clear hy hx0)
     go_roundw
     case rel=>exact ⟨a,b+1,d,rfl,by go_num,by omega,by omega,HD2,Lib.hid (HO.out.ext EX),Lib.hid (HK.out.trans (Kg.of_ext EX))⟩
     case measure=>simp [intOf];omega
   ·obtain rfl:b=n:=by omega
    have hcl:∀ ty,(Builtin.clear_ #[23] ty #[.slice (some ⟨g,a * 4,none⟩) (b - a) (c - a)]).run Tryz.prog wr=.ok (.tuple #[]) (wr.setCells g (a * 4) (fl (List.replicate (b - a) Pf.zero))):=fun ty=>
     run_clear_files wr ty g (a * 4) (b - a) (c - a) (fun j hj=>by
      have hi:(a+j / 4) < d.length:=by omega
      obtain ⟨c0,c1,c2,c3⟩:=HO.out.own.cells (List.getElem?_eq_getElem hi)
      have e0:a * 4+j=(a+j / 4) * 4+j % 4:=by omega
      have:j % 4 < 4:=Nat.mod_lt _ (by omega)
      rcases (show j % 4=0∨j % 4=1∨j % 4=2∨j % 4=3 by omega) with e | e | e | e <;> rw [e0,e]
      ·rw [Nat.add_zero,c0];rfl
      ·rw [c1];rfl
      ·rw [c2];rfl
      ·rw [c3];rfl) (fun j hj=>HO.out.own.free _)
    have HF:Hid (OwnC (wr.setCells g (a * 4) (fl (List.replicate (b - a) Pf.zero))) g (l.filter fun x=>!p x) c∧a=(l.filter fun x=>!p x).length):=Lib.hid (by
     obtain ⟨h1,h2,h3⟩:=HD.out
     have h4:l.filter (fun x=>!p x)=d.take a:=by rw [h2,List.take_of_length_le (by rw [HN.out];exact Nat.le_refl _)]
     have h5:(d.take a).length=a:=by simp;omega
     have h6:=HO.out
     rw [h4]
     refine ⟨?_,h5.symm⟩
     rw [← List.take_append_drop a d,show d.drop a=d.drop a ++ [] from (List.append_nil _).symm] at h6
     have h7:=h6.over (List.replicate (b - a) Pf.zero) (by simp;omega)
     rw [h5] at h7
     exact h7.cut)
    have hca:a < c:=by omega
    clear HO HD
    go_wp2
    go_ret
    exact ⟨_,rfl,HF.out.2,Lib.hid HF.out.1,Lib.hid (HK.out.trans (Kg.set _ _ _ _))⟩
end Go.Proofs.YtfmgnaigcibcaaaGreatDoor
namespace Go.Proofs.YtfmgnaigcibcaaaGreatDoor
open Go Go.RowKit
set_option maxHeartbeats 1000000 in
theorem cmp2_any (x y:Pf) (W:World):Calls Tryz.prog 188 #[x.v,y.v] W (Ret (.int .i64 (pfc x y)) W):=by
 have hcon:=fun W'=>Tryz.strings_Compare x.path y.path W'
 unfold pfc
 generalize Lib.compareBytes x.path.data.toList y.path.data.toList=r at hcon ⊢
 have hx:=Ext.refl W
 go_enter Tryz.func188,Tryz.ntmps188
 go_wp2_with (go_at_call 189;refine (hcon _).mono ?_;rintro e w' ⟨rfl,rfl⟩)
 go_ret
 exact ⟨rfl,((Ext.refl W).alloc _).alloc _⟩
theorem pfc_neg (x y:Pf):(pfc x y < 0) ↔ Tr.lt x.path y.path=true:=by
 rw [← pfc_lt]
 unfold ltOf
 rw [decide_eq_true_eq]
def Tr.Cut (l:List Pf) (s:ByteArray) (k:Nat):Prop:=k≤l.length∧(∀ (t:Nat) (x:Pf),t < k→l[t]?=some x→Tr.lt x.path s=true)∧(∀ (t:Nat) (x:Pf),k≤t→l[t]?=some x→Tr.lt x.path s=false)
set_option maxHeartbeats 16000000 in
set_option maxRecDepth 100000 in
theorem tsearch_any (g n c:Nat) (l:List Pf) (f:Pf) (w:World) (h:OwnC w g l c) (hn:l.length=n) (hb:n≤1000000) (hs:∀ (a b:Nat) (x y:Pf),a≤b→l[a]?=some x→l[b]?=some y→Tr.lt y.path f.path=true→Tr.lt x.path f.path=true):
 Calls Tryz.prog 187 #[.slice (some ⟨g,0,none⟩) n c,f.v,.func (.func 188) #[] #[]] w fun e w'=>∃ k b,e=.returned (.tuple #[.int .i64 (k:Nat),.bool b])∧Hid (Tr.Cut l f.path k)∧Ext w w':=by
 have eg:∀ args w,(callFunc 188 args).run Tryz.prog w=.ok (.enter 188 args) w:=enters_of Tryz.func188 (by kernel_rfl) rfl
 have HC:=Lib.hid (fun x W=>cmp2_any x f W)
 have HO:=Lib.hid h
 have HN:=Lib.hid hn
 have HS:=Lib.hid hs
 have hgl:=h.own.lt
 clear h hn hs
 go_enter Tryz.func187,Tryz.ntmps187
 have hx:=Ext.refl w
 go_wp2
 go_loopw [9,10] (fun i j wr=>∃ lo hi:Nat,i=.int .i64 lo∧j=.int .i64 hi∧lo≤hi∧hi≤n∧Hid (Ext w wr)∧Hid (Blk wr w.heap.size 61 f.arr)∧Hid ((∀ (t:Nat) (x:Pf),t < lo→l[t]?=some x→Tr.lt x.path f.path=true)∧(∀ (t:Nat) (x:Pf),hi≤t→l[t]?=some x→Tr.lt x.path f.path=false))) (fun i j wr=>(intOf j).toNat - (intOf i).toNat)
 case atStart=>exact ⟨0,n,rfl,rfl,Nat.zero_le _,Nat.le_refl _,Lib.hid EX,Lib.hid (Blk.new' rfl),Lib.hid ⟨fun t x ht=>absurd ht (Nat.not_lt_zero t),fun t x ht hx=>by
  have:=(List.getElem?_eq_some_iff.1 hx).1
  rw [HN.out] at this
  omega⟩⟩
 case round=>
  clear hx
  obtain ⟨lo,hi,rfl,rfl,hlh,hin,HX,HB,HI⟩:=hrel
  have hx:=HX.out
  obtain ⟨hc0,hf0,hl0⟩:=HB.out.all
  by_cases hlt:lo < hi
  ·have hml:(lo+hi) / 2 < l.length:=by rw [HN.out];omega
   have hm:l[(lo+hi) / 2]?=some l[(lo+hi) / 2]:=List.getElem?_eq_getElem hml
   generalize l[(lo+hi) / 2]=x at hm
   obtain ⟨c0,c1,c2,c3⟩:=(HO.out.ext hx).own.cells hm
   have hi1:(0:Int)≤((lo:Int)+(hi:Int)) / 2:=by omega
   have hi2:((lo:Int)+(hi:Int)) / 2 < (n:Int):=by omega
   have hi3:(((lo:Int)+(hi:Int)) / 2).toNat=(lo+hi) / 2:=by omega
   have HM:=Lib.hid hm
   have hneg:=pfc_neg x f
   have hneg':pfc x f < 0→(∀ (t:Nat) (y:Pf),t < (lo+hi) / 2+1→l[t]?=some y→Tr.lt y.path f.path=true):=fun h t y ht hy=>HS.out t ((lo+hi) / 2) y x (by omega) hy hm (hneg.1 h)
   have hpos':¬ pfc x f < 0→(∀ (t:Nat) (y:Pf),(lo+hi) / 2≤t→l[t]?=some y→Tr.lt y.path f.path=false):=fun h t y ht hy=>by
    cases k:Tr.lt y.path f.path
    ·rfl
    ·exact (h (hneg.2 (HS.out ((lo+hi) / 2) t x y ht hm hy k))).elim
   have HN1:=Lib.hid hneg'
   have HP1:=Lib.hid hpos'
   clear hm hml hneg hneg' hpos'
   have HX1:=Lib.hid (HC.out x)
   generalize pfc x f=r at HN1 HP1 HX1
   have HC0:Hid (∀ W,Ext wr W→W.cell? ⟨g,(lo+hi) / 2 * 4,none⟩=some (.string x.path)∧W.cell? ⟨g,(lo+hi) / 2 * 4+1,none⟩=some (.int .i64 x.ty)∧W.cell? ⟨g,(lo+hi) / 2 * 4+2,none⟩=some (.int .i64 x.mode)∧W.cell? ⟨g,(lo+hi) / 2 * 4+3,none⟩=some (.string x.data)):=Lib.hid (fun W hW=>(HO.out.ext (hx.trans hW)).own.cells HM.out)
   have HC1:Hid (∀ W,Ext wr W→∀ i,W.cell? ⟨w.heap.size,i,none⟩=f.arr[i]?):=Lib.hid (fun W hW=>(Blk.ext hW HB.out).cell)
   clear c0 c1 c2 c3 hc0 hf0 hl0
   by_cases hr:r < 0
   ·go_wp2_with fail
    refine wp_region_ext (by kernel_rfl) (by kernel_rfl) ?_
    repeat (first | go_big_quiet_skip | (go_big_quiet_want;first | (go_big_quiet_op;go_big_quiet_on) | (apply quiet_at;intro W hW;have hc0:=HC0.out W hW;have hc1:=HC1.out W hW;go_simp;(first | exact rfl | (simp only [Oper.quietUpon,true_and];first | exact rfl | (go_at_fn 188;exact quiet_call hW (HX1.out _) (fun _ _ h=>Ret.bcell h))) | (go_at_fn 188;exact quiet_call hW (HX1.out _) (fun _ _ h=>Ret.bcell h)));go_big_quiet_on;simp only [Act.put,sA,s0,sS])))
    refine wpQuiet_nil ?_
    intro w2 hx0
    have hb2:=Blk.ext hx0 HB.out
    replace hx:=hx.trans hx0
    clear hx0 HC0 HC1
    go_wp2_with fail
    go_roundw
    case rel=>exact ⟨(lo+hi) / 2+1,hi,by rw [show ((lo:Int)+(hi:Int)) / 2+1=(((lo+hi) / 2+1:Nat):Int) by omega],rfl,by omega,hin,Lib.hid hx,Lib.hid hb2,Lib.hid ⟨HN1.out hr,HI.out.2⟩⟩
    case measure=>simp [intOf];omega
   ·go_wp2_with fail
    refine wp_region_ext (by kernel_rfl) (by kernel_rfl) ?_
    repeat (first | go_big_quiet_skip | (go_big_quiet_want;first | (go_big_quiet_op;go_big_quiet_on) | (apply quiet_at;intro W hW;have hc0:=HC0.out W hW;have hc1:=HC1.out W hW;go_simp;(first | exact rfl | (simp only [Oper.quietUpon,true_and];first | exact rfl | (go_at_fn 188;exact quiet_call hW (HX1.out _) (fun _ _ h=>Ret.bcell h))) | (go_at_fn 188;exact quiet_call hW (HX1.out _) (fun _ _ h=>Ret.bcell h)));go_big_quiet_on;simp only [Act.put,sA,s0,sS])))
    refine wpQuiet_nil ?_
    intro w2 hx0
    have hb2:=Blk.ext hx0 HB.out
    replace hx:=hx.trans hx0
    clear hx0 HC0 HC1
    go_wp2_with fail
    go_roundw
    case rel=>exact ⟨lo,(lo+hi) / 2,rfl,by rw [show ((lo:Int)+(hi:Int)) / 2=(((lo+hi) / 2:Nat):Int) by omega],by omega,by omega,Lib.hid hx,Lib.hid hb2,Lib.hid ⟨HI.out.1,HP1.out hr⟩⟩
    case measure=>simp [intOf];omega
  ·obtain rfl:hi=lo:=by omega
   have HV:Hid (Tr.Cut l f.path hi):=Lib.hid ⟨by rw [HN.out];exact hin,HI.out⟩
   clear HI HS
   have HC1:Hid (∀ W,Ext wr W→∀ i,W.cell? ⟨w.heap.size,i,none⟩=f.arr[i]?):=Lib.hid (fun W hW=>(Blk.ext hW HB.out).cell)
   clear hc0 hf0 hl0
   by_cases hlt2:hi < n
   ·have hml:hi < l.length:=by rw [HN.out];exact hlt2
    have hm:l[hi]?=some l[hi]:=List.getElem?_eq_getElem hml
    generalize l[hi]=x at hm
    have HM:=Lib.hid hm
    have HC0:Hid (∀ W,Ext wr W→W.cell? ⟨g,hi * 4,none⟩=some (.string x.path)∧W.cell? ⟨g,hi * 4+1,none⟩=some (.int .i64 x.ty)∧W.cell? ⟨g,hi * 4+2,none⟩=some (.int .i64 x.mode)∧W.cell? ⟨g,hi * 4+3,none⟩=some (.string x.data)):=Lib.hid (fun W hW=>(HO.out.ext (hx.trans hW)).own.cells HM.out)
    clear hm hml
    have HX1:=Lib.hid (HC.out x)
    generalize pfc x f=r at HX1
    go_wp2_with fail
    refine wp_region_ext (by kernel_rfl) (by kernel_rfl) ?_
    repeat (first | go_big_quiet_skip | (go_big_quiet_want;first | (go_big_quiet_op;go_big_quiet_on) | (apply quiet_at;intro W hW;have hc0:=HC0.out W hW;have hc1:=HC1.out W hW;go_simp;(first | exact rfl | (simp only [Oper.quietUpon,true_and];first | exact rfl | (go_at_fn 188;exact quiet_call hW (HX1.out _) (fun _ _ h=>Ret.bcell h))) | (go_at_fn 188;exact quiet_call hW (HX1.out _) (fun _ _ h=>Ret.bcell h)));go_big_quiet_on;simp only [Act.put,sA,s0,sS])))
    refine wpQuiet_nil ?_
    intro w2 hx0
    have hb2:=Blk.ext hx0 HB.out
    replace hx:=hx.trans hx0
    clear hx0 HC0 HC1
    go_wp2_with fail
    go_ret2
    exact ⟨_,_,rfl,HV,hx⟩
   ·have HC0:=HC1
    go_wp2_with fail
    refine wp_region_ext (by kernel_rfl) (by kernel_rfl) ?_
    repeat (first | go_big_quiet_skip | (go_big_quiet_want;first | (go_big_quiet_op;go_big_quiet_on) | (apply quiet_at;intro W hW;have hc0:=HC0.out W hW;have hc1:=HC1.out W hW;go_simp;(first | exact rfl | (simp only [Oper.quietUpon,true_and];first | exact rfl | (fail)) | (fail));go_big_quiet_on;simp only [Act.put,sA,s0,sS])))
    refine wpQuiet_nil ?_
    intro w2 hx0
    replace hx:=hx.trans hx0
    go_wp2_with fail
    go_ret2
    exact ⟨_,_,rfl,HV,hx⟩
end Go.Proofs.YtfmgnaigcibcaaaGreatDoor
namespace Go.Proofs.YtfmgnaigcibcaaaGreatDoor
open Go Go.RowKit Go.Lib
theorem Kg.of_grown {g:Nat} {w w':World} (h:w.grownBy w' (some g)):Kg g w w':=
 ⟨fun w0 h0 hg=>Below.grown h0 h h0.size_le (fun j e=>by cases e;exact hg),fun g' t cs hb hn=>(h.block g' hb.lt (fun e=>hn (Option.some.inj e))).trans hb,h.size⟩
theorem Kg.drew (g:Nat) (w:World):Kg g w w.drew:=Kg.of_ext (Ext.refl w).drew1
theorem Blk.shape {w:World} {g:Nat} {t:TypeId} {cs:Array Value} (h:Blk w g t cs):w.shape? g=some (t,cs.size):=by
 unfold World.shape?
 rw [h.eq]
theorem run_copy_files (w:World) (dT sT ty:TypeId) (b o dLen dCap:Nat) (a:Addr) (sLen sCap:Nat) (l:List Pf)
 (hu:Tryz.prog.underlying dT=some (.slice 61)) (hn:l.length=Nat.min sLen dLen)
 (hsrc:∀ j v,(fl l)[j]?=some v→w.cell? (a.add j)=some v) (hc:∀ j,j < (fl l).length→(w.cell? ⟨b,o+j,none⟩).isSome=true) (hf:∀ j,j < (fl l).length→w.frozen? ⟨b,o+j,none⟩=false):
 (Builtin.copy_ #[dT,sT] ty #[.slice (some ⟨b,o,none⟩) dLen dCap,.slice (some a) sLen sCap]).run Tryz.prog w=.ok (goInt l.length) (w.setCells b o (fl l)):=by
 have hl:=run_loadCells_list (P:=Tryz.prog) w a (fl l) hsrc
 have hst:=run_storeCells_cells (P:=Tryz.prog) b o (fl l) 0 w (by simpa using hc) (by simpa using hf) fl_one
 obtain ⟨i0,hi0,hz0,hz1,hz2⟩:=info_parts (show (Tryz.prog.info? 61).map (fun i=>(i.zero,i.size,i.bytes))=some (some (.agg #[.string ⟨#[]⟩,.int .i64 0,.int .i64 0,.string ⟨#[]⟩]),4,48) by kernel_rfl)
 rw [fl_length] at hl
 simp [Builtin.copy_,run_underlying hu,Builtin.lenOf,Builtin.firstCells,sizeOf,typeInfo,hi0,hz1,← hn,hl,hst]
theorem append_two {P:Program} {w:World} {t t' ty e e':TypeId} {i:TypeInfo} {b:Option Addr} {n c:Nat} {u:Value} (ht:P.underlying t=some (.slice e)) (ht':P.underlying t'=some (.slice e')) (hi:P.info? e=some i):(Builtin.append_ #[t,t'] ty #[.slice b n c,u]).run P w=(Builtin.append_ #[t,t] ty #[.slice b n c,u]).run P w:=by
 simp [Builtin.append_,run_underlying ht,run_underlying ht',sizeOf,typeInfo,hi]
theorem fl_sing (f:Pf):fl [f]=f.arr.toList:=rfl
set_option maxHeartbeats 8000000 in
set_option maxRecDepth 100000 in
theorem tinsert_end (g n c:Nat) (l:List Pf) (f:Pf) (vb:Nat) (w:World) (h:OwnC w g l c) (hn:l.length=n) (hb:n≤1000000) (hc:c≤maxLen) (hv:Blk w vb 61 f.arr):
 Calls Tryz.prog 190 #[.slice (some ⟨g,0,none⟩) n c,.int .i64 n,.slice (some ⟨vb,0,none⟩) 1 1] w fun e w'=>∃ g' c',e=.returned (.slice (some ⟨g',0,none⟩) (n+1) c')∧g≤g'∧Hid (OwnT w' g' (l ++ [f]))∧Hid (Kg g w w'):=by
 obtain ⟨i0,hi0,hz0,hz1,hz2⟩:=info_parts (show (Tryz.prog.info? 61).map (fun i=>(i.zero,i.size,i.bytes))=some (some (.agg #[.string ⟨#[]⟩,.int .i64 0,.int .i64 0,.string ⟨#[]⟩]),4,48) by kernel_rfl)
 have hlc:=h.le
 have hgl:=h.own.lt
 have hown:w.ownsRow g 61 4 (.slice (some ⟨g,0,none⟩) n c) n (fl l):=by
  obtain ⟨post,hB,e⟩:=h
  refine ⟨by rw [fl_length,hn],.inr ⟨g,c,_,rfl,Nat.le_refl _,hB.eq,by omega,hc,?_,?_⟩⟩
  ·have:=fl_length l
   simp
   omega
  ·rw [List.take_left' (by rw [fl_length,hn])]
 have hcv:∀ j u,(fl [f])[j]?=some u→w.cell? ⟨vb,0+j,none⟩=some u:=fun j u hj=>by
  rw [hv.cell,Nat.zero_add]
  rw [fl_sing,Array.getElem?_toList] at hj
  exact hj
 have HO:=Lib.hid hown
 have hcap:∀ ty,∃ v' w',(Builtin.append_ #[23,22] ty #[.slice (some ⟨g,0,none⟩) n c,.slice (some ⟨vb,0,none⟩) 1 1]).run Tryz.prog w=.ok v' w'∧Hid (w'.ownsRow g 61 4 v' (n+1) (fl l ++ fl [f]))∧Hid (w.grownBy w' (some g)):=fun ty=>by
  obtain ⟨v',w',e1,e2,e3,_⟩:=run_append_own w g 23 ty 61 i0 _ 4 48 Tryz.underlying23 hi0 hz0 hz1 hz2 rfl (by decide) _ n _ hown ⟨vb,0,none⟩ 1 1 (fl [f]) rfl (fun j u hj=>by rw [Addr.add_lit];exact hcv j u hj) fl_one (by unfold maxLen;omega) (by omega) (Nat.le_of_lt hgl)
  refine ⟨v',w',?_,Lib.hid e2,Lib.hid e3⟩
  rw [append_two Tryz.underlying23 Tryz.underlying22 hi0]
  exact e1
 have HFL:Hid (fl l ++ fl [f]=fl (l ++ [f])):=Lib.hid (fl_append l [f]).symm
 clear h hown hcv hv HO hn
 obtain ⟨v',w',hr,HW,HG⟩:=hcap 23
 clear hcap
 by_cases hcn:c=n
 ·subst hcn
  go_enter Tryz.func190,Tryz.ntmps190
  have hx:=Ext.refl w
  go_wp2_with (at_builtin;refine Lib.wpList_append_run _ rfl _ _ _ _ rfl _ _ rfl rfl _ _ hr ?_)
  all_goals go_ret
  obtain ⟨_,h | ⟨g',cap,cur,rfl,h1,h2,h3,h4,h5,h6⟩⟩:=HW.out
  ·exact absurd h.2 (Nat.succ_ne_zero _)
  ·exact ⟨g',cap,rfl,h1,Lib.hid ⟨cur.toList.drop ((c+1) * 4),by rw [← HFL.out,← h6,List.take_append_drop];exact Blk.mk h2⟩,Lib.hid (Kg.of_grown HG.out)⟩
 ·skip
  go_enter Tryz.func190,Tryz.ntmps190
  have hx:=Ext.refl w
  go_wp2_with (at_builtin;refine Lib.wpList_append_run _ rfl _ _ _ _ rfl _ _ rfl rfl _ _ hr ?_)
  all_goals go_ret
  obtain ⟨_,h | ⟨g',cap,cur,rfl,h1,h2,h3,h4,h5,h6⟩⟩:=HW.out
  ·exact absurd h.2 (Nat.succ_ne_zero _)
  ·exact ⟨g',cap,rfl,h1,Lib.hid ⟨cur.toList.drop ((n+1) * 4),by rw [← HFL.out,← h6,List.take_append_drop];exact Blk.mk h2⟩,Lib.hid (Kg.of_grown HG.out)⟩
set_option maxHeartbeats 8000000 in
set_option maxRecDepth 100000 in
theorem tinsert_room (g n c k:Nat) (l:List Pf) (f:Pf) (vb:Nat) (w:World) (h:OwnC w g l c) (hn:l.length=n) (hk:k < n) (hb:n≤1000000) (hroom:n+1≤c) (hc:c≤9223372036854775807) (hv:Blk w vb 61 f.arr) (hne:vb≠g):
 Calls Tryz.prog 190 #[.slice (some ⟨g,0,none⟩) n c,.int .i64 k,.slice (some ⟨vb,0,none⟩) 1 1] w fun e w'=>∃ g' c',e=.returned (.slice (some ⟨g',0,none⟩) (n+1) c')∧g≤g'∧Hid (OwnT w' g' (l.take k ++ f :: l.drop k))∧Hid (Kg g w w'):=by
 have hgl:=h.own.lt
 obtain ⟨post,hB,hpl⟩:=h
 have hfl:=fl_length l
 have ht1:(fl (l.take k)).length=k * 4:=by rw [fl_length,List.length_take,Nat.min_eq_left (by omega)]
 have hd1:(fl (l.drop k)).length=(n - k) * 4:=by rw [fl_length,List.length_drop,hn]
 have hd0:(l.drop k).length=n - k:=by rw [List.length_drop,hn]
 have hcut:fl l=fl (l.take k) ++ fl (l.drop k):=by rw [← fl_append,List.take_append_drop]
 obtain ⟨S,hS⟩:∃ S,S=fl (l.drop k) ++ post.take 4:=⟨_,rfl⟩
 have hSl:S.length=(n - k) * 4+4:=by rw [hS,List.length_append,hd1,List.length_take,Nat.min_eq_left (by omega)]
 have eA:fl l ++ post=(fl (l.take k) ++ S.take 4) ++ (S.drop 4 ++ post.drop 4):=by
  rw [hcut]
  simp only [List.append_assoc]
  congr 1
  rw [← List.append_assoc (S.take 4),List.take_append_drop,hS,List.append_assoc,List.take_append_drop]
 have hsp:∀ j,j < (n+1) * 4→(w.cell? ⟨g,j,none⟩).isSome=true:=fun j hj=>by
  rw [hB.cell,List.getElem?_toArray,List.getElem?_eq_getElem (by rw [List.length_append];omega)]
  rfl
 have hx4:(fl (l.take k) ++ S.take 4).length=(k+1) * 4:=by rw [List.length_append,ht1,List.length_take,Nat.min_eq_left (by omega)];omega
 obtain ⟨W1,hW1⟩:∃ W1,W1=w.drew.setCells g ((k+1) * 4) (fl (l.drop k)):=⟨_,rfl⟩
 have hB1:Blk W1 g 61 (fl (l.take k) ++ (S.take 4 ++ (fl (l.drop k) ++ post.drop 4))).toArray:=by
  have h4:=hB.drew
  rw [eA] at h4
  have h5:=Blk.midT (fl (l.drop k)) (S.drop 4) (fl (l.take k) ++ S.take 4) (post.drop 4) w.drew (by rw [hd1,List.length_drop,hSl];omega) h4
  rw [hx4,← hW1,List.append_assoc] at h5
  exact h5
 have hK1:Kg g w W1:=by rw [hW1];exact (Kg.drew g w).trans (Kg.set _ _ _ _)
 have hF:∀ W,Ext W1 W→OwnT (W.setCells g (k * 4) (fl [f])) g (l.take k ++ f :: l.drop k)∧Kg g w (W.setCells g (k * 4) (fl [f])):=fun W hW=>by
  have h5:=Blk.midT (fl [f]) (S.take 4) (fl (l.take k)) (fl (l.drop k) ++ post.drop 4) W (by rw [List.length_take,Nat.min_eq_left (by omega)];rfl) (Blk.ext hW hB1)
  rw [ht1] at h5
  refine ⟨⟨post.drop 4,Blk.conv' h5 ?_⟩,(hK1.trans (Kg.of_ext hW)).trans (Kg.set _ _ _ _)⟩
  rw [fl_append,show fl (f :: l.drop k)=fl [f] ++ fl (l.drop k) from fl_append [f] _]
  simp
 have hov:∀ lb cb,(callFunc 194 #[.slice (some ⟨vb,0,none⟩) 1 1,.slice (some ⟨g,(k+1) * 4,none⟩) lb cb]).run Tryz.prog w=.ok (.value (.bool false)) w:=fun lb cb=>by
  rw [run_callFunc_extern Tryz.func194 (by kernel_rfl) (by kernel_rfl) (by kernel_rfl) (e:=Extern.SlicesOverlaps.overlaps #[22,22] #[4]) (by kernel_rfl),
   Lib.run_overlaps_apart w 22 4 61 Tryz.underlying22 4 Tryz.sizeOf61 ⟨vb,0,none⟩ ⟨g,(k+1) * 4,none⟩ 1 1 lb cb hne _ _ _ _ hv.shape hB.shape (by rw [List.size_toArray,List.length_append];omega) (hv.frozen _) (hv.frozen _)]
  rfl
 have hcp1:∀ ty dc sc,(Builtin.copy_ #[23,23] ty #[.slice (some ⟨g,(k+1) * 4,none⟩) (n - k) dc,.slice (some ⟨g,k * 4,none⟩) (n+1 - k) sc]).run Tryz.prog w.drew=.ok (goInt (l.drop k).length) (w.drew.setCells g ((k+1) * 4) (fl (l.drop k))):=fun ty dc sc=>
  run_copy_files w.drew _ _ ty g ((k+1) * 4) (n - k) dc ⟨g,k * 4,none⟩ (n+1 - k) sc (l.drop k) Tryz.underlying23 (by rw [hd0];simp only [Nat.min_def];split <;> omega)
   (fun j v hj=>by
     rw [Addr.add_lit]
     show w.cell? _=_
     rw [hB.cell,List.getElem?_toArray,List.getElem?_append_left (by have :=(List.getElem?_eq_some_iff.1 hj).1;omega),hcut,List.getElem?_append_right (by omega),ht1,show k * 4+j - k * 4=j by omega]
     exact hj)
   (fun j hj=>by show (w.cell? _).isSome=true;exact hsp _ (by omega)) (fun j hj=>hB.drew.frozen _)
 have hcp2:∀ (W:World),(∀ x,W.cell? x=W1.cell? x)→(∀ x,W.frozen? x=W1.frozen? x)→∀ ty dc,(Builtin.copy_ #[23,22] ty #[.slice (some ⟨g,k * 4,none⟩) (n+1 - k) dc,.slice (some ⟨vb,0,none⟩) 1 1]).run Tryz.prog W=.ok (goInt 1) (W.setCells g (k * 4) (fl [f])):=fun W hWc hWf ty dc=>
  run_copy_files W _ _ ty g (k * 4) (n+1 - k) dc ⟨vb,0,none⟩ 1 1 [f] Tryz.underlying23 (by show 1=_;simp only [Nat.min_def];split <;> omega)
   (fun j v hj=>by
     rw [Addr.add_lit,hWc,(hK1.blk _ _ _ hv hne).cell,Nat.zero_add]
     rw [fl_sing,Array.getElem?_toList] at hj
     exact hj)
   (fun j hj=>by
     have hj4:j < 4:=hj
     rw [hWc,hB1.cell,List.getElem?_toArray,List.getElem?_eq_getElem (by simp only [List.length_append,ht1,hd1,List.length_take,hSl];omega)]
     rfl) (fun j hj=>by rw [hWf];exact hB1.frozen _)
 rw [← hW1] at hcp1
 have HF:=Lib.hid hF
 have mixed:Tryz.prog.follows .mixedOrders=true:=by kernel_rfl
 have hz2:¬ ((k:Int)=(n:Int)):=by omega
 have hw1:IntKind.i64.wrap ((k:Int)+1)=(k:Int)+1:=by rw [IntKind.wrap_i64];omega
 have hb1:(0:Int)≤(k:Int)+1:=by omega
 have hin:k≤n:=by omega
 have htn:((k:Int)+1).toNat=k+1:=by omega
 have hb2:¬ (c=k+1):=by omega
 have hb3:(k:Int)≤(n:Int)+1:=by omega
 have hb4:¬ (c=k):=by omega
 clear hB hB1 hK1 hF hsp eA hS hSl hx4 hcut hv hpl hfl ht1 hd1 hW1
 go_enter Tryz.func190,Tryz.ntmps190
 have hx:=Ext.refl w
 go_wp2_with (simp only [hov])
 go_region_law_o (refine step_copy_runI rfl _ _ 23 23 rfl _ _ (by simp [Act.eval,Act.put]) (by simp [Act.eval,Act.put]) (hcp1 _ _ _) ?_)
 go_wp2_with (at_builtin;refine wpList_copy_runI _ rfl _ _ 23 22 rfl _ _ rfl rfl (hcp2 _ (fun _=>rfl) (fun _=>rfl) _ _) ?_)
 go_ret
 exact ⟨g,c,rfl,Nat.le_refl _,Lib.hid (HF.out _ (Ext.refl _)).1,Lib.hid (HF.out _ (Ext.refl _)).2⟩
set_option maxHeartbeats 8000000 in
set_option maxRecDepth 100000 in
theorem tinsert_grow (g n k:Nat) (l:List Pf) (f:Pf) (vb:Nat) (w:World) (h:OwnC w g l n) (hn:l.length=n) (hk:k < n) (hb:n≤1000000) (hv:Blk w vb 61 f.arr):
 Calls Tryz.prog 190 #[.slice (some ⟨g,0,none⟩) n n,.int .i64 k,.slice (some ⟨vb,0,none⟩) 1 1] w fun e w'=>∃ g' c',e=.returned (.slice (some ⟨g',0,none⟩) (n+1) c')∧g≤g'∧Hid (OwnT w' g' (l.take k ++ f :: l.drop k))∧Hid (Kg g w w'):=by
 obtain ⟨i0,hi0,hz0,hz1,hz2⟩:=info_parts (show (Tryz.prog.info? 61).map (fun i=>(i.zero,i.size,i.bytes))=some (some (.agg #[.string ⟨#[]⟩,.int .i64 0,.int .i64 0,.string ⟨#[]⟩]),4,48) by kernel_rfl)
 have hgl:=h.own.lt
 have hvl:=hv.lt
 have hgw:g≠w.heap.size:=by omega
 have hvw:vb≠w.heap.size:=by omega
 obtain ⟨post,hB,hpl⟩:=h
 have hfl:=fl_length l
 have ht1:(fl (l.take k)).length=k * 4:=by rw [fl_length,List.length_take,Nat.min_eq_left (by omega)]
 have hd0:(l.drop k).length=n - k:=by rw [List.length_drop,hn]
 have hd1:(fl (l.drop k)).length=(n - k) * 4:=by rw [fl_length,hd0]
 have ht0:(l.take k).length=k:=by rw [List.length_take,Nat.min_eq_left (by omega)]
 have hcut:fl l=fl (l.take k) ++ fl (l.drop k):=by rw [← fl_append,List.take_append_drop]
 have hold:(Builtin.firstCells i0.size k (.slice (some ⟨g,0,none⟩) k n)).run Tryz.prog w.drew=.ok (fl (l.take k)).toArray w.drew:=by
  rw [hz1]
  exact run_firstCells_some w.drew 4 k ⟨g,0,none⟩ k n (fl (l.take k)) ht1 (fun j v hj=>by
   rw [Addr.add_lit]
   show w.cell? _=_
   rw [hB.cell,Nat.zero_add,List.getElem?_toArray,List.getElem?_append_left (by have :=(List.getElem?_eq_some_iff.1 hj).1;omega),hcut,List.getElem?_append_left (List.getElem?_eq_some_iff.1 hj).1]
   exact hj)
 obtain ⟨G,hG⟩:∃ G,G=grownCap w (n+1) n 61:=⟨_,rfl⟩
 have hGn:n+1≤G:=by rw [hG];exact grownCap_ge w _ _ _
 obtain ⟨W1,hW1⟩:∃ W1,W1=w.drew.alloc (.cells (fl (l.take k ++ ([Pf.zero] ++ (List.replicate (n - k) Pf.zero ++ List.replicate (G - (n+1)) Pf.zero)))).toArray 61):=⟨_,rfl⟩
 have hrz:∀ ty,(Builtin.append_ #[23,3] ty #[.slice (some ⟨g,0,none⟩) k n,.int .i64 ((n:Int)+1 - (k:Int))]).run Tryz.prog w=.ok (.slice (some ⟨w.heap.size,0,none⟩) (n+1) G) W1:=fun ty=>by
  have h:=Lib.run_append_grow_zeros w 23 3 ty 61 i0 _ .i64 .i64 Tryz.underlying23 Tryz.underlying3 hi0 hz0 (some ⟨g,0,none⟩) k n (fl (l.take k)) hold (n+1 - k) (by omega) (by omega) (by omega) (by omega) (by rw [hz2];omega) (by rw [hz2,show k+(n+1 - k)=n+1 by omega];exact growslice_fits (by omega) (by omega))
  rw [show k+(n+1 - k)=n+1 by omega] at h
  rw [show (n:Int)+1 - (k:Int)=((n+1 - k:Nat):Int) by omega,h,hW1,hG]
  congr 3
  have e1:Builtin.zeroCells (Value.agg #[.string ⟨#[]⟩,.int .i64 0,.int .i64 0,.string ⟨#[]⟩]).cells=Builtin.zeroCells zf:=rfl
  rw [e1,fl_append,fl_append,fl_append,← List.append_assoc (fl [Pf.zero]),← fl_append,show [Pf.zero] ++ List.replicate (n - k) Pf.zero=List.replicate (n+1 - k) Pf.zero from by rw [show n+1 - k=(n - k)+1 by omega,List.replicate_succ];rfl,← zeros_fl,← zeros_fl]
  simp
 have hO1:OwnC W1 w.heap.size (l.take k ++ ([Pf.zero] ++ (List.replicate (n - k) Pf.zero ++ List.replicate (G - (n+1)) Pf.zero))) G:=by
  refine ⟨[],?_,by simp;omega⟩
  rw [hW1,List.append_nil]
  exact Blk.new' rfl
 have hK1:Kg w.heap.size w W1:=by rw [hW1];exact Kg.of_ext ((Ext.refl w).drew1.alloc _)
 have hE1:Ext w W1:=by rw [hW1];exact (Ext.refl w).drew1.alloc _
 obtain ⟨W2,hW2⟩:∃ W2,W2=W1.setCells w.heap.size (k * 4) (fl [f]):=⟨_,rfl⟩
 have hO2:OwnC W2 w.heap.size ((l.take k ++ [f]) ++ (List.replicate (n - k) Pf.zero ++ List.replicate (G - (n+1)) Pf.zero)) G:=by
  have:=hO1.over [f] rfl
  rw [ht0,← hW2] at this
  rw [List.append_assoc]
  exact this
 have hK2:Kg w.heap.size w W2:=by rw [hW2];exact hK1.trans (Kg.set _ _ _ _)
 have hcell:∀ {W:World} {r:List Pf} {j:Nat},OwnC W w.heap.size r G→j < G * 4→r.length=G→(W.cell? ⟨w.heap.size,j,none⟩).isSome=true:=fun {W r j} h hj hr=>by
  obtain ⟨post,hB,e⟩:=h
  rw [hB.cell,List.getElem?_toArray,List.getElem?_eq_getElem (by rw [List.length_append,fl_length];omega)]
  rfl
 have hR1:(l.take k ++ ([Pf.zero] ++ (List.replicate (n - k) Pf.zero ++ List.replicate (G - (n+1)) Pf.zero))).length=G:=by simp;omega
 have hR2:((l.take k ++ [f]) ++ (List.replicate (n - k) Pf.zero ++ List.replicate (G - (n+1)) Pf.zero)).length=G:=by simp;omega
 have hcpA:∀ ty dc,(Builtin.copy_ #[23,22] ty #[.slice (some ⟨w.heap.size,k * 4,none⟩) (n+1 - k) dc,.slice (some ⟨vb,0,none⟩) 1 1]).run Tryz.prog W1=.ok (goInt 1) W2:=fun ty dc=>by
  rw [hW2]
  exact run_copy_files W1 _ _ ty w.heap.size (k * 4) (n+1 - k) dc ⟨vb,0,none⟩ 1 1 [f] Tryz.underlying23 (by show 1=_;simp only [Nat.min_def];split <;> omega)
   (fun j v hj=>by
     rw [Addr.add_lit,(Blk.ext hE1 hv).cell,Nat.zero_add]
     rw [fl_sing,Array.getElem?_toList] at hj
     exact hj)
   (fun j hj=>by
     have hj4:j < 4:=hj
     exact hcell hO1 (by omega) hR1) (fun j hj=>hO1.own.free _)
 obtain ⟨W3,hW3⟩:∃ W3,W3=W2.drew.setCells w.heap.size ((k+1) * 4) (fl (l.drop k)):=⟨_,rfl⟩
 have hO2':OwnC W2.drew w.heap.size ((l.take k ++ [f]) ++ (List.replicate (n - k) Pf.zero ++ List.replicate (G - (n+1)) Pf.zero)) G:=hO2.ext (Ext.refl W2).drew1
 have hcpB:∀ ty dc sc,(Builtin.copy_ #[23,23] ty #[.slice (some ⟨w.heap.size,(k+1) * 4,none⟩) (n - k) dc,.slice (some ⟨g,k * 4,none⟩) (n - k) sc]).run Tryz.prog W2.drew=.ok (goInt (l.drop k).length) W3:=fun ty dc sc=>by
  rw [hW3]
  exact run_copy_files W2.drew _ _ ty w.heap.size ((k+1) * 4) (n - k) dc ⟨g,k * 4,none⟩ (n - k) sc (l.drop k) Tryz.underlying23 (by rw [hd0];simp only [Nat.min_def];split <;> omega)
   (fun j v hj=>by
     rw [Addr.add_lit]
     show W2.cell? _=_
     rw [(hK2.blk _ _ _ hB hgw).cell,List.getElem?_toArray,List.getElem?_append_left (by have :=(List.getElem?_eq_some_iff.1 hj).1;omega),hcut,List.getElem?_append_right (by omega),ht1,show k * 4+j - k * 4=j by omega]
     exact hj)
   (fun j hj=>hcell hO2' (by omega) hR2) (fun j hj=>hO2'.own.free _)
 have hO3:OwnT W3 w.heap.size (l.take k ++ f :: l.drop k):=by
  have:=hO2'.over (l.drop k) (by rw [hd0,List.length_replicate])
  rw [show (l.take k ++ [f]).length=k+1 from by simp;omega,← hW3,← List.append_assoc] at this
  have:=this.cut.own
  rwa [List.append_assoc] at this
 have hK3:Kg g w W3:=by
  have h3:Ext w W3:=by
   rw [hW3]
   exact Ext.setAll (Nat.le_refl _) _ _ _ (Ext.trans (by rw [hW2];exact Ext.setAll (Nat.le_refl _) _ _ _ hE1) (Ext.refl W2).drew1)
  exact Kg.of_ext h3
 have HO3:=Lib.hid hO3
 have HK3:=Lib.hid hK3
 have mixed:Tryz.prog.follows .mixedOrders=true:=by kernel_rfl
 have hz2:¬ ((k:Int)=(n:Int)):=by omega
 have hw1:IntKind.i64.wrap ((k:Int)+1)=(k:Int)+1:=by rw [IntKind.wrap_i64];omega
 have hb1:(0:Int)≤(k:Int)+1:=by omega
 have hin:k≤n:=by omega
 have htn:((k:Int)+1).toNat=k+1:=by omega
 have hb3:(k:Int)≤(n:Int):=by omega
 have hGi:¬ (G=k):=by omega
 have hGim:¬ (G=k+1):=by omega
 have hni:¬ (n=k):=by omega
 clear hG hB hO1 hO2 hO2' hO3 hK1 hK2 hK3 hE1 hcell hR1 hR2 hcut hv hpl hfl ht1 hd1 hd0 ht0 hold hW1 hW2 hW3
 go_enter Tryz.func190,Tryz.ntmps190
 have hx:=Ext.refl w
 go_wp2_with (first
  | (at_builtin;refine Lib.wpList_append_run _ rfl _ _ _ _ rfl _ _ rfl rfl _ _ (hrz _) ?_)
  | (at_builtin;refine wpList_copy_runI _ rfl _ _ 23 22 rfl _ _ rfl rfl (hcpA _ _) ?_))
 go_region_law_o (refine step_copy_runI rfl _ _ 23 23 rfl (.slice (some ⟨w.heap.size,(k+1) * 4,none⟩) (n - k) (G - (k+1))) (.slice (some ⟨g,k * 4,none⟩) (n - k) (n - k)) (by simp [Act.eval,Act.put]) (by simp [Act.eval,Act.put]) (hcpB 3 (G - (k+1)) (n - k)) ?_)
 go_wp2
 go_ret
 exact ⟨_,_,rfl,Nat.le_of_lt hgl,HO3,HK3⟩
end Go.Proofs.YtfmgnaigcibcaaaGreatDoor
namespace Go.Proofs.YtfmgnaigcibcaaaGreatDoor
open Go Go.RowKit Go.Lib
theorem tcloneC_any (b o n c:Nat) (l:List Pf) (w:World) (h:Trs w (some ⟨b,o,none⟩) l) (hn:l.length=n) (hb:n≤1000000):
 Calls Tryz.prog 185 #[.slice (some ⟨b,o,none⟩) n c] w fun e w'=>∃ g c',e=.returned (.slice (some ⟨g,0,none⟩) n c')∧w.heap.size≤g∧c'≤maxLen∧OwnC w' g l c'∧Ext w w':=by
 obtain ⟨i0,hi0,hz0,hz1,hz2⟩:=info_parts (show (Tryz.prog.info? 61).map (fun i=>(i.zero,i.size,i.bytes))=some (some (.agg #[.string ⟨#[]⟩,.int .i64 0,.int .i64 0,.string ⟨#[]⟩]),4,48) by kernel_rfl)
 have hcells:∀ j u,(fl l)[j]?=some u→w.cell? ⟨b,o+j,none⟩=some u:=fun j u hu=>by
  have h0:0 < l.length:=by
   have:=(List.getElem?_eq_some_iff.1 hu).1
   rw [fl_length] at this
   omega
  obtain ⟨b',o',e,_,hr⟩:=h h0
  cases e
  exact hr j u hu
 have hcon:=AnyE.slices_Clone Tryz.laysClone i0 _ 4 48 hi0 hz0 hz1 hz2 rfl (by decide) Tryz.sizeOf61 b o n c (fl l) w (by rw [fl_length,hn]) (by unfold maxLen;omega) (by omega) hcells fl_one
 change Calls Tryz.prog 185 _ _ _ at hcon
 refine hcon.mono ?_
 rintro e w' ⟨v',rfl,⟨hl,hr⟩,hne,hx⟩
 rcases hr with ⟨rfl,_⟩ | ⟨g,cap,cur,rfl,hg,hb',hc1,hc2,hc3,hc4⟩
 ·exact (hne rfl).elim
 ·refine ⟨g,cap,rfl,hg,hc2,⟨cur.toList.drop (n * 4),?_,by simp;omega⟩,hx⟩
  rw [← hc4,List.take_append_drop]
  exact hb'
set_option maxHeartbeats 4000000 in
set_option maxRecDepth 100000 in
theorem index_nil (v:Value) (w:World):Calls Tryz.prog 192 #[.slice none 0 0,v] w (Ret (.int .i64 (-1)) w):=by
 go_enter Tryz.func192,Tryz.ntmps192
 have hx:=Ext.refl w
 go_wp2
 go_loopw [8] (fun i wr=>i=.int .i64 0∧Hid (Ext w wr)) (fun i wr=>0)
 case atStart=>exact ⟨rfl,Lib.hid EX⟩
 case round=>
  obtain ⟨rfl,hx⟩:=hrel
  go_wp2
  go_ret
  exact ⟨rfl,hx.out⟩
set_option maxHeartbeats 4000000 in
set_option maxRecDepth 100000 in
theorem delete_nil (v:Value) (w:World):Calls Tryz.prog 184 #[.slice none 0 0,v] w (Ret (.slice none 0 0) w):=by
 go_enter Tryz.func184,Tryz.ntmps184
 have hx:=Ext.refl w
 go_wp2_with (go_at_call 192;refine (index_nil _ _).mono ?_;rintro e w1 ⟨rfl,hx0⟩)
 go_ret
 exact ⟨rfl,hx0⟩
theorem clone_nil (n c:Nat) (w:World):Calls Tryz.prog 185 #[.slice none n c] w (Ret (.slice none 0 0) w):=by
 have hcon:=AnyE.slices_Clone_nil Tryz.laysClone n c w
 change Calls Tryz.prog 185 _ _ _ at hcon
 refine hcon.mono ?_
 rintro e w' ⟨rfl,rfl⟩
 exact ⟨rfl,Ext.refl _⟩
section
variable {P:Program}
theorem run_append_zeroT {w:World} (base:Nat) (t ty e:TypeId) (i:TypeInfo) (size:Nat) (ht:P.underlying t=some (.slice e)) (hi:P.info? e=some i)
 (v:Value) (n:Nat) (xs:List Value) (hown:w.ownsRow base e size v n xs) (ad:Addr) (c:Nat):
 (Builtin.append_ #[t,t] ty #[v,.slice (some ad) 0 c]).run P w=.ok v w:=by
 have hf:=run_firstCells_some (P:=P) w i.size 0 ad 0 c [] (by simp) (by simp)
 rcases hown.2 with ⟨rfl,rfl⟩ | ⟨g,cap,cur,rfl,_,_,hnc,_⟩
 ·simp [Builtin.append_,run_underlying ht,sizeOf,typeInfo,hi,Builtin.lenOf,hf]
 ·simp [Builtin.append_,run_underlying ht,sizeOf,typeInfo,hi,Builtin.lenOf,hf,hnc,storeCells]
variable {ops:Array Oper} {Q:Exit→Act→World→Prop}
theorem wpList_append_zeroT {w:World} {rest:List Oper} {o:Oper} {a:Act} (hgd:o.guard=none) (s x:Operand) (t:TypeId)
 (ho:o.op=.call { callee:=.builtin .append,args:=#[s,x],argTypes:=#[t,t] })
 (base:Nat) (e:TypeId) (i:TypeInfo) (size:Nat) (ht:P.underlying t=some (.slice e)) (hi:P.info? e=some i)
 (v:Value) (n:Nat) (xs:List Value) (hs:a.eval s=v) (hown:w.ownsRow base e size v n xs) (ad:Addr) (c:Nat) (hx:a.eval x=.slice (some ad) 0 c)
 (h:wpList P ops Q rest (a.put o.dst v) w):wpList P ops Q (o :: rest) a w:=by
 refine wpList_plain hgd fun K hK=>?_
 have hrun:=run_append_zeroT (P:=P) (w:=w) base t o.type e i size ht hi v n xs hown ad c
 unfold Oper.wp
 simp [execOp,ho,resolve,invoke,builtin,hs,hx,hrun,Result.andThen]
 exact hK _ _ h
end
set_option maxHeartbeats 4000000 in
set_option maxRecDepth 100000 in
theorem tclone_spot (a:Addr) (c:Nat) (w:World):
 Calls Tryz.prog 185 #[.slice (some a) 0 c] w fun e w'=>∃ g c',e=.returned (.slice (some ⟨g,0,none⟩) 0 c')∧w.heap.size≤g∧c'≤maxLen∧OwnC w' g [] c'∧Ext w w':=by
 have qq:∀ (w:World) (a:Option Addr) (n c n' c':Nat),(Go.binOp .eql 23 (.slice a n c) (.slice none n' c')).run Tryz.prog w=.ok (.bool a.isNone) w:=fun w a n c n' c'=>Lib.run_eql_slice_nil w _ _ a n c n' c' Tryz.underlying23
 obtain ⟨i0,hi0,_⟩:=info_parts (show (Tryz.prog.info? 61).map (fun i=>(i.zero,i.size,i.bytes))=some (some (.agg #[.string ⟨#[]⟩,.int .i64 0,.int .i64 0,.string ⟨#[]⟩]),4,48) by kernel_rfl)
 go_enter Tryz.func185,Tryz.ntmps185
 have hx:=Ext.refl w
 go_wp2_with (at_builtin;refine wpList_append_zeroT rfl _ _ 23 rfl w.heap.size 61 i0 4 Tryz.underlying23 hi0 _ 0 [] rfl (World.ownsRow_lit w #[] 0 (Nat.le_refl _) (Nat.zero_le _) rfl) a c rfl ?_)
 go_ret
 exact ⟨w.heap.size,0,rfl,Nat.le_refl _,Nat.zero_le _,⟨[],Blk.new' rfl,rfl⟩,EX⟩
theorem tcloneA_any (a:Addr) (n c:Nat) (l:List Pf) (w:World) (h:Trs w (some a) l) (hn:l.length=n) (hb:n≤1000000):
 Calls Tryz.prog 185 #[.slice (some a) n c] w fun e w'=>∃ g c',e=.returned (.slice (some ⟨g,0,none⟩) n c')∧w.heap.size≤g∧c'≤maxLen∧OwnC w' g l c'∧Ext w w':=by
 by_cases h0:0 < l.length
 ·obtain ⟨b,o,e,_⟩:=h h0
  cases e
  exact tcloneC_any b o n c l w h hn hb
 ·obtain rfl:l=[]:=List.length_eq_zero_iff.1 (by omega)
  obtain rfl:n=0:=hn.symm
  exact tclone_spot a c w
set_option maxHeartbeats 4000000 in
set_option maxRecDepth 100000 in
theorem search_nil (f:Pf) (w:World):Calls Tryz.prog 187 #[.slice none 0 0,f.v,.func (.func 188) #[] #[]] w fun e w'=>∃ b,e=.returned (.tuple #[.int .i64 0,.bool b])∧Ext w w':=by
 go_enter Tryz.func187,Tryz.ntmps187
 have hx:=Ext.refl w
 go_wp2
 go_loopw [9,10] (fun i j wr=>i=.int .i64 0∧j=.int .i64 0∧Hid (Ext w wr)∧Hid (Blk wr w.heap.size 61 f.arr)) (fun i j wr=>0)
 case atStart=>exact ⟨rfl,rfl,Lib.hid EX,Lib.hid (Blk.new' rfl)⟩
 case round=>
  clear hx
  obtain ⟨rfl,rfl,HX,HB⟩:=hrel
  have HC1:Hid (∀ W,Ext wr W→∀ i,W.cell? ⟨w.heap.size,i,none⟩=f.arr[i]?):=Lib.hid (fun W hW=>(Blk.ext hW HB.out).cell)
  have HC0:=HC1
  have hx:=HX.out
  go_wp2_with fail
  refine wp_region_ext (by kernel_rfl) (by kernel_rfl) ?_
  repeat (first | go_big_quiet_skip | (go_big_quiet_want;first | (go_big_quiet_op;go_big_quiet_on) | (apply quiet_at;intro W hW;have hc0:=HC0.out W hW;have hc1:=HC1.out W hW;go_simp;(first | exact rfl | (simp only [Oper.quietUpon,true_and];first | exact rfl | (fail)) | (fail));go_big_quiet_on;simp only [Act.put,sA,s0,sS])))
  refine wpQuiet_nil ?_
  intro w2 hx0
  replace hx:=hx.trans hx0
  go_wp2_with fail
  go_ret2
  exact ⟨_,rfl,hx⟩
set_option maxHeartbeats 8000000 in
set_option maxRecDepth 100000 in
theorem insert_nil (f:Pf) (vb:Nat) (w:World) (hv:Blk w vb 61 f.arr):
 Calls Tryz.prog 190 #[.slice none 0 0,.int .i64 0,.slice (some ⟨vb,0,none⟩) 1 1] w fun e w'=>∃ g' c',e=.returned (.slice (some ⟨g',0,none⟩) 1 c')∧w.heap.size≤g'∧Hid (OwnT w' g' [f])∧Ext w w':=by
 obtain ⟨i0,hi0,hz0,hz1,hz2⟩:=info_parts (show (Tryz.prog.info? 61).map (fun i=>(i.zero,i.size,i.bytes))=some (some (.agg #[.string ⟨#[]⟩,.int .i64 0,.int .i64 0,.string ⟨#[]⟩]),4,48) by kernel_rfl)
 have hcv:∀ j u,(fl [f])[j]?=some u→w.cell? ⟨vb,0+j,none⟩=some u:=fun j u hj=>by
  rw [hv.cell,Nat.zero_add]
  rw [fl_sing,Array.getElem?_toList] at hj
  exact hj
 have hown:w.ownsRow w.heap.size 61 4 (.slice none 0 0) 0 []:=⟨rfl,.inl ⟨rfl,rfl⟩⟩
 obtain ⟨v',w',e1,e2,e3,_⟩:=run_append_own w w.heap.size 23 23 61 i0 _ 4 48 Tryz.underlying23 hi0 hz0 hz1 hz2 rfl (by decide) _ 0 _ hown ⟨vb,0,none⟩ 1 1 (fl [f]) rfl (fun j u hj=>by rw [Addr.add_lit];exact hcv j u hj) fl_one (by unfold maxLen;omega) (by omega) (Nat.le_refl _)
 have hr:(Builtin.append_ #[23,22] 23 #[.slice none 0 0,.slice (some ⟨vb,0,none⟩) 1 1]).run Tryz.prog w=.ok v' w':=by
  rw [append_two Tryz.underlying23 Tryz.underlying22 hi0]
  exact e1
 have HW:=Lib.hid e2
 have HG:Hid (w.grownBy w' none):=Lib.hid e3
 clear e1 e2 e3 hown hcv hv
 go_enter Tryz.func190,Tryz.ntmps190
 have hx:=Ext.refl w
 go_wp2_with (at_builtin;refine Lib.wpList_append_run _ rfl _ _ _ _ rfl _ _ rfl rfl _ _ hr ?_)
 all_goals go_ret
 obtain ⟨_,h | ⟨g',cap,cur,rfl,h1,h2,h3,h4,h5,h6⟩⟩:=HW.out
 ·exact absurd h.2 (Nat.succ_ne_zero _)
 ·exact ⟨g',⟨cap,rfl⟩,h1,Lib.hid ⟨cur.toList.drop ((0+1) * 4),by rw [show fl [f]=[] ++ fl [f] from rfl,← h6,List.take_append_drop];exact Blk.mk h2⟩,Below.grown (Ext.refl w) HG.out (Nat.le_refl _) (fun j e=>by cases e)⟩
end Go.Proofs.YtfmgnaigcibcaaaGreatDoor
namespace Go.Proofs.YtfmgnaigcibcaaaGreatDoor
open Go Go.RowKit Go.Lib
namespace Tr
theorem srt_filter {l:List Pf} (h:Srt l) (p:Pf→Bool):Srt (l.filter p):=List.Pairwise.filter p h
theorem srt_ext {a b:List Pf} (ha:Srt a) (hb:Srt b) (h:∀ f,f∈a ↔ f∈b):a=b:=
 (sort_eq hb.dst ha h).trans (sort_eq hb.dst hb (fun _=>Iff.rfl)).symm
theorem put_eq {l:List Pf} (h:Srt l) (f:Pf) {k:Nat} (hk:Cut (l.filter fun x=>!Qm.eqB x.path f.path) f.path k):
 (l.filter fun x=>!Qm.eqB x.path f.path).take k ++ f :: (l.filter fun x=>!Qm.eqB x.path f.path).drop k=putIn f l:=by
 have hr:=srt_filter h (fun x=>!Qm.eqB x.path f.path)
 have hne:∀ x∈l.filter (fun x=>!Qm.eqB x.path f.path),x.path≠f.path:=fun x hx e=>by
  have:=(List.mem_filter.1 hx).2
  rw [Qm.eqB_iff.2 e] at this
  cases this
 have hm:∀ x,x∈l.filter (fun x=>!Qm.eqB x.path f.path) ↔ x∈l∧x.path≠f.path:=fun x=>by
  rw [List.mem_filter]
  refine and_congr_right fun _=>?_
  rw [Bool.not_eq_true',← Bool.not_eq_true,Qm.eqB_iff]
 generalize l.filter (fun x=>!Qm.eqB x.path f.path)=r at hk hr hne hm ⊢
 obtain ⟨_,h1,h2⟩:=hk
 refine srt_ext ?_ (putIn_srt h f) fun x=>?_
 ·have hr':=hr
  unfold Srt at hr' ⊢
  rw [← List.take_append_drop k r,List.pairwise_append] at hr'
  obtain ⟨p1,p2,p3⟩:=hr'
  rw [List.pairwise_append,List.pairwise_cons]
  have hd:∀ y∈r.drop k,lt f.path y.path=true:=fun y hy=>by
   obtain ⟨j,hj,e⟩:=List.mem_iff_getElem.1 hy
   rw [List.getElem_drop] at e
   have hj':k+j < r.length:=by simp at hj;omega
   have:=h2 (k+j) y (Nat.le_add_right k j) (by rw [List.getElem?_eq_getElem hj',e])
   rcases lt_or y.path f.path with c | c | c
   ·rw [this] at c;cases c
   ·exact (hne y (List.mem_of_mem_drop hy) c).elim
   ·exact c
  refine ⟨p1,⟨hd,p2⟩,fun y hy z hz=>?_⟩
  rcases List.mem_cons.1 hz with rfl | hz
  ·obtain ⟨j,hj,e⟩:=List.mem_iff_getElem.1 hy
   rw [List.getElem_take] at e
   have hj':j < k∧j < r.length:=by simp at hj;omega
   exact h1 j y hj'.1 (by rw [List.getElem?_eq_getElem hj'.2,e])
  ·exact p3 y hy z hz
 ·rw [putIn_mem h,List.mem_append,List.mem_cons,← hm x]
  have:x∈r ↔ x∈r.take k∨x∈r.drop k:=by rw [← List.mem_append,List.take_append_drop]
  rw [this]
  constructor
  ·rintro (a | a | a)
   ·exact .inr (.inl a)
   ·exact .inl a
   ·exact .inr (.inr a)
  ·rintro (a | a | a)
   ·exact .inr (.inl a)
   ·exact .inl a
   ·exact .inr (.inr a)
end Tr
theorem tinsert_any (g n c k:Nat) (l:List Pf) (f:Pf) (vb:Nat) (w:World) (h:OwnC w g l c) (hn:l.length=n) (hk:k≤n) (hb:n≤1000000) (hc:c≤maxLen) (hv:Blk w vb 61 f.arr) (hne:vb≠g):
 Calls Tryz.prog 190 #[.slice (some ⟨g,0,none⟩) n c,.int .i64 k,.slice (some ⟨vb,0,none⟩) 1 1] w fun e w'=>∃ g' c',e=.returned (.slice (some ⟨g',0,none⟩) (n+1) c')∧g≤g'∧Hid (OwnT w' g' (l.take k ++ f :: l.drop k))∧Hid (Kg g w w'):=by
 by_cases hkn:k=n
 ·subst hkn
  have:=tinsert_end g k c l f vb w h hn hb hc hv
  rwa [List.take_of_length_le (by omega),List.drop_eq_nil_of_le (by omega)]
 ·by_cases hr:n+1≤c
  ·exact tinsert_room g n c k l f vb w h hn (by omega) hb hr (by unfold maxLen at hc;omega) hv hne
  ·have hlc:=h.le
   obtain rfl:c=n:=by omega
   exact tinsert_grow g c k l f vb w h hn (by omega) hb hv
set_option maxHeartbeats 1000000 in
theorem pred1_any (kc:Nat) (f x:Pf) (W:World) (hB:Blk W kc 61 f.arr):Calls Tryz.prog 186 #[x.v,.pointer (some ⟨kc,0,none⟩)] W (Ret (.bool (Qm.eqB x.path f.path)) W):=by
 obtain ⟨hc0,hf0,hl0⟩:=hB.all
 have HQ:Hid ((x.path.toList == f.path.toList)=Qm.eqB x.path f.path):=Lib.hid rfl
 have hx:=Ext.refl W
 have hx2:=(Ext.refl W).alloc (.cells x.arr 61)
 go_enter Tryz.func186,Tryz.ntmps186
 go_wp2
 go_ret
 exact ⟨rfl,hx2⟩
set_option maxHeartbeats 8000000 in
set_option maxRecDepth 100000 in
theorem put_some (ad:Addr) (n c:Nat) (l:List Pf) (f:Pf) (w:World) (h:Trs w (some ad) l) (hn:l.length=n) (hb:n≤100000) (hs:Tr.Srt l):
 Calls Tryz.prog 181 #[.slice (some ad) n c,f.v] w fun e w'=>∃ g c',e=.returned (.slice (some ⟨g,0,none⟩) (Tr.putIn f l).length c')∧w.heap.size≤g∧Hid (OwnT w' g (Tr.putIn f l))∧Ext w w':=by
 have eg:∀ args w,(callFunc 186 args).run Tryz.prog w=.ok (.enter 186 args) w:=enters_of Tryz.func186 (by kernel_rfl) rfl
 have HC:=Lib.hid (fun W (hW:Ext w W)=>tcloneA_any ad n c l W (h.ext hW) hn (by omega))
 have HS:=Lib.hid hs
 have HN:=Lib.hid hn
 clear h hs hn
 go_enter Tryz.func181,Tryz.ntmps181
 have hx:=Ext.refl w
 go_wp2_with fail
 refine (HC.out _ EX).mono ?_
 rintro e w1 ⟨g,c',rfl,hgw,hcm,hO,hx0⟩
 have hgw':w.heap.size+1≤g:=by simpa using hgw
 have hB:Blk w1 w.heap.size 61 f.arr:=Blk.ext hx0 (Blk.new' rfl)
 have hX1:Ext w w1:=Ext.trans (a:=w) EX hx0
 have hd:=tdelete_any 186 w.heap.size 61 f.arr (fun x=>Qm.eqB x.path f.path) eg g n c' l w1 hO HN.out (by omega) hB (by omega) (fun W x hW=>pred1_any w.heap.size f x W hW)
 have HD:=Lib.hid hd
 have HB:=Lib.hid hB
 clear hO hx0 hB hd hgw HC hx
 go_wp2_with fail
 refine HD.out.mono ?_
 rintro e w2 ⟨m,rfl,hm,hO2,hK2⟩
 have hX2:Ext w w2:=hK2.out.ext w hX1 (by omega)
 have hB2:=hK2.out.blk _ _ _ HB.out (show w.heap.size≠g by omega)
 have HR:Hid (Tr.Srt (l.filter fun x=>!Qm.eqB x.path f.path)):=Lib.hid (HS.out.filter _)
 have hml:m≤n:=by rw [hm,← HN.out];exact List.length_filter_le _ _
 have hse:=tsearch_any g m c' (l.filter fun x=>!Qm.eqB x.path f.path) f w2 hO2.out hm.symm (by omega) (fun i j x y hij hx hy hlt=>by
  rcases Nat.lt_or_eq_of_le hij with hij | rfl
  ·obtain ⟨hi,e1⟩:=List.getElem?_eq_some_iff.1 hx
   obtain ⟨hj,e2⟩:=List.getElem?_eq_some_iff.1 hy
   have:=List.pairwise_iff_getElem.1 HR.out i j hi hj hij
   rw [e1,e2] at this
   exact Tr.lt_trans this hlt
  ·rw [hx] at hy
   cases hy
   exact hlt)
 have HSE:=Lib.hid hse
 have HM:=Lib.hid hm
 obtain ⟨hc0,hf0,hl0⟩:=hB2.all
 clear hm hse HD HB hK2 hX1
 go_wp2_with fail
 refine HSE.out.mono ?_
 rintro e w3 ⟨k,bb,rfl,hcut,hx3⟩
 have hX3:Ext w w3:=hX2.trans hx3
 have hB3:=Blk.ext hx3 hB2
 have hO3:=hO2.out.ext hx3
 have hgl:=hO3.own.lt
 have HI:=Lib.hid (fun (W:World) (hW:Ext w3 W) (vb:Nat) (hv:Blk W vb 61 f.arr) (hne:vb≠g)=>tinsert_any g m c' k _ f vb W (hO3.ext hW) HM.out.symm (by rw [HM.out];exact hcut.out.1) (by omega) hcm hv hne)
 have HE:Hid (_=Tr.putIn f l):=Lib.hid (Tr.put_eq HS.out f hcut.out)
 have HL:Hid ((Tr.putIn f l).length=m+1):=Lib.hid (by
  rw [← HE.out,HM.out]
  have:=hcut.out.1
  simp
  omega)
 clear hc0 hf0 hl0 hx3 hO3 hcut HSE HM hB2 hX2 HR
 obtain ⟨hc0,hf0,hl0⟩:=hB3.all
 have hx:=Ext.refl w3
 go_wp2_with fail
 refine (HI.out _ EX _ (Blk.new' rfl) (by omega)).mono ?_
 rintro e w4 ⟨g',c'',rfl,hgg,hO4,hK4⟩
 go_wp2_with fail
 go_ret
 refine ⟨g',c'',by rw [HL.out];rfl,by omega,Lib.hid (by rw [← HE.out];exact hO4.out),hK4.out.ext w (hX3.trans EX) (by omega)⟩
end Go.Proofs.YtfmgnaigcibcaaaGreatDoor
