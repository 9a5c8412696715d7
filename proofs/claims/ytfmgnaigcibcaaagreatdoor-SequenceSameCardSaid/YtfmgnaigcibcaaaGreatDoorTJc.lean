import Derived.Test.YtfmgnaigcibcaaaGreatDoorTQ3
import Derived.Test.YtfmgnaigcibcaaaGreatDoorTQ7
import Derived.Test.YtfmgnaigcibcaaaGreatDoorTQ0
import Derived.Deep.RegionLaw
import Derived.Test.YtfmgnaigcibcaaaGreatDoorShelf
import Derived.Shelf.Strings.Builder1
import Derived.Test.YtfmgnaigcibcaaaGreatDoorTQ6
set_option linter.unusedSimpArgs false
set_option linter.unusedVariables false
namespace Go.Proofs.YtfmgnaigcibcaaaGreatDoor
open Go.RowKit Go.Shelf
attribute [local go_sem] Oper.semAt_some
def RowA (A:Option Addr) (n c:Nat):Prop:=(A=none∧n=0∧c=0)∨∃ g,A=some ⟨g,0,none⟩∧n≤c
theorem lst_of_own2 {W:World} {base:Nat} {v:Value} {l:List ByteArray} (h:W.ownsRow base 9 1 v l.length (l.map Value.string)):∃ A c,v=.slice A l.length c∧Lst W A l.length l∧RowA A l.length c:=by
 rcases h.2 with ⟨rfl,h0⟩ | ⟨g,cap,cur,rfl,hb,hg,rest⟩
 ·refine ⟨none,0,by rw [h0],⟨rfl,fun hn=>by omega⟩,.inl ⟨rfl,h0,rfl⟩⟩
 ·refine ⟨some ⟨g,0,none⟩,cap,rfl,⟨rfl,fun _=>⟨g,0,rfl,(Array.getElem?_eq_some_iff.1 hg).1,fun j hj=>?_⟩⟩,.inr ⟨g,rfl,rest.1⟩⟩
  have:=h.cells (g:=g) rfl j (.string (l.getD j ByteArray.empty)) (by simp [List.getD,List.getElem?_eq_getElem hj])
  rw [Nat.zero_add]
  by_cases h0:j=0
  ·subst h0;exact this
  ·simpa [Addr.add,h0] using this
def SplitPost2 (s:ByteArray) (w:World) (e:Ending) (w':World):Prop:=
 ∃ A n c,e=.returned (.tuple #[.slice A n c,.int .i64 (Qm.splitErr s)])∧Ext w w'∧Lst w' A n (if Qm.splitErr s=0 then Qm.linesOf s else [])∧RowA A n c
set_option maxHeartbeats 4000000 in
set_option maxRecDepth 100000 in
theorem split_ok2 (n:Nat) (hn:9≤n) (s:ByteArray) (w:World) (h1:s.size≤65536) (h5:Lib.indexByte s.data.toList 0 < 0) (h6:Qm.eqB s ⟨#[]⟩=true∨Lib.hasSuffix s.data.toList [10]=true):
 CallsIn Fence.wide n Tryz.prog 141 #[.string s] w (SplitPost2 s w):=by
 have h7:s.toList.isEmpty=true∨Lib.hasSuffix s.data.toList [10]=true:=h6.imp (fun h=>by rw [Qm.eqB_iff.1 h,ByteArray.toList_eq];rfl) id
 refine callsIn_of_wp_marks Tryz.func141 rfl trivial ?_ rfl
 simp only [Tryz.ntmps141,List.size_toArray,List.length_cons,List.length_nil,Nat.reduceAdd,Nat.reduceSub,Array.replicate_succ,Array.replicate_zero,List.push_toArray,List.append_toArray,List.nil_append,List.cons_append]
 cases hE:s.toList.isEmpty
 focus
  have h8:=h7.resolve_left (by rw [hE];exact Bool.false_ne_true)
  clear h7
  gi_wp2_with (first | (refine ⟨trivial,fun _=>(by omega),?_⟩;gi_at_call 149;refine (callsIn_wide.2 (Tryz.strings_IndexByte _ _ _)).mono ?_;rintro e w1 ⟨rfl,hww⟩;first | obtain rfl:=hww.symm | obtain rfl:=hww) | (refine ⟨trivial,fun _=>(by omega),?_⟩;gi_at_call 150;refine (callsIn_wide.2 (Tryz.strings_HasSuffix _ _ _ (by omega))).mono ?_;rintro e w1 ⟨rfl,hww⟩;first | obtain rfl:=hww.symm | obtain rfl:=hww) | (refine ⟨trivial,fun _=>(by omega),?_⟩;gi_at_call 151;refine (callsIn_wide.2 (each_any _ _)).mono ?_;rintro e w1 ⟨rfl,hww⟩;first | obtain rfl:=hww.symm | obtain rfl:=hww))
 rotate_left
 focus
  clear h7
  gi_wp2_with (refine ⟨trivial,fun _=>(by omega),?_⟩;gi_at_call 149;refine (callsIn_wide.2 (Tryz.strings_IndexByte _ _ _)).mono ?_;rintro e w1 ⟨rfl,hww⟩;first | obtain rfl:=hww.symm | obtain rfl:=hww)
  refine ⟨trivial,?_⟩
  gi_wp2_with (refine ⟨trivial,fun _=>(by omega),?_⟩;gi_at_call 151;refine (callsIn_wide.2 (each_any _ _)).mono ?_;rintro e w1 ⟨rfl,hww⟩;first | obtain rfl:=hww.symm | obtain rfl:=hww)
 all_goals
  refine wpIn_range_one 6 (gf:=159) (lb:=#[.pointer (some ⟨w.heap.size+1+1,0,none⟩)]) rfl (enters_of Tryz.func159 (by kernel_rfl) rfl) (enc:=fun x=>Value.string x) (each1_gives (n - 1) (w.heap.size+1+1) s (by omega) (by omega)) (SplitInv w) ?_ ?_ ?_ ?_ ?_ ?_ ?_
  ·exact splitInv_own w _ (by simp;omega)
  ·exact fun pre W v h=>splitInv_set h v
  ·exact (split_start w s).1
  ·exact (split_start w s).2
  ·intro l x W K hK
   simp only [List.setIfInBounds_toArray,List.set_cons_succ,List.set_cons_zero] at hK ⊢
   gi_wp2
   exact hK
  ·rintro l pre x W ⟨rest,hrest⟩ ⟨⟨v,hv,hr,_⟩,hl,hx,hsz0⟩
   have hlen:pre.length < s.size:=by
    have h9:=Qm.linesOf_length s
    rw [← hrest] at h9
    simp at h9
    omega
   clear hrest
   have hmax:pre.length+1≤maxLen:=by unfold maxLen;omega
   have hby:(pre.length+1) * 16≤140737488355328:=by omega
   obtain ⟨i0,hi0,hz0,hz1,hz2⟩:=info_parts Tryz.infoStr
   simp only [List.setIfInBounds_toArray,List.set_cons_succ,List.set_cons_zero]
   have hsz:w.heap.size+1+1+1≤W.heap.size:=hsz0
   cases hlong:Qm.longLine pre
   all_goals
    rw [hlong] at hl
    have hvc:=hv.cell
    have hvf:=hv.frozen
    have hlc:=hl.cell
    have hlf:=hl.frozen
    have HL:=fun b=>hl.set (.bool b)
    have HV:=fun b=>hv.other (B':=w.heap.size+1) (by omega) (.bool b)
    have HR:=fun b=>ownsRow_setCell_below hr (a:=⟨w.heap.size+1,0,none⟩) (by simp) (.bool b)
    have HX:=fun b=>hx.setCell (p:=⟨w.heap.size+1,0,none⟩) (by simp) (.bool b)
    gi_wp2_with (gi_at_builtin;refine wpListIn_append_own _ rfl (.tmp 31) (.tmp 33) 24 rfl (w.heap.size+1+1+1) 9 i0 (.string ⟨#[]⟩) 1 16 Tryz.underlying24 hi0 hz0 hz1 hz2 rfl (by decide) v pre.length (pre.map Value.string) rfl ((HR _).alloc _) ⟨W.heap.size,0,none⟩ 1 1 [.string x] rfl rfl ?_ (by simp [Value.oneCell']) hmax hby ?_ ?_)
    focus
     intro j u hj
     exact cell_one_new_set W _ _ (.string x) 9 j u hj
    focus
     simp
     omega
    intro v' w1 hown' hgrow _
    obtain ⟨g',cap',rfl⟩:=ownsRow_succ hown'
    obtain ⟨hv1,hout,hl2,hx2,hk2,hs2⟩:=split_app (HV _) (HR _) (HL _) (HX _) (by simpa using hsz) hown' hgrow
    have hc1:=hv1.cell
    have hf1:=hv1.frozen
    gi_wp2
    refine ⟨(KeepsOthers.setCell W _ _).trans hk2,⟨hout,?_,hx2⟩,fun u hu=>hs2 u (hu.other (by omega) _)⟩
    rw [Qm.longLine_snoc,hlong]
    have e1:decide ((1000:Int) < (x.size:Int))=decide (1000 < x.size):=decide_eq_decide.2 (by omega)
    first
     | (simpa using hl2)
     | (rw [e1] at hl2;simpa using hl2)
  ·rintro D W hD ⟨⟨v,hv,hr,_⟩,hl,hx,_⟩ hK
   obtain ⟨A,c,rfl,hlst,hrow⟩:=lst_of_own2 hr
   have hvc:=hv.cell
   have hlc:=hl.cell
   have herr:=Qm.splitErr_of h1 h5 h6
   have hlen:=Qm.linesOf_length s
   have hD2:w.heap.size≤D:=by simp at hD;omega
   cases hlong:Qm.longLine (Qm.linesOf s)
   all_goals
    rw [hlong] at hl herr hlc
    have Herr:=Lib.hid herr
    clear herr hlong
    gi_wp2
   all_goals
    refine ⟨by simp,.inl ⟨_,_,rfl,run_takeDeferred hK,?_⟩⟩
    refine ⟨_,results_tmp2 rfl _ _ _,?_⟩
    first
     | (have e0:Qm.splitErr s=0:=by (rw [Herr.out,if_neg (by simp;omega)])
        exact ⟨A,_,c,by rw [e0];rfl,hx.putObj hD2 _,by rw [if_pos e0];exact hlst.putObj hK rfl _,hrow⟩)
     | (have e0:Qm.splitErr s=4:=by (rw [Herr.out,if_pos (by simp;try omega)])
        exact ⟨none,0,0,by rw [e0];rfl,hx.putObj hD2 _,by rw [if_neg (by omega)];exact Lst.nil _ _,.inl ⟨rfl,rfl,rfl⟩⟩)
theorem split_any2 (s:ByteArray) (w:World):Calls Tryz.prog 141 #[.string s] w (SplitPost2 s w):=by
 by_cases h:65536 < s.size∨(0≤Lib.indexByte s.data.toList 0∨(Qm.eqB s ⟨#[]⟩=false∧Lib.hasSuffix s.data.toList [10]=false))
 ·refine (split_bad s w h).mono ?_
  rintro e w' ⟨rfl,hx⟩
  refine ⟨none,0,0,rfl,hx,?_⟩
  have h0:¬ Qm.splitErr s=0:=by
   unfold Qm.splitErr
   split
   ·decide
   ·rename_i h1
    rw [if_pos (h.resolve_left h1)]
    decide
  rw [if_neg h0]
  exact ⟨Lst.nil _ _,.inl ⟨rfl,rfl,rfl⟩⟩
 ·simp only [not_or,not_and,Bool.not_eq_false,Int.not_le,Nat.not_lt] at h
  obtain ⟨h1,h2,h3⟩:=h
  refine (callsIn_wide (n:=9)).1 (split_ok2 9 (by omega) s w h1 h2 ?_)
  cases h4:Qm.eqB s ⟨#[]⟩
  ·exact .inr (h3 h4)
  ·exact .inl rfl
end Go.Proofs.YtfmgnaigcibcaaaGreatDoor
namespace Go.Proofs.YtfmgnaigcibcaaaGreatDoor
open Go Go.RowKit
theorem run_append_lst (w:World) (ty:TypeId) (base n:Nat) (v:Value) (l0:List ByteArray) (hown:w.ownsRow base 9 1 v n (l0.map Value.string)) (hb:base≤w.heap.size) (A:Option Addr) (m c:Nat) (l:List ByteArray) (hl:Lst w A m l) (hn:n≤4194304) (hm:m≤4194304):
 ∃ v' w',(Builtin.append_ #[24,24] ty #[v,.slice A m c]).run Tryz.prog w=.ok v' w'∧w'.ownsRow base 9 1 v' (n+m) ((l0 ++ l).map Value.string)∧w.grownBy w' v.ownBlock:=by
 obtain ⟨i0,hi,hz0,hz1,hz2⟩:=info_parts info_str
 by_cases h0:m=0
 ·subst h0
  obtain rfl:=List.length_eq_zero_iff.1 hl.1
  refine ⟨v,w,?_,by simpa using hown,World.grownBy.refl _ _⟩
  cases A with
  | none=>
    rcases hown.2 with ⟨rfl,rfl⟩ | ⟨g,cap,cur,rfl,_,_,hnc,_⟩
    ·simp [Builtin.append_,run_underlying Tryz.underlying24,sizeOf,typeInfo,hi,Builtin.lenOf,Builtin.firstCells]
    ·simp [Builtin.append_,run_underlying Tryz.underlying24,sizeOf,typeInfo,hi,Builtin.lenOf,Builtin.firstCells,hnc,storeCells]
  | some ad=>
    have hf:=run_firstCells_some (P:=Tryz.prog) w i0.size 0 ad 0 c [] (by simp) (by simp)
    rcases hown.2 with ⟨rfl,rfl⟩ | ⟨g,cap,cur,rfl,_,_,hnc,_⟩
    ·simp [Builtin.append_,run_underlying Tryz.underlying24,sizeOf,typeInfo,hi,Builtin.lenOf,hf]
    ·simp [Builtin.append_,run_underlying Tryz.underlying24,sizeOf,typeInfo,hi,Builtin.lenOf,hf,hnc,storeCells]
 ·obtain ⟨b,o,rfl,hc⟩:=hl.cells (by omega)
  obtain ⟨v',w',e1,e2,e3,_⟩:=run_append_own w base 24 ty 9 i0 (.string ⟨#[]⟩) 1 16 Tryz.underlying24 hi hz0 hz1 hz2 rfl (by decide) v n (l0.map Value.string) hown ⟨b,o,none⟩ m c (l.map Value.string) (by simp [hl.1]) (fun j u hu=>by
   have hj:=(List.getElem?_eq_some_iff.1 hu).1
   rw [List.length_map] at hj
   rw [Addr.add_lit,hc j hj]
   rw [List.getElem?_map,List.getElem?_eq_getElem hj] at hu
   simp at hu
   simp [List.getD,List.getElem?_eq_getElem hj,hu]) (by simp [Value.oneCell']) (by unfold maxLen;omega) (by omega) hb
  exact ⟨v',w',e1,by rw [List.map_append];exact e2,e3⟩
theorem step_append_lst {ops:Array Oper} {o:Oper} {a:Act} {w:World} {K:Act→World→Prop} {Q:Exit→Act→World→Prop} {E:Prop} (hgd:o.guard=none) (s x:Operand)
 (ho:o.op=.call { callee:=.builtin .append,args:=#[s,x],argTypes:=#[24,24] })
 (base n:Nat) (v:Value) (l0:List ByteArray) (hs:a.eval s=v) (hown:w.ownsRow base 9 1 v n (l0.map Value.string)) (hb:base≤w.heap.size) (A:Option Addr) (m c:Nat) (l:List ByteArray) (hx:a.eval x=.slice A m c) (hl:Lst w A m l) (hn:n≤4194304) (hm:m≤4194304)
 (h:∀ v' w',w'.ownsRow base 9 1 v' (n+m) ((l0 ++ l).map Value.string)→w.grownBy w' v.ownBlock→K (a.put o.dst v') w'):
 if Region.wanted o (yielded ops a.tmps)=true then Oper.wp Tryz.prog o a w K Q else E:=by
 have hw:Region.wanted o (yielded ops a.tmps)=true:=by simp [Region.wanted,hgd]
 rw [if_pos hw]
 obtain ⟨v',w',hr,h2,h3⟩:=run_append_lst w o.type base n v l0 hown hb A m c l hl hn hm
 unfold Oper.wp execOp
 simp only [ho,resolve,invoke,builtin,Sem.run_bind,Sem.run_pure,Result.andThen_ok,List.map_toArray,List.map_cons,List.map_nil,hs,hx,hr]
 exact h v' w' h2 h3
theorem wpList_append_lst {w:World} {ops:Array Oper} {rest:List Oper} {o:Oper} {a:Act} {Q:Exit→Act→World→Prop} (hgd:o.guard=none) (s x:Operand)
 (ho:o.op=.call { callee:=.builtin .append,args:=#[s,x],argTypes:=#[24,24] })
 (base n:Nat) (v:Value) (l0:List ByteArray) (hs:a.eval s=v) (hown:w.ownsRow base 9 1 v n (l0.map Value.string)) (hb:base≤w.heap.size) (A:Option Addr) (m c:Nat) (l:List ByteArray) (hx:a.eval x=.slice A m c) (hl:Lst w A m l) (hn:n≤4194304) (hm:m≤4194304)
 (h:∀ v' w',w'.ownsRow base 9 1 v' (n+m) ((l0 ++ l).map Value.string)→w.grownBy w' v.ownBlock→wpList Tryz.prog ops Q rest (a.put o.dst v') w'):wpList Tryz.prog ops Q (o :: rest) a w:=by
 refine wpList_plain hgd fun K hK=>?_
 obtain ⟨v',w',hr,h2,h3⟩:=run_append_lst w o.type base n v l0 hown hb A m c l hl hn hm
 unfold Oper.wp execOp
 simp only [ho,resolve,invoke,builtin,Sem.run_bind,Sem.run_pure,Result.andThen_ok,List.map_toArray,List.map_cons,List.map_nil,hs,hx,hr]
 exact hK _ _ (h v' w' h2 h3)
theorem Lst.part {w:World} {g m:Nat} {a:List ByteArray} (h:Lst w (some ⟨g,0,none⟩) m a) {i j:Nat} (hij:i≤j) (hj:j≤m):Lst w (some ⟨g,i,none⟩) (j - i) ((a.drop i).take (j - i)):=by
 refine ⟨by rw [List.length_take,List.length_drop,h.1];omega,fun hn=>?_⟩
 obtain ⟨b,o,hA,hb,hc⟩:=h.2 (by omega)
 cases hA
 refine ⟨g,i,rfl,hb,fun t ht=>?_⟩
 have h1:=hc (i+t) (by omega)
 rw [Nat.zero_add] at h1
 rw [h1,List.getD_eq_getElem?_getD,List.getD_eq_getElem?_getD,List.getElem?_take,if_pos ht,List.getElem?_drop]
theorem Lst.off {w w':World} {A:Option Addr} {m:Nat} {l:List ByteArray} (h:Lst w A m l) (hx:∀ b,b < w.heap.size→w'.heap[b]?=w.heap[b]?) (hs:w.heap.size≤w'.heap.size):Lst w' A m l:=by
 refine ⟨h.1,fun hn=>?_⟩
 obtain ⟨b,o,hA,hb,hc⟩:=h.2 hn
 exact ⟨b,o,hA,by omega,fun j hj=>by rw [World.cell?_of_block (hx b hb)];exact hc j hj⟩
theorem ownsRow_ext {w w':World} {base e size n:Nat} {v:Value} {xs:List Value} (h:w.ownsRow base e size v n xs) (hx:Ext w w'):w'.ownsRow base e size v n xs:=by
 refine ⟨h.1,?_⟩
 rcases h.2 with h0 | ⟨g,cap,cur,rfl,hb,hg,rest⟩
 ·exact .inl h0
 ·exact .inr ⟨g,cap,cur,rfl,hb,(Below.block hx g (Array.getElem?_eq_some_iff.1 hg).1).trans hg,rest⟩
theorem Lst.cut {w:World} {g m c:Nat} {a:List ByteArray} (h:Lst w (some ⟨g,0,none⟩) m a) (hc:m≤c) {i j:Nat} (hij:i≤j) (hj:j≤m):Lst w (if c=i then some ⟨g,0,none⟩ else some ⟨g,i,none⟩) (j - i) ((a.drop i).take (j - i)):=by
 split
 ·have e:j - i=0:=by omega
  rw [e,List.take_zero]
  exact Lst.nil _ _
 ·exact h.part hij hj
abbrev Hv.box (h:Hv):Array Value:=#[.int .i64 h.at_,.slice h.A1 h.n1 h.c1,.slice h.A2 h.n2 h.c2]
def HunkPost (k:Nat) (o n a:List ByteArray) (w:World) (e:Ending) (w':World):Prop:=
 ∃ A' m' c',e=.returned (.tuple #[.slice A' m' c',.int .i64 (Qm.hunkErr k o a)])∧Ext w w'∧Lst w' A' m' (if Qm.hunkErr k o a=0 then Qm.hunkOf k o n a else [])
set_option maxHeartbeats 400000 in
theorem hend_any (h:Hv) (w:World) (hb:h.fair) (h1:0≤h.at_) (h2:h.at_≤1152921504606846976):
 Calls Tryz.prog 152 #[h.v] w (Ret (.int .i64 (h.at_+h.n1)) w):=by
 obtain ⟨hb1,hb2⟩:=hb
 go_enter Tryz.func152,Tryz.ntmps152
 have hx:=Ext.refl w
 go_wp2
 (go_ret;refine Ret.mk ?_ ?_;(focus (rfl;done));(focus (exact EX;done)))
set_option maxHeartbeats 8000000 in
set_option maxRecDepth 100000 in
theorem happly_some (h:Hv) (k:Nat) (o n a:List ByteArray) (g m c bX:Nat) (w:World) (hk:h.at_=k) (ha:Lst w (some ⟨g,0,none⟩) m a) (hmc:m≤c) (h1:Lst w h.A1 h.n1 o) (h2:Lst w h.A2 h.n2 n)
 (hbX:Blk w bX 26 h.box) (hc:h.check=0) (b1:h.n1≤2000) (b2:h.n2≤2000) (bm:m≤65536) (bk:k≤1099511627776):
 Calls Tryz.prog 235 #[.slice (some ⟨g,0,none⟩) m c,.slice (some ⟨bX,0,none⟩) 1 1] w (HunkPost k o n a w):=by
 have HE:Hid (Qm.hunkErr k o a=if m < k+h.n1 then 2 else if (a.drop k).take o.length≠o then 15 else 0):=Lib.hid (by unfold Qm.hunkErr;rw [ha.1,h1.1,Int.toNat_natCast])
 have HC:=Lib.hid (fun W (hW:Ext w W)=>hcheck_any h bX W ⟨by omega,by omega⟩ (hbX.ext hW))
 rw [hc] at HC
 have HN:=Lib.hid (fun W=>hend_any h W ⟨by omega,by omega⟩ (by omega) (by omega))
 rw [hk] at HN
 have HA:=Lib.hid ha
 have H1:=Lib.hid h1
 have H2:=Lib.hid h2
 obtain ⟨hcX,hfX,hlX⟩:=hbX.all
 have HBX:=Lib.hid hbX
 clear ha h1 h2 hc hbX
 obtain ⟨at_,A1,n1,c1,A2,n2,c2⟩:=h
 dsimp only at *
 subst hk
 have Hp:Hid (∀ e w',HunkPost k o n a w e w'→HunkPost k o n a w e w'):=Lib.hid (fun _ _ h=>h)
 generalize hP:HunkPost k o n a w=P at Hp ⊢
 have HP:=Lib.hid hP
 clear hP Hp
 go_enter Tryz.func235,Tryz.ntmps235
 have hx:=Ext.refl w
 go_wp2_with (go_at_call 144;refine (HC.out _ EX).mono ?_;rintro e w1 ⟨rfl,hx0⟩)
 have hx1:Ext w w1:=hx0
 have hbX1:=HBX.out.ext hx1
 clear hcX hfX hlX hx hx0 HC
 obtain ⟨hcX,hfX,hlX⟩:=hbX1.all
 have HX1:=Lib.hid hx1
 clear hx1
 refine wp_loop_rounds 2 ?_
 rw [rounds_succ]
 have hx:=Ext.refl w1
 have HS1:=Lib.hid HX1.out.size_le
 have hB0:Blk (w1.alloc (.cells #[.int .i64 k,.slice A1 n1 c1,.slice A2 n2 c2] 26)) w1.heap.size 26 #[.int .i64 k,.slice A1 n1 c1,.slice A2 n2 c2]:=Blk.new' rfl
 have HB0:=Lib.hid hB0
 clear hB0
 by_cases hz:m < k+n1
 ·have HE2:Hid (Qm.hunkErr k o a=2):=Lib.hid (by rw [HE.out,if_pos hz])
  go_wp2_with (go_at_call 152;refine (HN.out _).mono ?_;rintro e w2 ⟨rfl,hx2⟩;have HX2:=Lib.hid hx2;clear hx2)
  rw [← HP.out]
  exact ⟨none,0,0,by rw [HE2.out];rfl,HX1.out.trans (Ext.trans (a:=w1) EX HX2.out),by rw [HE2.out];exact Lst.nil _ _⟩
 ·have hz1:k+n1≤m:=by omega
  have hz2:k≤c:=by omega
  have hz3:k+n1≤c:=by omega
  have hz4:¬ (m:Int) < (k:Int)+(n1:Int):=by omega
  have hz5:(0:Int)≤(k:Int)+(n1:Int):=by omega
  have hz6:((k:Int)+(n1:Int)).toNat=k+n1:=by omega
  have hz7:(k:Int)+(n1:Int)≤(c:Int):=by omega
  have hz8:k+n1 - k=n1:=by omega
  have hz9:k≤k+n1:=by omega
  have hol:o.length=n1:=H1.out.1
  have HPT:=Lib.hid (fun W (hW:Ext w W)=>(HA.out.ext hW).cut hmc (i:=k) (j:=k+n1) (by omega) hz1)
  rw [show k+n1 - k=n1 by omega] at HPT
  have HSQ:=Lib.hid (fun W (hW:Ext w W)=>sequal_any (if c=k then some ⟨g,0,none⟩ else some ⟨g,k,none⟩) A1 n1 (c - k) n1 c1 _ o W (HPT.out W hW) (H1.out.ext hW) (by omega) (by omega))
  clear hz
  by_cases he:(a.drop k).take n1=o
  rotate_left
  ·have HE2:Hid (Qm.hunkErr k o a=15):=Lib.hid (by rw [HE.out,if_neg (by omega),if_pos (by rw [hol];exact he)])
   rw [decide_eq_false he] at HSQ
   clear he hol
   go_wp2_with (go_at_call 152;refine (HN.out _).mono ?_;rintro e w2 ⟨rfl,hx2⟩;have HX2:=Lib.hid (HX1.out.trans (Ext.trans (a:=w1) EX hx2));have HB2:=Lib.hid (HB0.out.ext hx2);clear hx2)
   have HC0:=Lib.hid (fun W (hW:Ext w2 W)=>(HB2.out.ext hW).cell)
   have HC1:=HC0
   refine wp_region_ext (by kernel_rfl) (by kernel_rfl) ?_
   repeat (first | go_big_quiet_skip | (go_big_quiet_want;first | (go_big_quiet_op;go_big_quiet_on) | (apply quiet_at;intro W hW;have hc0:=HC0.out W hW;have hc1:=HC1.out W hW;go_simp;(first | exact rfl | (simp only [Oper.quietUpon,true_and];first | exact rfl | (first | (go_at_call 152;exact quiet_call hW (HN.out _) (fun _ _ h=>Ret.bcell h)) | (go_at_call 97;with_reducible exact quiet_call hW (HSQ.out _ (HX2.out.trans hW)) (fun _ _ h=>Ret.bcell h)))) | (first | (go_at_call 152;exact quiet_call hW (HN.out _) (fun _ _ h=>Ret.bcell h)) | (go_at_call 97;with_reducible exact quiet_call hW (HSQ.out _ (HX2.out.trans hW)) (fun _ _ h=>Ret.bcell h))));go_big_quiet_on;simp only [Act.put,sA,s0,sS])))
   refine wpQuiet_nil ?_
   intro w3 hx3
   have HX3:=Lib.hid (HX2.out.trans hx3)
   clear HC0 HC1 hx3
   go_wp2_with fail
   all_goals
    rw [← HP.out]
    exact ⟨none,0,0,by rw [HE2.out],HX3.out,by rw [HE2.out];exact Lst.nil _ _⟩
  ·have HE2:Hid (Qm.hunkErr k o a=0):=Lib.hid (by rw [HE.out,if_neg (by omega),if_neg (by rw [hol];simpa using he)])
   rw [decide_eq_true he] at HSQ
   have HT:=Lib.hid (fun W (hW:Ext w W)=>(HA.out.ext hW).part (i:=0) (j:=k) (Nat.zero_le _) (by omega))
   rw [Nat.sub_zero,List.drop_zero] at HT
   have HD:=Lib.hid (fun W (hW:Ext w W)=>(HA.out.ext hW).cut hmc (i:=k+n1) (j:=m) (by omega) (Nat.le_refl _))
   have hml:((a.drop (k+n1)).take (m - (k+n1)))=a.drop (k+n1):=List.take_of_length_le (by rw [List.length_drop,HA.out.1];exact Nat.le_refl _)
   rw [hml] at HD
   have HOL:=Lib.hid hol
   clear he hol hml
   go_wp2_with (go_at_call 152;refine (HN.out _).mono ?_;rintro e w2 ⟨rfl,hx2⟩;have HX2:=Lib.hid (HX1.out.trans (Ext.trans (a:=w1) EX hx2));have HB2:=Lib.hid (HB0.out.ext hx2);clear hx2)
   have HC0:=Lib.hid (fun W (hW:Ext w2 W)=>(HB2.out.ext hW).cell)
   have HC1:=HC0
   refine wp_region_ext (by kernel_rfl) (by kernel_rfl) ?_
   repeat (first | go_big_quiet_skip | (go_big_quiet_want;first | (go_big_quiet_op;go_big_quiet_on) | (apply quiet_at;intro W hW;have hc0:=HC0.out W hW;have hc1:=HC1.out W hW;go_simp;(first | exact rfl | (simp only [Oper.quietUpon,true_and];first | exact rfl | (first | (go_at_call 152;exact quiet_call hW (HN.out _) (fun _ _ h=>Ret.bcell h)) | (go_at_call 97;with_reducible exact quiet_call hW (HSQ.out _ (HX2.out.trans hW)) (fun _ _ h=>Ret.bcell h)))) | (first | (go_at_call 152;exact quiet_call hW (HN.out _) (fun _ _ h=>Ret.bcell h)) | (go_at_call 97;with_reducible exact quiet_call hW (HSQ.out _ (HX2.out.trans hW)) (fun _ _ h=>Ret.bcell h))));go_big_quiet_on;simp only [Act.put,sA,s0,sS])))
   refine wpQuiet_nil ?_
   intro w3 hx3
   have HX3:=Lib.hid (HX2.out.trans hx3)
   have hB3:=HB2.out.ext hx3
   have HB3:=Lib.hid hB3
   clear HC0 HC1 hx3 hcX hfX hlX hx
   have hx:=Ext.refl w3
   obtain ⟨hc0,hf0,hl0⟩:=hB3.all
   clear HSQ HPT HB2 hB3
   generalize (if c=k then (some ⟨g,0,none⟩:Option Addr) else some ⟨g,k,none⟩)=S32
   go_wp2_with fail
   ·go_region_law (first
     | (refine step_append_lst rfl (.tmp 37) (.tmp 42) rfl w3.heap.size 0 (.slice none 0 0) [] (by simp [Act.eval,Act.put]) (World.ownsRow_nil _ _ _ _) (Nat.le_refl _) (some ⟨g,0,none⟩) k c (a.take k) (by simp [Act.eval,Act.put]) (HT.out _ (HX3.out.trans EX)) (by omega) (by omega) ?_;intro v4 w4 hown4 hg4;have hx4:=grownBy_ext hg4 w3 EX (fun _ e=>nomatch e);obtain ⟨hc4,hf4,hl4⟩:=(HB3.out.ext hx4).all;have HX4:=Lib.hid hx4)
     | (refine step_append_lst rfl (.tmp 43) (.tmp 45) rfl w3.heap.size (0+k) v4 ([] ++ a.take k) (by simp [Act.eval,Act.put]) hown4 (Ext.size_le HX4.out) A2 n2 c2 n (by simp [Act.eval,Act.put]) (H2.out.ext (HX3.out.trans HX4.out)) (by omega) (by omega) ?_;intro v5 w5 hown5 hg5;have HX5:=Lib.hid (grownBy_ext hg5 w3 HX4.out (fun b e=>(hown4.lt b e).1));have HO5:=Lib.hid hown5))
    all_goals
     clear hc0 hf0 hl0 hx
     obtain ⟨hc5,hf5,hl5⟩:=(HB3.out.ext HX5.out).all
     go_wp2_with (go_at_call 152;refine (HN.out _).mono ?_;rintro e w6 ⟨rfl,hx6⟩;have HX6:=Lib.hid hx6;clear hx6)
     have hx7:Ext w3 w6:=HX5.out.trans HX6.out
     have HX7:=Lib.hid hx7
     have hsz:=hx7.size_le
     have hO6:=ownsRow_ext HO5.out HX6.out
     have hz10:(k:Int)+(n1:Int)≤(m:Int):=by omega
     have hD6:=HD.out w6 (HX3.out.trans hx7)
     clear hc5 hf5 hl5 hx7
     rw [rounds_succ]
     go_wp2_with (at_builtin;refine wpList_append_lst rfl (.tmp 50) (.tmp 53) rfl w3.heap.size (0+k+n2) v5 (([] ++ a.take k) ++ n) rfl hO6 hsz _ (m - (k+n1)) (c - (k+n1)) (a.drop (k+n1)) rfl hD6 (by omega) (by omega) ?_;intro v7 w7 hown7 hg7)
     all_goals
      rw [← HP.out]
      have hx8:=grownBy_ext hg7 w3 HX7.out (fun b e=>(hO6.lt b e).1)
      obtain ⟨A7,c7,rfl,hs7,_⟩:=Sl.of_own' hown7
      refine ⟨A7,_,c7,by rw [HE2.out],HX3.out.trans hx8,?_⟩
      rw [HE2.out,if_pos rfl]
      unfold Qm.hunkOf
      rw [Int.toNat_natCast,HOL.out]
      exact hs7.1
set_option maxHeartbeats 8000000 in
set_option maxRecDepth 100000 in
theorem happly_none (h:Hv) (k:Nat) (o n a:List ByteArray) (bX:Nat) (w:World) (hk:h.at_=k) (ha:Lst w none 0 a) (h1:Lst w h.A1 h.n1 o) (h2:Lst w h.A2 h.n2 n)
 (hbX:Blk w bX 26 h.box) (hc:h.check=0) (b1:h.n1≤2000) (b2:h.n2≤2000) (bk:k≤1099511627776):
 Calls Tryz.prog 235 #[.slice none 0 0,.slice (some ⟨bX,0,none⟩) 1 1] w (HunkPost k o n a w):=by
 have HE:Hid (Qm.hunkErr k o a=if 0 < k+h.n1 then 2 else if (a.drop k).take o.length≠o then 15 else 0):=Lib.hid (by unfold Qm.hunkErr;rw [ha.1,h1.1,Int.toNat_natCast])
 have HC:=Lib.hid (fun W (hW:Ext w W)=>hcheck_any h bX W ⟨by omega,by omega⟩ (hbX.ext hW))
 rw [hc] at HC
 have HN:=Lib.hid (fun W=>hend_any h W ⟨by omega,by omega⟩ (by omega) (by omega))
 rw [hk] at HN
 have HA:=Lib.hid ha
 have H1:=Lib.hid h1
 have H2:=Lib.hid h2
 obtain ⟨hcX,hfX,hlX⟩:=hbX.all
 have HBX:=Lib.hid hbX
 clear ha h1 h2 hc hbX
 obtain ⟨at_,A1,n1,c1,A2,n2,c2⟩:=h
 dsimp only at *
 subst hk
 have Hp:Hid (∀ e w',HunkPost k o n a w e w'→HunkPost k o n a w e w'):=Lib.hid (fun _ _ h=>h)
 generalize hP:HunkPost k o n a w=P at Hp ⊢
 have HP:=Lib.hid hP
 clear hP Hp
 go_enter Tryz.func235,Tryz.ntmps235
 have hx:=Ext.refl w
 go_wp2_with (go_at_call 144;refine (HC.out _ EX).mono ?_;rintro e w1 ⟨rfl,hx0⟩)
 have hx1:Ext w w1:=hx0
 have hbX1:=HBX.out.ext hx1
 clear hcX hfX hlX hx hx0 HC
 obtain ⟨hcX,hfX,hlX⟩:=hbX1.all
 have HX1:=Lib.hid hx1
 clear hx1
 refine wp_loop_rounds 2 ?_
 rw [rounds_succ]
 have hx:=Ext.refl w1
 have HS1:=Lib.hid HX1.out.size_le
 have hB0:Blk (w1.alloc (.cells #[.int .i64 k,.slice A1 n1 c1,.slice A2 n2 c2] 26)) w1.heap.size 26 #[.int .i64 k,.slice A1 n1 c1,.slice A2 n2 c2]:=Blk.new' rfl
 have HB0:=Lib.hid hB0
 clear hB0
 by_cases hz:0 < k+n1
 ·have HE2:Hid (Qm.hunkErr k o a=2):=Lib.hid (by rw [HE.out,if_pos hz])
  go_wp2_with (go_at_call 152;refine (HN.out _).mono ?_;rintro e w2 ⟨rfl,hx2⟩;have HX2:=Lib.hid hx2;clear hx2)
  rw [← HP.out]
  exact ⟨none,0,0,by rw [HE2.out];rfl,HX1.out.trans (Ext.trans (a:=w1) EX HX2.out),by rw [HE2.out];exact Lst.nil _ _⟩
 ·obtain rfl:k=0:=by omega
  obtain rfl:n1=0:=by omega
  obtain rfl:a=[]:=List.length_eq_zero_iff.1 HA.out.1
  obtain rfl:o=[]:=List.length_eq_zero_iff.1 H1.out.1
  have HE2:Hid (Qm.hunkErr ((0:Nat):Int) [] []=0):=Lib.hid (by rw [HE.out];rfl)
  have HSQ:=Lib.hid (fun W (hW:Ext w W)=>sequal_any none A1 0 0 0 c1 [] [] W (Lst.nil _ _) (Lst.nil _ _) (by omega) (by omega))
  rw [decide_eq_true rfl] at HSQ
  clear hz
  go_wp2_with (go_at_call 152;refine (HN.out _).mono ?_;rintro e w2 ⟨rfl,hx2⟩;have HX2:=Lib.hid (HX1.out.trans (Ext.trans (a:=w1) EX hx2));have HB2:=Lib.hid (HB0.out.ext hx2);clear hx2)
  have HC0:=Lib.hid (fun W (hW:Ext w2 W)=>(HB2.out.ext hW).cell)
  have HC1:=HC0
  refine wp_region_ext (by kernel_rfl) (by kernel_rfl) ?_
  repeat (first | go_big_quiet_skip | (go_big_quiet_want;first | (go_big_quiet_op;go_big_quiet_on) | (apply quiet_at;intro W hW;have hc0:=HC0.out W hW;have hc1:=HC1.out W hW;go_simp;(first | exact rfl | (simp only [Oper.quietUpon,true_and];first | exact rfl | (first | (go_at_call 152;exact quiet_call hW (HN.out _) (fun _ _ h=>Ret.bcell h)) | (go_at_call 97;with_reducible exact quiet_call hW (HSQ.out _ (HX2.out.trans hW)) (fun _ _ h=>Ret.bcell h)))) | (first | (go_at_call 152;exact quiet_call hW (HN.out _) (fun _ _ h=>Ret.bcell h)) | (go_at_call 97;with_reducible exact quiet_call hW (HSQ.out _ (HX2.out.trans hW)) (fun _ _ h=>Ret.bcell h))));go_big_quiet_on;simp only [Act.put,sA,s0,sS])))
  refine wpQuiet_nil ?_
  intro w3 hx3
  have HX3:=Lib.hid (HX2.out.trans hx3)
  have hB3:=HB2.out.ext hx3
  have HB3:=Lib.hid hB3
  clear HC0 HC1 hx3 hcX hfX hlX hx
  have hx:=Ext.refl w3
  obtain ⟨hc0,hf0,hl0⟩:=hB3.all
  clear HSQ HB2 hB3
  go_wp2_with fail
  ·go_region_law (first
    | (refine step_append_lst rfl (.tmp 37) (.tmp 42) rfl w3.heap.size 0 (.slice none 0 0) [] (by simp [Act.eval,Act.put]) (World.ownsRow_nil _ _ _ _) (Nat.le_refl _) none 0 0 [] (by simp [Act.eval,Act.put]) (Lst.nil _ _) (by omega) (by omega) ?_;intro v4 w4 hown4 hg4;have hx4:=grownBy_ext hg4 w3 EX (fun _ e=>nomatch e);obtain ⟨hc4,hf4,hl4⟩:=(HB3.out.ext hx4).all;have HX4:=Lib.hid hx4)
    | (refine step_append_lst rfl (.tmp 43) (.tmp 45) rfl w3.heap.size (0+0) v4 ([] ++ []) (by simp [Act.eval,Act.put]) hown4 (Ext.size_le HX4.out) A2 n2 c2 n (by simp [Act.eval,Act.put]) (H2.out.ext (HX3.out.trans HX4.out)) (by omega) (by omega) ?_;intro v5 w5 hown5 hg5;have HX5:=Lib.hid (grownBy_ext hg5 w3 HX4.out (fun b e=>(hown4.lt b e).1));have HO5:=Lib.hid hown5))
   all_goals
    clear hc0 hf0 hl0 hx
    obtain ⟨hc5,hf5,hl5⟩:=(HB3.out.ext HX5.out).all
    go_wp2_with (go_at_call 152;refine (HN.out _).mono ?_;rintro e w6 ⟨rfl,hx6⟩;have HX6:=Lib.hid hx6;clear hx6)
    have hx7:Ext w3 w6:=HX5.out.trans HX6.out
    have HX7:=Lib.hid hx7
    have hsz:=hx7.size_le
    have hO6:=ownsRow_ext HO5.out HX6.out
    clear hc5 hf5 hl5 hx7
    rw [rounds_succ]
    go_wp2_with (at_builtin;refine wpList_append_lst rfl (.tmp 50) (.tmp 53) rfl w3.heap.size (0+0+n2) v5 (([] ++ []) ++ n) rfl hO6 hsz none 0 0 [] rfl (Lst.nil _ _) (by omega) (by omega) ?_;intro v7 w7 hown7 hg7)
    all_goals
     rw [← HP.out]
     have hx8:=grownBy_ext hg7 w3 HX7.out (fun b e=>(hO6.lt b e).1)
     obtain ⟨A7,c7,rfl,hs7,_⟩:=Sl.of_own' hown7
     refine ⟨A7,_,c7,by rw [HE2.out];rfl,HX3.out.trans hx8,?_⟩
     rw [HE2.out,if_pos rfl]
     exact hs7.1
theorem happly_any (h:Hv) (k:Nat) (o n a:List ByteArray) (A:Option Addr) (m c bX:Nat) (w:World) (hk:h.at_=k) (ha:Lst w A m a) (hA:RowA A m c) (h1:Lst w h.A1 h.n1 o) (h2:Lst w h.A2 h.n2 n)
 (hbX:Blk w bX 26 h.box) (hc:h.check=0) (b1:h.n1≤2000) (b2:h.n2≤2000) (bm:m≤65536) (bk:k≤1099511627776):
 Calls Tryz.prog 235 #[.slice A m c,.slice (some ⟨bX,0,none⟩) 1 1] w (HunkPost k o n a w):=by
 rcases hA with ⟨rfl,rfl,rfl⟩ | ⟨g,rfl,hmc⟩
 ·exact happly_none h k o n a bX w hk ha h1 h2 hbX hc b1 b2 bk
 ·exact happly_some h k o n a g m c bX w hk ha hmc h1 h2 hbX hc b1 b2 bm bk
end Go.Proofs.YtfmgnaigcibcaaaGreatDoor
namespace Go.Proofs.YtfmgnaigcibcaaaGreatDoor
open Go Go.Shelf Go.RowKit
def buRen:Go.Shelf.Ren:=⟨fun | 166=>239 | 167=>240 | 240=>243 | 276=>244 | n=>n,fun | 0=>0 | 3=>3 | 4=>4 | 5=>5 | 9=>9 | 20=>20 | 37=>229 | 70=>228 | 72=>231 | 75=>233 | 80=>173 | 164=>239 | n=>n,fun | n=>n⟩
theorem bu166:Go.Proofs.Lays.n166 Tryz.prog buRen:={
 mixed:=by kernel_rfl
 f166:=Tryz.func239.trans (congrArg some (by kernel_rfl))
 f240:=Tryz.func243.trans (congrArg some (by kernel_rfl))
 f276:=Tryz.func244.trans (congrArg some (by kernel_rfl))
 t0:=Tryz.underlying0
 a0:=Tryz.isAgg0
 z0:=Tryz.sizeOf0
 v0:=Tryz.zeroValue0
 t3:=Tryz.underlying3
 a3:=Tryz.isAgg3
 z3:=Tryz.sizeOf3
 v3:=Tryz.zeroValue3
 t4:=Tryz.underlying4
 a4:=Tryz.isAgg4
 z4:=Tryz.sizeOf4
 v4:=Tryz.zeroValue4
 t9:=Tryz.underlying9
 a9:=Tryz.isAgg9
 z9:=Tryz.sizeOf9
 v9:=Tryz.zeroValue9
 t20:=Tryz.underlying20
 a20:=Tryz.isAgg20
 z20:=Tryz.sizeOf20
 v20:=Tryz.zeroValue20
 t37:=Tryz.underlying229
 a37:=Tryz.isAgg229
 z37:=Tryz.sizeOf229
 v37:=Tryz.zeroValue229
 t70:=Tryz.underlying228
 a70:=Tryz.isAgg228
 z70:=Tryz.sizeOf228
 v70:=Tryz.zeroValue228
 t72:=Tryz.underlying231
 a72:=Tryz.isAgg231
 z72:=Tryz.sizeOf231
 v72:=Tryz.zeroValue231
 t75:=Tryz.underlying233
 a75:=Tryz.isAgg233
 z75:=Tryz.sizeOf233
 v75:=Tryz.zeroValue233
 t164:=Tryz.underlying239
 a164:=Tryz.isAgg239
 z164:=Tryz.sizeOf239
 v164:=Tryz.zeroValue239 }
theorem bu167:Go.Proofs.Lays.n167 Tryz.prog buRen:={
 mixed:=by kernel_rfl
 f167:=Tryz.func240.trans (congrArg some (by kernel_rfl))
 f240:=Tryz.func243.trans (congrArg some (by kernel_rfl))
 f276:=Tryz.func244.trans (congrArg some (by kernel_rfl))
 t0:=Tryz.underlying0
 a0:=Tryz.isAgg0
 z0:=Tryz.sizeOf0
 v0:=Tryz.zeroValue0
 t4:=Tryz.underlying4
 a4:=Tryz.isAgg4
 z4:=Tryz.sizeOf4
 v4:=Tryz.zeroValue4
 t5:=Tryz.underlying5
 a5:=Tryz.isAgg5
 z5:=Tryz.sizeOf5
 v5:=Tryz.zeroValue5
 t9:=Tryz.underlying9
 a9:=Tryz.isAgg9
 z9:=Tryz.sizeOf9
 v9:=Tryz.zeroValue9
 t20:=Tryz.underlying20
 a20:=Tryz.isAgg20
 z20:=Tryz.sizeOf20
 v20:=Tryz.zeroValue20
 t37:=Tryz.underlying229
 a37:=Tryz.isAgg229
 z37:=Tryz.sizeOf229
 v37:=Tryz.zeroValue229
 t70:=Tryz.underlying228
 a70:=Tryz.isAgg228
 z70:=Tryz.sizeOf228
 v70:=Tryz.zeroValue228
 t72:=Tryz.underlying231
 a72:=Tryz.isAgg231
 z72:=Tryz.sizeOf231
 v72:=Tryz.zeroValue231
 t75:=Tryz.underlying233
 a75:=Tryz.isAgg233
 z75:=Tryz.sizeOf233
 v75:=Tryz.zeroValue233
 t164:=Tryz.underlying239
 a164:=Tryz.isAgg239
 z164:=Tryz.sizeOf239
 v164:=Tryz.zeroValue239 }
theorem buX:Builder.Extra Tryz.prog buRen:={
 sizeBuilder:=by kernel_rfl
 liesBuilder:=by kernel_rfl
 t5:=Tryz.underlying5
 a5:=Tryz.isAgg5
 z5:=Tryz.sizeOf5
 v5:=Tryz.zeroValue5
 infoByte:=by kernel_rfl
 cellsByte:=by kernel_rfl
 sizeByte:=by kernel_rfl
 neB5:=by decide }
theorem bwriteByte (B b:Nat) (bs:List Value) (c:Int) (w:World) (h:Lib.IsBuilder 231 5 B b bs w) (hlen:bs.length+1≤140737488355328) (hBw:B≤w.heap.size):
 Calls Tryz.prog 240 #[.pointer (some ⟨b,0,none⟩),.int .u8 c] w fun e w'=>e=.returned .nilIface∧(Lib.BuilderAt 231 5 B b (.pointer (some ⟨b,0,none⟩)) (bs ++ [.int .u8 c]) w'∧Below B w w'):=Any.Builder_WriteByte bu167 buX B b bs c w h hlen hBw
theorem bwriteString (B b:Nat) (bs:List Value) (s:ByteArray) (w:World) (h:Lib.IsBuilder 231 5 B b bs w) (hlen:bs.length+s.size≤140737488355328) (hBw:B≤w.heap.size):
 Calls Tryz.prog 239 #[.pointer (some ⟨b,0,none⟩),.string s] w fun e w'=>e=.returned (.tuple #[.int .i64 s.size,.nilIface])∧(Lib.BuilderAt 231 5 B b (.pointer (some ⟨b,0,none⟩)) (bs ++ Lib.strCells s) w'∧Below B w w'):=Any.Builder_WriteString bu166 buX B b bs s w h hlen hBw
end Go.Proofs.YtfmgnaigcibcaaaGreatDoor
namespace Go.Proofs.YtfmgnaigcibcaaaGreatDoor
open Go Go.RowKit
theorem join_room {l:List ByteArray} {j:Nat} {x:ByteArray} (h:l[j]?=some x):Qm.joinL (l.take (j+1))=Qm.joinL (l.take j) ++ (x.data.toList ++ [10])∧(Qm.joinL (l.take j)).length+x.size+1≤(Qm.joinL l).length:=by
 have hl:=(List.getElem?_eq_some_iff.1 h).1
 have e1:l.take (j+1)=l.take j ++ [x]:=by rw [List.take_add_one,h];rfl
 have e2:Qm.joinL (l.take (j+1))=Qm.joinL (l.take j) ++ (x.data.toList ++ [10]):=by rw [e1,Txt.joinL_append];rfl
 refine ⟨e2,?_⟩
 have e3:Qm.joinL l=Qm.joinL (l.take (j+1)) ++ Qm.joinL (l.drop (j+1)):=by rw [← Txt.joinL_append,List.take_append_drop]
 have hx:x.data.toList.length=x.size:=rfl
 rw [e3,e2]
 simp only [List.length_append,List.length_cons,List.length_nil,hx]
 omega
theorem lst_at {w:World} {A:Option Addr} {n k:Nat} {l:List ByteArray} (h:Lst w A n l) (hk:k < n):∃ b o x,A=some ⟨b,o,none⟩∧b < w.heap.size∧l[k]?=some x∧w.cell? ⟨b,o+k,none⟩=some (.string x):=by
 obtain ⟨b,o,hA,hb,hc⟩:=h.2 (by omega)
 have hkl:k < l.length:=by rw [h.1];exact hk
 refine ⟨b,o,l[k],hA,hb,List.getElem?_eq_getElem hkl,?_⟩
 rw [hc k hk,List.getD_eq_getElem?_getD,List.getElem?_eq_getElem hkl]
 rfl
set_option maxHeartbeats 8000000 in
set_option maxRecDepth 100000 in
theorem join_any (A:Option Addr) (n c:Nat) (l:List ByteArray) (w:World) (h:Lst w A n l) (hb:n≤4194304):
 Calls Tryz.prog 236 #[.slice A n c] w (Ret (.tuple #[.string (if Qm.joinErr l=0 then Qm.joinOf l else ⟨#[]⟩),.int .i64 (Qm.joinErr l)]) w):=by
 by_cases h1:2000 < n
 ·have hv:Qm.joinErr l=4:=by unfold Qm.joinErr;rw [if_pos (by rw [h.1];exact h1)]
  rw [hv,if_neg (by decide)]
  clear h hv
  go_enter Tryz.func236,Tryz.ntmps236
  have hx:=Ext.refl w
  go_wp2
  (go_ret2;refine Ret.mk ?_ ?_;(focus (rfl;done));(focus (exact EX;done)))
 ·have HV:Hid (Qm.joinErr l=if Qm.joinScan l≠0 then Qm.joinScan l else if 65536 < (Qm.joinL l).length then 4 else 0):=Lib.hid (by unfold Qm.joinErr;rw [if_neg (by rw [h.1];exact h1)])
  have HL:=Lib.hid h
  have HN:Hid (l.length=n):=Lib.hid h.1
  clear h
  generalize Qm.joinErr l=E at HV ⊢
  generalize hr:(if E=0 then Qm.joinOf l else ⟨#[]⟩)=R
  have HR:=Lib.hid hr
  clear hr
  go_enter Tryz.func236,Tryz.ntmps236
  have hx:=Ext.refl w
  go_wp2
  go_loopw [4,15] (fun sz i wr=>∃ (k m:Nat),k≤n∧i=.int .i64 k∧sz=.int .i64 m∧m≤k * 1001∧Hid (m=(Qm.joinL (l.take k)).length)∧Hid (Qm.joinScan l=Qm.joinScan (l.drop k))∧Hid (Ext w wr)) (fun sz i wr=>n - (intOf i).toNat)
  case atStart=>exact ⟨0,0,Nat.zero_le _,rfl,rfl,Nat.le_refl _,Lib.hid rfl,Lib.hid rfl,Lib.hid EX⟩
  case round=>
   clear hx
   obtain ⟨k,m,hk,rfl,rfl,hm,HM,HS,HX⟩:=hrel
   have hx:=HX.out
   by_cases hlt:k < n
   ·obtain ⟨b,o,x,rfl,hbl,hg,c0⟩:=lst_at (HL.out.ext hx) hlt
    have hkl:=(List.getElem?_eq_some_iff.1 hg).1
    have HSc:Hid (Qm.joinScan l=if 1000 < x.size then 4 else if Qm.validLine x=false then 3 else Qm.joinScan (l.drop (k+1))):=Lib.hid (by rw [HS.out,List.drop_eq_getElem_cons hkl,(List.getElem?_eq_some_iff.1 hg).2];rfl)
    have HT:Hid (m+x.size+1=(Qm.joinL (l.take (k+1))).length):=Lib.hid (by
     have hx:x.data.toList.length=x.size:=rfl
     rw [(join_room hg).1,List.length_append,List.length_append,hx,HM.out]
     simp
     omega)
    clear hg hkl
    by_cases hz:1000 < x.size
    ·have HE:Hid (E=4):=Lib.hid (by rw [HV.out,HSc.out,if_pos hz];rfl)
     obtain rfl:R=⟨#[]⟩:=by rw [← HR.out,if_neg (by rw [HE.out];decide)]
     obtain rfl:=HE.out
     go_wp2
     (go_ret2;refine Ret.mk ?_ ?_;(focus (rfl;done));(focus (exact EX;done)))
    ·cases hv:Qm.validLine x
     ·have HE:Hid (E=3):=Lib.hid (by rw [HV.out,HSc.out,if_neg hz,if_pos hv];rfl)
      obtain rfl:R=⟨#[]⟩:=by rw [← HR.out,if_neg (by rw [HE.out];decide)]
      obtain rfl:=HE.out
      go_wp2_with (go_at_call 238;refine (lineValid_same x _).mono ?_;rintro e w1 ⟨rfl,rfl⟩;rw [hv])
      (go_ret2;refine Ret.mk ?_ ?_;(focus (rfl;done));(focus (exact EX;done)))
     ·have HS2:Hid (Qm.joinScan l=Qm.joinScan (l.drop (k+1))):=Lib.hid (by rw [HSc.out,if_neg hz,if_neg (by rw [hv];simp)])
      go_wp2_with (go_at_call 238;refine (lineValid_same x _).mono ?_;rintro e w1 ⟨rfl,rfl⟩;rw [hv])
      go_roundw
      case rel=>exact ⟨k+1,m+x.size+1,by omega,rfl,by refine congrArg (Value.int .i64) ?_;omega,by omega,HT,HS2,HX⟩
      case measure=>simp [intOf];omega
   ·obtain rfl:k=n:=by omega
    have hsc:Qm.joinScan l=0:=by rw [HS.out,List.drop_eq_nil_of_le (by rw [HN.out];exact Nat.le_refl _)];rfl
    have hml:m=(Qm.joinL l).length:=by rw [HM.out,List.take_of_length_le (by rw [HN.out];exact Nat.le_refl _)]
    have HE:Hid (E=if 65536 < m then 4 else 0):=Lib.hid (by rw [HV.out,hsc,if_neg (by simp),← hml])
    have HML:=Lib.hid hml
    clear hsc hml HS HM HV
    by_cases hz:65536 < m
    ·have HE:Hid (E=4):=Lib.hid (by rw [HE.out,if_pos hz])
     obtain rfl:R=⟨#[]⟩:=by rw [← HR.out,if_neg (by rw [HE.out];decide)]
     obtain rfl:=HE.out
     go_wp2
     (go_ret2;refine Ret.mk ?_ ?_;(focus (rfl;done));(focus (exact EX;done)))
    ·have HE:Hid (E=0):=Lib.hid (by rw [HE.out,if_neg hz])
     obtain rfl:R=Qm.joinOf l:=by rw [← HR.out,if_pos HE.out]
     obtain rfl:=HE.out
     obtain ⟨w0,rfl⟩:∃ w0,w0=wr:=⟨_,rfl⟩
     have HF:=Lib.hid (Lib.fresh_isBuilder 231 5 w0)
     clear hx
     have hx:=Ext.refl w0
     go_wp2
     go_loopw [35] (fun i W=>∃ j:Nat,j≤k∧i=.int .i64 j∧Hid (Lib.IsBuilder 231 5 w0.heap.size w0.heap.size (Lib.byteCells (Qm.joinL (l.take j))) W)∧Hid (Ext w0 W)) (fun i W=>k - (intOf i).toNat)
     case atStart=>exact ⟨0,Nat.zero_le _,rfl,Lib.hid HF.out,Lib.hid EX⟩
     case round=>
      clear hx HF
      obtain ⟨j,hj,rfl,HI,HW⟩:=hrel
      have hw:=HW.out
      have hws:=hw.size_le
      by_cases hlt2:j < k
      ·obtain ⟨b,o,x,rfl,hbl,hg,c0⟩:=lst_at (HL.out.ext (HX.out.trans hw)) hlt2
       obtain ⟨g1,g2⟩:=join_room hg
       have HG1:=Lib.hid g1
       have hlen:(Lib.byteCells (Qm.joinL (l.take j))).length+x.size+1≤65536:=by rw [Lib.byteCells_length];rw [← HML.out] at g2;omega
       have HLn:=Lib.hid hlen
       clear g1 g2 hg hlen
       go_wp2_with (first
        | (go_at_call 239;refine (bwriteString w0.heap.size w0.heap.size _ x _ HI.out (by have :=HLn.out;omega) hws).mono ?_;rintro e W1 ⟨rfl,hb1,hx1⟩;have HB1:=Lib.hid hb1;have HX1:=Lib.hid (Below.trans (B:=w0.heap.size) HW.out hx1);have hws1:=Below.size HX1.out;clear hb1 hx1)
        | (go_at_call 240;refine (bwriteByte w0.heap.size w0.heap.size _ 10 _ (.inr HB1.out) (by have :=HLn.out;rw [List.length_append,Lib.strCells_length];omega) hws1).mono ?_;rintro e W2 ⟨rfl,hb2,hx2⟩;have HB2:=Lib.hid hb2;have HX2:=Lib.hid (Below.trans (B:=w0.heap.size) HX1.out hx2);clear hb2 hx2))
       go_roundw
       case rel=>
        refine ⟨j+1,by omega,rfl,Lib.hid (.inr ?_),HX2⟩
        have:=HB2.out
        rw [HG1.out,Lib.byteCells_append,Lib.byteCells_append]
        rw [List.append_assoc] at this
        exact this
       case measure=>simp [intOf];omega
      ·obtain rfl:j=k:=by omega
       have hI:Lib.IsBuilder 231 5 w0.heap.size w0.heap.size (Lib.byteCells (Qm.joinL l)) wr:=by
        have:=HI.out
        rwa [List.take_of_length_le (by rw [HN.out];exact Nat.le_refl _)] at this
       have HI2:=Lib.hid hI
       clear hI HI
       go_wp2_with (go_at_call 241;refine (Tryz.Builder_String_any w0.heap.size w0.heap.size (Qm.joinL l) _ HI2.out hws).mono ?_;rintro e W3 ⟨rfl,hx3⟩;have HX3:=Lib.hid (Below.trans (B:=w0.heap.size) HW.out hx3);clear hx3)
       go_ret2
       exact ⟨rfl,Ext.trans (a:=w) HX.out HX3.out⟩
end Go.Proofs.YtfmgnaigcibcaaaGreatDoor
namespace Go.Proofs.YtfmgnaigcibcaaaGreatDoor
open Go Go.RowKit
theorem hunkOf_len {k:Int} {o n a:List ByteArray}:(Qm.hunkOf k o n a).length≤a.length+n.length+a.length:=by
 unfold Qm.hunkOf
 simp only [List.length_append,List.length_take,List.length_drop]
 omega
set_option maxHeartbeats 16000000 in
set_option maxRecDepth 100000 in
theorem elines_any (p:Pv) (o n:List ByteArray) (f:Pf) (w:World) (k:Nat) (hk:p.at_=k) (bk:k≤1099511627776) (h1:Lst w p.A1 p.n1 o) (h2:Lst w p.A2 p.n2 n) (b1:p.n1≤2000) (b2:p.n2≤2000) (hc:p.hunk.check=0):
 Calls Tryz.prog 231 #[p.v,f.v] w (Ret (.tuple #[.string (p.relines o n f).1,.int .i64 (p.relines o n f).2]) w):=by
 by_cases ht:f.ty=1
 rotate_left
 ·have hv:p.relines o n f=(⟨#[]⟩,8):=by unfold Pv.relines;rw [if_pos ht]
  rw [hv]
  have ht':(f.ty != 1)=true:=by simpa using ht
  clear ht hv h1 h2 hc
  go_enter Tryz.func231,Tryz.ntmps231
  have hx:=Ext.refl w
  go_wp2
  go_ret2
  exact ⟨rfl,EX⟩
 ·have ht':(f.ty != 1)=false:=by simpa using ht
  have HV:Hid (p.relines o n f=if Qm.splitErr f.data≠0 then (⟨#[]⟩,Qm.splitErr f.data)
   else if Qm.hunkErr k o (Qm.linesOf f.data)≠0 then (⟨#[]⟩,Qm.hunkErr k o (Qm.linesOf f.data))
   else if Qm.joinErr (Qm.hunkOf k o n (Qm.linesOf f.data))≠0 then (⟨#[]⟩,4)
   else (Qm.joinOf (Qm.hunkOf k o n (Qm.linesOf f.data)),0)):=Lib.hid (by unfold Pv.relines;rw [if_neg (by simpa using ht),hk])
  generalize p.relines o n f=R at HV ⊢
  clear ht
  obtain ⟨kind,path,to_,ty,at_,A1,n1,c1,A2,n2,c2,off,so,sn,om,nm⟩:=p
  dsimp only at *
  subst hk
  have H1:=Lib.hid h1
  have H2:=Lib.hid h2
  have HA:=Lib.hid (fun (A:Option Addr) (m c bX:Nat) (a:List ByteArray) (W:World) (hW:Ext w W) (ha:Lst W A m a) (hA:RowA A m c) (hb:Blk W bX 26 #[.int .i64 k,.slice A1 n1 c1,.slice A2 n2 c2]) (bm:m≤65536)=>
   happly_any ⟨k,A1,n1,c1,A2,n2,c2⟩ k o n a A m c bX W rfl ha hA (h1.ext hW) (h2.ext hW) hb hc b1 b2 bm bk)
  have hnl:n.length=n2:=h2.1
  have hll:=Qm.linesOf_length f.data
  clear h1 h2 hc
  by_cases e1:Qm.splitErr f.data=0
  rotate_left
  ·have HR:Hid (R=(⟨#[]⟩,Qm.splitErr f.data)):=Lib.hid (by rw [HV.out,if_pos e1])
   have e1':(Qm.splitErr f.data != 0)=true:=by simpa using e1
   have HS:=Lib.hid (fun W=>split_any2 f.data W)
   obtain rfl:=HR.out
   clear HV HR e1 HA H1 H2
   go_enter Tryz.func231,Tryz.ntmps231
   have hx:=Ext.refl w
   go_wp2_with (go_at_call 141;refine (HS.out _).mono ?_;rintro e w1 ⟨A,m,c,rfl,hx0,hl,hrow⟩;have HX:=Lib.hid (Ext.trans (a:=w) EX hx0);clear hx0 hl hrow)
   go_ret2
   exact ⟨rfl,HX.out⟩
  ·have hsz:=(Txt.split_zero.1 e1).1
   have hlen:(Qm.linesOf f.data).length≤65536:=by omega
   have HS:=Lib.hid (fun W=>split_any2 f.data W)
   have HS:Hid (∀ W,Calls Tryz.prog 141 #[.string f.data] W (fun e w'=>∃ A n c,e=.returned (.tuple #[.slice A n c,.int .i64 0])∧Ext W w'∧Lst w' A n (Qm.linesOf f.data)∧RowA A n c)):=Lib.hid (fun W=>(HS.out W).mono fun e w' ⟨A,n,c,h1,h2,h3,h4⟩=>⟨A,n,c,by rw [← e1];exact h1,h2,by rwa [if_pos e1] at h3,h4⟩)
   have HV2:Hid (R=if Qm.hunkErr k o (Qm.linesOf f.data)≠0 then (⟨#[]⟩,Qm.hunkErr k o (Qm.linesOf f.data)) else if Qm.joinErr (Qm.hunkOf k o n (Qm.linesOf f.data))≠0 then (⟨#[]⟩,4) else (Qm.joinOf (Qm.hunkOf k o n (Qm.linesOf f.data)),0)):=Lib.hid (by rw [HV.out,if_neg (by simpa using e1)])
   clear HV e1 hll hsz
   have HA:Hid (∀ (A:Option Addr) (m c bX:Nat) (W:World),Ext w W→Lst W A m (Qm.linesOf f.data)→RowA A m c→Blk W bX 26 #[.int .i64 k,.slice A1 n1 c1,.slice A2 n2 c2]→Calls Tryz.prog 235 #[.slice A m c,.slice (some ⟨bX,0,none⟩) 1 1] W (HunkPost k o n (Qm.linesOf f.data) W)):=
    Lib.hid (fun A m c bX W hW ha hA hb=>HA.out A m c bX _ W hW ha hA hb (by rw [← ha.1];exact hlen))
   unfold HunkPost at HA
   by_cases e2:Qm.hunkErr k o (Qm.linesOf f.data)=0
   rotate_left
   ·have HR:Hid (R=(⟨#[]⟩,Qm.hunkErr k o (Qm.linesOf f.data))):=Lib.hid (by rw [HV2.out,if_pos e2])
    have e2':(Qm.hunkErr k o (Qm.linesOf f.data) != 0)=true:=by simpa using e2
    obtain rfl:=HR.out
    clear HV2 HR e2 H1 H2 hnl hlen
    generalize Qm.hunkErr k o (Qm.linesOf f.data)=E at *
    generalize Qm.linesOf f.data=a at *
    go_enter Tryz.func231,Tryz.ntmps231
    have hx:=Ext.refl w
    go_wp2_with (go_at_call 141;refine (HS.out _).mono ?_;rintro e w1 ⟨A,m,c,rfl,hx0,hl,hrow⟩;have HL:=Lib.hid hl;have HRW:=Lib.hid hrow;clear hl hrow;have hy:=Ext.trans (a:=w) EX hx0;clear hx;have hx:=hy;clear hy;have hn0:=BB hx0 (w.heap.size);have hn1:=BB hx0 (w.heap.size+1);(first | simp [↓heap_drew_at,↓heap_drewN_at,↓heap_alloc_at,↓heap_set_at,ne_two,ne_three,ne_two_left,ne_three_left,↓hb0.eq,hb0.lt,hb0.ne,↓hb1.eq,hb1.lt,hb1.ne] at hn0 hn1 | simp [↓heap_drew_at,↓heap_drewN_at,↓heap_alloc_at,↓heap_set_at,ne_two,ne_three,ne_two_left,ne_three_left] at hn0 hn1);(try clear hb0 hc0 hf0 hl0);(try clear hb1 hc1 hf1 hl1);have hb0:=Blk.mk hn0;clear hn0;obtain ⟨hc0,hf0,hl0⟩:=hb0.all;have hb1:=Blk.mk hn1;clear hn1;obtain ⟨hc1,hf1,hl1⟩:=hb1.all;(try clear hx0))
    go_wp2_with (go_at_call 235;refine (HA.out _ _ _ _ _ EX (HL.out.ext ((Ext.refl _).alloc _)) HRW.out (Blk.new' rfl)).mono ?_;rintro e w2 ⟨A',m',c',rfl,hx2,hl2⟩;have HX2:=Lib.hid (Ext.trans (a:=w) EX hx2);clear hx2 hl2)
    go_ret2
    exact ⟨rfl,HX2.out⟩
   ·have HV3:Hid (R=if Qm.joinErr (Qm.hunkOf k o n (Qm.linesOf f.data))≠0 then (⟨#[]⟩,4) else (Qm.joinOf (Qm.hunkOf k o n (Qm.linesOf f.data)),0)):=Lib.hid (by rw [HV2.out,if_neg (by simpa using e2)])
    have hrl:(Qm.hunkOf k o n (Qm.linesOf f.data)).length≤4194304:=by
     have:=hunkOf_len (k:=k) (o:=o) (n:=n) (a:=Qm.linesOf f.data)
     omega
    rw [e2] at HA
    have HA:Hid (∀ (A:Option Addr) (m c bX:Nat) (W:World),Ext w W→Lst W A m (Qm.linesOf f.data)→RowA A m c→Blk W bX 26 #[.int .i64 k,.slice A1 n1 c1,.slice A2 n2 c2]→Calls Tryz.prog 235 #[.slice A m c,.slice (some ⟨bX,0,none⟩) 1 1] W (fun e w'=>∃ A' m' c',e=.returned (.tuple #[.slice A' m' c',.int .i64 0])∧Ext W w'∧Lst w' A' m' (Qm.hunkOf k o n (Qm.linesOf f.data)))):=HA
    clear HV2 e2 H1 H2 hnl hlen
    generalize Qm.hunkOf k o n (Qm.linesOf f.data)=r at *
    generalize Qm.linesOf f.data=a at *
    have HJ:=Lib.hid (fun A' m' c' W (h:Lst W A' m' r)=>join_any A' m' c' r W h (by rw [← h.1];exact hrl))
    by_cases e3:Qm.joinErr r=0
    ·rw [e3,if_pos rfl] at HJ
     obtain rfl:R=(Qm.joinOf r,0):=by rw [HV3.out,if_neg (by simpa using e3)]
     clear HV3 e3 hrl
     generalize Qm.joinOf r=t at *
     go_enter Tryz.func231,Tryz.ntmps231
     have hx:=Ext.refl w
     go_wp2_with (go_at_call 141;refine (HS.out _).mono ?_;rintro e w1 ⟨A,m,c,rfl,hx0,hl,hrow⟩;have HL:=Lib.hid hl;have HRW:=Lib.hid hrow;clear hl hrow;have hy:=Ext.trans (a:=w) EX hx0;clear hx;have hx:=hy;clear hy;have hn0:=BB hx0 (w.heap.size);have hn1:=BB hx0 (w.heap.size+1);(first | simp [↓heap_drew_at,↓heap_drewN_at,↓heap_alloc_at,↓heap_set_at,ne_two,ne_three,ne_two_left,ne_three_left,↓hb0.eq,hb0.lt,hb0.ne,↓hb1.eq,hb1.lt,hb1.ne] at hn0 hn1 | simp [↓heap_drew_at,↓heap_drewN_at,↓heap_alloc_at,↓heap_set_at,ne_two,ne_three,ne_two_left,ne_three_left] at hn0 hn1);(try clear hb0 hc0 hf0 hl0);(try clear hb1 hc1 hf1 hl1);have hb0:=Blk.mk hn0;clear hn0;obtain ⟨hc0,hf0,hl0⟩:=hb0.all;have hb1:=Blk.mk hn1;clear hn1;obtain ⟨hc1,hf1,hl1⟩:=hb1.all;(try clear hx0))
     go_wp2_with (go_at_call 235;refine (HA.out _ _ _ _ _ EX (HL.out.ext ((Ext.refl _).alloc _)) HRW.out (Blk.new' rfl)).mono ?_;rintro e w2 ⟨A',m',c',rfl,hx2,hl2⟩;have HX2:=Lib.hid (Ext.trans (a:=w) EX hx2);have HL2:=Lib.hid hl2;clear hx2 hl2)
     go_wp2_with (go_at_call 236;refine (HJ.out _ _ _ _ HL2.out).mono ?_;rintro e w3 ⟨rfl,hx3⟩;have HX3:=Lib.hid (HX2.out.trans hx3);clear hx3)
     go_ret2
     exact ⟨rfl,HX3.out⟩
    ·have e3':(Qm.joinErr r != 0)=true:=by simpa using e3
     rw [if_neg e3] at HJ
     obtain rfl:R=(⟨#[]⟩,4):=by rw [HV3.out,if_pos e3]
     clear HV3 e3 hrl
     generalize Qm.joinErr r=E at *
     go_enter Tryz.func231,Tryz.ntmps231
     have hx:=Ext.refl w
     go_wp2_with (go_at_call 141;refine (HS.out _).mono ?_;rintro e w1 ⟨A,m,c,rfl,hx0,hl,hrow⟩;have HL:=Lib.hid hl;have HRW:=Lib.hid hrow;clear hl hrow;have hy:=Ext.trans (a:=w) EX hx0;clear hx;have hx:=hy;clear hy;have hn0:=BB hx0 (w.heap.size);have hn1:=BB hx0 (w.heap.size+1);(first | simp [↓heap_drew_at,↓heap_drewN_at,↓heap_alloc_at,↓heap_set_at,ne_two,ne_three,ne_two_left,ne_three_left,↓hb0.eq,hb0.lt,hb0.ne,↓hb1.eq,hb1.lt,hb1.ne] at hn0 hn1 | simp [↓heap_drew_at,↓heap_drewN_at,↓heap_alloc_at,↓heap_set_at,ne_two,ne_three,ne_two_left,ne_three_left] at hn0 hn1);(try clear hb0 hc0 hf0 hl0);(try clear hb1 hc1 hf1 hl1);have hb0:=Blk.mk hn0;clear hn0;obtain ⟨hc0,hf0,hl0⟩:=hb0.all;have hb1:=Blk.mk hn1;clear hn1;obtain ⟨hc1,hf1,hl1⟩:=hb1.all;(try clear hx0))
     go_wp2_with (go_at_call 235;refine (HA.out _ _ _ _ _ EX (HL.out.ext ((Ext.refl _).alloc _)) HRW.out (Blk.new' rfl)).mono ?_;rintro e w2 ⟨A',m',c',rfl,hx2,hl2⟩;have HX2:=Lib.hid (Ext.trans (a:=w) EX hx2);have HL2:=Lib.hid hl2;clear hx2 hl2)
     go_wp2_with (go_at_call 236;refine (HJ.out _ _ _ _ HL2.out).mono ?_;rintro e w3 ⟨rfl,hx3⟩;have HX3:=Lib.hid (HX2.out.trans hx3);clear hx3)
     go_ret2
     exact ⟨rfl,HX3.out⟩
end Go.Proofs.YtfmgnaigcibcaaaGreatDoor
