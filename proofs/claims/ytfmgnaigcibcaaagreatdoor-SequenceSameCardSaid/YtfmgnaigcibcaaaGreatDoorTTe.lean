import Derived.Test.YtfmgnaigcibcaaaGreatDoorTQ6
import Derived.Test.YtfmgnaigcibcaaaGreatDoorTTs
set_option linter.unusedSimpArgs false
set_option linter.unusedVariables false
namespace Go.Proofs.YtfmgnaigcibcaaaGreatDoor
open Go Go.RowKit
theorem parent_size (s:ByteArray):(Tr.parent s).size≤s.size:=by
 unfold Tr.parent
 rw [ByteArray.size_extract]
 omega
theorem found_some {l:List Pf} {s:ByteArray} {f:Pf} (h:Tr.find l s=some f):Tr.found l s=.tuple #[f.v,.bool true]:=by
 unfold Tr.found
 rw [h]
 rfl
theorem found_none {l:List Pf} {s:ByteArray} (h:Tr.find l s=none):Tr.found l s=.tuple #[Pf.zero.v,.bool false]:=by
 unfold Tr.found
 rw [h]
 rfl
set_option maxHeartbeats 8000000 in
set_option maxRecDepth 100000 in
theorem room_any (A:Option Addr) (n c:Nat) (s:ByteArray) (l:List Pf) (w:World) (h:Trs w A l) (hn:l.length=n) (hb:n≤10000000000000) (hs:s.size≤1000000):
 Calls Tryz.prog 180 #[.slice A n c,.string s] w (Ret (.int .i64 (Tr.room l s)) w):=by
 have HF:=Lib.hid (fun u W (hW:Ext w W)=>find_any A n c u l W (h.ext hW) hn hb)
 have HP:=Lib.hid (fun W=>parent_any s W hs)
 clear h hn
 cases h1:Tr.find l s with
 | some f=>
   have hv:Tr.room l s=6:=by unfold Tr.room;rw [h1];rfl
   rw [hv]
   have H1:=Lib.hid (found_some h1)
   clear h1 hv
   go_enter Tryz.func180,Tryz.ntmps180
   have hx:=Ext.refl w
   go_wp2_with (go_at_call 183;refine (HF.out _ _ EX).mono ?_;rintro e w1 ⟨rfl,hx0⟩;rw [H1.out];have hy:=Ext.trans (a:=w) EX hx0;clear hx;have hx:=hy;clear hy hx0)
   (go_ret;refine Ret.mk ?_ ?_;(focus (rfl;done));(focus (exact EX;done)))
 | none=>
   have H1:=Lib.hid (found_none h1)
   by_cases h2:Tr.parent s=⟨#[]⟩
   ·have hv:Tr.room l s=0:=by unfold Tr.room;rw [h1,if_neg (by simp),if_pos (Qm.eqB_iff.2 h2)]
    rw [hv]
    have H2:=Lib.hid h2
    clear h1 h2 hv
    go_enter Tryz.func180,Tryz.ntmps180
    have hx:=Ext.refl w
    go_wp2_with (first
     | (go_at_call 183;refine (HF.out _ _ EX).mono ?_;rintro e w1 ⟨rfl,hx0⟩;rw [H1.out];have hy:=Ext.trans (a:=w) EX hx0;clear hx;have hx:=hy;clear hy hx0)
     | (go_at_call 73;refine (HP.out _).mono ?_;rintro e w1 ⟨rfl,hx0⟩;rw [H2.out];have hy:=Ext.trans (a:=w) EX hx0;clear hx;have hx:=hy;clear hy hx0))
    (go_ret;refine Ret.mk ?_ ?_;(focus (rfl;done));(focus (exact EX;done)))
   ·have h2':((Tr.parent s).toList == [])=false:=by
     have:=Tr.eqB_ne.2 h2
     unfold Qm.eqB at this
     rwa [show (⟨#[]⟩:ByteArray).toList=[] from by rw [ByteArray.toList_eq]] at this
    have h2'':(Tr.parent s).toList.isEmpty=false:=by
     cases e:(Tr.parent s).toList.isEmpty
     ·rfl
     ·rw [List.isEmpty_iff] at e
      rw [e] at h2'
      cases h2'
    cases h3:Tr.find l (Tr.parent s) with
    | none=>
      have hv:Tr.room l s=7:=by unfold Tr.room;rw [h1,if_neg (by simp),if_neg (fun k=>h2 (Qm.eqB_iff.1 k)),h3]
      rw [hv]
      have H3:=Lib.hid (found_none h3)
      clear h1 h2 h3 hv
      generalize Tr.parent s=u at HP H3 h2' h2''
      go_enter Tryz.func180,Tryz.ntmps180
      have hx:=Ext.refl w
      go_wp2_with (first
       | (go_at_call 183;refine (HF.out _ _ EX).mono ?_;rintro e w1 ⟨rfl,hx0⟩;(first | rw [H1.out] | rw [H3.out]);have hy:=Ext.trans (a:=w) EX hx0;clear hx;have hx:=hy;clear hy hx0)
       | (go_at_call 73;refine (HP.out _).mono ?_;rintro e w1 ⟨rfl,hx0⟩;have hy:=Ext.trans (a:=w) EX hx0;clear hx;have hx:=hy;clear hy hx0))
      (go_ret;refine Ret.mk ?_ ?_;(focus (rfl;done));(focus (exact EX;done)))
    | some f=>
      have hv:Tr.room l s=if f.ty=4 then 0 else 8:=by unfold Tr.room;rw [h1,if_neg (by simp),if_neg (fun k=>h2 (Qm.eqB_iff.1 k)),h3]
      rw [hv]
      have H3:=Lib.hid (found_some h3)
      clear h1 h2 h3 hv
      generalize Tr.parent s=u at HP H3 h2' h2''
      go_enter Tryz.func180,Tryz.ntmps180
      have hx:=Ext.refl w
      go_wp2_with (first
       | (go_at_call 183;refine (HF.out _ _ EX).mono ?_;rintro e w1 ⟨rfl,hx0⟩;(first | rw [H1.out] | rw [H3.out]);have hy:=Ext.trans (a:=w) EX hx0;clear hx;have hx:=hy;clear hy hx0)
       | (go_at_call 73;refine (HP.out _).mono ?_;rintro e w1 ⟨rfl,hx0⟩;have hy:=Ext.trans (a:=w) EX hx0;clear hx;have hx:=hy;clear hy hx0))
      all_goals (go_ret;refine Ret.mk ?_ ?_;(focus (simp_all;done));(focus (exact EX;done)))
def GivesT (r:List Pf × Int) (w:World) (e:Ending) (w':World):Prop:=∃ A n c,e=.returned (.tuple #[.slice A n c,.int .i64 r.2])∧n=r.1.length∧Hid (Trs w' A r.1∧Hi w.heap.size A)∧Ext w w'
theorem GivesT.none {k:Int} {w w':World} (hx:Ext w w'):GivesT ([],k) w (.returned (.tuple #[.slice none 0 0,.int .i64 k])) w':=⟨_,0,0,rfl,rfl,Lib.hid ⟨Trs.nil _ _,fun a ha=>nomatch ha⟩,hx⟩
def OwnT (W:World) (g:Nat) (l:List Pf):Prop:=∃ post:List Value,Blk W g 61 (fl l ++ post).toArray
theorem OwnT.lt {W:World} {g:Nat} {l:List Pf} (h:OwnT W g l):g < W.heap.size:=by
 obtain ⟨post,h⟩:=h
 exact h.lt
theorem OwnT.ext {W W':World} {g:Nat} {l:List Pf} (h:OwnT W g l) (hx:Ext W W'):OwnT W' g l:=by
 obtain ⟨post,h⟩:=h
 exact ⟨post,h.ext hx⟩
theorem OwnT.cells {W:World} {g:Nat} {l:List Pf} (h:OwnT W g l) {i:Nat} {f:Pf} (hi:l[i]?=some f):
 W.cell? ⟨g,i * 4,none⟩=some (.string f.path)∧W.cell? ⟨g,i * 4+1,none⟩=some (.int .i64 f.ty)∧W.cell? ⟨g,i * 4+2,none⟩=some (.int .i64 f.mode)∧W.cell? ⟨g,i * 4+3,none⟩=some (.string f.data):=by
 obtain ⟨post,h⟩:=h
 have hl:=(List.getElem?_eq_some_iff.1 hi).1
 have hf:=fl_length l
 have e:∀ j,j < 4→W.cell? ⟨g,i * 4+j,none⟩=f.arr.toList[j]?:=fun j hj=>by
  rw [h.cell,List.getElem?_toArray,List.getElem?_append_left (by omega),fl_get hi hj]
 exact ⟨e 0 (by omega),e 1 (by omega),e 2 (by omega),e 3 (by omega)⟩
theorem OwnT.free {W:World} {g:Nat} {l:List Pf} (h:OwnT W g l) (o:Nat):W.frozen? ⟨g,o,none⟩=false:=by
 obtain ⟨post,h⟩:=h
 exact h.frozen o
theorem fl_set {l:List Pf} {i:Nat} {f:Pf} (hi:l[i]?=some f) (s:ByteArray):(fl l).set (i * 4) (.string s)=fl (l.set i { f with path:=s }):=by
 induction l generalizing i with
 | nil=>simp at hi
 | cons x l ih=>
   cases i with
   | zero=>
     simp at hi
     subst hi
     rfl
   | succ i=>
     have:=ih (i:=i) (by simpa using hi)
     rw [List.set_cons_succ,fl,fl,← this,List.set_append_right _ _ (by simp;omega)]
     congr 2
     simp
     omega
theorem OwnT.store {W:World} {g:Nat} {l:List Pf} (h:OwnT W g l) {i:Nat} {f:Pf} (hi:l[i]?=some f) (s:ByteArray):OwnT (W.setCell ⟨g,i * 4,none⟩ (.string s)) g (l.set i { f with path:=s }):=by
 obtain ⟨post,h⟩:=h
 refine ⟨post,Blk.conv' (h.set_ (i * 4) (.string s)) ?_⟩
 have hl:=(List.getElem?_eq_some_iff.1 hi).1
 have hf:=fl_length l
 rw [← fl_set hi,List.setIfInBounds_toArray,List.set_append_left _ _ (by omega)]
theorem OwnT.trs {W:World} {g:Nat} {l:List Pf} (h:OwnT W g l):Trs W (some ⟨g,0,none⟩) l:=fun _=>by
 obtain ⟨post,h⟩:=h
 refine ⟨g,0,rfl,h.lt,fun j v hv=>?_⟩
 have:=(List.getElem?_eq_some_iff.1 hv).1
 rw [h.cell,List.getElem?_toArray,Nat.zero_add,List.getElem?_append_left this,hv]
theorem flatK_get {l:List Pf} {j:Nat} (h:j < l.length * 4):(fl l)[j]?=some (Sort.flatK pfe 4 l.toArray)[j]!:=by
 rw [Sort.get_flatK _ _ _ _ (by simpa using h)]
 have h1:j / 4 < l.length:=by omega
 have h2:l[j / 4]?=some (l[j / 4]'h1):=List.getElem?_eq_getElem h1
 have h3:=fl_get h2 (j:=j % 4) (by omega)
 rw [show j / 4 * 4+j % 4=j by omega] at h3
 rw [h3,getElem!_pos l.toArray (j / 4) (by simpa using h1)]
 have h4:j % 4 < 4:=by omega
 simp only [List.getElem_toArray]
 generalize l[j / 4]=f
 rcases (show j % 4=0∨j % 4=1∨j % 4=2∨j % 4=3 by omega) with e | e | e | e <;> rw [e] <;> rfl
theorem OwnT.holds {W:World} {g:Nat} {l:List Pf} (h:OwnT W g l):Sort.HoldsK pfe 4 W g 0 l.toArray:=by
 intro j hj
 obtain ⟨post,h⟩:=h
 have hj':j < l.length * 4:=by simpa using hj
 refine ⟨?_,h.frozen _⟩
 have hf:=fl_length l
 rw [h.cell,List.getElem?_toArray,Nat.zero_add,List.getElem?_append_left (by omega),flatK_get hj']
 rfl
theorem trs_of_holds {W:World} {g:Nat} {l:List Pf} (h:Sort.HoldsK pfe 4 W g 0 l.toArray) (hg:g < W.heap.size):Trs W (some ⟨g,0,none⟩) l:=fun _=>by
 refine ⟨g,0,rfl,hg,fun j v hv=>?_⟩
 have hj:=(List.getElem?_eq_some_iff.1 hv).1
 rw [fl_length] at hj
 have h1:=h j (by simpa using hj)
 rw [flatK_get hj] at hv
 rw [h1.1]
 exact hv
end Go.Proofs.YtfmgnaigcibcaaaGreatDoor
