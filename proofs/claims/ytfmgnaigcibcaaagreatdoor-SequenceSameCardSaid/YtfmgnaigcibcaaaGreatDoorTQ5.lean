import Derived.Test.YtfmgnaigcibcaaaGreatDoorTBase
import Derived.Test.YtfmgnaigcibcaaaGreatDoorShelf
import Derived.Lib.SplitLaws
import Derived.Lib.CutLaws
import Derived.Test.YtfmgnaigcibcaaaGreatDoorTQ3
import Derived.Deep.CutBlock
import Derived.Deep.DeepCutAuto
set_option linter.unusedSimpArgs false
set_option linter.unusedVariables false
namespace Go.Proofs.YtfmgnaigcibcaaaGreatDoor
open Go.RowKit
set_option maxHeartbeats 400000 in
theorem pbelow_any (s t:ByteArray) (w:World) (ht:t.size≤4611686018427387904):
 Calls Tryz.prog 203 #[.string s,.string t] w (Ret (.bool (Qm.below s t)) w):=by
 go_enter Tryz.func203,Tryz.ntmps203
 go_wp2_with (go_at_call 132;refine (Tryz.strings_HasPrefix _ _ _).mono ?_;rintro e w1 ⟨rfl,rfl⟩)
 go_ret
 exact Ret.mk rfl (Ext.refl _)
set_option maxHeartbeats 400000 in
theorem lvalid_any (s:ByteArray) (w:World):
 Calls Tryz.prog 238 #[.string s] w (Ret (.bool (Qm.validLine s)) w):=by
 go_enter Tryz.func238,Tryz.ntmps238
 have hx:=Ext.refl w
 go_wp2_with (go_at_call 149;refine (Tryz.strings_IndexByte _ _ _).mono ?_;rintro e w1 ⟨rfl,rfl⟩)
 all_goals (go_ret;refine Ret.mk ?_ ?_;(focus (first | (simp [Qm.validLine, *];done) | (simp [Qm.validLine, *];omega);done));(focus (exact EX;done)))
def Same (v:Value) (w:World) (e:Ending) (w':World):Prop:=e=.returned v∧w'=w
theorem Same.mk {v v':Value} {w:World} (h:v'=v):Same v w (.returned v') w:=⟨by rw [h],rfl⟩
set_option maxHeartbeats 2000000 in
theorem isName_same (s:ByteArray) (w:World) (hs:s.size≤4611686018427387904):
 Calls Tryz.prog 102 #[.string s] w (Same (.bool (Qm.isName s)) w):=by
 go_enter Tryz.func102,Tryz.ntmps102
 have hx:=Ext.refl w
 go_wp2
 go_loop [7] (fun i=>∃ k:Nat,k≤s.size∧i=.int .i64 k∧(s.data.toList.take k).all Qm.nameChar=true) (fun i=>s.size - (intOf i).toNat)
 case atStart=>exact ⟨0,Nat.zero_le _,rfl,rfl⟩
 case round=>
  obtain ⟨k,hk,rfl,hall⟩:=hrel
  have Hall:=Lib.hid hall
  clear hall
  by_cases hlt:k < s.size
  ·go_wp2
   all_goals (try simp only [bne_iff_ne,bne_eq_false_iff_eq,ne_eq] at *)
   all_goals cases hch:Qm.nameChar s[k]
   all_goals first
    | (exfalso;simp [Qm.nameChar] at hch;omega)
    | (go_ret;refine Same.mk ?_;rw [Qm.not_all s k hlt hch];exact rfl)
    | (refine ⟨⟨k+1,hlt,rfl,Qm.all_snoc s k hlt Hall.out hch⟩,?_⟩;simp [intOf];omega)
  ·obtain rfl:k=s.size:=by omega
   have hall:s.data.toList.all Qm.nameChar=true:=by have h0:=Hall.out;rwa [List.take_of_length_le (by simp)] at h0
   have Hall2:=Lib.hid hall
   clear hall
   go_wp2
   all_goals (go_ret;refine Same.mk ?_;refine congrArg Value.bool ?_;first | (simp [Qm.isName,Hall2.out, *];done) | (simp [Qm.isName,Hall2.out, *];omega) | (simp only [Qm.isName,Hall2.out,Bool.true_and,show decide (s.size≤40)=true from decide_eq_true (by omega),Bool.and_true];first | done | exact rfl | simp [*]))
end Go.Proofs.YtfmgnaigcibcaaaGreatDoor
namespace Go.Proofs.YtfmgnaigcibcaaaGreatDoor
open Go.RowKit
theorem pieces_small (sep:ByteArray) (hs:1≤sep.size):∀ (k:Nat) (s:ByteArray),∀ x∈Lib.splitB sep 0 k s,x.size≤s.size
 | 0,s,x,hx=>by
   rw [Lib.splitB_zero] at hx
   simp at hx
   rw [hx]
   exact Nat.le_refl _
 | k+1,s,x,hx=>by
   rcases Lib.indexB_cases s sep with h | ⟨i,h,hr⟩
   ·rw [Lib.splitB_miss _ _ _ _ h] at hx
    simp at hx
    rw [hx]
    exact Nat.le_refl _
   ·rw [Lib.splitB_hit _ _ _ _ i h] at hx
    rcases List.mem_cons.1 hx with rfl | hx
    ·simp [ByteArray.size_extract];omega
    ·have h1:=pieces_small sep hs k _ x hx
     simp [ByteArray.size_extract] at h1
     omega
def pieces (s:ByteArray):List ByteArray:=Lib.splitB ⟨#[47]⟩ 0 (Lib.countB s ⟨#[47]⟩) s
theorem isPath_pieces (s:ByteArray):Qm.isPath s=(decide (s.size≤200) && (pieces s).all Qm.isName):=rfl
theorem split_path (s:ByteArray) (w:World) (hs:s.size≤200) (hg:Glob w):
 Calls Tryz.prog 101 #[.string s,.string ⟨#[47]⟩] w (fun e w'=>∃ n:Nat,n=(pieces s).length∧n≤201∧e=.returned (.slice (some ⟨w.heap.size,0,none⟩) n n)∧Ext w w' ∧
  ∀ j,j < n→w'.cell? ⟨w.heap.size,j,none⟩=some (.string ((pieces s).getD j ByteArray.empty))):=by
 obtain ⟨m,hm⟩:=hg
 refine (Tryz.strings_Split s ⟨#[47]⟩ m w (by omega) hm (by decide)).mono ?_
 rintro e w' ⟨rfl,rfl⟩
 have h1:=Lib.splitB_all ⟨#[47]⟩ (by decide) 0 (Lib.countB s ⟨#[47]⟩) s rfl
 have h2:=Lib.countB_le ⟨#[47]⟩ (by decide) s.size s (Nat.le_refl _)
 refine ⟨Lib.countB s ⟨#[47]⟩+1,h1.symm,by omega,rfl,(Ext.refl w).alloc _,fun j hj=>?_⟩
 rw [World.cell?_alloc_at _ _ _ _ rfl]
 rw [← h1] at hj
 simp [pieces,List.getD,List.getElem?_eq_getElem hj]
set_option maxHeartbeats 2000000 in
theorem isPath_any (s:ByteArray) (w:World) (hg:Glob w):
 Calls Tryz.prog 71 #[.string s] w (Ret (.bool (Qm.isPath s)) w):=by
 by_cases hs:200 < s.size
 ·have hv:Qm.isPath s=false:=by rw [isPath_pieces,decide_eq_false (by omega)];rfl
  rw [hv]
  clear hv
  go_enter Tryz.func71,Tryz.ntmps71
  have hx:=Ext.refl w
  go_wp2
  (go_ret;refine Ret.mk ?_ ?_;(focus (rfl;done));(focus (exact EX;done)))
 have hs2:s.size≤200:=by omega
 clear hs
 go_enter Tryz.func71,Tryz.ntmps71
 have hx:=Ext.refl w
 go_wp2_with (go_at_call 101;refine (split_path _ _ (by omega) hg).mono ?_;rintro e w1 ⟨n,hn,hn2,rfl,hx1,hcl⟩;replace hx:=hx1)
 clear hg
 go_loop [11] (fun i=>∃ k:Nat,k≤n∧i=.int .i64 k∧((pieces s).take k).all Qm.isName=true) (fun i=>n - (intOf i).toNat)
 case atStart=>exact ⟨0,Nat.zero_le _,rfl,rfl⟩
 case round=>
  obtain ⟨k,hk,rfl,hall⟩:=hrel
  have Hall:=Lib.hid hall
  clear hall
  by_cases hlt:k < n
  ·have hck:=hcl k hlt
   have hlt2:k < (pieces s).length:=by omega
   have hsm:((pieces s).getD k ByteArray.empty).size≤s.size:=by
    rw [List.getD,List.getElem?_eq_getElem hlt2]
    exact pieces_small _ (by decide) _ _ _ (List.getElem_mem hlt2)
   have e1:(pieces s)[k]?=some ((pieces s).getD k ByteArray.empty):=by simp [List.getD,List.getElem?_eq_getElem hlt2]
   generalize (pieces s).getD k ByteArray.empty=x at hck hsm e1
   have HE:=Lib.hid e1
   clear e1 hcl
   go_wp2_with (go_at_call 102;refine (isName_same _ _ (by omega)).mono ?_;rintro e w2 ⟨rfl,rfl⟩)
   all_goals rename_i hnm
   ·have hnm2:Qm.isName x=false:=by simpa using hnm
    have hall:(pieces s).all Qm.isName=false:=by
     rw [List.all_eq_false]
     refine ⟨x,List.mem_of_getElem? HE.out,?_⟩
     rw [hnm2]
     exact Bool.false_ne_true
    have hv:Qm.isPath s=false:=by rw [isPath_pieces,hall,Bool.and_false]
    (go_ret;refine Ret.mk ?_ ?_;(focus (rw [hv];exact rfl;done));(focus (exact EX;done)))
   ·have hnm2:Qm.isName x=true:=by simpa using hnm
    refine ⟨⟨k+1,hlt,rfl,?_⟩,?_⟩
    ·rw [List.take_add_one,HE.out,List.all_append,Hall.out]
     simp [hnm2]
    ·simp [intOf]
     omega
  ·obtain rfl:k=n:=by omega
   have hall:(pieces s).all Qm.isName=true:=by have h0:=Hall.out;rwa [List.take_of_length_le (by omega)] at h0
   have hv:Qm.isPath s=true:=by rw [isPath_pieces,decide_eq_true hs2,hall];rfl
   clear hcl hall
   have HV:=Lib.hid hv
   clear hv
   go_wp2
   all_goals (go_ret;refine Ret.mk ?_ ?_;(focus (rw [HV.out];exact rfl;done));(focus (exact EX;done)))
end Go.Proofs.YtfmgnaigcibcaaaGreatDoor
namespace Go.Proofs.YtfmgnaigcibcaaaGreatDoor
open Go.RowKit
def Pv.whole (p:Pv) (mode:Int) (data:ByteArray):Int:=
 if p.ty < 1∨3 < p.ty then 8 else if mode < 0∨511 < mode then 2 else Qm.content p.ty data
def Pv.addCheck (p:Pv):Int:=if p.kind=3 then 0 else p.whole p.nm p.sn
def Pv.remCheck (p:Pv):Int:=if p.kind=4 then 0 else p.whole p.om p.so
def Pv.movCheck (p:Pv):Int:=if Qm.eqB p.to_ p.path=true∨Qm.below p.to_ p.path=true∨Qm.below p.path p.to_=true then 20 else 0
def Pv.zero:Pv:=⟨0,⟨#[]⟩,⟨#[]⟩,0,0,none,0,0,none,0,0,0,⟨#[]⟩,⟨#[]⟩,0,0⟩
def Pv.addInv (p:Pv):Pv:=if p.kind=3 then { Pv.zero with kind:=4,path:=p.path } else { Pv.zero with kind:=2,path:=p.path,ty:=p.ty,om:=p.nm,so:=p.sn }
def Pv.remInv (p:Pv):Pv:=if p.kind=4 then { Pv.zero with kind:=3,path:=p.path } else { Pv.zero with kind:=1,path:=p.path,ty:=p.ty,nm:=p.om,sn:=p.so }
def Pv.movInv (p:Pv):Pv:={ Pv.zero with kind:=5,path:=p.to_,to_:=p.path }
set_option maxHeartbeats 1600000 in
theorem whole_any (p:Pv) (m:Int) (d:ByteArray) (w:World):
 Calls Tryz.prog 182 #[p.v,.int .i64 m,.string d] w (Ret (.int .i64 (p.whole m d)) w):=by
 go_enter Tryz.func182,Tryz.ntmps182
 have hx:=Ext.refl w
 go_wp2_with (go_at_call 103;refine (content_any _ _ _).mono ?_;rintro e w1 ⟨rfl,hx0⟩;have hy:=Ext.trans (a:=w) EX hx0;clear hx;have hx:=hy;clear hy;skip;(try clear hx0))
 all_goals (go_ret;refine Ret.mk ?_ ?_;(focus (refine congrArg (Value.int .i64) ?_;unfold Pv.whole;repeat' split;all_goals first | rfl | omega | simp_all;done));(focus (exact EX;done)))
set_option maxHeartbeats 1600000 in
theorem addCheck_any (p:Pv) (w:World):Calls Tryz.prog 178 #[p.v] w (Ret (.int .i64 p.addCheck) w):=by
 go_enter Tryz.func178,Tryz.ntmps178
 have hx:=Ext.refl w
 go_wp2_with (go_at_call 182;refine (whole_any p _ _ _).mono ?_;rintro e w1 ⟨rfl,hx0⟩;have hy:=Ext.trans (a:=w) EX hx0;clear hx;have hx:=hy;clear hy;skip;(try clear hx0))
 all_goals (go_ret;refine Ret.mk ?_ ?_;(focus (refine congrArg (Value.int .i64) ?_;unfold Pv.addCheck;repeat' split;all_goals first | rfl | omega | simp_all;done));(focus (exact EX;done)))
set_option maxHeartbeats 1600000 in
theorem remCheck_any (p:Pv) (w:World):Calls Tryz.prog 201 #[p.v] w (Ret (.int .i64 p.remCheck) w):=by
 go_enter Tryz.func201,Tryz.ntmps201
 have hx:=Ext.refl w
 go_wp2_with (go_at_call 182;refine (whole_any p _ _ _).mono ?_;rintro e w1 ⟨rfl,hx0⟩;have hy:=Ext.trans (a:=w) EX hx0;clear hx;have hx:=hy;clear hy;skip;(try clear hx0))
 all_goals (go_ret;refine Ret.mk ?_ ?_;(focus (refine congrArg (Value.int .i64) ?_;unfold Pv.remCheck;repeat' split;all_goals first | rfl | omega | simp_all;done));(focus (exact EX;done)))
set_option maxHeartbeats 1600000 in
theorem addInv_any (p:Pv) (w:World):Calls Tryz.prog 179 #[p.v] w (Ret p.addInv.v w):=by
 go_enter Tryz.func179,Tryz.ntmps179
 have hx:=Ext.refl w
 go_wp2
 all_goals (refine bodyPost_ret (v:=p.addInv.v) ?_ rfl ?_;(focus (simp only [results,Tryz.results179];go_simp;(try (by_cases hk:p.kind=3 <;> simp_all [Pv.addInv,Pv.zero]));done));refine Ret.mk rfl ?_;(focus (exact EX;done)))
set_option maxHeartbeats 1600000 in
theorem remInv_any (p:Pv) (w:World):Calls Tryz.prog 202 #[p.v] w (Ret p.remInv.v w):=by
 go_enter Tryz.func202,Tryz.ntmps202
 have hx:=Ext.refl w
 go_wp2
 all_goals (refine bodyPost_ret (v:=p.remInv.v) ?_ rfl ?_;(focus (simp only [results,Tryz.results202];go_simp;(try (by_cases hk:p.kind=4 <;> simp_all [Pv.remInv,Pv.zero]));done));refine Ret.mk rfl ?_;(focus (exact EX;done)))
set_option maxHeartbeats 1600000 in
theorem movInv_any (p:Pv) (w:World):Calls Tryz.prog 207 #[p.v] w (Ret p.movInv.v w):=by
 go_enter Tryz.func207,Tryz.ntmps207
 have hx:=Ext.refl w
 go_wp2
 all_goals (refine bodyPost_ret (v:=p.movInv.v) ?_ rfl ?_;(focus (simp only [results,Tryz.results207];go_simp;(try (simp [Pv.movInv,Pv.zero, *]));done));refine Ret.mk rfl ?_;(focus (exact EX;done)))
end Go.Proofs.YtfmgnaigcibcaaaGreatDoor
namespace Go.Proofs.YtfmgnaigcibcaaaGreatDoor
open Go.RowKit
set_option maxHeartbeats 1600000 in
theorem movCheck_any (p:Pv) (w:World) (h1:p.path.size≤4611686018427387904) (h2:p.to_.size≤4611686018427387904):Calls Tryz.prog 206 #[p.v] w (Ret (.int .i64 p.movCheck) w):=by
 go_enter Tryz.func206,Tryz.ntmps206
 have hx:=Ext.refl w
 go_wp2_with (go_at_call 203;refine (pbelow_any _ _ _ (by assumption)).mono ?_;rintro e w1 ⟨rfl,hx0⟩;have hy:=Ext.trans (a:=w) EX hx0;clear hx;have hx:=hy;clear hy;have hn0:=BB hx0 (w.heap.size);(first | simp [↓heap_drew_at,↓heap_drewN_at,↓heap_alloc_at,↓heap_set_at,ne_two,ne_three,ne_two_left,ne_three_left,↓hb0.eq,hb0.lt,hb0.ne] at hn0 | simp [↓heap_drew_at,↓heap_drewN_at,↓heap_alloc_at,↓heap_set_at,ne_two,ne_three,ne_two_left,ne_three_left] at hn0);(try clear hb0 hc0 hf0 hl0);have hb0:=Blk.mk hn0;clear hn0;obtain ⟨hc0,hf0,hl0⟩:=hb0.all;(try clear hx0))
 all_goals (go_ret;refine Ret.mk ?_ ?_;(focus (refine congrArg (Value.int .i64) ?_;unfold Pv.movCheck;repeat' split;all_goals first | rfl | omega | simp_all [Qm.eqB];done));(focus (exact EX;done)))
def Pv.edCheck (p:Pv):Int:=
 if p.kind=7 then (if p.off < 0∨65536 < p.off then 2 else if 65536 < p.so.size∨65536 < p.sn.size then 4 else if Qm.eqB p.so p.sn=true then 1 else 0)
 else if p.om < 0∨511 < p.om∨p.nm < 0∨511 < p.nm then 2 else if p.om=p.nm then 1 else 0
theorem ed_same (p:Pv) (h7:(p.kind == 7)=true) (d:0≤p.off∧p.off≤65536) (f:(p.so.size:Int)≤65536∧(p.sn.size:Int)≤65536) (g:(p.so.toList == p.sn.toList)=true):p.edCheck=1:=by
 unfold Pv.edCheck
 rw [if_pos (by simpa using h7),if_neg (by omega),if_neg (by omega),if_pos (by rw [Qm.eqB];exact g)]
theorem ed_other (p:Pv) (h7:(p.kind == 7)=true) (d:0≤p.off∧p.off≤65536) (f:(p.so.size:Int)≤65536∧(p.sn.size:Int)≤65536) (g:(p.so.toList == p.sn.toList)=false):p.edCheck=0:=by
 unfold Pv.edCheck
 rw [if_pos (by simpa using h7),if_neg (by omega),if_neg (by omega),if_neg (by rw [Qm.eqB,g];exact Bool.false_ne_true)]
set_option maxHeartbeats 1600000 in
theorem edCheck_any (p:Pv) (w:World) (h6:p.kind≠6):Calls Tryz.prog 229 #[p.v] w (Ret (.int .i64 p.edCheck) w):=by
 go_enter Tryz.func229,Tryz.ntmps229
 have hx:=Ext.refl w
 go_wp2
 all_goals (go_ret;refine Ret.mk ?_ ?_;(focus (refine congrArg (Value.int .i64) ?_;first | (refine (ed_same p ?_ ?_ ?_ ?_).symm <;> assumption) | (refine (ed_other p ?_ ?_ ?_ ?_).symm <;> assumption) | (unfold Pv.edCheck;repeat' split;all_goals first | rfl | omega | (simp_all [Qm.eqB];done));done));(focus (exact EX;done)))
end Go.Proofs.YtfmgnaigcibcaaaGreatDoor
namespace Go.Proofs.YtfmgnaigcibcaaaGreatDoor
open Go.RowKit
def Pv.strip (p:Pv):Pv:=
 if p.kind=1 then { p with ty:=0,nm:=0,sn:=⟨#[]⟩ }
 else if p.kind=2 then { p with ty:=0,om:=0,so:=⟨#[]⟩ }
 else if p.kind=5 then { p with to_:=⟨#[]⟩ }
 else if p.kind=6 then { p with at_:=0,A1:=none,n1:=0,c1:=0,A2:=none,n2:=0,c2:=0 }
 else if p.kind=7 then { p with off:=0,so:=⟨#[]⟩,sn:=⟨#[]⟩ }
 else if p.kind=8 then { p with om:=0,nm:=0 }
 else p
def Pv.bare (p:Pv):Bool:=
 p.to_.toList.isEmpty && p.ty == 0 && p.at_ == 0 && ((p.n1:Int)+p.n2 == 0) && p.off == 0 && p.so.toList.isEmpty && p.sn.toList.isEmpty && p.om == 0 && p.nm == 0
def Pv.tidy (p:Pv):Bool:=p.strip.bare
abbrev Pv.arr (p:Pv):Array Value:=
 #[.int .i64 p.kind,.string p.path,.string p.to_,.int .i64 p.ty,.int .i64 p.at_,.slice p.A1 p.n1 p.c1,.slice p.A2 p.n2 p.c2,.int .i64 p.off,.string p.so,.string p.sn,.int .i64 p.om,.int .i64 p.nm]
set_option maxHeartbeats 4000000 in
set_option maxRecDepth 100000 in
theorem tidy_any (p:Pv) (w:World) (h1:p.n1≤1152921504606846976) (h2:p.n2≤1152921504606846976):Calls Tryz.prog 70 #[p.v] w (Ret (.bool p.tidy) w):=by
 go_enter Tryz.func70,Tryz.ntmps70
 have hx:=Ext.refl w
 go_upto_block 0 with fail
 go_cut [] (fun wx=>∃ q:Pv,Hid (q=p.strip)∧wx=w.alloc (.cells q.arr 69))
 case first=>
  go_wp2_with fail
  all_goals (go_meet;refine ⟨p.strip,Lib.hid rfl,?_⟩;simp_all [Pv.strip])
 case rest=>
  obtain ⟨q,hq,rfl⟩:=hcut
  have h3:q.n1≤1152921504606846976∧q.n2≤1152921504606846976:=by
   rw [hq.out]
   unfold Pv.strip
   repeat' split
   all_goals exact ⟨by first | exact h1 | exact Nat.zero_le _,by first | exact h2 | exact Nat.zero_le _⟩
  obtain ⟨h4,h5⟩:=h3
  clear h1 h2
  go_wp2
  all_goals (go_ret;refine Ret.mk ?_ ?_;(focus (refine congrArg Value.bool ?_;rw [Pv.tidy,← hq.out];simp [Pv.bare, *];done));(focus (exact EX;done)))
end Go.Proofs.YtfmgnaigcibcaaaGreatDoor
namespace Go.Proofs.YtfmgnaigcibcaaaGreatDoor
open Go.RowKit
def Pv.act (p:Pv):Value:=
 if p.kind=1∨p.kind=3 then .iface 103 p.v
 else if p.kind=2∨p.kind=4 then .iface 104 p.v
 else if p.kind=5 then .iface 105 p.v
 else if p.kind=6∨p.kind=7∨p.kind=8 then .iface 106 p.v
 else .nilIface
set_option maxHeartbeats 1600000 in
theorem action_any (p:Pv) (w:World):Calls Tryz.prog 40 #[p.v] w (Ret p.act w):=by
 go_enter Tryz.func40,Tryz.ntmps40
 have hx:=Ext.refl w
 go_wp2
 all_goals (go_ret;refine Ret.mk ?_ ?_;(focus (unfold Pv.act;repeat' split;all_goals first | rfl | omega | (simp_all;done);done));(focus (exact EX;done)))
end Go.Proofs.YtfmgnaigcibcaaaGreatDoor
