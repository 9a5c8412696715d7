import Derived.Test.YtfmgnaigcibcaaaGreatDoorTQ1
import Derived.Test.YtfmgnaigcibcaaaGreatDoorTQ5
import Derived.Lib.IndexBytes
import Derived.Lib.IndexLaws
import Derived.Test.YtfmgnaigcibcaaaGreatDoorTQ3
import Derived.Test.YtfmgnaigcibcaaaGreatDoorTModel
import Derived.Test.YtfmgnaigcibcaaaGreatDoorTQc
set_option linter.unusedSimpArgs false
set_option linter.unusedVariables false
namespace Go.Proofs.YtfmgnaigcibcaaaGreatDoor
open Go.RowKit
theorem Qm.size_zero {s:ByteArray} (h:s.toList.isEmpty=true):s.size=0:=by
 rw [ByteArray.toList_eq] at h
 have:=List.isEmpty_iff.1 h
 have h2:s.data.toList.length=0:=by rw [this];rfl
 exact h2
set_option maxHeartbeats 4000000 in
theorem rname_same (s:ByteArray) (w:World) (hs:s.size≤4611686018427387904):
 Calls Tryz.prog 107 #[.string s] w (Same (.bool (Qm.isName s)) w):=by
 go_enter Tryz.func107,Tryz.ntmps107
 have hx:=Ext.refl w
 go_wp2
 go_loop [3] (fun i=>∃ k:Nat,k≤s.size∧i=.int .i64 k∧(s.data.toList.take k).all Qm.nameChar=true) (fun i=>s.size - (intOf i).toNat)
 case atStart=>exact ⟨0,Nat.zero_le _,rfl,rfl⟩
 case round=>
  obtain ⟨k,hk,rfl,hall⟩:=hrel
  have Hall:=Lib.hid hall
  clear hall
  by_cases hlt:k < s.size
  ·cases hch:Qm.nameChar s[k]
   all_goals
    go_wp2
    all_goals first
     | (exfalso;simp [Qm.nameChar] at hch;omega)
     | (go_ret;refine Same.mk ?_;rw [Qm.not_all s k hlt hch];exact rfl)
     | (refine ⟨⟨k+1,hlt,rfl,Qm.all_snoc s k hlt Hall.out hch⟩,?_⟩;simp [intOf];omega)
     | (exfalso;simp [Qm.nameChar] at hch;simp only [Bool.not_eq_eq_eq_not,Bool.not_false,Bool.not_true,decide_eq_true_eq,decide_eq_false_iff_not,beq_iff_eq,bne_iff_ne,ne_eq,Bool.or_eq_true,Bool.and_eq_true,beq_eq_false_iff_ne] at *;omega)
  ·obtain rfl:k=s.size:=by omega
   have hall:s.data.toList.all Qm.nameChar=true:=by have h0:=Hall.out;rwa [List.take_of_length_le (by simp)] at h0
   have Hall2:=Lib.hid hall
   clear hall
   go_wp2
   all_goals (go_ret;refine Same.mk ?_;refine congrArg Value.bool ?_)
   all_goals
    have hE:s.size < 1→s.toList=[]:=fun h=>by rw [ByteArray.toList_eq];exact List.length_eq_zero_iff.1 (by have :s.data.toList.length=s.size:=rfl;omega)
    have hF:1≤s.size→s.toList.isEmpty=false:=fun h=>by
     cases e:s.toList.isEmpty
     ·rfl
     ·have:=Qm.size_zero e;omega
    first
     | (have e1:=hE (by omega);simp [Qm.isName,Hall2.out,e1];done)
     | (have e2:=hF (by omega);have e3:decide (s.size≤40)=true:=decide_eq_true (by omega);simp [Qm.isName,Hall2.out,e2,e3, *];done)
     | (have e2:=hF (by omega);have e3:decide (s.size≤40)=false:=decide_eq_false (by omega);simp [Qm.isName,Hall2.out,e2,e3, *];done)
end Go.Proofs.YtfmgnaigcibcaaaGreatDoor
namespace Go.Proofs.YtfmgnaigcibcaaaGreatDoor
open Go.RowKit
set_option maxHeartbeats 4000000 in
theorem rpath_same (s:ByteArray) (w:World):
 Calls Tryz.prog 78 #[.string s] w (Same (.bool (Qm.isPath s)) w):=by
 by_cases hs:200 < s.size
 ·have hv:Qm.isPath s=false:=by rw [isPath_pieces,decide_eq_false (by omega)];rfl
  rw [hv]
  clear hv
  go_enter Tryz.func78,Tryz.ntmps78
  have hx:=Ext.refl w
  go_wp2
  go_ret
  exact Same.mk rfl
 have hs2:s.size≤200:=by omega
 have hv:Qm.isPath s=(pieces s).all Qm.isName:=by rw [isPath_pieces,decide_eq_true (by omega)];rfl
 rw [hv]
 clear hs hv
 go_enter Tryz.func78,Tryz.ntmps78
 have hx:=Ext.refl w
 go_wp2
 go_loop [3,4] (fun f i=>∃ a k:Nat,f=.int .i64 a∧i=.int .i64 k∧((a≤k∧k≤s.size∧(pieces s).all Qm.isName=(pieces (s.extract a s.size)).all Qm.isName∧∀ j,a≤j→j < k→s.data.toList[j]?≠some 47)∨(k=s.size+1∧(pieces s).all Qm.isName=true))) (fun f i=>s.size+1 - (intOf i).toNat)
 case atStart=>exact ⟨0,0,rfl,rfl,.inl ⟨Nat.le_refl _,Nat.zero_le _,by rw [ByteArray.extract_zero_size],fun j h1 h2=>by omega⟩⟩
 case round=>
  obtain ⟨a,k,rfl,rfl,hr⟩:=hrel
  have HR:=Lib.hid hr
  clear hr
  by_cases hend:k=s.size+1
  ·subst hend
   have hall:(pieces s).all Qm.isName=true:=by
    rcases HR.out with ⟨_,h,_⟩ | ⟨_,h⟩
    ·omega
    ·exact h
   rw [hall]
   go_wp2
   go_ret
   exact Same.mk rfl
  have hr:a≤k∧k≤s.size∧(pieces s).all Qm.isName=(pieces (s.extract a s.size)).all Qm.isName∧∀ j,a≤j→j < k→s.data.toList[j]?≠some 47:=by
   rcases HR.out with h | ⟨h,_⟩
   ·exact h
   ·exact (hend h).elim
  obtain ⟨hak,hks,hall,hno⟩:=hr
  have Hall:=Lib.hid hall
  have Hno:=Lib.hid hno
  clear hall hno HR
  have hsz:(s.extract a k).size≤4611686018427387904:=by rw [ByteArray.size_extract];omega
  by_cases hlt:k < s.size
  ·by_cases h47:s[k].toNat=47
   ·cases hn:Qm.isName (s.extract a k)
    all_goals
     have Hn:=Lib.hid hn
     clear hn
     go_wp2_with fail
     refine (rname_same _ _ hsz).mono ?_
     rintro e w1 ⟨rfl,rfl⟩
     rw [Hn.out]
     go_wp2_with fail
    ·go_ret
     exact Same.mk (by rw [Hall.out,pall_hit hak hlt h47 Hno.out,Hn.out];rfl)
    ·refine ⟨⟨k+1,k+1,rfl,rfl,.inl ⟨Nat.le_refl _,hlt,?_,fun j h1 h2=>by omega⟩⟩,?_⟩
     ·rw [Hall.out,pall_hit hak hlt h47 Hno.out,Hn.out];rfl
     ·simp [intOf];omega
   ·go_wp2_with fail
    refine ⟨⟨a,k+1,rfl,rfl,.inl ⟨by omega,hlt,Hall.out,fun j h1 h2=>?_⟩⟩,?_⟩
    ·rcases Nat.lt_or_ge j k with h | h
     ·exact Hno.out j h1 h
     ·obtain rfl:j=k:=by omega
      rw [byte_at hlt]
      intro e
      exact h47 (by rw [Option.some.inj e];rfl)
    ·simp [intOf];omega
  ·obtain rfl:k=s.size:=by omega
   cases hn:Qm.isName (s.extract a s.size)
   all_goals
    have Hn:=Lib.hid hn
    clear hn
    go_wp2_with fail
    refine (rname_same _ _ hsz).mono ?_
    rintro e w1 ⟨rfl,rfl⟩
    rw [Hn.out]
    go_wp2_with fail
   ·go_ret
    exact Same.mk (by rw [Hall.out,pall_miss Hno.out,Hn.out];rfl)
   ·refine ⟨⟨s.size+1,s.size+1,rfl,rfl,.inr ⟨rfl,?_⟩⟩,?_⟩
    ·rw [Hall.out,pall_miss Hno.out,Hn.out]
    ·simp [intOf]
end Go.Proofs.YtfmgnaigcibcaaaGreatDoor
namespace Go.Proofs.YtfmgnaigcibcaaaGreatDoor
open Go.RowKit
theorem below_parts {s t:ByteArray} (h:t.size < s.size):Qm.below s t=((s.extract 0 t.size).toList == t.toList && ((s[t.size].toNat:Int) == 47)):=by
 unfold Qm.below Lib.hasPrefix
 rw [Bool.eq_iff_iff,List.isPrefixOf_iff_prefix,Bool.and_eq_true,beq_iff_eq,beq_iff_eq,ByteArray.toList_eq,ByteArray.toList_eq,Lib.extract_from_zero]
 have hl:t.data.toList.length=t.size:=rfl
 have hb:s.data.toList[t.size]?=some s[t.size]:=byte_at h
 constructor
 ·rintro ⟨x,hx⟩
  rw [← hx]
  refine ⟨by rw [List.append_assoc,← hl,List.take_left],?_⟩
  rw [← hx,List.append_assoc,List.getElem?_append_right (by omega),hl,Nat.sub_self] at hb
  have:(47:UInt8)=s[t.size]:=by simpa using hb
  rw [← this];rfl
 ·rintro ⟨h1,h2⟩
  refine ⟨s.data.toList.drop (t.size+1),?_⟩
  have hc:s[t.size]=47:=UInt8.toNat_inj.1 (by have :s[t.size].toNat=47:=by omega
                                              rw [this];rfl)
  rw [hc] at hb
  have hlt:t.size < s.data.toList.length:=h
  rw [List.getElem?_eq_getElem hlt] at hb
  have hd:s.data.toList.drop t.size=47 :: s.data.toList.drop (t.size+1):=by rw [List.drop_eq_getElem_cons hlt,Option.some.inj hb]
  rw [← h1,List.append_assoc]
  show _ ++ 47 :: List.drop (t.size+1) s.data.toList=_
  rw [← hd,List.take_append_drop]
theorem below_short {s t:ByteArray} (h:¬ t.size < s.size):Qm.below s t=false:=by
 cases e:Qm.below s t
 ·rfl
 ·exact (h (Qm.size_of_below e)).elim
set_option maxHeartbeats 1000000 in
theorem rbelow_same (s t:ByteArray) (w:World) (hs:s.size≤4611686018427387904):
 Calls Tryz.prog 80 #[.string s,.string t] w (Same (.bool (Qm.below s t)) w):=by
 by_cases h:t.size < s.size
 ·rw [below_parts h]
  go_enter Tryz.func80,Tryz.ntmps80
  have hx:=Ext.refl w
  go_wp2
  all_goals (go_ret;refine Same.mk ?_;refine congrArg Value.bool ?_;simp [*])
 ·rw [below_short h]
  go_enter Tryz.func80,Tryz.ntmps80
  have hx:=Ext.refl w
  go_wp2
  all_goals (go_ret;refine Same.mk ?_;first | rfl | simp [*])
theorem rmode_same (n:Int) (w:World):Calls Tryz.prog 83 #[.int .i64 n] w (Same (.bool (decide (0≤n) && decide (n≤511))) w):=by
 go_enter Tryz.func83,Tryz.ntmps83
 have hx:=Ext.refl w
 go_wp2
 ·go_ret
  refine Same.mk (congrArg Value.bool ?_)
  rw [show decide (0≤n)=true from decide_eq_true (by omega),Bool.true_and]
 ·go_ret
  refine Same.mk (congrArg Value.bool ?_)
  rw [show decide (0≤n)=false from decide_eq_false (by omega),Bool.false_and]
set_option maxHeartbeats 4000000 in
set_option maxRecDepth 100000 in
theorem rwithout_any (p:Pv) (w:World):Calls Tryz.prog 77 #[p.v] w (Ret (Pv.v { p.strip with path:=⟨#[]⟩ }) w):=by
 go_enter Tryz.func77,Tryz.ntmps77
 have hx:=Ext.refl w
 go_wp2
 all_goals
  refine bodyPost_ret (v:=Pv.v { p.strip with path:=⟨#[]⟩ }) ?_ rfl ?_
  ·simp only [results,Tryz.results77]
   go_simp
   simp only [beq_iff_eq,beq_eq_false_iff_ne,ne_eq] at *
   simp [Pv.strip, *]
  ·exact ⟨rfl,EX⟩
set_option maxHeartbeats 4000000 in
set_option maxRecDepth 100000 in
theorem rempty_any (p:Pv) (w:World) (h1:p.n1≤1152921504606846976) (h2:p.n2≤1152921504606846976) (hp:p.path=⟨#[]⟩):Calls Tryz.prog 76 #[p.v] w (Ret (.bool p.bare) w):=by
 have w1':IntKind.i64.wrap ((p.n1:Int)+p.n2)=(p.n1:Int)+p.n2:=IntWalk.i64_in _ (by omega)
 go_enter Tryz.func76,Tryz.ntmps76
 have hx:=Ext.refl w
 go_wp2
 all_goals (go_ret;refine Ret.mk ?_ EX;refine congrArg Value.bool ?_;simp [Pv.bare, *];done)
end Go.Proofs.YtfmgnaigcibcaaaGreatDoor
namespace Go.Proofs.YtfmgnaigcibcaaaGreatDoor
open Go.RowKit
def cleanB (l:List UInt8) (a b:Int):Bool:=l.all fun c=>!(((c.toNat:Int) == a) || ((c.toNat:Int) == b))
theorem take_one {s:ByteArray} {k:Nat} (h:k < s.size):s.data.toList.take (k+1)=s.data.toList.take k ++ [s[k]]:=Qm.take_snoc s k h
theorem clean_hit {s:ByteArray} {k:Nat} {a b:Int} (h:k < s.size) (hc:(((s[k].toNat:Int) == a) || ((s[k].toNat:Int) == b))=true):cleanB s.data.toList a b=false:=by
 unfold cleanB
 rw [List.all_eq_false]
 refine ⟨s[k],?_,by simp [hc]⟩
 exact List.mem_of_getElem? (byte_at h)
set_option maxHeartbeats 1000000 in
theorem rclean_same (s:ByteArray) (a b:Int) (w:World) (hs:s.size≤4611686018427387904):
 Calls Tryz.prog 110 #[.string s,.int .u8 a,.int .u8 b] w (Same (.bool (cleanB s.data.toList a b)) w):=by
 go_enter Tryz.func110,Tryz.ntmps110
 have hx:=Ext.refl w
 go_wp2
 go_loop [7] (fun i=>∃ k:Nat,k≤s.size∧i=.int .i64 k∧cleanB (s.data.toList.take k) a b=true) (fun i=>s.size - (intOf i).toNat)
 case atStart=>exact ⟨0,Nat.zero_le _,rfl,rfl⟩
 case round=>
  obtain ⟨k,hk,rfl,hall⟩:=hrel
  have Hall:=Lib.hid hall
  clear hall
  by_cases hlt:k < s.size
  ·cases hch:(((s[k].toNat:Int) == a) || ((s[k].toNat:Int) == b))
   ·have hch2:=hch
    simp only [Bool.or_eq_false_iff] at hch2
    obtain ⟨c1,c2⟩:=hch2
    go_wp2
    refine ⟨⟨k+1,hlt,rfl,?_⟩,?_⟩
    ·have:=Hall.out
     unfold cleanB at this ⊢
     rw [take_one hlt,List.all_append,this]
     simp [c1,c2]
    ·simp [intOf];omega
   ·have hf:=clean_hit hlt hch
    rw [hf]
    cases c1:((s[k].toNat:Int) == a)
    ·have c2:((s[k].toNat:Int) == b)=true:=by rw [c1,Bool.false_or] at hch;exact hch
     go_wp2
     all_goals (go_ret;exact Same.mk rfl)
    ·go_wp2
     all_goals (go_ret;exact Same.mk rfl)
  ·obtain rfl:k=s.size:=by omega
   have hall:cleanB s.data.toList a b=true:=by have h0:=Hall.out;rwa [List.take_of_length_le (by simp)] at h0
   rw [hall]
   go_wp2
   all_goals (go_ret;exact Same.mk rfl)
theorem idx_neg {l:List UInt8} {c:UInt8}:Lib.indexByte l c < 0 ↔ c ∉ l:=by
 have h0:=Lib.indexByte_ge l c
 constructor
 ·intro h hm
  have hm1:Lib.indexByte l c=-1:=by omega
  obtain ⟨k,hk,hx⟩:=List.mem_iff_getElem.1 hm
  exact Lib.indexByte_none hm1 k (by rw [List.getElem?_eq_getElem hk,hx])
 ·intro h
  by_cases hm:Lib.indexByte l c=-1
  ·omega
  ·obtain ⟨o,ho⟩:∃ o:Nat,Lib.indexByte l c=o:=⟨(Lib.indexByte l c).toNat,by omega⟩
   exact (h (List.mem_of_getElem? (Lib.indexByte_some ho).1)).elim
theorem toNat_int_eq {x c:UInt8}:((x.toNat:Int) == (c.toNat:Int))=true ↔ x=c:=by
 rw [beq_iff_eq]
 constructor
 ·intro h
  exact UInt8.toNat_inj.1 (by omega)
 ·rintro rfl;rfl
theorem cleanB_iff {l:List UInt8} {a b:UInt8}:cleanB l a.toNat b.toNat=true ↔ a ∉ l∧b ∉ l:=by
 unfold cleanB
 rw [List.all_eq_true]
 constructor
 ·intro h
  refine ⟨fun hm=>?_,fun hm=>?_⟩
  ·have:=h a hm;simp at this
  ·have:=h b hm;simp at this
 ·rintro ⟨h1,h2⟩ x hx
  have e1:((x.toNat:Int) == (a.toNat:Int))=false:=by
   cases e:((x.toNat:Int) == (a.toNat:Int))
   ·rfl
   ·exact (h1 (toNat_int_eq.1 e ▸ hx)).elim
  have e2:((x.toNat:Int) == (b.toNat:Int))=false:=by
   cases e:((x.toNat:Int) == (b.toNat:Int))
   ·rfl
   ·exact (h2 (toNat_int_eq.1 e ▸ hx)).elim
  rw [e1,e2];rfl
theorem validLine_clean (s:ByteArray):Qm.validLine s=(decide (s.size≤1000) && cleanB s.data.toList 10 0):=by
 unfold Qm.validLine
 rw [Bool.and_assoc]
 congr 1
 rw [Bool.eq_iff_iff,Bool.and_eq_true,decide_eq_true_eq,decide_eq_true_eq,idx_neg,idx_neg]
 exact (cleanB_iff (a:=10) (b:=0)).symm
set_option maxHeartbeats 1000000 in
theorem rvalid_same (s:ByteArray) (w:World) (hs:s.size≤4611686018427387904):
 Calls Tryz.prog 129 #[.string s] w (Same (.bool (Qm.validLine s)) w):=by
 rw [validLine_clean]
 go_enter Tryz.func129,Tryz.ntmps129
 have hx:=Ext.refl w
 go_wp2_with (go_at_call 110;refine (rclean_same s 10 0 _ hs).mono ?_;rintro e w1 ⟨rfl,rfl⟩)
 ·go_ret
  refine Same.mk (congrArg Value.bool ?_)
  rw [show decide (s.size≤1000)=true from decide_eq_true (by omega),Bool.true_and]
 ·go_ret
  refine Same.mk (congrArg Value.bool ?_)
  rw [show decide (s.size≤1000)=false from decide_eq_false (by omega),Bool.false_and]
set_option maxHeartbeats 4000000 in
set_option maxRecDepth 100000 in
theorem rvalidAll_same (A:Option Addr) (n c:Nat) (l:List ByteArray) (w:World) (h:Lst w A n l) (hn:n≤1152921504606846976) (hs:∀ x∈l,x.size≤4611686018427387904):
 Calls Tryz.prog 109 #[.slice A n c] w (Same (.bool (l.all Qm.validLine)) w):=by
 have H:=Lib.hid h
 have hlen:=h.1
 clear h
 go_enter Tryz.func109,Tryz.ntmps109
 have hx:=Ext.refl w
 go_wp2_with fail
 go_loop [3] (fun i=>∃ k:Nat,k≤n∧i=.int .i64 k∧(l.take k).all Qm.validLine=true) (fun i=>n - (intOf i).toNat)
 case atStart=>exact ⟨0,Nat.zero_le _,rfl,rfl⟩
 case round=>
  obtain ⟨k,hk,rfl,hall⟩:=hrel
  have Hall:=Lib.hid hall
  clear hall
  by_cases hlt:k < n
  ·obtain ⟨bb,oo,rfl,_,hcl⟩:=H.out.2 (by omega)
   have hck:=hcl k hlt
   have e1:l[k]?=some (l.getD k ByteArray.empty):=by simp [List.getD,List.getElem?_eq_getElem (show k < l.length by omega)]
   have hsz:=hs _ (List.mem_of_getElem? e1)
   generalize l.getD k ByteArray.empty=x at hck e1 hsz
   have HE:=Lib.hid e1
   clear e1 hcl
   cases hv:Qm.validLine x
   all_goals
    have HV:=Lib.hid hv
    clear hv
    go_wp2_with fail
    refine (rvalid_same x _ hsz).mono ?_
    rintro e w1 ⟨rfl,rfl⟩
    rw [HV.out]
    go_wp2_with fail
   ·have hf:l.all Qm.validLine=false:=by
     rw [List.all_eq_false]
     exact ⟨x,List.mem_of_getElem? HE.out,by rw [HV.out];exact Bool.false_ne_true⟩
    rw [hf]
    go_ret
    exact Same.mk rfl
   ·refine ⟨⟨k+1,hlt,rfl,?_⟩,?_⟩
    ·rw [List.take_add_one,HE.out,List.all_append,Hall.out]
     simp [HV.out]
    ·simp [intOf];omega
  ·obtain rfl:k=n:=by omega
   have hall:l.all Qm.validLine=true:=by have h0:=Hall.out;rwa [List.take_of_length_le (by omega)] at h0
   rw [hall]
   go_wp2_with fail
   go_ret
   exact Same.mk rfl
end Go.Proofs.YtfmgnaigcibcaaaGreatDoor
namespace Go.Proofs.YtfmgnaigcibcaaaGreatDoor
open Go.RowKit
theorem lines_hit {s:ByteArray} {a k:Nat} (hak:a≤k) (hk:k < s.size) (h10:s[k].toNat=10) (hno:∀ j,a≤j→j < k→s.data.toList[j]?≠some 10):
 Qm.linesOf (s.extract a s.size)=s.extract a k :: Qm.linesOf (s.extract (k+1) s.size):=by
 have hb:s[k]=10:=UInt8.toNat_inj.1 h10
 have hi:Lib.indexByte (s.extract a s.size).data.toList 10=(k - a:Nat):=by
  rw [Lib.extract_to_end]
  refine indexByte_is ?_ fun j hj=>?_
  ·rw [List.getElem?_drop,show a+(k - a)=k by omega,byte_at hk,hb]
  ·rw [List.getElem?_drop]
   exact hno _ (by omega) (by omega)
 rw [Qm.linesOf_some hi,extract_extract_zero _ _ _ _ (by omega) (Nat.le_refl _),extract_extract_end _ _ _ (by omega),show a+(k - a)=k by omega,show a+(k - a+1)=k+1 by omega]
theorem lines_miss {s:ByteArray} {a:Nat} (hno:∀ j,a≤j→j < s.size→s.data.toList[j]?≠some 10):Qm.linesOf (s.extract a s.size)=[]:=by
 have hi:Lib.indexByte (s.extract a s.size).data.toList 10=-1:=by
  rw [Lib.extract_to_end]
  refine indexByte_not fun j=>?_
  rw [List.getElem?_drop]
  rcases Nat.lt_or_ge (a+j) s.size with h | h
  ·exact hno _ (by omega) h
  ·rw [List.getElem?_eq_none (by simpa using h)]
   simp
 exact Qm.linesOf_none (by omega)
theorem sl_one (W:World) (x:ByteArray):Sl (W.alloc (.cells #[.string x] 9)) (some ⟨W.heap.size,0,none⟩) 1 1 [x]:=by
 refine ⟨⟨rfl,fun _=>⟨W.heap.size,0,rfl,by simp,fun j hj=>?_⟩⟩,fun h=>nomatch h⟩
 obtain rfl:j=0:=by omega
 rw [World.cell?_alloc_at _ _ _ _ rfl]
 rfl
theorem own_empty (W:World):(W.alloc (.cells #[] 9)).ownsRow W.heap.size 9 1 (.slice (some ⟨W.heap.size,0,none⟩) 0 0) 0 []:=
 ⟨rfl,.inr ⟨W.heap.size,0,#[],rfl,Nat.le_refl _,heap_alloc_new _ _,Nat.le_refl _,Nat.zero_le _,rfl,rfl⟩⟩
set_option maxHeartbeats 4000000 in
set_option maxRecDepth 100000 in
theorem rparts_any (s:ByteArray) (w:World) (hs:s.size≤65536):
 Calls Tryz.prog 111 #[.string s] w (fun e w'=>∃ A c,e=.returned (.slice A (Qm.linesOf s).length c)∧Sl w' A (Qm.linesOf s).length c (Qm.linesOf s)∧Ext w w'):=by
 go_enter Tryz.func111,Tryz.ntmps111
 have hx:=Ext.refl w
 go_wp2_with fail
 go_loopw [3,4,5] (fun o f i W=>∃ (pre:List ByteArray) (a k:Nat),f=.int .i64 a∧i=.int .i64 k∧W.ownsRow w.heap.size 9 1 o pre.length (pre.map Value.string)∧a≤k∧k≤s.size∧pre.length≤k∧Qm.linesOf s=pre ++ Qm.linesOf (s.extract a s.size)∧(∀ j,a≤j→j < k→s.data.toList[j]?≠some 10)∧Ext w W) (fun o f i _=>s.size - (intOf i).toNat)
 case atStart=>
  refine ⟨[],0,0,rfl,rfl,own_empty w,Nat.le_refl _,Nat.zero_le _,Nat.le_refl _,by rw [ByteArray.extract_zero_size];rfl,fun j h1 h2=>by omega,EX⟩
 case round=>
  clear hx
  obtain ⟨pre,a,k,rfl,rfl,hown,hak,hks,hpl,hlines,hno,hx⟩:=hrel
  have Hno:=Lib.hid hno
  have HL:=Lib.hid hlines
  have Hown:=Lib.hid hown
  clear hno hlines hown
  by_cases hlt:k < s.size
  ·by_cases h10:s[k].toNat=10
   ·have hz:=hx.size_le
    have hz2:w.heap.size≤(wr.alloc (.cells #[.string (s.extract a k)] 9)).heap.size:=by simp;omega
    go_wp2_with (at_builtin;refine wpList_append_sl rfl _ _ rfl w.heap.size _ pre.length pre rfl (Hown.out.alloc _) hz2 (some ⟨wr.heap.size,0,none⟩) 1 1 [s.extract a k] (sl_one wr _) rfl (by omega) (by omega) ?_;intro v2 w2 hown2 hg2)
    have hx2:=grownBy_ext hg2 w (hx.alloc _) (fun g hg=>(Hown.out.lt g hg).1)
    refine ⟨⟨pre ++ [s.extract a k],k+1,k+1,rfl,rfl,?_,Nat.le_refl _,hlt,?_,?_,fun j h1 h2=>by omega,hx2⟩,?_⟩
    ·rw [List.length_append];exact hown2
    ·rw [List.length_append];simp;omega
    ·rw [HL.out,lines_hit hak hlt h10 Hno.out,List.append_assoc];rfl
    ·simp [intOf];omega
   ·go_wp2_with fail
    refine ⟨⟨pre,a,k+1,rfl,rfl,Hown.out,by omega,hlt,by omega,HL.out,fun j h1 h2=>?_,hx⟩,?_⟩
    ·rcases Nat.lt_or_ge j k with h | h
     ·exact Hno.out j h1 h
     ·obtain rfl:j=k:=by omega
      rw [byte_at hlt]
      intro e
      exact h10 (by rw [Option.some.inj e];rfl)
    ·simp [intOf];omega
  ·obtain rfl:k=s.size:=by omega
   have hl:Qm.linesOf s=pre:=by rw [HL.out,lines_miss Hno.out,List.append_nil]
   go_wp2_with fail
   obtain ⟨A,c,rfl,hsl,_⟩:=Sl.of_own' Hown.out
   go_ret
   exact ⟨A,c,by rw [hl];rfl,by rw [hl];exact hsl,hx⟩
theorem suffix_last {s:ByteArray} (h:0 < s.size):Lib.hasSuffix s.data.toList [10]=((s[s.size - 1].toNat:Int) == 10):=by
 unfold Lib.hasSuffix
 have hb:s.data.toList[s.size - 1]?=some s[s.size - 1]:=byte_at (by omega)
 have hl:s.data.toList.length=s.size:=rfl
 rw [Bool.eq_iff_iff,List.isSuffixOf_iff_suffix,beq_iff_eq]
 constructor
 ·rintro ⟨x,hx⟩
  have hlen:x.length=s.size - 1:=by have :=congrArg List.length hx;simp at this;omega
  rw [← hx,List.getElem?_append_right (by omega),hlen,Nat.sub_self] at hb
  have:(10:UInt8)=s[s.size - 1]:=by simpa using hb
  rw [← this];rfl
 ·intro h2
  have h3:s[s.size - 1].toNat=10:=by omega
  have hc:s[s.size - 1]=10:=UInt8.toNat_inj.1 (by rw [h3];rfl)
  rw [hc,List.getElem?_eq_getElem (by omega)] at hb
  refine ⟨s.data.toList.take (s.size - 1),?_⟩
  have hd:s.data.toList.drop (s.size - 1)=[10]:=by
   rw [List.drop_eq_getElem_cons (by omega),Option.some.inj hb,List.drop_eq_nil_of_le (by omega)]
  rw [← hd,List.take_append_drop]
theorem clean_zero {s:ByteArray}:cleanB s.data.toList 0 0=decide (Lib.indexByte s.data.toList 0 < 0):=by
 rw [Bool.eq_iff_iff,decide_eq_true_eq,idx_neg]
 have:=cleanB_iff (l:=s.data.toList) (a:=0) (b:=0)
 exact this.trans ⟨fun h=>h.1,fun h=>⟨h,h⟩⟩
def RSplit (s:ByteArray) (w:World) (e:Ending) (w':World):Prop:=∃ v,e=.returned (.tuple #[v,.int .i64 (Qm.splitErr s)])∧Ext w w'
set_option maxHeartbeats 4000000 in
set_option maxRecDepth 100000 in
theorem rsplit_any (s:ByteArray) (w:World):Calls Tryz.prog 85 #[.string s] w (RSplit s w):=by
 by_cases h1:65536 < s.size
 ·have hv:Qm.splitErr s=4:=by unfold Qm.splitErr;rw [if_pos h1]
  go_enter Tryz.func85,Tryz.ntmps85
  have hx:=Ext.refl w
  go_wp2_with fail
  refine bodyPost_ret (v:=.tuple #[_,.int .i64 4]) (by simp only [results,Tryz.results85];go_simp;rfl) rfl ?_
  exact ⟨_,by rw [hv],EX⟩
 have h1':s.size≤65536:=by omega
 by_cases h2:0≤Lib.indexByte s.data.toList 0∨(Qm.eqB s ⟨#[]⟩=false∧Lib.hasSuffix s.data.toList [10]=false)
 ·have hv:Qm.splitErr s=3:=by unfold Qm.splitErr;rw [if_neg h1,if_pos h2]
  have Hv:=Lib.hid hv
  clear hv
  cases hc:cleanB s.data.toList 0 0
  ·have Hc:=Lib.hid hc
   clear hc h2
   go_enter Tryz.func85,Tryz.ntmps85
   have hx:=Ext.refl w
   go_wp2_with fail
   refine (rclean_same s 0 0 _ (by omega)).mono ?_
   rintro e w1 ⟨rfl,rfl⟩
   rw [Hc.out]
   go_wp2_with fail
   refine bodyPost_ret (v:=.tuple #[_,.int .i64 3]) (by simp only [results,Tryz.results85];go_simp;rfl) rfl ?_
   exact ⟨_,by rw [Hv.out],EX⟩
  ·have hi:Lib.indexByte s.data.toList 0 < 0:=by rw [clean_zero] at hc;exact of_decide_eq_true hc
   obtain ⟨h3,h4⟩:=h2.resolve_left (by omega)
   have h0:0 < s.size:=by
    rcases Nat.eq_zero_or_pos s.size with h | h
    ·have:s=⟨#[]⟩:=ByteArray.ext (Array.toList_inj.1 (List.length_eq_zero_iff.1 h))
     rw [Qm.eqB_iff.2 this] at h3
     cases h3
    ·exact h
   rw [suffix_last h0] at h4
   have hE:s.toList.isEmpty=false:=by
    cases e:s.toList.isEmpty
    ·rfl
    ·have:=Qm.size_zero e;omega
   have hS:IntKind.i64.wrap ((s.size:Int) - 1)=((s.size - 1:Nat):Int):=by rw [IntWalk.i64_in _ (by omega)];omega
   have Hc:=Lib.hid hc
   clear hc hi h2 h3
   go_enter Tryz.func85,Tryz.ntmps85
   have hx:=Ext.refl w
   go_wp2_with fail
   refine (rclean_same s 0 0 _ (by omega)).mono ?_
   rintro e w1 ⟨rfl,rfl⟩
   rw [Hc.out]
   go_wp2_with fail
   refine bodyPost_ret (v:=.tuple #[_,.int .i64 3]) (by simp only [results,Tryz.results85];go_simp;rfl) rfl ?_
   exact ⟨_,by rw [Hv.out],EX⟩
 ·have hv:Qm.splitErr s=if Qm.longLine (Qm.linesOf s)=true∨2000 < (Qm.linesOf s).length then 4 else 0:=by unfold Qm.splitErr;rw [if_neg h1,if_neg h2]
  have Hv:=Lib.hid hv
  clear hv
  simp only [not_or,not_and,Bool.not_eq_false,Int.not_le] at h2
  obtain ⟨hi,h3⟩:=h2
  have hc:cleanB s.data.toList 0 0=true:=by rw [clean_zero];exact decide_eq_true hi
  have Hc:=Lib.hid hc
  have Hp:=Lib.hid (fun W=>rparts_any s W h1')
  have hlen:=Qm.linesOf_length s
  generalize Qm.linesOf s=l at Hv Hp hlen
  generalize hn:l.length=n at Hv Hp hlen
  have Hn:=Lib.hid hn
  clear hi hc hn
  have hS:0 < s.size→IntKind.i64.wrap ((s.size:Int) - 1)=((s.size - 1:Nat):Int):=fun h=>by rw [IntWalk.i64_in _ (by omega)];omega
  rcases Nat.eq_zero_or_pos s.size with h0 | h0
  ·have hE:s.toList=[]:=by rw [ByteArray.toList_eq];exact List.length_eq_zero_iff.1 h0
   clear hS h3
   go_enter Tryz.func85,Tryz.ntmps85
   have hx:=Ext.refl w
   go_wp2_with fail
   refine (rclean_same s 0 0 _ (by omega)).mono ?_
   rintro e w1 ⟨rfl,rfl⟩
   rw [Hc.out]
   go_wp2_with fail
   refine (Hp.out _).mono ?_
   rintro e w2 ⟨A,c,rfl,hsl,hx0⟩
   have hx1:=Ext.trans (a:=w1) EX hx0
   clear hx hx0
   have hx:=hx1
   clear hx1
   have Hsl:=Lib.hid hsl
   clear hsl Hp
   by_cases h2000:2000 < n
   ·exfalso;omega
   ·go_wp2_with fail
    go_loop [5] (fun i=>∃ k:Nat,k≤n∧i=.int .i64 k∧Qm.longLine (l.take k)=false) (fun i=>n - (intOf i).toNat)
    case atStart=>exact ⟨0,Nat.zero_le _,rfl,rfl⟩
    case round=>
     obtain ⟨k,hk,rfl,hall⟩:=hrel
     have Hall:=Lib.hid hall
     clear hall
     by_cases hlt:k < n
     ·exfalso;omega
     ·obtain rfl:k=n:=by omega
      have hall:Qm.longLine l=false:=by have h0:=Hall.out;rwa [List.take_of_length_le (by have :=Hn.out;omega)] at h0
      have HL:=Lib.hid hall
      clear hall
      go_wp2_with fail
      refine bodyPost_ret (v:=.tuple #[_,.int .i64 0]) (by simp only [results,Tryz.results85];go_simp;rfl) rfl ?_
      exact ⟨_,by rw [Hv.out,if_neg (by rw [HL.out];simp;omega)],EX⟩
  ·have h10:((s[s.size - 1].toNat:Int) == 10)=true:=by
    rw [← suffix_last h0]
    refine h3 ?_
    cases e:Qm.eqB s ⟨#[]⟩
    ·rfl
    ·have:=Qm.eqB_iff.1 e
     rw [this] at h0
     exact absurd h0 (by decide)
   have h10':((s[s.size - 1].toNat:Int) != 10)=false:=by rw [bne,h10];rfl
   have hE:s.toList.isEmpty=false:=by
    cases e:s.toList.isEmpty
    ·rfl
    ·have:=Qm.size_zero e;omega
   have hS:=hS h0
   clear h3
   go_enter Tryz.func85,Tryz.ntmps85
   have hx:=Ext.refl w
   go_wp2_with fail
   refine (rclean_same s 0 0 _ (by omega)).mono ?_
   rintro e w1 ⟨rfl,rfl⟩
   rw [Hc.out]
   go_wp2_with fail
   refine (Hp.out _).mono ?_
   rintro e w2 ⟨A,c,rfl,hsl,hx0⟩
   have hx1:=Ext.trans (a:=w1) EX hx0
   clear hx hx0
   have hx:=hx1
   clear hx1
   have Hsl:=Lib.hid hsl
   clear hsl Hp
   by_cases h2000:2000 < n
   ·go_wp2_with fail
    refine bodyPost_ret (v:=.tuple #[_,.int .i64 4]) (by simp only [results,Tryz.results85];go_simp;rfl) rfl ?_
    exact ⟨_,by rw [Hv.out,if_pos (.inr h2000)],EX⟩
   ·go_wp2_with fail
    go_loop [5] (fun i=>∃ k:Nat,k≤n∧i=.int .i64 k∧Qm.longLine (l.take k)=false) (fun i=>n - (intOf i).toNat)
    case atStart=>exact ⟨0,Nat.zero_le _,rfl,rfl⟩
    case round=>
     obtain ⟨k,hk,rfl,hall⟩:=hrel
     have Hall:=Lib.hid hall
     clear hall
     by_cases hlt:k < n
     ·obtain ⟨bb,oo,rfl,_,hcl⟩:=Hsl.out.1.2 (by omega)
      have hck:=hcl k hlt
      have e1:l[k]?=some (l.getD k ByteArray.empty):=by simp [List.getD,List.getElem?_eq_getElem (show k < l.length by have :=Hn.out;omega)]
      generalize l.getD k ByteArray.empty=x at hck e1
      have HE:=Lib.hid e1
      clear e1 hcl
      by_cases hb:1000 < x.size
      ·have hf:Qm.longLine l=true:=by
        unfold Qm.longLine
        rw [List.any_eq_true]
        exact ⟨x,List.mem_of_getElem? HE.out,decide_eq_true hb⟩
       go_wp2_with fail
       refine bodyPost_ret (v:=.tuple #[_,.int .i64 4]) (by simp only [results,Tryz.results85];go_simp;rfl) rfl ?_
       exact ⟨_,by rw [Hv.out,if_pos (.inl hf)],EX⟩
      ·go_wp2_with fail
       refine ⟨⟨k+1,hlt,rfl,?_⟩,?_⟩
       ·rw [List.take_add_one,HE.out,Option.toList_some,Qm.longLine_snoc,Hall.out,decide_eq_false hb]
        rfl
       ·simp [intOf];omega
     ·obtain rfl:k=n:=by omega
      have hall:Qm.longLine l=false:=by have h0:=Hall.out;rwa [List.take_of_length_le (by have :=Hn.out;omega)] at h0
      have HL:=Lib.hid hall
      clear hall
      go_wp2_with fail
      refine bodyPost_ret (v:=.tuple #[_,.int .i64 0]) (by simp only [results,Tryz.results85];go_simp;rfl) rfl ?_
      exact ⟨_,by rw [Hv.out,if_neg (by rw [HL.out];simp;omega)],EX⟩
set_option maxHeartbeats 1000000 in
theorem ristext_any (s:ByteArray) (w:World):Calls Tryz.prog 128 #[.string s] w (Ret (.bool (Qm.isText s)) w):=by
 go_enter Tryz.func128,Tryz.ntmps128
 have hx:=Ext.refl w
 go_wp2_with fail
 refine (rsplit_any s _).mono ?_
 rintro e w1 ⟨v,rfl,hx0⟩
 clear hx
 have hx:=hx0
 go_wp2_with fail
 (go_ret;refine Ret.mk ?_ ?_;(focus (rfl;done));(focus (exact EX;done)))
end Go.Proofs.YtfmgnaigcibcaaaGreatDoor
namespace Go.Proofs.YtfmgnaigcibcaaaGreatDoor
open Go.RowKit
attribute [local go_sem ↓] Go.wp_at_zero Go.wp_at_succ
set_option maxHeartbeats 1000000 in
theorem rcontent_any (k:Int) (d:ByteArray) (w:World):Calls Tryz.prog 105 #[.int .i64 k,.string d] w (Ret (.int .i64 (Qm.content k d)) w):=by
 by_cases h1:65536 < d.size
 ·have hv:Qm.content k d=4:=by unfold Qm.content;rw [if_pos h1]
  rw [hv]
  go_enter Tryz.func105,Tryz.ntmps105
  have hx:=Ext.refl w
  go_wp2_with fail
  (go_ret;refine Ret.mk ?_ ?_;(focus (rfl;done));(focus (exact EX;done)))
 by_cases hk:k=1
 ·have hv:Qm.content k d=if Qm.isText d=false then 3 else 0:=by unfold Qm.content;rw [if_neg h1];simp [hk]
  have hk':(k == 1)=true:=by simpa using hk
  have H:=Lib.hid (fun W=>ristext_any d W)
  rw [hv]
  clear hv
  generalize Qm.isText d=b at H ⊢
  clear hk
  cases b
  all_goals
   go_enter Tryz.func105,Tryz.ntmps105
   have hx:=Ext.refl w
   go_wp2_with fail
   refine (H.out _).mono ?_
   rintro e w1 ⟨rfl,hx0⟩
   clear hx
   have hx:=hx0
   go_wp2_with fail
   (go_ret;refine Ret.mk ?_ ?_;(focus (rfl;done));(focus (exact EX;done)))
 ·have hv:Qm.content k d=0:=by unfold Qm.content;rw [if_neg h1,if_neg (fun h=>hk h.1)]
  have hk':(k == 1)=false:=by simpa using hk
  rw [hv]
  go_enter Tryz.func105,Tryz.ntmps105
  have hx:=Ext.refl w
  go_wp2_with fail
  (go_ret;refine Ret.mk ?_ ?_;(focus (rfl;done));(focus (exact EX;done)))
set_option maxHeartbeats 1000000 in
theorem rwhole_any (p:Pv) (m:Int) (d:ByteArray) (w:World):Calls Tryz.prog 79 #[.int .i64 p.ty,.int .i64 m,.string d] w (Ret (.int .i64 (p.whole m d)) w):=by
 by_cases h1:p.ty < 1∨3 < p.ty
 ·have hv:p.whole m d=8:=by unfold Pv.whole;rw [if_pos h1]
  rw [hv]
  clear hv
  rcases h1 with h1 | h1
  all_goals
   go_enter Tryz.func79,Tryz.ntmps79
   have hx:=Ext.refl w
   go_wp2_with fail
   all_goals first | (go_ret;refine Ret.mk ?_ ?_;(focus (rfl;done));(focus (exact EX;done))) | (exfalso;omega)
 by_cases h2:m < 0∨511 < m
 ·have hv:p.whole m d=2:=by unfold Pv.whole;rw [if_neg h1,if_pos h2]
  have hm:(decide (0≤m) && decide (m≤511))=false:=by
   rw [Bool.and_eq_false_iff,decide_eq_false_iff_not,decide_eq_false_iff_not];omega
  rw [hv]
  clear hv
  have H:=Lib.hid hm
  go_enter Tryz.func79,Tryz.ntmps79
  have hx:=Ext.refl w
  go_wp2_with (go_at_call 83;refine (rmode_same m _).mono ?_;rintro e w1 ⟨rfl,rfl⟩;rw [H.out])
  all_goals first | (go_ret;refine Ret.mk ?_ ?_;(focus (rfl;done));(focus (exact EX;done))) | (exfalso;omega)
 ·have hv:p.whole m d=Qm.content p.ty d:=by unfold Pv.whole;rw [if_neg h1,if_neg h2]
  have hm:(decide (0≤m) && decide (m≤511))=true:=by
   rw [Bool.and_eq_true,decide_eq_true_eq,decide_eq_true_eq];omega
  rw [hv]
  clear hv
  have H:=Lib.hid hm
  have HC:=Lib.hid (fun W=>rcontent_any p.ty d W)
  generalize Qm.content p.ty d=v at HC ⊢
  go_enter Tryz.func79,Tryz.ntmps79
  have hx:=Ext.refl w
  go_wp2_with (first
   | (go_at_call 83;refine (rmode_same m _).mono ?_;rintro e w1 ⟨rfl,rfl⟩;rw [H.out])
   | (go_at_call 105;refine (HC.out _).mono ?_;rintro e w2 ⟨rfl,hx0⟩;replace hx:=hx0))
  all_goals first | (go_ret;refine Ret.mk ?_ ?_;(focus (rfl;done));(focus (exact EX;done))) | (exfalso;omega)
set_option maxHeartbeats 2000000 in
set_option maxRecDepth 100000 in
theorem rbytes_any (p:Pv) (h7:p.kind=7) (w:World):Calls Tryz.prog 82 #[p.v] w (Ret (.int .i64 p.edCheck) w):=by
 have hv:p.edCheck=if p.off < 0∨65536 < p.off then 2 else if 65536 < p.so.size∨65536 < p.sn.size then 4 else if Qm.eqB p.so p.sn=true then 1 else 0:=by unfold Pv.edCheck;rw [if_pos h7]
 rw [hv]
 clear hv h7
 go_enter Tryz.func82,Tryz.ntmps82
 have hx:=Ext.refl w
 go_wp2_with fail
 all_goals first
  | (go_ret;refine Ret.mk ?_ EX;first | rfl | (exfalso;omega) | (exfalso;simp_all [Qm.eqB];done))
  | (exfalso;omega)
  | (exfalso;simp_all [Qm.eqB];done)
set_option maxHeartbeats 4000000 in
set_option maxRecDepth 100000 in
theorem rsame_any (A B:Option Addr) (n m c d:Nat) (l1 l2:List ByteArray) (w:World) (h1:Lst w A n l1) (h2:Lst w B m l2) (hn:n≤1152921504606846976) (hm:m≤1152921504606846976):
 Calls Tryz.prog 91 #[.slice A n c,.slice B m d] w (Ret (.bool (decide (l1=l2))) w):=by
 have e1:=h1.1
 have e2:=h2.1
 by_cases hne:n=m
 rotate_left
 ·have hv:decide (l1=l2)=false:=decide_eq_false (fun h=>hne (by rw [← e1,← e2,h]))
  rw [hv]
  clear hv h1 h2 e1 e2
  go_enter Tryz.func91,Tryz.ntmps91
  have hx:=Ext.refl w
  go_wp2_with fail
  all_goals first | (go_ret;refine Ret.mk ?_ ?_;(focus (rfl;done));(focus (exact EX;done))) | (exfalso;omega)
 subst hne
 have H1:=Lib.hid h1
 have H2:=Lib.hid h2
 have E1:=Lib.hid e1
 have E2:=Lib.hid e2
 clear h1 h2 e1 e2
 go_enter Tryz.func91,Tryz.ntmps91
 have hx:=Ext.refl w
 go_wp2_with fail
 go_loopw [5] (fun i W=>(∃ (k:Nat),k≤n∧i=.int .i64 k∧l1.take k=l2.take k)∧Ext w W) (fun i _=>n - (intOf i).toNat)
 case atStart=>exact ⟨⟨0,Nat.zero_le _,rfl,rfl⟩,hx⟩
 case round=>
  clear hx
  obtain ⟨⟨k,hk,rfl,htk⟩,hx⟩:=hrel
  have HT:=Lib.hid htk
  clear htk
  by_cases hlt:k < n
  ·obtain ⟨b1,o1,rfl,l1',hcl1⟩:=H1.out.2 (by omega)
   obtain ⟨b2,o2,rfl,l2',hcl2⟩:=H2.out.2 (by omega)
   have hck1:=hcl1 k hlt
   have hck2:=hcl2 k hlt
   have g1:l1[k]?=some (l1.getD k ByteArray.empty):=by simp [List.getD,List.getElem?_eq_getElem (show k < l1.length by have :=E1.out;omega)]
   have g2:l2[k]?=some (l2.getD k ByteArray.empty):=by simp [List.getD,List.getElem?_eq_getElem (show k < l2.length by have :=E2.out;omega)]
   generalize l1.getD k ByteArray.empty=x at hck1 g1
   generalize l2.getD k ByteArray.empty=y at hck2 g2
   rw [← hx.cell (p:=⟨b1,o1+k,none⟩) l1'] at hck1
   rw [← hx.cell (p:=⟨b2,o2+k,none⟩) l2'] at hck2
   have G1:=Lib.hid g1
   have G2:=Lib.hid g2
   clear hcl1 hcl2 g1 g2
   by_cases hxy:x=y
   ·subst hxy
    go_wp2_with fail
    go_quiet (fail)
    go_wp2_with fail
    refine ⟨⟨⟨k+1,hlt,rfl,?_⟩,EX⟩,?_⟩
    ·rw [List.take_add_one,List.take_add_one,HT.out,G1.out,G2.out]
    ·simp [intOf];omega
   ·have hv:decide (l1=l2)=false:=decide_eq_false (fun h=>hxy (by have a:=G1.out;have b:=G2.out;rw [h,b] at a;exact (Option.some.inj a).symm))
    have hne2:(x.toList == y.toList)=false:=by
     cases e:(x.toList == y.toList)
     ·rfl
     ·exact (hxy (Qm.eqB_iff.1 (show Qm.eqB x y=true from e))).elim
    have hne3:(x.toList != y.toList)=true:=by rw [bne,hne2];rfl
    rw [hv]
    clear hv hxy
    go_wp2_with fail
    go_quiet (fail)
    go_wp2_with fail
    (go_ret;refine Ret.mk ?_ ?_;(focus (rfl;done));(focus (exact EX;done)))
  ·obtain rfl:k=n:=by omega
   have hv:decide (l1=l2)=true:=decide_eq_true (by have h:=HT.out;rwa [List.take_of_length_le (by have :=E1.out;omega),List.take_of_length_le (by have :=E2.out;omega)] at h)
   have HV:=Lib.hid hv
   clear hv
   go_wp2_with fail
   (go_ret;refine Ret.mk ?_ ?_;(focus (rw [HV.out];rfl;done));(focus (exact EX;done)))
set_option maxHeartbeats 4000000 in
set_option maxRecDepth 100000 in
theorem rhcheck_any (g:Nat) (t:TypeId) (p:Pv) (w:World) (hb:Blk w g t (harr p)) (b1:p.n1≤1152921504606846976) (b2:p.n2≤1152921504606846976):
 Calls Tryz.prog 108 #[.slice (some ⟨g,0,none⟩) 1 1] w (Ret (.int .i64 p.hunk.check) w):=by
 have w1':IntKind.i64.wrap ((p.n1:Int)+p.n2)=(p.n1:Int)+p.n2:=IntWalk.i64_in _ (by omega)
 have hv:p.hunk.check=if p.at_ < 0∨1099511627776 < p.at_ then 2 else if p.n1+p.n2=0 then 1 else 0:=rfl
 rw [hv]
 clear hv
 have hc0:=hb.cell
 have hl0:=hb.lt
 have HB:=Lib.hid hb
 by_cases h1:p.at_ < 0∨1099511627776 < p.at_
 ·rw [if_pos h1]
  rcases h1 with h1 | h1
  all_goals
   go_enter Tryz.func108,Tryz.ntmps108
   have hx:=Ext.refl w
   go_wp2_with fail
   refine wp_loop_rounds 2 ?_
   rw [rounds_succ]
   go_wp2_with fail
   all_goals first | (go_ret;refine Ret.mk ?_ ?_;(focus (rfl;done));(focus (exact EX;done))) | (exfalso;omega)
 rw [if_neg h1]
 have h2:0≤p.at_∧p.at_≤1099511627776:=by omega
 obtain ⟨h3,h4⟩:=h2
 by_cases h5:p.n1+p.n2=0
 ·rw [if_pos h5]
  have h6:((p.n1:Int)+p.n2 == 0)=true:=by rw [beq_iff_eq];omega
  go_enter Tryz.func108,Tryz.ntmps108
  have hx:=Ext.refl w
  go_wp2_with fail
  refine wp_loop_rounds 2 ?_
  rw [rounds_succ]
  go_wp2_with fail
  go_quiet (fail)
  go_wp2_with fail
  (go_ret;refine Ret.mk ?_ ?_;(focus (rfl;done));(focus (exact EX;done)))
 ·rw [if_neg h5]
  have h6:((p.n1:Int)+p.n2 == 0)=false:=by rw [beq_eq_false_iff_ne];omega
  have w2':IntKind.i64.wrap (p.at_+(p.n1:Int))=p.at_+p.n1:=IntWalk.i64_in _ (by omega)
  go_enter Tryz.func108,Tryz.ntmps108
  have hx:=Ext.refl w
  go_wp2_with fail
  refine wp_loop_rounds 2 ?_
  rw [rounds_succ]
  go_wp2_with fail
  go_quiet (fail)
  go_wp2_with fail
  go_quiet (fail)
  go_wp2_with fail
  rw [rounds_succ]
  go_wp2_with fail
  (go_ret;refine Ret.mk ?_ ?_;(focus (rfl;done));(focus (exact EX;done)))
set_option maxHeartbeats 4000000 in
set_option maxRecDepth 100000 in
theorem rlines_any (p:Pv) (o n:List ByteArray) (w:World) (h1:Sl w p.A1 p.n1 p.c1 o) (h2:Sl w p.A2 p.n2 p.c2 n) (b1:p.n1≤1152921504606846976) (b2:p.n2≤1152921504606846976) (s1:∀ x∈o,x.size≤4611686018427387904) (s2:∀ x∈n,x.size≤4611686018427387904):
 Calls Tryz.prog 81 #[.agg #[.int .i64 p.at_,.slice p.A1 p.n1 p.c1,.slice p.A2 p.n2 p.c2]] w (Ret (.int .i64 (p.linesCheck o n)) w):=by
 have H1:=Lib.hid h1
 have H2:=Lib.hid h2
 have HH:=Lib.hid (fun g t W hb=>rhcheck_any g t p W hb b1 b2)
 have HV1:=Lib.hid (fun W (hW:Ext w W)=>rvalidAll_same p.A1 p.n1 p.c1 o W (H1.out.ext hW).1 b1 s1)
 have HV2:=Lib.hid (fun W (hW:Ext w W)=>rvalidAll_same p.A2 p.n2 p.c2 n W (H2.out.ext hW).1 b2 s2)
 have HS:=Lib.hid (fun W (hW:Ext w W)=>rsame_any p.A1 p.A2 p.n1 p.n2 p.c1 p.c2 o n W (H1.out.ext hW).1 (H2.out.ext hW).1 b1 b2)
 have HM:Hid (p.linesCheck o n=if p.hunk.check≠0 then p.hunk.check else if 2000 < p.n1∨2000 < p.n2 then 4 else if (o.all Qm.validLine && n.all Qm.validLine)=false then 3 else if o=n then 1 else 0):=Lib.hid (by unfold Pv.linesCheck;rw [List.all_append])
 generalize p.linesCheck o n=R at HM ⊢
 generalize o.all Qm.validLine=v1 at HV1 HM
 generalize n.all Qm.validLine=v2 at HV2 HM
 by_cases hon:o=n
 all_goals
  first
   | rw [decide_eq_true hon] at HS
   | rw [decide_eq_false hon] at HS
  have HO:=Lib.hid hon
  clear hon
  clear h1 h2
  by_cases hc:p.hunk.check=0
  rotate_left
  ·have hc2:(p.hunk.check != 0)=true:=by simpa using hc
   have hv:R=p.hunk.check:=by rw [HM.out,if_pos hc]
   have HR:=Lib.hid hv
   clear hv hc
   go_enter Tryz.func81,Tryz.ntmps81
   have hx:=Ext.refl w
   go_wp2_with fail
   refine (HH.out _ _ _ (Blk.new' (by simp))).mono ?_
   rintro e w1 ⟨rfl,hx0⟩
   have hx1:=Ext.trans (a:=w) EX hx0
   clear hx hx0
   have hx:=hx1
   clear hx1
   go_wp2_with fail
   (go_ret;refine Ret.mk ?_ ?_;(focus (rw [HR.out];rfl;done));(focus (exact EX;done)))
  have HC:=Lib.hid hc
  clear hc
  go_enter Tryz.func81,Tryz.ntmps81
  have hx:=Ext.refl w
  go_wp2_with fail
  refine (HH.out _ _ _ (Blk.new' (by simp))).mono ?_
  rintro e w1 ⟨rfl,hx0⟩
  have hb0:Blk w1 w.heap.size 26 (harr p):=Blk.ext hx0 (Blk.alloc (Blk.new' (by simp)) _)
  have hx1:=Ext.trans (a:=w) EX hx0
  clear hx hx0
  have hx:=hx1
  clear hx1
  rw [HC.out]
  have hc0:=hb0.cell
  have hl0:=hb0.lt
  by_cases hbig:2000 < p.n1∨2000 < p.n2
  ·have hv:R=4:=by rw [HM.out,if_neg (by rw [HC.out];simp),if_pos hbig]
   have HR:=Lib.hid hv
   clear hv
   rcases hbig with hbig | hbig
   all_goals
    go_wp2_with fail
    all_goals first | (go_ret;refine Ret.mk ?_ ?_;(focus (rw [HR.out];rfl;done));(focus (exact EX;done))) | (exfalso;omega)
  have hs1:p.n1≤2000∧p.n2≤2000:=by omega
  obtain ⟨hs1,hs2⟩:=hs1
  go_wp2_with fail
  refine (HV1.out _ hx).mono ?_
  rintro e w2 ⟨rfl,rfl⟩
  cases v1
  ·have hv:R=3:=by rw [HM.out,if_neg (by rw [HC.out];simp),if_neg (by omega),if_pos (by simp)]
   have HR:=Lib.hid hv
   clear hv
   go_wp2_with fail
   (go_ret;refine Ret.mk ?_ ?_;(focus (rw [HR.out];rfl;done));(focus (exact EX;done)))
  go_wp2_with fail
  refine (HV2.out _ hx).mono ?_
  rintro e w2 ⟨rfl,rfl⟩
  cases v2
  ·have hv:R=3:=by rw [HM.out,if_neg (by rw [HC.out];simp),if_neg (by omega),if_pos (by simp)]
   have HR:=Lib.hid hv
   clear hv
   go_wp2_with fail
   (go_ret;refine Ret.mk ?_ ?_;(focus (rw [HR.out];rfl;done));(focus (exact EX;done)))
  have hv:R=if o=n then 1 else 0:=by rw [HM.out,if_neg (by rw [HC.out];simp),if_neg (by omega),if_neg (by simp)]
  first
   | rw [if_pos HO.out] at hv
   | rw [if_neg HO.out] at hv
  have HR:=Lib.hid hv
  clear hv
  go_wp2_with fail
  refine (HS.out _ hx).mono ?_
  rintro e w3 ⟨rfl,hx0⟩
  have hx1:=hx.trans hx0
  clear hx hx0
  have hx:=hx1
  clear hx1
  go_wp2_with fail
  (go_ret;refine Ret.mk ?_ ?_;(focus (rw [HR.out];rfl;done));(focus (exact EX;done)))
end Go.Proofs.YtfmgnaigcibcaaaGreatDoor
namespace Go.Proofs.YtfmgnaigcibcaaaGreatDoor
open Go.RowKit
attribute [local go_sem ↓] Go.wp_at_zero Go.wp_at_succ
theorem strip_n (p:Pv) (h1:p.n1≤1152921504606846976) (h2:p.n2≤1152921504606846976):p.strip.n1≤1152921504606846976∧p.strip.n2≤1152921504606846976:=by
 unfold Pv.strip
 repeat' split
 all_goals first | exact ⟨h1,h2⟩ | exact ⟨Nat.zero_le _,Nat.zero_le _⟩
set_option maxHeartbeats 16000000 in
set_option maxRecDepth 100000 in
theorem rcheck_any (p:Pv) (o n:List ByteArray) (w:World) (h1:Sl w p.A1 p.n1 p.c1 o) (h2:Sl w p.A2 p.n2 p.c2 n) (b1:p.n1≤1152921504606846976) (b2:p.n2≤1152921504606846976) (b3:p.path.size≤4611686018427387904) (b4:p.to_.size≤4611686018427387904) (s1:∀ x∈o,x.size≤4611686018427387904) (s2:∀ x∈n,x.size≤4611686018427387904):
 Calls Tryz.prog 42 #[p.v] w (Ret (.int .i64 (p.check o n)) w):=by
 have HL:=Lib.hid (fun W (hW:Ext w W)=>rlines_any p o n W (h1.ext hW) (h2.ext hW) b1 b2 s1 s2)
 have HE:=Lib.hid (fun W=>rempty_any { p.strip with path:=⟨#[]⟩ } W (strip_n p b1 b2).1 (strip_n p b1 b2).2 rfl)
 have HW:=Lib.hid (fun W=>rwithout_any p W)
 have HP1:=Lib.hid (fun W=>rpath_same p.path W)
 have HP2:=Lib.hid (fun W=>rpath_same p.to_ W)
 have HB1:=Lib.hid (fun W=>rbelow_same p.to_ p.path W b4)
 have HB2:=Lib.hid (fun W=>rbelow_same p.path p.to_ W b3)
 have ht:Pv.bare { p.strip with path:=⟨#[]⟩ }=p.tidy:=rfl
 rw [ht] at HE
 clear ht h1 h2 s1 s2
 have HM:Hid (p.check o n=if p.known=false then 8 else if p.tidy=false then 1 else if (Qm.isPath p.path && (!(p.kind == 5) || Qm.isPath p.to_))=false then 5 else p.actCheck o n):=Lib.hid rfl
 generalize p.check o n=R at HM ⊢
 generalize p.tidy=T at HE HM
 generalize Pv.v { p.strip with path:=⟨#[]⟩ }=V at HE HW
 generalize Qm.isPath p.path=P1 at HP1 HM
 generalize Qm.isPath p.to_=P2 at HP2 HM
 by_cases hk:p.kind < 1∨8 < p.kind
 ·have hv:R=8:=by
   rw [HM.out,if_pos]
   unfold Pv.known
   rw [Bool.and_eq_false_iff,decide_eq_false_iff_not,decide_eq_false_iff_not]
   omega
  have HR:=Lib.hid hv
  clear hv
  rcases hk with hk | hk
  all_goals
   go_enter Tryz.func42,Tryz.ntmps42
   have hx:=Ext.refl w
   go_wp2_with fail
   all_goals first | (go_ret;refine Ret.mk ?_ ?_;(focus (rw [HR.out];rfl;done));(focus (exact EX;done))) | (exfalso;omega)
 have hk1:1≤p.kind∧p.kind≤8:=by omega
 have hkn:p.known=true:=by unfold Pv.known;rw [Bool.and_eq_true,decide_eq_true_eq,decide_eq_true_eq];exact hk1
 have HM:Hid (R=if T=false then 1 else if (P1 && (!(p.kind == 5) || P2))=false then 5 else p.actCheck o n):=Lib.hid (by rw [HM.out,if_neg (by rw [hkn];simp)])
 clear hk hkn
 obtain ⟨hk1,hk8⟩:=hk1
 cases T
 ·
  have hv:R=1:=by rw [HM.out,if_pos rfl]
  have HR:=Lib.hid hv
  clear hv
  go_enter Tryz.func42,Tryz.ntmps42
  have hx:=Ext.refl w
  go_wp2_with fail
  all_goals (try (exfalso;omega))
  refine (HW.out _).mono ?_
  rintro e w1 ⟨rfl,hx0⟩
  have hb0:Blk w1 w.heap.size 28 (parr p):=Blk.ext hx0 (Blk.new' (by simp))
  have hx1:=Ext.trans (a:=w) EX hx0
  clear hx hx0
  have hx:=hx1
  clear hx1
  have hc0:=hb0.cell
  have hl0:=hb0.lt
  go_wp2_with fail
  refine (HE.out _).mono ?_
  rintro e w2 ⟨rfl,hx0⟩
  clear hc0 hl0
  replace hb0:=hb0.ext hx0
  have hx1:=hx.trans hx0
  clear hx hx0
  have hx:=hx1
  clear hx1
  have hc0:=hb0.cell
  have hl0:=hb0.lt
  go_wp2_with fail
  (go_ret;refine Ret.mk ?_ ?_;(focus (rw [HR.out];rfl;done));(focus (exact EX;done)))
 go_enter Tryz.func42,Tryz.ntmps42
 have hx:=Ext.refl w
 go_wp2_with fail
 all_goals (try (exfalso;omega))
 refine (HW.out _).mono ?_
 rintro e w1 ⟨rfl,hx0⟩
 have hb0:Blk w1 w.heap.size 28 (parr p):=Blk.ext hx0 (Blk.new' (by simp))
 have hx1:=Ext.trans (a:=w) EX hx0
 clear hx hx0
 have hx:=hx1
 clear hx1
 have hc0:=hb0.cell
 have hl0:=hb0.lt
 go_wp2_with fail
 refine (HE.out _).mono ?_
 rintro e w2 ⟨rfl,hx0⟩
 clear hc0 hl0
 replace hb0:=hb0.ext hx0
 have hx1:=hx.trans hx0
 clear hx hx0
 have hx:=hx1
 clear hx1
 have hc0:=hb0.cell
 have hl0:=hb0.lt
 go_wp2_with fail
 refine (HP1.out _).mono ?_
 rintro e w3 ⟨rfl,rfl⟩
 cases P1
 ·
  have hv:R=5:=by rw [HM.out,if_neg (by simp),if_pos (by simp)]
  have HR:=Lib.hid hv
  clear hv
  go_wp2_with fail
  (go_ret;refine Ret.mk ?_ ?_;(focus (rw [HR.out];rfl;done));(focus (exact EX;done)))
 by_cases k5:p.kind=5
 ·have k5':(p.kind == 5)=true:=by simpa using k5
  have k1':(p.kind == 1)=false:=by rw [k5];rfl
  have k2':(p.kind == 2)=false:=by rw [k5];rfl
  go_wp2_with fail
  refine (HP2.out _).mono ?_
  rintro e w4 ⟨rfl,rfl⟩
  cases P2
  ·
   have hv:R=5:=by rw [HM.out,if_neg (by simp),if_pos (by rw [k5'];simp)]
   have HR:=Lib.hid hv
   clear hv
   go_wp2_with fail
   (go_ret;refine Ret.mk ?_ ?_;(focus (rw [HR.out];rfl;done));(focus (exact EX;done)))
  have hv:R=p.movCheck:=by rw [HM.out,if_neg (by simp),if_neg (by simp)];unfold Pv.actCheck;rw [if_neg (by omega),if_neg (by omega),if_pos k5]
  unfold Pv.movCheck at hv
  have HR:=Lib.hid hv
  clear hv k5
  generalize Qm.below p.to_ p.path=B1 at HB1 HR
  generalize Qm.below p.path p.to_=B2 at HB2 HR
  cases he:Qm.eqB p.to_ p.path
  ·have he':(p.to_.toList == p.path.toList)=false:=he
   have HQ:=Lib.hid he
   clear he
   go_wp2_with fail
   refine (HB1.out _).mono ?_
   rintro e w5 ⟨rfl,rfl⟩
   cases B1
   ·go_wp2_with fail
    refine (HB2.out _).mono ?_
    rintro e w6 ⟨rfl,rfl⟩
    cases B2
    all_goals
     go_wp2_with fail
     (go_ret;refine Ret.mk ?_ ?_;(focus (rw [HR.out,HQ.out];simp;done));(focus (exact EX;done)))
   ·
    go_wp2_with fail
    (go_ret;refine Ret.mk ?_ ?_;(focus (rw [HR.out,HQ.out];simp;done));(focus (exact EX;done)))
  ·have he':(p.to_.toList == p.path.toList)=true:=he
   have HQ:=Lib.hid he
   clear he
   go_wp2_with fail
   (go_ret;refine Ret.mk ?_ ?_;(focus (rw [HR.out,HQ.out];simp;done));(focus (exact EX;done)))
 have k5':(p.kind == 5)=false:=by simpa using k5
 have hv:R=p.actCheck o n:=by rw [HM.out,if_neg (by simp),if_neg (by rw [k5'];simp)]
 have HA:=Lib.hid hv
 clear hv HM HP2 HB1 HB2
 by_cases k1:p.kind=1
 ·
  have k1':(p.kind == 1)=true:=by rw [k1];rfl
  have k2':(p.kind == 2)=false:=by rw [k1];rfl
  have k6':(p.kind == 6)=false:=by rw [k1];rfl
  have k7':(p.kind == 7)=false:=by rw [k1];rfl
  have k8':(p.kind == 8)=false:=by rw [k1];rfl
  have hv:R=p.whole p.nm p.sn:=by rw [HA.out];unfold Pv.actCheck Pv.addCheck;rw [if_pos (.inl k1),if_neg (by omega)]
  have HR:=Lib.hid hv
  clear hv k1 HA
  go_wp2_with fail
  refine (rwhole_any p p.nm p.sn _).mono ?_
  rintro e w4 ⟨rfl,hx0⟩
  have hx1:=hx.trans hx0
  clear hx hx0
  have hx:=hx1
  clear hx1
  go_wp2_with fail
  (go_ret;refine Ret.mk ?_ ?_;(focus (rw [HR.out];rfl;done));(focus (exact EX;done)))
 by_cases k2:p.kind=2
 ·
  have k1':(p.kind == 1)=false:=by rw [k2];rfl
  have k2':(p.kind == 2)=true:=by rw [k2];rfl
  have k6':(p.kind == 6)=false:=by rw [k2];rfl
  have k7':(p.kind == 7)=false:=by rw [k2];rfl
  have k8':(p.kind == 8)=false:=by rw [k2];rfl
  have hv:R=p.whole p.om p.so:=by rw [HA.out];unfold Pv.actCheck Pv.remCheck;rw [if_neg (by omega),if_pos (.inl k2),if_neg (by omega)]
  have HR:=Lib.hid hv
  clear hv k2 HA
  go_wp2_with fail
  refine (rwhole_any p p.om p.so _).mono ?_
  rintro e w4 ⟨rfl,hx0⟩
  have hx1:=hx.trans hx0
  clear hx hx0
  have hx:=hx1
  clear hx1
  go_wp2_with fail
  (go_ret;refine Ret.mk ?_ ?_;(focus (rw [HR.out];rfl;done));(focus (exact EX;done)))
 by_cases k3:p.kind=3
 ·
  have k1':(p.kind == 1)=false:=by rw [k3];rfl
  have k2':(p.kind == 2)=false:=by rw [k3];rfl
  have k6':(p.kind == 6)=false:=by rw [k3];rfl
  have k7':(p.kind == 7)=false:=by rw [k3];rfl
  have k8':(p.kind == 8)=false:=by rw [k3];rfl
  have hv:R=0:=by rw [HA.out];unfold Pv.actCheck Pv.addCheck;rw [if_pos (.inr k3),if_pos k3]
  have HR:=Lib.hid hv
  clear hv k3 HA
  go_wp2_with fail
  (go_ret;refine Ret.mk ?_ ?_;(focus (rw [HR.out];rfl;done));(focus (exact EX;done)))
 by_cases k4:p.kind=4
 ·
  have k1':(p.kind == 1)=false:=by rw [k4];rfl
  have k2':(p.kind == 2)=false:=by rw [k4];rfl
  have k6':(p.kind == 6)=false:=by rw [k4];rfl
  have k7':(p.kind == 7)=false:=by rw [k4];rfl
  have k8':(p.kind == 8)=false:=by rw [k4];rfl
  have hv:R=0:=by rw [HA.out];unfold Pv.actCheck Pv.remCheck;rw [if_neg (by omega),if_pos (.inr k4),if_pos k4]
  have HR:=Lib.hid hv
  clear hv k4 HA
  go_wp2_with fail
  (go_ret;refine Ret.mk ?_ ?_;(focus (rw [HR.out];rfl;done));(focus (exact EX;done)))
 have hv:R=p.edCheck6 o n:=by rw [HA.out];unfold Pv.actCheck;rw [if_neg (by omega),if_neg (by omega),if_neg k5]
 have HA:=Lib.hid hv
 clear hv
 by_cases k6:p.kind=6
 ·
  have k1':(p.kind == 1)=false:=by rw [k6];rfl
  have k2':(p.kind == 2)=false:=by rw [k6];rfl
  have k6':(p.kind == 6)=true:=by rw [k6];rfl
  have k7':(p.kind == 7)=false:=by rw [k6];rfl
  have k8':(p.kind == 8)=false:=by rw [k6];rfl
  have hv:R=p.linesCheck o n:=by rw [HA.out];unfold Pv.edCheck6;rw [if_pos k6]
  have HR:=Lib.hid hv
  clear hv k6 HA
  go_wp2_with fail
  refine (HL.out _ hx).mono ?_
  rintro e w4 ⟨rfl,hx0⟩
  have hx1:=hx.trans hx0
  clear hx hx0
  have hx:=hx1
  clear hx1
  go_wp2_with fail
  (go_ret;refine Ret.mk ?_ ?_;(focus (rw [HR.out];rfl;done));(focus (exact EX;done)))
 have hv:R=p.edCheck:=by rw [HA.out];unfold Pv.edCheck6;rw [if_neg k6]
 have HA:=Lib.hid hv
 clear hv
 by_cases k7:p.kind=7
 ·
  have k1':(p.kind == 1)=false:=by rw [k7];rfl
  have k2':(p.kind == 2)=false:=by rw [k7];rfl
  have k6':(p.kind == 6)=false:=by rw [k7];rfl
  have k7':(p.kind == 7)=true:=by rw [k7];rfl
  have k8':(p.kind == 8)=false:=by rw [k7];rfl
  have hv:R=p.edCheck:=HA.out
  have HR:=Lib.hid hv
  have HK:=Lib.hid k7
  clear hv k7 HA
  go_wp2_with fail
  refine (rbytes_any p HK.out _).mono ?_
  rintro e w4 ⟨rfl,hx0⟩
  have hx1:=hx.trans hx0
  clear hx hx0
  have hx:=hx1
  clear hx1
  go_wp2_with fail
  (go_ret;refine Ret.mk ?_ ?_;(focus (rw [HR.out];rfl;done));(focus (exact EX;done)))
 have k8:p.kind=8:=by omega
 have k1':(p.kind == 1)=false:=by rw [k8];rfl
 have k2':(p.kind == 2)=false:=by rw [k8];rfl
 have k6':(p.kind == 6)=false:=by rw [k8];rfl
 have k7':(p.kind == 7)=false:=by rw [k8];rfl
 have k8':(p.kind == 8)=true:=by rw [k8];rfl
 have hv:R=if p.om < 0∨511 < p.om∨p.nm < 0∨511 < p.nm then 2 else if p.om=p.nm then 1 else 0:=by rw [HA.out];unfold Pv.edCheck;rw [if_neg k7]
 have HR:=Lib.hid hv
 clear hv k8 HA
 have HM1:=Lib.hid (fun W=>rmode_same p.om W)
 have HM2:=Lib.hid (fun W=>rmode_same p.nm W)
 cases q1:(decide (0≤p.om) && decide (p.om≤511))
 ·have hq:¬(0≤p.om∧p.om≤511):=by simpa using q1
  have hv:R=2:=by rw [HR.out,if_pos (by omega)]
  have HR2:=Lib.hid hv
  clear hv
  rw [q1] at HM1
  clear q1 hq HR
  go_wp2_with fail
  refine (HM1.out _).mono ?_
  rintro e w4 ⟨rfl,rfl⟩
  go_wp2_with fail
  (go_ret;refine Ret.mk ?_ ?_;(focus (rw [HR2.out];rfl;done));(focus (exact EX;done)))
 have hq1:0≤p.om∧p.om≤511:=by simpa using q1
 rw [q1] at HM1
 cases q2:(decide (0≤p.nm) && decide (p.nm≤511))
 ·have hq:¬(0≤p.nm∧p.nm≤511):=by simpa using q2
  have hv:R=2:=by rw [HR.out,if_pos (by omega)]
  have HR2:=Lib.hid hv
  clear hv
  rw [q2] at HM2
  clear q1 q2 hq hq1 HR
  go_wp2_with fail
  refine (HM1.out _).mono ?_
  rintro e w4 ⟨rfl,rfl⟩
  go_wp2_with fail
  refine (HM2.out _).mono ?_
  rintro e w4 ⟨rfl,rfl⟩
  go_wp2_with fail
  (go_ret;refine Ret.mk ?_ ?_;(focus (rw [HR2.out];rfl;done));(focus (exact EX;done)))
 have hq2:0≤p.nm∧p.nm≤511:=by simpa using q2
 rw [q2] at HM2
 have hv:R=if p.om=p.nm then 1 else 0:=by rw [HR.out,if_neg (by omega)]
 have HR2:=Lib.hid hv
 clear hv
 clear q1 q2 hq1 hq2 HR
 go_wp2_with fail
 refine (HM1.out _).mono ?_
 rintro e w4 ⟨rfl,rfl⟩
 go_wp2_with fail
 refine (HM2.out _).mono ?_
 rintro e w4 ⟨rfl,rfl⟩
 by_cases e:p.om=p.nm
 ·have e':(p.om == p.nm)=true:=by simpa using e
  have e2:=Lib.hid e
  clear e
  go_wp2_with fail
  (go_ret;refine Ret.mk ?_ ?_;(focus (rw [HR2.out,if_pos e2.out];rfl;done));(focus (exact EX;done)))
 ·have e':(p.om == p.nm)=false:=by simpa using e
  have e2:=Lib.hid e
  clear e
  go_wp2_with fail
  (go_ret;refine Ret.mk ?_ ?_;(focus (rw [HR2.out,if_neg e2.out];rfl;done));(focus (exact EX;done)))
end Go.Proofs.YtfmgnaigcibcaaaGreatDoor
namespace Go.Proofs.YtfmgnaigcibcaaaGreatDoor
open Go.RowKit
attribute [local go_sem ↓] Go.wp_at_zero Go.wp_at_succ
end Go.Proofs.YtfmgnaigcibcaaaGreatDoor
