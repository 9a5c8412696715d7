import Derived.Test.YtfmgnaigcibcaaaGreatDoorTJc
import Derived.Test.YtfmgnaigcibcaaaGreatDoorTYj
import Derived.Test.YtfmgnaigcibcaaaGreatDoorTJd
set_option linter.unusedSimpArgs false
set_option linter.unusedVariables false
namespace Go.Proofs.YtfmgnaigcibcaaaGreatDoor
open Go Go.RowKit
set_option maxHeartbeats 4000000 in
set_option maxRecDepth 100000 in
theorem rparts2_any (s:ByteArray) (w:World) (hs:s.size≤65536):
 Calls Tryz.prog 111 #[.string s] w (fun e w'=>∃ A c,e=.returned (.slice A (Qm.linesOf s).length c)∧(Lst w' A (Qm.linesOf s).length (Qm.linesOf s)∧RowA A (Qm.linesOf s).length c)∧Ext w w'):=by
 go_enter Tryz.func111,Tryz.ntmps111
 have hx:=Ext.refl w
 go_wp2_with fail
 go_loopw [3,4,5] (fun o f i W=>∃ (pre:List ByteArray) (a k:Nat),f=.int .i64 a∧i=.int .i64 k∧W.ownsRow w.heap.size 9 1 o pre.length (pre.map Value.string)∧a≤k∧k≤s.size∧pre.length≤k∧Qm.linesOf s=pre ++ Qm.linesOf (s.extract a s.size)∧(∀ j,a≤j→j < k→s.data.toList[j]?≠some 10)∧Ext w W) (fun o f i _=>s.size - (intOf i).toNat)
 case atStart=>
  refine ⟨[],0,0,rfl,rfl,own_empty w,Nat.le_refl _,Nat.zero_le _,Nat.le_refl _,by rw [ByteArray.extract_zero_size];rfl,fun j h1 h2=>by omega,EX⟩
 case round=>
  clear hx
  obtain ⟨pre,a,k,rfl,rfl,hown,hak,hks,hpl,hlines,hno,hx⟩:=hrel
  have Hno:=Lib.hid hno
  have HL:=Lib.hid hlines
  have Hown:=Lib.hid hown
  clear hno hlines hown
  by_cases hlt:k < s.size
  ·by_cases h10:s[k].toNat=10
   ·have hz:=hx.size_le
    have hz2:w.heap.size≤(wr.alloc (.cells #[.string (s.extract a k)] 9)).heap.size:=by simp;omega
    go_wp2_with (at_builtin;refine wpList_append_sl rfl _ _ rfl w.heap.size _ pre.length pre rfl (Hown.out.alloc _) hz2 (some ⟨wr.heap.size,0,none⟩) 1 1 [s.extract a k] (sl_one wr _) rfl (by omega) (by omega) ?_;intro v2 w2 hown2 hg2)
    have hx2:=grownBy_ext hg2 w (hx.alloc _) (fun g hg=>(Hown.out.lt g hg).1)
    refine ⟨⟨pre ++ [s.extract a k],k+1,k+1,rfl,rfl,?_,Nat.le_refl _,hlt,?_,?_,fun j h1 h2=>by omega,hx2⟩,?_⟩
    ·rw [List.length_append];exact hown2
    ·rw [List.length_append];simp;omega
    ·rw [HL.out,lines_hit hak hlt h10 Hno.out,List.append_assoc];rfl
    ·simp [intOf];omega
   ·go_wp2_with fail
    refine ⟨⟨pre,a,k+1,rfl,rfl,Hown.out,by omega,hlt,by omega,HL.out,fun j h1 h2=>?_,hx⟩,?_⟩
    ·rcases Nat.lt_or_ge j k with h | h
     ·exact Hno.out j h1 h
     ·obtain rfl:j=k:=by omega
      rw [byte_at hlt]
      intro e
      exact h10 (by rw [Option.some.inj e];rfl)
    ·simp [intOf];omega
  ·obtain rfl:k=s.size:=by omega
   have hl:Qm.linesOf s=pre:=by rw [HL.out,lines_miss Hno.out,List.append_nil]
   go_wp2_with fail
   obtain ⟨A,c,rfl,hsl⟩:=lst_of_own2 Hown.out
   go_ret
   exact ⟨A,c,by rw [hl];rfl,by rw [hl];exact hsl,hx⟩
set_option maxHeartbeats 4000000 in
set_option maxRecDepth 100000 in
theorem rsplit_text (s:ByteArray) (w:World) (h:Qm.splitErr s=0):
 Calls Tryz.prog 85 #[.string s] w fun e w'=>∃ A n c,e=.returned (.tuple #[.slice A n c,.int .i64 0])∧(Lst w' A n (Qm.linesOf s)∧RowA A n c)∧Ext w w':=by
 obtain ⟨h1,h2,h3,h4,h5⟩:=Txt.split_zero.1 h
 have hlong:Qm.longLine (Qm.linesOf s)=false:=by
  cases e:Qm.longLine (Qm.linesOf s)
  ·rfl
  ·obtain ⟨x,hx,hz⟩:=Txt.long_iff.1 e
   have:=h5 x hx
   omega
 have hi:Lib.indexByte s.data.toList 0 < 0:=Txt.idxN.2 h2
 have hc:cleanB s.data.toList 0 0=true:=by rw [clean_zero];exact decide_eq_true hi
 have Hc:=Lib.hid hc
 have h1':(s.size:Int)≤65536:=by omega
 have Hp:=Lib.hid (fun W=>rparts2_any s W (by omega))
 have hlen:=Qm.linesOf_length s
 have H5:=Lib.hid h5
 have he:=Txt.ended_iff.2 h3
 generalize Qm.linesOf s=l at *
 generalize hn:l.length=n at *
 have Hn:=Lib.hid hn
 clear hi hc hn h h2 h3 h5 hlong
 have hS:0 < s.size→IntKind.i64.wrap ((s.size:Int) - 1)=((s.size - 1:Nat):Int):=fun h=>by rw [IntWalk.i64_in _ (by omega)];omega
 rcases Nat.eq_zero_or_pos s.size with h0 | h0
 ·have hE:s.toList=[]:=by rw [ByteArray.toList_eq];exact List.length_eq_zero_iff.1 h0
  clear hS he
  go_enter Tryz.func85,Tryz.ntmps85
  have hx:=Ext.refl w
  go_wp2_with fail
  refine (rclean_same s 0 0 _ (by omega)).mono ?_
  rintro e w1 ⟨rfl,rfl⟩
  rw [Hc.out]
  go_wp2_with fail
  refine (Hp.out _).mono ?_
  rintro e w2 ⟨A,c,rfl,hsl,hx0⟩
  have HX2:=Lib.hid (Ext.trans (a:=w1) EX hx0)
  clear hx hx0
  have Hsl:=Lib.hid hsl
  clear hsl Hp
  go_wp2_with fail
  go_loop [5] (fun i=>∃ k:Nat,k≤n∧i=.int .i64 k) (fun i=>n - (intOf i).toNat)
  case atStart=>exact ⟨0,Nat.zero_le _,rfl⟩
  case round=>
   obtain ⟨k,hk,rfl⟩:=hrel
   have hkn:k=n:=by omega
   go_wp2_with fail
   go_ret2
   exact ⟨A,_,c,rfl,Hsl.out,HX2.out⟩
 ·have h10:((s[s.size - 1].toNat:Int) == 10)=true:=by
   rw [← suffix_last h0]
   rcases he with e | e
   ·have:=Qm.eqB_iff.1 e
    rw [this] at h0
    exact absurd h0 (by decide)
   ·exact e
  have h10':((s[s.size - 1].toNat:Int) != 10)=false:=by rw [bne,h10];rfl
  have hE:s.toList.isEmpty=false:=by
   cases e:s.toList.isEmpty
   ·rfl
   ·have:=Qm.size_zero e;omega
  have hS:=hS h0
  clear he
  go_enter Tryz.func85,Tryz.ntmps85
  have hx:=Ext.refl w
  go_wp2_with fail
  refine (rclean_same s 0 0 _ (by omega)).mono ?_
  rintro e w1 ⟨rfl,rfl⟩
  rw [Hc.out]
  go_wp2_with fail
  refine (Hp.out _).mono ?_
  rintro e w2 ⟨A,c,rfl,hsl,hx0⟩
  have HX2:=Lib.hid (Ext.trans (a:=w1) EX hx0)
  clear hx hx0
  have Hsl:=Lib.hid hsl
  clear hsl Hp
  go_wp2_with fail
  go_loop [5] (fun i=>∃ k:Nat,k≤n∧i=.int .i64 k) (fun i=>n - (intOf i).toNat)
  case atStart=>exact ⟨0,Nat.zero_le _,rfl⟩
  case round=>
   obtain ⟨k,hk,rfl⟩:=hrel
   by_cases hlt:k < n
   ·obtain ⟨bb,oo,x,rfl,_,hgx,hck⟩:=lst_at Hsl.out.1 hlt
    have hzx:=H5.out x (List.mem_of_getElem? hgx)
    clear hgx
    go_wp2_with fail
    exact ⟨⟨k+1,hlt,rfl⟩,by simp [intOf];omega⟩
   ·have hkn:k=n:=by omega
    go_wp2_with fail
    go_ret2
    exact ⟨A,_,c,rfl,Hsl.out,HX2.out⟩
set_option maxHeartbeats 8000000 in
set_option maxRecDepth 100000 in
theorem rjoin_any (A:Option Addr) (n c:Nat) (l:List ByteArray) (w:World) (h:Lst w A n l) (hb:n≤4194304) (hs:∀ x∈l,x.size≤4611686018427387904):
 Calls Tryz.prog 87 #[.slice A n c] w (Ret (.tuple #[.string (if Qm.joinErr l=0 then Qm.joinOf l else ⟨#[]⟩),.int .i64 (Qm.joinErr l)]) w):=by
 by_cases h1:2000 < n
 ·have hv:Qm.joinErr l=4:=by unfold Qm.joinErr;rw [if_pos (by rw [h.1];exact h1)]
  rw [hv,if_neg (by decide)]
  clear h hv
  go_enter Tryz.func87,Tryz.ntmps87
  have hx:=Ext.refl w
  go_wp2
  (go_ret2;refine Ret.mk ?_ ?_;(focus (rfl;done));(focus (exact EX;done)))
 ·have HV:Hid (Qm.joinErr l=if Qm.joinScan l≠0 then Qm.joinScan l else if 65536 < (Qm.joinL l).length then 4 else 0):=Lib.hid (by unfold Qm.joinErr;rw [if_neg (by rw [h.1];exact h1)])
  have HL:=Lib.hid h
  have HN:Hid (l.length=n):=Lib.hid h.1
  have HZ:=Lib.hid hs
  clear h hs
  generalize Qm.joinErr l=E at HV ⊢
  generalize hr:(if E=0 then Qm.joinOf l else ⟨#[]⟩)=R
  have HR:=Lib.hid hr
  clear hr
  go_enter Tryz.func87,Tryz.ntmps87
  have hx:=Ext.refl w
  go_wp2
  go_loop [4,5] (fun sz i=>∃ (k m:Nat),k≤n∧i=.int .i64 k∧sz=.int .i64 m∧m≤k * 1001∧Hid (m=(Qm.joinL (l.take k)).length)∧Hid (Qm.joinScan l=Qm.joinScan (l.drop k))) (fun sz i=>n - (intOf i).toNat)
  case atStart=>exact ⟨0,0,Nat.zero_le _,rfl,rfl,Nat.le_refl _,Lib.hid rfl,Lib.hid rfl⟩
  case round=>
   obtain ⟨k,m,hk,rfl,rfl,hm,HM,HS⟩:=hrel
   by_cases hlt:k < n
   ·obtain ⟨b,o,x,rfl,hbl,hg,c0⟩:=lst_at HL.out hlt
    have hkl:=(List.getElem?_eq_some_iff.1 hg).1
    have hzx:=HZ.out x (List.mem_of_getElem? hg)
    have HSc:Hid (Qm.joinScan l=if 1000 < x.size then 4 else if Qm.validLine x=false then 3 else Qm.joinScan (l.drop (k+1))):=Lib.hid (by rw [HS.out,List.drop_eq_getElem_cons hkl,(List.getElem?_eq_some_iff.1 hg).2];rfl)
    have HT:Hid (m+x.size+1=(Qm.joinL (l.take (k+1))).length):=Lib.hid (by
     have hx:x.data.toList.length=x.size:=rfl
     rw [(join_room hg).1,List.length_append,List.length_append,hx,HM.out]
     simp
     omega)
    clear hg hkl
    by_cases hz:1000 < x.size
    ·have HE:Hid (E=4):=Lib.hid (by rw [HV.out,HSc.out,if_pos hz];rfl)
     obtain rfl:R=⟨#[]⟩:=by rw [← HR.out,if_neg (by rw [HE.out];decide)]
     obtain rfl:=HE.out
     go_wp2
     (go_ret2;refine Ret.mk ?_ ?_;(focus (rfl;done));(focus (exact EX;done)))
    ·have hvc:Qm.validLine x=cleanB x.data.toList 10 0:=by rw [validLine_clean,decide_eq_true (by omega),Bool.true_and]
     cases hv:cleanB x.data.toList 10 0
     ·have hv2:Qm.validLine x=false:=by rw [hvc,hv]
      have HE:Hid (E=3):=Lib.hid (by rw [HV.out,HSc.out,if_neg hz,if_pos hv2];rfl)
      clear hv2
      obtain rfl:R=⟨#[]⟩:=by rw [← HR.out,if_neg (by rw [HE.out];decide)]
      obtain rfl:=HE.out
      clear hvc
      go_wp2_with (go_at_call 110;refine (rclean_same x 10 0 _ hzx).mono ?_;rintro e w1 ⟨rfl,rfl⟩;rw [hv])
      (go_ret2;refine Ret.mk ?_ ?_;(focus (rfl;done));(focus (exact EX;done)))
     ·have HS2:Hid (Qm.joinScan l=Qm.joinScan (l.drop (k+1))):=Lib.hid (by rw [HSc.out,if_neg hz,if_neg (by rw [hvc,hv];simp)])
      clear hvc
      go_wp2_with (go_at_call 110;refine (rclean_same x 10 0 _ hzx).mono ?_;rintro e w1 ⟨rfl,rfl⟩;rw [hv])
      exact ⟨⟨k+1,m+x.size+1,by omega,rfl,by refine congrArg (Value.int .i64) ?_;omega,by omega,HT,HS2⟩,by simp [intOf];omega⟩
   ·have hkn:k=n:=by omega
    have hsc:Qm.joinScan l=0:=by rw [HS.out,List.drop_eq_nil_of_le (by rw [HN.out];omega)];rfl
    have hml:m=(Qm.joinL l).length:=by rw [HM.out,List.take_of_length_le (by rw [HN.out];omega)]
    have HE0:Hid (E=if 65536 < m then 4 else 0):=Lib.hid (by rw [HV.out,hsc,if_neg (by simp),← hml])
    have HML:=Lib.hid hml
    clear hsc hml HS HM HV
    by_cases hz:65536 < m
    ·have HE:Hid (E=4):=Lib.hid (by rw [HE0.out,if_pos hz])
     obtain rfl:R=⟨#[]⟩:=by rw [← HR.out,if_neg (by rw [HE.out];decide)]
     obtain rfl:=HE.out
     go_wp2
     (go_ret2;refine Ret.mk ?_ ?_;(focus (rfl;done));(focus (exact EX;done)))
    ·have HE:Hid (E=0):=Lib.hid (by rw [HE0.out,if_neg hz])
     obtain rfl:R=Qm.joinOf l:=by rw [← HR.out,if_pos HE.out]
     obtain rfl:=HE.out
     clear HR
     go_wp2
     go_loop [6,7] (fun u i=>∃ (j:Nat) (t:ByteArray),j≤n∧i=.int .i64 j∧u=.string t∧t.size≤65536∧Hid (t.data.toList=Qm.joinL (l.take j))) (fun u i=>n - (intOf i).toNat)
     case atStart=>exact ⟨0,⟨#[]⟩,Nat.zero_le _,rfl,rfl,Nat.zero_le _,Lib.hid rfl⟩
     case round=>
      obtain ⟨j,t,hj,rfl,rfl,htz,HJ⟩:=hrel
      by_cases hlt2:j < n
      ·obtain ⟨b,o,x,rfl,hbl,hg,c0⟩:=lst_at HL.out hlt2
       obtain ⟨g1,g2⟩:=join_room hg
       rw [← HML.out,← HJ.out] at g2
       have hts:t.data.toList.length=t.size:=rfl
       rw [hts] at g2
       have HJ2:Hid ((t ++ x ++ (⟨#[10]⟩:ByteArray)).data.toList=Qm.joinL (l.take (j+1))):=Lib.hid (by
        show Pa.L (t ++ x ++ (⟨#[10]⟩:ByteArray))=_
        rw [Pa.L_append,Pa.L_append,g1,← HJ.out,List.append_assoc])
       have htx:(t ++ x ++ (⟨#[10]⟩:ByteArray)).size≤65536:=by
        rw [ByteArray.size_append,ByteArray.size_append]
        show t.size+x.size+1≤65536
        omega
       have HTX:=Lib.hid htx
       clear g1 hg htx hts
       go_wp2_with fail
       exact ⟨⟨j+1,_,by omega,rfl,rfl,HTX.out,HJ2⟩,by simp [intOf];omega⟩
      ·have ht:t=Qm.joinOf l:=by
        refine Pa.L_inj ?_
        rw [Txt.L_join]
        have:=HJ.out
        rwa [List.take_of_length_le (by rw [HN.out];omega)] at this
       have HTE:=Lib.hid ht
       clear ht
       go_wp2_with fail
       go_ret2
       exact ⟨by rw [HTE.out];rfl,EX⟩
end Go.Proofs.YtfmgnaigcibcaaaGreatDoor
namespace Go.Proofs.YtfmgnaigcibcaaaGreatDoor
open Go Go.RowKit
theorem own_strs (W:World):(W.alloc (.cells #[] 9)).ownsRow W.heap.size 9 1 (.slice (some ⟨W.heap.size,0,none⟩) 0 0) 0 (([]:List ByteArray).map Value.string):=
 ⟨rfl,.inr ⟨W.heap.size,0,#[],rfl,Nat.le_refl _,heap_alloc_new _ _,Nat.le_refl _,Nat.zero_le _,rfl,rfl⟩⟩
set_option maxHeartbeats 8000000 in
set_option maxRecDepth 100000 in
theorem rhapply_some (p:Pv) (k:Nat) (o n a:List ByteArray) (g m c bX:Nat) (w:World) (hk:p.at_=k) (ha:Lst w (some ⟨g,0,none⟩) m a) (hmc:m≤c) (h1:Lst w p.A1 p.n1 o) (h2:Lst w p.A2 p.n2 n)
 (hbX:Blk w bX 26 (harr p)) (hc:p.hunk.check=0) (b1:p.n1≤2000) (b2:p.n2≤2000) (bm:m≤65536) (bk:k≤1099511627776):
 Calls Tryz.prog 86 #[.slice (some ⟨g,0,none⟩) m c,.slice (some ⟨bX,0,none⟩) 1 1] w (HunkPost k o n a w):=by
 have HE:Hid (Qm.hunkErr k o a=if m < k+p.n1 then 2 else if (a.drop k).take o.length≠o then 15 else 0):=Lib.hid (by unfold Qm.hunkErr;rw [ha.1,h1.1,Int.toNat_natCast])
 have HC:=Lib.hid (fun W (hW:Ext w W)=>rhcheck_any bX 26 p W (hbX.ext hW) (by omega) (by omega))
 rw [hc] at HC
 have HA:=Lib.hid ha
 have H1:=Lib.hid h1
 have H2:=Lib.hid h2
 have HBX:=Lib.hid hbX
 clear ha h1 h2 hc hbX
 obtain ⟨kind,path,to_,ty,at_,A1,n1,c1,A2,n2,c2,off,so,sn,om,nm⟩:=p
 dsimp only at *
 subst hk
 have hwr:IntKind.i64.wrap ((k:Int)+(n1:Int))=(k:Int)+(n1:Int):=by rw [IntKind.wrap_i64];omega
 generalize hP:HunkPost k o n a w=P
 have HP:=Lib.hid hP
 clear hP
 go_enter Tryz.func86,Tryz.ntmps86
 have hx:=Ext.refl w
 go_wp2_with (go_at_call 108;refine (HC.out _ EX).mono ?_;rintro e w1 ⟨rfl,hx0⟩;have HX1:=Lib.hid hx0;clear hx0)
 have HS1:=Lib.hid HX1.out.size_le
 have HXa:Hid (Ext w (w1.alloc (.cells #[] 9))):=Lib.hid (HX1.out.alloc _)
 clear hx HC
 have hx:=Ext.refl w1
 refine wp_loop_rounds 2 ?_
 rw [rounds_succ]
 have HC0:=Lib.hid (fun W (hW:Ext (w1.alloc (.cells #[] 9)) W)=>(HBX.out.ext (HXa.out.trans hW)).cell)
 have HC1:=HC0
 go_wp2_with fail
 refine wp_region_ext (by kernel_rfl) (by kernel_rfl) ?_
 repeat (first | go_big_quiet_skip | (go_big_quiet_want;first | (go_big_quiet_op;go_big_quiet_on) | (apply quiet_at;intro W hW;have hc0:=HC0.out W hW;have hc1:=HC1.out W hW;go_simp;(first | exact rfl | (simp only [Oper.quietUpon,true_and];first | exact rfl | (fail)) | (fail));go_big_quiet_on;simp only [Act.put,sA,s0,sS])))
 refine wpQuiet_nil ?_
 intro w2 hx2
 have HXb:=Lib.hid hx2
 have HX2:=Lib.hid (HXa.out.trans hx2)
 clear HC0 HC1 hx hx2
 have hx:=Ext.refl w2
 by_cases hz:m < k+n1
 ·have HE2:Hid (Qm.hunkErr k o a=2):=Lib.hid (by rw [HE.out,if_pos hz])
  go_wp2_with fail
  rw [← HP.out]
  exact ⟨_,0,0,(by first | (rw [HE2.out];done) | (rw [HE2.out];rfl)),HX2.out.trans EX,by rw [HE2.out];exact Lst.nil _ _⟩
 ·have hz1:k+n1≤m:=by omega
  have hz2:k≤c:=by omega
  have hz3:k+n1≤c:=by omega
  have hz4:¬ (m:Int) < (k:Int)+(n1:Int):=by omega
  have hz5:(0:Int)≤(k:Int)+(n1:Int):=by omega
  have hz6:((k:Int)+(n1:Int)).toNat=k+n1:=by omega
  have hz7:(k:Int)+(n1:Int)≤(c:Int):=by omega
  have hz8:k+n1 - k=n1:=by omega
  have hz9:k≤k+n1:=by omega
  have hol:o.length=n1:=H1.out.1
  have HPT:=Lib.hid (fun W (hW:Ext w W)=>(HA.out.ext hW).cut hmc (i:=k) (j:=k+n1) (by omega) hz1)
  rw [show k+n1 - k=n1 by omega] at HPT
  have HSQ:=Lib.hid (fun W (hW:Ext w W)=>rsame_any (if c=k then some ⟨g,0,none⟩ else some ⟨g,k,none⟩) A1 n1 n1 (c - k) c1 _ o W (HPT.out W hW) (H1.out.ext hW) (by omega) (by omega))
  clear hz
  have HC0:=Lib.hid (fun W (hW:Ext w2 W)=>(HBX.out.ext (HX2.out.trans hW)).cell)
  have HC1:=HC0
  by_cases he:(a.drop k).take n1=o
  rotate_left
  ·have HE2:Hid (Qm.hunkErr k o a=15):=Lib.hid (by rw [HE.out,if_neg (by omega),if_pos (by rw [hol];exact he)])
   rw [decide_eq_false he] at HSQ
   clear he hol
   go_wp2_with fail
   refine wp_region_ext (by kernel_rfl) (by kernel_rfl) ?_
   repeat (first | go_big_quiet_skip | (go_big_quiet_want;first | (go_big_quiet_op;go_big_quiet_on) | (apply quiet_at;intro W hW;have hc0:=HC0.out W hW;have hc1:=HC1.out W hW;go_simp;(first | exact rfl | (simp only [Oper.quietUpon,true_and];first | exact rfl | (go_at_call 91;with_reducible exact quiet_call hW (HSQ.out _ (HX2.out.trans hW)) (fun _ _ h=>Ret.bcell h))) | (go_at_call 91;with_reducible exact quiet_call hW (HSQ.out _ (HX2.out.trans hW)) (fun _ _ h=>Ret.bcell h)));go_big_quiet_on;simp only [Act.put,sA,s0,sS])))
   refine wpQuiet_nil ?_
   intro w3 hx3
   have HX3:=Lib.hid (HX2.out.trans hx3)
   clear HC0 HC1 hx3 hx HSQ HPT
   have hx:=Ext.refl w3
   generalize (if c=k then (some ⟨g,0,none⟩:Option Addr) else some ⟨g,k,none⟩)=S32
   go_wp2_with fail
   rw [← HP.out]
   exact ⟨_,0,0,(by first | (rw [HE2.out];done) | (rw [HE2.out];rfl)),HX3.out.trans EX,by rw [HE2.out];exact Lst.nil _ _⟩
  have HE2:Hid (Qm.hunkErr k o a=0):=Lib.hid (by rw [HE.out,if_neg (by omega),if_neg (by rw [hol];simpa using he)])
  rw [decide_eq_true he] at HSQ
  have HT:=Lib.hid (fun W (hW:Ext w W)=>(HA.out.ext hW).part (i:=0) (j:=k) (Nat.zero_le _) (by omega))
  rw [Nat.sub_zero,List.drop_zero] at HT
  have HD:=Lib.hid (fun W (hW:Ext w W)=>(HA.out.ext hW).cut hmc (i:=k+n1) (j:=m) (by omega) (Nat.le_refl _))
  have hml:((a.drop (k+n1)).take (m - (k+n1)))=a.drop (k+n1):=List.take_of_length_le (by rw [List.length_drop,HA.out.1];exact Nat.le_refl _)
  rw [hml] at HD
  have HOL:=Lib.hid hol
  clear he hol hml
  go_wp2_with fail
  refine wp_region_ext (by kernel_rfl) (by kernel_rfl) ?_
  repeat (first | go_big_quiet_skip | (go_big_quiet_want;first | (go_big_quiet_op;go_big_quiet_on) | (apply quiet_at;intro W hW;have hc0:=HC0.out W hW;have hc1:=HC1.out W hW;go_simp;(first | exact rfl | (simp only [Oper.quietUpon,true_and];first | exact rfl | (go_at_call 91;with_reducible exact quiet_call hW (HSQ.out _ (HX2.out.trans hW)) (fun _ _ h=>Ret.bcell h))) | (go_at_call 91;with_reducible exact quiet_call hW (HSQ.out _ (HX2.out.trans hW)) (fun _ _ h=>Ret.bcell h)));go_big_quiet_on;simp only [Act.put,sA,s0,sS])))
  refine wpQuiet_nil ?_
  intro w3 hx3
  have HX3:=Lib.hid (HX2.out.trans hx3)
  have hown3:=ownsRow_ext (own_strs w1) (HXb.out.trans hx3)
  have HX13:=Lib.hid (((Ext.refl w1).alloc (.cells #[] 9)).trans (HXb.out.trans hx3))
  have hsz3:w1.heap.size≤w3.heap.size:=by have h1:=(HXb.out.trans hx3).size_le;simp at h1;omega
  clear HC0 HC1 hx3 hx HSQ HPT
  generalize (if c=k then (some ⟨g,0,none⟩:Option Addr) else some ⟨g,k,none⟩)=S32
  have hx:=Ext.refl w3
  obtain ⟨hcX,hfX,hlX⟩:=(HBX.out.ext HX3.out).all
  go_wp2_with (at_builtin;first
   | (refine wpList_append_lst rfl (.tmp 57) (.tmp 65) rfl w1.heap.size 0 _ [] rfl hown3 hsz3 (some ⟨g,0,none⟩) k c (a.take k) rfl (HT.out _ HX3.out) (by omega) (by omega) ?_;intro v4 w4 hown4 hg4;have HX4:=Lib.hid (grownBy_ext hg4 w1 HX13.out (fun b' e=>(hown3.lt b' e).1));obtain ⟨hcY,hfY,hlY⟩:=(HBX.out.ext (HX1.out.trans HX4.out)).all;clear hcX hfX hlX hx)
   | (refine wpList_append_lst rfl (.tmp 67) (.tmp 72) rfl w1.heap.size (0+k) v4 ([] ++ a.take k) rfl hown4 HX4.out.size_le A2 n2 c2 n rfl (H2.out.ext (HX1.out.trans HX4.out)) (by omega) (by omega) ?_;intro v5 w5 hown5 hg5;have HX5:=Lib.hid (grownBy_ext hg5 w1 HX4.out (fun b' e=>(hown4.lt b' e).1));have HO5:=Lib.hid hown5;clear hcY hfY hlY))
  rw [rounds_succ]
  have hx:=Ext.refl w5
  go_wp2_with (at_builtin;refine wpList_append_lst rfl (.tmp 75) (.tmp 78) rfl w1.heap.size ((0+k)+n2) v5 (([] ++ a.take k) ++ n) rfl HO5.out HX5.out.size_le _ (m - (k+n1)) (c - (k+n1)) (a.drop (k+n1)) rfl (HD.out _ (HX1.out.trans HX5.out)) (by omega) (by omega) ?_;intro v7 w7 hown7 hg7)
  all_goals
   have hx8:=grownBy_ext hg7 w1 HX5.out (fun b' e=>(HO5.out.lt b' e).1)
   rw [← HP.out]
   obtain ⟨A7,c7,rfl,hs7,_⟩:=Sl.of_own' hown7
   refine ⟨A7,_,c7,(by first | (rw [HE2.out];done) | (rw [HE2.out];rfl)),HX1.out.trans hx8,?_⟩
   rw [HE2.out,if_pos rfl]
   unfold Qm.hunkOf
   rw [Int.toNat_natCast,HOL.out]
   exact hs7.1
set_option maxHeartbeats 8000000 in
set_option maxRecDepth 100000 in
theorem rhapply_none (p:Pv) (k:Nat) (o n a:List ByteArray) (bX:Nat) (w:World) (hk:p.at_=k) (ha:Lst w none 0 a) (h1:Lst w p.A1 p.n1 o) (h2:Lst w p.A2 p.n2 n)
 (hbX:Blk w bX 26 (harr p)) (hc:p.hunk.check=0) (b1:p.n1≤2000) (b2:p.n2≤2000) (bk:k≤1099511627776):
 Calls Tryz.prog 86 #[.slice none 0 0,.slice (some ⟨bX,0,none⟩) 1 1] w (HunkPost k o n a w):=by
 have HE:Hid (Qm.hunkErr k o a=if 0 < k+p.n1 then 2 else if (a.drop k).take o.length≠o then 15 else 0):=Lib.hid (by unfold Qm.hunkErr;rw [ha.1,h1.1,Int.toNat_natCast])
 have HC:=Lib.hid (fun W (hW:Ext w W)=>rhcheck_any bX 26 p W (hbX.ext hW) (by omega) (by omega))
 rw [hc] at HC
 have HA:=Lib.hid ha
 have H1:=Lib.hid h1
 have H2:=Lib.hid h2
 have HBX:=Lib.hid hbX
 clear ha h1 h2 hc hbX
 obtain ⟨kind,path,to_,ty,at_,A1,n1,c1,A2,n2,c2,off,so,sn,om,nm⟩:=p
 dsimp only at *
 subst hk
 have hwr:IntKind.i64.wrap ((k:Int)+(n1:Int))=(k:Int)+(n1:Int):=by rw [IntKind.wrap_i64];omega
 generalize hP:HunkPost k o n a w=P
 have HP:=Lib.hid hP
 clear hP
 go_enter Tryz.func86,Tryz.ntmps86
 have hx:=Ext.refl w
 go_wp2_with (go_at_call 108;refine (HC.out _ EX).mono ?_;rintro e w1 ⟨rfl,hx0⟩;have HX1:=Lib.hid hx0;clear hx0)
 have HS1:=Lib.hid HX1.out.size_le
 have HXa:Hid (Ext w (w1.alloc (.cells #[] 9))):=Lib.hid (HX1.out.alloc _)
 clear hx HC
 have hx:=Ext.refl w1
 refine wp_loop_rounds 2 ?_
 rw [rounds_succ]
 have HC0:=Lib.hid (fun W (hW:Ext (w1.alloc (.cells #[] 9)) W)=>(HBX.out.ext (HXa.out.trans hW)).cell)
 have HC1:=HC0
 go_wp2_with fail
 refine wp_region_ext (by kernel_rfl) (by kernel_rfl) ?_
 repeat (first | go_big_quiet_skip | (go_big_quiet_want;first | (go_big_quiet_op;go_big_quiet_on) | (apply quiet_at;intro W hW;have hc0:=HC0.out W hW;have hc1:=HC1.out W hW;go_simp;(first | exact rfl | (simp only [Oper.quietUpon,true_and];first | exact rfl | (fail)) | (fail));go_big_quiet_on;simp only [Act.put,sA,s0,sS])))
 refine wpQuiet_nil ?_
 intro w2 hx2
 have HXb:=Lib.hid hx2
 have HX2:=Lib.hid (HXa.out.trans hx2)
 clear HC0 HC1 hx hx2
 have hx:=Ext.refl w2
 by_cases hz:0 < k+n1
 ·have HE2:Hid (Qm.hunkErr k o a=2):=Lib.hid (by rw [HE.out,if_pos hz])
  go_wp2_with fail
  rw [← HP.out]
  exact ⟨_,0,0,(by first | (rw [HE2.out];done) | (rw [HE2.out];rfl)),HX2.out.trans EX,by rw [HE2.out];exact Lst.nil _ _⟩
 ·obtain rfl:k=0:=by omega
  obtain rfl:n1=0:=by omega
  obtain rfl:a=[]:=List.length_eq_zero_iff.1 HA.out.1
  obtain rfl:o=[]:=List.length_eq_zero_iff.1 H1.out.1
  have HE2:Hid (Qm.hunkErr ((0:Nat):Int) [] []=0):=Lib.hid (by rw [HE.out];rfl)
  have HSQ:=Lib.hid (fun W (hW:Ext w W)=>rsame_any none A1 0 0 0 c1 [] [] W (Lst.nil _ _) (Lst.nil _ _) (by omega) (by omega))
  rw [decide_eq_true rfl] at HSQ
  clear hz
  have HC0:=Lib.hid (fun W (hW:Ext w2 W)=>(HBX.out.ext (HX2.out.trans hW)).cell)
  have HC1:=HC0
  go_wp2_with fail
  refine wp_region_ext (by kernel_rfl) (by kernel_rfl) ?_
  repeat (first | go_big_quiet_skip | (go_big_quiet_want;first | (go_big_quiet_op;go_big_quiet_on) | (apply quiet_at;intro W hW;have hc0:=HC0.out W hW;have hc1:=HC1.out W hW;go_simp;(first | exact rfl | (simp only [Oper.quietUpon,true_and];first | exact rfl | (go_at_call 91;with_reducible exact quiet_call hW (HSQ.out _ (HX2.out.trans hW)) (fun _ _ h=>Ret.bcell h))) | (go_at_call 91;with_reducible exact quiet_call hW (HSQ.out _ (HX2.out.trans hW)) (fun _ _ h=>Ret.bcell h)));go_big_quiet_on;simp only [Act.put,sA,s0,sS])))
  refine wpQuiet_nil ?_
  intro w3 hx3
  have HX3:=Lib.hid (HX2.out.trans hx3)
  have hown3:=ownsRow_ext (own_strs w1) (HXb.out.trans hx3)
  have HX13:=Lib.hid (((Ext.refl w1).alloc (.cells #[] 9)).trans (HXb.out.trans hx3))
  have hsz3:w1.heap.size≤w3.heap.size:=by have h1:=(HXb.out.trans hx3).size_le;simp at h1;omega
  clear HC0 HC1 hx3 hx HSQ
  have hx:=Ext.refl w3
  obtain ⟨hcX,hfX,hlX⟩:=(HBX.out.ext HX3.out).all
  go_wp2_with (at_builtin;first
   | (refine wpList_append_lst rfl (.tmp 57) (.tmp 65) rfl w1.heap.size 0 _ [] rfl hown3 hsz3 none 0 0 [] rfl (Lst.nil _ _) (by omega) (by omega) ?_;intro v4 w4 hown4 hg4;have HX4:=Lib.hid (grownBy_ext hg4 w1 HX13.out (fun b' e=>(hown3.lt b' e).1));obtain ⟨hcY,hfY,hlY⟩:=(HBX.out.ext (HX1.out.trans HX4.out)).all;clear hcX hfX hlX hx)
   | (refine wpList_append_lst rfl (.tmp 67) (.tmp 72) rfl w1.heap.size (0+0) v4 ([] ++ []) rfl hown4 HX4.out.size_le A2 n2 c2 n rfl (H2.out.ext (HX1.out.trans HX4.out)) (by omega) (by omega) ?_;intro v5 w5 hown5 hg5;have HX5:=Lib.hid (grownBy_ext hg5 w1 HX4.out (fun b' e=>(hown4.lt b' e).1));have HO5:=Lib.hid hown5;clear hcY hfY hlY))
  rw [rounds_succ]
  have hx:=Ext.refl w5
  go_wp2_with (at_builtin;refine wpList_append_lst rfl (.tmp 75) (.tmp 78) rfl w1.heap.size ((0+0)+n2) v5 (([] ++ []) ++ n) rfl HO5.out HX5.out.size_le none 0 0 [] rfl (Lst.nil _ _) (by omega) (by omega) ?_;intro v7 w7 hown7 hg7)
  all_goals
   have hx8:=grownBy_ext hg7 w1 HX5.out (fun b' e=>(HO5.out.lt b' e).1)
   rw [← HP.out]
   obtain ⟨A7,c7,rfl,hs7,_⟩:=Sl.of_own' hown7
   refine ⟨A7,_,c7,(by first | (rw [HE2.out];done) | (rw [HE2.out];rfl)),HX1.out.trans hx8,?_⟩
   rw [HE2.out,if_pos rfl]
   exact hs7.1
theorem rhapply_any (p:Pv) (k:Nat) (o n a:List ByteArray) (A:Option Addr) (m c bX:Nat) (w:World) (hk:p.at_=k) (ha:Lst w A m a) (hA:RowA A m c) (h1:Lst w p.A1 p.n1 o) (h2:Lst w p.A2 p.n2 n)
 (hbX:Blk w bX 26 (harr p)) (hc:p.hunk.check=0) (b1:p.n1≤2000) (b2:p.n2≤2000) (bm:m≤65536) (bk:k≤1099511627776):
 Calls Tryz.prog 86 #[.slice A m c,.slice (some ⟨bX,0,none⟩) 1 1] w (HunkPost k o n a w):=by
 rcases hA with ⟨rfl,rfl,rfl⟩ | ⟨g,rfl,hmc⟩
 ·exact rhapply_none p k o n a bX w hk ha h1 h2 hbX hc b1 b2 bk
 ·exact rhapply_some p k o n a g m c bX w hk ha hmc h1 h2 hbX hc b1 b2 bm bk
end Go.Proofs.YtfmgnaigcibcaaaGreatDoor
namespace Go.Proofs.YtfmgnaigcibcaaaGreatDoor
open Go Go.RowKit
def GivesE (r:Pf × Int) (w:World) (e:Ending) (w':World):Prop:=∃ g:Pf,e=.returned (.tuple #[g.v,.int .i64 r.2])∧(r.2=0→g=r.1)∧Ext w w'
set_option maxHeartbeats 8000000 in
set_option maxRecDepth 100000 in
theorem redited_mode (p:Pv) (f:Pf) (w:World) (k8:p.kind=8):
 Calls Tryz.prog 47 #[f.v,p.v] w (GivesE (p.chmod f) w):=by
 have k6':(p.kind == 6)=false:=by simp [k8]
 have k7':(p.kind == 7)=false:=by simp [k8]
 have k8':(p.kind == 8)=true:=by simp [k8]
 clear k8
 by_cases h4:f.ty=4
 ·have h4':(f.ty == 4)=true:=by simpa using h4
  have e1:(p.chmod f).2=8:=by unfold Pv.chmod;rw [if_pos h4]
  have HE:=Lib.hid e1
  clear h4 e1
  go_enter Tryz.func47,Tryz.ntmps47
  have hx:=Ext.refl w
  go_wp2_with fail
  refine bodyPost_ret (v:=.tuple #[f.v,.int .i64 8]) (by simp only [results,Tryz.results47];go_simp) rfl ?_
  exact ⟨f,by rw [HE.out],fun e=>(by rw [HE.out] at e;cases e),EX⟩
 ·have h4':(f.ty == 4)=false:=by simpa using h4
  by_cases h5:f.mode=p.om
  ·have h5':(f.mode != p.om)=false:=by simpa using h5
   have HE:Hid (p.chmod f=(⟨f.path,f.ty,p.nm,f.data⟩,0)):=Lib.hid (by unfold Pv.chmod;rw [if_neg h4,if_neg (by simpa using h5)])
   clear h4 h5
   go_enter Tryz.func47,Tryz.ntmps47
   have hx:=Ext.refl w
   go_wp2_with fail
   refine bodyPost_ret (v:=.tuple #[Pf.v ⟨f.path,f.ty,p.nm,f.data⟩,.int .i64 0]) (by simp only [results,Tryz.results47];go_simp) rfl ?_
   exact ⟨_,by rw [HE.out],fun e=>(by rw [HE.out]),EX⟩
  ·have h5':(f.mode != p.om)=true:=by simpa using h5
   have e1:(p.chmod f).2=15:=by unfold Pv.chmod;rw [if_neg h4,if_pos (by simpa using h5)]
   have HE:=Lib.hid e1
   clear h4 h5 e1
   go_enter Tryz.func47,Tryz.ntmps47
   have hx:=Ext.refl w
   go_wp2_with fail
   refine bodyPost_ret (v:=.tuple #[f.v,.int .i64 15]) (by simp only [results,Tryz.results47];go_simp) rfl ?_
   exact ⟨f,by rw [HE.out],fun e=>(by rw [HE.out] at e;cases e),EX⟩
theorem prefix_ref {t s:ByteArray}:Lib.hasPrefix t.data.toList s.data.toList=true ↔ s.size≤t.size∧t.extract 0 s.size=s:=by
 unfold Lib.hasPrefix
 rw [List.isPrefixOf_iff_prefix]
 show Pa.L s <+: Pa.L t ↔ _
 constructor
 ·rintro ⟨r,hr⟩
  have h1:s.size≤t.size:=by
   have:=congrArg List.length hr
   rw [List.length_append] at this
   show (Pa.L s).length≤(Pa.L t).length
   omega
  refine ⟨h1,Pa.L_inj ?_⟩
  rw [Pa.L_extract,List.drop_zero,← hr]
  exact List.take_left' rfl
 ·rintro ⟨h1,h2⟩
  refine ⟨(Pa.L t).drop s.size,?_⟩
  have h3:=congrArg Pa.L h2
  rw [Pa.L_extract,List.drop_zero] at h3
  rw [← h3]
  have:(List.take s.size (Pa.L t)).length=s.size:=by rw [List.length_take];exact Nat.min_eq_left h1
  rw [List.take_append_drop]
set_option maxHeartbeats 16000000 in
set_option maxRecDepth 100000 in
theorem redited_bytes (p:Pv) (f:Pf) (w:World) (o:Nat) (k7:p.kind=7) (ho:p.off=(o:Int)) (hb:o≤1000000) (hd:f.data.size≤1000000) (hso:p.so.size≤1000000) (hsn:p.sn.size≤1000000):
 Calls Tryz.prog 47 #[f.v,p.v] w (GivesE ({ f with data:=(p.splice f).1 },(p.splice f).2) w):=by
 have k6':(p.kind == 6)=false:=by simp [k7]
 have k7':(p.kind == 7)=true:=by simp [k7]
 have k8':(p.kind == 8)=false:=by simp [k7]
 clear k7
 have hto:p.off.toNat=o:=by rw [ho];rfl
 have hv0:p.splice f=if f.ty≠2∧f.ty≠3 then (⟨#[]⟩,8) else if f.data.size < o then (⟨#[]⟩,2) else if Lib.hasPrefix (f.data.extract o f.data.size).data.toList p.so.data.toList=false then (⟨#[]⟩,15)
  else if 65536 < (f.data.extract 0 o ++ p.sn ++ f.data.extract (o+p.so.size) f.data.size).size then (⟨#[]⟩,4) else (f.data.extract 0 o ++ p.sn ++ f.data.extract (o+p.so.size) f.data.size,0):=by unfold Pv.splice;rw [hto]
 generalize p.splice f=R at hv0 ⊢
 obtain ⟨kind,path,to_,ty,at_,A1,n1,c1,A2,n2,c2,off,so,sn,om,nm⟩:=p
 dsimp only at *
 subst ho
 clear hto
 by_cases h1:f.ty≠2∧f.ty≠3
 ·have HE:Hid (R.2=8):=Lib.hid (by rw [hv0,if_pos h1])
  have h2':(f.ty != 2)=true:=by simpa using h1.1
  have h3':(f.ty != 3)=true:=by simpa using h1.2
  clear h1 hv0
  go_enter Tryz.func47,Tryz.ntmps47
  have hx:=Ext.refl w
  go_wp2_with fail
  refine bodyPost_ret (v:=.tuple #[f.v,.int .i64 8]) (by simp only [results,Tryz.results47];go_simp) rfl ?_
  exact ⟨f,by rw [HE.out],fun e=>(by rw [HE.out] at e;cases e),EX⟩
 rw [if_neg h1] at hv0
 have h23:((f.ty != 2)=false)∨((f.ty != 2)=true∧(f.ty != 3)=false):=by
  by_cases e:f.ty=2
  ·exact .inl (by simp [e])
  ·exact .inr ⟨by simpa using e,by
    have:f.ty=3:=by omega
    simp [this]⟩
 clear h1
 by_cases h4:f.data.size < o
 ·have HE:Hid (R.2=2):=Lib.hid (by rw [hv0,if_pos h4])
  clear hv0
  rcases h23 with h2' | ⟨h2',h3'⟩
  all_goals
   go_enter Tryz.func47,Tryz.ntmps47
   have hx:=Ext.refl w
   go_wp2_with fail
   refine bodyPost_ret (v:=.tuple #[f.v,.int .i64 2]) (by simp only [results,Tryz.results47];go_simp) rfl ?_
   exact ⟨f,by rw [HE.out],fun e=>(by rw [HE.out] at e;cases e),EX⟩
 rw [if_neg h4] at hv0
 have h4':¬ ((f.data.size:Int) < (o:Int)):=by omega
 have h6':(o:Int)≤(f.data.size:Int):=by omega
 have h7':o≤f.data.size:=by omega
 have HV:=Lib.hid hv0
 have HT:Hid ((f.data.extract o f.data.size).size=f.data.size - o):=Lib.hid (by rw [ByteArray.size_extract];omega)
 have HPR:=Lib.hid (prefix_ref (t:=f.data.extract o f.data.size) (s:=so))
 clear hv0 h4
 have HC0:Hid (∀ W,Ext (((w.alloc (.cells f.arr 61)).alloc (.cells (parr ⟨kind,path,to_,ty,at_,A1,n1,c1,A2,n2,c2,(o:Int),so,sn,om,nm⟩) 28)).alloc (.cells Pf.zero.arr 61)) W→∀ i,W.cell? ⟨w.heap.size,i,none⟩=f.arr[i]?):=Lib.hid (fun W hW=>(Blk.ext hW ((Blk.new' rfl).alloc _ |>.alloc _)).cell)
 have HC1:Hid (∀ W,Ext (((w.alloc (.cells f.arr 61)).alloc (.cells (parr ⟨kind,path,to_,ty,at_,A1,n1,c1,A2,n2,c2,(o:Int),so,sn,om,nm⟩) 28)).alloc (.cells Pf.zero.arr 61)) W→∀ i,W.cell? ⟨w.heap.size+1,i,none⟩=(parr ⟨kind,path,to_,ty,at_,A1,n1,c1,A2,n2,c2,(o:Int),so,sn,om,nm⟩)[i]?):=Lib.hid (fun W hW=>(Blk.ext hW ((Blk.new' (by simp)).alloc _)).cell)
 rcases h23 with h2' | ⟨h2',h3'⟩
 all_goals
  go_enter Tryz.func47,Tryz.ntmps47
  have hx:=Ext.refl w
  go_wp2_with fail
  clear hx
  have HX:=Lib.hid ((((Ext.refl w).alloc (.cells f.arr 61)).alloc (.cells (parr ⟨kind,path,to_,ty,at_,A1,n1,c1,A2,n2,c2,(o:Int),so,sn,om,nm⟩) 28)).alloc (.cells Pf.zero.arr 61))
  generalize hre:f.data.extract o f.data.size=re at *
  refine wp_region_ext (by kernel_rfl) (by kernel_rfl) ?_
  cases h5:decide (re.size < so.size)
  ·have h5':¬ re.size < so.size:=of_decide_eq_false h5
   have h5i:¬ (re.size:Int) < (so.size:Int):=by omega
   have h5n:so.size≤re.size:=by omega
   have h5m:(so.size:Int)≤(re.size:Int):=by omega
   clear h5
   cases h6:Qm.eqB (re.extract 0 so.size) so
   ·have h6q:((re.extract 0 so.size).toList == so.toList)=false:=h6
    have HE:Hid (R.2=15):=Lib.hid (by
     have:Lib.hasPrefix re.data.toList so.data.toList=false:=by
      rw [← Bool.not_eq_true,HPR.out]
      rintro ⟨_,e⟩
      rw [Qm.eqB_iff.2 e] at h6
      cases h6
     rw [HV.out,if_pos this])
    clear h6
    repeat (first | go_big_quiet_skip | (go_big_quiet_want;first | (go_big_quiet_op;go_big_quiet_on) | (apply quiet_at;intro W hW;have hc0:=HC0.out W hW;have hc1:=HC1.out W hW;go_simp;(first | exact rfl | (simp only [Oper.quietUpon,true_and];first | exact rfl | (fail)) | (fail));go_big_quiet_on;simp only [Act.put,sA,s0,sS])))
    refine wpQuiet_nil ?_
    intro w2 hx2
    have HX2:=Lib.hid (HX.out.trans hx2)
    have hbF:Blk w2 w.heap.size 61 f.arr:=Blk.ext hx2 ((Blk.new' rfl).alloc _ |>.alloc _)
    have hbP:Blk w2 (w.heap.size+1) 28 (parr ⟨kind,path,to_,ty,at_,A1,n1,c1,A2,n2,c2,(o:Int),so,sn,om,nm⟩):=Blk.ext hx2 ((Blk.new' (by simp)).alloc _)
    have hbR:Blk w2 (w.heap.size+1+1) 61 Pf.zero.arr:=Blk.ext hx2 (Blk.new' (by simp))
    obtain ⟨hcF,hfF,hlF⟩:=hbF.all
    obtain ⟨hcP,hfP,hlP⟩:=hbP.all
    obtain ⟨hcR,hfR,hlR⟩:=hbR.all
    have hx:=HX2.out
    clear hx2 hbF hbP hbR HC0 HC1
    go_wp2_with fail
    refine bodyPost_ret (v:=.tuple #[f.v,.int .i64 15]) (by simp only [results,Tryz.results47];go_simp) rfl ?_
    exact ⟨f,by rw [HE.out],fun e=>(by rw [HE.out] at e;cases e),EX⟩
   ·have h6q:((re.extract 0 so.size).toList == so.toList)=true:=h6
    have HR:Hid (R=if 65536 < (f.data.extract 0 o ++ sn ++ re.extract so.size re.size).size then (⟨#[]⟩,4) else (f.data.extract 0 o ++ sn ++ re.extract so.size re.size,0)):=Lib.hid (by
     have:Lib.hasPrefix re.data.toList so.data.toList=true:=HPR.out.2 ⟨h5n,Qm.eqB_iff.1 h6⟩
     have e2:re.extract so.size re.size=f.data.extract (o+so.size) f.data.size:=by
      rw [← hre]
      exact extract_extract_end f.data o so.size (by have :=HT.out;rw [← hre] at h5n;omega)
     rw [HV.out,if_neg (by rw [this];simp),e2])
    clear h6
    repeat (first | go_big_quiet_skip | (go_big_quiet_want;first | (go_big_quiet_op;go_big_quiet_on) | (apply quiet_at;intro W hW;have hc0:=HC0.out W hW;have hc1:=HC1.out W hW;go_simp;(first | exact rfl | (simp only [Oper.quietUpon,true_and];first | exact rfl | (fail)) | (fail));go_big_quiet_on;simp only [Act.put,sA,s0,sS])))
    refine wpQuiet_nil ?_
    intro w2 hx2
    have HX2:=Lib.hid (HX.out.trans hx2)
    have hbF:Blk w2 w.heap.size 61 f.arr:=Blk.ext hx2 ((Blk.new' rfl).alloc _ |>.alloc _)
    have hbP:Blk w2 (w.heap.size+1) 28 (parr ⟨kind,path,to_,ty,at_,A1,n1,c1,A2,n2,c2,(o:Int),so,sn,om,nm⟩):=Blk.ext hx2 ((Blk.new' (by simp)).alloc _)
    have hbR:Blk w2 (w.heap.size+1+1) 61 Pf.zero.arr:=Blk.ext hx2 (Blk.new' (by simp))
    obtain ⟨hcF,hfF,hlF⟩:=hbF.all
    obtain ⟨hcP,hfP,hlP⟩:=hbP.all
    obtain ⟨hcR,hfR,hlR⟩:=hbR.all
    have hx:=HX2.out
    clear hx2 hbF hbP hbR HC0 HC1
    have hz:=HT.out
    have hs1:¬ 9223372036854775807 < o+sn.size:=by omega
    have hs2:¬ 9223372036854775807 < o+sn.size+(re.size - so.size):=by omega
    have hs3:(f.data.extract 0 o ++ sn ++ re.extract so.size re.size).size=o+sn.size+(re.size - so.size):=by
     simp only [ByteArray.size_append,ByteArray.size_extract]
     omega
    have HS3:=Lib.hid hs3
    clear hs3 HV HPR hz
    go_wp2_with fail
    go_region
    go_wp2_with fail
    ·rename_i hg
     have hR2:R.2=4:=by rw [HR.out,if_pos (by rw [HS3.out];omega)]
     refine bodyPost_ret (v:=.tuple #[Pf.v ⟨f.path,f.ty,f.mode,f.data.extract 0 o ++ sn ++ re.extract so.size re.size⟩,.int .i64 4]) (by simp only [results,Tryz.results47];go_simp) rfl ?_
     exact ⟨_,by rw [hR2],fun e=>(by rw [hR2] at e;cases e),EX⟩
    ·rename_i hg
     have hR:R=(f.data.extract 0 o ++ sn ++ re.extract so.size re.size,0):=by rw [HR.out,if_neg (by rw [HS3.out];omega)]
     refine bodyPost_ret (v:=.tuple #[Pf.v ⟨f.path,f.ty,f.mode,f.data.extract 0 o ++ sn ++ re.extract so.size re.size⟩,.int .i64 0]) (by simp only [results,Tryz.results47];go_simp) rfl ?_
     exact ⟨_,by rw [hR],fun e=>(by rw [hR]),EX⟩
  ·have h5':re.size < so.size:=of_decide_eq_true h5
   have h5i:(re.size:Int) < (so.size:Int):=by omega
   have HE:Hid (R.2=15):=Lib.hid (by
    have:Lib.hasPrefix re.data.toList so.data.toList=false:=by
     rw [← Bool.not_eq_true,HPR.out]
     rintro ⟨e,_⟩
     omega
    rw [HV.out,if_pos this])
   clear h5
   repeat (first | go_big_quiet_skip | (go_big_quiet_want;first | (go_big_quiet_op;go_big_quiet_on) | (apply quiet_at;intro W hW;have hc0:=HC0.out W hW;have hc1:=HC1.out W hW;go_simp;(first | exact rfl | (simp only [Oper.quietUpon,true_and];first | exact rfl | (fail)) | (fail));go_big_quiet_on;simp only [Act.put,sA,s0,sS])))
   refine wpQuiet_nil ?_
   intro w2 hx2
   have HX2:=Lib.hid (HX.out.trans hx2)
   have hbF:Blk w2 w.heap.size 61 f.arr:=Blk.ext hx2 ((Blk.new' rfl).alloc _ |>.alloc _)
   have hbP:Blk w2 (w.heap.size+1) 28 (parr ⟨kind,path,to_,ty,at_,A1,n1,c1,A2,n2,c2,(o:Int),so,sn,om,nm⟩):=Blk.ext hx2 ((Blk.new' (by simp)).alloc _)
   have hbR:Blk w2 (w.heap.size+1+1) 61 Pf.zero.arr:=Blk.ext hx2 (Blk.new' (by simp))
   obtain ⟨hcF,hfF,hlF⟩:=hbF.all
   obtain ⟨hcP,hfP,hlP⟩:=hbP.all
   obtain ⟨hcR,hfR,hlR⟩:=hbR.all
   have hx:=HX2.out
   clear hx2 hbF hbP hbR HC0 HC1
   go_wp2_with fail
   refine bodyPost_ret (v:=.tuple #[f.v,.int .i64 15]) (by simp only [results,Tryz.results47];go_simp) rfl ?_
   exact ⟨f,by rw [HE.out],fun e=>(by rw [HE.out] at e;cases e),EX⟩
end Go.Proofs.YtfmgnaigcibcaaaGreatDoor
namespace Go.Proofs.YtfmgnaigcibcaaaGreatDoor
open Go Go.RowKit
theorem hunkOf_size {k:Int} {o n a:List ByteArray} {B:Nat} (h1:∀ x∈a,x.size≤B) (h2:∀ x∈n,x.size≤B):∀ x∈Qm.hunkOf k o n a,x.size≤B:=by
 intro x hx
 unfold Qm.hunkOf at hx
 rcases List.mem_append.1 hx with hx | hx
 ·rcases List.mem_append.1 hx with hx | hx
  ·exact h1 x (List.mem_of_mem_take hx)
  ·exact h2 x hx
 ·exact h1 x (List.mem_of_mem_drop hx)
set_option maxHeartbeats 16000000 in
set_option maxRecDepth 100000 in
theorem redited_lines (p:Pv) (o n:List ByteArray) (f:Pf) (w:World) (k:Nat) (k6:p.kind=6) (hk:p.at_=k) (bk:k≤1099511627776) (h1:Lst w p.A1 p.n1 o) (h2:Lst w p.A2 p.n2 n) (b1:p.n1≤2000) (b2:p.n2≤2000) (hc:p.hunk.check=0)
 (hz:∀ x∈n,x.size≤4611686018427387904) (hf:f.ty=1→Qm.splitErr f.data=0):
 Calls Tryz.prog 47 #[f.v,p.v] w (GivesE ({ f with data:=(p.relines o n f).1 },(p.relines o n f).2) w):=by
 have k6':(p.kind == 6)=true:=by simp [k6]
 have k7':(p.kind == 7)=false:=by simp [k6]
 have k8':(p.kind == 8)=false:=by simp [k6]
 clear k6
 by_cases ht:f.ty=1
 rotate_left
 ·have hv:p.relines o n f=(⟨#[]⟩,8):=by unfold Pv.relines;rw [if_pos ht]
  have HE:Hid ((p.relines o n f).2=8):=Lib.hid (by rw [hv])
  have ht':(f.ty != 1)=true:=by simpa using ht
  clear ht hv h1 h2 hc hf hz
  go_enter Tryz.func47,Tryz.ntmps47
  have hx:=Ext.refl w
  go_wp2_with fail
  refine bodyPost_ret (v:=.tuple #[f.v,.int .i64 8]) (by simp only [results,Tryz.results47];go_simp) rfl ?_
  exact ⟨f,by rw [HE.out],fun e=>(by rw [HE.out] at e;cases e),EX⟩
 ·have ht':(f.ty != 1)=false:=by simpa using ht
  have e1:=hf ht
  have HV2:Hid (p.relines o n f=if Qm.hunkErr k o (Qm.linesOf f.data)≠0 then (⟨#[]⟩,Qm.hunkErr k o (Qm.linesOf f.data))
   else if Qm.joinErr (Qm.hunkOf k o n (Qm.linesOf f.data))≠0 then (⟨#[]⟩,4)
   else (Qm.joinOf (Qm.hunkOf k o n (Qm.linesOf f.data)),0)):=Lib.hid (by unfold Pv.relines;rw [if_neg (by simpa using ht),if_neg (by simpa using e1),hk])
  generalize p.relines o n f=R at HV2 ⊢
  clear ht hf
  obtain ⟨kind,path,to_,ty,at_,A1,n1,c1,A2,n2,c2,off,so,sn,om,nm⟩:=p
  dsimp only at *
  subst hk
  have hsz:=(Txt.split_zero.1 e1).1
  have hls:=(Txt.split_zero.1 e1).2.2.2.2
  have hll:=Qm.linesOf_length f.data
  have hlen:(Qm.linesOf f.data).length≤65536:=by omega
  have hnl:n.length=n2:=h2.1
  have HS:=Lib.hid (fun W=>rsplit_text f.data W e1)
  have HA:Hid (∀ (A:Option Addr) (m c bX:Nat) (W:World),Ext w W→Lst W A m (Qm.linesOf f.data)→RowA A m c→Blk W bX 26 #[.int .i64 k,.slice A1 n1 c1,.slice A2 n2 c2]→Calls Tryz.prog 86 #[.slice A m c,.slice (some ⟨bX,0,none⟩) 1 1] W (HunkPost k o n (Qm.linesOf f.data) W)):=
   Lib.hid (fun A m c bX W hW ha hA hb=>rhapply_any ⟨kind,path,to_,ty,k,A1,n1,c1,A2,n2,c2,off,so,sn,om,nm⟩ k o n _ A m c bX W rfl ha hA (h1.ext hW) (h2.ext hW) hb hc b1 b2 (by rw [← ha.1];exact hlen) bk)
  unfold HunkPost at HA
  have hrz:∀ x∈Qm.hunkOf k o n (Qm.linesOf f.data),x.size≤4611686018427387904:=hunkOf_size (fun x hx=>by have :=hls x hx;omega) hz
  have hrl:(Qm.hunkOf k o n (Qm.linesOf f.data)).length≤4194304:=by
   unfold Qm.hunkOf
   simp only [List.length_append,List.length_take,List.length_drop]
   omega
  clear e1 hll hsz hls hlen hnl h1 h2 hc hz
  by_cases e2:Qm.hunkErr k o (Qm.linesOf f.data)=0
  rotate_left
  ·have HR:Hid (R.2=Qm.hunkErr k o (Qm.linesOf f.data)):=Lib.hid (by rw [HV2.out,if_pos e2])
   have e2':(Qm.hunkErr k o (Qm.linesOf f.data) != 0)=true:=by simpa using e2
   have HN:=Lib.hid e2
   clear HV2 e2 hrz hrl
   generalize Qm.hunkErr k o (Qm.linesOf f.data)=E at *
   generalize Qm.linesOf f.data=a at *
   go_enter Tryz.func47,Tryz.ntmps47
   have hx:=Ext.refl w
   go_wp2_with (go_at_call 85;refine (HS.out _).mono ?_;rintro e w1 ⟨A,m,c,rfl,⟨hl,hrow⟩,hx0⟩;have HL:=Lib.hid hl;have HRW:=Lib.hid hrow;clear hl hrow;have hy:=Ext.trans (a:=w) EX hx0;clear hx;have hx:=hy;clear hy;have hn0:=BB hx0 (w.heap.size);have hn1:=BB hx0 (w.heap.size+1);have hn2:=BB hx0 (w.heap.size+1+1);(first | simp [↓heap_drew_at,↓heap_drewN_at,↓heap_alloc_at,↓heap_set_at,ne_two,ne_three,ne_two_left,ne_three_left,↓hb0.eq,hb0.lt,hb0.ne,↓hb1.eq,hb1.lt,hb1.ne,↓hb2.eq,hb2.lt,hb2.ne] at hn0 hn1 hn2 | simp [↓heap_drew_at,↓heap_drewN_at,↓heap_alloc_at,↓heap_set_at,ne_two,ne_three,ne_two_left,ne_three_left] at hn0 hn1 hn2);(try clear hb0 hc0 hf0 hl0);(try clear hb1 hc1 hf1 hl1);(try clear hb2 hc2 hf2 hl2);have hb0:=Blk.mk hn0;clear hn0;obtain ⟨hc0,hf0,hl0⟩:=hb0.all;have hb1:=Blk.mk hn1;clear hn1;obtain ⟨hc1,hf1,hl1⟩:=hb1.all;have hb2:=Blk.mk hn2;clear hn2;obtain ⟨hc2,hf2,hl2⟩:=hb2.all;(try clear hx0))
   go_wp2_with (go_at_call 86;refine (HA.out _ _ _ _ _ EX (HL.out.ext ((Ext.refl _).alloc _)) HRW.out (Blk.new' rfl)).mono ?_;rintro e w2 ⟨A',m',c',rfl,hx0,hl2⟩;clear hl2;have hy:=Ext.trans (a:=w) EX hx0;clear hx;have hx:=hy;clear hy;have hn0:=BB hx0 (w.heap.size);have hn1:=BB hx0 (w.heap.size+1);have hn2:=BB hx0 (w.heap.size+1+1);(first | simp [↓heap_drew_at,↓heap_drewN_at,↓heap_alloc_at,↓heap_set_at,ne_two,ne_three,ne_two_left,ne_three_left,↓hb0.eq,hb0.lt,hb0.ne,↓hb1.eq,hb1.lt,hb1.ne,↓hb2.eq,hb2.lt,hb2.ne] at hn0 hn1 hn2 | simp [↓heap_drew_at,↓heap_drewN_at,↓heap_alloc_at,↓heap_set_at,ne_two,ne_three,ne_two_left,ne_three_left] at hn0 hn1 hn2);(try clear hb0 hc0 hf0 hl0);(try clear hb1 hc1 hf1 hl1);(try clear hb2 hc2 hf2 hl2);have hb0:=Blk.mk hn0;clear hn0;obtain ⟨hc0,hf0,hl0⟩:=hb0.all;have hb1:=Blk.mk hn1;clear hn1;obtain ⟨hc1,hf1,hl1⟩:=hb1.all;have hb2:=Blk.mk hn2;clear hn2;obtain ⟨hc2,hf2,hl2⟩:=hb2.all;(try clear hx0))
   refine bodyPost_ret (v:=.tuple #[f.v,.int .i64 E]) (by simp only [results,Tryz.results47];go_simp) rfl ?_
   exact ⟨f,by rw [HR.out],fun e=>(by rw [HR.out] at e;exact absurd e HN.out),EX⟩
  ·have HV3:Hid (R=if Qm.joinErr (Qm.hunkOf k o n (Qm.linesOf f.data))≠0 then (⟨#[]⟩,4) else (Qm.joinOf (Qm.hunkOf k o n (Qm.linesOf f.data)),0)):=Lib.hid (by rw [HV2.out,if_neg (by simpa using e2)])
   rw [e2] at HA
   have HA:Hid (∀ (A:Option Addr) (m c bX:Nat) (W:World),Ext w W→Lst W A m (Qm.linesOf f.data)→RowA A m c→Blk W bX 26 #[.int .i64 k,.slice A1 n1 c1,.slice A2 n2 c2]→Calls Tryz.prog 86 #[.slice A m c,.slice (some ⟨bX,0,none⟩) 1 1] W (fun e w'=>∃ A' m' c',e=.returned (.tuple #[.slice A' m' c',.int .i64 0])∧Ext W w'∧Lst w' A' m' (Qm.hunkOf k o n (Qm.linesOf f.data)))):=HA
   clear HV2 e2
   generalize Qm.hunkOf k o n (Qm.linesOf f.data)=r at *
   generalize Qm.linesOf f.data=a at *
   have HJ:=Lib.hid (fun A' m' c' W (h:Lst W A' m' r)=>rjoin_any A' m' c' r W h (by rw [← h.1];exact hrl) hrz)
   by_cases e3:Qm.joinErr r=0
   ·rw [e3,if_pos rfl] at HJ
    have HR:Hid (R=(Qm.joinOf r,0)):=Lib.hid (by rw [HV3.out,if_neg (by simpa using e3)])
    clear HV3 e3 hrl hrz
    generalize Qm.joinOf r=t at *
    go_enter Tryz.func47,Tryz.ntmps47
    have hx:=Ext.refl w
    go_wp2_with (go_at_call 85;refine (HS.out _).mono ?_;rintro e w1 ⟨A,m,c,rfl,⟨hl,hrow⟩,hx0⟩;have HL:=Lib.hid hl;have HRW:=Lib.hid hrow;clear hl hrow;have hy:=Ext.trans (a:=w) EX hx0;clear hx;have hx:=hy;clear hy;have hn0:=BB hx0 (w.heap.size);have hn1:=BB hx0 (w.heap.size+1);have hn2:=BB hx0 (w.heap.size+1+1);(first | simp [↓heap_drew_at,↓heap_drewN_at,↓heap_alloc_at,↓heap_set_at,ne_two,ne_three,ne_two_left,ne_three_left,↓hb0.eq,hb0.lt,hb0.ne,↓hb1.eq,hb1.lt,hb1.ne,↓hb2.eq,hb2.lt,hb2.ne] at hn0 hn1 hn2 | simp [↓heap_drew_at,↓heap_drewN_at,↓heap_alloc_at,↓heap_set_at,ne_two,ne_three,ne_two_left,ne_three_left] at hn0 hn1 hn2);(try clear hb0 hc0 hf0 hl0);(try clear hb1 hc1 hf1 hl1);(try clear hb2 hc2 hf2 hl2);have hb0:=Blk.mk hn0;clear hn0;obtain ⟨hc0,hf0,hl0⟩:=hb0.all;have hb1:=Blk.mk hn1;clear hn1;obtain ⟨hc1,hf1,hl1⟩:=hb1.all;have hb2:=Blk.mk hn2;clear hn2;obtain ⟨hc2,hf2,hl2⟩:=hb2.all;(try clear hx0))
    go_wp2_with (go_at_call 86;refine (HA.out _ _ _ _ _ EX (HL.out.ext ((Ext.refl _).alloc _)) HRW.out (Blk.new' rfl)).mono ?_;rintro e w2 ⟨A',m',c',rfl,hx0,hl2⟩;have HL2:=Lib.hid hl2;clear hl2;have hy:=Ext.trans (a:=w) EX hx0;clear hx;have hx:=hy;clear hy;have hn0:=BB hx0 (w.heap.size);have hn1:=BB hx0 (w.heap.size+1);have hn2:=BB hx0 (w.heap.size+1+1);(first | simp [↓heap_drew_at,↓heap_drewN_at,↓heap_alloc_at,↓heap_set_at,ne_two,ne_three,ne_two_left,ne_three_left,↓hb0.eq,hb0.lt,hb0.ne,↓hb1.eq,hb1.lt,hb1.ne,↓hb2.eq,hb2.lt,hb2.ne] at hn0 hn1 hn2 | simp [↓heap_drew_at,↓heap_drewN_at,↓heap_alloc_at,↓heap_set_at,ne_two,ne_three,ne_two_left,ne_three_left] at hn0 hn1 hn2);(try clear hb0 hc0 hf0 hl0);(try clear hb1 hc1 hf1 hl1);(try clear hb2 hc2 hf2 hl2);have hb0:=Blk.mk hn0;clear hn0;obtain ⟨hc0,hf0,hl0⟩:=hb0.all;have hb1:=Blk.mk hn1;clear hn1;obtain ⟨hc1,hf1,hl1⟩:=hb1.all;have hb2:=Blk.mk hn2;clear hn2;obtain ⟨hc2,hf2,hl2⟩:=hb2.all;(try clear hx0))
    go_wp2_with (go_at_call 87;refine (HJ.out _ _ _ _ HL2.out).mono ?_;rintro e w3 ⟨rfl,hx0⟩;have hy:=Ext.trans (a:=w) EX hx0;clear hx;have hx:=hy;clear hy;have hn0:=BB hx0 (w.heap.size);have hn1:=BB hx0 (w.heap.size+1);have hn2:=BB hx0 (w.heap.size+1+1);(first | simp [↓heap_drew_at,↓heap_drewN_at,↓heap_alloc_at,↓heap_set_at,ne_two,ne_three,ne_two_left,ne_three_left,↓hb0.eq,hb0.lt,hb0.ne,↓hb1.eq,hb1.lt,hb1.ne,↓hb2.eq,hb2.lt,hb2.ne] at hn0 hn1 hn2 | simp [↓heap_drew_at,↓heap_drewN_at,↓heap_alloc_at,↓heap_set_at,ne_two,ne_three,ne_two_left,ne_three_left] at hn0 hn1 hn2);(try clear hb0 hc0 hf0 hl0);(try clear hb1 hc1 hf1 hl1);(try clear hb2 hc2 hf2 hl2);have hb0:=Blk.mk hn0;clear hn0;obtain ⟨hc0,hf0,hl0⟩:=hb0.all;have hb1:=Blk.mk hn1;clear hn1;obtain ⟨hc1,hf1,hl1⟩:=hb1.all;have hb2:=Blk.mk hn2;clear hn2;obtain ⟨hc2,hf2,hl2⟩:=hb2.all;(try clear hx0))
    refine bodyPost_ret (v:=.tuple #[Pf.v ⟨f.path,f.ty,f.mode,t⟩,.int .i64 0]) (by simp only [results,Tryz.results47];go_simp) rfl ?_
    exact ⟨_,by rw [HR.out],fun e=>(by rw [HR.out]),EX⟩
   ·have e3':(Qm.joinErr r != 0)=true:=by simpa using e3
    rw [if_neg e3] at HJ
    have HR:Hid (R.2=4):=Lib.hid (by rw [HV3.out,if_pos e3])
    clear HV3 e3 hrl hrz
    generalize Qm.joinErr r=E at *
    go_enter Tryz.func47,Tryz.ntmps47
    have hx:=Ext.refl w
    go_wp2_with (go_at_call 85;refine (HS.out _).mono ?_;rintro e w1 ⟨A,m,c,rfl,⟨hl,hrow⟩,hx0⟩;have HL:=Lib.hid hl;have HRW:=Lib.hid hrow;clear hl hrow;have hy:=Ext.trans (a:=w) EX hx0;clear hx;have hx:=hy;clear hy;have hn0:=BB hx0 (w.heap.size);have hn1:=BB hx0 (w.heap.size+1);have hn2:=BB hx0 (w.heap.size+1+1);(first | simp [↓heap_drew_at,↓heap_drewN_at,↓heap_alloc_at,↓heap_set_at,ne_two,ne_three,ne_two_left,ne_three_left,↓hb0.eq,hb0.lt,hb0.ne,↓hb1.eq,hb1.lt,hb1.ne,↓hb2.eq,hb2.lt,hb2.ne] at hn0 hn1 hn2 | simp [↓heap_drew_at,↓heap_drewN_at,↓heap_alloc_at,↓heap_set_at,ne_two,ne_three,ne_two_left,ne_three_left] at hn0 hn1 hn2);(try clear hb0 hc0 hf0 hl0);(try clear hb1 hc1 hf1 hl1);(try clear hb2 hc2 hf2 hl2);have hb0:=Blk.mk hn0;clear hn0;obtain ⟨hc0,hf0,hl0⟩:=hb0.all;have hb1:=Blk.mk hn1;clear hn1;obtain ⟨hc1,hf1,hl1⟩:=hb1.all;have hb2:=Blk.mk hn2;clear hn2;obtain ⟨hc2,hf2,hl2⟩:=hb2.all;(try clear hx0))
    go_wp2_with (go_at_call 86;refine (HA.out _ _ _ _ _ EX (HL.out.ext ((Ext.refl _).alloc _)) HRW.out (Blk.new' rfl)).mono ?_;rintro e w2 ⟨A',m',c',rfl,hx0,hl2⟩;have HL2:=Lib.hid hl2;clear hl2;have hy:=Ext.trans (a:=w) EX hx0;clear hx;have hx:=hy;clear hy;have hn0:=BB hx0 (w.heap.size);have hn1:=BB hx0 (w.heap.size+1);have hn2:=BB hx0 (w.heap.size+1+1);(first | simp [↓heap_drew_at,↓heap_drewN_at,↓heap_alloc_at,↓heap_set_at,ne_two,ne_three,ne_two_left,ne_three_left,↓hb0.eq,hb0.lt,hb0.ne,↓hb1.eq,hb1.lt,hb1.ne,↓hb2.eq,hb2.lt,hb2.ne] at hn0 hn1 hn2 | simp [↓heap_drew_at,↓heap_drewN_at,↓heap_alloc_at,↓heap_set_at,ne_two,ne_three,ne_two_left,ne_three_left] at hn0 hn1 hn2);(try clear hb0 hc0 hf0 hl0);(try clear hb1 hc1 hf1 hl1);(try clear hb2 hc2 hf2 hl2);have hb0:=Blk.mk hn0;clear hn0;obtain ⟨hc0,hf0,hl0⟩:=hb0.all;have hb1:=Blk.mk hn1;clear hn1;obtain ⟨hc1,hf1,hl1⟩:=hb1.all;have hb2:=Blk.mk hn2;clear hn2;obtain ⟨hc2,hf2,hl2⟩:=hb2.all;(try clear hx0))
    go_wp2_with (go_at_call 87;refine (HJ.out _ _ _ _ HL2.out).mono ?_;rintro e w3 ⟨rfl,hx0⟩;have hy:=Ext.trans (a:=w) EX hx0;clear hx;have hx:=hy;clear hy;have hn0:=BB hx0 (w.heap.size);have hn1:=BB hx0 (w.heap.size+1);have hn2:=BB hx0 (w.heap.size+1+1);(first | simp [↓heap_drew_at,↓heap_drewN_at,↓heap_alloc_at,↓heap_set_at,ne_two,ne_three,ne_two_left,ne_three_left,↓hb0.eq,hb0.lt,hb0.ne,↓hb1.eq,hb1.lt,hb1.ne,↓hb2.eq,hb2.lt,hb2.ne] at hn0 hn1 hn2 | simp [↓heap_drew_at,↓heap_drewN_at,↓heap_alloc_at,↓heap_set_at,ne_two,ne_three,ne_two_left,ne_three_left] at hn0 hn1 hn2);(try clear hb0 hc0 hf0 hl0);(try clear hb1 hc1 hf1 hl1);(try clear hb2 hc2 hf2 hl2);have hb0:=Blk.mk hn0;clear hn0;obtain ⟨hc0,hf0,hl0⟩:=hb0.all;have hb1:=Blk.mk hn1;clear hn1;obtain ⟨hc1,hf1,hl1⟩:=hb1.all;have hb2:=Blk.mk hn2;clear hn2;obtain ⟨hc2,hf2,hl2⟩:=hb2.all;(try clear hx0))
    refine bodyPost_ret (v:=.tuple #[f.v,.int .i64 4]) (by simp only [results,Tryz.results47];go_simp) rfl ?_
    exact ⟨f,by rw [HR.out],fun e=>(by rw [HR.out] at e;cases e),EX⟩
end Go.Proofs.YtfmgnaigcibcaaaGreatDoor
