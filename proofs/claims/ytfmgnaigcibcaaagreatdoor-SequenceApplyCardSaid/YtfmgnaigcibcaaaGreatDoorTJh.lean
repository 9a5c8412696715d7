import Derived.Test.YtfmgnaigcibcaaaGreatDoorTQ5
import Derived.Test.YtfmgnaigcibcaaaGreatDoorTJe
import Derived.Test.YtfmgnaigcibcaaaGreatDoorTYj
import Derived.Test.YtfmgnaigcibcaaaGreatDoorTTe
import Derived.Test.YtfmgnaigcibcaaaGreatDoorTJa
import Derived.Test.YtfmgnaigcibcaaaGreatDoorTQ2
import Derived.Test.YtfmgnaigcibcaaaGreatDoorTQ0
set_option linter.unusedSimpArgs false
set_option linter.unusedVariables false
namespace Go.Proofs.YtfmgnaigcibcaaaGreatDoor
open Go.RowKit
theorem byte_eqb (x c:UInt8):((x.toNat:Int) == (c.toNat:Int))=decide (x=c):=by
 rw [Bool.eq_iff_iff,beq_iff_eq,decide_eq_true_eq]
 constructor
 ·intro h
  exact UInt8.toNat_inj.1 (Int.ofNat.inj h)
 ·rintro rfl
  rfl
theorem byte_slash (x:UInt8):((x.toNat:Int) == 47)=decide (x=47):=byte_eqb x 47
def Qm.parent (s:ByteArray):ByteArray:=if Lib.lastIndexByte s 47 < 0 then ⟨#[]⟩ else s.extract 0 (Lib.lastIndexByte s 47).toNat
theorem last_none {s:ByteArray} (h:∀ j (hj:j < s.size),s[j]≠47):Lib.lastIndexByte s 47 < 0:=by
 rcases Lib.lastIndexByte_spec s 47 with ⟨h',_⟩ | ⟨i,hi,h',hc,_⟩
 ·omega
 ·exfalso
  rw [getElem!_pos s.data i hi] at hc
  exact h i hi (UInt8.toNat_inj.1 (Int.ofNat.inj (show ((s[i].toNat:Nat):Int)=((47:UInt8).toNat:Nat) from hc)))
theorem last_some {s:ByteArray} {k:Nat} (hk:k < s.size) (e:s[k]=47) (h:∀ j (hj:j < s.size),k < j→s[j]≠47):Lib.lastIndexByte s 47=k:=by
 rcases Lib.lastIndexByte_spec s 47 with ⟨_,hn⟩ | ⟨i,hi,h',hc,hn⟩
 ·exfalso
  refine hn k hk ?_
  rw [getElem!_pos s.data k hk]
  show ((s[k].toNat:Nat):Int)=47
  rw [e]
  rfl
 ·rw [h']
  rw [getElem!_pos s.data i hi] at hc
  have hc':s[i]=47:=UInt8.toNat_inj.1 (Int.ofNat.inj (show ((s[i].toNat:Nat):Int)=((47:UInt8).toNat:Nat) from hc))
  rcases Nat.lt_trichotomy i k with hlt | hlt | hlt
  ·exfalso
   refine hn k hlt hk ?_
   rw [getElem!_pos s.data k hk]
   show ((s[k].toNat:Nat):Int)=47
   rw [e]
   rfl
  ·rw [hlt]
  ·exact absurd hc' (h i hi hlt)
set_option maxHeartbeats 2000000 in
theorem rparent_same (s:ByteArray) (w:World) (hs:s.size≤4611686018427387904):
 Calls Tryz.prog 106 #[.string s] w (Same (.string (Qm.parent s)) w):=by
 have HP:Hid (Qm.parent s=if Lib.lastIndexByte s 47 < 0 then ⟨#[]⟩ else s.extract 0 (Lib.lastIndexByte s 47).toNat):=Lib.hid rfl
 generalize Qm.parent s=R at HP ⊢
 go_enter Tryz.func106,Tryz.ntmps106
 have hx:=Ext.refl w
 go_wp2
 go_loop [3] (fun i=>∃ k:Nat,k≤s.size∧i=.int .i64 ((k:Int) - 1)∧Hid (∀ j (hj:j < s.size),k≤j→s[j]≠47)) (fun i=>(intOf i+1).toNat)
 case atStart=>exact ⟨s.size,Nat.le_refl _,rfl,Lib.hid (fun j hj h=>absurd hj (by omega))⟩
 case round=>
  obtain ⟨k,hk,rfl,HA⟩:=hrel
  by_cases hz:k=0
  ·subst hz
   have HR:Hid (R=⟨#[]⟩):=Lib.hid (by rw [HP.out,if_pos (last_none fun j hj=>HA.out j hj (Nat.zero_le _))])
   clear HP HA
   go_wp2
   go_ret
   exact Same.mk (by rw [HR.out];rfl)
  ·obtain ⟨k,rfl⟩:∃ k',k=k'+1:=⟨k - 1,by omega⟩
   have hkk:((k+1:Nat):Int) - 1=k:=by omega
   rw [hkk]
   have hlt:k < s.size:=by omega
   clear hz hkk
   go_wp2
   ·rename_i hc _
    have hc':s[k]=47:=by rw [byte_slash] at hc;exact of_decide_eq_true hc
    have HR:Hid (R=s.extract 0 k):=Lib.hid (by
     have h0:=last_some hlt hc' (fun j hj h=>HA.out j hj (by omega))
     rw [HP.out,h0,if_neg (by omega),Int.toNat_natCast])
    go_ret
    exact Same.mk (by rw [HR.out];rfl)
   ·rename_i hc
    have hc':s[k]≠47:=by rw [byte_slash] at hc;exact of_decide_eq_false hc
    refine ⟨⟨k,by omega,rfl,Lib.hid fun j hj h=>?_⟩,by simp [intOf]⟩
    rcases Nat.eq_or_lt_of_le h with e | e
    ·subst e
     exact hc'
    ·exact HA.out j hj e
end Go.Proofs.YtfmgnaigcibcaaaGreatDoor
namespace Go.Proofs.YtfmgnaigcibcaaaGreatDoor
open Go Go.RowKit
theorem parent_eq (s:ByteArray):Qm.parent s=Tr.parent s:=by
 unfold Qm.parent Tr.parent
 split
 ·rename_i h
  rw [show (Lib.lastIndexByte s 47).toNat=0 by omega]
  apply Pa.L_inj
  rw [Pa.L_extract]
  rfl
 ·rfl
theorem rtparent_any (s:ByteArray) (w:World) (hs:s.size≤4611686018427387904):Calls Tryz.prog 106 #[.string s] w (Ret (.string (Tr.parent s)) w):=by
 rw [← parent_eq]
 exact (rparent_same s w hs).mono fun _ _ h=>⟨h.1,by rw [h.2];exact Ext.refl _⟩
set_option maxHeartbeats 4000000 in
theorem rfile_any (f:Pf) (w:World):Calls Tryz.prog 74 #[f.v] w (Ret (.int .i64 (Tr.element f)) w):=by
 go_enter Tryz.func74,Tryz.ntmps74
 have hx:=Ext.refl w
 go_wp2_with (first | (go_at_call 78;refine (rpath_same _ _).mono ?_;rintro e w1 ⟨rfl,rfl⟩) | (go_at_call 105;refine (rcontent_any _ _ _).mono ?_;rintro e w1 ⟨rfl,hx0⟩;have hy:=Ext.trans (a:=w) EX hx0;clear hx;have hx:=hy;clear hy;have hn0:=BB hx0 (w.heap.size);(first | simp [↓heap_drew_at,↓heap_drewN_at,↓heap_alloc_at,↓heap_set_at,ne_two,ne_three,ne_two_left,ne_three_left,↓hb0.eq,hb0.lt,hb0.ne] at hn0 | simp [↓heap_drew_at,↓heap_drewN_at,↓heap_alloc_at,↓heap_set_at,ne_two,ne_three,ne_two_left,ne_three_left] at hn0);(try clear hb0 hc0 hf0 hl0);have hb0:=Blk.mk hn0;clear hn0;obtain ⟨hc0,hf0,hl0⟩:=hb0.all;(try clear hx0)))
 all_goals (go_ret;refine Ret.mk ?_ ?_;(focus (refine congrArg (Value.int .i64) ?_;unfold Tr.element;repeat' split;all_goals first | rfl | omega | (simp_all [Qm.eqB];done) | (simp_all [Qm.eqB];omega);done));(focus (exact EX;done)))
namespace Tr
def home (t:List Pf) (s:ByteArray):Int:=
 if Qm.eqB (parent s) ⟨#[]⟩ then 0
 else match find t (parent s) with
  | none=>7
  | some f=>if f.ty=4 then 0 else 8
theorem home_iff {t:List Pf} {s:ByteArray} (hs:Srt t):home t s=0 ↔ isDir t (parent s)=true:=by
 unfold home
 rw [isDir_iff]
 by_cases h3:parent s=⟨#[]⟩
 ·rw [if_pos (Qm.eqB_iff.2 h3)]
  exact ⟨fun _=>.inl h3,fun _=>rfl⟩
 ·rw [if_neg (fun k=>h3 (Qm.eqB_iff.1 k))]
  constructor
  ·intro h
   split at h
   ·cases h
   ·rename_i f hf
    split at h
    ·exact .inr ⟨f,(hs.find.1 hf).1,by assumption,(hs.find.1 hf).2⟩
    ·cases h
  ·rintro (h2 | ⟨g,hg,k1,k2⟩)
   ·exact (h3 h2).elim
   ·rw [hs.find.2 ⟨hg,k2⟩]
    simp [k1]
theorem wrong_geq {l:List Pf} {j:Nat} {g:Pf} (h:l[j]?=some g) (f:Pf):wrong (l.take (j+1)) f=!lt g.path f.path:=by
 rw [wrong_succ h,Bool.eq_iff_iff,Bool.or_eq_true,Qm.eqB_iff,Bool.not_eq_true']
 rcases lt_or g.path f.path with k | k | k
 ·rw [k,lt_asymm k]
  simp [(lt_ne k).symm]
 ·rw [k,lt_irrefl]
  simp
 ·rw [k,lt_asymm k]
  simp
end Tr
theorem Trs.take {w:World} {A:Option Addr} {l:List Pf} (h:Trs w A l) (k:Nat):Trs w A (l.take k):=fun h0=>by
 rw [List.length_take] at h0
 obtain ⟨b,o,hA,hb,hr⟩:=h (by omega)
 refine ⟨b,o,hA,hb,fun j v hv=>hr j v ?_⟩
 have e:fl l=fl (l.take k) ++ fl (l.drop k):=by rw [← fl_append,List.take_append_drop]
 rw [e,List.getElem?_append_left (List.getElem?_eq_some_iff.1 hv).1,hv]
set_option maxHeartbeats 8000000 in
set_option maxRecDepth 100000 in
theorem rhome_any (A:Option Addr) (n c:Nat) (s:ByteArray) (l:List Pf) (w:World) (h:Trs w A l) (hn:l.length=n) (hb:n≤10000000000000) (hs:s.size≤1000000):
 Calls Tryz.prog 75 #[.slice A n c,.string s] w (Ret (.int .i64 (Tr.home l s)) w):=by
 have HF:=Lib.hid (fun u W (hW:Ext w W)=>rtfind_any A n c u l W (h.ext hW) hn hb)
 have HP:=Lib.hid (fun W=>rtparent_any s W (by omega))
 clear h hn
 by_cases h2:Tr.parent s=⟨#[]⟩
 ·have hv:Tr.home l s=0:=by unfold Tr.home;rw [if_pos (Qm.eqB_iff.2 h2)]
  rw [hv]
  have H2:=Lib.hid h2
  clear h2 hv
  go_enter Tryz.func75,Tryz.ntmps75
  have hx:=Ext.refl w
  go_wp2_with (go_at_call 106;refine (HP.out _).mono ?_;rintro e w1 ⟨rfl,hx0⟩;rw [H2.out];have hy:=Ext.trans (a:=w) EX hx0;clear hx;have hx:=hy;clear hy hx0)
  (go_ret;refine Ret.mk ?_ ?_;(focus (rfl;done));(focus (exact EX;done)))
 ·have h2':((Tr.parent s).toList == [])=false:=by
   have:=Tr.eqB_ne.2 h2
   unfold Qm.eqB at this
   rwa [show (⟨#[]⟩:ByteArray).toList=[] from by rw [ByteArray.toList_eq]] at this
  have h2'':(Tr.parent s).toList.isEmpty=false:=by
   cases e:(Tr.parent s).toList.isEmpty
   ·rfl
   ·rw [List.isEmpty_iff] at e
    rw [e] at h2'
    cases h2'
  cases h3:Tr.find l (Tr.parent s) with
  | none=>
    have hv:Tr.home l s=7:=by unfold Tr.home;rw [if_neg (fun k=>h2 (Qm.eqB_iff.1 k)),h3]
    rw [hv]
    have H3:=Lib.hid (found_none h3)
    clear h2 h3 hv
    generalize Tr.parent s=u at HP H3 h2' h2''
    go_enter Tryz.func75,Tryz.ntmps75
    have hx:=Ext.refl w
    go_wp2_with (first
     | (go_at_call 44;refine (HF.out _ _ EX).mono ?_;rintro e w1 ⟨rfl,hx0⟩;rw [H3.out];have hy:=Ext.trans (a:=w) EX hx0;clear hx;have hx:=hy;clear hy hx0)
     | (go_at_call 106;refine (HP.out _).mono ?_;rintro e w1 ⟨rfl,hx0⟩;have hy:=Ext.trans (a:=w) EX hx0;clear hx;have hx:=hy;clear hy hx0))
    (go_ret;refine Ret.mk ?_ ?_;(focus (rfl;done));(focus (exact EX;done)))
  | some f=>
    have hv:Tr.home l s=if f.ty=4 then 0 else 8:=by unfold Tr.home;rw [if_neg (fun k=>h2 (Qm.eqB_iff.1 k)),h3]
    rw [hv]
    have H3:=Lib.hid (found_some h3)
    clear h2 h3 hv
    generalize Tr.parent s=u at HP H3 h2' h2''
    go_enter Tryz.func75,Tryz.ntmps75
    have hx:=Ext.refl w
    go_wp2_with (first
     | (go_at_call 44;refine (HF.out _ _ EX).mono ?_;rintro e w1 ⟨rfl,hx0⟩;rw [H3.out];have hy:=Ext.trans (a:=w) EX hx0;clear hx;have hx:=hy;clear hy hx0)
     | (go_at_call 106;refine (HP.out _).mono ?_;rintro e w1 ⟨rfl,hx0⟩;have hy:=Ext.trans (a:=w) EX hx0;clear hx;have hx:=hy;clear hy hx0))
    all_goals (go_ret;refine Ret.mk ?_ ?_;(focus (simp_all;done));(focus (exact EX;done)))
theorem take_full {l:List Pf} {n k:Nat} (hn:l.length=n) (hk:k≤n):(l.take k).length=k:=by
 rw [List.length_take,hn]
 omega
theorem home_bool {t:List Pf} {s:ByteArray} (hs:Tr.Srt t):(Tr.home t s != 0)=!Tr.isDir t (Tr.parent s):=by
 cases h:Tr.isDir t (Tr.parent s)
 ·have:Tr.home t s≠0:=fun k=>by
   rw [(Tr.home_iff hs).1 k] at h
   cases h
  simpa using this
 ·rw [(Tr.home_iff hs).2 h]
  rfl
set_option maxHeartbeats 16000000 in
set_option maxRecDepth 100000 in
theorem rchecktree_any (A:Option Addr) (n c:Nat) (l:List Pf) (w:World) (h:Trs w A l) (hn:l.length=n) (hb:n≤10000000000000) (hcap:n≤c):
 Calls Tryz.prog 41 #[.slice A n c] w (Ret (.int .i64 (Tr.checkTree l)) w):=by
 by_cases h200:200 < n
 ·have hv:Tr.checkTree l=4:=by unfold Tr.checkTree;rw [if_pos (by omega)]
  rw [hv]
  clear h hn hv
  go_enter Tryz.func41,Tryz.ntmps41
  have hx:=Ext.refl w
  go_wp2
  (go_ret;refine Ret.mk ?_ ?_;(focus (rfl;done));(focus (exact EX;done)))
 have hv:Tr.checkTree l=Tr.checkFrom (l.take 0) (l.drop 0):=by unfold Tr.checkTree;rw [if_neg (by omega)];rfl
 rw [hv]
 clear hv
 have HQ:=Lib.hid h
 have HN:=Lib.hid hn
 clear h hn
 go_enter Tryz.func41,Tryz.ntmps41
 have hx:=Ext.refl w
 go_wp2
 have HX0:=Lib.hid hx
 clear hx
 go_loopw [3] (fun i wr=>∃ k:Nat,k≤n∧i=.int .i64 k∧Hid (Ext w wr)∧Hid (Tr.Srt (l.take k))∧Hid (Tr.checkFrom (l.take k) (l.drop k)=Tr.checkFrom (l.take 0) (l.drop 0))) (fun i wr=>n - (intOf i).toNat)
 case atStart=>exact ⟨0,Nat.zero_le _,rfl,HX0,Lib.hid Tr.Srt.nil,Lib.hid rfl⟩
 case round=>
  clear HX0
  obtain ⟨k,hk,rfl,HX,HT,HC⟩:=hrel
  have hx:=HX.out
  by_cases hlt:k < n
  ·have hkl:k < l.length:=by rw [HN.out];exact hlt
   have hf:l[k]?=some (l[k]'hkl):=List.getElem?_eq_getElem hkl
   generalize l[k]'hkl=f at hf
   obtain ⟨b,o,rfl,hbl,c0,c1,c2,c3⟩:=(HQ.out.ext hx).get hf
   have HF:=Lib.hid hf
   clear hf hkl
   by_cases he:Tr.element f=0
   ·have HE:=Lib.hid he
    have hs:f.path.size≤200:=by
     have:=Tr.element_path he
     rw [isPath_pieces,Bool.and_eq_true] at this
     exact of_decide_eq_true this.1
    have HH:=Lib.hid (fun W (hW:Ext w W)=>rhome_any (some ⟨b,o,none⟩) k c f.path (l.take k) W ((HQ.out.ext hW).take k) (take_full HN.out hk) (by omega) (by omega))
    have hst:∃ v:Bool,v=Tr.wrong (l.take k) f∧(k=0∨(0 < k∧∃ g:Pf,Hid (l[k - 1]?=some g)∧wr.cell? ⟨b,o+(k - 1) * 4,none⟩=some (.string g.path)∧Op.bytesLess g.path.toList f.path.toList=!v)):=by
     refine ⟨_,rfl,?_⟩
     rcases k with _ | j
     ·exact .inl rfl
     ·have hj:j < l.length:=by rw [HN.out];omega
      have hg:l[j]?=some (l[j]'hj):=List.getElem?_eq_getElem hj
      obtain ⟨b',o',e',_,d0,_⟩:=(HQ.out.ext HX.out).get hg
      cases e'
      refine .inr ⟨Nat.succ_pos _,_,Lib.hid hg,d0,?_⟩
      rw [Tr.wrong_geq hg,Bool.not_not]
      rfl
    obtain ⟨v,hv,hst⟩:=hst
    have HV:=Lib.hid hv.symm
    have HT2:Hid (v=false→Tr.Srt (l.take (k+1))):=Lib.hid (fun e=>by
     rw [Tr.take_at HF.out]
     exact (Tr.wrong_iff HT.out).1 (HV.out.trans e))
    clear hv he hs
    have hcut:∃ d:Bool,d=Tr.isDir (l.take k) (Tr.parent f.path):=⟨_,rfl⟩
    obtain ⟨dd,hdd⟩:=hcut
    have hdn:(Tr.home (l.take k) f.path != 0)=!dd:=by rw [hdd];exact home_bool HT.out
    have HD:=Lib.hid hdd.symm
    have HO:Hid (v=false→dd=true→Tr.checkFrom (l.take (k+1)) (l.drop (k+1))=Tr.checkFrom (l.take 0) (l.drop 0)):=Lib.hid (fun e1 e2=>by rw [Tr.from_on HF.out HE.out (HV.out.trans e1) (HD.out.trans e2),HC.out])
    clear hdd
    generalize Tr.home (l.take k) f.path=r at HH hdn
    rcases hst with rfl | ⟨hk0,g,HGl,d0,hle⟩
    ·have hv0:v=false:=by rw [← HV.out];rfl
     subst hv0
     simp only [Nat.zero_mul,Nat.add_zero] at c0 c1 c2 c3
     cases dd
     ·go_wp2_with (go_at_call 74;refine (rfile_any f _).mono ?_;rintro e w1 ⟨rfl,hx0⟩;rw [HE.out];have hy:=Ext.trans (a:=w) EX hx0;clear hx;have hx:=hy;clear hy;have HQ1:=Lib.hid hx0;obtain ⟨hcc,hff⟩:=bcell hx0;have hzz:=hx0.size_le;have hbl1:=Nat.lt_of_lt_of_le hbl hzz;clear hx0)
      go_quiet (fail)
      have HC0:=Lib.hid (fun W (hW:Ext (w1.drewN nq) W)=>(hW.cell (p:=⟨b,o,none⟩) (by simpa using hbl1)).trans ((HQ1.out.cell (p:=⟨b,o,none⟩) hbl).trans c0))
      have HC1:=HC0
      have hx2:=Ext.drewN hx nq
      clear hx
      go_wp2_with fail
      refine wp_region_ext (by kernel_rfl) (by kernel_rfl) ?_
      repeat (first | go_big_quiet_skip | (go_big_quiet_want;first | (go_big_quiet_op;go_big_quiet_on) | (apply quiet_at;intro W hW;have hc0:=HC0.out W hW;have hc1:=HC1.out W hW;go_simp;(first | exact rfl | (simp only [Oper.quietUpon,true_and];first | exact rfl | (go_at_call 75;exact quiet_call hW (HH.out _ (hx2.trans hW)) (fun _ _ h=>Ret.bcell h))) | (go_at_call 75;exact quiet_call hW (HH.out _ (hx2.trans hW)) (fun _ _ h=>Ret.bcell h)));go_big_quiet_on;simp only [Act.put,sA,s0,sS])))
      refine wpQuiet_nil ?_
      intro w9 hx9
      have hx:=hx2.trans hx9
      clear hx2 hx9 HC0 HC1
      go_wp2_with fail
      (go_ret;refine Ret.mk ?_ ?_;(focus (rw [Tr.from_none HF.out HE.out HV.out HD.out];rfl;done));(focus (exact EX;done)))
     ·go_wp2_with (go_at_call 74;refine (rfile_any f _).mono ?_;rintro e w1 ⟨rfl,hx0⟩;rw [HE.out];have hy:=Ext.trans (a:=w) EX hx0;clear hx;have hx:=hy;clear hy;have HQ1:=Lib.hid hx0;obtain ⟨hcc,hff⟩:=bcell hx0;have hzz:=hx0.size_le;have hbl1:=Nat.lt_of_lt_of_le hbl hzz;clear hx0)
      go_quiet (fail)
      have HC0:=Lib.hid (fun W (hW:Ext (w1.drewN nq) W)=>(hW.cell (p:=⟨b,o,none⟩) (by simpa using hbl1)).trans ((HQ1.out.cell (p:=⟨b,o,none⟩) hbl).trans c0))
      have HC1:=HC0
      have hx2:=Ext.drewN hx nq
      clear hx
      go_wp2_with fail
      refine wp_region_ext (by kernel_rfl) (by kernel_rfl) ?_
      repeat (first | go_big_quiet_skip | (go_big_quiet_want;first | (go_big_quiet_op;go_big_quiet_on) | (apply quiet_at;intro W hW;have hc0:=HC0.out W hW;have hc1:=HC1.out W hW;go_simp;(first | exact rfl | (simp only [Oper.quietUpon,true_and];first | exact rfl | (go_at_call 75;exact quiet_call hW (HH.out _ (hx2.trans hW)) (fun _ _ h=>Ret.bcell h))) | (go_at_call 75;exact quiet_call hW (HH.out _ (hx2.trans hW)) (fun _ _ h=>Ret.bcell h)));go_big_quiet_on;simp only [Act.put,sA,s0,sS])))
      refine wpQuiet_nil ?_
      intro w9 hx9
      have hx:=hx2.trans hx9
      clear hx2 hx9 HC0 HC1
      go_wp2_with fail
      go_roundw
      case rel=>exact ⟨0+1,by omega,rfl,Lib.hid hx,Lib.hid (HT2.out (by trivial)),Lib.hid (HO.out (by trivial) (by trivial))⟩
      case measure=>simp [intOf];omega
    ·have y1:IntKind.i64.wrap ((k:Int) - 1)=(k:Int) - 1:=IntWalk.i64_in _ (by omega)
     have y2:(0:Int)≤(k:Int) - 1:=by omega
     have y3:((k:Int) - 1).toNat=k - 1:=by omega
     have y4:((k:Int) - 1) < n:=by omega
     have y5:(0:Int) < k:=by omega
     have y6:(k:Int)≤c:=by omega
     have y7:k≤c:=by omega
     cases v
     ·cases dd
      ·go_wp2_with (go_at_call 74;refine (rfile_any f _).mono ?_;rintro e w1 ⟨rfl,hx0⟩;rw [HE.out];have hy:=Ext.trans (a:=w) EX hx0;clear hx;have hx:=hy;clear hy;have HQ1:=Lib.hid hx0;obtain ⟨hcc,hff⟩:=bcell hx0;have hzz:=hx0.size_le;have hbl1:=Nat.lt_of_lt_of_le hbl hzz;clear hx0)
       go_quiet (fail)
       have HC0:=Lib.hid (fun W (hW:Ext (w1.drewN nq) W)=>(hW.cell (p:=⟨b,o+k * 4,none⟩) (by simpa using hbl1)).trans ((HQ1.out.cell (p:=⟨b,o+k * 4,none⟩) hbl).trans c0))
       have HC1:=HC0
       have hx2:=Ext.drewN hx nq
       clear hx
       go_wp2_with fail
       refine wp_region_ext (by kernel_rfl) (by kernel_rfl) ?_
       repeat (first | go_big_quiet_skip | (go_big_quiet_want;first | (go_big_quiet_op;go_big_quiet_on) | (apply quiet_at;intro W hW;have hc0:=HC0.out W hW;have hc1:=HC1.out W hW;go_simp;(first | exact rfl | (simp only [Oper.quietUpon,true_and];first | exact rfl | (go_at_call 75;exact quiet_call hW (HH.out _ (hx2.trans hW)) (fun _ _ h=>Ret.bcell h))) | (go_at_call 75;exact quiet_call hW (HH.out _ (hx2.trans hW)) (fun _ _ h=>Ret.bcell h)));go_big_quiet_on;simp only [Act.put,sA,s0,sS])))
       refine wpQuiet_nil ?_
       intro w9 hx9
       have hx:=hx2.trans hx9
       clear hx2 hx9 HC0 HC1
       go_wp2_with fail
       (go_ret;refine Ret.mk ?_ ?_;(focus (rw [← HC.out,Tr.from_none HF.out HE.out HV.out HD.out];rfl;done));(focus (exact EX;done)))
      ·go_wp2_with (go_at_call 74;refine (rfile_any f _).mono ?_;rintro e w1 ⟨rfl,hx0⟩;rw [HE.out];have hy:=Ext.trans (a:=w) EX hx0;clear hx;have hx:=hy;clear hy;have HQ1:=Lib.hid hx0;obtain ⟨hcc,hff⟩:=bcell hx0;have hzz:=hx0.size_le;have hbl1:=Nat.lt_of_lt_of_le hbl hzz;clear hx0)
       go_quiet (fail)
       have HC0:=Lib.hid (fun W (hW:Ext (w1.drewN nq) W)=>(hW.cell (p:=⟨b,o+k * 4,none⟩) (by simpa using hbl1)).trans ((HQ1.out.cell (p:=⟨b,o+k * 4,none⟩) hbl).trans c0))
       have HC1:=HC0
       have hx2:=Ext.drewN hx nq
       clear hx
       go_wp2_with fail
       refine wp_region_ext (by kernel_rfl) (by kernel_rfl) ?_
       repeat (first | go_big_quiet_skip | (go_big_quiet_want;first | (go_big_quiet_op;go_big_quiet_on) | (apply quiet_at;intro W hW;have hc0:=HC0.out W hW;have hc1:=HC1.out W hW;go_simp;(first | exact rfl | (simp only [Oper.quietUpon,true_and];first | exact rfl | (go_at_call 75;exact quiet_call hW (HH.out _ (hx2.trans hW)) (fun _ _ h=>Ret.bcell h))) | (go_at_call 75;exact quiet_call hW (HH.out _ (hx2.trans hW)) (fun _ _ h=>Ret.bcell h)));go_big_quiet_on;simp only [Act.put,sA,s0,sS])))
       refine wpQuiet_nil ?_
       intro w9 hx9
       have hx:=hx2.trans hx9
       clear hx2 hx9 HC0 HC1
       go_wp2_with fail
       go_roundw
       case rel=>exact ⟨k+1,by omega,rfl,Lib.hid hx,Lib.hid (HT2.out (by trivial)),Lib.hid (HO.out (by trivial) (by trivial))⟩
       case measure=>simp [intOf];omega
     ·go_wp2_with (go_at_call 74;refine (rfile_any f _).mono ?_;rintro e w1 ⟨rfl,hx0⟩;rw [HE.out];have hy:=Ext.trans (a:=w) EX hx0;clear hx;have hx:=hy;clear hy;have HQ1:=Lib.hid hx0;obtain ⟨hcc,hff⟩:=bcell hx0;have hzz:=hx0.size_le;have hbl1:=Nat.lt_of_lt_of_le hbl hzz;clear hx0)
      go_quiet (fail)
      go_wp2
      (go_ret;refine Ret.mk ?_ ?_;(focus (rw [← HC.out,Tr.from_wrong HF.out HE.out HV.out];rfl;done));(focus (exact EX;done)))
   ·have HE:=Lib.hid he
    have he2:(Tr.element f != 0)=true:=by simpa using he
    clear he
    go_wp2_with (go_at_call 74;refine (rfile_any f _).mono ?_;rintro e w1 ⟨rfl,hx0⟩;have hy:=Ext.trans (a:=w) EX hx0;clear hx;have hx:=hy;clear hy hx0)
    (go_ret;refine Ret.mk ?_ ?_;(focus (rw [← HC.out,Tr.from_element HF.out HE.out];rfl;done));(focus (exact EX;done)))
  ·have hkn:k=n:=by omega
   subst hkn
   have HZ:Hid (Tr.checkFrom (l.take 0) (l.drop 0)=0):=Lib.hid (by
    rw [← HC.out,List.drop_eq_nil_of_le (by rw [HN.out];exact Nat.le_refl _)]
    rfl)
   go_wp2
   (go_ret;refine Ret.mk ?_ ?_;(focus (rw [HZ.out];rfl;done));(focus (exact EX;done)))
end Go.Proofs.YtfmgnaigcibcaaaGreatDoor
namespace Go.Proofs.YtfmgnaigcibcaaaGreatDoor
open Go Go.RowKit
theorem info_file:(Tryz.prog.info? 61).map (fun i=>(i.zero,i.size,i.bytes))=some (some (.agg #[.string ⟨#[]⟩,.int .i64 0,.int .i64 0,.string ⟨#[]⟩]),4,48):=by kernel_rfl
theorem run_append_trs (w:World) (ty:TypeId) (base n:Nat) (v:Value) (l0:List Pf) (hown:w.ownsRow base 61 4 v n (fl l0)) (hb:base≤w.heap.size) (A:Option Addr) (m c:Nat) (l:List Pf) (hl:Trs w A l) (hlm:l.length=m) (hn:n≤1000000) (hm:m≤1000000):
 ∃ v' w',(Builtin.append_ #[23,23] ty #[v,.slice A m c]).run Tryz.prog w=.ok v' w'∧w'.ownsRow base 61 4 v' (n+m) (fl (l0 ++ l))∧w.grownBy w' v.ownBlock:=by
 obtain ⟨i0,hi,hz0,hz1,hz2⟩:=info_parts info_file
 by_cases h0:m=0
 ·subst h0
  obtain rfl:=List.length_eq_zero_iff.1 hlm
  refine ⟨v,w,?_,by simpa using hown,World.grownBy.refl _ _⟩
  cases A with
  | none=>
    rcases hown.2 with ⟨rfl,rfl⟩ | ⟨g,cap,cur,rfl,_,_,hnc,_⟩
    ·simp [Builtin.append_,run_underlying Tryz.underlying23,sizeOf,typeInfo,hi,Builtin.lenOf,Builtin.firstCells]
    ·simp [Builtin.append_,run_underlying Tryz.underlying23,sizeOf,typeInfo,hi,Builtin.lenOf,Builtin.firstCells,hnc,storeCells]
  | some ad=>exact run_append_zeroT base 23 ty 61 i0 4 Tryz.underlying23 hi v n _ hown ad c
 ·obtain ⟨b,o,rfl,_,hr⟩:=hl (by omega)
  obtain ⟨v',w',e1,e2,e3,_⟩:=run_append_own w base 23 ty 61 i0 _ 4 48 Tryz.underlying23 hi hz0 hz1 hz2 rfl (by decide) v n (fl l0) hown ⟨b,o,none⟩ m c (fl l) (by rw [fl_length,hlm]) (fun j u hu=>by rw [Addr.add_lit];exact hr j u hu) fl_one (by unfold maxLen;omega) (by omega) hb
  exact ⟨v',w',e1,by rw [fl_append];exact e2,e3⟩
theorem wpList_append_trs {w:World} {ops:Array Oper} {rest:List Oper} {o:Oper} {a:Act} {Q:Exit→Act→World→Prop} (hgd:o.guard=none) (s x:Operand)
 (ho:o.op=.call { callee:=.builtin .append,args:=#[s,x],argTypes:=#[23,23] })
 (base n:Nat) (v:Value) (l0:List Pf) (hs:a.eval s=v) (hown:w.ownsRow base 61 4 v n (fl l0)) (hb:base≤w.heap.size) (A:Option Addr) (m c:Nat) (l:List Pf) (hx:a.eval x=.slice A m c) (hl:Trs w A l) (hlm:l.length=m) (hn:n≤1000000) (hm:m≤1000000)
 (h:∀ v' w',w'.ownsRow base 61 4 v' (n+m) (fl (l0 ++ l))→w.grownBy w' v.ownBlock→wpList Tryz.prog ops Q rest (a.put o.dst v') w'):wpList Tryz.prog ops Q (o :: rest) a w:=by
 refine wpList_plain hgd fun K hK=>?_
 obtain ⟨v',w',hr,h2,h3⟩:=run_append_trs w o.type base n v l0 hown hb A m c l hl hlm hn hm
 unfold Oper.wp execOp
 simp only [ho,resolve,invoke,builtin,Sem.run_bind,Sem.run_pure,Result.andThen_ok,List.map_toArray,List.map_cons,List.map_nil,hs,hx,hr]
 exact hK _ _ (h v' w' h2 h3)
theorem trs_of_own {W:World} {B:Nat} {v:Value} {n:Nat} {l:List Pf} (h:W.ownsRow B 61 4 v n (fl l)) (hn:l.length=n):∃ A c,v=.slice A n c∧Trs W A l∧Hi B A∧n≤c:=by
 rcases h.2 with ⟨rfl,h0⟩ | ⟨g,cap,cur,rfl,hb,hg,hnc,rest⟩
 ·exact ⟨none,0,by rw [h0],fun hp=>by omega,fun a ha=>(nomatch ha),by omega⟩
 ·refine ⟨some ⟨g,0,none⟩,cap,rfl,fun _=>⟨g,0,rfl,(Array.getElem?_eq_some_iff.1 hg).1,fun j u hu=>?_⟩,fun a ha=>(by cases ha;exact hb),hnc⟩
  have:=h.cells (g:=g) rfl j u hu
  rw [Addr.add_lit] at this
  exact this
theorem own_none (W:World):(W.alloc (.cells #[] 61)).ownsRow W.heap.size 61 4 (.slice (some ⟨W.heap.size,0,none⟩) 0 0) 0 (fl []):=
 ⟨rfl,.inr ⟨W.heap.size,0,#[],rfl,Nat.le_refl _,heap_alloc_new _ _,Nat.le_refl _,Nat.zero_le _,rfl,rfl⟩⟩
theorem ownsRow_ext' {w w':World} {base e size n:Nat} {v:Value} {xs:List Value} (h:w.ownsRow base e size v n xs) (hx:Ext w w'):w'.ownsRow base e size v n xs:=by
 refine ⟨h.1,?_⟩
 rcases h.2 with h0 | ⟨g,cap,cur,rfl,hb,hg,rest⟩
 ·exact .inl h0
 ·exact .inr ⟨g,cap,cur,rfl,hb,(Below.block hx g (Array.getElem?_eq_some_iff.1 hg).1).trans hg,rest⟩
theorem trs_one {W:World} (f:Pf):Trs (W.alloc (.cells f.arr 61)) (some ⟨W.heap.size,0,none⟩) [f]:=fun _=>
 ⟨W.heap.size,0,rfl,by simp,fun j u hu=>by
  have hb:Blk (W.alloc (.cells f.arr 61)) W.heap.size 61 f.arr:=Blk.new' rfl
  rw [fl_sing,Array.getElem?_toList] at hu
  rw [hb.cell,Nat.zero_add]
  exact hu⟩
theorem Trs.cut {w:World} {A:Option Addr} {n c:Nat} {l:List Pf} (h:Trs w A l) (hn:l.length=n) (hc:n≤c) {b o:Nat} (hA:A=some ⟨b,o,none⟩) {i:Nat} (hi:i≤n):Trs w (if c=i then some ⟨b,o,none⟩ else some ⟨b,o+i * 4,none⟩) (l.drop i):=by
 subst hA
 intro hp
 have hlt:i < n:=by simp at hp;omega
 rw [if_neg (by omega)]
 obtain ⟨b',o',e,hb,hr⟩:=h (by omega)
 cases e
 refine ⟨b,o+i * 4,rfl,hb,fun j u hu=>?_⟩
 have h1:fl l=fl (l.take i) ++ fl (l.drop i):=by rw [← fl_append,List.take_append_drop]
 have h2:(fl (l.take i)).length=i * 4:=by rw [fl_length,List.length_take];omega
 have:=hr (i * 4+j) u (by rw [h1,List.getElem?_append_right (by omega),h2,Nat.add_sub_cancel_left];exact hu)
 rwa [← Nat.add_assoc] at this
theorem Trs.front {w:World} {A:Option Addr} {l:List Pf} (h:Trs w A l) (k:Nat):Trs w A (l.take k):=fun h0=>by
 have hp:0 < l.length:=by
  rw [List.length_take] at h0
  omega
 obtain ⟨b,o,e,hb,hr⟩:=h hp
 refine ⟨b,o,e,hb,fun j u hu=>?_⟩
 have h1:fl l=fl (l.take k) ++ fl (l.drop k):=by rw [← fl_append,List.take_append_drop]
 have hj:=(List.getElem?_eq_some_iff.1 hu).1
 exact hr j u (by rw [h1,List.getElem?_append_left hj];exact hu)
namespace Tr
theorem putIn_at (f:Pf):∀ {l:List Pf} {k:Nat},k≤l.length→(∀ j g,j < k→l[j]?=some g→lt g.path f.path=true)→(∀ g,l[k]?=some g→lt g.path f.path=false) →
 putIn f l=l.take k ++ f :: (if (match l[k]? with | some g=>Qm.eqB g.path f.path | none=>false)=true then l.drop (k+1) else l.drop k)
 | [],k,hk,_,_=>by
   obtain rfl:k=0:=by simpa using hk
   rfl
 | g :: r,0,_,_,h2=>by
   unfold putIn
   rw [if_neg (by rw [h2 g rfl];simp)]
   show _=[] ++ f :: (if Qm.eqB g.path f.path=true then _ else _)
   cases Qm.eqB g.path f.path <;> rfl
 | g :: r,k+1,hk,h1,h2=>by
   unfold putIn
   rw [if_pos (h1 0 g (by omega) rfl),putIn_at f (l:=r) (k:=k) (by simpa using hk) (fun j x hj hx=>h1 (j+1) x (by omega) (by simpa using hx)) (fun x hx=>h2 x (by simpa using hx))]
   rfl
end Tr
def GivesR (r:List Pf) (w:World) (e:Ending) (w':World):Prop:=∃ A n c,e=.returned (.slice A n c)∧n=r.length∧n≤c∧Hid (Trs w' A r∧Hi w.heap.size A)∧Ext w w'
set_option maxHeartbeats 8000000 in
set_option maxRecDepth 100000 in
theorem rwith_some (b o n c:Nat) (l:List Pf) (f:Pf) (w:World) (h:Trs w (some ⟨b,o,none⟩) l) (hn:l.length=n) (hc:n≤c) (hb:n≤100000):
 Calls Tryz.prog 48 #[.slice (some ⟨b,o,none⟩) n c,f.v] w (GivesR (Tr.putIn f l) w):=by
 have HQ:=Lib.hid h
 have HN:=Lib.hid hn
 have HB0:Hid (Blk (w.alloc (.cells f.arr 61)) w.heap.size 61 f.arr):=Lib.hid (Blk.new' rfl)
 have HX0:=Lib.hid ((Ext.refl w).alloc (.cells f.arr 61))
 have HR:=Lib.hid (fun k=>Tr.putIn_at f (l:=l) (k:=k))
 generalize hP:GivesR (Tr.putIn f l) w=P
 have HP:=Lib.hid hP
 clear h hn hP
 have HCUT:=Lib.hid (fun W (hW:Ext w W) i (hi:i≤n)=>(HQ.out.ext hW).cut HN.out hc rfl hi)
 go_enter Tryz.func48,Tryz.ntmps48
 have hx:=Ext.refl w
 go_wp2_with fail
 clear hx
 go_loopw [5] (fun i wr=>∃ k:Nat,k≤n∧i=.int .i64 k∧Hid (∀ (j:Nat) (g:Pf),j < k→l[j]?=some g→Tr.lt g.path f.path=true)∧Hid (Ext (w.alloc (.cells f.arr 61)) wr)) (fun i wr=>n - (intOf i).toNat)
 case atStart=>exact ⟨0,Nat.zero_le _,rfl,Lib.hid (fun j g hj=>absurd hj (Nat.not_lt_zero j)),Lib.hid (Ext.refl _)⟩
 case round=>
  obtain ⟨k,hk,rfl,HL,HX⟩:=hrel
  by_cases hgo:∃ g,l[k]?=some g∧Tr.lt g.path f.path=true
  ·obtain ⟨g,hg,he⟩:=hgo
   have hlt:k < n:=by rw [← HN.out];exact (List.getElem?_eq_some_iff.1 hg).1
   have HG:=Lib.hid hg
   have HC0:=Lib.hid (fun W (hW:Ext wr W)=>(HB0.out.ext (HX.out.trans hW)).cell)
   have HC1:Hid (∀ W,Ext wr W→W.cell? ⟨b,o+k * 4,none⟩=some (.string g.path)):=Lib.hid (fun W hW=>(((HQ.out.ext (HX0.out.trans (HX.out.trans hW))).get HG.out).elim fun b' h=>h.elim fun o' h=>by obtain ⟨e,_,h,_⟩:=h;cases e;exact h))
   have HL2:Hid (∀ (j:Nat) (x:Pf),j < k+1→l[j]?=some x→Tr.lt x.path f.path=true):=Lib.hid (fun j x hj hx=>by
    rcases Nat.lt_succ_iff_lt_or_eq.1 hj with h1 | rfl
    ·exact HL.out j x h1 hx
    ·rw [hg] at hx
     obtain rfl:=Option.some.inj hx
     exact he)
   have he':Op.bytesLess g.path.toList f.path.toList=true:=he
   clear he hg
   go_wp2_with fail
   refine wp_region_ext (by kernel_rfl) (by kernel_rfl) ?_
   repeat (first | go_big_quiet_skip | (go_big_quiet_want;first | (go_big_quiet_op;go_big_quiet_on) | (apply quiet_at;intro W hW;have hc0:=HC0.out W hW;have hc1:=HC1.out W hW;go_simp;(first | exact rfl | (simp only [Oper.quietUpon,true_and];first | exact rfl | (fail)) | (fail));go_big_quiet_on;simp only [Act.put,sA,s0,sS])))
   refine wpQuiet_nil ?_
   intro w2 hx2
   have HX2:=Lib.hid (HX.out.trans hx2)
   clear hx2
   go_wp2_with fail
   exact ⟨⟨k+1,by omega,rfl,HL2,HX2⟩,by simp [intOf];omega⟩
  ·have HOUT:Hid (∀ g,l[k]?=some g→Tr.lt g.path f.path=false):=Lib.hid (fun g hg=>by
    cases e:Tr.lt g.path f.path
    ·rfl
    ·exact (hgo ⟨g,hg,e⟩).elim)
   clear hgo
   have HPUT:=Lib.hid (HR.out k (by rw [HN.out];exact hk) HL.out HOUT.out)
   have HXr:Hid (Ext w wr):=Lib.hid (HX0.out.trans HX.out)
   clear HR HL
   have hreg:∃ w2,Ext wr w2:=⟨wr,Ext.refl _⟩
   clear hreg
   by_cases hlt:k < n
   ·have hkl:k < l.length:=by rw [HN.out];exact hlt
    have hg:l[k]?=some (l[k]'hkl):=List.getElem?_eq_getElem hkl
    generalize l[k]'hkl=g at hg
    have HG:=Lib.hid hg
    clear hg hkl
    have he':Op.bytesLess g.path.toList f.path.toList=false:=HOUT.out g HG.out
    have HC0:=Lib.hid (fun W (hW:Ext wr W)=>(HB0.out.ext (HX.out.trans hW)).cell)
    have HC1:Hid (∀ W,Ext wr W→W.cell? ⟨b,o+k * 4,none⟩=some (.string g.path)):=Lib.hid (fun W hW=>(((HQ.out.ext (HX0.out.trans (HX.out.trans hW))).get HG.out).elim fun b' h=>h.elim fun o' h=>by obtain ⟨e,_,h,_⟩:=h;cases e;exact h))
    go_wp2_with fail
    refine wp_region_ext (by kernel_rfl) (by kernel_rfl) ?_
    repeat (first | go_big_quiet_skip | (go_big_quiet_want;first | (go_big_quiet_op;go_big_quiet_on) | (apply quiet_at;intro W hW;have hc0:=HC0.out W hW;have hc1:=HC1.out W hW;go_simp;(first | exact rfl | (simp only [Oper.quietUpon,true_and];first | exact rfl | (fail)) | (fail));go_big_quiet_on;simp only [Act.put,sA,s0,sS])))
    refine wpQuiet_nil ?_
    intro w2 hx2
    have HX2:=Lib.hid (HXr.out.trans hx2)
    have HB2:=Lib.hid (HB0.out.ext (HX.out.trans hx2))
    clear hx2
    have hx:=Ext.refl w2
    go_wp2_with (at_builtin;first
     | (refine wpList_append_trs rfl (.tmp 23) (.tmp 26) rfl w2.heap.size 0 _ [] rfl (own_none w2) (by simp) (some ⟨b,o,none⟩) k c (l.take k) rfl (((HQ.out.ext HX2.out).front k).ext EX) (by rw [List.length_take,HN.out];omega) (by omega) (by omega) ?_;intro v4 w4 hown4 hg4;have hx4:=grownBy_ext hg4 w2 EX (fun b' e=>by cases e;exact Nat.le_refl _);have HX4:=Lib.hid hx4;have hsz4:=hx4.size_le;obtain ⟨hc4,hf4,hl4⟩:=(HB2.out.ext hx4).all;clear hx hx4)
     | (refine wpList_append_trs rfl (.tmp 28) (.tmp 30) rfl w2.heap.size (0+k) v4 ([] ++ l.take k) rfl (ownsRow_ext' hown4 ((Ext.refl w4).alloc _)) (by simp;omega) (some ⟨w4.heap.size,0,none⟩) 1 1 [f] rfl (trs_one f) rfl (by omega) (by omega) ?_;intro v5 w5 hown5 hg5;have hx52:=grownBy_ext hg5 w2 (HX4.out.alloc _) (fun b' e=>(hown4.lt b' e).1);have HX52:=Lib.hid hx52;have HO5:=Lib.hid hown5;have hsz5:=hx52.size_le;clear hc4 hf4 hl4 hown5 hx52))
    have HX5:=Lib.hid (HX2.out.trans HX52.out)
    cases heq:Qm.eqB g.path f.path
    ·have heq':(g.path.toList == f.path.toList)=false:=heq
     have HC0:=Lib.hid (fun W (hW:Ext w5 W)=>(HB2.out.ext (HX52.out.trans hW)).cell)
     have HC1:Hid (∀ W,Ext w5 W→W.cell? ⟨b,o+k * 4,none⟩=some (.string g.path)):=Lib.hid (fun W hW=>(((HQ.out.ext (HX5.out.trans hW)).get HG.out).elim fun b' h=>h.elim fun o' h=>by obtain ⟨e,_,h,_⟩:=h;cases e;exact h))
     go_wp2_with fail
     refine wp_region_ext (by kernel_rfl) (by kernel_rfl) ?_
     repeat (first | go_big_quiet_skip | (go_big_quiet_want;first | (go_big_quiet_op;go_big_quiet_on) | (apply quiet_at;intro W hW;have hc0:=HC0.out W hW;have hc1:=HC1.out W hW;go_simp;(first | exact rfl | (simp only [Oper.quietUpon,true_and];first | exact rfl | (fail)) | (fail));go_big_quiet_on;simp only [Act.put,sA,s0,sS])))
     refine wpQuiet_nil ?_
     intro w6 hx6
     clear HC0 HC1
     have HX6:=Lib.hid (HX5.out.trans hx6)
     have HX62:=Lib.hid (HX52.out.trans hx6)
     have HD:=Lib.hid (HCUT.out w6 HX6.out (k) (by omega))
     have HD2:Hid (k < c→Trs w6 (some ⟨b,o+(k) * 4,none⟩) (l.drop (k))):=Lib.hid (fun e=>by have :=HD.out;rwa [if_neg (by omega)] at this)
     have hsz6:=HX62.out.size_le
     have hO6:=ownsRow_ext' HO5.out hx6
     have HPV:Hid (Tr.putIn f l=(([] ++ l.take k) ++ [f]) ++ l.drop (k)):=Lib.hid (by rw [HPUT.out];rw [HG.out];dsimp only;rw [if_neg (by rw [heq];simp)];simp)
     clear hx6
     have hx:=Ext.refl w6
     go_wp2_with (at_builtin;refine wpList_append_trs rfl (.tmp 48) (.tmp 51) rfl w2.heap.size (0+k+1) v5 (([] ++ l.take k) ++ [f]) rfl hO6 hsz6 _ (n - (k)) (c - (k)) (l.drop (k)) rfl (by first | with_reducible exact HD.out | with_reducible exact HD2.out (by omega)) (by rw [List.length_drop,HN.out]) (by omega) (by omega) ?_;intro v7 w7 hown7 hg7)
     all_goals
      have hx7:=grownBy_ext hg7 w2 HX62.out (fun b' e=>(hO6.lt b' e).1)
      rw [← HPV.out] at hown7
      obtain ⟨A7,c7,rfl,hs7,hi7,hc7⟩:=trs_of_own hown7 (by rw [HPV.out];simp [HN.out];omega)
      rw [← HP.out]
      exact ⟨A7,_,c7,rfl,by rw [HPV.out];simp [HN.out];omega,hc7,Lib.hid ⟨hs7,hi7.le HX2.out.size_le⟩,HX2.out.trans hx7⟩
    ·have heq':(g.path.toList == f.path.toList)=true:=heq
     have HC0:=Lib.hid (fun W (hW:Ext w5 W)=>(HB2.out.ext (HX52.out.trans hW)).cell)
     have HC1:Hid (∀ W,Ext w5 W→W.cell? ⟨b,o+k * 4,none⟩=some (.string g.path)):=Lib.hid (fun W hW=>(((HQ.out.ext (HX5.out.trans hW)).get HG.out).elim fun b' h=>h.elim fun o' h=>by obtain ⟨e,_,h,_⟩:=h;cases e;exact h))
     go_wp2_with fail
     refine wp_region_ext (by kernel_rfl) (by kernel_rfl) ?_
     repeat (first | go_big_quiet_skip | (go_big_quiet_want;first | (go_big_quiet_op;go_big_quiet_on) | (apply quiet_at;intro W hW;have hc0:=HC0.out W hW;have hc1:=HC1.out W hW;go_simp;(first | exact rfl | (simp only [Oper.quietUpon,true_and];first | exact rfl | (fail)) | (fail));go_big_quiet_on;simp only [Act.put,sA,s0,sS])))
     refine wpQuiet_nil ?_
     intro w6 hx6
     clear HC0 HC1
     have HX6:=Lib.hid (HX5.out.trans hx6)
     have HX62:=Lib.hid (HX52.out.trans hx6)
     have HD:=Lib.hid (HCUT.out w6 HX6.out (k+1) (by omega))
     have HD2:Hid (k+1 < c→Trs w6 (some ⟨b,o+(k+1) * 4,none⟩) (l.drop (k+1))):=Lib.hid (fun e=>by have :=HD.out;rwa [if_neg (by omega)] at this)
     have hsz6:=HX62.out.size_le
     have hO6:=ownsRow_ext' HO5.out hx6
     have HPV:Hid (Tr.putIn f l=(([] ++ l.take k) ++ [f]) ++ l.drop (k+1)):=Lib.hid (by rw [HPUT.out];rw [HG.out];dsimp only;rw [if_pos heq];simp)
     clear hx6
     have hx:=Ext.refl w6
     go_wp2_with (at_builtin;refine wpList_append_trs rfl (.tmp 48) (.tmp 51) rfl w2.heap.size (0+k+1) v5 (([] ++ l.take k) ++ [f]) rfl hO6 hsz6 _ (n - (k+1)) (c - (k+1)) (l.drop (k+1)) rfl (by first | with_reducible exact HD.out | with_reducible exact HD2.out (by omega)) (by rw [List.length_drop,HN.out]) (by omega) (by omega) ?_;intro v7 w7 hown7 hg7)
     all_goals
      have hx7:=grownBy_ext hg7 w2 HX62.out (fun b' e=>(hO6.lt b' e).1)
      rw [← HPV.out] at hown7
      obtain ⟨A7,c7,rfl,hs7,hi7,hc7⟩:=trs_of_own hown7 (by rw [HPV.out];simp [HN.out];omega)
      rw [← HP.out]
      exact ⟨A7,_,c7,rfl,by rw [HPV.out];simp [HN.out];omega,hc7,Lib.hid ⟨hs7,hi7.le HX2.out.size_le⟩,HX2.out.trans hx7⟩
   ·have HC0:=Lib.hid (fun W (hW:Ext wr W)=>(HB0.out.ext (HX.out.trans hW)).cell)
    have HC1:=HC0
    go_wp2_with fail
    refine wp_region_ext (by kernel_rfl) (by kernel_rfl) ?_
    repeat (first | go_big_quiet_skip | (go_big_quiet_want;first | (go_big_quiet_op;go_big_quiet_on) | (apply quiet_at;intro W hW;have hc0:=HC0.out W hW;have hc1:=HC1.out W hW;go_simp;(first | exact rfl | (simp only [Oper.quietUpon,true_and];first | exact rfl | (fail)) | (fail));go_big_quiet_on;simp only [Act.put,sA,s0,sS])))
    refine wpQuiet_nil ?_
    intro w2 hx2
    have HX2:=Lib.hid (HXr.out.trans hx2)
    have HB2:=Lib.hid (HB0.out.ext (HX.out.trans hx2))
    clear hx2
    have hx:=Ext.refl w2
    go_wp2_with (at_builtin;first
     | (refine wpList_append_trs rfl (.tmp 23) (.tmp 26) rfl w2.heap.size 0 _ [] rfl (own_none w2) (by simp) (some ⟨b,o,none⟩) k c (l.take k) rfl (((HQ.out.ext HX2.out).front k).ext EX) (by rw [List.length_take,HN.out];omega) (by omega) (by omega) ?_;intro v4 w4 hown4 hg4;have hx4:=grownBy_ext hg4 w2 EX (fun b' e=>by cases e;exact Nat.le_refl _);have HX4:=Lib.hid hx4;have hsz4:=hx4.size_le;obtain ⟨hc4,hf4,hl4⟩:=(HB2.out.ext hx4).all;clear hx hx4)
     | (refine wpList_append_trs rfl (.tmp 28) (.tmp 30) rfl w2.heap.size (0+k) v4 ([] ++ l.take k) rfl (ownsRow_ext' hown4 ((Ext.refl w4).alloc _)) (by simp;omega) (some ⟨w4.heap.size,0,none⟩) 1 1 [f] rfl (trs_one f) rfl (by omega) (by omega) ?_;intro v5 w5 hown5 hg5;have hx52:=grownBy_ext hg5 w2 (HX4.out.alloc _) (fun b' e=>(hown4.lt b' e).1);have HX52:=Lib.hid hx52;have HO5:=Lib.hid hown5;have hsz5:=hx52.size_le;clear hc4 hf4 hl4 hown5 hx52))
    have HX5:=Lib.hid (HX2.out.trans HX52.out)
    have HC0:=Lib.hid (fun W (hW:Ext w5 W)=>(HB2.out.ext (HX52.out.trans hW)).cell)
    have HC1:=HC0
    go_wp2_with fail
    refine wp_region_ext (by kernel_rfl) (by kernel_rfl) ?_
    repeat (first | go_big_quiet_skip | (go_big_quiet_want;first | (go_big_quiet_op;go_big_quiet_on) | (apply quiet_at;intro W hW;have hc0:=HC0.out W hW;have hc1:=HC1.out W hW;go_simp;(first | exact rfl | (simp only [Oper.quietUpon,true_and];first | exact rfl | (fail)) | (fail));go_big_quiet_on;simp only [Act.put,sA,s0,sS])))
    refine wpQuiet_nil ?_
    intro w6 hx6
    clear HC0 HC1
    have HX6:=Lib.hid (HX5.out.trans hx6)
    have HX62:=Lib.hid (HX52.out.trans hx6)
    have HD:=Lib.hid (HCUT.out w6 HX6.out (k) (by omega))
    have HD2:Hid (k < c→Trs w6 (some ⟨b,o+(k) * 4,none⟩) (l.drop (k))):=Lib.hid (fun e=>by have :=HD.out;rwa [if_neg (by omega)] at this)
    have hsz6:=HX62.out.size_le
    have hO6:=ownsRow_ext' HO5.out hx6
    have HPV:Hid (Tr.putIn f l=(([] ++ l.take k) ++ [f]) ++ l.drop (k)):=Lib.hid (by rw [HPUT.out];rw [List.getElem?_eq_none (by rw [HN.out];omega)];dsimp only;rw [if_neg (by simp)];simp [HN.out])
    clear hx6
    have hx:=Ext.refl w6
    go_wp2_with (at_builtin;refine wpList_append_trs rfl (.tmp 48) (.tmp 51) rfl w2.heap.size (0+k+1) v5 (([] ++ l.take k) ++ [f]) rfl hO6 hsz6 _ (n - (k)) (c - (k)) (l.drop (k)) rfl (by first | with_reducible exact HD.out | with_reducible exact HD2.out (by omega)) (by rw [List.length_drop,HN.out]) (by omega) (by omega) ?_;intro v7 w7 hown7 hg7)
    all_goals
     have hx7:=grownBy_ext hg7 w2 HX62.out (fun b' e=>(hO6.lt b' e).1)
     rw [← HPV.out] at hown7
     obtain ⟨A7,c7,rfl,hs7,hi7,hc7⟩:=trs_of_own hown7 (by rw [HPV.out];simp [HN.out];omega)
     rw [← HP.out]
     exact ⟨A7,_,c7,rfl,by rw [HPV.out];simp [HN.out];omega,hc7,Lib.hid ⟨hs7,hi7.le HX2.out.size_le⟩,HX2.out.trans hx7⟩
set_option maxHeartbeats 8000000 in
set_option maxRecDepth 100000 in
theorem rwith_nil (c:Nat) (f:Pf) (w:World):
 Calls Tryz.prog 48 #[.slice none 0 c,f.v] w (GivesR [f] w):=by
 have HB0:Hid (Blk (w.alloc (.cells f.arr 61)) w.heap.size 61 f.arr):=Lib.hid (Blk.new' rfl)
 have HX0:=Lib.hid ((Ext.refl w).alloc (.cells f.arr 61))
 generalize hP:GivesR [f] w=P
 have HP:=Lib.hid hP
 clear hP
 go_enter Tryz.func48,Tryz.ntmps48
 have hx:=Ext.refl w
 go_wp2_with fail
 clear hx
 refine wp_loop_rounds 1 ?_
 rw [rounds_succ]
 have HC0:=Lib.hid (fun W (hW:Ext (w.alloc (.cells f.arr 61)) W)=>(HB0.out.ext hW).cell)
 have HC1:=HC0
 go_wp2_with fail
 refine wp_region_ext (by kernel_rfl) (by kernel_rfl) ?_
 repeat (first | go_big_quiet_skip | (go_big_quiet_want;first | (go_big_quiet_op;go_big_quiet_on) | (apply quiet_at;intro W hW;have hc0:=HC0.out W hW;have hc1:=HC1.out W hW;go_simp;(first | exact rfl | (simp only [Oper.quietUpon,true_and];first | exact rfl | (fail)) | (fail));go_big_quiet_on;simp only [Act.put,sA,s0,sS])))
 refine wpQuiet_nil ?_
 intro w2 hx2
 have HX2:=Lib.hid (HX0.out.trans hx2)
 have HB2:=Lib.hid (HB0.out.ext hx2)
 clear hx2 HC0 HC1
 have hx:=Ext.refl w2
 go_wp2_with (at_builtin;first
  | (refine wpList_append_trs rfl (.tmp 23) (.tmp 26) rfl w2.heap.size 0 _ [] rfl (own_none w2) (by simp) _ 0 _ [] rfl (Trs.nil _ _) rfl (by omega) (by omega) ?_;intro v4 w4 hown4 hg4;have hx4:=grownBy_ext hg4 w2 EX (fun b' e=>by cases e;exact Nat.le_refl _);have HX4:=Lib.hid hx4;have hsz4:=hx4.size_le;obtain ⟨hc4,hf4,hl4⟩:=(HB2.out.ext hx4).all;clear hx hx4)
  | (refine wpList_append_trs rfl (.tmp 28) (.tmp 30) rfl w2.heap.size (0+0) v4 ([] ++ []) rfl (ownsRow_ext' hown4 ((Ext.refl w4).alloc _)) (by simp;omega) (some ⟨w4.heap.size,0,none⟩) 1 1 [f] rfl (trs_one f) rfl (by omega) (by omega) ?_;intro v5 w5 hown5 hg5;have hx52:=grownBy_ext hg5 w2 (HX4.out.alloc _) (fun b' e=>(hown4.lt b' e).1);have HX52:=Lib.hid hx52;have HO5:=Lib.hid hown5;have hsz5:=hx52.size_le;clear hc4 hf4 hl4 hown5 hx52))
 all_goals
  have HC0:=Lib.hid (fun W (hW:Ext w5 W)=>(HB2.out.ext (HX52.out.trans hW)).cell)
  have HC1:=HC0
  go_wp2_with fail
  refine wp_region_ext (by kernel_rfl) (by kernel_rfl) ?_
  repeat (first | go_big_quiet_skip | (go_big_quiet_want;first | (go_big_quiet_op;go_big_quiet_on) | (apply quiet_at;intro W hW;have hc0:=HC0.out W hW;have hc1:=HC1.out W hW;go_simp;(first | exact rfl | (simp only [Oper.quietUpon,true_and];first | exact rfl | (fail)) | (fail));go_big_quiet_on;simp only [Act.put,sA,s0,sS])))
  refine wpQuiet_nil ?_
  intro w6 hx6
  clear HC0 HC1
  have HX62:=Lib.hid (HX52.out.trans hx6)
  have hsz6:=HX62.out.size_le
  have hO6:=ownsRow_ext' HO5.out hx6
  clear hx6
  have hx:=Ext.refl w6
  go_wp2_with (at_builtin;refine wpList_append_trs rfl (.tmp 48) (.tmp 51) rfl w2.heap.size (0+0+1) v5 (([] ++ []) ++ [f]) rfl hO6 hsz6 _ 0 _ [] rfl (Trs.nil _ _) rfl (by omega) (by omega) ?_;intro v7 w7 hown7 hg7)
  all_goals
   have hx7:=grownBy_ext hg7 w2 HX62.out (fun b' e=>(hO6.lt b' e).1)
   obtain ⟨A7,c7,rfl,hs7,hi7,hc7⟩:=trs_of_own hown7 rfl
   rw [← HP.out]
   exact ⟨A7,_,c7,rfl,rfl,hc7,Lib.hid ⟨hs7,hi7.le HX2.out.size_le⟩,HX2.out.trans hx7⟩
set_option maxHeartbeats 8000000 in
set_option maxRecDepth 100000 in
theorem rwith_spot (a:Addr) (c:Nat) (f:Pf) (w:World):
 Calls Tryz.prog 48 #[.slice (some a) 0 c,f.v] w (GivesR [f] w):=by
 have HB0:Hid (Blk (w.alloc (.cells f.arr 61)) w.heap.size 61 f.arr):=Lib.hid (Blk.new' rfl)
 have HX0:=Lib.hid ((Ext.refl w).alloc (.cells f.arr 61))
 generalize hP:GivesR [f] w=P
 have HP:=Lib.hid hP
 clear hP
 go_enter Tryz.func48,Tryz.ntmps48
 have hx:=Ext.refl w
 go_wp2_with fail
 clear hx
 refine wp_loop_rounds 1 ?_
 rw [rounds_succ]
 have HC0:=Lib.hid (fun W (hW:Ext (w.alloc (.cells f.arr 61)) W)=>(HB0.out.ext hW).cell)
 have HC1:=HC0
 go_wp2_with fail
 refine wp_region_ext (by kernel_rfl) (by kernel_rfl) ?_
 repeat (first | go_big_quiet_skip | (go_big_quiet_want;first | (go_big_quiet_op;go_big_quiet_on) | (apply quiet_at;intro W hW;have hc0:=HC0.out W hW;have hc1:=HC1.out W hW;go_simp;(first | exact rfl | (simp only [Oper.quietUpon,true_and];first | exact rfl | (fail)) | (fail));go_big_quiet_on;simp only [Act.put,sA,s0,sS])))
 refine wpQuiet_nil ?_
 intro w2 hx2
 have HX2:=Lib.hid (HX0.out.trans hx2)
 have HB2:=Lib.hid (HB0.out.ext hx2)
 clear hx2 HC0 HC1
 have hx:=Ext.refl w2
 go_wp2_with (at_builtin;first
  | (refine wpList_append_trs rfl (.tmp 23) (.tmp 26) rfl w2.heap.size 0 _ [] rfl (own_none w2) (by simp) _ 0 _ [] rfl (Trs.nil _ _) rfl (by omega) (by omega) ?_;intro v4 w4 hown4 hg4;have hx4:=grownBy_ext hg4 w2 EX (fun b' e=>by cases e;exact Nat.le_refl _);have HX4:=Lib.hid hx4;have hsz4:=hx4.size_le;obtain ⟨hc4,hf4,hl4⟩:=(HB2.out.ext hx4).all;clear hx hx4)
  | (refine wpList_append_trs rfl (.tmp 28) (.tmp 30) rfl w2.heap.size (0+0) v4 ([] ++ []) rfl (ownsRow_ext' hown4 ((Ext.refl w4).alloc _)) (by simp;omega) (some ⟨w4.heap.size,0,none⟩) 1 1 [f] rfl (trs_one f) rfl (by omega) (by omega) ?_;intro v5 w5 hown5 hg5;have hx52:=grownBy_ext hg5 w2 (HX4.out.alloc _) (fun b' e=>(hown4.lt b' e).1);have HX52:=Lib.hid hx52;have HO5:=Lib.hid hown5;have hsz5:=hx52.size_le;clear hc4 hf4 hl4 hown5 hx52))
 all_goals
  have HC0:=Lib.hid (fun W (hW:Ext w5 W)=>(HB2.out.ext (HX52.out.trans hW)).cell)
  have HC1:=HC0
  go_wp2_with fail
  refine wp_region_ext (by kernel_rfl) (by kernel_rfl) ?_
  repeat (first | go_big_quiet_skip | (go_big_quiet_want;first | (go_big_quiet_op;go_big_quiet_on) | (apply quiet_at;intro W hW;have hc0:=HC0.out W hW;have hc1:=HC1.out W hW;go_simp;(first | exact rfl | (simp only [Oper.quietUpon,true_and];first | exact rfl | (fail)) | (fail));go_big_quiet_on;simp only [Act.put,sA,s0,sS])))
  refine wpQuiet_nil ?_
  intro w6 hx6
  clear HC0 HC1
  have HX62:=Lib.hid (HX52.out.trans hx6)
  have hsz6:=HX62.out.size_le
  have hO6:=ownsRow_ext' HO5.out hx6
  clear hx6
  have hx:=Ext.refl w6
  go_wp2_with (at_builtin;refine wpList_append_trs rfl (.tmp 48) (.tmp 51) rfl w2.heap.size (0+0+1) v5 (([] ++ []) ++ [f]) rfl hO6 hsz6 _ 0 _ [] rfl (Trs.nil _ _) rfl (by omega) (by omega) ?_;intro v7 w7 hown7 hg7)
  all_goals
   have hx7:=grownBy_ext hg7 w2 HX62.out (fun b' e=>(hO6.lt b' e).1)
   obtain ⟨A7,c7,rfl,hs7,hi7,hc7⟩:=trs_of_own hown7 rfl
   rw [← HP.out]
   exact ⟨A7,_,c7,rfl,rfl,hc7,Lib.hid ⟨hs7,hi7.le HX2.out.size_le⟩,HX2.out.trans hx7⟩
theorem rwith_any (A:Option Addr) (n c:Nat) (l:List Pf) (f:Pf) (w:World) (h:Trs w A l) (hn:l.length=n) (hc:n≤c) (hb:n≤100000):
 Calls Tryz.prog 48 #[.slice A n c,f.v] w (GivesR (Tr.putIn f l) w):=by
 by_cases h0:0 < l.length
 ·obtain ⟨b,o,rfl,_⟩:=h h0
  exact rwith_some b o n c l f w h hn hc hb
 ·obtain rfl:l=[]:=List.length_eq_zero_iff.1 (by omega)
  obtain rfl:n=0:=hn.symm
  cases A with
  | none=>exact rwith_nil c f w
  | some a=>exact rwith_spot a c f w
set_option maxHeartbeats 8000000 in
set_option maxRecDepth 100000 in
theorem rwithout_tree (A:Option Addr) (n c:Nat) (s:ByteArray) (l:List Pf) (w:World) (h:Trs w A l) (hn:l.length=n) (hb:n≤100000):
 Calls Tryz.prog 84 #[.slice A n c,.string s] w (GivesR (l.filter fun x=>!Qm.eqB x.path s) w):=by
 have HQ:=Lib.hid h
 have HN:=Lib.hid hn
 have HFL:Hid (∀ k,(l.filter fun x=>!Qm.eqB x.path s)=(l.take k).filter (fun x=>!Qm.eqB x.path s) ++ (l.drop k).filter (fun x=>!Qm.eqB x.path s)):=Lib.hid (fun k=>by rw [← List.filter_append,List.take_append_drop])
 generalize hP:GivesR (l.filter fun x=>!Qm.eqB x.path s) w=P
 have HP:=Lib.hid hP
 clear h hn hP
 go_enter Tryz.func84,Tryz.ntmps84
 have hx:=Ext.refl w
 go_wp2_with fail
 go_loopw [5,6] (fun u i wr=>∃ (k m:Nat),k≤n∧m≤k∧i=.int .i64 k∧Hid (wr.ownsRow w.heap.size 61 4 u m (fl ((l.take k).filter fun x=>!Qm.eqB x.path s)))∧Hid (((l.take k).filter fun x=>!Qm.eqB x.path s).length=m)∧Hid (Ext w wr)) (fun u i wr=>n - (intOf i).toNat)
 case atStart=>exact ⟨0,0,Nat.zero_le _,Nat.le_refl _,rfl,Lib.hid (own_none w),Lib.hid rfl,Lib.hid EX⟩
 case round=>
  clear hx
  obtain ⟨k,m,hk,hmk,rfl,HO,HM,HX⟩:=hrel
  have hx:=HX.out
  by_cases hlt:k < n
  ·have hkl:k < l.length:=by rw [HN.out];exact hlt
   have hg:l[k]?=some (l[k]'hkl):=List.getElem?_eq_getElem hkl
   generalize l[k]'hkl=g at hg
   have HT:Hid (l.take (k+1)=l.take k ++ [g]):=Lib.hid (by rw [List.take_add_one,hg];rfl)
   obtain ⟨b,o,rfl,hbl,c0,c1,c2,c3⟩:=(HQ.out.ext hx).get hg
   clear hg hkl
   cases he:Qm.eqB g.path s
   ·have he':(g.path.toList == s.toList)=false:=he
    have HF2:Hid ((l.take (k+1)).filter (fun x=>!Qm.eqB x.path s)=(l.take k).filter (fun x=>!Qm.eqB x.path s) ++ [g]):=Lib.hid (by rw [HT.out,List.filter_append];simp [he])
    have hsz:=hx.size_le
    clear he
    go_wp2_with (at_builtin;refine wpList_append_trs rfl (.tmp 21) (.tmp 26) rfl w.heap.size m _ _ rfl (ownsRow_ext' HO.out ((Ext.refl wr).alloc _)) (by simp;omega) (some ⟨wr.heap.size,0,none⟩) 1 1 [g] rfl (trs_one g) rfl (by omega) (by omega) ?_;intro v4 w4 hown4 hg4)
    have hx4:=grownBy_ext hg4 w (HX.out.alloc _) (fun b' e=>(HO.out.lt b' e).1)
    rw [← HF2.out] at hown4
    exact ⟨⟨k+1,m+1,by omega,by omega,rfl,Lib.hid hown4,Lib.hid (by rw [HF2.out,List.length_append,HM.out];rfl),Lib.hid hx4⟩,by simp [intOf];omega⟩
   ·have he':(g.path.toList == s.toList)=true:=he
    have HF2:Hid ((l.take (k+1)).filter (fun x=>!Qm.eqB x.path s)=(l.take k).filter (fun x=>!Qm.eqB x.path s)):=Lib.hid (by rw [HT.out,List.filter_append];simp [he])
    clear he
    go_wp2_with fail
    go_roundw
    case rel=>exact ⟨k+1,m,by omega,by omega,rfl,Lib.hid (by rw [HF2.out];exact HO.out),Lib.hid (by rw [HF2.out];exact HM.out),HX⟩
    case measure=>simp [intOf];omega
  ·have hkn:k=n:=by omega
   have hall:(l.take k).filter (fun x=>!Qm.eqB x.path s)=l.filter (fun x=>!Qm.eqB x.path s):=by rw [List.take_of_length_le (by rw [HN.out];omega)]
   have hO:=HO.out
   have hM:=HM.out
   rw [hall] at hO hM
   obtain ⟨A7,c7,rfl,hs7,hi7,hc7⟩:=trs_of_own hO hM
   have HS:=Lib.hid (⟨hs7,hi7,hc7,hM⟩:_∧_∧_∧_)
   clear hO hM hall hs7 hi7 hc7 HO HM
   go_wp2_with fail
   rw [← HP.out]
   obtain ⟨hs7,hi7,hc7,hM⟩:=HS.out
   exact ⟨A7,_,c7,rfl,hM.symm,hc7,Lib.hid ⟨hs7,hi7⟩,HX.out⟩
end Go.Proofs.YtfmgnaigcibcaaaGreatDoor
namespace Go.Proofs.YtfmgnaigcibcaaaGreatDoor
open Go Go.RowKit
def GivesU (r:List Pf × Int) (w:World) (e:Ending) (w':World):Prop:=∃ A n c,e=.returned (.tuple #[.slice A n c,.int .i64 r.2])∧n=r.1.length∧Hid (Trs w' A r.1∧Hi w.heap.size A∧n≤c)∧Ext w w'
theorem GivesU.givesT {r:List Pf × Int} {w w':World} {e:Ending} (h:GivesU r w e w'):GivesT r w e w':=by
 obtain ⟨A,n,c,h1,h2,h3,h4⟩:=h
 exact ⟨A,n,c,h1,h2,Lib.hid ⟨h3.out.1,h3.out.2.1⟩,h4⟩
theorem GivesU.empty {k:Int} {w w':World} {b c:Nat} (hx:Ext w w') (hb:w.heap.size≤b):GivesU ([],k) w (.returned (.tuple #[.slice (some ⟨b,0,Option.none⟩) 0 c,.int .i64 k])) w':=
 ⟨_,0,c,rfl,rfl,Lib.hid ⟨Trs.nil _ _,fun a ha=>(by cases ha;exact hb),Nat.zero_le _⟩,hx⟩
theorem hi_of {w W w3:World} {B:Option Addr} (hx0:Ext W w3) (h:Hi W.heap.size B) (hx:Ext w W):Hi w.heap.size B:=h.le hx.size_le
theorem room_home {l:List Pf} {s:ByteArray} (h:Tr.find l s=none):Tr.room l s=Tr.home l s:=by
 unfold Tr.room Tr.home
 rw [h,if_neg (by simp)]
 repeat' split
 all_goals simp_all
set_option maxHeartbeats 8000000 in
set_option maxRecDepth 100000 in
theorem radded_any (A:Option Addr) (n c:Nat) (l:List Pf) (f:Pf) (w:World) (h:Trs w A l) (hn:l.length=n) (hc:n≤c) (hb:n≤200) (hs:f.path.size≤1000000):
 Calls Tryz.prog 43 #[.slice A n c,f.v] w (GivesU (Tr.add l f) w):=by
 have HF:=Lib.hid (fun W (hW:Ext w W)=>rtfind_any A n c f.path l W (h.ext hW) hn (by omega))
 have HH:=Lib.hid (fun W (hW:Ext w W)=>rhome_any A n c f.path l W (h.ext hW) hn (by omega) hs)
 have HW:=Lib.hid (fun W (hW:Ext w W)=>rwith_any A n c l f W (h.ext hW) hn hc (by omega))
 cases h1:Tr.find l f.path with
 | some d=>
   have hv:Tr.add l f=([],6):=by unfold Tr.add Tr.room;rw [h1];rfl
   rw [hv]
   have H1:=Lib.hid (found_some h1)
   clear h1 hv h hn
   go_enter Tryz.func43,Tryz.ntmps43
   have hx:=Ext.refl w
   go_wp2_with (go_at_call 44;refine (HF.out _ EX).mono ?_;rintro e w1 ⟨rfl,hx0⟩;rw [H1.out];have hsz:=(Ext.trans (a:=w) EX hx0).size_le;have hy:=Ext.trans (a:=w) EX hx0;clear hx;have hx:=hy;clear hy;have hn0:=BB hx0 (w.heap.size);(first | simp [↓heap_drew_at,↓heap_drewN_at,↓heap_alloc_at,↓heap_set_at,ne_two,ne_three,ne_two_left,ne_three_left,↓hb0.eq,hb0.lt,hb0.ne] at hn0 | simp [↓heap_drew_at,↓heap_drewN_at,↓heap_alloc_at,↓heap_set_at,ne_two,ne_three,ne_two_left,ne_three_left] at hn0);(try clear hb0 hc0 hf0 hl0);have hb0:=Blk.mk hn0;clear hn0;obtain ⟨hc0,hf0,hl0⟩:=hb0.all;(try clear hx0))
   go_ret2
   exact GivesU.empty EX (by first | omega | (simp;omega))
 | none=>
   have H1:=Lib.hid (found_none h1)
   have hrh:=room_home h1
   by_cases h2:Tr.home l f.path=0
   rotate_left
   ·have hv:Tr.add l f=([],Tr.home l f.path):=by unfold Tr.add;rw [hrh,if_pos h2]
    rw [hv]
    have h2':(Tr.home l f.path != 0)=true:=by simpa using h2
    clear h1 h2 hv h hn hrh
    generalize Tr.home l f.path=r at *
    go_enter Tryz.func43,Tryz.ntmps43
    have hx:=Ext.refl w
    go_wp2_with (first
     | (go_at_call 44;refine (HF.out _ EX).mono ?_;rintro e w1 ⟨rfl,hx0⟩;rw [H1.out];have hy:=Ext.trans (a:=w) EX hx0;clear hx;have hx:=hy;clear hy;have hn0:=BB hx0 (w.heap.size);(first | simp [↓heap_drew_at,↓heap_drewN_at,↓heap_alloc_at,↓heap_set_at,ne_two,ne_three,ne_two_left,ne_three_left,↓hb0.eq,hb0.lt,hb0.ne] at hn0 | simp [↓heap_drew_at,↓heap_drewN_at,↓heap_alloc_at,↓heap_set_at,ne_two,ne_three,ne_two_left,ne_three_left] at hn0);(try clear hb0 hc0 hf0 hl0);have hb0:=Blk.mk hn0;clear hn0;obtain ⟨hc0,hf0,hl0⟩:=hb0.all;(try clear hx0))
     | (go_at_call 75;refine (HH.out _ EX).mono ?_;rintro e w2 ⟨rfl,hx0⟩;have hsz:=(Ext.trans (a:=w) EX hx0).size_le;have hy:=Ext.trans (a:=w) EX hx0;clear hx;have hx:=hy;clear hy;have hn0:=BB hx0 (w.heap.size);(first | simp [↓heap_drew_at,↓heap_drewN_at,↓heap_alloc_at,↓heap_set_at,ne_two,ne_three,ne_two_left,ne_three_left,↓hb0.eq,hb0.lt,hb0.ne] at hn0 | simp [↓heap_drew_at,↓heap_drewN_at,↓heap_alloc_at,↓heap_set_at,ne_two,ne_three,ne_two_left,ne_three_left] at hn0);(try clear hb0 hc0 hf0 hl0);have hb0:=Blk.mk hn0;clear hn0;obtain ⟨hc0,hf0,hl0⟩:=hb0.all;(try clear hx0)))
    go_ret2
    exact GivesU.empty EX (by first | omega | (simp;omega))
   ·rw [h2] at HH
    by_cases h3:n=200
    ·have hv:Tr.add l f=([],4):=by unfold Tr.add;rw [hrh,if_neg (by simpa using h2),if_pos (by omega)]
     rw [hv]
     clear h1 h2 hv h hn hrh HW hc hb
     subst h3
     go_enter Tryz.func43,Tryz.ntmps43
     have hx:=Ext.refl w
     go_wp2_with (first
      | (go_at_call 44;refine (HF.out _ EX).mono ?_;rintro e w1 ⟨rfl,hx0⟩;rw [H1.out];have hy:=Ext.trans (a:=w) EX hx0;clear hx;have hx:=hy;clear hy;have hn0:=BB hx0 (w.heap.size);(first | simp [↓heap_drew_at,↓heap_drewN_at,↓heap_alloc_at,↓heap_set_at,ne_two,ne_three,ne_two_left,ne_three_left,↓hb0.eq,hb0.lt,hb0.ne] at hn0 | simp [↓heap_drew_at,↓heap_drewN_at,↓heap_alloc_at,↓heap_set_at,ne_two,ne_three,ne_two_left,ne_three_left] at hn0);(try clear hb0 hc0 hf0 hl0);have hb0:=Blk.mk hn0;clear hn0;obtain ⟨hc0,hf0,hl0⟩:=hb0.all;(try clear hx0))
      | (go_at_call 75;refine (HH.out _ EX).mono ?_;rintro e w2 ⟨rfl,hx0⟩;have hsz:=(Ext.trans (a:=w) EX hx0).size_le;have hy:=Ext.trans (a:=w) EX hx0;clear hx;have hx:=hy;clear hy;have hn0:=BB hx0 (w.heap.size);(first | simp [↓heap_drew_at,↓heap_drewN_at,↓heap_alloc_at,↓heap_set_at,ne_two,ne_three,ne_two_left,ne_three_left,↓hb0.eq,hb0.lt,hb0.ne] at hn0 | simp [↓heap_drew_at,↓heap_drewN_at,↓heap_alloc_at,↓heap_set_at,ne_two,ne_three,ne_two_left,ne_three_left] at hn0);(try clear hb0 hc0 hf0 hl0);have hb0:=Blk.mk hn0;clear hn0;obtain ⟨hc0,hf0,hl0⟩:=hb0.all;(try clear hx0)))
     go_ret2
     exact GivesU.empty EX (by first | omega | (simp;omega))
    ·have hv:Tr.add l f=(Tr.putIn f l,0):=by unfold Tr.add;rw [hrh,if_neg (by simpa using h2),if_neg (by omega)]
     rw [hv]
     have h3':((n:Int) == 200)=false:=by
      rw [beq_eq_false_iff_ne]
      omega
     clear h1 h2 hv h hn hrh h3
     go_enter Tryz.func43,Tryz.ntmps43
     have hx:=Ext.refl w
     go_wp2_with (first
      | (go_at_call 44;refine (HF.out _ EX).mono ?_;rintro e w1 ⟨rfl,hx0⟩;rw [H1.out];have hy:=Ext.trans (a:=w) EX hx0;clear hx;have hx:=hy;clear hy;have hn0:=BB hx0 (w.heap.size);(first | simp [↓heap_drew_at,↓heap_drewN_at,↓heap_alloc_at,↓heap_set_at,ne_two,ne_three,ne_two_left,ne_three_left,↓hb0.eq,hb0.lt,hb0.ne] at hn0 | simp [↓heap_drew_at,↓heap_drewN_at,↓heap_alloc_at,↓heap_set_at,ne_two,ne_three,ne_two_left,ne_three_left] at hn0);(try clear hb0 hc0 hf0 hl0);have hb0:=Blk.mk hn0;clear hn0;obtain ⟨hc0,hf0,hl0⟩:=hb0.all;(try clear hx0))
      | (go_at_call 75;refine (HH.out _ EX).mono ?_;rintro e w2 ⟨rfl,hx0⟩;have hy:=Ext.trans (a:=w) EX hx0;clear hx;have hx:=hy;clear hy;have hn0:=BB hx0 (w.heap.size);(first | simp [↓heap_drew_at,↓heap_drewN_at,↓heap_alloc_at,↓heap_set_at,ne_two,ne_three,ne_two_left,ne_three_left,↓hb0.eq,hb0.lt,hb0.ne] at hn0 | simp [↓heap_drew_at,↓heap_drewN_at,↓heap_alloc_at,↓heap_set_at,ne_two,ne_three,ne_two_left,ne_three_left] at hn0);(try clear hb0 hc0 hf0 hl0);have hb0:=Blk.mk hn0;clear hn0;obtain ⟨hc0,hf0,hl0⟩:=hb0.all;(try clear hx0))
      | (go_at_call 48;refine (HW.out _ EX).mono ?_;rintro e w3 ⟨B,m,d,rfl,hm,hmd,hT,hx0⟩;have HX3:=Lib.hid (Ext.trans (a:=w) EX hx0);have HT3:=Lib.hid (⟨hT.out.1,hi_of (w:=w) hx0 hT.out.2 EX,hmd⟩:_∧_∧_);have HM3:=Lib.hid hm;clear hx hx0 hT hm hmd))
     go_ret2
     exact ⟨_,_,_,rfl,HM3.out,HT3,HX3.out⟩
def Tr.rremove (l:List Pf) (f:Pf) (p:Pv):List Pf × Int:=
 if p.kind=2 then (if f.ty≠p.ty then ([],8) else if f.mode≠p.om∨Qm.eqB f.data p.so=false then ([],15) else (l.filter (fun x=>!Qm.eqB x.path p.path),0))
 else if f.ty≠4 then ([],8) else if l.any (fun x=>Qm.below x.path p.path)=true then ([],15) else (l.filter (fun x=>!Qm.eqB x.path p.path),0)
set_option maxHeartbeats 16000000 in
set_option maxRecDepth 100000 in
theorem rremoved_any (p:Pv) (f:Pf) (A:Option Addr) (n c:Nat) (l:List Pf) (w:World) (h:Trs w A l) (hn:l.length=n) (hb:n≤200) (hz:∀ g∈l,g.path.size≤4611686018427387904):
 Calls Tryz.prog 45 #[.slice A n c,f.v,p.v] w (GivesU (Tr.rremove l f p) w):=by
 have HW:=Lib.hid (fun W (hW:Ext w W)=>rwithout_tree A n c p.path l W (h.ext hW) hn (by omega))
 have HQ:=Lib.hid h
 have HN:=Lib.hid hn
 have HZ:=Lib.hid hz
 clear h hn hz
 by_cases hk:p.kind=2
 ·have hk':(p.kind == 2)=true:=by simpa using hk
  have hv0:Tr.rremove l f p=if f.ty≠p.ty then ([],8) else if f.mode≠p.om∨Qm.eqB f.data p.so=false then ([],15) else (l.filter (fun x=>!Qm.eqB x.path p.path),0):=by unfold Tr.rremove;rw [if_pos hk]
  rw [hv0]
  clear hv0 hk
  by_cases h1:f.ty=p.ty
  rotate_left
  ·rw [if_pos h1]
   have h1':(f.ty != p.ty)=true:=by simpa using h1
   clear h1 HW
   go_enter Tryz.func45,Tryz.ntmps45
   have hx:=Ext.refl w
   go_wp2_with fail
   go_ret2
   exact GivesU.empty EX (by first | omega | (simp;omega))
  rw [if_neg (by simpa using h1)]
  have h1':(f.ty != p.ty)=false:=by simpa using h1
  clear h1
  by_cases h2:f.mode=p.om
  rotate_left
  ·rw [if_pos (.inl h2)]
   have h2':(f.mode != p.om)=true:=by simpa using h2
   clear h2 HW
   go_enter Tryz.func45,Tryz.ntmps45
   have hx:=Ext.refl w
   go_wp2_with fail
   go_ret2
   exact GivesU.empty EX (by first | omega | (simp;omega))
  have h2':(f.mode != p.om)=false:=by simpa using h2
  cases h3:Qm.eqB f.data p.so
  ·rw [if_pos (.inr rfl)]
   have h3':(f.data.toList == p.so.toList)=false:=h3
   clear h2 h3 HW
   go_enter Tryz.func45,Tryz.ntmps45
   have hx:=Ext.refl w
   go_wp2_with fail
   go_ret2
   exact GivesU.empty EX (by first | omega | (simp;omega))
  ·rw [if_neg (by simpa using h2)]
   have h3':(f.data.toList == p.so.toList)=true:=h3
   clear h2 h3
   go_enter Tryz.func45,Tryz.ntmps45
   have hx:=Ext.refl w
   go_wp2_with (go_at_call 84;refine (HW.out _ EX).mono ?_;rintro e w3 ⟨B,m,d,rfl,hm,hmd,hT,hx0⟩;have HX3:=Lib.hid (Ext.trans (a:=w) EX hx0);have HT3:=Lib.hid (⟨hT.out.1,hi_of (w:=w) hx0 hT.out.2 EX,hmd⟩:_∧_∧_);have HM3:=Lib.hid hm;clear hx hx0 hT hm hmd)
   go_ret2
   exact ⟨_,_,_,rfl,HM3.out,HT3,HX3.out⟩
 ·have hk':(p.kind == 2)=false:=by simpa using hk
  have hv0:Tr.rremove l f p=if f.ty≠4 then ([],8) else if l.any (fun x=>Qm.below x.path p.path)=true then ([],15) else (l.filter (fun x=>!Qm.eqB x.path p.path),0):=by unfold Tr.rremove;rw [if_neg hk]
  rw [hv0]
  clear hv0 hk
  by_cases h1:f.ty=4
  rotate_left
  ·rw [if_pos h1]
   have h1':(f.ty != 4)=true:=by simpa using h1
   clear h1 HW
   go_enter Tryz.func45,Tryz.ntmps45
   have hx:=Ext.refl w
   go_wp2_with fail
   go_ret2
   exact GivesU.empty EX (by first | omega | (simp;omega))
  rw [if_neg (by simpa using h1)]
  have h1':(f.ty != 4)=false:=by simpa using h1
  clear h1
  generalize hP:GivesU (if l.any (fun x=>Qm.below x.path p.path)=true then ([],15) else (l.filter (fun x=>!Qm.eqB x.path p.path),0)) w=P
  have HP:=Lib.hid hP
  clear hP
  have HB0:Hid (Blk ((w.alloc (.cells f.arr 61)).alloc (.cells (parr p) 28)) (w.heap.size+1) 28 (parr p)):=Lib.hid (Blk.new' (by simp))
  go_enter Tryz.func45,Tryz.ntmps45
  have hx:=Ext.refl w
  go_wp2_with fail
  clear hx
  go_loopw [8] (fun i wr=>∃ k:Nat,k≤n∧i=.int .i64 k∧Hid ((l.take k).any (fun x=>Qm.below x.path p.path)=false)∧Hid (Ext ((w.alloc (.cells f.arr 61)).alloc (.cells (parr p) 28)) wr)) (fun i wr=>n - (intOf i).toNat)
  case atStart=>exact ⟨0,Nat.zero_le _,rfl,Lib.hid rfl,Lib.hid (Ext.refl _)⟩
  case round=>
   obtain ⟨k,hk,rfl,HA,HX⟩:=hrel
   have HXw:Hid (Ext w wr):=Lib.hid ((((Ext.refl w).alloc _).alloc _).trans HX.out)
   have hsz:=HXw.out.size_le
   by_cases hlt:k < n
   ·have hkl:k < l.length:=by rw [HN.out];exact hlt
    have hg:l[k]?=some (l[k]'hkl):=List.getElem?_eq_getElem hkl
    have hzz:=HZ.out _ (List.getElem_mem hkl)
    generalize l[k]'hkl=g at hg hzz
    have HT:Hid (l.take (k+1)=l.take k ++ [g]):=Lib.hid (by rw [List.take_add_one,hg];rfl)
    have HG:=Lib.hid hg
    obtain ⟨b,o,rfl,_⟩:=HQ.out.get hg
    have HC0:=Lib.hid (fun W (hW:Ext wr W)=>(HB0.out.ext (HX.out.trans hW)).cell)
    have HC1:Hid (∀ W,Ext wr W→W.cell? ⟨b,o+k * 4,none⟩=some (.string g.path)):=Lib.hid (fun W hW=>(((HQ.out.ext (HXw.out.trans hW)).get HG.out).elim fun b' h=>h.elim fun o' h=>by obtain ⟨e,_,h,_⟩:=h;cases e;exact h))
    have HBL:=Lib.hid (fun W=>(rbelow_same g.path p.path W hzz).mono (fun e w' h=>(⟨h.1,by rw [h.2];exact Ext.refl _⟩:Ret (.bool (Qm.below g.path p.path)) W e w')))
    clear hg hkl hzz
    cases he:Qm.below g.path p.path
    ·rw [he] at HBL
     have HA2:Hid ((l.take (k+1)).any (fun x=>Qm.below x.path p.path)=false):=Lib.hid (by rw [HT.out,List.any_append,HA.out];simp [he])
     clear he
     go_wp2_with fail
     refine wp_region_ext (by kernel_rfl) (by kernel_rfl) ?_
     repeat (first | go_big_quiet_skip | (go_big_quiet_want;first | (go_big_quiet_op;go_big_quiet_on) | (apply quiet_at;intro W hW;have hc0:=HC0.out W hW;have hc1:=HC1.out W hW;go_simp;(first | exact rfl | (simp only [Oper.quietUpon,true_and];first | exact rfl | (go_at_call 80;exact quiet_call hW (HBL.out _) (fun _ _ h=>Ret.bcell h))) | (go_at_call 80;exact quiet_call hW (HBL.out _) (fun _ _ h=>Ret.bcell h)));go_big_quiet_on;simp only [Act.put,sA,s0,sS])))
     refine wpQuiet_nil ?_
     intro w2 hx2
     have HX2:=Lib.hid (HX.out.trans hx2)
     clear hx2 HC0 HC1
     go_wp2_with fail
     exact ⟨⟨k+1,by omega,rfl,HA2,HX2⟩,by simp [intOf];omega⟩
    ·rw [he] at HBL
     have hany:l.any (fun x=>Qm.below x.path p.path)=true:=List.any_eq_true.2 ⟨g,List.mem_of_getElem? HG.out,he⟩
     have HANY:=Lib.hid hany
     clear he hany
     go_wp2_with fail
     refine wp_region_ext (by kernel_rfl) (by kernel_rfl) ?_
     repeat (first | go_big_quiet_skip | (go_big_quiet_want;first | (go_big_quiet_op;go_big_quiet_on) | (apply quiet_at;intro W hW;have hc0:=HC0.out W hW;have hc1:=HC1.out W hW;go_simp;(first | exact rfl | (simp only [Oper.quietUpon,true_and];first | exact rfl | (go_at_call 80;exact quiet_call hW (HBL.out _) (fun _ _ h=>Ret.bcell h))) | (go_at_call 80;exact quiet_call hW (HBL.out _) (fun _ _ h=>Ret.bcell h)));go_big_quiet_on;simp only [Act.put,sA,s0,sS])))
     refine wpQuiet_nil ?_
     intro w2 hx2
     have HX2:=Lib.hid (HXw.out.trans hx2)
     have hs2:=HX2.out.size_le
     clear hx2 HC0 HC1
     have hx:=Ext.refl w2
     go_wp2_with fail
     rw [← HP.out,if_pos HANY.out]
     exact GivesU.empty (HX2.out.trans EX) (by first | omega | (simp;omega))
   ·have hkn:k=n:=by omega
    have HV:Hid (l.any (fun x=>Qm.below x.path p.path)=false):=Lib.hid (by
     have:=HA.out
     rwa [List.take_of_length_le (by rw [HN.out];omega)] at this)
    obtain ⟨hc0,hf0,hl0⟩:=(HB0.out.ext HX.out).all
    have hx:=Ext.refl wr
    go_wp2_with (go_at_call 84;refine (HW.out _ (HXw.out.trans EX)).mono ?_;rintro e w3 ⟨B,m,d,rfl,hm,hmd,hT,hx0⟩;have HX3:=Lib.hid (HXw.out.trans (Ext.trans (a:=wr) EX hx0));have HT3:=Lib.hid (⟨hT.out.1,(hi_of (w:=wr) hx0 hT.out.2 EX).le HXw.out.size_le,hmd⟩:_∧_∧_);have HM3:=Lib.hid hm;clear hx hx0 hT hm hmd)
    rw [← HP.out,if_neg (by rw [HV.out];simp)]
    exact ⟨_,_,_,rfl,HM3.out,HT3,HX3.out⟩
end Go.Proofs.YtfmgnaigcibcaaaGreatDoor
namespace Go.Proofs.YtfmgnaigcibcaaaGreatDoor
open Go Go.RowKit
def Tr.rmove (t:List Pf) (path to_:ByteArray):List Pf × Int:=
 if Tr.room t to_≠0 then ([],Tr.room t to_)
 else if (t.map (Tr.shift path to_)).any (fun f=>decide (200 < f.path.size)) then ([],5)
 else (Tr.sort (t.map (Tr.shift path to_)),0)
set_option maxHeartbeats 16000000 in
set_option maxRecDepth 100000 in
theorem rmoved_any (p:Pv) (A:Option Addr) (n c:Nat) (l:List Pf) (w:World) (h:Trs w A l) (hn:l.length=n) (hb:n≤200) (hz:∀ g∈l,g.path.size≤200) (hp:p.path.size≤200) (ht:p.to_.size≤200):
 Calls Tryz.prog 46 #[.slice A n c,p.v] w (GivesU (Tr.rmove l p.path p.to_) w):=by
 have HF:=Lib.hid (fun W (hW:Ext w W)=>rtfind_any A n c p.to_ l W (h.ext hW) hn (by omega))
 have HH:=Lib.hid (fun W (hW:Ext w W)=>rhome_any A n c p.to_ l W (h.ext hW) hn (by omega) (by omega))
 have HQ:=Lib.hid h
 have HN:=Lib.hid hn
 have HZ:=Lib.hid hz
 cases h1:Tr.find l p.to_ with
 | some d=>
   have hv:Tr.rmove l p.path p.to_=([],6):=by unfold Tr.rmove Tr.room;rw [h1];rfl
   rw [hv]
   have H1:=Lib.hid (found_some h1)
   clear h1 hv h hn hz
   go_enter Tryz.func46,Tryz.ntmps46
   have hx:=Ext.refl w
   go_wp2_with (go_at_call 44;refine (HF.out _ EX).mono ?_;rintro e w1 ⟨rfl,hx0⟩;rw [H1.out];have hsz:=(Ext.trans (a:=w) EX hx0).size_le;have hy:=Ext.trans (a:=w) EX hx0;clear hx;have hx:=hy;clear hy;have hn0:=BB hx0 (w.heap.size);(first | simp [↓heap_drew_at,↓heap_drewN_at,↓heap_alloc_at,↓heap_set_at,ne_two,ne_three,ne_two_left,ne_three_left,↓hb0.eq,hb0.lt,hb0.ne] at hn0 | simp [↓heap_drew_at,↓heap_drewN_at,↓heap_alloc_at,↓heap_set_at,ne_two,ne_three,ne_two_left,ne_three_left] at hn0);(try clear hb0 hc0 hf0 hl0);have hb0:=Blk.mk hn0;clear hn0;obtain ⟨hc0,hf0,hl0⟩:=hb0.all;(try clear hx0))
   go_ret2
   exact GivesU.empty EX (by first | omega | (simp;omega))
 | none=>
   have H1:=Lib.hid (found_none h1)
   have hrh:=room_home h1
   by_cases h2:Tr.home l p.to_=0
   rotate_left
   ·have hv:Tr.rmove l p.path p.to_=([],Tr.home l p.to_):=by unfold Tr.rmove;rw [hrh,if_pos h2]
    rw [hv]
    have h2':(Tr.home l p.to_ != 0)=true:=by simpa using h2
    clear h1 h2 hv h hn hz hrh
    generalize Tr.home l p.to_=r at *
    go_enter Tryz.func46,Tryz.ntmps46
    have hx:=Ext.refl w
    go_wp2_with (first
     | (go_at_call 44;refine (HF.out _ EX).mono ?_;rintro e w1 ⟨rfl,hx0⟩;rw [H1.out];have hy:=Ext.trans (a:=w) EX hx0;clear hx;have hx:=hy;clear hy;have hn0:=BB hx0 (w.heap.size);(first | simp [↓heap_drew_at,↓heap_drewN_at,↓heap_alloc_at,↓heap_set_at,ne_two,ne_three,ne_two_left,ne_three_left,↓hb0.eq,hb0.lt,hb0.ne] at hn0 | simp [↓heap_drew_at,↓heap_drewN_at,↓heap_alloc_at,↓heap_set_at,ne_two,ne_three,ne_two_left,ne_three_left] at hn0);(try clear hb0 hc0 hf0 hl0);have hb0:=Blk.mk hn0;clear hn0;obtain ⟨hc0,hf0,hl0⟩:=hb0.all;(try clear hx0))
     | (go_at_call 75;refine (HH.out _ EX).mono ?_;rintro e w2 ⟨rfl,hx0⟩;have hsz:=(Ext.trans (a:=w) EX hx0).size_le;have hy:=Ext.trans (a:=w) EX hx0;clear hx;have hx:=hy;clear hy;have hn0:=BB hx0 (w.heap.size);(first | simp [↓heap_drew_at,↓heap_drewN_at,↓heap_alloc_at,↓heap_set_at,ne_two,ne_three,ne_two_left,ne_three_left,↓hb0.eq,hb0.lt,hb0.ne] at hn0 | simp [↓heap_drew_at,↓heap_drewN_at,↓heap_alloc_at,↓heap_set_at,ne_two,ne_three,ne_two_left,ne_three_left] at hn0);(try clear hb0 hc0 hf0 hl0);have hb0:=Blk.mk hn0;clear hn0;obtain ⟨hc0,hf0,hl0⟩:=hb0.all;(try clear hx0)))
    go_ret2
    exact GivesU.empty EX (by first | omega | (simp;omega))
   rw [h2] at HH
   have hv:Tr.rmove l p.path p.to_=if (l.map (Tr.shift p.path p.to_)).any (fun f=>decide (200 < f.path.size)) then ([],5) else (Tr.sort (l.map (Tr.shift p.path p.to_)),0):=by unfold Tr.rmove;rw [hrh,if_neg (by simpa using h2)]
   have HV:=Lib.hid hv
   generalize hP:GivesU (Tr.rmove l p.path p.to_) w=P
   have HP:=Lib.hid hP
   clear h1 h2 hv h hn hz hrh hP
   go_enter Tryz.func46,Tryz.ntmps46
   have hx:=Ext.refl w
   go_wp2_with (first
    | (go_at_call 44;refine (HF.out _ EX).mono ?_;rintro e w1 ⟨rfl,hx0⟩;rw [H1.out];have hy:=Ext.trans (a:=w) EX hx0;clear hx;have hx:=hy;clear hy;have hn0:=BB hx0 (w.heap.size);(first | simp [↓heap_drew_at,↓heap_drewN_at,↓heap_alloc_at,↓heap_set_at,ne_two,ne_three,ne_two_left,ne_three_left,↓hb0.eq,hb0.lt,hb0.ne] at hn0 | simp [↓heap_drew_at,↓heap_drewN_at,↓heap_alloc_at,↓heap_set_at,ne_two,ne_three,ne_two_left,ne_three_left] at hn0);(try clear hb0 hc0 hf0 hl0);have hb0:=Blk.mk hn0;clear hn0;obtain ⟨hc0,hf0,hl0⟩:=hb0.all;(try clear hx0))
    | (go_at_call 75;refine (HH.out _ EX).mono ?_;rintro e w2 ⟨rfl,hx0⟩;have hy:=Ext.trans (a:=w) EX hx0;clear hx;have hx:=hy;clear hy;have hn0:=BB hx0 (w.heap.size);(first | simp [↓heap_drew_at,↓heap_drewN_at,↓heap_alloc_at,↓heap_set_at,ne_two,ne_three,ne_two_left,ne_three_left,↓hb0.eq,hb0.lt,hb0.ne] at hn0 | simp [↓heap_drew_at,↓heap_drewN_at,↓heap_alloc_at,↓heap_set_at,ne_two,ne_three,ne_two_left,ne_three_left] at hn0);(try clear hb0 hc0 hf0 hl0);have hb0:=Blk.mk hn0;clear hn0;obtain ⟨hc0,hf0,hl0⟩:=hb0.all;(try clear hx0)))
   have HX2:=Lib.hid hx
   have HB2:=Lib.hid hb0
   have HS2:=Lib.hid hx.size_le
   clear hx hb0 hc0 hf0 hl0 HF HH H1
   go_loopw [9,10] (fun u i wr=>∃ (k m d:Nat) (B:Option Addr),k≤n∧i=.int .i64 k∧u=.slice B m d∧m≤d∧m≤k∧Hid (Trs wr B (Tr.sort ((l.map (Tr.shift p.path p.to_)).take k))∧Hi w.heap.size B)∧Hid ((Tr.sort ((l.map (Tr.shift p.path p.to_)).take k)).length=m)∧Hid (((l.map (Tr.shift p.path p.to_)).take k).any (fun f=>decide (200 < f.path.size))=false)∧Hid (Ext w2 wr)) (fun u i wr=>n - (intOf i).toNat)
   case atStart=>exact ⟨0,0,0,_,Nat.zero_le _,rfl,rfl,Nat.le_refl _,Nat.le_refl _,Lib.hid ⟨Trs.nil _ _,fun a ha=>by cases ha;exact HS2.out⟩,Lib.hid rfl,Lib.hid rfl,Lib.hid EX⟩
   case round=>
    obtain ⟨k,m,d,B,hk,rfl,rfl,hmd,hmk,HT,HM,HA,HX⟩:=hrel
    have HXw:Hid (Ext w wr):=Lib.hid (HX2.out.trans HX.out)
    by_cases hlt:k < n
    ·have hkl:k < l.length:=by rw [HN.out];exact hlt
     have hg:l[k]?=some (l[k]'hkl):=List.getElem?_eq_getElem hkl
     have hzz:=HZ.out _ (List.getElem_mem hkl)
     generalize l[k]'hkl=f at hg hzz
     have HTK:Hid ((l.map (Tr.shift p.path p.to_)).take (k+1)=(l.map (Tr.shift p.path p.to_)).take k ++ [Tr.shift p.path p.to_ f]):=Lib.hid (by rw [List.take_add_one,List.getElem?_map,hg];rfl)
     have HBIG:Hid (200 < (Tr.shift p.path p.to_ f).path.size→Tr.rmove l p.path p.to_=([],5)):=Lib.hid (fun e=>by
      rw [HV.out,if_pos (List.any_eq_true.2 ⟨_,List.mem_map_of_mem (List.mem_of_getElem? hg),by simpa using e⟩)])
     have HSM:Hid ((Tr.shift p.path p.to_ f).path.size≤200→((l.map (Tr.shift p.path p.to_)).take (k+1)).any (fun f=>decide (200 < f.path.size))=false):=Lib.hid (fun e=>by
      rw [HTK.out,List.any_append,HA.out]
      simp only [List.any_cons,List.any_nil,Bool.or_false,Bool.false_or]
      exact decide_eq_false (by omega))
     have HSO:Hid (Tr.sort ((l.map (Tr.shift p.path p.to_)).take (k+1))=Tr.putIn (Tr.shift p.path p.to_ f) (Tr.sort ((l.map (Tr.shift p.path p.to_)).take k))):=Lib.hid (by rw [HTK.out,Tr.sort_snoc])
     have HWI:=Lib.hid (fun W (hW:Ext wr W)=>rwith_any B m d _ (Tr.shift p.path p.to_ f) W (HT.out.1.ext hW) HM.out hmd (by omega))
     have HLE:Hid ((Tr.sort ((l.map (Tr.shift p.path p.to_)).take (k+1))).length≤k+1):=Lib.hid (by
      have:=Tr.sort_length_le ((l.map (Tr.shift p.path p.to_)).take (k+1))
      rw [List.length_take] at this
      omega)
     have hsz:=HXw.out.size_le
     have HBL:=Lib.hid (fun W=>rbelow_same f.path p.path W (by omega))
     obtain ⟨b,o,rfl,hbl,c0,c1,c2,c3⟩:=(HQ.out.ext HXw.out).get hg
     have hx:=Ext.refl wr
     have hbr:=HB2.out.ext HX.out
     obtain ⟨hc0,hf0,hl0⟩:=hbr.all
     clear hg hkl hbr
     cases e1:Qm.eqB f.path p.path
     ·cases e2:Qm.below f.path p.path
      ·have e1':(f.path.toList == p.path.toList)=false:=e1
       have hsh:Tr.shift p.path p.to_ f=f:=by unfold Tr.shift;rw [e1,e2];rfl
       rw [hsh] at HSM HSO HWI
       have E2:=Lib.hid e2
       clear e1 e2 hsh HBIG
       go_wp2_with (first
        | (go_at_call 80;refine (HBL.out _).mono ?_;rintro e w4 ⟨rfl,rfl⟩;rw [E2.out])
        | (go_at_call 48;refine (HWI.out _ EX).mono ?_;rintro e w5 ⟨B5,m5,d5,rfl,hm5,hmd5,hT5,hx0⟩;have HX5:=Lib.hid (Ext.trans (a:=wr) EX hx0);have HT5:=Lib.hid (⟨hT5.out.1,(hi_of (w:=wr) hx0 hT5.out.2 EX).le hsz⟩:_∧_);have HM5:=Lib.hid (⟨hm5,hmd5⟩:_∧_);clear hx hx0 hT5 hm5 hmd5))
       have hs5:=HSO.out
       have hm5:=HM5.out.1
       rw [← hs5] at hm5
       have ht5:=HT5.out
       rw [← hs5] at ht5
       have hle:=HLE.out
       exact ⟨⟨k+1,m5,d5,B5,by omega,rfl,rfl,HM5.out.2,by omega,Lib.hid ht5,Lib.hid hm5.symm,Lib.hid (HSM.out hzz),Lib.hid (HX.out.trans HX5.out)⟩,by simp [intOf];omega⟩
      ·have e1':(f.path.toList == p.path.toList)=false:=e1
       have e3:p.path.size≤f.path.size:=Nat.le_of_lt (Qm.size_of_below e2)
       have hsh:Tr.shift p.path p.to_ f=⟨p.to_ ++ f.path.extract p.path.size f.path.size,f.ty,f.mode,f.data⟩:=by unfold Tr.shift;rw [e1,e2];rfl
       rw [hsh] at HSM HSO HWI HBIG
       have E2:=Lib.hid e2
       clear e1 e2 hsh
       go_wp2_with (go_at_call 80;refine (HBL.out _).mono ?_;rintro e w4 ⟨rfl,rfl⟩;rw [E2.out])
       go_region
       go_wp2_with (go_at_call 48;refine (HWI.out _ EX).mono ?_;rintro e w5 ⟨B5,m5,d5,rfl,hm5,hmd5,hT5,hx0⟩;have HX5:=Lib.hid (Ext.trans (a:=wr) EX hx0);have HT5:=Lib.hid (⟨hT5.out.1,(hi_of (w:=wr) hx0 hT5.out.2 EX).le hsz⟩:_∧_);have HM5:=Lib.hid (⟨hm5,hmd5⟩:_∧_);clear hx hx0 hT5 hm5 hmd5)
       ·rw [← HP.out,HBIG.out (by first | omega | (simp only [ByteArray.size_append,ByteArray.size_extract] at *;omega))]
        exact GivesU.empty (HXw.out.trans EX) (by first | omega | (simp;omega))
       ·have hs5:=HSO.out
        have hm5:=HM5.out.1
        rw [← hs5] at hm5
        have ht5:=HT5.out
        rw [← hs5] at ht5
        have hle:=HLE.out
        exact ⟨⟨k+1,m5,d5,B5,by omega,rfl,rfl,HM5.out.2,by omega,Lib.hid ht5,Lib.hid hm5.symm,Lib.hid (HSM.out (by first | omega | (simp only [ByteArray.size_append,ByteArray.size_extract] at *;omega))),Lib.hid (HX.out.trans HX5.out)⟩,by simp [intOf];omega⟩
     ·have e1':(f.path.toList == p.path.toList)=true:=e1
      have e3:p.path.size≤f.path.size:=by rw [Qm.eqB_iff.1 e1];exact Nat.le_refl _
      have hsh:Tr.shift p.path p.to_ f=⟨p.to_ ++ f.path.extract p.path.size f.path.size,f.ty,f.mode,f.data⟩:=by unfold Tr.shift;rw [e1];rfl
      rw [hsh] at HSM HSO HWI HBIG
      clear e1 hsh
      go_wp2_with fail
      go_region
      go_wp2_with (go_at_call 48;refine (HWI.out _ EX).mono ?_;rintro e w5 ⟨B5,m5,d5,rfl,hm5,hmd5,hT5,hx0⟩;have HX5:=Lib.hid (Ext.trans (a:=wr) EX hx0);have HT5:=Lib.hid (⟨hT5.out.1,(hi_of (w:=wr) hx0 hT5.out.2 EX).le hsz⟩:_∧_);have HM5:=Lib.hid (⟨hm5,hmd5⟩:_∧_);clear hx hx0 hT5 hm5 hmd5)
      ·rw [← HP.out,HBIG.out (by first | omega | (simp only [ByteArray.size_append,ByteArray.size_extract] at *;omega))]
       exact GivesU.empty (HXw.out.trans EX) (by first | omega | (simp;omega))
      ·have hs5:=HSO.out
       have hm5:=HM5.out.1
       rw [← hs5] at hm5
       have ht5:=HT5.out
       rw [← hs5] at ht5
       have hle:=HLE.out
       exact ⟨⟨k+1,m5,d5,B5,by omega,rfl,rfl,HM5.out.2,by omega,Lib.hid ht5,Lib.hid hm5.symm,Lib.hid (HSM.out (by first | omega | (simp only [ByteArray.size_append,ByteArray.size_extract] at *;omega))),Lib.hid (HX.out.trans HX5.out)⟩,by simp [intOf];omega⟩
    ·have hkn:k=n:=by omega
     have hall:(l.map (Tr.shift p.path p.to_)).take k=l.map (Tr.shift p.path p.to_):=List.take_of_length_le (by rw [List.length_map,HN.out];omega)
     have hT:=HT.out
     have hM:=HM.out
     have hA:=HA.out
     rw [hall] at hT hM hA
     have HTT:=Lib.hid hT
     have HMM:=Lib.hid hM
     have HVV:Hid (Tr.rmove l p.path p.to_=(Tr.sort (l.map (Tr.shift p.path p.to_)),0)):=Lib.hid (by rw [HV.out,if_neg (by rw [hA];simp)])
     clear hT hM hA hall HT HM HA
     go_wp2_with fail
     rw [← HP.out,HVV.out]
     exact ⟨_,_,_,rfl,HMM.out.symm,Lib.hid ⟨HTT.out.1,HTT.out.2,hmd⟩,HXw.out⟩
end Go.Proofs.YtfmgnaigcibcaaaGreatDoor
