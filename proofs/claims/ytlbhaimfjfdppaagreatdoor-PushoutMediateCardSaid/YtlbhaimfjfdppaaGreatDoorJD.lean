import Derived.Test.YtlbhaimfjfdppaaGreatDoorE
import Derived.Test.YtlbhaimfjfdppaaGreatDoorYj
import Derived.Test.YtlbhaimfjfdppaaGreatDoorB
import Derived.Test.YtlbhaimfjfdppaaGreatDoorD
import Derived.Test.YtlbhaimfjfdppaaGreatDoorT
set_option linter.unusedSimpArgs false
set_option linter.unusedVariables false
namespace Go.Proofs.YtlbhaimfjfdppaaGreatDoor
open Go.RowKit
theorem byte_eqb (x c:UInt8):((x.toNat:Int) == (c.toNat:Int))=decide (x=c):=by
 rw [Bool.eq_iff_iff,beq_iff_eq,decide_eq_true_eq]
 constructor
 ·intro h
  exact UInt8.toNat_inj.1 (Int.ofNat.inj h)
 ·rintro rfl
  rfl
theorem byte_slash (x:UInt8):((x.toNat:Int) == 47)=decide (x=47):=byte_eqb x 47
def Qm.parent (s:ByteArray):ByteArray:=if Lib.lastIndexByte s 47 < 0 then ⟨#[]⟩ else s.extract 0 (Lib.lastIndexByte s 47).toNat
theorem last_none {s:ByteArray} (h:∀ j (hj:j < s.size),s[j]≠47):Lib.lastIndexByte s 47 < 0:=by
 rcases Lib.lastIndexByte_spec s 47 with ⟨h',_⟩ | ⟨i,hi,h',hc,_⟩
 ·omega
 ·exfalso
  rw [getElem!_pos s.data i hi] at hc
  exact h i hi (UInt8.toNat_inj.1 (Int.ofNat.inj (show ((s[i].toNat:Nat):Int)=((47:UInt8).toNat:Nat) from hc)))
theorem last_some {s:ByteArray} {k:Nat} (hk:k < s.size) (e:s[k]=47) (h:∀ j (hj:j < s.size),k < j→s[j]≠47):Lib.lastIndexByte s 47=k:=by
 rcases Lib.lastIndexByte_spec s 47 with ⟨_,hn⟩ | ⟨i,hi,h',hc,hn⟩
 ·exfalso
  refine hn k hk ?_
  rw [getElem!_pos s.data k hk]
  show ((s[k].toNat:Nat):Int)=47
  rw [e]
  rfl
 ·rw [h']
  rw [getElem!_pos s.data i hi] at hc
  have hc':s[i]=47:=UInt8.toNat_inj.1 (Int.ofNat.inj (show ((s[i].toNat:Nat):Int)=((47:UInt8).toNat:Nat) from hc))
  rcases Nat.lt_trichotomy i k with hlt | hlt | hlt
  ·exfalso
   refine hn k hlt hk ?_
   rw [getElem!_pos s.data k hk]
   show ((s[k].toNat:Nat):Int)=47
   rw [e]
   rfl
  ·rw [hlt]
  ·exact absurd hc' (h i hi hlt)
set_option maxHeartbeats 2000000 in
theorem rparent_same (s:ByteArray) (w:World) (hs:s.size≤4611686018427387904):
 Calls Tryz.prog 127 #[.string s] w (Same (.string (Qm.parent s)) w):=by
 have HP:Hid (Qm.parent s=if Lib.lastIndexByte s 47 < 0 then ⟨#[]⟩ else s.extract 0 (Lib.lastIndexByte s 47).toNat):=Lib.hid rfl
 generalize Qm.parent s=R at HP ⊢
 go_enter Tryz.func127,Tryz.ntmps127
 have hx:=Ext.refl w
 go_wp2
 go_loop [3] (fun i=>∃ k:Nat,k≤s.size∧i=.int .i64 ((k:Int) - 1)∧Hid (∀ j (hj:j < s.size),k≤j→s[j]≠47)) (fun i=>(intOf i+1).toNat)
 case atStart=>exact ⟨s.size,Nat.le_refl _,rfl,Lib.hid (fun j hj h=>absurd hj (by omega))⟩
 case round=>
  obtain ⟨k,hk,rfl,HA⟩:=hrel
  by_cases hz:k=0
  ·subst hz
   have HR:Hid (R=⟨#[]⟩):=Lib.hid (by rw [HP.out,if_pos (last_none fun j hj=>HA.out j hj (Nat.zero_le _))])
   clear HP HA
   go_wp2
   go_ret
   exact Same.mk (by rw [HR.out];rfl)
  ·obtain ⟨k,rfl⟩:∃ k',k=k'+1:=⟨k - 1,by omega⟩
   have hkk:((k+1:Nat):Int) - 1=k:=by omega
   rw [hkk]
   have hlt:k < s.size:=by omega
   clear hz hkk
   go_wp2
   ·rename_i hc _
    have hc':s[k]=47:=by rw [byte_slash] at hc;exact of_decide_eq_true hc
    have HR:Hid (R=s.extract 0 k):=Lib.hid (by
     have h0:=last_some hlt hc' (fun j hj h=>HA.out j hj (by omega))
     rw [HP.out,h0,if_neg (by omega),Int.toNat_natCast])
    go_ret
    exact Same.mk (by rw [HR.out];rfl)
   ·rename_i hc
    have hc':s[k]≠47:=by rw [byte_slash] at hc;exact of_decide_eq_false hc
    refine ⟨⟨k,by omega,rfl,Lib.hid fun j hj h=>?_⟩,by simp [intOf]⟩
    rcases Nat.eq_or_lt_of_le h with e | e
    ·subst e
     exact hc'
    ·exact HA.out j hj e
theorem rparent_any (s:ByteArray) (w:World) (hs:s.size≤4611686018427387904):
 Calls Tryz.prog 127 #[.string s] w (Ret (.string (Qm.parent s)) w):=
 (rparent_same s w hs).mono fun _ _ h=>⟨h.1,by rw [h.2];exact Ext.refl _⟩
end Go.Proofs.YtlbhaimfjfdppaaGreatDoor
namespace Go.Proofs.YtlbhaimfjfdppaaGreatDoor
open Go.RowKit
theorem rbelow_any (s t:ByteArray) (w:World) (hs:s.size≤4611686018427387904):
 Calls Tryz.prog 85 #[.string s,.string t] w (Ret (.bool (Qm.below s t)) w):=
 (rbelow_same s t w hs).mono fun _ _ h=>⟨h.1,by rw [h.2];exact Ext.refl _⟩
theorem rat_any (s t:ByteArray) (w:World) (hs:s.size≤4611686018427387904):
 Calls Tryz.prog 126 #[.string s,.string t] w (Ret (.bool (Qm.within s t)) w):=by
 go_enter Tryz.func126,Tryz.ntmps126
 have hx:=Ext.refl w
 go_wp2_with (go_at_call 85;refine (rbelow_any _ _ _ hs).mono ?_;rintro e w1 ⟨rfl,hx0⟩;have hy:=Ext.trans (a:=w) EX hx0;clear hx;have hx:=hy;clear hy;skip;(try clear hx0))
 all_goals (go_ret;refine Ret.mk ?_ ?_;(focus (simp [Qm.within,Qm.eqB, *];done));(focus (exact EX;done)))
def Rm.through (k:Int) (p t s:ByteArray):ByteArray × Bool:=
 if k == 5 then (if Qm.within s t then (⟨#[]⟩,false) else if Qm.within s p then (t ++ s.extract p.size s.size,true) else (s,true))
 else if (decide (k≤4) && Qm.within s p) || Qm.below s p then (⟨#[]⟩,false) else (s,true)
set_option maxHeartbeats 2000000 in
theorem rthrough_any (p:Pv) (s:ByteArray) (w:World) (h1:p.path.size≤1152921504606846976) (h2:p.to_.size≤1152921504606846976) (hs:s.size≤1152921504606846976):
 Calls Tryz.prog 109 #[p.v,.string s] w (Ret (.tuple #[.string (Rm.through p.kind p.path p.to_ s).1,.bool (Rm.through p.kind p.path p.to_ s).2]) w):=by
 go_enter Tryz.func109,Tryz.ntmps109
 have hx:=Ext.refl w
 go_wp2_with (first
  | (go_at_call 126;refine (rat_any _ _ _ (by omega)).mono ?_;rintro e w1 ⟨rfl,hx0⟩;have hy:=Ext.trans (a:=w) EX hx0;clear hx;have hx:=hy;clear hy;have hn0:=BB hx0 (w.heap.size);(first | simp [↓heap_drew_at,↓heap_drewN_at,↓heap_alloc_at,↓heap_set_at,ne_two,ne_three,ne_two_left,ne_three_left,↓hb0.eq,hb0.lt,hb0.ne] at hn0 | simp [↓heap_drew_at,↓heap_drewN_at,↓heap_alloc_at,↓heap_set_at,ne_two,ne_three,ne_two_left,ne_three_left] at hn0);(try clear hb0 hc0 hf0 hl0);have hb0:=Blk.mk hn0;clear hn0;obtain ⟨hc0,hf0,hl0⟩:=hb0.all;(try clear hx0))
  | (go_at_call 85;refine (rbelow_any _ _ _ (by omega)).mono ?_;rintro e w1 ⟨rfl,hx0⟩;have hy:=Ext.trans (a:=w) EX hx0;clear hx;have hx:=hy;clear hy;have hn0:=BB hx0 (w.heap.size);(first | simp [↓heap_drew_at,↓heap_drewN_at,↓heap_alloc_at,↓heap_set_at,ne_two,ne_three,ne_two_left,ne_three_left,↓hb0.eq,hb0.lt,hb0.ne] at hn0 | simp [↓heap_drew_at,↓heap_drewN_at,↓heap_alloc_at,↓heap_set_at,ne_two,ne_three,ne_two_left,ne_three_left] at hn0);(try clear hb0 hc0 hf0 hl0);have hb0:=Blk.mk hn0;clear hn0;obtain ⟨hc0,hf0,hl0⟩:=hb0.all;(try clear hx0)))
 all_goals first
  | (go_ret2;refine Ret.mk ?_ ?_;(focus (simp [Rm.through, *];done));(focus (exact EX;done)))
  | (go_ret2;refine Ret.mk ?_ ?_;(focus (have hk:¬ p.kind≤4:=(by omega);simp [Rm.through,hk, *];done));(focus (exact EX;done)))
  | skip
 have hle:=Qm.size_of_within (by assumption:Qm.within s p.path=true)
 go_quiet (fail)
 go_wp2
 (go_ret2;refine Ret.mk ?_ ?_;(focus (simp [Rm.through, *];done));(focus (exact EX;done)))
theorem Rm.through_size (k:Int) (p t s:ByteArray):(Rm.through k p t s).1.size≤t.size+s.size:=by
 unfold Rm.through
 repeat' split
 all_goals simp only [ByteArray.size_append,ByteArray.size_extract,show (ByteArray.mk #[]).size=0 from rfl]
 all_goals omega
theorem Qm.parent_size (s:ByteArray):(Qm.parent s).size≤s.size:=by
 unfold Qm.parent
 split
 ·exact Nat.zero_le _
 ·simp only [ByteArray.size_extract]
  omega
def Rm.slot (k:Int) (p t s:ByteArray):ByteArray × Bool:=
 if decide (6≤k) && Qm.below s p then (⟨#[]⟩,false)
 else if Qm.eqB (Qm.parent s) ⟨#[]⟩=true then (s,true)
 else ((Rm.through k p t (Qm.parent s)).1 ++ s.extract (Qm.parent s).size s.size,(Rm.through k p t (Qm.parent s)).2)
set_option maxHeartbeats 2000000 in
theorem rslot_any (p:Pv) (s:ByteArray) (w:World) (h1:p.path.size≤1152921504606846976) (h2:p.to_.size≤1152921504606846976) (hs:s.size≤1152921504606846976):
 Calls Tryz.prog 110 #[p.v,.string s] w (Ret (.tuple #[.string (Rm.slot p.kind p.path p.to_ s).1,.bool (Rm.slot p.kind p.path p.to_ s).2]) w):=by
 have hd:=Qm.parent_size s
 have HP:=Lib.hid (fun W=>rparent_any s W (by omega))
 have HT:=Lib.hid (fun W=>rthrough_any p (Qm.parent s) W h1 h2 (by omega))
 have ht:=Rm.through_size p.kind p.path p.to_ (Qm.parent s)
 have HV:Hid (Rm.slot p.kind p.path p.to_ s=if decide (6≤p.kind) && Qm.below s p.path then (⟨#[]⟩,false) else if Qm.eqB (Qm.parent s) ⟨#[]⟩=true then (s,true) else ((Rm.through p.kind p.path p.to_ (Qm.parent s)).1 ++ s.extract (Qm.parent s).size s.size,(Rm.through p.kind p.path p.to_ (Qm.parent s)).2)):=Lib.hid rfl
 generalize Rm.slot p.kind p.path p.to_ s=R at HV ⊢
 generalize Rm.through p.kind p.path p.to_ (Qm.parent s)=T at *
 generalize Qm.parent s=D at *
 obtain ⟨T1,T2⟩:=T
 dsimp only at *
 go_enter Tryz.func110,Tryz.ntmps110
 have hx:=Ext.refl w
 go_wp2_with (first
  | (go_at_call 85;refine (rbelow_any _ _ _ (by omega)).mono ?_;rintro e w1 ⟨rfl,hx0⟩;have hy:=Ext.trans (a:=w) EX hx0;clear hx;have hx:=hy;clear hy;have hn0:=BB hx0 (w.heap.size);(first | simp [↓heap_drew_at,↓heap_drewN_at,↓heap_alloc_at,↓heap_set_at,ne_two,ne_three,ne_two_left,ne_three_left,↓hb0.eq,hb0.lt,hb0.ne] at hn0 | simp [↓heap_drew_at,↓heap_drewN_at,↓heap_alloc_at,↓heap_set_at,ne_two,ne_three,ne_two_left,ne_three_left] at hn0);(try clear hb0 hc0 hf0 hl0);have hb0:=Blk.mk hn0;clear hn0;obtain ⟨hc0,hf0,hl0⟩:=hb0.all;(try clear hx0))
  | (go_at_call 127;refine (HP.out _).mono ?_;rintro e w1 ⟨rfl,hx0⟩;have hy:=Ext.trans (a:=w) EX hx0;clear hx;have hx:=hy;clear hy;have hn0:=BB hx0 (w.heap.size);(first | simp [↓heap_drew_at,↓heap_drewN_at,↓heap_alloc_at,↓heap_set_at,ne_two,ne_three,ne_two_left,ne_three_left,↓hb0.eq,hb0.lt,hb0.ne] at hn0 | simp [↓heap_drew_at,↓heap_drewN_at,↓heap_alloc_at,↓heap_set_at,ne_two,ne_three,ne_two_left,ne_three_left] at hn0);(try clear hb0 hc0 hf0 hl0);have hb0:=Blk.mk hn0;clear hn0;obtain ⟨hc0,hf0,hl0⟩:=hb0.all;(try clear hx0))
  | (go_at_call 109;refine (HT.out _).mono ?_;rintro e w1 ⟨rfl,hx0⟩;have hy:=Ext.trans (a:=w) EX hx0;clear hx;have hx:=hy;clear hy;have hn0:=BB hx0 (w.heap.size);(first | simp [↓heap_drew_at,↓heap_drewN_at,↓heap_alloc_at,↓heap_set_at,ne_two,ne_three,ne_two_left,ne_three_left,↓hb0.eq,hb0.lt,hb0.ne] at hn0 | simp [↓heap_drew_at,↓heap_drewN_at,↓heap_alloc_at,↓heap_set_at,ne_two,ne_three,ne_two_left,ne_three_left] at hn0);(try clear hb0 hc0 hf0 hl0);have hb0:=Blk.mk hn0;clear hn0;obtain ⟨hc0,hf0,hl0⟩:=hb0.all;(try clear hx0)))
 all_goals first
  | (go_ret2;refine Ret.mk ?_ ?_;(focus (have hv:=HV.out;simp [hv,Qm.eqB, *];done));(focus (exact EX;done)))
  | (go_ret2;refine Ret.mk ?_ ?_;(focus (have hv:=HV.out;have hk:¬ 6≤p.kind:=(by omega);simp [hv,Qm.eqB,hk, *];done));(focus (exact EX;done)))
theorem rexisting_any (p:Pv) (w:World):
 Calls Tryz.prog 108 #[p.v] w (Ret (.bool (!Qm.adds p.kind)) w):=by
 go_enter Tryz.func108,Tryz.ntmps108
 have hx:=Ext.refl w
 go_wp2
 all_goals (go_ret;refine Ret.mk ?_ ?_;(focus (simp [Qm.adds,bne, *];done));(focus (exact EX;done)))
theorem rfrees_any (p:Pv) (w:World):
 Calls Tryz.prog 91 #[p.v] w (Ret (.bool (Qm.frees p.kind)) w):=by
 go_enter Tryz.func91,Tryz.ntmps91
 have hx:=Ext.refl w
 go_wp2
 all_goals (go_ret;refine Ret.mk ?_ ?_;(focus (simp [Qm.frees, *];done));(focus (exact EX;done)))
def Rm.fresh (k:Int) (p t:ByteArray):ByteArray:=if k == 5 then t else if Qm.adds k then p else ⟨#[]⟩
theorem rfresh_any (p:Pv) (w:World):
 Calls Tryz.prog 90 #[p.v] w (Ret (.string (Rm.fresh p.kind p.path p.to_)) w):=by
 go_enter Tryz.func90,Tryz.ntmps90
 have hx:=Ext.refl w
 cases ha:Qm.adds p.kind
 all_goals
  have Ha:=Lib.hid ha;clear ha
  go_wp2_with (go_at_call 108;refine (rexisting_any p _).mono ?_;rintro e w1 ⟨rfl,hx0⟩;have hy:=Ext.trans (a:=w) EX hx0;clear hx;have hx:=hy;clear hy;have hn0:=BB hx0 (w.heap.size);(first | simp [↓heap_drew_at,↓heap_drewN_at,↓heap_alloc_at,↓heap_set_at,ne_two,ne_three,ne_two_left,ne_three_left,↓hb0.eq,hb0.lt,hb0.ne] at hn0 | simp [↓heap_drew_at,↓heap_drewN_at,↓heap_alloc_at,↓heap_set_at,ne_two,ne_three,ne_two_left,ne_three_left] at hn0);(try clear hb0 hc0 hf0 hl0);have hb0:=Blk.mk hn0;clear hn0;obtain ⟨hc0,hf0,hl0⟩:=hb0.all;(try clear hx0);rw [Ha.out])
 all_goals (go_ret;refine Ret.mk ?_ ?_;(focus (have ha:=Ha.out;simp [Rm.fresh,ha, *];done));(focus (exact EX;done)))
end Go.Proofs.YtlbhaimfjfdppaaGreatDoor
namespace Go.Proofs.YtlbhaimfjfdppaaGreatDoor
open Go.RowKit
set_option maxHeartbeats 1000000 in
theorem rhvalid_any (h:Hv) (w:World) (hf:h.fair):
 Calls Tryz.prog 128 #[h.v] w (Ret (.bool (h.check == 0)) w):=by
 have HH:=Lib.hid (fun g t W hb=>rhcheck_any g t (Pv.zero.withHunk h) W hb hf.1 hf.2)
 go_enter Tryz.func128,Tryz.ntmps128
 have hx:=Ext.refl w
 go_wp2_with fail
 refine (HH.out _ _ _ (Blk.new' (by simp [harr,Pv.withHunk]))).mono ?_
 rintro e w1 ⟨rfl,hx0⟩
 have hy:=Ext.trans (a:=w) EX hx0;clear hx;have hx:=hy;clear hy;skip;(try clear hx0)
 go_wp2_with fail
 (go_ret;refine Ret.mk ?_ ?_;(focus (rfl;done));(focus (exact EX;done)))
set_option maxHeartbeats 1000000 in
theorem rhmoved_any (h:Hv) (d:Int) (w:World) (h1:-1152921504606846976≤h.at_) (h2:h.at_≤1152921504606846976) (h3:-1152921504606846976≤d) (h4:d≤1152921504606846976):
 Calls Tryz.prog 129 #[h.v,.int .i64 d] w (Ret (.tuple #[(h.shift d).v,.bool (decide (h.at_+d≤1099511627776))]) w):=by
 go_enter Tryz.func129,Tryz.ntmps129
 have hx:=Ext.refl w
 go_wp2
 go_region
 all_goals go_wp2
 all_goals (refine bodyPost_ret (v:=.tuple #[(h.shift d).v,.bool (decide (h.at_+d≤1099511627776))]) ?_ rfl ?_;(focus (simp only [results,Tryz.results129];go_simp;(try (simp [Hv.shift]));done));refine Ret.mk rfl ?_;(focus (exact EX;done)))
set_option maxHeartbeats 8000000 in
set_option maxRecDepth 100000 in
theorem rhcommute_any (a b:Hv) (w:World) (ha:a.fair) (hb:b.fair):
 Calls Tryz.prog 112 #[a.v,b.v] w (Ret (.tuple #[(a.commute b).1.v,(a.commute b).2.1.v,.bool (a.commute b).2.2]) w):=by
 obtain ⟨ha1,ha2⟩:=ha
 obtain ⟨hb1,hb2⟩:=hb
 by_cases va:(a.check == 0)=false
 ·have HM:Hid (a.commute b=(Hv.zero,Hv.zero,false)):=Lib.hid (by unfold Hv.commute;rw [if_pos (.inl va)])
  generalize a.commute b=R at HM ⊢
  have Va:=Lib.hid va
  clear va
  go_enter Tryz.func112,Tryz.ntmps112
  have hx:=Ext.refl w
  go_wp2_with (go_at_call 128;refine (rhvalid_any a _ ⟨by omega,by omega⟩).mono ?_;rintro e w1 ⟨rfl,hx0⟩;have hy:=Ext.trans (a:=w) EX hx0;clear hx;have hx:=hy;clear hy;have hn0:=BB hx0 (w.heap.size);have hn1:=BB hx0 (w.heap.size+1);have hn2:=BB hx0 (w.heap.size+1+1);have hn3:=BB hx0 (w.heap.size+1+1+1);(first | simp [↓heap_drew_at,↓heap_drewN_at,↓heap_alloc_at,↓heap_set_at,ne_two,ne_three,ne_two_left,ne_three_left,↓hb0.eq,hb0.lt,hb0.ne,↓hb1.eq,hb1.lt,hb1.ne,↓hb2.eq,hb2.lt,hb2.ne,↓hb3.eq,hb3.lt,hb3.ne] at hn0 hn1 hn2 hn3 | simp [↓heap_drew_at,↓heap_drewN_at,↓heap_alloc_at,↓heap_set_at,ne_two,ne_three,ne_two_left,ne_three_left] at hn0 hn1 hn2 hn3);(try clear hb0 hc0 hf0 hl0);(try clear hb1 hc1 hf1 hl1);(try clear hb2 hc2 hf2 hl2);(try clear hb3 hc3 hf3 hl3);have hb0:=Blk.mk hn0;clear hn0;obtain ⟨hc0,hf0,hl0⟩:=hb0.all;have hb1:=Blk.mk hn1;clear hn1;obtain ⟨hc1,hf1,hl1⟩:=hb1.all;have hb2:=Blk.mk hn2;clear hn2;obtain ⟨hc2,hf2,hl2⟩:=hb2.all;have hb3:=Blk.mk hn3;clear hn3;obtain ⟨hc3,hf3,hl3⟩:=hb3.all;(try clear hx0);rw [Va.out])
  rw [HM.out]
  (refine bodyPost_ret (v:=.tuple #[Hv.zero.v,Hv.zero.v,.bool false]) ?_ rfl ?_;(focus (simp only [results,Tryz.results112];go_simp;(try (simp [Hv.zero]));done));refine Ret.mk rfl ?_;(focus (exact EX;done)))
 by_cases vb:(b.check == 0)=false
 ·have HM:Hid (a.commute b=(Hv.zero,Hv.zero,false)):=Lib.hid (by unfold Hv.commute;rw [if_pos (.inr vb)])
  generalize a.commute b=R at HM ⊢
  have Va:=Lib.hid (Bool.of_not_eq_false va)
  have Vb:=Lib.hid vb
  clear va vb
  go_enter Tryz.func112,Tryz.ntmps112
  have hx:=Ext.refl w
  go_wp2_with fail
  go_at_call 128;refine (rhvalid_any a _ ⟨by omega,by omega⟩).mono ?_;rintro e w1 ⟨rfl,hx0⟩;have hy:=Ext.trans (a:=w) EX hx0;clear hx;have hx:=hy;clear hy;have hn0:=BB hx0 (w.heap.size);have hn1:=BB hx0 (w.heap.size+1);have hn2:=BB hx0 (w.heap.size+1+1);have hn3:=BB hx0 (w.heap.size+1+1+1);(first | simp [↓heap_drew_at,↓heap_drewN_at,↓heap_alloc_at,↓heap_set_at,ne_two,ne_three,ne_two_left,ne_three_left,↓hb0.eq,hb0.lt,hb0.ne,↓hb1.eq,hb1.lt,hb1.ne,↓hb2.eq,hb2.lt,hb2.ne,↓hb3.eq,hb3.lt,hb3.ne] at hn0 hn1 hn2 hn3 | simp [↓heap_drew_at,↓heap_drewN_at,↓heap_alloc_at,↓heap_set_at,ne_two,ne_three,ne_two_left,ne_three_left] at hn0 hn1 hn2 hn3);(try clear hb0 hc0 hf0 hl0);(try clear hb1 hc1 hf1 hl1);(try clear hb2 hc2 hf2 hl2);(try clear hb3 hc3 hf3 hl3);have hb0:=Blk.mk hn0;clear hn0;obtain ⟨hc0,hf0,hl0⟩:=hb0.all;have hb1:=Blk.mk hn1;clear hn1;obtain ⟨hc1,hf1,hl1⟩:=hb1.all;have hb2:=Blk.mk hn2;clear hn2;obtain ⟨hc2,hf2,hl2⟩:=hb2.all;have hb3:=Blk.mk hn3;clear hn3;obtain ⟨hc3,hf3,hl3⟩:=hb3.all;(try clear hx0);rw [Va.out]
  go_wp2_with fail
  go_at_call 128;refine (rhvalid_any b _ ⟨by omega,by omega⟩).mono ?_;rintro e w1 ⟨rfl,hx0⟩;have hy:=Ext.trans (a:=w) EX hx0;clear hx;have hx:=hy;clear hy;have hn0:=BB hx0 (w.heap.size);have hn1:=BB hx0 (w.heap.size+1);have hn2:=BB hx0 (w.heap.size+1+1);have hn3:=BB hx0 (w.heap.size+1+1+1);(first | simp [↓heap_drew_at,↓heap_drewN_at,↓heap_alloc_at,↓heap_set_at,ne_two,ne_three,ne_two_left,ne_three_left,↓hb0.eq,hb0.lt,hb0.ne,↓hb1.eq,hb1.lt,hb1.ne,↓hb2.eq,hb2.lt,hb2.ne,↓hb3.eq,hb3.lt,hb3.ne] at hn0 hn1 hn2 hn3 | simp [↓heap_drew_at,↓heap_drewN_at,↓heap_alloc_at,↓heap_set_at,ne_two,ne_three,ne_two_left,ne_three_left] at hn0 hn1 hn2 hn3);(try clear hb0 hc0 hf0 hl0);(try clear hb1 hc1 hf1 hl1);(try clear hb2 hc2 hf2 hl2);(try clear hb3 hc3 hf3 hl3);have hb0:=Blk.mk hn0;clear hn0;obtain ⟨hc0,hf0,hl0⟩:=hb0.all;have hb1:=Blk.mk hn1;clear hn1;obtain ⟨hc1,hf1,hl1⟩:=hb1.all;have hb2:=Blk.mk hn2;clear hn2;obtain ⟨hc2,hf2,hl2⟩:=hb2.all;have hb3:=Blk.mk hn3;clear hn3;obtain ⟨hc3,hf3,hl3⟩:=hb3.all;(try clear hx0);rw [Vb.out]
  go_wp2_with fail
  rw [HM.out]
  (refine bodyPost_ret (v:=.tuple #[Hv.zero.v,Hv.zero.v,.bool false]) ?_ rfl ?_;(focus (simp only [results,Tryz.results112];go_simp;(try (simp [Hv.zero]));done));refine Ret.mk rfl ?_;(focus (exact EX;done)))
 have hA:=Hv.check_bounds (Bool.of_not_eq_false va)
 have hB:=Hv.check_bounds (Bool.of_not_eq_false vb)
 have HM:Hid (a.commute b=if a.at_+a.n2 < b.at_ then (if b.at_+((a.n1:Int) - a.n2)≤1099511627776 then (b.shift ((a.n1:Int) - a.n2),a,true) else (Hv.zero,Hv.zero,false))
  else if b.at_+b.n1 < a.at_ then (if a.at_+((b.n2:Int) - b.n1)≤1099511627776 then (b,a.shift ((b.n2:Int) - b.n1),true) else (Hv.zero,Hv.zero,false)) else (Hv.zero,Hv.zero,false)):=Lib.hid (by
  have e1:-a.growth=(a.n1:Int) - a.n2:=by unfold Hv.growth;omega
  unfold Hv.commute
  rw [if_neg (by rintro (h | h);exact va h;exact vb h),e1]
  rfl)
 generalize a.commute b=R at HM ⊢
 have Va:=Lib.hid (Bool.of_not_eq_false va)
 have Vb:=Lib.hid (Bool.of_not_eq_false vb)
 clear va vb
 go_enter Tryz.func112,Tryz.ntmps112
 have hx:=Ext.refl w
 go_wp2_with fail
 go_at_call 128;refine (rhvalid_any a _ ⟨by omega,by omega⟩).mono ?_;rintro e w1 ⟨rfl,hx0⟩;have hy:=Ext.trans (a:=w) EX hx0;clear hx;have hx:=hy;clear hy;have hn0:=BB hx0 (w.heap.size);have hn1:=BB hx0 (w.heap.size+1);have hn2:=BB hx0 (w.heap.size+1+1);have hn3:=BB hx0 (w.heap.size+1+1+1);(first | simp [↓heap_drew_at,↓heap_drewN_at,↓heap_alloc_at,↓heap_set_at,ne_two,ne_three,ne_two_left,ne_three_left,↓hb0.eq,hb0.lt,hb0.ne,↓hb1.eq,hb1.lt,hb1.ne,↓hb2.eq,hb2.lt,hb2.ne,↓hb3.eq,hb3.lt,hb3.ne] at hn0 hn1 hn2 hn3 | simp [↓heap_drew_at,↓heap_drewN_at,↓heap_alloc_at,↓heap_set_at,ne_two,ne_three,ne_two_left,ne_three_left] at hn0 hn1 hn2 hn3);(try clear hb0 hc0 hf0 hl0);(try clear hb1 hc1 hf1 hl1);(try clear hb2 hc2 hf2 hl2);(try clear hb3 hc3 hf3 hl3);have hb0:=Blk.mk hn0;clear hn0;obtain ⟨hc0,hf0,hl0⟩:=hb0.all;have hb1:=Blk.mk hn1;clear hn1;obtain ⟨hc1,hf1,hl1⟩:=hb1.all;have hb2:=Blk.mk hn2;clear hn2;obtain ⟨hc2,hf2,hl2⟩:=hb2.all;have hb3:=Blk.mk hn3;clear hn3;obtain ⟨hc3,hf3,hl3⟩:=hb3.all;(try clear hx0);rw [Va.out]
 go_wp2_with fail
 go_at_call 128;refine (rhvalid_any b _ ⟨by omega,by omega⟩).mono ?_;rintro e w1 ⟨rfl,hx0⟩;have hy:=Ext.trans (a:=w) EX hx0;clear hx;have hx:=hy;clear hy;have hn0:=BB hx0 (w.heap.size);have hn1:=BB hx0 (w.heap.size+1);have hn2:=BB hx0 (w.heap.size+1+1);have hn3:=BB hx0 (w.heap.size+1+1+1);(first | simp [↓heap_drew_at,↓heap_drewN_at,↓heap_alloc_at,↓heap_set_at,ne_two,ne_three,ne_two_left,ne_three_left,↓hb0.eq,hb0.lt,hb0.ne,↓hb1.eq,hb1.lt,hb1.ne,↓hb2.eq,hb2.lt,hb2.ne,↓hb3.eq,hb3.lt,hb3.ne] at hn0 hn1 hn2 hn3 | simp [↓heap_drew_at,↓heap_drewN_at,↓heap_alloc_at,↓heap_set_at,ne_two,ne_three,ne_two_left,ne_three_left] at hn0 hn1 hn2 hn3);(try clear hb0 hc0 hf0 hl0);(try clear hb1 hc1 hf1 hl1);(try clear hb2 hc2 hf2 hl2);(try clear hb3 hc3 hf3 hl3);have hb0:=Blk.mk hn0;clear hn0;obtain ⟨hc0,hf0,hl0⟩:=hb0.all;have hb1:=Blk.mk hn1;clear hn1;obtain ⟨hc1,hf1,hl1⟩:=hb1.all;have hb2:=Blk.mk hn2;clear hn2;obtain ⟨hc2,hf2,hl2⟩:=hb2.all;have hb3:=Blk.mk hn3;clear hn3;obtain ⟨hc3,hf3,hl3⟩:=hb3.all;(try clear hx0);rw [Vb.out]
 go_wp2_with (go_at_call 129;refine (rhmoved_any _ _ _ (by omega) (by omega) (by omega) (by omega)).mono ?_;rintro e w1 ⟨rfl,hx0⟩;have hy:=Ext.trans (a:=w) EX hx0;clear hx;have hx:=hy;clear hy;have hn0:=BB hx0 (w.heap.size);have hn1:=BB hx0 (w.heap.size+1);have hn2:=BB hx0 (w.heap.size+1+1);have hn3:=BB hx0 (w.heap.size+1+1+1);(first | simp [↓heap_drew_at,↓heap_drewN_at,↓heap_alloc_at,↓heap_set_at,ne_two,ne_three,ne_two_left,ne_three_left,↓hb0.eq,hb0.lt,hb0.ne,↓hb1.eq,hb1.lt,hb1.ne,↓hb2.eq,hb2.lt,hb2.ne,↓hb3.eq,hb3.lt,hb3.ne] at hn0 hn1 hn2 hn3 | simp [↓heap_drew_at,↓heap_drewN_at,↓heap_alloc_at,↓heap_set_at,ne_two,ne_three,ne_two_left,ne_three_left] at hn0 hn1 hn2 hn3);(try clear hb0 hc0 hf0 hl0);(try clear hb1 hc1 hf1 hl1);(try clear hb2 hc2 hf2 hl2);(try clear hb3 hc3 hf3 hl3);have hb0:=Blk.mk hn0;clear hn0;obtain ⟨hc0,hf0,hl0⟩:=hb0.all;have hb1:=Blk.mk hn1;clear hn1;obtain ⟨hc1,hf1,hl1⟩:=hb1.all;have hb2:=Blk.mk hn2;clear hn2;obtain ⟨hc2,hf2,hl2⟩:=hb2.all;have hb3:=Blk.mk hn3;clear hn3;obtain ⟨hc3,hf3,hl3⟩:=hb3.all;(try clear hx0))
 all_goals
  have hm:=HM.out
  clear HM
  (try simp only [Bool.not_eq_true',Bool.not_eq_false',Bool.not_eq_eq_eq_not,Bool.not_true,Bool.not_false,decide_eq_true_eq,decide_eq_false_iff_not] at *)
  repeat' split at hm
 all_goals (try (exfalso;omega))
 all_goals
  have HR:=Lib.hid hm
  clear hm
  (try go_region)
 all_goals (try go_wp2_with fail)
 all_goals rw [HR.out]
 all_goals first
  | (refine bodyPost_ret (v:=.tuple #[Hv.zero.v,Hv.zero.v,.bool false]) ?_ rfl ?_;(focus (simp only [results,Tryz.results112];go_simp;(try (simp [Hv.zero]));done));refine Ret.mk rfl ?_;(focus (exact EX;done)))
  | (refine bodyPost_ret (v:=.tuple #[(b.shift ((a.n1:Int) - a.n2)).v,a.v,.bool true]) ?_ rfl ?_;(focus (simp only [results,Tryz.results112];go_simp;(try (simp [Hv.shift]));done));refine Ret.mk rfl ?_;(focus (exact EX;done)))
  | (refine bodyPost_ret (v:=.tuple #[b.v,(a.shift ((b.n2:Int) - b.n1)).v,.bool true]) ?_ rfl ?_;(focus (simp only [results,Tryz.results112];go_simp;(try (simp [Hv.shift]));done));refine Ret.mk rfl ?_;(focus (exact EX;done)))
end Go.Proofs.YtlbhaimfjfdppaaGreatDoor
