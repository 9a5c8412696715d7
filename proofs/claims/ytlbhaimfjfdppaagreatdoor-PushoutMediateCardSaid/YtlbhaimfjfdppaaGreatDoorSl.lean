import Derived.Test.YtlbhaimfjfdppaaGreatDoorCl
import Derived.Test.YtlbhaimfjfdppaaGreatDoorUe
import Derived.Test.YtlbhaimfjfdppaaGreatDoorZ
set_option linter.unusedSimpArgs false
set_option linter.unusedVariables false
namespace Go.Proofs.YtlbhaimfjfdppaaGreatDoor
open Go Go.RowKit
attribute [local go_sem ↓] Go.wp_at_zero Go.wp_at_succ
theorem range_ext {w w':World} {b o:Nat} {cs:List Value} (h:w.rangeAt b o cs) (hb:b < w.heap.size) (hx:Ext w w'):w'.rangeAt b o cs:=fun j v hv=>by rw [hx.cell (p:=⟨b,_,none⟩) hb];exact h j v hv
set_option maxHeartbeats 8000000 in
set_option maxRecDepth 100000 in
theorem rsame_true (A B:Option Addr) (n c d:Nat) (l:List Qp) (w:World) {F G:Nat→Prop} (h1:Qs w F A l) (h2:Qs w G B l) (hn:l.length=n) (hb:n≤1000000000000) (hf:∀ q∈l,q.Fits):
 Calls Tryz.prog 18 #[.slice A n c,.slice B n d] w (Ret (.bool true) w):=by
 have H1:=Lib.hid h1
 have H2:=Lib.hid h2
 have HF:=Lib.hid hf
 have HN:=Lib.hid hn
 clear h1 h2 hf hn
 go_enter Tryz.func18,Tryz.ntmps18
 have hx:=Ext.refl w
 go_wp2_with fail
 go_loopw [5] (fun u wr=>∃ k:Nat,k≤n∧u=.int .i64 k∧Ext w wr) (fun u wr=>n - (intOf u).toNat)
 case atStart=>exact ⟨0,Nat.zero_le _,rfl,hx⟩
 case round=>
  clear hx
  obtain ⟨k,hk,rfl,hx⟩:=hrel
  by_cases hlt:k < n
  ·have hkl:k < l.length:=by rw [HN.out];exact hlt
   have e1:l[k]?=some (l[k]'hkl):=List.getElem?_eq_getElem hkl
   obtain ⟨b,o,p,rfl,hbl,hc,hi⟩:=(H1.out.ext hx).get e1
   obtain ⟨b2,o2,p2,rfl,hbl2,hc2,hi2⟩:=(H2.out.ext hx).get e1
   have ms:=HF.out _ (List.mem_of_getElem? e1)
   generalize l[k]'hkl=q at hi hi2 ms
   have HC:=Lib.hid (fun W (hW:Ext wr W)=>range_ext hc hbl hW)
   have HC2:=Lib.hid (fun W (hW:Ext wr W)=>range_ext hc2 hbl2 hW)
   have HS:=Lib.hid (fun W (hW:Ext wr W)=>psame_true p p2 q W (hi.ext hW) (hi2.ext hW) ms.1 ms.2.1)
   clear hc hc2 hi hi2 ms e1 hbl hbl2 hkl
   go_upto_region 6 with fail
   go_cut [26] (fun u26 wx=>u26=.bool false∧Ext wr wx)
   case first=>
    refine wp_region_noPanic (wp_region_held_drew (S:=fun w'=>Ext wr w') (by kernel_rfl) (Ext.refl wr).drew1 (fun hv=>?_))
    generalize wr.drew=v0 at hv ⊢
    refine tf (i:=0) (v:=.slice (some ⟨b,o,none⟩) n c) rfl rfl (fun _=>rfl) hv ?_
    try simp only [Act.put,sA,s0,sS]
    refine tf (i:=1) (v:=.int .i64 k) rfl rfl (fun _=>rfl) hv ?_
    try simp only [Act.put,sA,s0,sS]
    refine ti (i:=2) b o n c k rfl rfl rfl rfl rfl hlt Tryz.underlying22 hv ?_
    try simp only [Act.put,sA,s0,sS]
    refine tl (i:=3) (parr p).toList rfl rfl rfl rfl rfl Tryz.underlying42 rfl (fun _ h=>HC.out _ h) hv ?_
    try simp only [Act.put,sA,s0,sS]
    refine tf (i:=4) (v:=.slice (some ⟨b2,o2,none⟩) n d) rfl rfl (fun _=>rfl) hv ?_
    try simp only [Act.put,sA,s0,sS]
    refine tf (i:=5) (v:=.int .i64 k) rfl rfl (fun _=>rfl) hv ?_
    try simp only [Act.put,sA,s0,sS]
    refine ti (i:=6) b2 o2 n d k rfl rfl rfl rfl rfl hlt Tryz.underlying22 hv ?_
    try simp only [Act.put,sA,s0,sS]
    refine tl (i:=7) (parr p2).toList rfl rfl rfl rfl rfl Tryz.underlying42 rfl (fun _ h=>HC2.out _ h) hv ?_
    try simp only [Act.put,sA,s0,sS]
    refine wpAnyH_one (i:=8) (by kernel_rfl) rfl (by kernel_rfl) ?_
    go_simp
    refine (HS.out _ hv).mono ?_
    rintro e w3 ⟨rfl,hx0⟩
    refine ⟨hv.trans hx0,?_⟩
    have hv2:=hv.trans hx0
    clear hv hx0
    have hv:=hv2
    try simp only [Act.put,sA,s0,sS]
    refine tf (i:=9) (v:=.bool false) rfl rfl (fun _=>rfl) hv ?_
    try simp only [Act.put,sA,s0,sS]
    refine wpAnyH_done (by kernel_rfl) (NoPanic.normal ?_) _
    go_wp2_with fail
    go_meet
    exact ⟨rfl,hv⟩
   case rest=>
    obtain ⟨rfl,hx3⟩:=hcut
    have hx4:=hx.trans hx3
    clear hx hx3
    go_wp2_with fail
    go_roundw
    case rel=>
     exact ⟨k+1,hlt,rfl,hx4⟩
    case measure=>simp [intOf];omega
  ·obtain rfl:k=n:=by omega
   go_wp2_with fail
   (go_ret;refine Ret.mk ?_ ?_;(focus (rfl;done));(focus (exact EX;done)))
theorem Qs.of_flat {w:World} {g:Nat} {G:Nat→Prop} {ps:List Pv} {l:List Qp} (h1:ps.length=l.length) (hb:Blk w g 42 (flat ps).toArray) (h3:∀ (i:Nat) (p:Pv) (q:Qp),ps[i]?=some p→l[i]?=some q→Is w G p q):Qs w G (some ⟨g,0,none⟩) l:=by
 refine ⟨ps,h1,fun h0=>⟨g,0,rfl,hb.lt,fun i p hp j v hv=>?_⟩,h3⟩
 have hj:j < 12:=(List.getElem?_eq_some_iff.1 hv).1
 rw [hb.cell,Nat.zero_add,List.getElem?_toArray,flat_get hp hj,hv]
theorem Qs.plain {w:World} {g:Nat} (G:Nat→Prop) {l:List Qp} (hb:Blk w g 42 (flat (l.map fun q=>q.pv none 0 none 0)).toArray) (h:∀ q∈l,q.old=[]∧q.new=[]):Qs w G (some ⟨g,0,none⟩) l:=
 Qs.of_flat (by simp) hb fun i p q hp hq=>by
  rw [List.getElem?_map,hq] at hp
  obtain rfl:=Option.some.inj hp
  have:=h q (List.mem_of_getElem? hq)
  exact Is.none _ _ _ this.1 this.2
end Go.Proofs.YtlbhaimfjfdppaaGreatDoor
