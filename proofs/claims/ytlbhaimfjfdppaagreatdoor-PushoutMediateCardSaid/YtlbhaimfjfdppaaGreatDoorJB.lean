import Derived.Test.YtlbhaimfjfdppaaGreatDoorUe
import Derived.Test.YtlbhaimfjfdppaaGreatDoorCl
import Derived.RangeFuncNested
import Derived.RangeFuncBound
import Derived.RangeFuncLeaves
import Derived.Shelf.Abstract
import Derived.Shelf.RegionOpen
import Derived.OwnWalkIn
import Derived.TacticsInMore
import Derived.LoopNIn
import Derived.LoopIn
set_option linter.unusedSimpArgs false
set_option linter.unusedVariables false
namespace Go.Proofs.YtlbhaimfjfdppaaGreatDoor
open Go.RowKit
attribute [local go_sem ↓] Go.wp_at_zero Go.wp_at_succ
set_option maxHeartbeats 16000000 in
set_option maxRecDepth 100000 in
theorem merge_any (p p':Pv) (a b:Qp) (w:World) (hg:Glob w) {F:Nat→Prop} (ha:Is w F p a) (hb:Is w F p' b) (fa:a.Fits) (fb:b.Fits):
 Calls Tryz.prog 72 #[p.v,p'.v] w (fun e w'=>∃ P P':Pv,e=.returned (.tuple #[P.v,P'.v,.bool (a.merge b).2.2])∧Hid (Is w' (fun b=>(F b∧b < w.heap.size)∨w.heap.size≤b) P (a.merge b).1)∧Hid (Is w' (fun b=>(F b∧b < w.heap.size)∨w.heap.size≤b) P' (a.merge b).2.1)∧Ext w w'):=by
 have HA:=Lib.hid ha.in
 have HB:=Lib.hid hb.in
 have HG:=Lib.hid hg
 have Q1:=Lib.hid (fun W (hW:Ext w W)=>check_q p a W (HG.out.ext hW) (HA.out.ext hW) fa.1 fa.2.1 fa.2.2.1 fa.2.2.2)
 have q2:=fun (h:a.check=0) W (hW:Ext w W)=>inverse_any p a W (HG.out.ext hW) (HA.out.ext hW) fa.1 fa.2.1 fa.2.2.1 fa.2.2.2 h
 have q3:a.check=0→∀ (F':Nat→Prop) W P,Ext w W→Is W F' P a.inv→(∀ b,F b∧b < w.heap.size→F' b)→Calls Tryz.prog 53 #[P.v,p'.v] W (GivesTwo F' (a.inv.commute b) W):=
  fun h F' W P hW hi hF=>commute_any P p' a.inv b W (HG.out.ext hW) hi ((HB.out.ext hW).mono hF) (check_fits (inv_check h)) fb
 have q4:∀ c d,a.inv.commute b=(c,d,true)→d.check=0:=fun c d h=>(commute_back h).2.2
 have HM:Hid (a.merge b=if a.check≠0 then (Qp.zero,Qp.zero,false) else if (a.inv.commute b).2.2 then ((a.inv.commute b).1,(a.inv.commute b).2.1.inv,true) else (Qp.zero,Qp.zero,false)):=Lib.hid rfl
 generalize a.merge b=R at HM ⊢
 generalize a.inv.commute b=R1 at q3 q4 HM
 generalize a.inv=ai at q2 q3
 obtain ⟨c,d,k⟩:=R1
 dsimp only at HM
 have Q2:=Lib.hid q2
 have Q3:=Lib.hid q3
 have Q4:=Lib.hid (fun (h:k=true)=>q4 c d (by rw [h]))
 clear q2 q3 q4 hg ha hb fa fb HB
 go_enter Tryz.func72,Tryz.ntmps72
 have hx:=Ext.refl w
 go_wp2_with fail
 refine (Q1.out _ EX).mono ?_
 rintro e w1 ⟨rfl,hx0⟩
 have hb0:Blk w1 (w.heap.size) 42 (parr p):=Blk.ext hx0 (Blk.alloc (Blk.alloc (Blk.alloc (Blk.new' (by simp)) _) _) _)
 have hb1:Blk w1 (w.heap.size+1) 42 (parr p'):=Blk.ext hx0 (Blk.alloc (Blk.alloc (Blk.new' (by simp)) _) _)
 have hb2:Blk w1 (w.heap.size+1+1) 42 zcells:=Blk.ext hx0 (Blk.alloc (Blk.new' (by simp)) _)
 have hb3:Blk w1 (w.heap.size+1+1+1) 42 zcells:=Blk.ext hx0 (Blk.new' (by simp))
 have hx1:=Ext.trans (a:=w) EX hx0
 clear hx hx0
 have hx:=hx1
 clear hx1
 by_cases z1:a.check=0
 rotate_left
 ·have HZ:Hid (R=(Qp.zero,Qp.zero,false)):=Lib.hid (by rw [HM.out];simp [z1])
  have z1':(a.check != 0)=true:=by simpa using z1
  clear z1 HM
  obtain ⟨hc0,hf0,hl0⟩:=hb0.all
  obtain ⟨hc1,hf1,hl1⟩:=hb1.all
  obtain ⟨hc2,hf2,hl2⟩:=hb2.all
  obtain ⟨hc3,hf3,hl3⟩:=hb3.all
  go_wp2_with fail
  refine bodyPost_ret (v:=.tuple #[(Qp.zero.pv none 0 none 0).v,(Qp.zero.pv none 0 none 0).v,.bool false]) ?_ rfl ?_
  ·simp only [results,Tryz.results72]
   go_simp
   simp [Qp.zero]
  ·rw [HZ.out]
   exact ⟨_,_,rfl,Lib.hid (Is.none _ _ Qp.zero rfl rfl),Lib.hid (Is.none _ _ Qp.zero rfl rfl),EX⟩
 have Z1:=Lib.hid z1
 have HM:Hid (R=if k then (c,d.inv,true) else (Qp.zero,Qp.zero,false)):=Lib.hid (by rw [HM.out,if_neg (by rw [z1];simp)])
 have z1':(a.check != 0)=false:=by simpa using z1
 rw [Z1.out]
 clear z1 Q1
 go_upto_region 3 with fail
 go_cut [7,8,9] (fun u7 u8 u9 wx=>∃ g7 g8:Nat,u7=.pointer (some ⟨g7,0,none⟩)∧u8=.pointer (some ⟨g8,0,none⟩)∧u9=.bool k∧Hid (Mid F w c d wx g7 g8)∧Ext w1 wx)
 case first=>
  have hs1:w.heap.size+4≤w1.heap.size:=by have :=hb3.lt;omega
  refine wp_region_noPanic (wp_region_held_drew (S:=fun w'=>Ext w1 w') (by kernel_rfl) (Ext.refl w1).drew1 (fun hH=>?_))
  refine tl (i:=0) (parr p).toList rfl rfl rfl rfl rfl Tryz.underlying42 rfl (fun _ h=>(hb0.ext h).range 0 _ (fun j _=>by rw [Nat.zero_add,Array.getElem?_toList])) hH ?_
  try simp only [Act.put,sA,s0,sS]
  refine tl (i:=2) (parr p').toList rfl rfl rfl rfl rfl Tryz.underlying42 rfl (fun _ h=>(hb1.ext h).range 0 _ (fun j _=>by rw [Nat.zero_add,Array.getElem?_toList])) hH ?_
  try simp only [Act.put,sA,s0,sS]
  have hd:Ext w1 w1.drew:=(Ext.refl w1).drew1
  generalize w1.drew=v0 at hH hd ⊢
  clear hH HM Q4 z1'
  have S0:=Lib.hid hd.size_le
  refine wpAnyH_ready (rs:=[1,8,9]) (by kernel_rfl) (by simp) ?_
  refine (AllReadyH.cons rfl (fun K hK=>?_) (AllReadyH.cons rfl (fun K hK=>?_) (AllReadyH.cons rfl (fun K hK=>?_) AllReadyH.nil)))
  ·go_simp
   refine (Q2.out Z1.out _ (hx.trans hd)).mono ?_
   rintro e v1 ⟨P0,rfl,i0,hx0⟩
   have I0:=Lib.hid i0.in
   clear i0
   have Sv1:=Lib.hid hx0.size_le
   have hv1:=hd.trans hx0
   refine hK.out _ _ hv1 (fun _=>?_)
   clear hK hx0
   try simp only [Act.put,sA,s0,sS]
   refine wpAnyH_ready (rs:=[3,8,9]) (by kernel_rfl) (by simp) ?_
   refine (AllReadyH.cons rfl (fun K hK=>?_) (AllReadyH.cons rfl (fun K hK=>?_) (AllReadyH.cons rfl (fun K hK=>?_) AllReadyH.nil)))
   ·go_simp
    refine (Q3.out Z1.out (fun b=>(F b∧b < w.heap.size)∨(v0.heap.size≤b∧b < v1.heap.size)) _ P0 (hx.trans hv1) (I0.out.mono fun b hb=>.inr hb) (fun b hb=>.inl hb)).mono ?_
    rintro e v2 ⟨P1,P2,rfl,i1,i2,hx0⟩
    have I1:=Lib.hid i1.in
    have I2:=Lib.hid i2.in
    clear i1 i2 I0
    have Sv2:=Lib.hid hx0.size_le
    have hv2:=hv1.trans hx0
    refine hK.out _ _ hv2 (fun _=>?_)
    clear hK hx0
    try simp only [Act.put,sA,s0,sS]
    refine tf (i:=4) (v:=(.tuple #[P1.v,P2.v,.bool k])) rfl rfl (fun _=>rfl) hv2 ?_
    try simp only [Act.put,sA,s0,sS]
    refine tf (i:=5) (v:=P1.v) rfl rfl (fun _=>rfl) hv2 ?_
    try simp only [Act.put,sA,s0,sS]
    refine tf (i:=6) (v:=P2.v) rfl rfl (fun _=>rfl) hv2 ?_
    try simp only [Act.put,sA,s0,sS]
    refine tf (i:=7) (v:=(.bool k)) rfl rfl (fun _=>rfl) hv2 ?_
    try simp only [Act.put,sA,s0,sS]
    refine wpAnyH_ready (rs:=[8,9]) (by kernel_rfl) (by simp) ?_
    refine (AllReadyH.cons rfl (fun K hK=>?_) (AllReadyH.cons rfl (fun K hK=>?_) AllReadyH.nil))
    ·go_simp
     have hx0:Ext v2 (v2.alloc (.cells zcells 42)):=(Ext.refl v2).alloc _
     have hb7:Blk (v2.alloc (.cells zcells 42)) v2.heap.size 42 zcells:=Blk.new' rfl
     have sv3:(v2.alloc (.cells zcells 42)).heap.size=v2.heap.size+1:=by simp
     generalize v2.alloc (.cells zcells 42)=v3 at hx0 hb7 sv3 ⊢
     obtain ⟨g7,eg7⟩:∃ g,g=v2.heap.size:=⟨_,rfl⟩
     rw [← eg7] at hb7 ⊢
     have Eg7:=Lib.hid eg7
     have Sv3:=Lib.hid sv3
     clear eg7 sv3
     have hv3:=hv2.trans hx0
     replace I1:=Lib.hid (I1.out.ext hx0)
     replace I2:=Lib.hid (I2.out.ext hx0)
     refine hK.out _ _ hv3 (fun _=>?_)
     clear hK hx0
     try simp only [Act.put,sA,s0,sS]
     refine wpAnyH_ready (rs:=[9]) (by kernel_rfl) (by simp) ?_
     refine (AllReadyH.cons rfl (fun K hK=>?_) AllReadyH.nil)
     ·go_simp
      have hx0:Ext v3 (v3.alloc (.cells zcells 42)):=(Ext.refl v3).alloc _
      have hb8:Blk (v3.alloc (.cells zcells 42)) v3.heap.size 42 zcells:=Blk.new' rfl
      have sv4:(v3.alloc (.cells zcells 42)).heap.size=v3.heap.size+1:=by simp
      generalize v3.alloc (.cells zcells 42)=v4 at hx0 hb8 sv4 ⊢
      obtain ⟨g8,eg8⟩:∃ g,g=v3.heap.size:=⟨_,rfl⟩
      rw [← eg8] at hb8 ⊢
      have Eg8:=Lib.hid eg8
      have Sv4:=Lib.hid sv4
      clear eg8 sv4
      have hv4:=hv3.trans hx0
      replace hb7:=hb7.ext hx0
      replace I1:=Lib.hid (I1.out.ext hx0)
      replace I2:=Lib.hid (I2.out.ext hx0)
      refine hK.out _ _ hv4 (fun _=>?_)
      clear hK hx0
      try simp only [Act.put,sA,s0,sS]
      have fSv1:=Sv1.out
      have fSv2:=Sv2.out
      have fSv3:=Sv3.out
      have fEg7:=Eg7.out
      have fSv4:=Sv4.out
      have fEg8:=Eg8.out
      have sv0:=S0.out
      have i1:=I1.out.mono (G:=fun b=>(F b∧b < w.heap.size)∨(w.heap.size+4≤b∧b≠g7∧b≠g8)) (fun b hb=>by rcases hb with ⟨(h | h) | h,h2⟩;exact .inl h;exact .inr (by omega);exact .inr (by omega))
      have i2:=I2.out.mono (G:=fun b=>(F b∧b < w.heap.size)∨(w.heap.size+4≤b∧b≠g7∧b≠g8)) (fun b hb=>by rcases hb with ⟨(h | h) | h,h2⟩;exact .inl h;exact .inr (by omega);exact .inr (by omega))
      refine two_stores (n:=10) (u:=.bool k) (v1:=parr P1) (v2:=parr P2) (by kernel_rfl) (by kernel_rfl) (by kernel_rfl) (by kernel_rfl) rfl rfl rfl rfl rfl rfl rfl rfl rfl rfl rfl rfl rfl rfl rfl rfl rfl hb7 hb8 rfl rfl (by omega) (by kernel_rfl) (by kernel_rfl) (by first | rfl | simp [Value.oneCell']) (by first | rfl | simp [Value.oneCell']) (Ext.setAll (by omega) _ _ _ hv4) (Ext.setAll (by omega) _ _ _ (Ext.setAll (by omega) _ _ _ hv4)) (fun W k7 k8 hst=>NoPanic.normal ?_) _
      try simp only [Act.put,sA,s0,sS]
      have LF:Hid (Mid F w c d W g7 g8):=Lib.hid ⟨P1,P2,k7,k8,by omega,by omega,by omega,Lib.hid (hst.keeps _ _ _ i1 (fun h=>by omega) (fun h=>by omega)),Lib.hid (hst.keeps _ _ _ i2 (fun h=>by omega) (fun h=>by omega))⟩
      have hy:=hst.ext w1 hv4 (by omega) (by omega)
      clear hst i1 i2 k7 k8 sv0 fSv1 fSv2 fSv3 fEg7 fSv4 fEg8 Sv1 Sv2 Sv3 Eg7 Sv4 Eg8
      go_wp2_with fail
      go_meet
      exact ⟨g7,g8,rfl,rfl,rfl,LF,hy⟩
    ·go_simp
     have hx0:Ext v2 (v2.alloc (.cells zcells 42)):=(Ext.refl v2).alloc _
     have hb8:Blk (v2.alloc (.cells zcells 42)) v2.heap.size 42 zcells:=Blk.new' rfl
     have sv5:(v2.alloc (.cells zcells 42)).heap.size=v2.heap.size+1:=by simp
     generalize v2.alloc (.cells zcells 42)=v5 at hx0 hb8 sv5 ⊢
     obtain ⟨g8,eg8⟩:∃ g,g=v2.heap.size:=⟨_,rfl⟩
     rw [← eg8] at hb8 ⊢
     have Eg8:=Lib.hid eg8
     have Sv5:=Lib.hid sv5
     clear eg8 sv5
     have hv5:=hv2.trans hx0
     replace I1:=Lib.hid (I1.out.ext hx0)
     replace I2:=Lib.hid (I2.out.ext hx0)
     refine hK.out _ _ hv5 (fun _=>?_)
     clear hK hx0
     try simp only [Act.put,sA,s0,sS]
     refine wpAnyH_ready (rs:=[8]) (by kernel_rfl) (by simp) ?_
     refine (AllReadyH.cons rfl (fun K hK=>?_) AllReadyH.nil)
     ·go_simp
      have hx0:Ext v5 (v5.alloc (.cells zcells 42)):=(Ext.refl v5).alloc _
      have hb7:Blk (v5.alloc (.cells zcells 42)) v5.heap.size 42 zcells:=Blk.new' rfl
      have sv6:(v5.alloc (.cells zcells 42)).heap.size=v5.heap.size+1:=by simp
      generalize v5.alloc (.cells zcells 42)=v6 at hx0 hb7 sv6 ⊢
      obtain ⟨g7,eg7⟩:∃ g,g=v5.heap.size:=⟨_,rfl⟩
      rw [← eg7] at hb7 ⊢
      have Eg7:=Lib.hid eg7
      have Sv6:=Lib.hid sv6
      clear eg7 sv6
      have hv6:=hv5.trans hx0
      replace hb8:=hb8.ext hx0
      replace I1:=Lib.hid (I1.out.ext hx0)
      replace I2:=Lib.hid (I2.out.ext hx0)
      refine hK.out _ _ hv6 (fun _=>?_)
      clear hK hx0
      try simp only [Act.put,sA,s0,sS]
      have fSv1:=Sv1.out
      have fSv2:=Sv2.out
      have fSv5:=Sv5.out
      have fEg8:=Eg8.out
      have fSv6:=Sv6.out
      have fEg7:=Eg7.out
      have sv0:=S0.out
      have i1:=I1.out.mono (G:=fun b=>(F b∧b < w.heap.size)∨(w.heap.size+4≤b∧b≠g7∧b≠g8)) (fun b hb=>by rcases hb with ⟨(h | h) | h,h2⟩;exact .inl h;exact .inr (by omega);exact .inr (by omega))
      have i2:=I2.out.mono (G:=fun b=>(F b∧b < w.heap.size)∨(w.heap.size+4≤b∧b≠g7∧b≠g8)) (fun b hb=>by rcases hb with ⟨(h | h) | h,h2⟩;exact .inl h;exact .inr (by omega);exact .inr (by omega))
      refine two_stores (n:=10) (u:=.bool k) (v1:=parr P1) (v2:=parr P2) (by kernel_rfl) (by kernel_rfl) (by kernel_rfl) (by kernel_rfl) rfl rfl rfl rfl rfl rfl rfl rfl rfl rfl rfl rfl rfl rfl rfl rfl rfl hb7 hb8 rfl rfl (by omega) (by kernel_rfl) (by kernel_rfl) (by first | rfl | simp [Value.oneCell']) (by first | rfl | simp [Value.oneCell']) (Ext.setAll (by omega) _ _ _ hv6) (Ext.setAll (by omega) _ _ _ (Ext.setAll (by omega) _ _ _ hv6)) (fun W k7 k8 hst=>NoPanic.normal ?_) _
      try simp only [Act.put,sA,s0,sS]
      have LF:Hid (Mid F w c d W g7 g8):=Lib.hid ⟨P1,P2,k7,k8,by omega,by omega,by omega,Lib.hid (hst.keeps _ _ _ i1 (fun h=>by omega) (fun h=>by omega)),Lib.hid (hst.keeps _ _ _ i2 (fun h=>by omega) (fun h=>by omega))⟩
      have hy:=hst.ext w1 hv6 (by omega) (by omega)
      clear hst i1 i2 k7 k8 sv0 fSv1 fSv2 fSv5 fEg8 fSv6 fEg7 Sv1 Sv2 Sv5 Eg8 Sv6 Eg7
      go_wp2_with fail
      go_meet
      exact ⟨g7,g8,rfl,rfl,rfl,LF,hy⟩
   ·go_simp
    have hx0:Ext v1 (v1.alloc (.cells zcells 42)):=(Ext.refl v1).alloc _
    have hb7:Blk (v1.alloc (.cells zcells 42)) v1.heap.size 42 zcells:=Blk.new' rfl
    have sv7:(v1.alloc (.cells zcells 42)).heap.size=v1.heap.size+1:=by simp
    generalize v1.alloc (.cells zcells 42)=v7 at hx0 hb7 sv7 ⊢
    obtain ⟨g7,eg7⟩:∃ g,g=v1.heap.size:=⟨_,rfl⟩
    rw [← eg7] at hb7 ⊢
    have Eg7:=Lib.hid eg7
    have Sv7:=Lib.hid sv7
    clear eg7 sv7
    have hv7:=hv1.trans hx0
    replace I0:=Lib.hid (I0.out.ext hx0)
    refine hK.out _ _ hv7 (fun _=>?_)
    clear hK hx0
    try simp only [Act.put,sA,s0,sS]
    refine wpAnyH_ready (rs:=[3,9]) (by kernel_rfl) (by simp) ?_
    refine (AllReadyH.cons rfl (fun K hK=>?_) (AllReadyH.cons rfl (fun K hK=>?_) AllReadyH.nil))
    ·go_simp
     refine (Q3.out Z1.out (fun b=>(F b∧b < w.heap.size)∨(v0.heap.size≤b∧b < v1.heap.size)) _ P0 (hx.trans hv7) (I0.out.mono fun b hb=>.inr hb) (fun b hb=>.inl hb)).mono ?_
     rintro e v8 ⟨P1,P2,rfl,i1,i2,hx0⟩
     have I1:=Lib.hid i1.in
     have I2:=Lib.hid i2.in
     clear i1 i2 I0
     have Sv8:=Lib.hid hx0.size_le
     have hv8:=hv7.trans hx0
     replace hb7:=hb7.ext hx0
     refine hK.out _ _ hv8 (fun _=>?_)
     clear hK hx0
     try simp only [Act.put,sA,s0,sS]
     refine tf (i:=4) (v:=(.tuple #[P1.v,P2.v,.bool k])) rfl rfl (fun _=>rfl) hv8 ?_
     try simp only [Act.put,sA,s0,sS]
     refine tf (i:=5) (v:=P1.v) rfl rfl (fun _=>rfl) hv8 ?_
     try simp only [Act.put,sA,s0,sS]
     refine tf (i:=6) (v:=P2.v) rfl rfl (fun _=>rfl) hv8 ?_
     try simp only [Act.put,sA,s0,sS]
     refine tf (i:=7) (v:=(.bool k)) rfl rfl (fun _=>rfl) hv8 ?_
     try simp only [Act.put,sA,s0,sS]
     refine wpAnyH_ready (rs:=[9]) (by kernel_rfl) (by simp) ?_
     refine (AllReadyH.cons rfl (fun K hK=>?_) AllReadyH.nil)
     ·go_simp
      have hx0:Ext v8 (v8.alloc (.cells zcells 42)):=(Ext.refl v8).alloc _
      have hb8:Blk (v8.alloc (.cells zcells 42)) v8.heap.size 42 zcells:=Blk.new' rfl
      have sv9:(v8.alloc (.cells zcells 42)).heap.size=v8.heap.size+1:=by simp
      generalize v8.alloc (.cells zcells 42)=v9 at hx0 hb8 sv9 ⊢
      obtain ⟨g8,eg8⟩:∃ g,g=v8.heap.size:=⟨_,rfl⟩
      rw [← eg8] at hb8 ⊢
      have Eg8:=Lib.hid eg8
      have Sv9:=Lib.hid sv9
      clear eg8 sv9
      have hv9:=hv8.trans hx0
      replace hb7:=hb7.ext hx0
      replace I1:=Lib.hid (I1.out.ext hx0)
      replace I2:=Lib.hid (I2.out.ext hx0)
      refine hK.out _ _ hv9 (fun _=>?_)
      clear hK hx0
      try simp only [Act.put,sA,s0,sS]
      have fSv1:=Sv1.out
      have fSv7:=Sv7.out
      have fEg7:=Eg7.out
      have fSv8:=Sv8.out
      have fSv9:=Sv9.out
      have fEg8:=Eg8.out
      have sv0:=S0.out
      have i1:=I1.out.mono (G:=fun b=>(F b∧b < w.heap.size)∨(w.heap.size+4≤b∧b≠g7∧b≠g8)) (fun b hb=>by rcases hb with ⟨(h | h) | h,h2⟩;exact .inl h;exact .inr (by omega);exact .inr (by omega))
      have i2:=I2.out.mono (G:=fun b=>(F b∧b < w.heap.size)∨(w.heap.size+4≤b∧b≠g7∧b≠g8)) (fun b hb=>by rcases hb with ⟨(h | h) | h,h2⟩;exact .inl h;exact .inr (by omega);exact .inr (by omega))
      refine two_stores (n:=10) (u:=.bool k) (v1:=parr P1) (v2:=parr P2) (by kernel_rfl) (by kernel_rfl) (by kernel_rfl) (by kernel_rfl) rfl rfl rfl rfl rfl rfl rfl rfl rfl rfl rfl rfl rfl rfl rfl rfl rfl hb7 hb8 rfl rfl (by omega) (by kernel_rfl) (by kernel_rfl) (by first | rfl | simp [Value.oneCell']) (by first | rfl | simp [Value.oneCell']) (Ext.setAll (by omega) _ _ _ hv9) (Ext.setAll (by omega) _ _ _ (Ext.setAll (by omega) _ _ _ hv9)) (fun W k7 k8 hst=>NoPanic.normal ?_) _
      try simp only [Act.put,sA,s0,sS]
      have LF:Hid (Mid F w c d W g7 g8):=Lib.hid ⟨P1,P2,k7,k8,by omega,by omega,by omega,Lib.hid (hst.keeps _ _ _ i1 (fun h=>by omega) (fun h=>by omega)),Lib.hid (hst.keeps _ _ _ i2 (fun h=>by omega) (fun h=>by omega))⟩
      have hy:=hst.ext w1 hv9 (by omega) (by omega)
      clear hst i1 i2 k7 k8 sv0 fSv1 fSv7 fEg7 fSv8 fSv9 fEg8 Sv1 Sv7 Eg7 Sv8 Sv9 Eg8
      go_wp2_with fail
      go_meet
      exact ⟨g7,g8,rfl,rfl,rfl,LF,hy⟩
    ·go_simp
     have hx0:Ext v7 (v7.alloc (.cells zcells 42)):=(Ext.refl v7).alloc _
     have hb8:Blk (v7.alloc (.cells zcells 42)) v7.heap.size 42 zcells:=Blk.new' rfl
     have sv10:(v7.alloc (.cells zcells 42)).heap.size=v7.heap.size+1:=by simp
     generalize v7.alloc (.cells zcells 42)=v10 at hx0 hb8 sv10 ⊢
     obtain ⟨g8,eg8⟩:∃ g,g=v7.heap.size:=⟨_,rfl⟩
     rw [← eg8] at hb8 ⊢
     have Eg8:=Lib.hid eg8
     have Sv10:=Lib.hid sv10
     clear eg8 sv10
     have hv10:=hv7.trans hx0
     replace hb7:=hb7.ext hx0
     replace I0:=Lib.hid (I0.out.ext hx0)
     refine hK.out _ _ hv10 (fun _=>?_)
     clear hK hx0
     try simp only [Act.put,sA,s0,sS]
     refine wpAnyH_ready (rs:=[3]) (by kernel_rfl) (by simp) ?_
     refine (AllReadyH.cons rfl (fun K hK=>?_) AllReadyH.nil)
     ·go_simp
      refine (Q3.out Z1.out (fun b=>(F b∧b < w.heap.size)∨(v0.heap.size≤b∧b < v1.heap.size)) _ P0 (hx.trans hv10) (I0.out.mono fun b hb=>.inr hb) (fun b hb=>.inl hb)).mono ?_
      rintro e v11 ⟨P1,P2,rfl,i1,i2,hx0⟩
      have I1:=Lib.hid i1.in
      have I2:=Lib.hid i2.in
      clear i1 i2 I0
      have Sv11:=Lib.hid hx0.size_le
      have hv11:=hv10.trans hx0
      replace hb7:=hb7.ext hx0
      replace hb8:=hb8.ext hx0
      refine hK.out _ _ hv11 (fun _=>?_)
      clear hK hx0
      try simp only [Act.put,sA,s0,sS]
      refine tf (i:=4) (v:=(.tuple #[P1.v,P2.v,.bool k])) rfl rfl (fun _=>rfl) hv11 ?_
      try simp only [Act.put,sA,s0,sS]
      refine tf (i:=5) (v:=P1.v) rfl rfl (fun _=>rfl) hv11 ?_
      try simp only [Act.put,sA,s0,sS]
      refine tf (i:=6) (v:=P2.v) rfl rfl (fun _=>rfl) hv11 ?_
      try simp only [Act.put,sA,s0,sS]
      refine tf (i:=7) (v:=(.bool k)) rfl rfl (fun _=>rfl) hv11 ?_
      try simp only [Act.put,sA,s0,sS]
      have fSv1:=Sv1.out
      have fSv7:=Sv7.out
      have fEg7:=Eg7.out
      have fSv10:=Sv10.out
      have fEg8:=Eg8.out
      have fSv11:=Sv11.out
      have sv0:=S0.out
      have i1:=I1.out.mono (G:=fun b=>(F b∧b < w.heap.size)∨(w.heap.size+4≤b∧b≠g7∧b≠g8)) (fun b hb=>by rcases hb with ⟨(h | h) | h,h2⟩;exact .inl h;exact .inr (by omega);exact .inr (by omega))
      have i2:=I2.out.mono (G:=fun b=>(F b∧b < w.heap.size)∨(w.heap.size+4≤b∧b≠g7∧b≠g8)) (fun b hb=>by rcases hb with ⟨(h | h) | h,h2⟩;exact .inl h;exact .inr (by omega);exact .inr (by omega))
      refine two_stores (n:=10) (u:=.bool k) (v1:=parr P1) (v2:=parr P2) (by kernel_rfl) (by kernel_rfl) (by kernel_rfl) (by kernel_rfl) rfl rfl rfl rfl rfl rfl rfl rfl rfl rfl rfl rfl rfl rfl rfl rfl rfl hb7 hb8 rfl rfl (by omega) (by kernel_rfl) (by kernel_rfl) (by first | rfl | simp [Value.oneCell']) (by first | rfl | simp [Value.oneCell']) (Ext.setAll (by omega) _ _ _ hv11) (Ext.setAll (by omega) _ _ _ (Ext.setAll (by omega) _ _ _ hv11)) (fun W k7 k8 hst=>NoPanic.normal ?_) _
      try simp only [Act.put,sA,s0,sS]
      have LF:Hid (Mid F w c d W g7 g8):=Lib.hid ⟨P1,P2,k7,k8,by omega,by omega,by omega,Lib.hid (hst.keeps _ _ _ i1 (fun h=>by omega) (fun h=>by omega)),Lib.hid (hst.keeps _ _ _ i2 (fun h=>by omega) (fun h=>by omega))⟩
      have hy:=hst.ext w1 hv11 (by omega) (by omega)
      clear hst i1 i2 k7 k8 sv0 fSv1 fSv7 fEg7 fSv10 fEg8 fSv11 Sv1 Sv7 Eg7 Sv10 Eg8 Sv11
      go_wp2_with fail
      go_meet
      exact ⟨g7,g8,rfl,rfl,rfl,LF,hy⟩
   ·go_simp
    have hx0:Ext v1 (v1.alloc (.cells zcells 42)):=(Ext.refl v1).alloc _
    have hb8:Blk (v1.alloc (.cells zcells 42)) v1.heap.size 42 zcells:=Blk.new' rfl
    have sv12:(v1.alloc (.cells zcells 42)).heap.size=v1.heap.size+1:=by simp
    generalize v1.alloc (.cells zcells 42)=v12 at hx0 hb8 sv12 ⊢
    obtain ⟨g8,eg8⟩:∃ g,g=v1.heap.size:=⟨_,rfl⟩
    rw [← eg8] at hb8 ⊢
    have Eg8:=Lib.hid eg8
    have Sv12:=Lib.hid sv12
    clear eg8 sv12
    have hv12:=hv1.trans hx0
    replace I0:=Lib.hid (I0.out.ext hx0)
    refine hK.out _ _ hv12 (fun _=>?_)
    clear hK hx0
    try simp only [Act.put,sA,s0,sS]
    refine wpAnyH_ready (rs:=[3,8]) (by kernel_rfl) (by simp) ?_
    refine (AllReadyH.cons rfl (fun K hK=>?_) (AllReadyH.cons rfl (fun K hK=>?_) AllReadyH.nil))
    ·go_simp
     refine (Q3.out Z1.out (fun b=>(F b∧b < w.heap.size)∨(v0.heap.size≤b∧b < v1.heap.size)) _ P0 (hx.trans hv12) (I0.out.mono fun b hb=>.inr hb) (fun b hb=>.inl hb)).mono ?_
     rintro e v13 ⟨P1,P2,rfl,i1,i2,hx0⟩
     have I1:=Lib.hid i1.in
     have I2:=Lib.hid i2.in
     clear i1 i2 I0
     have Sv13:=Lib.hid hx0.size_le
     have hv13:=hv12.trans hx0
     replace hb8:=hb8.ext hx0
     refine hK.out _ _ hv13 (fun _=>?_)
     clear hK hx0
     try simp only [Act.put,sA,s0,sS]
     refine tf (i:=4) (v:=(.tuple #[P1.v,P2.v,.bool k])) rfl rfl (fun _=>rfl) hv13 ?_
     try simp only [Act.put,sA,s0,sS]
     refine tf (i:=5) (v:=P1.v) rfl rfl (fun _=>rfl) hv13 ?_
     try simp only [Act.put,sA,s0,sS]
     refine tf (i:=6) (v:=P2.v) rfl rfl (fun _=>rfl) hv13 ?_
     try simp only [Act.put,sA,s0,sS]
     refine tf (i:=7) (v:=(.bool k)) rfl rfl (fun _=>rfl) hv13 ?_
     try simp only [Act.put,sA,s0,sS]
     refine wpAnyH_ready (rs:=[8]) (by kernel_rfl) (by simp) ?_
     refine (AllReadyH.cons rfl (fun K hK=>?_) AllReadyH.nil)
     ·go_simp
      have hx0:Ext v13 (v13.alloc (.cells zcells 42)):=(Ext.refl v13).alloc _
      have hb7:Blk (v13.alloc (.cells zcells 42)) v13.heap.size 42 zcells:=Blk.new' rfl
      have sv14:(v13.alloc (.cells zcells 42)).heap.size=v13.heap.size+1:=by simp
      generalize v13.alloc (.cells zcells 42)=v14 at hx0 hb7 sv14 ⊢
      obtain ⟨g7,eg7⟩:∃ g,g=v13.heap.size:=⟨_,rfl⟩
      rw [← eg7] at hb7 ⊢
      have Eg7:=Lib.hid eg7
      have Sv14:=Lib.hid sv14
      clear eg7 sv14
      have hv14:=hv13.trans hx0
      replace hb8:=hb8.ext hx0
      replace I1:=Lib.hid (I1.out.ext hx0)
      replace I2:=Lib.hid (I2.out.ext hx0)
      refine hK.out _ _ hv14 (fun _=>?_)
      clear hK hx0
      try simp only [Act.put,sA,s0,sS]
      have fSv1:=Sv1.out
      have fSv12:=Sv12.out
      have fEg8:=Eg8.out
      have fSv13:=Sv13.out
      have fSv14:=Sv14.out
      have fEg7:=Eg7.out
      have sv0:=S0.out
      have i1:=I1.out.mono (G:=fun b=>(F b∧b < w.heap.size)∨(w.heap.size+4≤b∧b≠g7∧b≠g8)) (fun b hb=>by rcases hb with ⟨(h | h) | h,h2⟩;exact .inl h;exact .inr (by omega);exact .inr (by omega))
      have i2:=I2.out.mono (G:=fun b=>(F b∧b < w.heap.size)∨(w.heap.size+4≤b∧b≠g7∧b≠g8)) (fun b hb=>by rcases hb with ⟨(h | h) | h,h2⟩;exact .inl h;exact .inr (by omega);exact .inr (by omega))
      refine two_stores (n:=10) (u:=.bool k) (v1:=parr P1) (v2:=parr P2) (by kernel_rfl) (by kernel_rfl) (by kernel_rfl) (by kernel_rfl) rfl rfl rfl rfl rfl rfl rfl rfl rfl rfl rfl rfl rfl rfl rfl rfl rfl hb7 hb8 rfl rfl (by omega) (by kernel_rfl) (by kernel_rfl) (by first | rfl | simp [Value.oneCell']) (by first | rfl | simp [Value.oneCell']) (Ext.setAll (by omega) _ _ _ hv14) (Ext.setAll (by omega) _ _ _ (Ext.setAll (by omega) _ _ _ hv14)) (fun W k7 k8 hst=>NoPanic.normal ?_) _
      try simp only [Act.put,sA,s0,sS]
      have LF:Hid (Mid F w c d W g7 g8):=Lib.hid ⟨P1,P2,k7,k8,by omega,by omega,by omega,Lib.hid (hst.keeps _ _ _ i1 (fun h=>by omega) (fun h=>by omega)),Lib.hid (hst.keeps _ _ _ i2 (fun h=>by omega) (fun h=>by omega))⟩
      have hy:=hst.ext w1 hv14 (by omega) (by omega)
      clear hst i1 i2 k7 k8 sv0 fSv1 fSv12 fEg8 fSv13 fSv14 fEg7 Sv1 Sv12 Eg8 Sv13 Sv14 Eg7
      go_wp2_with fail
      go_meet
      exact ⟨g7,g8,rfl,rfl,rfl,LF,hy⟩
    ·go_simp
     have hx0:Ext v12 (v12.alloc (.cells zcells 42)):=(Ext.refl v12).alloc _
     have hb7:Blk (v12.alloc (.cells zcells 42)) v12.heap.size 42 zcells:=Blk.new' rfl
     have sv15:(v12.alloc (.cells zcells 42)).heap.size=v12.heap.size+1:=by simp
     generalize v12.alloc (.cells zcells 42)=v15 at hx0 hb7 sv15 ⊢
     obtain ⟨g7,eg7⟩:∃ g,g=v12.heap.size:=⟨_,rfl⟩
     rw [← eg7] at hb7 ⊢
     have Eg7:=Lib.hid eg7
     have Sv15:=Lib.hid sv15
     clear eg7 sv15
     have hv15:=hv12.trans hx0
     replace hb8:=hb8.ext hx0
     replace I0:=Lib.hid (I0.out.ext hx0)
     refine hK.out _ _ hv15 (fun _=>?_)
     clear hK hx0
     try simp only [Act.put,sA,s0,sS]
     refine wpAnyH_ready (rs:=[3]) (by kernel_rfl) (by simp) ?_
     refine (AllReadyH.cons rfl (fun K hK=>?_) AllReadyH.nil)
     ·go_simp
      refine (Q3.out Z1.out (fun b=>(F b∧b < w.heap.size)∨(v0.heap.size≤b∧b < v1.heap.size)) _ P0 (hx.trans hv15) (I0.out.mono fun b hb=>.inr hb) (fun b hb=>.inl hb)).mono ?_
      rintro e v16 ⟨P1,P2,rfl,i1,i2,hx0⟩
      have I1:=Lib.hid i1.in
      have I2:=Lib.hid i2.in
      clear i1 i2 I0
      have Sv16:=Lib.hid hx0.size_le
      have hv16:=hv15.trans hx0
      replace hb8:=hb8.ext hx0
      replace hb7:=hb7.ext hx0
      refine hK.out _ _ hv16 (fun _=>?_)
      clear hK hx0
      try simp only [Act.put,sA,s0,sS]
      refine tf (i:=4) (v:=(.tuple #[P1.v,P2.v,.bool k])) rfl rfl (fun _=>rfl) hv16 ?_
      try simp only [Act.put,sA,s0,sS]
      refine tf (i:=5) (v:=P1.v) rfl rfl (fun _=>rfl) hv16 ?_
      try simp only [Act.put,sA,s0,sS]
      refine tf (i:=6) (v:=P2.v) rfl rfl (fun _=>rfl) hv16 ?_
      try simp only [Act.put,sA,s0,sS]
      refine tf (i:=7) (v:=(.bool k)) rfl rfl (fun _=>rfl) hv16 ?_
      try simp only [Act.put,sA,s0,sS]
      have fSv1:=Sv1.out
      have fSv12:=Sv12.out
      have fEg8:=Eg8.out
      have fSv15:=Sv15.out
      have fEg7:=Eg7.out
      have fSv16:=Sv16.out
      have sv0:=S0.out
      have i1:=I1.out.mono (G:=fun b=>(F b∧b < w.heap.size)∨(w.heap.size+4≤b∧b≠g7∧b≠g8)) (fun b hb=>by rcases hb with ⟨(h | h) | h,h2⟩;exact .inl h;exact .inr (by omega);exact .inr (by omega))
      have i2:=I2.out.mono (G:=fun b=>(F b∧b < w.heap.size)∨(w.heap.size+4≤b∧b≠g7∧b≠g8)) (fun b hb=>by rcases hb with ⟨(h | h) | h,h2⟩;exact .inl h;exact .inr (by omega);exact .inr (by omega))
      refine two_stores (n:=10) (u:=.bool k) (v1:=parr P1) (v2:=parr P2) (by kernel_rfl) (by kernel_rfl) (by kernel_rfl) (by kernel_rfl) rfl rfl rfl rfl rfl rfl rfl rfl rfl rfl rfl rfl rfl rfl rfl rfl rfl hb7 hb8 rfl rfl (by omega) (by kernel_rfl) (by kernel_rfl) (by first | rfl | simp [Value.oneCell']) (by first | rfl | simp [Value.oneCell']) (Ext.setAll (by omega) _ _ _ hv16) (Ext.setAll (by omega) _ _ _ (Ext.setAll (by omega) _ _ _ hv16)) (fun W k7 k8 hst=>NoPanic.normal ?_) _
      try simp only [Act.put,sA,s0,sS]
      have LF:Hid (Mid F w c d W g7 g8):=Lib.hid ⟨P1,P2,k7,k8,by omega,by omega,by omega,Lib.hid (hst.keeps _ _ _ i1 (fun h=>by omega) (fun h=>by omega)),Lib.hid (hst.keeps _ _ _ i2 (fun h=>by omega) (fun h=>by omega))⟩
      have hy:=hst.ext w1 hv16 (by omega) (by omega)
      clear hst i1 i2 k7 k8 sv0 fSv1 fSv12 fEg8 fSv15 fEg7 fSv16 Sv1 Sv12 Eg8 Sv15 Eg7 Sv16
      go_wp2_with fail
      go_meet
      exact ⟨g7,g8,rfl,rfl,rfl,LF,hy⟩
  ·go_simp
   have hx0:Ext v0 (v0.alloc (.cells zcells 42)):=(Ext.refl v0).alloc _
   have hb7:Blk (v0.alloc (.cells zcells 42)) v0.heap.size 42 zcells:=Blk.new' rfl
   have sv17:(v0.alloc (.cells zcells 42)).heap.size=v0.heap.size+1:=by simp
   generalize v0.alloc (.cells zcells 42)=v17 at hx0 hb7 sv17 ⊢
   obtain ⟨g7,eg7⟩:∃ g,g=v0.heap.size:=⟨_,rfl⟩
   rw [← eg7] at hb7 ⊢
   have Eg7:=Lib.hid eg7
   have Sv17:=Lib.hid sv17
   clear eg7 sv17
   have hv17:=hd.trans hx0
   refine hK.out _ _ hv17 (fun _=>?_)
   clear hK hx0
   try simp only [Act.put,sA,s0,sS]
   refine wpAnyH_ready (rs:=[1,9]) (by kernel_rfl) (by simp) ?_
   refine (AllReadyH.cons rfl (fun K hK=>?_) (AllReadyH.cons rfl (fun K hK=>?_) AllReadyH.nil))
   ·go_simp
    refine (Q2.out Z1.out _ (hx.trans hv17)).mono ?_
    rintro e v18 ⟨P0,rfl,i0,hx0⟩
    have I0:=Lib.hid i0.in
    clear i0
    have Sv18:=Lib.hid hx0.size_le
    have hv18:=hv17.trans hx0
    replace hb7:=hb7.ext hx0
    refine hK.out _ _ hv18 (fun _=>?_)
    clear hK hx0
    try simp only [Act.put,sA,s0,sS]
    refine wpAnyH_ready (rs:=[3,9]) (by kernel_rfl) (by simp) ?_
    refine (AllReadyH.cons rfl (fun K hK=>?_) (AllReadyH.cons rfl (fun K hK=>?_) AllReadyH.nil))
    ·go_simp
     refine (Q3.out Z1.out (fun b=>(F b∧b < w.heap.size)∨(v17.heap.size≤b∧b < v18.heap.size)) _ P0 (hx.trans hv18) (I0.out.mono fun b hb=>.inr hb) (fun b hb=>.inl hb)).mono ?_
     rintro e v19 ⟨P1,P2,rfl,i1,i2,hx0⟩
     have I1:=Lib.hid i1.in
     have I2:=Lib.hid i2.in
     clear i1 i2 I0
     have Sv19:=Lib.hid hx0.size_le
     have hv19:=hv18.trans hx0
     replace hb7:=hb7.ext hx0
     refine hK.out _ _ hv19 (fun _=>?_)
     clear hK hx0
     try simp only [Act.put,sA,s0,sS]
     refine tf (i:=4) (v:=(.tuple #[P1.v,P2.v,.bool k])) rfl rfl (fun _=>rfl) hv19 ?_
     try simp only [Act.put,sA,s0,sS]
     refine tf (i:=5) (v:=P1.v) rfl rfl (fun _=>rfl) hv19 ?_
     try simp only [Act.put,sA,s0,sS]
     refine tf (i:=6) (v:=P2.v) rfl rfl (fun _=>rfl) hv19 ?_
     try simp only [Act.put,sA,s0,sS]
     refine tf (i:=7) (v:=(.bool k)) rfl rfl (fun _=>rfl) hv19 ?_
     try simp only [Act.put,sA,s0,sS]
     refine wpAnyH_ready (rs:=[9]) (by kernel_rfl) (by simp) ?_
     refine (AllReadyH.cons rfl (fun K hK=>?_) AllReadyH.nil)
     ·go_simp
      have hx0:Ext v19 (v19.alloc (.cells zcells 42)):=(Ext.refl v19).alloc _
      have hb8:Blk (v19.alloc (.cells zcells 42)) v19.heap.size 42 zcells:=Blk.new' rfl
      have sv20:(v19.alloc (.cells zcells 42)).heap.size=v19.heap.size+1:=by simp
      generalize v19.alloc (.cells zcells 42)=v20 at hx0 hb8 sv20 ⊢
      obtain ⟨g8,eg8⟩:∃ g,g=v19.heap.size:=⟨_,rfl⟩
      rw [← eg8] at hb8 ⊢
      have Eg8:=Lib.hid eg8
      have Sv20:=Lib.hid sv20
      clear eg8 sv20
      have hv20:=hv19.trans hx0
      replace hb7:=hb7.ext hx0
      replace I1:=Lib.hid (I1.out.ext hx0)
      replace I2:=Lib.hid (I2.out.ext hx0)
      refine hK.out _ _ hv20 (fun _=>?_)
      clear hK hx0
      try simp only [Act.put,sA,s0,sS]
      have fSv17:=Sv17.out
      have fEg7:=Eg7.out
      have fSv18:=Sv18.out
      have fSv19:=Sv19.out
      have fSv20:=Sv20.out
      have fEg8:=Eg8.out
      have sv0:=S0.out
      have i1:=I1.out.mono (G:=fun b=>(F b∧b < w.heap.size)∨(w.heap.size+4≤b∧b≠g7∧b≠g8)) (fun b hb=>by rcases hb with ⟨(h | h) | h,h2⟩;exact .inl h;exact .inr (by omega);exact .inr (by omega))
      have i2:=I2.out.mono (G:=fun b=>(F b∧b < w.heap.size)∨(w.heap.size+4≤b∧b≠g7∧b≠g8)) (fun b hb=>by rcases hb with ⟨(h | h) | h,h2⟩;exact .inl h;exact .inr (by omega);exact .inr (by omega))
      refine two_stores (n:=10) (u:=.bool k) (v1:=parr P1) (v2:=parr P2) (by kernel_rfl) (by kernel_rfl) (by kernel_rfl) (by kernel_rfl) rfl rfl rfl rfl rfl rfl rfl rfl rfl rfl rfl rfl rfl rfl rfl rfl rfl hb7 hb8 rfl rfl (by omega) (by kernel_rfl) (by kernel_rfl) (by first | rfl | simp [Value.oneCell']) (by first | rfl | simp [Value.oneCell']) (Ext.setAll (by omega) _ _ _ hv20) (Ext.setAll (by omega) _ _ _ (Ext.setAll (by omega) _ _ _ hv20)) (fun W k7 k8 hst=>NoPanic.normal ?_) _
      try simp only [Act.put,sA,s0,sS]
      have LF:Hid (Mid F w c d W g7 g8):=Lib.hid ⟨P1,P2,k7,k8,by omega,by omega,by omega,Lib.hid (hst.keeps _ _ _ i1 (fun h=>by omega) (fun h=>by omega)),Lib.hid (hst.keeps _ _ _ i2 (fun h=>by omega) (fun h=>by omega))⟩
      have hy:=hst.ext w1 hv20 (by omega) (by omega)
      clear hst i1 i2 k7 k8 sv0 fSv17 fEg7 fSv18 fSv19 fSv20 fEg8 Sv17 Eg7 Sv18 Sv19 Sv20 Eg8
      go_wp2_with fail
      go_meet
      exact ⟨g7,g8,rfl,rfl,rfl,LF,hy⟩
    ·go_simp
     have hx0:Ext v18 (v18.alloc (.cells zcells 42)):=(Ext.refl v18).alloc _
     have hb8:Blk (v18.alloc (.cells zcells 42)) v18.heap.size 42 zcells:=Blk.new' rfl
     have sv21:(v18.alloc (.cells zcells 42)).heap.size=v18.heap.size+1:=by simp
     generalize v18.alloc (.cells zcells 42)=v21 at hx0 hb8 sv21 ⊢
     obtain ⟨g8,eg8⟩:∃ g,g=v18.heap.size:=⟨_,rfl⟩
     rw [← eg8] at hb8 ⊢
     have Eg8:=Lib.hid eg8
     have Sv21:=Lib.hid sv21
     clear eg8 sv21
     have hv21:=hv18.trans hx0
     replace hb7:=hb7.ext hx0
     replace I0:=Lib.hid (I0.out.ext hx0)
     refine hK.out _ _ hv21 (fun _=>?_)
     clear hK hx0
     try simp only [Act.put,sA,s0,sS]
     refine wpAnyH_ready (rs:=[3]) (by kernel_rfl) (by simp) ?_
     refine (AllReadyH.cons rfl (fun K hK=>?_) AllReadyH.nil)
     ·go_simp
      refine (Q3.out Z1.out (fun b=>(F b∧b < w.heap.size)∨(v17.heap.size≤b∧b < v18.heap.size)) _ P0 (hx.trans hv21) (I0.out.mono fun b hb=>.inr hb) (fun b hb=>.inl hb)).mono ?_
      rintro e v22 ⟨P1,P2,rfl,i1,i2,hx0⟩
      have I1:=Lib.hid i1.in
      have I2:=Lib.hid i2.in
      clear i1 i2 I0
      have Sv22:=Lib.hid hx0.size_le
      have hv22:=hv21.trans hx0
      replace hb7:=hb7.ext hx0
      replace hb8:=hb8.ext hx0
      refine hK.out _ _ hv22 (fun _=>?_)
      clear hK hx0
      try simp only [Act.put,sA,s0,sS]
      refine tf (i:=4) (v:=(.tuple #[P1.v,P2.v,.bool k])) rfl rfl (fun _=>rfl) hv22 ?_
      try simp only [Act.put,sA,s0,sS]
      refine tf (i:=5) (v:=P1.v) rfl rfl (fun _=>rfl) hv22 ?_
      try simp only [Act.put,sA,s0,sS]
      refine tf (i:=6) (v:=P2.v) rfl rfl (fun _=>rfl) hv22 ?_
      try simp only [Act.put,sA,s0,sS]
      refine tf (i:=7) (v:=(.bool k)) rfl rfl (fun _=>rfl) hv22 ?_
      try simp only [Act.put,sA,s0,sS]
      have fSv17:=Sv17.out
      have fEg7:=Eg7.out
      have fSv18:=Sv18.out
      have fSv21:=Sv21.out
      have fEg8:=Eg8.out
      have fSv22:=Sv22.out
      have sv0:=S0.out
      have i1:=I1.out.mono (G:=fun b=>(F b∧b < w.heap.size)∨(w.heap.size+4≤b∧b≠g7∧b≠g8)) (fun b hb=>by rcases hb with ⟨(h | h) | h,h2⟩;exact .inl h;exact .inr (by omega);exact .inr (by omega))
      have i2:=I2.out.mono (G:=fun b=>(F b∧b < w.heap.size)∨(w.heap.size+4≤b∧b≠g7∧b≠g8)) (fun b hb=>by rcases hb with ⟨(h | h) | h,h2⟩;exact .inl h;exact .inr (by omega);exact .inr (by omega))
      refine two_stores (n:=10) (u:=.bool k) (v1:=parr P1) (v2:=parr P2) (by kernel_rfl) (by kernel_rfl) (by kernel_rfl) (by kernel_rfl) rfl rfl rfl rfl rfl rfl rfl rfl rfl rfl rfl rfl rfl rfl rfl rfl rfl hb7 hb8 rfl rfl (by omega) (by kernel_rfl) (by kernel_rfl) (by first | rfl | simp [Value.oneCell']) (by first | rfl | simp [Value.oneCell']) (Ext.setAll (by omega) _ _ _ hv22) (Ext.setAll (by omega) _ _ _ (Ext.setAll (by omega) _ _ _ hv22)) (fun W k7 k8 hst=>NoPanic.normal ?_) _
      try simp only [Act.put,sA,s0,sS]
      have LF:Hid (Mid F w c d W g7 g8):=Lib.hid ⟨P1,P2,k7,k8,by omega,by omega,by omega,Lib.hid (hst.keeps _ _ _ i1 (fun h=>by omega) (fun h=>by omega)),Lib.hid (hst.keeps _ _ _ i2 (fun h=>by omega) (fun h=>by omega))⟩
      have hy:=hst.ext w1 hv22 (by omega) (by omega)
      clear hst i1 i2 k7 k8 sv0 fSv17 fEg7 fSv18 fSv21 fEg8 fSv22 Sv17 Eg7 Sv18 Sv21 Eg8 Sv22
      go_wp2_with fail
      go_meet
      exact ⟨g7,g8,rfl,rfl,rfl,LF,hy⟩
   ·go_simp
    have hx0:Ext v17 (v17.alloc (.cells zcells 42)):=(Ext.refl v17).alloc _
    have hb8:Blk (v17.alloc (.cells zcells 42)) v17.heap.size 42 zcells:=Blk.new' rfl
    have sv23:(v17.alloc (.cells zcells 42)).heap.size=v17.heap.size+1:=by simp
    generalize v17.alloc (.cells zcells 42)=v23 at hx0 hb8 sv23 ⊢
    obtain ⟨g8,eg8⟩:∃ g,g=v17.heap.size:=⟨_,rfl⟩
    rw [← eg8] at hb8 ⊢
    have Eg8:=Lib.hid eg8
    have Sv23:=Lib.hid sv23
    clear eg8 sv23
    have hv23:=hv17.trans hx0
    replace hb7:=hb7.ext hx0
    refine hK.out _ _ hv23 (fun _=>?_)
    clear hK hx0
    try simp only [Act.put,sA,s0,sS]
    refine wpAnyH_ready (rs:=[1]) (by kernel_rfl) (by simp) ?_
    refine (AllReadyH.cons rfl (fun K hK=>?_) AllReadyH.nil)
    ·go_simp
     refine (Q2.out Z1.out _ (hx.trans hv23)).mono ?_
     rintro e v24 ⟨P0,rfl,i0,hx0⟩
     have I0:=Lib.hid i0.in
     clear i0
     have Sv24:=Lib.hid hx0.size_le
     have hv24:=hv23.trans hx0
     replace hb7:=hb7.ext hx0
     replace hb8:=hb8.ext hx0
     refine hK.out _ _ hv24 (fun _=>?_)
     clear hK hx0
     try simp only [Act.put,sA,s0,sS]
     refine wpAnyH_ready (rs:=[3]) (by kernel_rfl) (by simp) ?_
     refine (AllReadyH.cons rfl (fun K hK=>?_) AllReadyH.nil)
     ·go_simp
      refine (Q3.out Z1.out (fun b=>(F b∧b < w.heap.size)∨(v23.heap.size≤b∧b < v24.heap.size)) _ P0 (hx.trans hv24) (I0.out.mono fun b hb=>.inr hb) (fun b hb=>.inl hb)).mono ?_
      rintro e v25 ⟨P1,P2,rfl,i1,i2,hx0⟩
      have I1:=Lib.hid i1.in
      have I2:=Lib.hid i2.in
      clear i1 i2 I0
      have Sv25:=Lib.hid hx0.size_le
      have hv25:=hv24.trans hx0
      replace hb7:=hb7.ext hx0
      replace hb8:=hb8.ext hx0
      refine hK.out _ _ hv25 (fun _=>?_)
      clear hK hx0
      try simp only [Act.put,sA,s0,sS]
      refine tf (i:=4) (v:=(.tuple #[P1.v,P2.v,.bool k])) rfl rfl (fun _=>rfl) hv25 ?_
      try simp only [Act.put,sA,s0,sS]
      refine tf (i:=5) (v:=P1.v) rfl rfl (fun _=>rfl) hv25 ?_
      try simp only [Act.put,sA,s0,sS]
      refine tf (i:=6) (v:=P2.v) rfl rfl (fun _=>rfl) hv25 ?_
      try simp only [Act.put,sA,s0,sS]
      refine tf (i:=7) (v:=(.bool k)) rfl rfl (fun _=>rfl) hv25 ?_
      try simp only [Act.put,sA,s0,sS]
      have fSv17:=Sv17.out
      have fEg7:=Eg7.out
      have fSv23:=Sv23.out
      have fEg8:=Eg8.out
      have fSv24:=Sv24.out
      have fSv25:=Sv25.out
      have sv0:=S0.out
      have i1:=I1.out.mono (G:=fun b=>(F b∧b < w.heap.size)∨(w.heap.size+4≤b∧b≠g7∧b≠g8)) (fun b hb=>by rcases hb with ⟨(h | h) | h,h2⟩;exact .inl h;exact .inr (by omega);exact .inr (by omega))
      have i2:=I2.out.mono (G:=fun b=>(F b∧b < w.heap.size)∨(w.heap.size+4≤b∧b≠g7∧b≠g8)) (fun b hb=>by rcases hb with ⟨(h | h) | h,h2⟩;exact .inl h;exact .inr (by omega);exact .inr (by omega))
      refine two_stores (n:=10) (u:=.bool k) (v1:=parr P1) (v2:=parr P2) (by kernel_rfl) (by kernel_rfl) (by kernel_rfl) (by kernel_rfl) rfl rfl rfl rfl rfl rfl rfl rfl rfl rfl rfl rfl rfl rfl rfl rfl rfl hb7 hb8 rfl rfl (by omega) (by kernel_rfl) (by kernel_rfl) (by first | rfl | simp [Value.oneCell']) (by first | rfl | simp [Value.oneCell']) (Ext.setAll (by omega) _ _ _ hv25) (Ext.setAll (by omega) _ _ _ (Ext.setAll (by omega) _ _ _ hv25)) (fun W k7 k8 hst=>NoPanic.normal ?_) _
      try simp only [Act.put,sA,s0,sS]
      have LF:Hid (Mid F w c d W g7 g8):=Lib.hid ⟨P1,P2,k7,k8,by omega,by omega,by omega,Lib.hid (hst.keeps _ _ _ i1 (fun h=>by omega) (fun h=>by omega)),Lib.hid (hst.keeps _ _ _ i2 (fun h=>by omega) (fun h=>by omega))⟩
      have hy:=hst.ext w1 hv25 (by omega) (by omega)
      clear hst i1 i2 k7 k8 sv0 fSv17 fEg7 fSv23 fEg8 fSv24 fSv25 Sv17 Eg7 Sv23 Eg8 Sv24 Sv25
      go_wp2_with fail
      go_meet
      exact ⟨g7,g8,rfl,rfl,rfl,LF,hy⟩
  ·go_simp
   have hx0:Ext v0 (v0.alloc (.cells zcells 42)):=(Ext.refl v0).alloc _
   have hb8:Blk (v0.alloc (.cells zcells 42)) v0.heap.size 42 zcells:=Blk.new' rfl
   have sv26:(v0.alloc (.cells zcells 42)).heap.size=v0.heap.size+1:=by simp
   generalize v0.alloc (.cells zcells 42)=v26 at hx0 hb8 sv26 ⊢
   obtain ⟨g8,eg8⟩:∃ g,g=v0.heap.size:=⟨_,rfl⟩
   rw [← eg8] at hb8 ⊢
   have Eg8:=Lib.hid eg8
   have Sv26:=Lib.hid sv26
   clear eg8 sv26
   have hv26:=hd.trans hx0
   refine hK.out _ _ hv26 (fun _=>?_)
   clear hK hx0
   try simp only [Act.put,sA,s0,sS]
   refine wpAnyH_ready (rs:=[1,8]) (by kernel_rfl) (by simp) ?_
   refine (AllReadyH.cons rfl (fun K hK=>?_) (AllReadyH.cons rfl (fun K hK=>?_) AllReadyH.nil))
   ·go_simp
    refine (Q2.out Z1.out _ (hx.trans hv26)).mono ?_
    rintro e v27 ⟨P0,rfl,i0,hx0⟩
    have I0:=Lib.hid i0.in
    clear i0
    have Sv27:=Lib.hid hx0.size_le
    have hv27:=hv26.trans hx0
    replace hb8:=hb8.ext hx0
    refine hK.out _ _ hv27 (fun _=>?_)
    clear hK hx0
    try simp only [Act.put,sA,s0,sS]
    refine wpAnyH_ready (rs:=[3,8]) (by kernel_rfl) (by simp) ?_
    refine (AllReadyH.cons rfl (fun K hK=>?_) (AllReadyH.cons rfl (fun K hK=>?_) AllReadyH.nil))
    ·go_simp
     refine (Q3.out Z1.out (fun b=>(F b∧b < w.heap.size)∨(v26.heap.size≤b∧b < v27.heap.size)) _ P0 (hx.trans hv27) (I0.out.mono fun b hb=>.inr hb) (fun b hb=>.inl hb)).mono ?_
     rintro e v28 ⟨P1,P2,rfl,i1,i2,hx0⟩
     have I1:=Lib.hid i1.in
     have I2:=Lib.hid i2.in
     clear i1 i2 I0
     have Sv28:=Lib.hid hx0.size_le
     have hv28:=hv27.trans hx0
     replace hb8:=hb8.ext hx0
     refine hK.out _ _ hv28 (fun _=>?_)
     clear hK hx0
     try simp only [Act.put,sA,s0,sS]
     refine tf (i:=4) (v:=(.tuple #[P1.v,P2.v,.bool k])) rfl rfl (fun _=>rfl) hv28 ?_
     try simp only [Act.put,sA,s0,sS]
     refine tf (i:=5) (v:=P1.v) rfl rfl (fun _=>rfl) hv28 ?_
     try simp only [Act.put,sA,s0,sS]
     refine tf (i:=6) (v:=P2.v) rfl rfl (fun _=>rfl) hv28 ?_
     try simp only [Act.put,sA,s0,sS]
     refine tf (i:=7) (v:=(.bool k)) rfl rfl (fun _=>rfl) hv28 ?_
     try simp only [Act.put,sA,s0,sS]
     refine wpAnyH_ready (rs:=[8]) (by kernel_rfl) (by simp) ?_
     refine (AllReadyH.cons rfl (fun K hK=>?_) AllReadyH.nil)
     ·go_simp
      have hx0:Ext v28 (v28.alloc (.cells zcells 42)):=(Ext.refl v28).alloc _
      have hb7:Blk (v28.alloc (.cells zcells 42)) v28.heap.size 42 zcells:=Blk.new' rfl
      have sv29:(v28.alloc (.cells zcells 42)).heap.size=v28.heap.size+1:=by simp
      generalize v28.alloc (.cells zcells 42)=v29 at hx0 hb7 sv29 ⊢
      obtain ⟨g7,eg7⟩:∃ g,g=v28.heap.size:=⟨_,rfl⟩
      rw [← eg7] at hb7 ⊢
      have Eg7:=Lib.hid eg7
      have Sv29:=Lib.hid sv29
      clear eg7 sv29
      have hv29:=hv28.trans hx0
      replace hb8:=hb8.ext hx0
      replace I1:=Lib.hid (I1.out.ext hx0)
      replace I2:=Lib.hid (I2.out.ext hx0)
      refine hK.out _ _ hv29 (fun _=>?_)
      clear hK hx0
      try simp only [Act.put,sA,s0,sS]
      have fSv26:=Sv26.out
      have fEg8:=Eg8.out
      have fSv27:=Sv27.out
      have fSv28:=Sv28.out
      have fSv29:=Sv29.out
      have fEg7:=Eg7.out
      have sv0:=S0.out
      have i1:=I1.out.mono (G:=fun b=>(F b∧b < w.heap.size)∨(w.heap.size+4≤b∧b≠g7∧b≠g8)) (fun b hb=>by rcases hb with ⟨(h | h) | h,h2⟩;exact .inl h;exact .inr (by omega);exact .inr (by omega))
      have i2:=I2.out.mono (G:=fun b=>(F b∧b < w.heap.size)∨(w.heap.size+4≤b∧b≠g7∧b≠g8)) (fun b hb=>by rcases hb with ⟨(h | h) | h,h2⟩;exact .inl h;exact .inr (by omega);exact .inr (by omega))
      refine two_stores (n:=10) (u:=.bool k) (v1:=parr P1) (v2:=parr P2) (by kernel_rfl) (by kernel_rfl) (by kernel_rfl) (by kernel_rfl) rfl rfl rfl rfl rfl rfl rfl rfl rfl rfl rfl rfl rfl rfl rfl rfl rfl hb7 hb8 rfl rfl (by omega) (by kernel_rfl) (by kernel_rfl) (by first | rfl | simp [Value.oneCell']) (by first | rfl | simp [Value.oneCell']) (Ext.setAll (by omega) _ _ _ hv29) (Ext.setAll (by omega) _ _ _ (Ext.setAll (by omega) _ _ _ hv29)) (fun W k7 k8 hst=>NoPanic.normal ?_) _
      try simp only [Act.put,sA,s0,sS]
      have LF:Hid (Mid F w c d W g7 g8):=Lib.hid ⟨P1,P2,k7,k8,by omega,by omega,by omega,Lib.hid (hst.keeps _ _ _ i1 (fun h=>by omega) (fun h=>by omega)),Lib.hid (hst.keeps _ _ _ i2 (fun h=>by omega) (fun h=>by omega))⟩
      have hy:=hst.ext w1 hv29 (by omega) (by omega)
      clear hst i1 i2 k7 k8 sv0 fSv26 fEg8 fSv27 fSv28 fSv29 fEg7 Sv26 Eg8 Sv27 Sv28 Sv29 Eg7
      go_wp2_with fail
      go_meet
      exact ⟨g7,g8,rfl,rfl,rfl,LF,hy⟩
    ·go_simp
     have hx0:Ext v27 (v27.alloc (.cells zcells 42)):=(Ext.refl v27).alloc _
     have hb7:Blk (v27.alloc (.cells zcells 42)) v27.heap.size 42 zcells:=Blk.new' rfl
     have sv30:(v27.alloc (.cells zcells 42)).heap.size=v27.heap.size+1:=by simp
     generalize v27.alloc (.cells zcells 42)=v30 at hx0 hb7 sv30 ⊢
     obtain ⟨g7,eg7⟩:∃ g,g=v27.heap.size:=⟨_,rfl⟩
     rw [← eg7] at hb7 ⊢
     have Eg7:=Lib.hid eg7
     have Sv30:=Lib.hid sv30
     clear eg7 sv30
     have hv30:=hv27.trans hx0
     replace hb8:=hb8.ext hx0
     replace I0:=Lib.hid (I0.out.ext hx0)
     refine hK.out _ _ hv30 (fun _=>?_)
     clear hK hx0
     try simp only [Act.put,sA,s0,sS]
     refine wpAnyH_ready (rs:=[3]) (by kernel_rfl) (by simp) ?_
     refine (AllReadyH.cons rfl (fun K hK=>?_) AllReadyH.nil)
     ·go_simp
      refine (Q3.out Z1.out (fun b=>(F b∧b < w.heap.size)∨(v26.heap.size≤b∧b < v27.heap.size)) _ P0 (hx.trans hv30) (I0.out.mono fun b hb=>.inr hb) (fun b hb=>.inl hb)).mono ?_
      rintro e v31 ⟨P1,P2,rfl,i1,i2,hx0⟩
      have I1:=Lib.hid i1.in
      have I2:=Lib.hid i2.in
      clear i1 i2 I0
      have Sv31:=Lib.hid hx0.size_le
      have hv31:=hv30.trans hx0
      replace hb8:=hb8.ext hx0
      replace hb7:=hb7.ext hx0
      refine hK.out _ _ hv31 (fun _=>?_)
      clear hK hx0
      try simp only [Act.put,sA,s0,sS]
      refine tf (i:=4) (v:=(.tuple #[P1.v,P2.v,.bool k])) rfl rfl (fun _=>rfl) hv31 ?_
      try simp only [Act.put,sA,s0,sS]
      refine tf (i:=5) (v:=P1.v) rfl rfl (fun _=>rfl) hv31 ?_
      try simp only [Act.put,sA,s0,sS]
      refine tf (i:=6) (v:=P2.v) rfl rfl (fun _=>rfl) hv31 ?_
      try simp only [Act.put,sA,s0,sS]
      refine tf (i:=7) (v:=(.bool k)) rfl rfl (fun _=>rfl) hv31 ?_
      try simp only [Act.put,sA,s0,sS]
      have fSv26:=Sv26.out
      have fEg8:=Eg8.out
      have fSv27:=Sv27.out
      have fSv30:=Sv30.out
      have fEg7:=Eg7.out
      have fSv31:=Sv31.out
      have sv0:=S0.out
      have i1:=I1.out.mono (G:=fun b=>(F b∧b < w.heap.size)∨(w.heap.size+4≤b∧b≠g7∧b≠g8)) (fun b hb=>by rcases hb with ⟨(h | h) | h,h2⟩;exact .inl h;exact .inr (by omega);exact .inr (by omega))
      have i2:=I2.out.mono (G:=fun b=>(F b∧b < w.heap.size)∨(w.heap.size+4≤b∧b≠g7∧b≠g8)) (fun b hb=>by rcases hb with ⟨(h | h) | h,h2⟩;exact .inl h;exact .inr (by omega);exact .inr (by omega))
      refine two_stores (n:=10) (u:=.bool k) (v1:=parr P1) (v2:=parr P2) (by kernel_rfl) (by kernel_rfl) (by kernel_rfl) (by kernel_rfl) rfl rfl rfl rfl rfl rfl rfl rfl rfl rfl rfl rfl rfl rfl rfl rfl rfl hb7 hb8 rfl rfl (by omega) (by kernel_rfl) (by kernel_rfl) (by first | rfl | simp [Value.oneCell']) (by first | rfl | simp [Value.oneCell']) (Ext.setAll (by omega) _ _ _ hv31) (Ext.setAll (by omega) _ _ _ (Ext.setAll (by omega) _ _ _ hv31)) (fun W k7 k8 hst=>NoPanic.normal ?_) _
      try simp only [Act.put,sA,s0,sS]
      have LF:Hid (Mid F w c d W g7 g8):=Lib.hid ⟨P1,P2,k7,k8,by omega,by omega,by omega,Lib.hid (hst.keeps _ _ _ i1 (fun h=>by omega) (fun h=>by omega)),Lib.hid (hst.keeps _ _ _ i2 (fun h=>by omega) (fun h=>by omega))⟩
      have hy:=hst.ext w1 hv31 (by omega) (by omega)
      clear hst i1 i2 k7 k8 sv0 fSv26 fEg8 fSv27 fSv30 fEg7 fSv31 Sv26 Eg8 Sv27 Sv30 Eg7 Sv31
      go_wp2_with fail
      go_meet
      exact ⟨g7,g8,rfl,rfl,rfl,LF,hy⟩
   ·go_simp
    have hx0:Ext v26 (v26.alloc (.cells zcells 42)):=(Ext.refl v26).alloc _
    have hb7:Blk (v26.alloc (.cells zcells 42)) v26.heap.size 42 zcells:=Blk.new' rfl
    have sv32:(v26.alloc (.cells zcells 42)).heap.size=v26.heap.size+1:=by simp
    generalize v26.alloc (.cells zcells 42)=v32 at hx0 hb7 sv32 ⊢
    obtain ⟨g7,eg7⟩:∃ g,g=v26.heap.size:=⟨_,rfl⟩
    rw [← eg7] at hb7 ⊢
    have Eg7:=Lib.hid eg7
    have Sv32:=Lib.hid sv32
    clear eg7 sv32
    have hv32:=hv26.trans hx0
    replace hb8:=hb8.ext hx0
    refine hK.out _ _ hv32 (fun _=>?_)
    clear hK hx0
    try simp only [Act.put,sA,s0,sS]
    refine wpAnyH_ready (rs:=[1]) (by kernel_rfl) (by simp) ?_
    refine (AllReadyH.cons rfl (fun K hK=>?_) AllReadyH.nil)
    ·go_simp
     refine (Q2.out Z1.out _ (hx.trans hv32)).mono ?_
     rintro e v33 ⟨P0,rfl,i0,hx0⟩
     have I0:=Lib.hid i0.in
     clear i0
     have Sv33:=Lib.hid hx0.size_le
     have hv33:=hv32.trans hx0
     replace hb8:=hb8.ext hx0
     replace hb7:=hb7.ext hx0
     refine hK.out _ _ hv33 (fun _=>?_)
     clear hK hx0
     try simp only [Act.put,sA,s0,sS]
     refine wpAnyH_ready (rs:=[3]) (by kernel_rfl) (by simp) ?_
     refine (AllReadyH.cons rfl (fun K hK=>?_) AllReadyH.nil)
     ·go_simp
      refine (Q3.out Z1.out (fun b=>(F b∧b < w.heap.size)∨(v32.heap.size≤b∧b < v33.heap.size)) _ P0 (hx.trans hv33) (I0.out.mono fun b hb=>.inr hb) (fun b hb=>.inl hb)).mono ?_
      rintro e v34 ⟨P1,P2,rfl,i1,i2,hx0⟩
      have I1:=Lib.hid i1.in
      have I2:=Lib.hid i2.in
      clear i1 i2 I0
      have Sv34:=Lib.hid hx0.size_le
      have hv34:=hv33.trans hx0
      replace hb8:=hb8.ext hx0
      replace hb7:=hb7.ext hx0
      refine hK.out _ _ hv34 (fun _=>?_)
      clear hK hx0
      try simp only [Act.put,sA,s0,sS]
      refine tf (i:=4) (v:=(.tuple #[P1.v,P2.v,.bool k])) rfl rfl (fun _=>rfl) hv34 ?_
      try simp only [Act.put,sA,s0,sS]
      refine tf (i:=5) (v:=P1.v) rfl rfl (fun _=>rfl) hv34 ?_
      try simp only [Act.put,sA,s0,sS]
      refine tf (i:=6) (v:=P2.v) rfl rfl (fun _=>rfl) hv34 ?_
      try simp only [Act.put,sA,s0,sS]
      refine tf (i:=7) (v:=(.bool k)) rfl rfl (fun _=>rfl) hv34 ?_
      try simp only [Act.put,sA,s0,sS]
      have fSv26:=Sv26.out
      have fEg8:=Eg8.out
      have fSv32:=Sv32.out
      have fEg7:=Eg7.out
      have fSv33:=Sv33.out
      have fSv34:=Sv34.out
      have sv0:=S0.out
      have i1:=I1.out.mono (G:=fun b=>(F b∧b < w.heap.size)∨(w.heap.size+4≤b∧b≠g7∧b≠g8)) (fun b hb=>by rcases hb with ⟨(h | h) | h,h2⟩;exact .inl h;exact .inr (by omega);exact .inr (by omega))
      have i2:=I2.out.mono (G:=fun b=>(F b∧b < w.heap.size)∨(w.heap.size+4≤b∧b≠g7∧b≠g8)) (fun b hb=>by rcases hb with ⟨(h | h) | h,h2⟩;exact .inl h;exact .inr (by omega);exact .inr (by omega))
      refine two_stores (n:=10) (u:=.bool k) (v1:=parr P1) (v2:=parr P2) (by kernel_rfl) (by kernel_rfl) (by kernel_rfl) (by kernel_rfl) rfl rfl rfl rfl rfl rfl rfl rfl rfl rfl rfl rfl rfl rfl rfl rfl rfl hb7 hb8 rfl rfl (by omega) (by kernel_rfl) (by kernel_rfl) (by first | rfl | simp [Value.oneCell']) (by first | rfl | simp [Value.oneCell']) (Ext.setAll (by omega) _ _ _ hv34) (Ext.setAll (by omega) _ _ _ (Ext.setAll (by omega) _ _ _ hv34)) (fun W k7 k8 hst=>NoPanic.normal ?_) _
      try simp only [Act.put,sA,s0,sS]
      have LF:Hid (Mid F w c d W g7 g8):=Lib.hid ⟨P1,P2,k7,k8,by omega,by omega,by omega,Lib.hid (hst.keeps _ _ _ i1 (fun h=>by omega) (fun h=>by omega)),Lib.hid (hst.keeps _ _ _ i2 (fun h=>by omega) (fun h=>by omega))⟩
      have hy:=hst.ext w1 hv34 (by omega) (by omega)
      clear hst i1 i2 k7 k8 sv0 fSv26 fEg8 fSv32 fEg7 fSv33 fSv34 Sv26 Eg8 Sv32 Eg7 Sv33 Sv34
      go_wp2_with fail
      go_meet
      exact ⟨g7,g8,rfl,rfl,rfl,LF,hy⟩
 case rest=>
  obtain ⟨g7,g8,rfl,rfl,rfl,HMid,hx0⟩:=hcut
  have hs1:w.heap.size+4≤w1.heap.size:=by have :=hb3.lt;omega
  have hs2:=hx0.size_le
  replace hb0:=hb0.ext hx0
  replace hb1:=hb1.ext hx0
  replace hb2:=hb2.ext hx0
  replace hb3:=hb3.ext hx0
  have hx1:=Ext.trans (a:=w) EX hx0
  clear hx hx0 Q2 Q3
  have hx:=hx1
  clear hx1
  obtain ⟨P1,P2,hb7,hb8,hne,l7,l8,i1,i2⟩:=HMid.out
  clear HMid
  cases k
  ·have HZ:Hid (R=(Qp.zero,Qp.zero,false)):=Lib.hid (by rw [HM.out];simp)
   clear HM i1 i2 Q4
   obtain ⟨hc2,hf2,hl2⟩:=hb2.all
   obtain ⟨hc3,hf3,hl3⟩:=hb3.all
   go_wp2_with fail
   refine bodyPost_ret (v:=.tuple #[(Qp.zero.pv none 0 none 0).v,(Qp.zero.pv none 0 none 0).v,.bool false]) ?_ rfl ?_
   ·simp only [results,Tryz.results72]
    go_simp
    simp [Qp.zero]
   ·rw [HZ.out]
    exact ⟨_,_,rfl,Lib.hid (Is.none _ _ Qp.zero rfl rfl),Lib.hid (Is.none _ _ Qp.zero rfl rfl),EX⟩
  ·have HZ:Hid (R=(c,d.inv,true)):=Lib.hid (by rw [HM.out];simp)
   clear HM
   go_wp2_with fail
   refine wp_region_noPanic (wp_region_held_drew (S:=fun w'=>Blk w' g7 42 (parr P1)∧Blk w' g8 42 (parr P2)) (by kernel_rfl) ⟨hb7.drew,hb8.drew⟩ (fun hH=>?_))
   refine tl (i:=0) (parr P1).toList rfl rfl rfl rfl rfl Tryz.underlying42 rfl (fun _ h=>h.1.range 0 _ (fun j _=>by rw [Nat.zero_add,Array.getElem?_toList])) hH ?_
   try simp only [Act.put,sA,s0,sS]
   refine tl (i:=1) (parr P2).toList rfl rfl rfl rfl rfl Tryz.underlying42 rfl (fun _ h=>h.2.range 0 _ (fun j _=>by rw [Nat.zero_add,Array.getElem?_toList])) hH ?_
   try simp only [Act.put,sA,s0,sS]
   have hd:Ext wc wc.drew:=(Ext.refl wc).drew1
   generalize wc.drew=v0 at hH hd ⊢
   have s0:=hd.size_le
   refine wpAnyH_one (i:=2) (by kernel_rfl) rfl (by kernel_rfl) ?_
   go_simp
   have F:=check_fits (Q4.out trivial)
   refine (inverse_any P2 d _ (HG.out.ext (hx.trans hd)) (i2.out.ext hd) F.1 F.2.1 F.2.2.1 F.2.2.2 (Q4.out trivial)).mono ?_
   rintro e v2 ⟨P3,rfl,i3,hx2⟩
   have s2:=hx2.size_le
   replace hb2:=hb2.ext (hd.trans hx2)
   replace hb3:=hb3.ext (hd.trans hx2)
   have i1:=i1.out.ext (hd.trans hx2)
   clear i2 hb7 hb8 F
   refine ⟨⟨hH.1.ext hx2,hH.2.ext hx2⟩,?_⟩
   have m7:=hH.1.ext hx2
   have m8:=hH.2.ext hx2
   try simp only [Act.put,sA,s0,sS]
   refine two_stores (n:=3) (v1:=parr P1) (v2:=parr P3) (by kernel_rfl) (by kernel_rfl) (by kernel_rfl) (by kernel_rfl) rfl rfl rfl rfl rfl rfl rfl rfl rfl rfl rfl rfl rfl rfl rfl rfl rfl hb2 hb3 rfl rfl (by omega) (by kernel_rfl) (by kernel_rfl) (by first | rfl | simp [Value.oneCell']) (by first | rfl | simp [Value.oneCell'])
    ⟨Blk.farAll (w:=v2) (by omega) _ _ _ m7,Blk.farAll (w:=v2) (by omega) _ _ _ m8⟩ ⟨Blk.farAll (w:=v2) (by omega) _ _ _ (Blk.farAll (w:=v2) (by omega) _ _ _ m7),Blk.farAll (w:=v2) (by omega) _ _ _ (Blk.farAll (w:=v2) (by omega) _ _ _ m8)⟩ (fun W k2 k3 hst=>NoPanic.normal ?_) _
   have hy:=hst.ext w (hx.trans (hd.trans hx2)) (by omega) (by omega)
   have j1:=hst.keeps _ _ _ i1 (fun h=>by omega) (fun h=>by omega)
   have j2:=hst.keeps _ _ _ i3 (fun h=>by omega) (fun h=>by omega)
   clear hst hH hb0 hb1 hb2 hb3 hx i1 i3 m7 m8 hd hx2
   obtain ⟨hc2,hf2,hl2⟩:=k2.all
   obtain ⟨hc3,hf3,hl3⟩:=k3.all
   try simp only [Act.put,sA,s0,sS]
   go_wp2_with fail
   refine bodyPost_ret (v:=.tuple #[P1.v,P3.v,.bool true]) ?_ rfl ?_
   ·simp only [results,Tryz.results72]
    go_simp
   ·rw [HZ.out]
    exact ⟨_,_,rfl,Lib.hid (j1.mono fun b h=>h.imp id (fun h=>by omega)),Lib.hid (j2.mono fun b h=>.inr (by omega)),hy⟩
end Go.Proofs.YtlbhaimfjfdppaaGreatDoor
namespace Go.Proofs.YtlbhaimfjfdppaaGreatDoor
open Go Go.RowKit
attribute [local go_sem ↓] Go.wp_at_zero Go.wp_at_succ
def Stepped (F:Nat→Prop) (g:Nat) (x y:Qp) (w:World) (e:Ending) (w':World):Prop:=
 ∃ P P2:Pv,e=.returned (.tuple #[P.v,.bool (x.merge y).2.2])∧Hid (Is w' (fun b=>b≠g∧(F b∨w.heap.size≤b)) P (x.merge y).1) ∧
  Hid (Is w' (fun b=>b≠g∧(F b∨w.heap.size≤b)) P2 (if (x.merge y).2.2 then (x.merge y).2.1 else x))∧Blk w' g 42 (parr P2)∧Hid (Kept g w w')
set_option maxHeartbeats 8000000 in
set_option maxRecDepth 100000 in
theorem through_box (g:Nat) (p p':Pv) (x y:Qp) (w:World) (hg:Glob w) (hb:Blk w g 42 (parr p)) {F:Nat→Prop} (hx:Is w (fun b=>b≠g∧F b) p x) (hy:Is w (fun b=>b≠g∧F b) p' y) (fx:x.Fits) (fy:y.Fits):
 Calls Tryz.prog 71 #[p'.v,.pointer (some ⟨g,0,none⟩)] w (Stepped F g x y w):=by
 have HX:=Lib.hid hx
 have HM:=Lib.hid (fun W (hW:Ext w W)=>merge_any p p' x y W (hg.ext hW) (hx.in.ext hW) (hy.in.ext hW) fx fy)
 have HK:Hid (∃ R,R=x.merge y):=Lib.hid ⟨_,rfl⟩
 unfold Stepped
 generalize x.merge y=R at HM ⊢
 obtain ⟨c,d,k⟩:=R
 dsimp only at HM ⊢
 have hgl:=hb.lt
 have HG:=Lib.hid hgl
 clear hx hy fx fy hg
 have hcg:=hb.cell
 have hfg:=hb.frozen
 go_enter Tryz.func71,Tryz.ntmps71
 have hx:=Ext.refl w
 go_wp2_with fail
 refine (HM.out _ EX).mono ?_
 rintro e w1 ⟨P1,P2,rfl,i1,i2,hx0⟩
 have hb1:Blk w1 g 42 (parr p):=Blk.ext hx0 (Blk.alloc (Blk.alloc hb _) _)
 have hb0:Blk w1 w.heap.size 42 (parr p'):=Blk.ext hx0 (Blk.alloc (Blk.new' rfl) _)
 have hbr:Blk w1 (w.heap.size+1) 42 zcells:=Blk.ext hx0 (Blk.new' (by simp))
 have hx1:=Ext.trans (a:=w) EX hx0
 have T1:Is w1 (fun b=>(b≠g∧F b∧b < w.heap.size)∨w.heap.size+2≤b) P1 c:=i1.out.mono fun b h=>by
  rcases h with h | h
  ·exact .inl ⟨h.1.1.1,h.1.1.2,h.1.2⟩
  ·exact .inr (by simpa using h)
 have T2:Is w1 (fun b=>(b≠g∧F b∧b < w.heap.size)∨w.heap.size+2≤b) P2 d:=i2.out.mono fun b h=>by
  rcases h with h | h
  ·exact .inl ⟨h.1.1.1,h.1.1.2,h.1.2⟩
  ·exact .inr (by simpa using h)
 have TX:Is w1 (fun b=>(b≠g∧F b∧b < w.heap.size)∨w.heap.size+2≤b) p x:=(HX.out.in.ext hx1).mono fun b h=>.inl ⟨h.1.1,h.1.2,h.2⟩
 have KE:Kept g w w1:=Kept.of_ext hx1
 have HT:=Lib.hid (⟨T1,T2,TX,KE⟩:_∧_∧_∧_)
 have nr:¬ ((w.heap.size+1≠g∧F (w.heap.size+1)∧w.heap.size+1 < w.heap.size)∨w.heap.size+2≤w.heap.size+1):=by omega
 have ng:¬ ((g≠g∧F g∧g < w.heap.size)∨w.heap.size+2≤g):=by omega
 have HN:=Lib.hid (⟨nr,ng⟩:_∧_)
 have HB:=Lib.hid hb1
 clear T1 T2 TX KE nr ng i1 i2 hx hx0 hb HX HM hcg hfg
 obtain ⟨hcg,hfg,hlg⟩:=hb1.all
 have hl0:=hb0.lt
 clear hb0
 obtain ⟨hcr,hfr,hlr⟩:=hbr.all
 have hW:=hx1.size_le
 have HW:=Lib.hid hW
 clear hW
 cases k
 ·go_wp2_with fail
  refine bodyPost_ret (v:=.tuple #[P1.v,.bool false]) ?_ rfl ?_
  ·simp only [results,Tryz.results71]
   go_simp
  ·obtain ⟨T1,T2,TX,KE⟩:=HT.out
   obtain ⟨nr,ng⟩:=HN.out
   have hw:=HW.out
   refine ⟨P1,rfl,Lib.hid (Is.mono (F:=fun b=>(b≠g∧F b∧b < w.heap.size)∨w.heap.size+2≤b) ?_ fun b h=>?_),p,Lib.hid (Is.mono (F:=fun b=>(b≠g∧F b∧b < w.heap.size)∨w.heap.size+2≤b) ?_ fun b h=>?_),?_,Lib.hid ?_⟩
   ·repeat (first | with_reducible exact T1 | with_reducible refine Is.alloc ?_ _ | with_reducible refine Is.drew ?_ | with_reducible refine Is.put (g:=w.heap.size+1) ?_ nr _)
   ·rcases h with h | h
    ·exact ⟨h.1,.inl h.2.1⟩
    ·exact ⟨by omega,.inr (by omega)⟩
   ·repeat (first | with_reducible exact TX | with_reducible refine Is.alloc ?_ _ | with_reducible refine Is.drew ?_ | with_reducible refine Is.put (g:=w.heap.size+1) ?_ nr _)
   ·rcases h with h | h
    ·exact ⟨h.1,.inl h.2.1⟩
    ·exact ⟨by omega,.inr (by omega)⟩
   ·repeat (first | with_reducible exact hb1 | with_reducible refine Blk.alloc ?_ _ | with_reducible refine Blk.drew ?_ | refine Blk.far ?_ (by dsimp only;omega) _)
   ·repeat (first | with_reducible exact KE | with_reducible refine Kept.alloc ?_ _ | with_reducible refine Kept.drew ?_ | with_reducible refine Kept.cell (b:=w.heap.size+1) ?_ (.inr (by omega)) _ _)
 ·go_wp2_with fail
  refine bodyPost_ret (v:=.tuple #[P1.v,.bool true]) ?_ rfl ?_
  ·simp only [results,Tryz.results71]
   go_simp
  ·obtain ⟨T1,T2,TX,KE⟩:=HT.out
   obtain ⟨nr,ng⟩:=HN.out
   have hw:=HW.out
   refine ⟨P1,rfl,Lib.hid (Is.mono (F:=fun b=>(b≠g∧F b∧b < w.heap.size)∨w.heap.size+2≤b) ?_ fun b h=>?_),P2,Lib.hid (Is.mono (F:=fun b=>(b≠g∧F b∧b < w.heap.size)∨w.heap.size+2≤b) ?_ fun b h=>?_),?_,Lib.hid ?_⟩
   ·repeat (first | with_reducible exact T1 | with_reducible refine Is.alloc ?_ _ | with_reducible refine Is.drew ?_ | with_reducible refine Is.put (g:=w.heap.size+1) ?_ nr _ | with_reducible refine Is.put (g:=g) ?_ ng _)
   ·rcases h with h | h
    ·exact ⟨h.1,.inl h.2.1⟩
    ·exact ⟨by omega,.inr (by omega)⟩
   ·repeat (first | with_reducible exact T2 | with_reducible refine Is.alloc ?_ _ | with_reducible refine Is.drew ?_ | with_reducible refine Is.put (g:=w.heap.size+1) ?_ nr _ | with_reducible refine Is.put (g:=g) ?_ ng _)
   ·rcases h with h | h
    ·exact ⟨h.1,.inl h.2.1⟩
    ·exact ⟨by omega,.inr (by omega)⟩
   ·repeat (first | with_reducible refine Blk.alloc ?_ _ | with_reducible refine Blk.drew ?_ | refine Blk.far ?_ (by dsimp only;omega) _)
    refine Blk.conv ((((((((((((hb1.set_ 0 _).set_ 1 _).set_ 2 _).set_ 3 _).set_ 4 _).set_ 5 _).set_ 6 _).set_ 7 _).set_ 8 _).set_ 9 _).set_ 10 _).set_ 11 _) ?_
    simp
   ·repeat (first | with_reducible exact KE | with_reducible refine Kept.alloc ?_ _ | with_reducible refine Kept.drew ?_ | with_reducible refine Kept.cell (b:=g) ?_ (.inl rfl) _ _ | with_reducible refine Kept.cell (b:=w.heap.size+1) ?_ (.inr (by omega)) _ _)
end Go.Proofs.YtlbhaimfjfdppaaGreatDoor
namespace Go.Proofs.YtlbhaimfjfdppaaGreatDoor
open Go Go.RowKit
attribute [local go_sem ↓] Go.wp_at_zero Go.wp_at_succ
def Car (x:Qp) (l:List Qp) (k:Nat) (xk:Qp) (outs:List Qp):Prop:=
 outs.length=k∧xk.Fits∧Sq.carried x l=match Sq.carried xk (l.drop k) with
  | .ok r=>.ok (r.1,outs ++ r.2)
  | .error j=>.error (j+k)
theorem Car.start (x:Qp) (l:List Qp) (hf:x.Fits):Car x l 0 x []:=by
 refine ⟨rfl,hf,?_⟩
 rw [List.drop_zero]
 cases Sq.carried x l <;> rfl
theorem Car.step {x:Qp} {l:List Qp} {k:Nat} {xk y:Qp} {outs:List Qp} (h:Car x l k xk outs) (hy:l[k]?=some y) (hm:(xk.merge y).2.2=true):Car x l (k+1) (xk.merge y).2.1 (outs ++ [(xk.merge y).1]):=by
 obtain ⟨h1,h2,h3⟩:=h
 refine ⟨by simp [h1],(merge_fits hm).2,?_⟩
 obtain ⟨hlt,e⟩:=List.getElem?_eq_some_iff.1 hy
 rw [h3,List.drop_eq_getElem_cons hlt,e,Sq.carried,if_pos hm]
 cases Sq.carried (xk.merge y).2.1 (l.drop (k+1)) with
 | ok r=>simp
 | error j=>simp;omega
theorem Car.dies {x:Qp} {l:List Qp} {k:Nat} {xk y:Qp} {outs:List Qp} (h:Car x l k xk outs) (hy:l[k]?=some y) (hm:¬ (xk.merge y).2.2=true):Sq.carried x l=.error k:=by
 obtain ⟨h1,h2,h3⟩:=h
 obtain ⟨hlt,e⟩:=List.getElem?_eq_some_iff.1 hy
 rw [h3,List.drop_eq_getElem_cons hlt,e,Sq.carried,if_neg hm]
 simp
theorem Car.ends {x:Qp} {l:List Qp} {k:Nat} {xk:Qp} {outs:List Qp} (h:Car x l k xk outs) (hk:l.length≤k):Sq.carried x l=.ok (xk,outs):=by
 obtain ⟨h1,h2,h3⟩:=h
 rw [h3,List.drop_of_length_le hk]
 simp [Sq.carried]
def rowCells (P:Pv) (B:Option Addr) (n c:Nat) (at_:Int) (ok:Bool):Array Value:=
 #[.int .i64 P.kind,.string P.path,.string P.to_,.int .i64 P.ty,.int .i64 P.at_,.slice P.A1 P.n1 P.c1,.slice P.A2 P.n2 P.c2,.int .i64 P.off,.string P.so,.string P.sn,.int .i64 P.om,.int .i64 P.nm,.slice B n c,.int .i64 at_,.bool ok]
def Fresh (F:Nat→Prop) (w:World) (b:Nat):Prop:=(F b∧b < w.heap.size)∨w.heap.size≤b
def Carried (F:Nat→Prop) (R:Except Nat (Qp × List Qp)) (w:World) (e:Ending) (w':World):Prop:=
 (match R with
   | .ok r=>∃ P B c,e=.returned (.agg (rowCells P B r.2.length c 0 true))∧Hid (Is w' (Fresh F w) P r.1)∧Hid (Qs w' (Fresh F w) B r.2)∧Hid ((B=none→c=0)∧∀ ad,B=some ad→w.heap.size≤ad.block∧ad.block < w'.heap.size)
   | .error k=>e=.returned (.agg (rowCells (Qp.zero.pv none 0 none 0) none 0 0 k false)))∧Ext w w'
theorem Qs.one {W:World} {g:Nat} {G:Nat→Prop} {P:Pv} {q:Qp} (hb:Blk W g 42 (parr P)) (hi:Is W G P q):Qs W G (some ⟨g,0,none⟩) [q]:=by
 refine ⟨[P],rfl,fun _=>⟨g,0,rfl,hb.lt,fun i p hp j v hv=>?_⟩,fun i p q' hp hq=>?_⟩
 ·have h0:i=0:=by have :=(List.getElem?_eq_some_iff.1 hp).1;simpa using this
  subst h0
  obtain rfl:P=p:=Option.some.inj hp
  rw [hb.cell]
  simpa using hv
 ·have h0:i=0:=by have :=(List.getElem?_eq_some_iff.1 hp).1;simpa using this
  subst h0
  obtain rfl:P=p:=Option.some.inj hp
  obtain rfl:q=q':=Option.some.inj hq
  exact hi
abbrev z15:Array Value:=#[.int .i64 0,.string ⟨#[]⟩,.string ⟨#[]⟩,.int .i64 0,.int .i64 0,.slice none 0 0,.slice none 0 0,.int .i64 0,.string ⟨#[]⟩,.string ⟨#[]⟩,.int .i64 0,.int .i64 0,.slice none 0 0,.int .i64 0,.bool false]
set_option maxHeartbeats 16000000 in
set_option maxRecDepth 100000 in
theorem carried_any (A:Option Addr) (n c:Nat) (l:List Qp) (p:Pv) (x:Qp) (w:World) (hg:Glob w) {F:Nat→Prop} (hq:Qs w F A l) (hn:l.length=n) (hx:Is w F p x) (fx:x.Fits) (hf:∀ q∈l,q.Fits) (hb:n≤100000000000):
 Calls Tryz.prog 62 #[p.v,.slice A n c] w (Carried F (Sq.carried x l) w):=by
 have HQ:=Lib.hid hq.in
 have HX:=Lib.hid hx.in
 have HG:=Lib.hid hg
 have HN:=Lib.hid hn
 have HF:=Lib.hid hf
 have HC0:=Lib.hid (Car.start x l fx)
 have HR:Hid (∀ k xk y outs,Car x l k xk outs→l[k]?=some y→¬ (xk.merge y).2.2=true→Sq.carried x l=.error k):=Lib.hid fun k xk y outs h=>h.dies
 have HE:Hid (∀ k xk outs,Car x l k xk outs→l.length≤k→Sq.carried x l=.ok (xk,outs)):=Lib.hid fun k xk outs h=>h.ends
 generalize Sq.carried x l=R at HR HE ⊢
 clear hq hx hg hn hf fx
 go_enter Tryz.func62,Tryz.ntmps62
 have hx:=Ext.refl w
 go_wp2_with fail
 have hbx:=Lib.hid (show Blk ((w.alloc (.cells (parr p) 42)).alloc (.cells z15 74)) w.heap.size 42 (parr p) from Blk.alloc (Blk.new' rfl) _)
 have hbr:=Lib.hid (show Blk ((w.alloc (.cells (parr p) 42)).alloc (.cells z15 74)) (w.heap.size+1) 74 z15 from Blk.new' (by simp))
 have hx0:Ext w ((w.alloc (.cells (parr p) 42)).alloc (.cells z15 74)):=((Ext.refl w).alloc _).alloc _
 generalize ((w.alloc (.cells (parr p) 42)).alloc (.cells z15 74))=w0 at hbx hbr hx0 ⊢
 have HP0:=Lib.hid ((HX.out.ext hx0).mono (G:=fun b=>((b≠w.heap.size∧b≠w.heap.size+1)∧Fresh F w b)∧some b≠Value.ownBlock (.slice none 0 0)) fun b hb=>⟨⟨⟨Nat.ne_of_lt hb.2,by have :=hb.2;omega⟩,.inl hb⟩,by simp [Value.ownBlock]⟩)
 clear hx HX
 go_loopw [6,14] (fun u6 u14 wr=>∃ (k:Nat) (xk:Qp) (P:Pv) (outs:List Qp),k≤n∧u14=.int .i64 k∧Hid (Car x l k xk outs)∧Hid (Grows wr (w.heap.size+2) (fun b=>(b≠w.heap.size∧b≠w.heap.size+1)∧Fresh F w b) u6 outs)∧Hid (Is wr (fun b=>((b≠w.heap.size∧b≠w.heap.size+1)∧Fresh F w b)∧some b≠u6.ownBlock) P xk)∧Hid (Blk wr w.heap.size 42 (parr P))∧Hid (Blk wr (w.heap.size+1) 74 z15)∧Ext w wr) (fun u6 u14 wr=>n - (intOf u14).toNat)
 case atStart=>exact ⟨0,x,p,[],Nat.zero_le _,rfl,HC0,Lib.hid (Grows.nil _ _ _),HP0,hbx,hbr,hx0⟩
 case round=>
  clear HC0 HP0 hbx hbr hx0
  obtain ⟨k,xk,P,outs,hk,rfl,HCar,HGr,HP,HB,HRow,hx⟩:=hrel
  by_cases hlt:k < n
  ·have hkl:k < l.length:=by rw [HN.out];exact hlt
   have e1:l[k]?=some (l[k]'hkl):=List.getElem?_eq_getElem hkl
   obtain ⟨b,o,p2,rfl,hbl,hc,hi⟩:=(HQ.out.ext hx).get e1
   have fy:=HF.out _ (List.mem_of_getElem? e1)
   generalize l[k]'hkl=y at e1 hi fy
   have E1:=Lib.hid e1
   have hown:=HGr.out.own
   have HTB:=Lib.hid (fun W (hW:Ext wr W)=>through_box w.heap.size P p2 xk y W (HG.out.ext (hx.trans hW)) (Blk.ext hW HB.out) (F:=fun b=>(b≠w.heap.size+1∧Fresh F w b)∧some b≠u6.ownBlock) ((HP.out.ext hW).mono fun b hb=>⟨hb.1.1.1,⟨hb.1.1.2,hb.1.2⟩,hb.2⟩) ((hi.ext hW).mono fun b hb=>⟨Nat.ne_of_lt hb.2,⟨by have :=hb.2;omega,.inl hb⟩,fun e=>by have :=(hown b e.symm).1;have:=hb.2;omega⟩) HCar.out.2.1 fy)
   have HD:Hid (¬ (xk.merge y).2.2=true→R=.error k):=Lib.hid (HR.out k xk y outs HCar.out e1)
   have HS:Hid ((xk.merge y).2.2=true→Car x l (k+1) (xk.merge y).2.1 (outs ++ [(xk.merge y).1])):=Lib.hid (HCar.out.step e1)
   have HOW:=Lib.hid hown
   unfold Stepped at HTB
   generalize xk.merge y=M at HTB HD HS
   obtain ⟨c1,d1,m⟩:=M
   dsimp only at HTB HD HS
   obtain ⟨q0,q1,q2,q3,q4,q5,q6,q7,q8,q9,q10,q11⟩:=cells12 hc
   clear hc hi fy e1 hown hkl
   have hrow:=HRow.out.lt
   go_wp2_with fail
   clear q0 q1 q2 q3 q4 q5 q6 q7 q8 q9 q10 q11
   refine (HTB.out _ (by exact (Ext.refl wr).alloc _)).mono ?_
   rintro e w1 ⟨P1,P2,rfl,i1,i2,hbg,hkept⟩
   have hx1:Ext w w1:=hkept.out.ext w (hx.alloc _) (Nat.le_refl _)
   have hr1:Blk w1 (w.heap.size+1) 74 z15:=hkept.out.blk _ _ _ (Blk.alloc HRow.out _) (by omega)
   have gr1:=(HGr.out.ext ((Ext.refl wr).alloc _)).kept hkept.out (by omega) (fun b hb=>hb.1.1)
   have hyv:Blk w1 wr.heap.size 42 (parr p2):=hkept.out.blk _ _ _ (Blk.new' rfl) (by have :=hx.size_le;omega)
   have I1:Hid (Is w1 (fun b=>((b≠w.heap.size∧b≠w.heap.size+1)∧Fresh F w b)∧some b≠u6.ownBlock) P1 c1):=Lib.hid (i1.out.mono fun b hb=>⟨⟨⟨hb.1,hb.2.elim (fun h=>h.1.1) fun h=>by simp at h;omega⟩,hb.2.elim (fun h=>h.1.2) fun h=>.inr (by simp at h;omega)⟩,hb.2.elim (fun h=>h.2) fun h e=>by have :=(HOW.out b e.symm).2;simp at h;omega⟩)
   have I2:Hid (Is w1 (fun b=>((b≠w.heap.size∧b≠w.heap.size+1)∧Fresh F w b)∧some b≠u6.ownBlock) P2 (if m=true then d1 else xk)):=Lib.hid (i2.out.mono fun b hb=>⟨⟨⟨hb.1,hb.2.elim (fun h=>h.1.1) fun h=>by simp at h;omega⟩,hb.2.elim (fun h=>h.1.2) fun h=>.inr (by simp at h;omega)⟩,hb.2.elim (fun h=>h.2) fun h e=>by have :=(HOW.out b e.symm).2;simp at h;omega⟩)
   have HGr1:=Lib.hid gr1
   have HL:=Lib.hid HCar.out.1
   have HB1:=Lib.hid hbg
   have HR1:=Lib.hid hr1
   have hgl:=hbg.lt
   have hyl:=hyv.lt
   clear i1 i2 gr1 HGr HB HRow HP hkept hx hyv hrow HTB HCar
   have hx:=hx1
   clear hx1 hbg
   obtain ⟨hcr,hfr,hlr⟩:=hr1.all
   clear hr1
   cases m
   ·go_wp2_with fail
    refine bodyPost_ret (v:=.agg (rowCells (Qp.zero.pv none 0 none 0) none 0 0 k false)) ?_ rfl ?_
    ·simp only [results,Tryz.results62]
     go_simp
     simp [rowCells,Qp.zero]
    ·rw [HD.out (by simp)]
     exact ⟨rfl,EX⟩
   ·have II:=Lib.hid I2.out
    go_wp2_with (at_builtin;refine wpList_grow _ rfl _ _ 22 rfl Tryz.underlying22 (by kernel_rfl) (w.heap.size+2) u6 outs [c1] rfl (HGr1.out.ext (by repeat (first | with_reducible exact Ext.refl _ | with_reducible refine Ext.alloc ?_ _ | with_reducible refine Ext.drew1 ?_))) ⟨_,0,none⟩ 1 rfl (Qs.one (Blk.new' (by simp)) (I1.out.in.ext (by repeat (first | with_reducible exact Ext.refl _ | with_reducible refine Ext.alloc ?_ _ | with_reducible refine Ext.drew1 ?_)))) (fun b hb=>⟨Nat.lt_of_lt_of_le hb.2 (Ext.size_le (by repeat (first | with_reducible exact Ext.refl _ | with_reducible refine Ext.alloc ?_ _ | with_reducible refine Ext.drew1 ?_))),hb.1.1,hb.1.2⟩) (by simp) (by have :=HL.out;simp;omega) (Nat.le_trans (show w.heap.size+2≤w1.heap.size from hlr) (Ext.size_le (by repeat (first | with_reducible exact Ext.refl _ | with_reducible refine Ext.alloc ?_ _ | with_reducible refine Ext.drew1 ?_)))) ?_;intro g2 cap w3 hgr hgrow hlie)
    have iP:Is w3 (fun b=>((b≠w.heap.size∧b≠w.heap.size+1)∧Fresh F w b)∧some b≠Value.ownBlock (.slice (some ⟨g2,0,none⟩) (outs.length+[c1].length) cap)) P2 d1:=
     (Is.grownBy (Is.ext (show Is w1 _ P2 d1 from I2.out.in) (by repeat (first | with_reducible exact Ext.refl _ | with_reducible refine Ext.alloc ?_ _ | with_reducible refine Ext.drew1 ?_))) hgrow (fun b hb=>hb.1.2)).mono fun b hb=>⟨hb.1.1,fun e=>by
       have e':b=g2:=by simpa [Value.ownBlock] using e
       rcases hlie with h | h
       ·exact hb.1.2 (by rw [h,e'])
       ·have h2:=hb.2
        simp at h
        omega⟩
    have nG:∀ j,j < w.heap.size+2→some j≠u6.ownBlock:=fun j hj e=>by have :=(HOW.out j e.symm).1;omega
    have bg3:Blk w3 w.heap.size 42 (parr P2):=(hgrow.block _ (Nat.lt_of_lt_of_le hgl (Ext.size_le (by repeat (first | with_reducible exact Ext.refl _ | with_reducible refine Ext.alloc ?_ _ | with_reducible refine Ext.drew1 ?_)))) (nG _ (by omega))).trans (Blk.ext (by repeat (first | with_reducible exact Ext.refl _ | with_reducible refine Ext.alloc ?_ _ | with_reducible refine Ext.drew1 ?_)) HB1.out)
    have br3:Blk w3 (w.heap.size+1) 74 z15:=(hgrow.block _ (Nat.lt_of_lt_of_le hlr (Ext.size_le (by repeat (first | with_reducible exact Ext.refl _ | with_reducible refine Ext.alloc ?_ _ | with_reducible refine Ext.drew1 ?_)))) (nG _ (by omega))).trans (Blk.ext (by repeat (first | with_reducible exact Ext.refl _ | with_reducible refine Ext.alloc ?_ _ | with_reducible refine Ext.drew1 ?_)) HR1.out)
    have hx3:Ext w w3:=Ext.grownBy (hx.trans (by repeat (first | with_reducible exact Ext.refl _ | with_reducible refine Ext.alloc ?_ _ | with_reducible refine Ext.drew1 ?_))) hgrow (fun j hj=>by have :=(HOW.out j hj).1;omega)
    go_roundw
    case rel=>
     first
      | exact ⟨k+1,d1,P2,outs ++ [c1],hlt,rfl,Lib.hid (by first | exact HS.out rfl | exact HS.out trivial),Lib.hid hgr,Lib.hid iP,Lib.hid bg3,Lib.hid br3,hx3⟩
      | ((repeat apply Exists.intro);exact ⟨⟨k+1,d1,P2,outs ++ [c1],hlt,rfl,Lib.hid (by first | exact HS.out rfl | exact HS.out trivial),Lib.hid hgr,Lib.hid iP,Lib.hid bg3,Lib.hid br3,hx3⟩,rfl⟩)
    case measure=>simp [intOf];omega
  ·have HZ:=Lib.hid (fun h=>HE.out k xk outs HCar.out h)
   have hOwn:=HGr.out.own
   obtain ⟨B,cB,rfl,hqs,hle,hBn⟩:=HGr.out.qs
   have HQS:=Lib.hid hqs
   have hkn:k=n:=by omega
   have HL:=Lib.hid HCar.out.1
   have hcg:=HB.out.cell
   have hlg:=HB.out.lt
   have hcr:=HRow.out.cell
   have hfr:=HRow.out.frozen
   have hlr:=HRow.out.lt
   clear hqs
   have KQ:∀ W',Kept (w.heap.size+1) wr W'→Qs W' (Fresh F w) B outs:=fun W' hk=>by
    obtain ⟨B',c',e',hq',_⟩:=(HGr.out.kept hk (by omega) (fun b hb=>hb.1.2)).qs
    cases e'
    exact hq'.mono fun _ hb=>hb.1.2
   have HKQ:=Lib.hid KQ
   clear KQ HGr
   have HBn:Hid ((B=none→cB=0)∧∀ ad,B=some ad→w.heap.size≤ad.block∧ad.block < wr.heap.size):=Lib.hid ⟨hBn,fun ad e=>by have :=hOwn ad.block (by rw [e];rfl);omega⟩
   clear hBn hle hOwn
   go_wp2_with fail
   refine bodyPost_ret (v:=.agg (rowCells P B outs.length cB 0 true)) ?_ rfl ?_
   ·simp only [results,Tryz.results62]
    go_simp
    simp [rowCells]
   ·rw [HZ.out (by rw [HN.out];omega)]
    refine ⟨⟨P,B,cB,rfl,Lib.hid ?_,Lib.hid ?_,Lib.hid ⟨HBn.out.1,fun ad e=>⟨(HBn.out.2 ad e).1,Nat.lt_of_lt_of_le (HBn.out.2 ad e).2 ?sz⟩⟩⟩,?_⟩
    ·refine (Kept.isG (g:=w.heap.size+1) (w:=wr) ?_ P xk _ HP.out.in (fun b hb=>⟨hb.1.1.1.2,hb.2⟩)).mono fun _ hb=>hb.1.1.2
     (repeat (first | with_reducible exact Kept.refl _ _ | with_reducible refine Kept.alloc ?_ _ | with_reducible refine Kept.drew ?_ | with_reducible refine Kept.cell (b:=w.heap.size+1) ?_ (.inl rfl) _ _))
    ·refine HKQ.out _ ?_
     (repeat (first | with_reducible exact Kept.refl _ _ | with_reducible refine Kept.alloc ?_ _ | with_reducible refine Kept.drew ?_ | with_reducible refine Kept.cell (b:=w.heap.size+1) ?_ (.inl rfl) _ _))
    case sz=>
     refine Kept.size (g:=w.heap.size+1) ?_
     (repeat (first | with_reducible exact Kept.refl _ _ | with_reducible refine Kept.alloc ?_ _ | with_reducible refine Kept.drew ?_ | with_reducible refine Kept.cell (b:=w.heap.size+1) ?_ (.inl rfl) _ _))
    ·refine Kept.ext (g:=w.heap.size+1) (w:=wr) ?_ w hx (by omega)
     (repeat (first | with_reducible exact Kept.refl _ _ | with_reducible refine Kept.alloc ?_ _ | with_reducible refine Kept.drew ?_ | with_reducible refine Kept.cell (b:=w.heap.size+1) ?_ (.inl rfl) _ _))
end Go.Proofs.YtlbhaimfjfdppaaGreatDoor
namespace Go.Proofs.YtlbhaimfjfdppaaGreatDoor
open Go Go.RowKit Go.Shelf
attribute [local go_sem] Oper.semAt_some
def NoBox (s z b:Nat):Prop:=(b < s∨s+4≤b)∧(b < z∨z+4≤b)
def Ours (F:Nat→Prop) (w:World) (z b:Nat):Prop:=NoBox w.heap.size z b∧Fresh F w b
def Aside (F:Nat→Prop) (w:World) (z:Nat) (v:Value) (W:World) (C:Option Addr) (l:List Qp):Prop:=
 Qs W (fun b=>Ours F w z b∧some b≠v.ownBlock) C l∧(0 < l.length→∀ ad,C=some ad→NoBox w.heap.size z ad.block∧some ad.block≠v.ownBlock∧ad.block < W.heap.size)
structure Boxes (F:Nat→Prop) (w:World) (z:Nat) (va u8 u9 vb:Value) (outs:List Qp) (W:World):Prop where
 r0:Blk W w.heap.size 22 #[.slice none 0 0]
 r1:Blk W (w.heap.size+1) 22 #[.slice none 0 0]
 r2:Blk W (w.heap.size+2) 50 #[.int .i64 0,.int .i64 0]
 r3:Blk W (w.heap.size+3) 4 #[.bool false]
 b8:Blk W z 22 #[u8]
 b9:Blk W (z+1) 22 #[u9]
 ba:Blk W (z+2) 22 #[va]
 bb:Blk W (z+3) 22 #[vb]
 gr:Grows W (z+4) (Ours F w z) u9 outs
 ext:Ext w W
 low:w.heap.size+4≤z
section
variable {F:Nat→Prop} {w W W':World} {z:Nat} {va u8 u9 vb:Value} {outs l:List Qp} {C:Option Addr}
theorem Aside.ext (h:Aside F w z u9 W C l) (hx:Ext W W'):Aside F w z u9 W' C l:=⟨h.1.ext hx,fun h0 ad e=>⟨(h.2 h0 ad e).1,(h.2 h0 ad e).2.1,Nat.lt_of_lt_of_le (h.2 h0 ad e).2.2 hx.size_le⟩⟩
theorem Aside.turned (h:Aside F w z u9 W C l) (hx:Turned W W'):Aside F w z u9 W' C l:=⟨h.1.turned hx,fun h0 ad e=>⟨(h.2 h0 ad e).1,(h.2 h0 ad e).2.1,Nat.lt_of_lt_of_le (h.2 h0 ad e).2.2 hx.size⟩⟩
theorem Boxes.into (h:Boxes F w z va u8 u9 vb outs W) (hx:Ext W W'):Boxes F w z va u8 u9 vb outs W':=
 ⟨h.r0.ext hx,h.r1.ext hx,h.r2.ext hx,h.r3.ext hx,h.b8.ext hx,h.b9.ext hx,h.ba.ext hx,h.bb.ext hx,h.gr.ext hx,h.ext.trans hx,h.low⟩
theorem Boxes.steady {B:Nat} (hB:w.heap.size≤B):Steady B (Boxes F w z va u8 u9 vb outs):=fun W W' row h hg hr=>by
 have ht:Turned W W':=⟨row,hg,fun r e=>(hr r e).2⟩
 exact ⟨h.r0.turned ht,h.r1.turned ht,h.r2.turned ht,h.r3.turned ht,h.b8.turned ht,h.b9.turned ht,h.ba.turned ht,h.bb.turned ht,h.gr.turned ht,Ext.steady w hB W W' row h.ext hg hr,h.low⟩
theorem Boxes.store (h:Boxes F w z va u8 u9 vb outs W) (v:Value):Boxes F w z va u8 u9 v outs (W.setCell ⟨z+3,0,none⟩ v):=by
 have hk:Off (fun b=>b=z+3) W (W.setCell ⟨z+3,0,none⟩ v):=(Off.refl (fun b=>b=z+3) W).cell ⟨z+3,0,none⟩ (.inl rfl) v
 have low:=h.low
 refine ⟨h.r0.offD hk (by omega),h.r1.offD hk (by omega),h.r2.offD hk (by omega),h.r3.offD hk (by omega),h.b8.offD hk (by omega),h.b9.offD hk (by omega),h.ba.offD hk (by omega),h.bb.set_ 0 v,h.gr.offD hk (fun k e=>by have :=h.gr.own k e;omega) (fun b hb=>by have :=hb.1.2;omega),hk.ext h.ext (fun k e=>by omega),low⟩
theorem Aside.store (h:Aside F w z u9 W C l) (v:Value):Aside F w z u9 (W.setCell ⟨z+3,0,none⟩ v) C l:=by
 have hk:Off (fun b=>b=z+3) W (W.setCell ⟨z+3,0,none⟩ v):=(Off.refl (fun b=>b=z+3) W).cell ⟨z+3,0,none⟩ (.inl rfl) v
 exact ⟨h.1.offD hk (fun h0 ad e=>by have :=(h.2 h0 ad e).1.2;omega) (fun b hb=>by have :=hb.1.1.2;omega),fun h0 ad e=>⟨(h.2 h0 ad e).1,(h.2 h0 ad e).2.1,by simpa using (h.2 h0 ad e).2.2⟩⟩
end
section
variable (F:Nat→Prop) (w:World) (z:Nat) (A:Option Addr) (n cA:Nat) (m:Nat) (a b:List Qp)
def Between (k:Nat) (W:World):Prop:=
 ∃ (bk outs:List Qp) (u9:Value) (B:Option Addr) (cB:Nat) (A8:Option Addr) (c8:Nat),Mer a b k bk outs∧Boxes F w z (.slice A n cA) (.slice A8 m c8) u9 (.slice B m cB) outs W ∧
  Aside F w z u9 W B bk∧Aside F w z u9 W A8 bk∧(B=none→cB=0)∧(A8=none→c8=0)
def Asked (k:Nat) (x:Value × Value × Nat) (W:World):Prop:=
 ∃ (bk outs:List Qp) (u8 u9:Value) (B:Option Addr) (cB:Nat) (xk:Qp) (P:Pv) (B':Option Addr) (m' c':Nat) (j:Int) (ok:Bool),Mer a b k bk outs∧Boxes F w z (.slice A n cA) u8 u9 (.slice B m cB) outs W ∧
  a[k]?=some xk∧xk.Fits∧x.1=.int .i64 k∧x.2.1=.agg (rowCells P B' m' c' j ok)∧Blk W x.2.2 74 (rowCells P B' m' c' j ok)∧NoBox w.heap.size z x.2.2∧some x.2.2≠u9.ownBlock ∧
  ((∃ r,Sq.carried xk bk=.ok r∧ok=true∧m'=m∧j=0∧Is W (fun b=>Ours F w z b∧some b≠u9.ownBlock) P r.1∧Aside F w z u9 W B' r.2∧(B'=none→c'=0))∨∃ i:Nat,Sq.carried xk bk=.error i∧ok=false∧j=i)
def Gone (k:Nat) (x:Value × Value × Nat) (W:World):Prop:=
 ∃ (bk outs:List Qp) (u9:Value) (B:Option Addr) (cB:Nat) (B':Option Addr) (c':Nat) (P:Pv),Mer a b (k+1) bk outs∧Boxes F w z (.slice A n cA) (.slice B' m c') u9 (.slice B m cB) outs W ∧
  Aside F w z u9 W B' bk∧(B'=none→c'=0)∧Blk W x.2.2 74 (rowCells P B' m c' 0 true)∧NoBox w.heap.size z x.2.2
def Broke (W:World):Prop:=
 ∃ i j:Nat,Sq.merge a b=.error (i,j)∧Blk W w.heap.size 22 #[.slice none 0 0]∧Blk W (w.heap.size+1) 22 #[.slice none 0 0]∧Blk W (w.heap.size+2) 50 #[.int .i64 i,.int .i64 j]∧Blk W (w.heap.size+3) 4 #[.bool false]∧Ext w W
end
section
variable {F:Nat→Prop} {w:World} {z:Nat} {A:Option Addr} {n cA:Nat} {m:Nat} {a b:List Qp}
theorem Between.steady {B:Nat} (hB:w.heap.size≤B) (k:Nat):Steady B (Between F w z A n cA m a b k):=fun W W' row h hg hr=>by
 have ht:Turned W W':=⟨row,hg,fun r e=>(hr r e).2⟩
 obtain ⟨bk,outs,u9,B,cB,A8,c8,h1,h2,h3,h4,h5⟩:=h
 exact ⟨bk,outs,u9,B,cB,A8,c8,h1,Boxes.steady hB W W' row h2 hg hr,h3.turned ht,h4.turned ht,h5⟩
theorem Asked.steady {B:Nat} (hB:w.heap.size≤B) (k:Nat) (x:Value × Value × Nat):Steady B (Asked F w z A n cA m a b k x):=fun W W' row h hg hr=>by
 have ht:Turned W W':=⟨row,hg,fun r e=>(hr r e).2⟩
 obtain ⟨bk,outs,u8,u9,B,cB,xk,P,B',m',c',j,ok,h1,h2,h3,h4,h5,h6,h7,h8,h9,h10⟩:=h
 refine ⟨bk,outs,u8,u9,B,cB,xk,P,B',m',c',j,ok,h1,Boxes.steady hB W W' row h2 hg hr,h3,h4,h5,h6,h7.turned ht,h8,h9,?_⟩
 rcases h10 with ⟨r,g1,g2,g3,g4,g5,g6,g7⟩ | h
 ·exact .inl ⟨r,g1,g2,g3,g4,g5.turned ht,g6.turned ht,g7⟩
 ·exact .inr h
theorem Asked.ext {k:Nat} {x:Value × Value × Nat} {W W':World} (h:Asked F w z A n cA m a b k x W) (hx:Ext W W'):Asked F w z A n cA m a b k x W':=by
 obtain ⟨bk,outs,u8,u9,B,cB,xk,P,B',m',c',j,ok,h1,h2,h3,h4,h5,h6,h7,h8,h9,h10⟩:=h
 refine ⟨bk,outs,u8,u9,B,cB,xk,P,B',m',c',j,ok,h1,h2.into hx,h3,h4,h5,h6,h7.ext hx,h8,h9,?_⟩
 rcases h10 with ⟨r,g1,g2,g3,g4,g5,g6,g7⟩ | h
 ·exact .inl ⟨r,g1,g2,g3,g4,g5.ext hx,g6.ext hx,g7⟩
 ·exact .inr h
theorem Gone.steady {B:Nat} (hB:w.heap.size≤B) (k:Nat) (x:Value × Value × Nat):Steady B (Gone F w z A n cA m a b k x):=fun W W' row h hg hr=>by
 have ht:Turned W W':=⟨row,hg,fun r e=>(hr r e).2⟩
 obtain ⟨bk,outs,u9,B,cB,B',c',P,h1,h2,h3,h4,h5,h6⟩:=h
 exact ⟨bk,outs,u9,B,cB,B',c',P,h1,Boxes.steady hB W W' row h2 hg hr,h3.turned ht,h4,h5.turned ht,h6⟩
theorem Broke.steady {B:Nat} (hB:w.heap.size≤B):Steady B (Broke w a b):=fun W W' row h hg hr=>by
 have ht:Turned W W':=⟨row,hg,fun r e=>(hr r e).2⟩
 obtain ⟨i,j,h1,h2,h3,h4,h5,h6⟩:=h
 exact ⟨i,j,h1,h2.turned ht,h3.turned ht,h4.turned ht,h5.turned ht,Ext.steady w hB W W' row h6 hg hr⟩
theorem Gone.next {k:Nat} {x:Value × Value × Nat} {W:World} (h:Gone F w z A n cA m a b k x W):∃ (B':Option Addr) (c':Nat) (P:Pv) (B:Option Addr) (cB:Nat),
 Blk W x.2.2 74 (rowCells P B' m c' 0 true)∧Blk W (z+3) 22 #[.slice B m cB]∧Hid (Between F w z A n cA m a b (k+1) (W.setCell ⟨z+3,0,none⟩ (.slice B' m c'))):=by
 obtain ⟨bk,outs,u9,B,cB,B',c',P,h1,h2,h3,h4,h5,h6⟩:=h
 exact ⟨B',c',P,B,cB,h5,h2.bb,Lib.hid ⟨bk,outs,u9,B',c',B',c',h1,h2.store _,h3.store _,h3.store _,h4,h4⟩⟩
theorem Between.ask {k:Nat} {W:World} (hI:Between F w z A n cA m a b k W) (hg:Glob w) (hq:Qs w F A a) (hm:b.length=m) (hb:m≤100000000000) (hf:∀ q∈a,q.Fits) (hk:k < a.length):
 ∃ (ba oa:Nat) (p:Pv) (B:Option Addr) (cB:Nat),A=some ⟨ba,oa,none⟩∧W.rangeAt ba (oa+k * 12) (parr p).toList∧Blk W (z+3) 22 #[.slice B m cB]∧Blk W (z+2) 22 #[.slice A n cA] ∧
  Hid (∀ W1,Ext W W1→Calls Tryz.prog 62 #[p.v,.slice B m cB] W1 (fun e W2=>∃ (P:Pv) (B':Option Addr) (m' c':Nat) (j:Int) (ok:Bool),e=.returned (.agg (rowCells P B' m' c' j ok))∧Ext W1 W2 ∧
   Hid (Asked F w z A n cA m a b k (.int .i64 k,.agg (rowCells P B' m' c' j ok),W2.heap.size) (W2.alloc (.cells (rowCells P B' m' c' j ok) 74))))):=by
 obtain ⟨bk,outs,u9,B,cB,A8,c8,h1,h2,h3,h4,h5,h6⟩:=hI
 have e1:a[k]?=some (a[k]'hk):=List.getElem?_eq_getElem hk
 obtain ⟨ba,oa,p,hA,hbl,hc,hi⟩:=(hq.in.ext h2.ext).get e1
 have fx:=hf _ (List.mem_of_getElem? e1)
 generalize a[k]'hk=x at e1 hi fx
 refine ⟨ba,oa,p,B,cB,hA,hc,h2.bb,h2.ba,Lib.hid fun W1 hW=>?_⟩
 have low:=h2.low
 have hown:=h2.gr.own
 have hx1:Is W1 (fun b=>Ours F w z b∧some b≠u9.ownBlock) p x:=(hi.ext hW).mono fun b hb=>⟨⟨⟨.inl hb.2,.inl (by have :=hb.2;omega)⟩,.inl hb⟩,fun e=>by have :=(hown b e.symm).1;have:=hb.2;omega⟩
 refine (carried_any B m cB bk p x W1 (hg.ext (h2.ext.trans hW)) (h3.1.ext hW) (h1.2.1.trans hm) hx1 fx h1.2.2.1 hb).mono ?_
 rintro e W2 ⟨hcar,hx2⟩
 have z4:z+4≤W.heap.size:=by have :=h2.bb.lt;omega
 have hz1:=hW.size_le
 have fresh:∀ b,Fresh (fun b=>Ours F w z b∧some b≠u9.ownBlock) W1 b→Ours F w z b∧some b≠u9.ownBlock:=fun b hb=>by
  rcases hb with hb | hb
  ·exact hb.1
  ·have:=h2.ext.size_le
   exact ⟨⟨⟨.inr (by omega),.inr (by omega)⟩,.inr (by omega)⟩,fun e=>by have :=(hown b e.symm).2;omega⟩
 have hz2:=hx2.size_le
 have ywhere:NoBox w.heap.size z W2.heap.size∧some W2.heap.size≠u9.ownBlock:=⟨⟨.inr (by omega),.inr (by omega)⟩,fun e=>by have :=(hown _ e.symm).2;omega⟩
 have ha:Ext W2 (W2.alloc (.cells (rowCells (Qp.zero.pv none 0 none 0) none 0 0 0 false) 74)):=(Ext.refl _).alloc _
 cases hR:Sq.carried x bk with
 | ok r=>
   rw [hR] at hcar
   obtain ⟨P,B',c',rfl,hP,hL,hB⟩:=hcar
   have hl:r.2.length=m:=(Sq.carried_length hR).trans (h1.2.1.trans hm)
   rw [hl]
   refine ⟨P,B',m,c',0,true,rfl,hx2,Lib.hid ⟨bk,outs,_,u9,B,cB,x,P,B',m,c',0,true,h1,h2.into ((hW.trans hx2).trans ((Ext.refl _).alloc _)),e1,fx,rfl,rfl,Blk.new' rfl,ywhere.1,ywhere.2,.inl ⟨r,hR,rfl,rfl,rfl,(hP.out.mono fresh).ext ((Ext.refl _).alloc _),⟨(hL.out.mono fresh).ext ((Ext.refl _).alloc _),fun _ ad e=>?_⟩,hB.out.1⟩⟩⟩
   have:=hB.out.2 ad e
   exact ⟨⟨.inr (by omega),.inr (by omega)⟩,fun e=>by have :=(hown _ e.symm).2;omega,by simp;omega⟩
 | error i=>
   rw [hR] at hcar
   obtain rfl:=hcar
   exact ⟨_,_,_,_,_,_,rfl,hx2,Lib.hid ⟨bk,outs,_,u9,B,cB,x,_,_,_,_,_,_,h1,h2.into ((hW.trans hx2).trans ((Ext.refl _).alloc _)),e1,fx,rfl,rfl,Blk.new' rfl,ywhere.1,ywhere.2,.inr ⟨i,hR,rfl,rfl⟩⟩⟩
end
set_option maxHeartbeats 400000 in
theorem rows_same (A B:Option Addr) (n c m d:Nat) (w:World):
 Calls Tryz.prog 49 #[.slice A n c,.slice B m d] w fun e w'=>e=.returned (.func (.func 61) #[] #[.pointer (some ⟨w.heap.size,0,none⟩),.pointer (some ⟨w.heap.size+1,0,none⟩)])∧(w.alloc (.cells #[.slice A n c] 22)).alloc (.cells #[.slice B m d] 22)=w':=by
 go_enter Tryz.func49,Tryz.ntmps49
 go_wp2
 go_ret
 simp
set_option maxHeartbeats 8000000 in
set_option maxRecDepth 100000 in
theorem rows1_gives (n0:Nat) (hn0:3≤n0) (F:Nat→Prop) (w:World) (z:Nat) (A:Option Addr) (n cA m:Nat) (a b:List Qp) (hg:Glob w) (hq:Qs w F A a) (hn:a.length=n) (hm:b.length=m) (hbn:n≤100000000000) (hb:m≤100000000000) (hf:∀ q∈a,q.Fits):
 Rounds Tryz.prog n0 61 #[.pointer (some ⟨z+2,0,none⟩),.pointer (some ⟨z+3,0,none⟩)] (fun x:Value × Value × Nat=>#[x.1,x.2.1]) (Between F w z A n cA m a b) (Asked F w z A n cA m a b) (Gone F w z A n cA m a b) (Broke w a b) n:=by
 intro l T Tx W hT hTx hY h0 hT0
 have HASK:Hid (∀ k wr,Between F w z A n cA m a b k wr→k < n→_):=Lib.hid fun k wr hI hk=>hI.ask hg hq hm hb hf (by rw [hn];exact hk)
 have HY:=Lib.hid hY
 have HT:=Lib.hid hT
 have H0:=Lib.hid h0
 have HT0:=Lib.hid hT0
 obtain ⟨_,_,_,_,_,_,_,_,hbx,_⟩:=h0
 have hca:=hbx.ba.cell
 clear hY hT hq hn hm hf hbx hT0
 refine callsIn_of_wp Tryz.func61 rfl trivial ?_ rfl
 simp only [Tryz.ntmps61,List.size_toArray,List.length_cons,List.length_nil,Nat.reduceAdd,Nat.reduceSub,Array.replicate_succ,Array.replicate_zero,List.push_toArray,List.append_toArray,List.nil_append,List.cons_append]
 gi_wp2
 clear hca
 gi_loopw [9] (fun u9 wr=>∃ k:Nat,k≤n∧u9=.int .i64 k∧Hid (Between F w z A n cA m a b k wr)∧Hid (T wr)) (fun u9 wr=>n - (intOf u9).toNat)
 case atStart=>exact ⟨0,Nat.zero_le _,rfl,H0,HT0⟩
 case round=>
  clear H0 HT0
  obtain ⟨k,hk,rfl,HI,HTr⟩:=hrel
  by_cases hlt:k < n
  ·obtain ⟨ba,oa,p,B,cB,rfl,hc,hbb,hba,HC⟩:=HASK.out k wr HI.out hlt
   obtain ⟨q0,q1,q2,q3,q4,q5,q6,q7,q8,q9,q10,q11⟩:=cells12 hc
   have hcb:=hbb.cell
   have hlb:=hbb.lt
   clear hc hbb hba HASK
   gi_wp2_with fail
   clear q0 q1 q2 q3 q4 q5 q6 q7 q8 q9 q10 q11 hcb hlb
   refine ⟨trivial,fun _=>(by omega),?_⟩
   refine (callsIn_wide.2 (HC.out _ ((Ext.refl wr).alloc _))).mono ?_
   rintro e w2 ⟨P,B',m',c',j,ok,rfl,hx2,HAS⟩
   have hT3:=Lib.hid (HT.out wr (w2.alloc (.cells (rowCells P B' m' c' j ok) 74)) (Ext.keeps ((((Ext.refl wr).alloc _).trans hx2).alloc _)) HTr.out)
   obtain ⟨fn,tmps,assign,body,hy,hR⟩:=HY.out k _ _ HAS.out hT3.out
   have HR:=Lib.hid hR
   clear hR HAS HC hx2
   dsimp only at hy
   simp only [rowCells] at hy ⊢
   gi_wp2
   refine ⟨fun _=>(by omega),HR.out.mono ?_⟩
   rintro e W4 (⟨rfl,hG,hT4⟩ | ⟨rfl,hX4,hTx4⟩)
   ·obtain ⟨B2,c2,P2,B3,c3,hby,hbb,HN⟩:=hG.next
    have hcy:=hby.cell
    have hly:=hby.lt
    obtain ⟨hcb,hfb,hlb⟩:=hbb.all
    have HT4:=Lib.hid (HT.out _ (W4.setCell ⟨z+3,0,none⟩ (.slice B2 m c2)) (KeepsOthers.setCell _ _ _) hT4)
    clear hG hT4 hby hbb HR hT3
    simp only [rowCells] at hcy
    gi_wp2
    go_roundw
    case rel=>exact ⟨k+1,hlt,rfl,HN,HT4⟩
    case measure=>simp [intOf];omega
   ·have HE:=Lib.hid (⟨hX4,hTx4⟩:_∧_)
    clear hX4 hTx4 HR hT3
    gi_wp2
    refine bodyPost_ret (results_none rfl _ _ _) rfl ?_
    exact ⟨⟨_,rfl⟩,.inr HE.out⟩
  ·have hkn:k=n:=by omega
   subst hkn
   gi_wp2
   go_end0
   exact ⟨⟨_,rfl⟩,.inl ⟨HI.out,HTr.out⟩⟩
end Go.Proofs.YtlbhaimfjfdppaaGreatDoor
namespace Go.Proofs.YtlbhaimfjfdppaaGreatDoor
open Go Go.RowKit Go.Shelf
attribute [local go_sem] Oper.semAt_some
section
variable {P:Program} {Q:Exit→Act→World→Prop}
theorem wp_store_blk {op:Oper} {a:Act} {w:World} {K:Act→World→Prop} (ty:TypeId) (x y:Operand) (ho:op.op=.store ty x y) {g:Nat} {t:TypeId} {cs:Array Value} (hb:Blk w g t cs) (hx:a.eval x=.pointer (some ⟨g,0,none⟩)) (v:Value) (hy:a.eval y=v)
 (hsz:v.cells.size=cs.size) (hi:(P.info? ty).map (·.size)=some cs.size) (h1:v.cells.all (·.oneCell')=true) (h:K (a.put op.dst undef) (w.setCells g 0 v.cells.toList)):op.wp P a w K Q:=by
 have ht:=hb.there
 have hr:=run_storeCells_cells (P:=P) g 0 v.cells.toList 0 w (fun j hj=>by have :=(ht j (by rw [← hsz];simpa using hj)).1;simpa using this) (fun j hj=>by have :=(ht j (by rw [← hsz];simpa using hj)).2;simpa using this)
  (fun u hu=>(Array.all_eq_true_iff_forall_mem.1 h1) u (by simpa using hu))
 have hs:(storeVar ty ⟨g,0,none⟩ v).run P w=.ok () (w.setCells g 0 v.cells.toList):=by
  cases hq:P.info? ty with
  | none=>simp [hq] at hi
  | some i=>
    have hs:v.cells.size=i.size:=by simp [hq] at hi;omega
    simp only [Nat.add_zero] at hr
    simp [storeVar,sizeOf,typeInfo,hq,hs,hr]
 unfold Oper.wp execOp
 simp only [ho,hx,hy,Instr.storeAt,Instr.sureAddr,Sem.run_bind,Sem.run_pure,Result.andThen_ok,hs]
 exact h
end
theorem Blk.tag {w:World} {g:Nat} {t t':TypeId} {cs cs':Array Value} (h:Blk w g t cs) (k:Blk w g t' cs'):t=t':=by
 have h0:w.heap[g]?=some (.cells cs t (0,0)):=h
 have k0:w.heap[g]?=some (.cells cs' t' (0,0)):=k
 rw [h0] at k0
 have:=Option.some.inj k0
 simp only [Obj.cells.injEq] at this
 exact this.2.1
section
variable {F:Nat→Prop} {w W:World} {z:Nat} {va u8 u9 vb:Value} {outs:List Qp}
theorem Boxes.row (h:Boxes F w z va u8 u9 vb outs W) {g:Nat} {cs:Array Value} (hg:Blk W g 74 cs):(g≠w.heap.size∧g≠w.heap.size+1∧g≠w.heap.size+2∧g≠w.heap.size+3)∧(g≠z∧g≠z+1∧g≠z+2∧g≠z+3)∧some g≠u9.ownBlock:=by
 refine ⟨⟨?_,?_,?_,?_⟩,⟨?_,?_,?_,?_⟩,fun e=>?_⟩
 ·rintro rfl;exact absurd (hg.tag h.r0) (by decide)
 ·rintro rfl;exact absurd (hg.tag h.r1) (by decide)
 ·rintro rfl;exact absurd (hg.tag h.r2) (by decide)
 ·rintro rfl;exact absurd (hg.tag h.r3) (by decide)
 ·rintro rfl;exact absurd (hg.tag h.b8) (by decide)
 ·rintro rfl;exact absurd (hg.tag h.b9) (by decide)
 ·rintro rfl;exact absurd (hg.tag h.ba) (by decide)
 ·rintro rfl;exact absurd (hg.tag h.bb) (by decide)
 ·obtain ⟨ps,h1,h2,h3⟩:=h.gr
  rcases h2.2 with ⟨h4,_⟩ | ⟨g',cap,cur,h4,_,hb,_⟩
  ·rw [h4] at e
   cases e
  ·rw [h4] at e
   obtain rfl:g=g':=Option.some.inj e
   exact absurd (hg.tag (show Blk W g _ cur from hb)) (by decide)
theorem Boxes.round {A:Option Addr} {n cA m cB c':Nat} {B B':Option Addr} {k:Nat} {a b bk:List Qp} {x:Value × Value × Nat} {P:Pv} {r:Qp × List Qp} {cur:Array Value}
 (h:Boxes F w z (.slice A n cA) u8 u9 (.slice B m cB) outs W) (hm:Mer a b (k+1) r.2 (outs ++ [r.1])) (hB:Aside F w z u9 W B' r.2) (hn:B'=none→c'=0) (hy:Blk W x.2.2 74 (rowCells P B' m c' 0 true))
 {w6:World} {g2 cap:Nat} (hgr:Grows w6 (z+4) (Ours F w z) (.slice (some ⟨g2,0,none⟩) (outs.length+1) cap) (outs ++ [r.1])) (hgrow:(W.drew.alloc (.cells cur 42)).grownBy w6 u9.ownBlock) (hlie:u9.ownBlock=some g2∨g2=(W.drew.alloc (.cells cur 42)).heap.size):
 KeepsOthers W ((w6.setCell ⟨z,0,none⟩ (.slice B' m c')).setCell ⟨z+1,0,none⟩ (.slice (some ⟨g2,0,none⟩) (outs.length+1) cap)) ∧
 Gone F w z A n cA m a b k x ((w6.setCell ⟨z,0,none⟩ (.slice B' m c')).setCell ⟨z+1,0,none⟩ (.slice (some ⟨g2,0,none⟩) (outs.length+1) cap)):=by
 have low:=h.low
 have own:=h.gr.own
 have z4:z+4≤W.heap.size:=by have :=h.bb.lt;omega
 have x5:Ext W (W.drew.alloc (.cells cur 42)):=(Ext.refl W).drew1.alloc _
 have s5:(W.drew.alloc (.cells cur 42)).heap.size=W.heap.size+1:=by simp
 have o6:Off (fun b=>b=z∨b=z+1∨some b=u9.ownBlock) W w6:=(Off.of_ext _ x5).trans (Off.grown hgrow fun k e=>.inr (.inr e.symm))
 have o8:=(o6.cell ⟨z,0,none⟩ (.inl (.inl rfl)) (.slice B' m c')).cell ⟨z+1,0,none⟩ (.inl (.inr (.inl rfl))) (.slice (some ⟨g2,0,none⟩) (outs.length+1) cap)
 have o2:Off (fun b=>b=z∨b=z+1) w6 ((w6.setCell ⟨z,0,none⟩ (.slice B' m c')).setCell ⟨z+1,0,none⟩ (.slice (some ⟨g2,0,none⟩) (outs.length+1) cap)):=((Off.refl _ w6).cell ⟨z,0,none⟩ (.inl (.inl rfl)) _).cell ⟨z+1,0,none⟩ (.inl (.inr rfl)) _
 have nD:∀ g,g < z∨z+2≤g→g < z+4→¬ (g=z∨g=z+1∨some g=u9.ownBlock):=fun g h1 h2 h3=>by
  rcases h3 with h3 | h3 | h3
  ·omega
  ·omega
  ·have:=own g h3.symm;omega
 have b8:Blk w6 z 22 #[u8]:=(h.b8.ext x5).offD (Off.grown (D:=fun b=>some b=u9.ownBlock) hgrow fun k e=>e.symm) (fun e=>by have :=own z e.symm;omega)
 have b9:Blk w6 (z+1) 22 #[u9]:=(h.b9.ext x5).offD (Off.grown (D:=fun b=>some b=u9.ownBlock) hgrow fun k e=>e.symm) (fun e=>by have :=own (z+1) e.symm;omega)
 have hk:KeepsOthers W w6:=(Ext.keeps x5).trans (KeepsOthers.of_grownBy hgrow fun j o ej hj=>by
  obtain ⟨ps,h1,h2,h3⟩:=h.gr
  rcases h2.2 with ⟨h4,_⟩ | ⟨g',cap,cur',h4,_,hb,_⟩
  ·rw [h4] at ej;cases ej
  ·rw [h4] at ej
   obtain rfl:g'=j:=Option.some.inj ej
   have:(W.drew.alloc (.cells cur 42)).heap[g']?=some (.cells cur' 42 (0,0)):=Blk.ext x5 (show Blk W g' _ cur' from hb)
   rw [this] at hj
   cases hj
   rfl)
 have yy:=(h.row hy)
 have far2:∀ b,b < W.heap.size→some b≠u9.ownBlock→some b≠Value.ownBlock (.slice (some ⟨g2,0,none⟩) (outs.length+1) cap):=fun b h1 h2 e=>by
  have e':b=g2:=Option.some.inj e
  rcases hlie with h3 | h3
  ·exact h2 (by rw [h3,e'])
  ·omega
 refine ⟨(hk.trans (KeepsOthers.setCell _ _ _)).trans (KeepsOthers.setCell _ _ _),r.2,outs ++ [r.1],.slice (some ⟨g2,0,none⟩) (outs.length+1) cap,B,cB,B',c',P,hm,?_,?_,hn,hy.offD o8 (fun e=>?_),?_⟩
 ·refine ⟨h.r0.offD o8 (nD _ (by omega) (by omega)),h.r1.offD o8 (nD _ (by omega) (by omega)),h.r2.offD o8 (nD _ (by omega) (by omega)),h.r3.offD o8 (nD _ (by omega) (by omega)),Blk.far (b8.set_ 0 _) (by dsimp only;omega) _,Blk.set_ (b9.far (by dsimp only;omega) _) 0 _,h.ba.offD o8 (nD _ (by omega) (by omega)),h.bb.offD o8 (nD _ (by omega) (by omega)),hgr.offD o2 (fun k e=>by have :=hgr.own k e;omega) (fun b hb=>by have :=hb.1.2;omega),o8.ext h.ext (fun k e=>?_),low⟩
  have:=h.ext.size_le
  rcases e with e | e | e
  ·omega
  ·omega
  ·have:=own k e.symm;omega
 ·refine ⟨(hB.1.in.offD o8 (fun h0 ad e=>?_) (fun b hb=>?_)).mono (fun b hb=>⟨hb.1.1,far2 b hb.2 hb.1.2⟩),fun h0 ad e=>⟨(hB.2 h0 ad e).1,far2 _ (hB.2 h0 ad e).2.2 (hB.2 h0 ad e).2.1,Nat.lt_of_lt_of_le (hB.2 h0 ad e).2.2 o8.size⟩⟩
  ·have:=(hB.2 h0 ad e).1.2
   intro h3
   rcases h3 with h3 | h3 | h3
   ·omega
   ·omega
   ·exact (hB.2 h0 ad e).2.1 h3
  ·have:=hb.1.1.1.2
   intro h3
   rcases h3 with h3 | h3 | h3
   ·omega
   ·omega
   ·exact hb.1.2 h3
 ·rcases e with e | e | e
  ·exact yy.2.1.1 e
  ·exact yy.2.1.2.1 e
  ·exact yy.2.2 e
 ·have:=yy.1
  have:=yy.2.1
  unfold NoBox
  omega
end
theorem Boxes.broken {F:Nat→Prop} {w W:World} {z:Nat} {va u8 u9 vb:Value} {outs a b:List Qp} {k i:Nat} (h:Boxes F w z va u8 u9 vb outs W) (hm:Sq.merge a b=.error (k,i)):
 KeepsOthers W (((((W.drew.setCell ⟨w.heap.size,0,none⟩ (.slice none 0 0)).setCell ⟨w.heap.size+1,0,none⟩ (.slice none 0 0)).setCell ⟨w.heap.size+2,0,none⟩ (.int .i64 k)).setCell ⟨w.heap.size+2,1,none⟩ (.int .i64 i)).setCell ⟨w.heap.size+3,0,none⟩ (.bool false)) ∧
 Broke w a b (((((W.drew.setCell ⟨w.heap.size,0,none⟩ (.slice none 0 0)).setCell ⟨w.heap.size+1,0,none⟩ (.slice none 0 0)).setCell ⟨w.heap.size+2,0,none⟩ (.int .i64 k)).setCell ⟨w.heap.size+2,1,none⟩ (.int .i64 i)).setCell ⟨w.heap.size+3,0,none⟩ (.bool false)):=by
 refine ⟨(((((KeepsOthers.drew W).trans (KeepsOthers.setCell _ _ _)).trans (KeepsOthers.setCell _ _ _)).trans (KeepsOthers.setCell _ _ _)).trans (KeepsOthers.setCell _ _ _)).trans (KeepsOthers.setCell _ _ _),k,i,hm,?_,?_,?_,?_,?_⟩
 ·exact ((((h.r0.drew.set_ 0 _).far (by dsimp only;omega) _).far (by dsimp only;omega) _).far (by dsimp only;omega) _).far (by dsimp only;omega) _
 ·exact ((((h.r1.drew.far (by dsimp only;omega) _).set_ 0 _).far (by dsimp only;omega) _).far (by dsimp only;omega) _).far (by dsimp only;omega) _
 ·exact ((((h.r2.drew.far (by dsimp only;omega) _).far (by dsimp only;omega) _).set_ 0 _).set_ 1 _).far (by dsimp only;omega) _
 ·exact ((((h.r3.drew.far (by dsimp only;omega) _).far (by dsimp only;omega) _).far (by dsimp only;omega) _).far (by dsimp only;omega) _).set_ 0 _
 ·exact ((((h.ext.drew1.setCell (by dsimp only;omega) _).setCell (by dsimp only;omega) _).setCell (by dsimp only;omega) _).setCell (by dsimp only;omega) _).setCell (by dsimp only;omega) _
theorem Boxes.done {F:Nat→Prop} {w W:World} {z D:Nat} {va vb:Value} {outs bk:List Qp} {A9 A2:Option Addr} {m c9 c2:Nat} (h:Boxes F w z va (.slice A9 m c9) (.slice A2 outs.length c2) vb outs W) (h8:Aside F w z (.slice A2 outs.length c2) W A9 bk)
 (hD:w.heap.size≤D) (hK:W.heap[D]?=some (.deferred (some []))):
 (((((W.drew.setCells w.heap.size 0 [.slice A9 m c9]).setCells (w.heap.size+1) 0 [.slice A2 outs.length c2]).setCells (w.heap.size+2) 0 [.int .i64 0,.int .i64 0]).setCells (w.heap.size+3) 0 [.bool true])).heap[D]?=some (.deferred (some [])) ∧
 (∀ i,((((((W.drew.setCells w.heap.size 0 [.slice A9 m c9]).setCells (w.heap.size+1) 0 [.slice A2 outs.length c2]).setCells (w.heap.size+2) 0 [.int .i64 0,.int .i64 0]).setCells (w.heap.size+3) 0 [.bool true])).putObj D (.deferred none)).cell? ⟨w.heap.size,i,none⟩=(#[.slice A9 m c9]:Array Value)[i]?) ∧
 (∀ i,((((((W.drew.setCells w.heap.size 0 [.slice A9 m c9]).setCells (w.heap.size+1) 0 [.slice A2 outs.length c2]).setCells (w.heap.size+2) 0 [.int .i64 0,.int .i64 0]).setCells (w.heap.size+3) 0 [.bool true])).putObj D (.deferred none)).cell? ⟨w.heap.size+1,i,none⟩=(#[.slice A2 outs.length c2]:Array Value)[i]?) ∧
 (∀ i,((((((W.drew.setCells w.heap.size 0 [.slice A9 m c9]).setCells (w.heap.size+1) 0 [.slice A2 outs.length c2]).setCells (w.heap.size+2) 0 [.int .i64 0,.int .i64 0]).setCells (w.heap.size+3) 0 [.bool true])).putObj D (.deferred none)).cell? ⟨w.heap.size+1+1,i,none⟩=(#[.int .i64 0,.int .i64 0]:Array Value)[i]?) ∧
 (∀ i,((((((W.drew.setCells w.heap.size 0 [.slice A9 m c9]).setCells (w.heap.size+1) 0 [.slice A2 outs.length c2]).setCells (w.heap.size+2) 0 [.int .i64 0,.int .i64 0]).setCells (w.heap.size+3) 0 [.bool true])).putObj D (.deferred none)).cell? ⟨w.heap.size+1+1+1,i,none⟩=(#[.bool true]:Array Value)[i]?) ∧
 Qs ((((((W.drew.setCells w.heap.size 0 [.slice A9 m c9]).setCells (w.heap.size+1) 0 [.slice A2 outs.length c2]).setCells (w.heap.size+2) 0 [.int .i64 0,.int .i64 0]).setCells (w.heap.size+3) 0 [.bool true])).putObj D (.deferred none)) (Fresh F w) A9 bk∧Qs ((((((W.drew.setCells w.heap.size 0 [.slice A9 m c9]).setCells (w.heap.size+1) 0 [.slice A2 outs.length c2]).setCells (w.heap.size+2) 0 [.int .i64 0,.int .i64 0]).setCells (w.heap.size+3) 0 [.bool true])).putObj D (.deferred none)) (Fresh F w) A2 outs∧Ext w ((((((W.drew.setCells w.heap.size 0 [.slice A9 m c9]).setCells (w.heap.size+1) 0 [.slice A2 outs.length c2]).setCells (w.heap.size+2) 0 [.int .i64 0,.int .i64 0]).setCells (w.heap.size+3) 0 [.bool true])).putObj D (.deferred none)):=by
 have o9:Off (fun b=>w.heap.size≤b∧b < w.heap.size+4) W (((((W.drew.setCells w.heap.size 0 [.slice A9 m c9]).setCells (w.heap.size+1) 0 [.slice A2 outs.length c2]).setCells (w.heap.size+2) 0 [.int .i64 0,.int .i64 0]).setCells (w.heap.size+3) 0 [.bool true])):=(((((Off.refl _ W).drew.cell ⟨w.heap.size,0,none⟩ (.inl (by dsimp only;omega)) _).cell ⟨w.heap.size+1,0,none⟩ (.inl (by dsimp only;omega)) _).cell ⟨w.heap.size+2,0,none⟩ (.inl (by dsimp only;omega)) _).cell ⟨w.heap.size+2,1,none⟩ (.inl (by dsimp only;omega)) _).cell ⟨w.heap.size+3,0,none⟩ (.inl (by dsimp only;omega)) _
 have k9:KeepsOthers W (((((W.drew.setCells w.heap.size 0 [.slice A9 m c9]).setCells (w.heap.size+1) 0 [.slice A2 outs.length c2]).setCells (w.heap.size+2) 0 [.int .i64 0,.int .i64 0]).setCells (w.heap.size+3) 0 [.bool true])):=(((((KeepsOthers.drew W).trans (KeepsOthers.setCell _ ⟨w.heap.size,0,none⟩ (.slice A9 m c9))).trans (KeepsOthers.setCell _ ⟨w.heap.size+1,0,none⟩ (.slice A2 outs.length c2))).trans (KeepsOthers.setCell _ ⟨w.heap.size+2,0,none⟩ (.int .i64 0))).trans (KeepsOthers.setCell _ ⟨w.heap.size+2,1,none⟩ (.int .i64 0))).trans (KeepsOthers.setCell _ ⟨w.heap.size+3,0,none⟩ (.bool true))
 have hK9:=k9.same _ _ hK rfl
 have ht:Turned (((((W.drew.setCells w.heap.size 0 [.slice A9 m c9]).setCells (w.heap.size+1) 0 [.slice A2 outs.length c2]).setCells (w.heap.size+2) 0 [.int .i64 0,.int .i64 0]).setCells (w.heap.size+3) 0 [.bool true])) ((((((W.drew.setCells w.heap.size 0 [.slice A9 m c9]).setCells (w.heap.size+1) 0 [.slice A2 outs.length c2]).setCells (w.heap.size+2) 0 [.int .i64 0,.int .i64 0]).setCells (w.heap.size+3) 0 [.bool true])).putObj D (.deferred none)):=⟨some D,grownBy_putObj' _ D _,fun r e=>by cases e;exact ⟨_,hK9,rfl⟩⟩
 have x9:Ext w (((((W.drew.setCells w.heap.size 0 [.slice A9 m c9]).setCells (w.heap.size+1) 0 [.slice A2 outs.length c2]).setCells (w.heap.size+2) 0 [.int .i64 0,.int .i64 0]).setCells (w.heap.size+3) 0 [.bool true])):=o9.ext h.ext (fun k e=>e.1)
 obtain ⟨A2',c2',e,hq2,_,_⟩:=h.gr.qs
 have hA:A2=A2':=by simp at e;exact e.1
 subst hA
 have own:=h.gr.own
 have low:=h.low
 refine ⟨hK9,Blk.cell (t:=22) (Blk.turned ?_ ht),Blk.cell (t:=22) (Blk.turned ?_ ht),Blk.cell (t:=50) (Blk.turned ?_ ht),Blk.cell (t:=4) (Blk.turned ?_ ht),?_,?_,x9.putObj hD _⟩
 ·exact Blk.farAll (w:=W) (by omega) _ _ _ (Blk.farAll (w:=W) (by omega) _ _ _ (Blk.farAll (w:=W) (by omega) _ _ _ (Blk.whole (vs:=(#[.slice A9 m c9]:Array Value)) (h.r0.drew) rfl)))
 ·exact Blk.farAll (w:=W) (by omega) _ _ _ (Blk.farAll (w:=W) (by omega) _ _ _ (Blk.whole (vs:=(#[.slice A2 outs.length c2]:Array Value)) (Blk.farAll (w:=W) (by omega) _ _ _ (h.r1.drew)) rfl))
 ·exact Blk.farAll (w:=W) (by omega) _ _ _ (Blk.whole (vs:=(#[.int .i64 0,.int .i64 0]:Array Value)) (Blk.farAll (w:=W) (by omega) _ _ _ (Blk.farAll (w:=W) (by omega) _ _ _ (h.r2.drew))) rfl)
 ·exact Blk.whole (vs:=(#[.bool true]:Array Value)) (Blk.farAll (w:=W) (by omega) _ _ _ (Blk.farAll (w:=W) (by omega) _ _ _ (Blk.farAll (w:=W) (by omega) _ _ _ (h.r3.drew)))) rfl
 ·exact ((h8.1.offD o9 (fun h0 ad e=>by have :=(h8.2 h0 ad e).1.1;omega) (fun b hb=>by have :=hb.1.1.1;omega)).turned ht).mono fun b hb=>hb.1.2
 ·exact ((hq2.offD o9 (fun h0 ad e=>by have :=own ad.block (by rw [e];rfl);omega) (fun b hb=>by have :=hb.1.1.1;omega)).turned ht).mono fun b hb=>hb.1.2
theorem row_front (P:Pv) (B:Option Addr) (n c:Nat) (i:Int) (ok:Bool):∀ j,j < (parr P).toList.length→(rowCells P B n c i ok)[0+j]?=(parr P).toList[j]?:=fun j hj=>by
 have h:j < 12:=hj
 match j,h with
 | 0,_ | 1,_ | 2,_ | 3,_ | 4,_ | 5,_ | 6,_ | 7,_ | 8,_ | 9,_ | 10,_ | 11,_=>rfl
def Merged (F:Nat→Prop) (R:Except (Nat × Nat) (List Qp × List Qp)) (w:World) (e:Ending) (w':World):Prop:=
 (match R with
   | .ok t=>∃ A1 c1 A2 c2,e=.returned (.tuple #[.slice A1 t.1.length c1,.slice A2 t.2.length c2,.agg #[.int .i64 0,.int .i64 0],.bool true])∧Hid (Qs w' (Fresh F w) A1 t.1∧Qs w' (Fresh F w) A2 t.2∧(A1=none→c1=0)∧(A2=none→c2=0))
   | .error p=>e=.returned (.tuple #[.slice none 0 0,.slice none 0 0,.agg #[.int .i64 p.1,.int .i64 p.2],.bool false]))∧Ext w w'
set_option maxHeartbeats 16000000 in
set_option maxRecDepth 100000 in
theorem seqmerge_in (n0:Nat) (hn0:9≤n0) (A B:Option Addr) (n cA m cB:Nat) (a b:List Qp) (w:World) (hg:Glob w) {F:Nat→Prop} (ha:Qs w F A a) (hb:Qs w F B b) (hn:a.length=n) (hm:b.length=m) (hB:B=none→m=0∧cB=0)
 (b1:n≤100000000000) (b2:m≤100000000000) (fa:∀ q∈a,q.Fits) (fb:∀ q∈b,q.Fits):
 CallsIn Fence.wide n0 Tryz.prog 31 #[.slice A n cA,.slice B m cB] w (Merged F (Sq.merge a b) w):=by
 have HCL:=Lib.hid (fun W (hW:Ext w W)=>pclone_any B m cB b W (hb.in.ext hW) hm hB b2)
 have HGV:=Lib.hid (fun n1 (h1:3≤n1) z=>rows1_gives n1 h1 F w z A n cA m a b hg ha hn hm b1 b2 fa)
 have HM:=Lib.hid (Mer.start a fb)
 have HN:=Lib.hid hn
 have HQB:=Lib.hid hb.in
 have HLB:Hid (0 < b.length→∀ ad,B=some ad→ad.block < w.heap.size):=Lib.hid fun h0 ad e=>by
  obtain ⟨ps,h1,h2,h3⟩:=hb
  obtain ⟨g,o,e',hl,_⟩:=h2 (by omega)
  rw [e] at e'
  obtain rfl:=Option.some.inj e'
  exact hl
 have HBn:Hid (B=none→cB=0):=Lib.hid fun e=>(hB e).2
 have HMB:=Lib.hid hm
 clear ha hb hn hm hB fa fb
 refine callsIn_of_wp_marks Tryz.func31 rfl trivial ?_ rfl
 simp only [Tryz.ntmps31,List.size_toArray,List.length_cons,List.length_nil,Nat.reduceAdd,Nat.reduceSub,Array.replicate_succ,Array.replicate_zero,List.push_toArray,List.append_toArray,List.nil_append,List.cons_append]
 gi_wp2_with fail
 refine ⟨trivial,fun _=>(by omega),?_⟩
 refine (callsIn_wide.2 (HCL.out _ (by repeat (first | with_reducible exact Ext.refl _ | with_reducible refine Ext.alloc ?_ _)))).mono ?_
 rintro e w1 ⟨A8,c8,rfl,hqs,hnone,hloc,hx0⟩
 have hs1:w.heap.size+4≤w1.heap.size:=by have :=hx0.size_le;simp at this;omega
 have r0:Blk w1 w.heap.size 22 #[.slice none 0 0]:=Blk.ext hx0 (Blk.alloc (Blk.alloc (Blk.alloc (Blk.new' rfl) _) _) _)
 have r1:Blk w1 (w.heap.size+1) 22 #[.slice none 0 0]:=Blk.ext hx0 (Blk.alloc (Blk.alloc (Blk.new' (by simp)) _) _)
 have r2:Blk w1 (w.heap.size+2) 50 #[.int .i64 0,.int .i64 0]:=Blk.ext hx0 (Blk.alloc (Blk.new' (by simp)) _)
 have r3:Blk w1 (w.heap.size+3) 4 #[.bool false]:=Blk.ext hx0 (Blk.new' (by simp))
 have hx1:=Ext.trans (a:=w) (by repeat (first | with_reducible exact Ext.refl _ | with_reducible refine Ext.alloc ?_ _)) hx0
 have HQ8:Hid (Qs w1 (fun b=>F b∧b < w.heap.size) A8 b):=Lib.hid (hqs.out.mono fun b hb=>hb.1)
 have HL8:Hid (∀ ad,A8=some ad→w.heap.size+4≤ad.block∧ad.block < w1.heap.size):=Lib.hid fun ad e=>by have :=hloc ad e;simp at this;omega
 have HX1:=Lib.hid hx1
 have HN8:=Lib.hid hnone
 have HR:=Lib.hid (⟨r0,r1,r2,r3⟩:_∧_∧_∧_)
 clear hqs hloc hx0 hx1 hnone r0 r1 r2 r3 HCL
 gi_wp2_with (refine ⟨trivial,fun _=>(by omega),?_⟩;gi_at_call 49;refine (callsIn_wide.2 (rows_same _ _ _ _ _ _ _)).mono ?_;rintro e w1 ⟨rfl,hww⟩;first | obtain rfl:=hww.symm | obtain rfl:=hww)
 have HB0:Hid (Between F w w1.heap.size A n cA m a b 0 ((((w1.alloc (.cells #[.slice A8 m c8] 22)).alloc (.cells #[.slice none 0 0] 22)).alloc (.cells #[.slice A n cA] 22)).alloc (.cells #[.slice B m cB] 22))):=Lib.hid (by
  have x4:Ext w1 ((((w1.alloc (.cells #[.slice A8 m c8] 22)).alloc (.cells #[.slice none 0 0] 22)).alloc (.cells #[.slice A n cA] 22)).alloc (.cells #[.slice B m cB] 22)):=((((Ext.refl w1).alloc _).alloc _).alloc _).alloc _
  have nown:∀ b,some b≠Value.ownBlock (.slice none 0 0):=fun b e=>nomatch e
  have hF:∀ b,F b∧b < w.heap.size→Ours F w w1.heap.size b∧some b≠Value.ownBlock (.slice none 0 0):=fun b hb=>⟨⟨⟨.inl hb.2,.inl (by have :=hb.2;omega)⟩,.inl hb⟩,nown b⟩
  refine ⟨b,[],.slice none 0 0,B,cB,A8,c8,HM.out,⟨HR.out.1.ext x4,HR.out.2.1.ext x4,HR.out.2.2.1.ext x4,HR.out.2.2.2.ext x4,Blk.alloc (Blk.alloc (Blk.alloc (Blk.new' rfl) _) _) _,Blk.alloc (Blk.alloc (Blk.new' (by simp)) _) _,Blk.alloc (Blk.new' (by simp)) _,Blk.new' (by simp),Grows.nil _ _ _,HX1.out.trans x4,hs1⟩,⟨(HQB.out.ext (HX1.out.trans x4)).mono hF,fun h0 ad e=>?_⟩,⟨(HQ8.out.ext x4).mono hF,fun h0 ad e=>?_⟩,HBn.out,HN8.out⟩
  ·have:=HLB.out h0 ad e
   exact ⟨⟨.inl this,.inl (by omega)⟩,nown _,by simp;omega⟩
  ·have:=HL8.out ad e
   exact ⟨⟨.inr (by omega),.inl (by omega)⟩,nown _,by simp;omega⟩)
 refine wpIn_range_leave (gf:=61) (lb:=#[.pointer (some ⟨w1.heap.size+1+1,0,none⟩),.pointer (some ⟨w1.heap.size+1+1+1,0,none⟩)]) rfl (enters_of Tryz.func61 (by kernel_rfl) rfl) (encs:=fun x:Value × Value × Nat=>#[x.1,x.2.1]) (HGV.out (n0 - 1) (by omega) w1.heap.size) (fun _=>rfl)
  (fun k x a' W=>∃ g cs,x.1=.int .i64 k∧x.2.1=.agg cs∧Blk W g 74 cs∧Asked F w w1.heap.size A n cA m a b k x W∧a'={ tmps:=#[Value.slice A n cA,Value.slice B m cB,undef,undef,.pointer (some ⟨w.heap.size,0,none⟩),.pointer (some ⟨w.heap.size+1,0,none⟩),.pointer (some ⟨w.heap.size+1+1,0,none⟩),.pointer (some ⟨w.heap.size+1+1+1,0,none⟩),.pointer (some ⟨w1.heap.size,0,none⟩),.pointer (some ⟨w1.heap.size+1,0,none⟩),.int .i64 k,.pointer (some ⟨g,0,none⟩),.slice B m cB,.slice A8 m c8,.slice A n cA,.slice B m cB,.func (.func 61) #[] #[.pointer (some ⟨w1.heap.size+1+1,0,none⟩),.pointer (some ⟨w1.heap.size+1+1+1,0,none⟩)],x.1,x.2.1,undef,undef,undef,undef,undef,undef,undef,undef,undef,undef,undef,undef,undef,undef,undef,undef,undef],defers:=[] })
  (fun k=>Between.steady (by simp;omega) k) ?stA (fun k x=>Gone.steady (by simp;omega) k x) (Broke.steady (by simp;omega)) HB0.out ?assign ?body ?done ?stop
 case stA=>
  intro k x a' W W' row h hg hr
  obtain ⟨g,cs,h1,h2,h3,h4,h5⟩:=h
  exact ⟨g,cs,h1,h2,h3.turned ⟨row,hg,fun r e=>(hr r e).2⟩,Asked.steady (by simp;omega) k x W W' row h4 hg hr,h5⟩
 case assign=>
  intro l k x W K hA hK
  obtain ⟨x1,x2,y⟩:=x
  have HA:=Lib.hid hA
  obtain ⟨bk,outs,u8,u9,B1,c1,xk,P,B',m',c',j,ok,h1,h2,h3,h4,h5,h6,h7⟩:=hA
  dsimp only at h5 h6
  subst h5
  subst h6
  have HK:=Lib.hid hK
  clear h1 h2 h3 h4 h7 hK
  simp only [rowCells] at HK HA ⊢
  gi_wp2
  exact HK.out _ _ ((Ext.refl W).alloc _).keeps ⟨W.heap.size,_,(by first | exact True.intro | rfl),rfl,Blk.new' rfl,HA.out.ext ((Ext.refl W).alloc _),rfl⟩
 case body=>
  rintro l k ⟨x1,x2,y⟩ a' W ⟨g,cs,h1,h2,hgb,hA,rfl⟩
  dsimp only at h1 h2
  subst h1
  subst h2
  obtain ⟨bk,outs,u8,u9,B1,c1,xk,P,B',m',c',j,ok,hm,hbx,hk,fx,_,hcs,hyb,hny,hoy,hor⟩:=hA
  dsimp only at hcs hyb hny hoy
  injection hcs with hcs
  subst hcs
  clear HGV HM HR HQ8 HL8 HB0 HQB HLB
  have hcg:=hgb.cell
  rcases hor with ⟨r,hc,rfl,rfl,rfl,hP,hB,hn'⟩ | ⟨i,hc,rfl,rfl⟩
  ·have HROUND:=Lib.hid (fun cur w6 g2 cap hgr hgrow hlie=>hbx.round (bk:=bk) (x:=(.int .i64 k,.agg (rowCells P B' m' c' 0 true),y)) (cur:=cur) (w6:=w6) (g2:=g2) (cap:=cap) (hm.step hk fx hc) hB hn' hyb hgr hgrow hlie)
   have HBX:=Lib.hid hbx
   have HGB:=Lib.hid hgb
   have HP:=Lib.hid hP
   have hrow:=hbx.row hgb
   have HNE:Hid (g≠w1.heap.size∧g≠w1.heap.size+1):=Lib.hid ⟨hrow.2.1.1,hrow.2.1.2.1⟩
   have HLEN:Hid (outs.length+1≤800000000000):=Lib.hid (by have :=(List.getElem?_eq_some_iff.1 hk).1;have:=HN.out;have:=hm.1;omega)
   have HZ4:Hid (w1.heap.size+4≤W.heap.size):=Lib.hid (by have :=hbx.bb.lt;omega)
   have H8:Hid (∀ w6,(W.drew.alloc (.cells (parr P) 42)).grownBy w6 u9.ownBlock→Blk w6 w1.heap.size 22 #[u8]∧Blk w6 (w1.heap.size+1) 22 #[u9]∧Blk w6 g 74 (rowCells P B' m' c' 0 true)):=Lib.hid fun w6 hgrow=>by
    have x5:Ext W (W.drew.alloc (.cells (parr P) 42)):=(Ext.refl W).drew1.alloc _
    have o6:=Off.grown (D:=fun b=>some b=u9.ownBlock) hgrow fun k e=>e.symm
    exact ⟨(hbx.b8.ext x5).offD o6 (fun e=>by have :=hbx.gr.own _ e.symm;omega),(hbx.b9.ext x5).offD o6 (fun e=>by have :=hbx.gr.own _ e.symm;omega),(hgb.ext x5).offD o6 hrow.2.2⟩
   clear hm hbx hk fx hyb hny hoy hc hP hB hn' hgb hrow
   simp only [rowCells] at hcg
   gi_wp2_with fail
   clear hcg
   refine wpIn_region_held (S:=fun W'=>Blk W' g 74 (rowCells P B' m' c' 0 true)) (by kernel_rfl) (noDefer_spec (by kernel_rfl)) (fun h=>by obtain ⟨_,_,h⟩:=h;exact h) HGB.out (fun hS=>?_)
   have hc9:=HBX.out.b9.cell
   have hl9:=HBX.out.b9.lt
   have hS0:=HGB.out
   refine tf (i:=0) (v:=.pointer (some ⟨g,12,none⟩)) rfl rfl (fun _=>rfl) hS ?_
   try simp only [Act.put,sA,s0,sS]
   refine take_any (i:=1) (v:=.slice B' m' c') rfl rfl (by kernel_rfl) (by kernel_rfl) (by kernel_rfl) (.inl ⟨(by kernel_rfl),fun W' hW'=>?ld⟩) hS ?_
   case ld=>
    have hcx:=hW'.cell
    simp only [rowCells] at hcx
    go_simp
   try simp only [Act.put,sA,s0,sS]
   refine tf (i:=3) (v:=.pointer (some ⟨g,0,none⟩)) rfl rfl (fun _=>rfl) hS ?_
   try simp only [Act.put,sA,s0,sS]
   refine tl (i:=4) (parr P).toList rfl rfl rfl rfl rfl Tryz.underlying42 rfl (fun _ h=>h.range 0 _ (row_front P B' m' c' 0 true)) hS ?_
   try simp only [Act.put,sA,s0,sS]
   refine wpAnyH_ready (rs:=[2,5]) (by kernel_rfl) (by simp) ?_
   refine (AllReadyH.cons rfl (fun K hK=>?_) (AllReadyH.cons rfl (fun K hK=>?_) AllReadyH.nil))
   ·go_simp
    refine hK.out _ _ hS (fun _=>?_)
    clear hK
    try simp only [Act.put,sA,s0,sS]
    refine wpAnyH_one (i:=5) (by kernel_rfl) rfl (by kernel_rfl) ?_
    go_simp
    refine ⟨Blk.alloc hS _,?_⟩
    try simp only [Act.put,sA,s0,sS]
    refine wpAnyH_one (i:=6) (by kernel_rfl) rfl (by kernel_rfl) ?_
    refine wp_grow (W.drew.alloc (.cells (parr P) 42)) _ _ 22 rfl Tryz.underlying22 (by kernel_rfl) (w1.heap.size+4) u9 outs [r.1] rfl (HBX.out.gr.ext ((Ext.refl W).drew1.alloc _)) ⟨W.heap.size,0,none⟩ 1 1 rfl rfl (Qs.one (Blk.new' (by simp)) (HP.out.in.ext ((Ext.refl W).drew1.alloc _))) (fun b hb=>⟨by have :=hb.2;simp;omega,hb.1.1,hb.1.2⟩) (by omega) HLEN.out (Nat.le_trans HZ4.out (by simp)) (fun g2 cap w6 hgr hgrow hlie=>?_)
    have hr:=Lib.hid (HROUND.out _ w6 g2 cap hgr hgrow hlie)
    have h68:=(H8.out w6 hgrow).1
    have h69:=(H8.out w6 hgrow).2.1
    have hS6:=(H8.out w6 hgrow).2.2
    clear hgr hgrow hlie hc9 hl9
    refine ⟨hS6,?_⟩
    obtain ⟨hc8,hf8,hl8⟩:=h68.all
    obtain ⟨hc9,hf9,hl9⟩:=h69.all
    try simp only [Act.put,sA,s0,sS]
    refine wpAnyH_one (i:=7) (by kernel_rfl) rfl (by kernel_rfl) ?_
    go_simp
    refine ⟨Blk.far hS6 HNE.out.1 _,?_⟩
    try simp only [Act.put,sA,s0,sS]
    refine wpAnyH_one (i:=8) (by kernel_rfl) rfl (by kernel_rfl) ?_
    go_simp
    refine ⟨Blk.far (Blk.far hS6 HNE.out.1 _) HNE.out.2 _,?_⟩
    try simp only [Act.put,sA,s0,sS]
    refine wpAnyH_done (by kernel_rfl) (NoPanic.normal ?_) _
    exact hr.out
   ·go_simp
    refine hK.out _ _ (Blk.alloc hS _) (fun _=>?_)
    clear hK
    try simp only [Act.put,sA,s0,sS]
    refine wpAnyH_one (i:=2) (by kernel_rfl) rfl (by kernel_rfl) ?_
    go_simp
    try simp only [Act.put,sA,s0,sS]
    refine wpAnyH_one (i:=6) (by kernel_rfl) rfl (by kernel_rfl) ?_
    refine wp_grow (W.drew.alloc (.cells (parr P) 42)) _ _ 22 rfl Tryz.underlying22 (by kernel_rfl) (w1.heap.size+4) u9 outs [r.1] rfl (HBX.out.gr.ext ((Ext.refl W).drew1.alloc _)) ⟨W.heap.size,0,none⟩ 1 1 rfl rfl (Qs.one (Blk.new' (by simp)) (HP.out.in.ext ((Ext.refl W).drew1.alloc _))) (fun b hb=>⟨by have :=hb.2;simp;omega,hb.1.1,hb.1.2⟩) (by omega) HLEN.out (Nat.le_trans HZ4.out (by simp)) (fun g2 cap w6 hgr hgrow hlie=>?_)
    have hr:=Lib.hid (HROUND.out _ w6 g2 cap hgr hgrow hlie)
    have h68:=(H8.out w6 hgrow).1
    have h69:=(H8.out w6 hgrow).2.1
    have hS6:=(H8.out w6 hgrow).2.2
    clear hgr hgrow hlie hc9 hl9
    refine ⟨hS6,?_⟩
    obtain ⟨hc8,hf8,hl8⟩:=h68.all
    obtain ⟨hc9,hf9,hl9⟩:=h69.all
    try simp only [Act.put,sA,s0,sS]
    refine wpAnyH_one (i:=7) (by kernel_rfl) rfl (by kernel_rfl) ?_
    go_simp
    refine ⟨Blk.far hS6 HNE.out.1 _,?_⟩
    try simp only [Act.put,sA,s0,sS]
    refine wpAnyH_one (i:=8) (by kernel_rfl) rfl (by kernel_rfl) ?_
    go_simp
    refine ⟨Blk.far (Blk.far hS6 HNE.out.1 _) HNE.out.2 _,?_⟩
    try simp only [Act.put,sA,s0,sS]
    refine wpAnyH_done (by kernel_rfl) (NoPanic.normal ?_) _
    exact hr.out
  ·have HBR:=Lib.hid (hbx.broken (hm.dies hk hc))
   have HBX:=Lib.hid hbx
   have HGB:=Lib.hid hgb
   have hrow:=hbx.row hgb
   have HNE:Hid (g≠w.heap.size∧g≠w.heap.size+1∧g≠w.heap.size+2∧g≠w.heap.size+3):=Lib.hid hrow.1
   clear hm hbx hk fx hyb hny hoy hc hgb hrow
   simp only [rowCells] at hcg
   gi_wp2_with fail
   clear hcg
   refine wpIn_region_held (S:=fun W'=>Blk W' g 74 (rowCells P B' m' c' i false)) (by kernel_rfl) (noDefer_spec (by kernel_rfl)) (fun h=>by obtain ⟨_,_,h⟩:=h;exact h) HGB.out (fun hS=>?_)
   refine tf (i:=0) (v:=.int .i64 k) rfl rfl (fun _=>rfl) hS ?_
   try simp only [Act.put,sA,s0,sS]
   refine tf (i:=1) (v:=.pointer (some ⟨g,13,none⟩)) rfl rfl (fun _=>rfl) hS ?_
   try simp only [Act.put,sA,s0,sS]
   refine take_any (i:=2) (v:=.int .i64 i) rfl rfl (by kernel_rfl) (by kernel_rfl) (by kernel_rfl) (.inl ⟨(by kernel_rfl),fun W' hW'=>?ld⟩) hS ?_
   case ld=>
    have hcx:=hW'.cell
    simp only [rowCells] at hcx
    go_simp
   try simp only [Act.put,sA,s0,sS]
   refine take_any (i:=3) (v:=.agg #[.int .i64 k,.int .i64 i]) rfl rfl (by kernel_rfl) (by kernel_rfl) (by kernel_rfl) (.inl ⟨(by kernel_rfl),fun W' _=>?bd⟩) hS ?_
   case bd=>go_simp
   try simp only [Act.put,sA,s0,sS]
   refine wpAnyH_one (i:=4) (by kernel_rfl) rfl (by kernel_rfl) ?_
   refine wp_store_blk 22 _ _ rfl HBX.out.r0.drew rfl (.slice none 0 0) rfl rfl (by kernel_rfl) (by simp [Value.cells,Value.oneCell']) ?_
   refine ⟨(Blk.farAll (w:=W) HNE.out.1 _ _ _ hS),?_⟩
   try simp only [Act.put,sA,s0,sS]
   refine wpAnyH_one (i:=5) (by kernel_rfl) rfl (by kernel_rfl) ?_
   refine wp_store_blk 22 _ _ rfl (Blk.farAll (w:=W) (by omega) _ _ _ HBX.out.r1.drew) rfl (.slice none 0 0) rfl rfl (by kernel_rfl) (by simp [Value.cells,Value.oneCell']) ?_
   refine ⟨(Blk.farAll (w:=W) HNE.out.2.1 _ _ _ (Blk.farAll (w:=W) HNE.out.1 _ _ _ hS)),?_⟩
   try simp only [Act.put,sA,s0,sS]
   refine wpAnyH_one (i:=6) (by kernel_rfl) rfl (by kernel_rfl) ?_
   refine wp_store_blk 50 _ _ rfl (Blk.farAll (w:=W) (by omega) _ _ _ (Blk.farAll (w:=W) (by omega) _ _ _ HBX.out.r2.drew)) rfl (.agg #[.int .i64 k,.int .i64 i]) rfl rfl (by kernel_rfl) (by simp [Value.cells,Value.oneCell']) ?_
   refine ⟨(Blk.farAll (w:=W) HNE.out.2.2.1 _ _ _ (Blk.farAll (w:=W) HNE.out.2.1 _ _ _ (Blk.farAll (w:=W) HNE.out.1 _ _ _ hS))),?_⟩
   try simp only [Act.put,sA,s0,sS]
   refine wpAnyH_one (i:=7) (by kernel_rfl) rfl (by kernel_rfl) ?_
   refine wp_store_blk 4 _ _ rfl (Blk.farAll (w:=W) (by omega) _ _ _ (Blk.farAll (w:=W) (by omega) _ _ _ (Blk.farAll (w:=W) (by omega) _ _ _ HBX.out.r3.drew))) rfl (.bool false) rfl rfl (by kernel_rfl) (by simp [Value.cells,Value.oneCell']) ?_
   refine ⟨(Blk.farAll (w:=W) HNE.out.2.2.2 _ _ _ (Blk.farAll (w:=W) HNE.out.2.2.1 _ _ _ (Blk.farAll (w:=W) HNE.out.2.1 _ _ _ (Blk.farAll (w:=W) HNE.out.1 _ _ _ hS)))),?_⟩
   try simp only [Act.put,sA,s0,sS]
   refine wpAnyH_done (by kernel_rfl) (NoPanic.normal ?_) _
   gi_wp2
   exact HBR.out
 case done=>
  intro D W hD hI hK
  obtain ⟨bk,outs,u9,B1,c1,A9,c9,hm,hbx,hB,h8,hn1,hn8⟩:=hI
  have hme:=hm.ends (by rw [HN.out];exact Nat.le_refl _)
  obtain ⟨A2,c2,rfl,hq2,_,hn2⟩:=hbx.gr.qs
  have hl2:bk.length=m:=hm.2.1.trans HMB.out
  have HPOST:Hid ((A9=none→c9=0)∧(A2=none→c2=0)):=Lib.hid ⟨hn8,hn2⟩
  have HME:=Lib.hid hme
  have HBX:=Lib.hid hbx
  have HL9:=Lib.hid hl2
  have hc8:=hbx.b8.cell
  have hl8:=hbx.b8.lt
  have hc9:=hbx.b9.cell
  have hl9:=hbx.b9.lt
  have HDN:=Lib.hid (hbx.done h8 (D:=D) (by simp at hD;omega) hK)
  clear hm hB h8 hn1 hn8 hme hq2 hn2 hbx hK hD hl2 HGV HM HR HQ8 HL8 HB0 HQB HLB
  gi_wp2_with fail
  refine wpIn_wide.2 (wp_region_noPanic (wp_region_held_drew (S:=fun W'=>Blk W' w1.heap.size 22 #[.slice A9 m c9]∧Blk W' (w1.heap.size+1) 22 #[.slice A2 outs.length c2]) (by kernel_rfl) ⟨HBX.out.b8,HBX.out.b9⟩ (fun hS=>?_)))
  have HLOW:Hid ((w1.heap.size≠w.heap.size∧w1.heap.size+1≠w.heap.size)∧(w1.heap.size≠w.heap.size+1∧w1.heap.size+1≠w.heap.size+1)∧(w1.heap.size≠w.heap.size+2∧w1.heap.size+1≠w.heap.size+2)∧(w1.heap.size≠w.heap.size+3∧w1.heap.size+1≠w.heap.size+3)):=Lib.hid (by have :=hs1;omega)
  refine take_any (i:=0) (v:=.slice A9 m c9) rfl rfl (by kernel_rfl) (by kernel_rfl) (by kernel_rfl) (.inl ⟨(by kernel_rfl),fun W' hW'=>?ld0⟩) hS ?_
  case ld0=>
   have hcx:=hW'.1.cell
   go_simp
  try simp only [Act.put,sA,s0,sS]
  refine take_any (i:=1) (v:=.slice A2 outs.length c2) rfl rfl (by kernel_rfl) (by kernel_rfl) (by kernel_rfl) (.inl ⟨(by kernel_rfl),fun W' hW'=>?ld1⟩) hS ?_
  case ld1=>
   have hcx:=hW'.2.cell
   go_simp
  try simp only [Act.put,sA,s0,sS]
  refine take_any (i:=2) (v:=.agg #[.int .i64 0,.int .i64 0]) rfl rfl (by kernel_rfl) (by kernel_rfl) (by kernel_rfl) (.inl ⟨(by kernel_rfl),fun W' _=>?bd⟩) hS ?_
  case bd=>go_simp
  try simp only [Act.put,sA,s0,sS]
  refine wpAnyH_one (i:=3) (by kernel_rfl) rfl (by kernel_rfl) ?_
  refine wp_store_blk 22 _ _ rfl HBX.out.r0.drew rfl (.slice A9 m c9) rfl rfl (by kernel_rfl) (by simp [Value.cells,Value.oneCell']) ?_
  refine ⟨⟨(Blk.farAll (w:=W) HLOW.out.1.1 _ _ _ hS.1),(Blk.farAll (w:=W) HLOW.out.1.2 _ _ _ hS.2)⟩,?_⟩
  try simp only [Act.put,sA,s0,sS]
  refine wpAnyH_one (i:=4) (by kernel_rfl) rfl (by kernel_rfl) ?_
  refine wp_store_blk 22 _ _ rfl (Blk.farAll (w:=W) (by omega) _ _ _ HBX.out.r1.drew) rfl (.slice A2 outs.length c2) rfl rfl (by kernel_rfl) (by simp [Value.cells,Value.oneCell']) ?_
  refine ⟨⟨(Blk.farAll (w:=W) HLOW.out.2.1.1 _ _ _ (Blk.farAll (w:=W) HLOW.out.1.1 _ _ _ hS.1)),(Blk.farAll (w:=W) HLOW.out.2.1.2 _ _ _ (Blk.farAll (w:=W) HLOW.out.1.2 _ _ _ hS.2))⟩,?_⟩
  try simp only [Act.put,sA,s0,sS]
  refine wpAnyH_one (i:=5) (by kernel_rfl) rfl (by kernel_rfl) ?_
  refine wp_store_blk 50 _ _ rfl (Blk.farAll (w:=W) (by omega) _ _ _ (Blk.farAll (w:=W) (by omega) _ _ _ HBX.out.r2.drew)) rfl (.agg #[.int .i64 0,.int .i64 0]) rfl rfl (by kernel_rfl) (by simp [Value.cells,Value.oneCell']) ?_
  refine ⟨⟨(Blk.farAll (w:=W) HLOW.out.2.2.1.1 _ _ _ (Blk.farAll (w:=W) HLOW.out.2.1.1 _ _ _ (Blk.farAll (w:=W) HLOW.out.1.1 _ _ _ hS.1))),(Blk.farAll (w:=W) HLOW.out.2.2.1.2 _ _ _ (Blk.farAll (w:=W) HLOW.out.2.1.2 _ _ _ (Blk.farAll (w:=W) HLOW.out.1.2 _ _ _ hS.2)))⟩,?_⟩
  try simp only [Act.put,sA,s0,sS]
  refine wpAnyH_one (i:=6) (by kernel_rfl) rfl (by kernel_rfl) ?_
  refine wp_store_blk 4 _ _ rfl (Blk.farAll (w:=W) (by omega) _ _ _ (Blk.farAll (w:=W) (by omega) _ _ _ (Blk.farAll (w:=W) (by omega) _ _ _ HBX.out.r3.drew))) rfl (.bool true) rfl rfl (by kernel_rfl) (by simp [Value.cells,Value.oneCell']) ?_
  refine ⟨⟨(Blk.farAll (w:=W) HLOW.out.2.2.2.1 _ _ _ (Blk.farAll (w:=W) HLOW.out.2.2.1.1 _ _ _ (Blk.farAll (w:=W) HLOW.out.2.1.1 _ _ _ (Blk.farAll (w:=W) HLOW.out.1.1 _ _ _ hS.1)))),(Blk.farAll (w:=W) HLOW.out.2.2.2.2 _ _ _ (Blk.farAll (w:=W) HLOW.out.2.2.1.2 _ _ _ (Blk.farAll (w:=W) HLOW.out.2.1.2 _ _ _ (Blk.farAll (w:=W) HLOW.out.1.2 _ _ _ hS.2))))⟩,?_⟩
  try simp only [Act.put,sA,s0,sS]
  refine wpAnyH_done (by kernel_rfl) (NoPanic.normal ?_) _
  gi_wp2
  obtain ⟨hk9,t0,t1,t2,t3,q1,q2,x9⟩:=HDN.out
  clear HDN hS
  simp only [Value.cells,Array.toList]
  generalize ((((W.drew.setCells w.heap.size 0 [.slice A9 m c9]).setCells (w.heap.size+1) 0 [.slice A2 outs.length c2]).setCells (w.heap.size+2) 0 [.int .i64 0,.int .i64 0]).setCells (w.heap.size+3) 0 [.bool true])=V at hk9 t0 t1 t2 t3 q1 q2 x9 ⊢
  refine ⟨by simp,.inl ⟨_,_,rfl,run_takeDeferred hk9,?_⟩⟩
  refine ⟨.tuple #[.slice A9 m c9,.slice A2 outs.length c2,.agg #[.int .i64 0,.int .i64 0],.bool true],?_,?_⟩
  ·clear q1 q2 x9 hk9
   simp only [results,Tryz.results31]
   go_simp
  ·rw [HME.out]
   exact ⟨⟨A9,c9,A2,c2,by rw [HL9.out],Lib.hid ⟨q1,q2,HPOST.out.1,HPOST.out.2⟩⟩,x9⟩
 case stop=>
  intro D W hD hX hK
  obtain ⟨i,j,hm,r0,r1,r2,r3,hx⟩:=hX
  have h0:=r0.cell
  have h1:=r1.cell
  have h2:∀ i,W.cell? ⟨w.heap.size+1+1,i,none⟩=_:=r2.cell
  have h3:∀ i,W.cell? ⟨w.heap.size+1+1+1,i,none⟩=_:=r3.cell
  have HK:=Lib.hid hK
  clear HGV HM HR HQ8 HL8 HB0 HQB HLB hK
  have ht:Turned W (W.putObj D (.deferred none)):=⟨some D,grownBy_putObj' W D _,fun r e=>by cases e;exact ⟨_,HK.out,rfl⟩⟩
  have t0:=(r0.turned ht).cell
  have t1:=(r1.turned ht).cell
  have t2:∀ i,(W.putObj D (.deferred none)).cell? ⟨w.heap.size+1+1,i,none⟩=_:=(r2.turned ht).cell
  have t3:∀ i,(W.putObj D (.deferred none)).cell? ⟨w.heap.size+1+1+1,i,none⟩=_:=(r3.turned ht).cell
  have HX:=Lib.hid (hx.putObj (D:=D) (by simp at hD;omega) (.deferred none))
  have HMM:=Lib.hid hm
  clear ht r0 r1 r2 r3 hx hm h0 h1 h2 h3
  gi_wp2_with fail
  refine ⟨by simp,.inl ⟨_,_,rfl,run_takeDeferred HK.out,?_⟩⟩
  refine ⟨.tuple #[.slice none 0 0,.slice none 0 0,.agg #[.int .i64 i,.int .i64 j],.bool false],?_,?_⟩
  ·simp only [results,Tryz.results31]
   go_simp
  ·rw [HMM.out]
   exact ⟨rfl,HX.out⟩
theorem seqmerge_any (A B:Option Addr) (n cA m cB:Nat) (a b:List Qp) (w:World) (hg:Glob w) {F:Nat→Prop} (ha:Qs w F A a) (hb:Qs w F B b) (hn:a.length=n) (hm:b.length=m) (hB:B=none→m=0∧cB=0)
 (b1:n≤100000000000) (b2:m≤100000000000) (fa:∀ q∈a,q.Fits) (fb:∀ q∈b,q.Fits):
 Calls Tryz.prog 31 #[.slice A n cA,.slice B m cB] w (Merged F (Sq.merge a b) w):=
 (callsIn_wide (n:=9)).1 (seqmerge_in 9 (Nat.le_refl _) A B n cA m cB a b w hg ha hb hn hm hB b1 b2 fa fb)
end Go.Proofs.YtlbhaimfjfdppaaGreatDoor
