import Derived.Test.YtfmgnaigcibcaaaGreatDoorTJo
import Derived.Test.YtfmgnaigcibcaaaGreatDoorTJn
set_option linter.unusedSimpArgs false
set_option linter.unusedVariables false
namespace Go.Proofs.YtfmgnaigcibcaaaGreatDoor
open Go.RowKit
attribute [local go_sem ↓] Go.wp_at_zero Go.wp_at_succ
set_option maxHeartbeats 16000000 in
set_option maxRecDepth 100000 in
theorem merge_any (p p':Pv) (a b:Qp) (w:World) (hg:Glob w) {F:Nat→Prop} (ha:Is w F p a) (hb:Is w F p' b) (fa:a.Fits) (fb:b.Fits):
 Calls Tryz.prog 124 #[p.v,p'.v] w (fun e w'=>∃ P P':Pv,e=.returned (.tuple #[P.v,P'.v,.bool (a.merge b).2.2])∧Hid (Is w' (fun b=>(F b∧b < w.heap.size)∨w.heap.size≤b) P (a.merge b).1)∧Hid (Is w' (fun b=>(F b∧b < w.heap.size)∨w.heap.size≤b) P' (a.merge b).2.1)∧Ext w w'):=by
 have HA:=Lib.hid ha.in
 have HB:=Lib.hid hb.in
 have HG:=Lib.hid hg
 have Q1:=Lib.hid (fun W (hW:Ext w W)=>check_q p a W (HG.out.ext hW) (HA.out.ext hW) fa.1 fa.2.1 fa.2.2.1 fa.2.2.2)
 have q2:=fun (h:a.check=0) W (hW:Ext w W)=>inverse_any p a W (HG.out.ext hW) (HA.out.ext hW) fa.1 fa.2.1 fa.2.2.1 fa.2.2.2 h
 have q3:a.check=0→∀ (F':Nat→Prop) W P,Ext w W→Is W F' P a.inv→(∀ b,F b∧b < w.heap.size→F' b)→Calls Tryz.prog 31 #[P.v,p'.v] W (GivesTwo F' (a.inv.commute b) W):=
  fun h F' W P hW hi hF=>commute_any P p' a.inv b W (HG.out.ext hW) hi ((HB.out.ext hW).mono hF) (check_fits (inv_check h)) fb
 have q4:∀ c d,a.inv.commute b=(c,d,true)→d.check=0:=fun c d h=>(commute_back h).2.2
 have HM:Hid (a.merge b=if a.check≠0 then (Qp.zero,Qp.zero,false) else if (a.inv.commute b).2.2 then ((a.inv.commute b).1,(a.inv.commute b).2.1.inv,true) else (Qp.zero,Qp.zero,false)):=Lib.hid rfl
 generalize a.merge b=R at HM ⊢
 generalize a.inv.commute b=R1 at q3 q4 HM
 generalize a.inv=ai at q2 q3
 obtain ⟨c,d,k⟩:=R1
 dsimp only at HM
 have Q2:=Lib.hid q2
 have Q3:=Lib.hid q3
 have Q4:=Lib.hid (fun (h:k=true)=>q4 c d (by rw [h]))
 clear q2 q3 q4 hg ha hb fa fb HB
 go_enter Tryz.func124,Tryz.ntmps124
 have hx:=Ext.refl w
 go_wp2_with fail
 refine (Q1.out _ EX).mono ?_
 rintro e w1 ⟨rfl,hx0⟩
 have hb0:Blk w1 (w.heap.size) 28 (parr p):=Blk.ext hx0 (Blk.alloc (Blk.alloc (Blk.alloc (Blk.new' (by simp)) _) _) _)
 have hb1:Blk w1 (w.heap.size+1) 28 (parr p'):=Blk.ext hx0 (Blk.alloc (Blk.alloc (Blk.new' (by simp)) _) _)
 have hb2:Blk w1 (w.heap.size+1+1) 28 zcells:=Blk.ext hx0 (Blk.alloc (Blk.new' (by simp)) _)
 have hb3:Blk w1 (w.heap.size+1+1+1) 28 zcells:=Blk.ext hx0 (Blk.new' (by simp))
 have hx1:=Ext.trans (a:=w) EX hx0
 clear hx hx0
 have hx:=hx1
 clear hx1
 by_cases z1:a.check=0
 rotate_left
 ·have HZ:Hid (R=(Qp.zero,Qp.zero,false)):=Lib.hid (by rw [HM.out];simp [z1])
  have z1':(a.check != 0)=true:=by simpa using z1
  clear z1 HM
  obtain ⟨hc0,hf0,hl0⟩:=hb0.all
  obtain ⟨hc1,hf1,hl1⟩:=hb1.all
  obtain ⟨hc2,hf2,hl2⟩:=hb2.all
  obtain ⟨hc3,hf3,hl3⟩:=hb3.all
  go_wp2_with fail
  refine bodyPost_ret (v:=.tuple #[(Qp.zero.pv none 0 none 0).v,(Qp.zero.pv none 0 none 0).v,.bool false]) ?_ rfl ?_
  ·simp only [results,Tryz.results124]
   go_simp
   simp [Qp.zero]
  ·rw [HZ.out]
   exact ⟨_,_,rfl,Lib.hid (Is.none _ _ Qp.zero rfl rfl),Lib.hid (Is.none _ _ Qp.zero rfl rfl),EX⟩
 have Z1:=Lib.hid z1
 have HM:Hid (R=if k then (c,d.inv,true) else (Qp.zero,Qp.zero,false)):=Lib.hid (by rw [HM.out,if_neg (by rw [z1];simp)])
 have z1':(a.check != 0)=false:=by simpa using z1
 rw [Z1.out]
 clear z1 Q1
 go_upto_region 3 with fail
 go_cut [7,8,9] (fun u7 u8 u9 wx=>∃ g7 g8:Nat,u7=.pointer (some ⟨g7,0,none⟩)∧u8=.pointer (some ⟨g8,0,none⟩)∧u9=.bool k∧Hid (Mid F w c d wx g7 g8)∧Ext w1 wx)
 case first=>
  have hs1:w.heap.size+4≤w1.heap.size:=by have :=hb3.lt;omega
  refine wp_region_noPanic (wp_region_held_drew (S:=fun w'=>Ext w1 w') (by kernel_rfl) (Ext.refl w1).drew1 (fun hH=>?_))
  refine tl (i:=0) (parr p).toList rfl rfl rfl rfl rfl Tryz.underlying28 rfl (fun _ h=>(hb0.ext h).range 0 _ (fun j _=>by rw [Nat.zero_add,Array.getElem?_toList])) hH ?_
  try simp only [Act.put,sA,s0,sS]
  refine tl (i:=2) (parr p').toList rfl rfl rfl rfl rfl Tryz.underlying28 rfl (fun _ h=>(hb1.ext h).range 0 _ (fun j _=>by rw [Nat.zero_add,Array.getElem?_toList])) hH ?_
  try simp only [Act.put,sA,s0,sS]
  have hd:Ext w1 w1.drew:=(Ext.refl w1).drew1
  generalize w1.drew=v0 at hH hd ⊢
  clear hH HM Q4 z1'
  have S0:=Lib.hid hd.size_le
  refine wpAnyH_ready (rs:=[1,8,9]) (by kernel_rfl) (by simp) ?_
  refine (AllReadyH.cons rfl (fun K hK=>?_) (AllReadyH.cons rfl (fun K hK=>?_) (AllReadyH.cons rfl (fun K hK=>?_) AllReadyH.nil)))
  ·go_simp
   refine (Q2.out Z1.out _ (hx.trans hd)).mono ?_
   rintro e v1 ⟨P0,rfl,i0,hx0⟩
   have I0:=Lib.hid i0.in
   clear i0
   have Sv1:=Lib.hid hx0.size_le
   have hv1:=hd.trans hx0
   refine hK.out _ _ hv1 (fun _=>?_)
   clear hK hx0
   try simp only [Act.put,sA,s0,sS]
   refine wpAnyH_ready (rs:=[3,8,9]) (by kernel_rfl) (by simp) ?_
   refine (AllReadyH.cons rfl (fun K hK=>?_) (AllReadyH.cons rfl (fun K hK=>?_) (AllReadyH.cons rfl (fun K hK=>?_) AllReadyH.nil)))
   ·go_simp
    refine (Q3.out Z1.out (fun b=>(F b∧b < w.heap.size)∨(v0.heap.size≤b∧b < v1.heap.size)) _ P0 (hx.trans hv1) (I0.out.mono fun b hb=>.inr hb) (fun b hb=>.inl hb)).mono ?_
    rintro e v2 ⟨P1,P2,rfl,i1,i2,hx0⟩
    have I1:=Lib.hid i1.in
    have I2:=Lib.hid i2.in
    clear i1 i2 I0
    have Sv2:=Lib.hid hx0.size_le
    have hv2:=hv1.trans hx0
    refine hK.out _ _ hv2 (fun _=>?_)
    clear hK hx0
    try simp only [Act.put,sA,s0,sS]
    refine tf (i:=4) (v:=(.tuple #[P1.v,P2.v,.bool k])) rfl rfl (fun _=>rfl) hv2 ?_
    try simp only [Act.put,sA,s0,sS]
    refine tf (i:=5) (v:=P1.v) rfl rfl (fun _=>rfl) hv2 ?_
    try simp only [Act.put,sA,s0,sS]
    refine tf (i:=6) (v:=P2.v) rfl rfl (fun _=>rfl) hv2 ?_
    try simp only [Act.put,sA,s0,sS]
    refine tf (i:=7) (v:=(.bool k)) rfl rfl (fun _=>rfl) hv2 ?_
    try simp only [Act.put,sA,s0,sS]
    refine wpAnyH_ready (rs:=[8,9]) (by kernel_rfl) (by simp) ?_
    refine (AllReadyH.cons rfl (fun K hK=>?_) (AllReadyH.cons rfl (fun K hK=>?_) AllReadyH.nil))
    ·go_simp
     have hx0:Ext v2 (v2.alloc (.cells zcells 28)):=(Ext.refl v2).alloc _
     have hb7:Blk (v2.alloc (.cells zcells 28)) v2.heap.size 28 zcells:=Blk.new' rfl
     have sv3:(v2.alloc (.cells zcells 28)).heap.size=v2.heap.size+1:=by simp
     generalize v2.alloc (.cells zcells 28)=v3 at hx0 hb7 sv3 ⊢
     obtain ⟨g7,eg7⟩:∃ g,g=v2.heap.size:=⟨_,rfl⟩
     rw [← eg7] at hb7 ⊢
     have Eg7:=Lib.hid eg7
     have Sv3:=Lib.hid sv3
     clear eg7 sv3
     have hv3:=hv2.trans hx0
     replace I1:=Lib.hid (I1.out.ext hx0)
     replace I2:=Lib.hid (I2.out.ext hx0)
     refine hK.out _ _ hv3 (fun _=>?_)
     clear hK hx0
     try simp only [Act.put,sA,s0,sS]
     refine wpAnyH_ready (rs:=[9]) (by kernel_rfl) (by simp) ?_
     refine (AllReadyH.cons rfl (fun K hK=>?_) AllReadyH.nil)
     ·go_simp
      have hx0:Ext v3 (v3.alloc (.cells zcells 28)):=(Ext.refl v3).alloc _
      have hb8:Blk (v3.alloc (.cells zcells 28)) v3.heap.size 28 zcells:=Blk.new' rfl
      have sv4:(v3.alloc (.cells zcells 28)).heap.size=v3.heap.size+1:=by simp
      generalize v3.alloc (.cells zcells 28)=v4 at hx0 hb8 sv4 ⊢
      obtain ⟨g8,eg8⟩:∃ g,g=v3.heap.size:=⟨_,rfl⟩
      rw [← eg8] at hb8 ⊢
      have Eg8:=Lib.hid eg8
      have Sv4:=Lib.hid sv4
      clear eg8 sv4
      have hv4:=hv3.trans hx0
      replace hb7:=hb7.ext hx0
      replace I1:=Lib.hid (I1.out.ext hx0)
      replace I2:=Lib.hid (I2.out.ext hx0)
      refine hK.out _ _ hv4 (fun _=>?_)
      clear hK hx0
      try simp only [Act.put,sA,s0,sS]
      have fSv1:=Sv1.out
      have fSv2:=Sv2.out
      have fSv3:=Sv3.out
      have fEg7:=Eg7.out
      have fSv4:=Sv4.out
      have fEg8:=Eg8.out
      have sv0:=S0.out
      have i1:=I1.out.mono (G:=fun b=>(F b∧b < w.heap.size)∨(w.heap.size+4≤b∧b≠g7∧b≠g8)) (fun b hb=>by rcases hb with ⟨(h | h) | h,h2⟩;exact .inl h;exact .inr (by omega);exact .inr (by omega))
      have i2:=I2.out.mono (G:=fun b=>(F b∧b < w.heap.size)∨(w.heap.size+4≤b∧b≠g7∧b≠g8)) (fun b hb=>by rcases hb with ⟨(h | h) | h,h2⟩;exact .inl h;exact .inr (by omega);exact .inr (by omega))
      refine two_stores (n:=10) (u:=.bool k) (v1:=parr P1) (v2:=parr P2) (by kernel_rfl) (by kernel_rfl) (by kernel_rfl) (by kernel_rfl) rfl rfl rfl rfl rfl rfl rfl rfl rfl rfl rfl rfl rfl rfl rfl rfl rfl hb7 hb8 rfl rfl (by omega) (by kernel_rfl) (by kernel_rfl) (by first | rfl | simp [Value.oneCell']) (by first | rfl | simp [Value.oneCell']) (Ext.setAll (by omega) _ _ _ hv4) (Ext.setAll (by omega) _ _ _ (Ext.setAll (by omega) _ _ _ hv4)) (fun W k7 k8 hst=>NoPanic.normal ?_) _
      try simp only [Act.put,sA,s0,sS]
      have LF:Hid (Mid F w c d W g7 g8):=Lib.hid ⟨P1,P2,k7,k8,by omega,by omega,by omega,Lib.hid (hst.keeps _ _ _ i1 (fun h=>by omega) (fun h=>by omega)),Lib.hid (hst.keeps _ _ _ i2 (fun h=>by omega) (fun h=>by omega))⟩
      have hy:=hst.ext w1 hv4 (by omega) (by omega)
      clear hst i1 i2 k7 k8 sv0 fSv1 fSv2 fSv3 fEg7 fSv4 fEg8 Sv1 Sv2 Sv3 Eg7 Sv4 Eg8
      go_wp2_with fail
      go_meet
      exact ⟨g7,g8,rfl,rfl,rfl,LF,hy⟩
    ·go_simp
     have hx0:Ext v2 (v2.alloc (.cells zcells 28)):=(Ext.refl v2).alloc _
     have hb8:Blk (v2.alloc (.cells zcells 28)) v2.heap.size 28 zcells:=Blk.new' rfl
     have sv5:(v2.alloc (.cells zcells 28)).heap.size=v2.heap.size+1:=by simp
     generalize v2.alloc (.cells zcells 28)=v5 at hx0 hb8 sv5 ⊢
     obtain ⟨g8,eg8⟩:∃ g,g=v2.heap.size:=⟨_,rfl⟩
     rw [← eg8] at hb8 ⊢
     have Eg8:=Lib.hid eg8
     have Sv5:=Lib.hid sv5
     clear eg8 sv5
     have hv5:=hv2.trans hx0
     replace I1:=Lib.hid (I1.out.ext hx0)
     replace I2:=Lib.hid (I2.out.ext hx0)
     refine hK.out _ _ hv5 (fun _=>?_)
     clear hK hx0
     try simp only [Act.put,sA,s0,sS]
     refine wpAnyH_ready (rs:=[8]) (by kernel_rfl) (by simp) ?_
     refine (AllReadyH.cons rfl (fun K hK=>?_) AllReadyH.nil)
     ·go_simp
      have hx0:Ext v5 (v5.alloc (.cells zcells 28)):=(Ext.refl v5).alloc _
      have hb7:Blk (v5.alloc (.cells zcells 28)) v5.heap.size 28 zcells:=Blk.new' rfl
      have sv6:(v5.alloc (.cells zcells 28)).heap.size=v5.heap.size+1:=by simp
      generalize v5.alloc (.cells zcells 28)=v6 at hx0 hb7 sv6 ⊢
      obtain ⟨g7,eg7⟩:∃ g,g=v5.heap.size:=⟨_,rfl⟩
      rw [← eg7] at hb7 ⊢
      have Eg7:=Lib.hid eg7
      have Sv6:=Lib.hid sv6
      clear eg7 sv6
      have hv6:=hv5.trans hx0
      replace hb8:=hb8.ext hx0
      replace I1:=Lib.hid (I1.out.ext hx0)
      replace I2:=Lib.hid (I2.out.ext hx0)
      refine hK.out _ _ hv6 (fun _=>?_)
      clear hK hx0
      try simp only [Act.put,sA,s0,sS]
      have fSv1:=Sv1.out
      have fSv2:=Sv2.out
      have fSv5:=Sv5.out
      have fEg8:=Eg8.out
      have fSv6:=Sv6.out
      have fEg7:=Eg7.out
      have sv0:=S0.out
      have i1:=I1.out.mono (G:=fun b=>(F b∧b < w.heap.size)∨(w.heap.size+4≤b∧b≠g7∧b≠g8)) (fun b hb=>by rcases hb with ⟨(h | h) | h,h2⟩;exact .inl h;exact .inr (by omega);exact .inr (by omega))
      have i2:=I2.out.mono (G:=fun b=>(F b∧b < w.heap.size)∨(w.heap.size+4≤b∧b≠g7∧b≠g8)) (fun b hb=>by rcases hb with ⟨(h | h) | h,h2⟩;exact .inl h;exact .inr (by omega);exact .inr (by omega))
      refine two_stores (n:=10) (u:=.bool k) (v1:=parr P1) (v2:=parr P2) (by kernel_rfl) (by kernel_rfl) (by kernel_rfl) (by kernel_rfl) rfl rfl rfl rfl rfl rfl rfl rfl rfl rfl rfl rfl rfl rfl rfl rfl rfl hb7 hb8 rfl rfl (by omega) (by kernel_rfl) (by kernel_rfl) (by first | rfl | simp [Value.oneCell']) (by first | rfl | simp [Value.oneCell']) (Ext.setAll (by omega) _ _ _ hv6) (Ext.setAll (by omega) _ _ _ (Ext.setAll (by omega) _ _ _ hv6)) (fun W k7 k8 hst=>NoPanic.normal ?_) _
      try simp only [Act.put,sA,s0,sS]
      have LF:Hid (Mid F w c d W g7 g8):=Lib.hid ⟨P1,P2,k7,k8,by omega,by omega,by omega,Lib.hid (hst.keeps _ _ _ i1 (fun h=>by omega) (fun h=>by omega)),Lib.hid (hst.keeps _ _ _ i2 (fun h=>by omega) (fun h=>by omega))⟩
      have hy:=hst.ext w1 hv6 (by omega) (by omega)
      clear hst i1 i2 k7 k8 sv0 fSv1 fSv2 fSv5 fEg8 fSv6 fEg7 Sv1 Sv2 Sv5 Eg8 Sv6 Eg7
      go_wp2_with fail
      go_meet
      exact ⟨g7,g8,rfl,rfl,rfl,LF,hy⟩
   ·go_simp
    have hx0:Ext v1 (v1.alloc (.cells zcells 28)):=(Ext.refl v1).alloc _
    have hb7:Blk (v1.alloc (.cells zcells 28)) v1.heap.size 28 zcells:=Blk.new' rfl
    have sv7:(v1.alloc (.cells zcells 28)).heap.size=v1.heap.size+1:=by simp
    generalize v1.alloc (.cells zcells 28)=v7 at hx0 hb7 sv7 ⊢
    obtain ⟨g7,eg7⟩:∃ g,g=v1.heap.size:=⟨_,rfl⟩
    rw [← eg7] at hb7 ⊢
    have Eg7:=Lib.hid eg7
    have Sv7:=Lib.hid sv7
    clear eg7 sv7
    have hv7:=hv1.trans hx0
    replace I0:=Lib.hid (I0.out.ext hx0)
    refine hK.out _ _ hv7 (fun _=>?_)
    clear hK hx0
    try simp only [Act.put,sA,s0,sS]
    refine wpAnyH_ready (rs:=[3,9]) (by kernel_rfl) (by simp) ?_
    refine (AllReadyH.cons rfl (fun K hK=>?_) (AllReadyH.cons rfl (fun K hK=>?_) AllReadyH.nil))
    ·go_simp
     refine (Q3.out Z1.out (fun b=>(F b∧b < w.heap.size)∨(v0.heap.size≤b∧b < v1.heap.size)) _ P0 (hx.trans hv7) (I0.out.mono fun b hb=>.inr hb) (fun b hb=>.inl hb)).mono ?_
     rintro e v8 ⟨P1,P2,rfl,i1,i2,hx0⟩
     have I1:=Lib.hid i1.in
     have I2:=Lib.hid i2.in
     clear i1 i2 I0
     have Sv8:=Lib.hid hx0.size_le
     have hv8:=hv7.trans hx0
     replace hb7:=hb7.ext hx0
     refine hK.out _ _ hv8 (fun _=>?_)
     clear hK hx0
     try simp only [Act.put,sA,s0,sS]
     refine tf (i:=4) (v:=(.tuple #[P1.v,P2.v,.bool k])) rfl rfl (fun _=>rfl) hv8 ?_
     try simp only [Act.put,sA,s0,sS]
     refine tf (i:=5) (v:=P1.v) rfl rfl (fun _=>rfl) hv8 ?_
     try simp only [Act.put,sA,s0,sS]
     refine tf (i:=6) (v:=P2.v) rfl rfl (fun _=>rfl) hv8 ?_
     try simp only [Act.put,sA,s0,sS]
     refine tf (i:=7) (v:=(.bool k)) rfl rfl (fun _=>rfl) hv8 ?_
     try simp only [Act.put,sA,s0,sS]
     refine wpAnyH_ready (rs:=[9]) (by kernel_rfl) (by simp) ?_
     refine (AllReadyH.cons rfl (fun K hK=>?_) AllReadyH.nil)
     ·go_simp
      have hx0:Ext v8 (v8.alloc (.cells zcells 28)):=(Ext.refl v8).alloc _
      have hb8:Blk (v8.alloc (.cells zcells 28)) v8.heap.size 28 zcells:=Blk.new' rfl
      have sv9:(v8.alloc (.cells zcells 28)).heap.size=v8.heap.size+1:=by simp
      generalize v8.alloc (.cells zcells 28)=v9 at hx0 hb8 sv9 ⊢
      obtain ⟨g8,eg8⟩:∃ g,g=v8.heap.size:=⟨_,rfl⟩
      rw [← eg8] at hb8 ⊢
      have Eg8:=Lib.hid eg8
      have Sv9:=Lib.hid sv9
      clear eg8 sv9
      have hv9:=hv8.trans hx0
      replace hb7:=hb7.ext hx0
      replace I1:=Lib.hid (I1.out.ext hx0)
      replace I2:=Lib.hid (I2.out.ext hx0)
      refine hK.out _ _ hv9 (fun _=>?_)
      clear hK hx0
      try simp only [Act.put,sA,s0,sS]
      have fSv1:=Sv1.out
      have fSv7:=Sv7.out
      have fEg7:=Eg7.out
      have fSv8:=Sv8.out
      have fSv9:=Sv9.out
      have fEg8:=Eg8.out
      have sv0:=S0.out
      have i1:=I1.out.mono (G:=fun b=>(F b∧b < w.heap.size)∨(w.heap.size+4≤b∧b≠g7∧b≠g8)) (fun b hb=>by rcases hb with ⟨(h | h) | h,h2⟩;exact .inl h;exact .inr (by omega);exact .inr (by omega))
      have i2:=I2.out.mono (G:=fun b=>(F b∧b < w.heap.size)∨(w.heap.size+4≤b∧b≠g7∧b≠g8)) (fun b hb=>by rcases hb with ⟨(h | h) | h,h2⟩;exact .inl h;exact .inr (by omega);exact .inr (by omega))
      refine two_stores (n:=10) (u:=.bool k) (v1:=parr P1) (v2:=parr P2) (by kernel_rfl) (by kernel_rfl) (by kernel_rfl) (by kernel_rfl) rfl rfl rfl rfl rfl rfl rfl rfl rfl rfl rfl rfl rfl rfl rfl rfl rfl hb7 hb8 rfl rfl (by omega) (by kernel_rfl) (by kernel_rfl) (by first | rfl | simp [Value.oneCell']) (by first | rfl | simp [Value.oneCell']) (Ext.setAll (by omega) _ _ _ hv9) (Ext.setAll (by omega) _ _ _ (Ext.setAll (by omega) _ _ _ hv9)) (fun W k7 k8 hst=>NoPanic.normal ?_) _
      try simp only [Act.put,sA,s0,sS]
      have LF:Hid (Mid F w c d W g7 g8):=Lib.hid ⟨P1,P2,k7,k8,by omega,by omega,by omega,Lib.hid (hst.keeps _ _ _ i1 (fun h=>by omega) (fun h=>by omega)),Lib.hid (hst.keeps _ _ _ i2 (fun h=>by omega) (fun h=>by omega))⟩
      have hy:=hst.ext w1 hv9 (by omega) (by omega)
      clear hst i1 i2 k7 k8 sv0 fSv1 fSv7 fEg7 fSv8 fSv9 fEg8 Sv1 Sv7 Eg7 Sv8 Sv9 Eg8
      go_wp2_with fail
      go_meet
      exact ⟨g7,g8,rfl,rfl,rfl,LF,hy⟩
    ·go_simp
     have hx0:Ext v7 (v7.alloc (.cells zcells 28)):=(Ext.refl v7).alloc _
     have hb8:Blk (v7.alloc (.cells zcells 28)) v7.heap.size 28 zcells:=Blk.new' rfl
     have sv10:(v7.alloc (.cells zcells 28)).heap.size=v7.heap.size+1:=by simp
     generalize v7.alloc (.cells zcells 28)=v10 at hx0 hb8 sv10 ⊢
     obtain ⟨g8,eg8⟩:∃ g,g=v7.heap.size:=⟨_,rfl⟩
     rw [← eg8] at hb8 ⊢
     have Eg8:=Lib.hid eg8
     have Sv10:=Lib.hid sv10
     clear eg8 sv10
     have hv10:=hv7.trans hx0
     replace hb7:=hb7.ext hx0
     replace I0:=Lib.hid (I0.out.ext hx0)
     refine hK.out _ _ hv10 (fun _=>?_)
     clear hK hx0
     try simp only [Act.put,sA,s0,sS]
     refine wpAnyH_ready (rs:=[3]) (by kernel_rfl) (by simp) ?_
     refine (AllReadyH.cons rfl (fun K hK=>?_) AllReadyH.nil)
     ·go_simp
      refine (Q3.out Z1.out (fun b=>(F b∧b < w.heap.size)∨(v0.heap.size≤b∧b < v1.heap.size)) _ P0 (hx.trans hv10) (I0.out.mono fun b hb=>.inr hb) (fun b hb=>.inl hb)).mono ?_
      rintro e v11 ⟨P1,P2,rfl,i1,i2,hx0⟩
      have I1:=Lib.hid i1.in
      have I2:=Lib.hid i2.in
      clear i1 i2 I0
      have Sv11:=Lib.hid hx0.size_le
      have hv11:=hv10.trans hx0
      replace hb7:=hb7.ext hx0
      replace hb8:=hb8.ext hx0
      refine hK.out _ _ hv11 (fun _=>?_)
      clear hK hx0
      try simp only [Act.put,sA,s0,sS]
      refine tf (i:=4) (v:=(.tuple #[P1.v,P2.v,.bool k])) rfl rfl (fun _=>rfl) hv11 ?_
      try simp only [Act.put,sA,s0,sS]
      refine tf (i:=5) (v:=P1.v) rfl rfl (fun _=>rfl) hv11 ?_
      try simp only [Act.put,sA,s0,sS]
      refine tf (i:=6) (v:=P2.v) rfl rfl (fun _=>rfl) hv11 ?_
      try simp only [Act.put,sA,s0,sS]
      refine tf (i:=7) (v:=(.bool k)) rfl rfl (fun _=>rfl) hv11 ?_
      try simp only [Act.put,sA,s0,sS]
      have fSv1:=Sv1.out
      have fSv7:=Sv7.out
      have fEg7:=Eg7.out
      have fSv10:=Sv10.out
      have fEg8:=Eg8.out
      have fSv11:=Sv11.out
      have sv0:=S0.out
      have i1:=I1.out.mono (G:=fun b=>(F b∧b < w.heap.size)∨(w.heap.size+4≤b∧b≠g7∧b≠g8)) (fun b hb=>by rcases hb with ⟨(h | h) | h,h2⟩;exact .inl h;exact .inr (by omega);exact .inr (by omega))
      have i2:=I2.out.mono (G:=fun b=>(F b∧b < w.heap.size)∨(w.heap.size+4≤b∧b≠g7∧b≠g8)) (fun b hb=>by rcases hb with ⟨(h | h) | h,h2⟩;exact .inl h;exact .inr (by omega);exact .inr (by omega))
      refine two_stores (n:=10) (u:=.bool k) (v1:=parr P1) (v2:=parr P2) (by kernel_rfl) (by kernel_rfl) (by kernel_rfl) (by kernel_rfl) rfl rfl rfl rfl rfl rfl rfl rfl rfl rfl rfl rfl rfl rfl rfl rfl rfl hb7 hb8 rfl rfl (by omega) (by kernel_rfl) (by kernel_rfl) (by first | rfl | simp [Value.oneCell']) (by first | rfl | simp [Value.oneCell']) (Ext.setAll (by omega) _ _ _ hv11) (Ext.setAll (by omega) _ _ _ (Ext.setAll (by omega) _ _ _ hv11)) (fun W k7 k8 hst=>NoPanic.normal ?_) _
      try simp only [Act.put,sA,s0,sS]
      have LF:Hid (Mid F w c d W g7 g8):=Lib.hid ⟨P1,P2,k7,k8,by omega,by omega,by omega,Lib.hid (hst.keeps _ _ _ i1 (fun h=>by omega) (fun h=>by omega)),Lib.hid (hst.keeps _ _ _ i2 (fun h=>by omega) (fun h=>by omega))⟩
      have hy:=hst.ext w1 hv11 (by omega) (by omega)
      clear hst i1 i2 k7 k8 sv0 fSv1 fSv7 fEg7 fSv10 fEg8 fSv11 Sv1 Sv7 Eg7 Sv10 Eg8 Sv11
      go_wp2_with fail
      go_meet
      exact ⟨g7,g8,rfl,rfl,rfl,LF,hy⟩
   ·go_simp
    have hx0:Ext v1 (v1.alloc (.cells zcells 28)):=(Ext.refl v1).alloc _
    have hb8:Blk (v1.alloc (.cells zcells 28)) v1.heap.size 28 zcells:=Blk.new' rfl
    have sv12:(v1.alloc (.cells zcells 28)).heap.size=v1.heap.size+1:=by simp
    generalize v1.alloc (.cells zcells 28)=v12 at hx0 hb8 sv12 ⊢
    obtain ⟨g8,eg8⟩:∃ g,g=v1.heap.size:=⟨_,rfl⟩
    rw [← eg8] at hb8 ⊢
    have Eg8:=Lib.hid eg8
    have Sv12:=Lib.hid sv12
    clear eg8 sv12
    have hv12:=hv1.trans hx0
    replace I0:=Lib.hid (I0.out.ext hx0)
    refine hK.out _ _ hv12 (fun _=>?_)
    clear hK hx0
    try simp only [Act.put,sA,s0,sS]
    refine wpAnyH_ready (rs:=[3,8]) (by kernel_rfl) (by simp) ?_
    refine (AllReadyH.cons rfl (fun K hK=>?_) (AllReadyH.cons rfl (fun K hK=>?_) AllReadyH.nil))
    ·go_simp
     refine (Q3.out Z1.out (fun b=>(F b∧b < w.heap.size)∨(v0.heap.size≤b∧b < v1.heap.size)) _ P0 (hx.trans hv12) (I0.out.mono fun b hb=>.inr hb) (fun b hb=>.inl hb)).mono ?_
     rintro e v13 ⟨P1,P2,rfl,i1,i2,hx0⟩
     have I1:=Lib.hid i1.in
     have I2:=Lib.hid i2.in
     clear i1 i2 I0
     have Sv13:=Lib.hid hx0.size_le
     have hv13:=hv12.trans hx0
     replace hb8:=hb8.ext hx0
     refine hK.out _ _ hv13 (fun _=>?_)
     clear hK hx0
     try simp only [Act.put,sA,s0,sS]
     refine tf (i:=4) (v:=(.tuple #[P1.v,P2.v,.bool k])) rfl rfl (fun _=>rfl) hv13 ?_
     try simp only [Act.put,sA,s0,sS]
     refine tf (i:=5) (v:=P1.v) rfl rfl (fun _=>rfl) hv13 ?_
     try simp only [Act.put,sA,s0,sS]
     refine tf (i:=6) (v:=P2.v) rfl rfl (fun _=>rfl) hv13 ?_
     try simp only [Act.put,sA,s0,sS]
     refine tf (i:=7) (v:=(.bool k)) rfl rfl (fun _=>rfl) hv13 ?_
     try simp only [Act.put,sA,s0,sS]
     refine wpAnyH_ready (rs:=[8]) (by kernel_rfl) (by simp) ?_
     refine (AllReadyH.cons rfl (fun K hK=>?_) AllReadyH.nil)
     ·go_simp
      have hx0:Ext v13 (v13.alloc (.cells zcells 28)):=(Ext.refl v13).alloc _
      have hb7:Blk (v13.alloc (.cells zcells 28)) v13.heap.size 28 zcells:=Blk.new' rfl
      have sv14:(v13.alloc (.cells zcells 28)).heap.size=v13.heap.size+1:=by simp
      generalize v13.alloc (.cells zcells 28)=v14 at hx0 hb7 sv14 ⊢
      obtain ⟨g7,eg7⟩:∃ g,g=v13.heap.size:=⟨_,rfl⟩
      rw [← eg7] at hb7 ⊢
      have Eg7:=Lib.hid eg7
      have Sv14:=Lib.hid sv14
      clear eg7 sv14
      have hv14:=hv13.trans hx0
      replace hb8:=hb8.ext hx0
      replace I1:=Lib.hid (I1.out.ext hx0)
      replace I2:=Lib.hid (I2.out.ext hx0)
      refine hK.out _ _ hv14 (fun _=>?_)
      clear hK hx0
      try simp only [Act.put,sA,s0,sS]
      have fSv1:=Sv1.out
      have fSv12:=Sv12.out
      have fEg8:=Eg8.out
      have fSv13:=Sv13.out
      have fSv14:=Sv14.out
      have fEg7:=Eg7.out
      have sv0:=S0.out
      have i1:=I1.out.mono (G:=fun b=>(F b∧b < w.heap.size)∨(w.heap.size+4≤b∧b≠g7∧b≠g8)) (fun b hb=>by rcases hb with ⟨(h | h) | h,h2⟩;exact .inl h;exact .inr (by omega);exact .inr (by omega))
      have i2:=I2.out.mono (G:=fun b=>(F b∧b < w.heap.size)∨(w.heap.size+4≤b∧b≠g7∧b≠g8)) (fun b hb=>by rcases hb with ⟨(h | h) | h,h2⟩;exact .inl h;exact .inr (by omega);exact .inr (by omega))
      refine two_stores (n:=10) (u:=.bool k) (v1:=parr P1) (v2:=parr P2) (by kernel_rfl) (by kernel_rfl) (by kernel_rfl) (by kernel_rfl) rfl rfl rfl rfl rfl rfl rfl rfl rfl rfl rfl rfl rfl rfl rfl rfl rfl hb7 hb8 rfl rfl (by omega) (by kernel_rfl) (by kernel_rfl) (by first | rfl | simp [Value.oneCell']) (by first | rfl | simp [Value.oneCell']) (Ext.setAll (by omega) _ _ _ hv14) (Ext.setAll (by omega) _ _ _ (Ext.setAll (by omega) _ _ _ hv14)) (fun W k7 k8 hst=>NoPanic.normal ?_) _
      try simp only [Act.put,sA,s0,sS]
      have LF:Hid (Mid F w c d W g7 g8):=Lib.hid ⟨P1,P2,k7,k8,by omega,by omega,by omega,Lib.hid (hst.keeps _ _ _ i1 (fun h=>by omega) (fun h=>by omega)),Lib.hid (hst.keeps _ _ _ i2 (fun h=>by omega) (fun h=>by omega))⟩
      have hy:=hst.ext w1 hv14 (by omega) (by omega)
      clear hst i1 i2 k7 k8 sv0 fSv1 fSv12 fEg8 fSv13 fSv14 fEg7 Sv1 Sv12 Eg8 Sv13 Sv14 Eg7
      go_wp2_with fail
      go_meet
      exact ⟨g7,g8,rfl,rfl,rfl,LF,hy⟩
    ·go_simp
     have hx0:Ext v12 (v12.alloc (.cells zcells 28)):=(Ext.refl v12).alloc _
     have hb7:Blk (v12.alloc (.cells zcells 28)) v12.heap.size 28 zcells:=Blk.new' rfl
     have sv15:(v12.alloc (.cells zcells 28)).heap.size=v12.heap.size+1:=by simp
     generalize v12.alloc (.cells zcells 28)=v15 at hx0 hb7 sv15 ⊢
     obtain ⟨g7,eg7⟩:∃ g,g=v12.heap.size:=⟨_,rfl⟩
     rw [← eg7] at hb7 ⊢
     have Eg7:=Lib.hid eg7
     have Sv15:=Lib.hid sv15
     clear eg7 sv15
     have hv15:=hv12.trans hx0
     replace hb8:=hb8.ext hx0
     replace I0:=Lib.hid (I0.out.ext hx0)
     refine hK.out _ _ hv15 (fun _=>?_)
     clear hK hx0
     try simp only [Act.put,sA,s0,sS]
     refine wpAnyH_ready (rs:=[3]) (by kernel_rfl) (by simp) ?_
     refine (AllReadyH.cons rfl (fun K hK=>?_) AllReadyH.nil)
     ·go_simp
      refine (Q3.out Z1.out (fun b=>(F b∧b < w.heap.size)∨(v0.heap.size≤b∧b < v1.heap.size)) _ P0 (hx.trans hv15) (I0.out.mono fun b hb=>.inr hb) (fun b hb=>.inl hb)).mono ?_
      rintro e v16 ⟨P1,P2,rfl,i1,i2,hx0⟩
      have I1:=Lib.hid i1.in
      have I2:=Lib.hid i2.in
      clear i1 i2 I0
      have Sv16:=Lib.hid hx0.size_le
      have hv16:=hv15.trans hx0
      replace hb8:=hb8.ext hx0
      replace hb7:=hb7.ext hx0
      refine hK.out _ _ hv16 (fun _=>?_)
      clear hK hx0
      try simp only [Act.put,sA,s0,sS]
      refine tf (i:=4) (v:=(.tuple #[P1.v,P2.v,.bool k])) rfl rfl (fun _=>rfl) hv16 ?_
      try simp only [Act.put,sA,s0,sS]
      refine tf (i:=5) (v:=P1.v) rfl rfl (fun _=>rfl) hv16 ?_
      try simp only [Act.put,sA,s0,sS]
      refine tf (i:=6) (v:=P2.v) rfl rfl (fun _=>rfl) hv16 ?_
      try simp only [Act.put,sA,s0,sS]
      refine tf (i:=7) (v:=(.bool k)) rfl rfl (fun _=>rfl) hv16 ?_
      try simp only [Act.put,sA,s0,sS]
      have fSv1:=Sv1.out
      have fSv12:=Sv12.out
      have fEg8:=Eg8.out
      have fSv15:=Sv15.out
      have fEg7:=Eg7.out
      have fSv16:=Sv16.out
      have sv0:=S0.out
      have i1:=I1.out.mono (G:=fun b=>(F b∧b < w.heap.size)∨(w.heap.size+4≤b∧b≠g7∧b≠g8)) (fun b hb=>by rcases hb with ⟨(h | h) | h,h2⟩;exact .inl h;exact .inr (by omega);exact .inr (by omega))
      have i2:=I2.out.mono (G:=fun b=>(F b∧b < w.heap.size)∨(w.heap.size+4≤b∧b≠g7∧b≠g8)) (fun b hb=>by rcases hb with ⟨(h | h) | h,h2⟩;exact .inl h;exact .inr (by omega);exact .inr (by omega))
      refine two_stores (n:=10) (u:=.bool k) (v1:=parr P1) (v2:=parr P2) (by kernel_rfl) (by kernel_rfl) (by kernel_rfl) (by kernel_rfl) rfl rfl rfl rfl rfl rfl rfl rfl rfl rfl rfl rfl rfl rfl rfl rfl rfl hb7 hb8 rfl rfl (by omega) (by kernel_rfl) (by kernel_rfl) (by first | rfl | simp [Value.oneCell']) (by first | rfl | simp [Value.oneCell']) (Ext.setAll (by omega) _ _ _ hv16) (Ext.setAll (by omega) _ _ _ (Ext.setAll (by omega) _ _ _ hv16)) (fun W k7 k8 hst=>NoPanic.normal ?_) _
      try simp only [Act.put,sA,s0,sS]
      have LF:Hid (Mid F w c d W g7 g8):=Lib.hid ⟨P1,P2,k7,k8,by omega,by omega,by omega,Lib.hid (hst.keeps _ _ _ i1 (fun h=>by omega) (fun h=>by omega)),Lib.hid (hst.keeps _ _ _ i2 (fun h=>by omega) (fun h=>by omega))⟩
      have hy:=hst.ext w1 hv16 (by omega) (by omega)
      clear hst i1 i2 k7 k8 sv0 fSv1 fSv12 fEg8 fSv15 fEg7 fSv16 Sv1 Sv12 Eg8 Sv15 Eg7 Sv16
      go_wp2_with fail
      go_meet
      exact ⟨g7,g8,rfl,rfl,rfl,LF,hy⟩
  ·go_simp
   have hx0:Ext v0 (v0.alloc (.cells zcells 28)):=(Ext.refl v0).alloc _
   have hb7:Blk (v0.alloc (.cells zcells 28)) v0.heap.size 28 zcells:=Blk.new' rfl
   have sv17:(v0.alloc (.cells zcells 28)).heap.size=v0.heap.size+1:=by simp
   generalize v0.alloc (.cells zcells 28)=v17 at hx0 hb7 sv17 ⊢
   obtain ⟨g7,eg7⟩:∃ g,g=v0.heap.size:=⟨_,rfl⟩
   rw [← eg7] at hb7 ⊢
   have Eg7:=Lib.hid eg7
   have Sv17:=Lib.hid sv17
   clear eg7 sv17
   have hv17:=hd.trans hx0
   refine hK.out _ _ hv17 (fun _=>?_)
   clear hK hx0
   try simp only [Act.put,sA,s0,sS]
   refine wpAnyH_ready (rs:=[1,9]) (by kernel_rfl) (by simp) ?_
   refine (AllReadyH.cons rfl (fun K hK=>?_) (AllReadyH.cons rfl (fun K hK=>?_) AllReadyH.nil))
   ·go_simp
    refine (Q2.out Z1.out _ (hx.trans hv17)).mono ?_
    rintro e v18 ⟨P0,rfl,i0,hx0⟩
    have I0:=Lib.hid i0.in
    clear i0
    have Sv18:=Lib.hid hx0.size_le
    have hv18:=hv17.trans hx0
    replace hb7:=hb7.ext hx0
    refine hK.out _ _ hv18 (fun _=>?_)
    clear hK hx0
    try simp only [Act.put,sA,s0,sS]
    refine wpAnyH_ready (rs:=[3,9]) (by kernel_rfl) (by simp) ?_
    refine (AllReadyH.cons rfl (fun K hK=>?_) (AllReadyH.cons rfl (fun K hK=>?_) AllReadyH.nil))
    ·go_simp
     refine (Q3.out Z1.out (fun b=>(F b∧b < w.heap.size)∨(v17.heap.size≤b∧b < v18.heap.size)) _ P0 (hx.trans hv18) (I0.out.mono fun b hb=>.inr hb) (fun b hb=>.inl hb)).mono ?_
     rintro e v19 ⟨P1,P2,rfl,i1,i2,hx0⟩
     have I1:=Lib.hid i1.in
     have I2:=Lib.hid i2.in
     clear i1 i2 I0
     have Sv19:=Lib.hid hx0.size_le
     have hv19:=hv18.trans hx0
     replace hb7:=hb7.ext hx0
     refine hK.out _ _ hv19 (fun _=>?_)
     clear hK hx0
     try simp only [Act.put,sA,s0,sS]
     refine tf (i:=4) (v:=(.tuple #[P1.v,P2.v,.bool k])) rfl rfl (fun _=>rfl) hv19 ?_
     try simp only [Act.put,sA,s0,sS]
     refine tf (i:=5) (v:=P1.v) rfl rfl (fun _=>rfl) hv19 ?_
     try simp only [Act.put,sA,s0,sS]
     refine tf (i:=6) (v:=P2.v) rfl rfl (fun _=>rfl) hv19 ?_
     try simp only [Act.put,sA,s0,sS]
     refine tf (i:=7) (v:=(.bool k)) rfl rfl (fun _=>rfl) hv19 ?_
     try simp only [Act.put,sA,s0,sS]
     refine wpAnyH_ready (rs:=[9]) (by kernel_rfl) (by simp) ?_
     refine (AllReadyH.cons rfl (fun K hK=>?_) AllReadyH.nil)
     ·go_simp
      have hx0:Ext v19 (v19.alloc (.cells zcells 28)):=(Ext.refl v19).alloc _
      have hb8:Blk (v19.alloc (.cells zcells 28)) v19.heap.size 28 zcells:=Blk.new' rfl
      have sv20:(v19.alloc (.cells zcells 28)).heap.size=v19.heap.size+1:=by simp
      generalize v19.alloc (.cells zcells 28)=v20 at hx0 hb8 sv20 ⊢
      obtain ⟨g8,eg8⟩:∃ g,g=v19.heap.size:=⟨_,rfl⟩
      rw [← eg8] at hb8 ⊢
      have Eg8:=Lib.hid eg8
      have Sv20:=Lib.hid sv20
      clear eg8 sv20
      have hv20:=hv19.trans hx0
      replace hb7:=hb7.ext hx0
      replace I1:=Lib.hid (I1.out.ext hx0)
      replace I2:=Lib.hid (I2.out.ext hx0)
      refine hK.out _ _ hv20 (fun _=>?_)
      clear hK hx0
      try simp only [Act.put,sA,s0,sS]
      have fSv17:=Sv17.out
      have fEg7:=Eg7.out
      have fSv18:=Sv18.out
      have fSv19:=Sv19.out
      have fSv20:=Sv20.out
      have fEg8:=Eg8.out
      have sv0:=S0.out
      have i1:=I1.out.mono (G:=fun b=>(F b∧b < w.heap.size)∨(w.heap.size+4≤b∧b≠g7∧b≠g8)) (fun b hb=>by rcases hb with ⟨(h | h) | h,h2⟩;exact .inl h;exact .inr (by omega);exact .inr (by omega))
      have i2:=I2.out.mono (G:=fun b=>(F b∧b < w.heap.size)∨(w.heap.size+4≤b∧b≠g7∧b≠g8)) (fun b hb=>by rcases hb with ⟨(h | h) | h,h2⟩;exact .inl h;exact .inr (by omega);exact .inr (by omega))
      refine two_stores (n:=10) (u:=.bool k) (v1:=parr P1) (v2:=parr P2) (by kernel_rfl) (by kernel_rfl) (by kernel_rfl) (by kernel_rfl) rfl rfl rfl rfl rfl rfl rfl rfl rfl rfl rfl rfl rfl rfl rfl rfl rfl hb7 hb8 rfl rfl (by omega) (by kernel_rfl) (by kernel_rfl) (by first | rfl | simp [Value.oneCell']) (by first | rfl | simp [Value.oneCell']) (Ext.setAll (by omega) _ _ _ hv20) (Ext.setAll (by omega) _ _ _ (Ext.setAll (by omega) _ _ _ hv20)) (fun W k7 k8 hst=>NoPanic.normal ?_) _
      try simp only [Act.put,sA,s0,sS]
      have LF:Hid (Mid F w c d W g7 g8):=Lib.hid ⟨P1,P2,k7,k8,by omega,by omega,by omega,Lib.hid (hst.keeps _ _ _ i1 (fun h=>by omega) (fun h=>by omega)),Lib.hid (hst.keeps _ _ _ i2 (fun h=>by omega) (fun h=>by omega))⟩
      have hy:=hst.ext w1 hv20 (by omega) (by omega)
      clear hst i1 i2 k7 k8 sv0 fSv17 fEg7 fSv18 fSv19 fSv20 fEg8 Sv17 Eg7 Sv18 Sv19 Sv20 Eg8
      go_wp2_with fail
      go_meet
      exact ⟨g7,g8,rfl,rfl,rfl,LF,hy⟩
    ·go_simp
     have hx0:Ext v18 (v18.alloc (.cells zcells 28)):=(Ext.refl v18).alloc _
     have hb8:Blk (v18.alloc (.cells zcells 28)) v18.heap.size 28 zcells:=Blk.new' rfl
     have sv21:(v18.alloc (.cells zcells 28)).heap.size=v18.heap.size+1:=by simp
     generalize v18.alloc (.cells zcells 28)=v21 at hx0 hb8 sv21 ⊢
     obtain ⟨g8,eg8⟩:∃ g,g=v18.heap.size:=⟨_,rfl⟩
     rw [← eg8] at hb8 ⊢
     have Eg8:=Lib.hid eg8
     have Sv21:=Lib.hid sv21
     clear eg8 sv21
     have hv21:=hv18.trans hx0
     replace hb7:=hb7.ext hx0
     replace I0:=Lib.hid (I0.out.ext hx0)
     refine hK.out _ _ hv21 (fun _=>?_)
     clear hK hx0
     try simp only [Act.put,sA,s0,sS]
     refine wpAnyH_ready (rs:=[3]) (by kernel_rfl) (by simp) ?_
     refine (AllReadyH.cons rfl (fun K hK=>?_) AllReadyH.nil)
     ·go_simp
      refine (Q3.out Z1.out (fun b=>(F b∧b < w.heap.size)∨(v17.heap.size≤b∧b < v18.heap.size)) _ P0 (hx.trans hv21) (I0.out.mono fun b hb=>.inr hb) (fun b hb=>.inl hb)).mono ?_
      rintro e v22 ⟨P1,P2,rfl,i1,i2,hx0⟩
      have I1:=Lib.hid i1.in
      have I2:=Lib.hid i2.in
      clear i1 i2 I0
      have Sv22:=Lib.hid hx0.size_le
      have hv22:=hv21.trans hx0
      replace hb7:=hb7.ext hx0
      replace hb8:=hb8.ext hx0
      refine hK.out _ _ hv22 (fun _=>?_)
      clear hK hx0
      try simp only [Act.put,sA,s0,sS]
      refine tf (i:=4) (v:=(.tuple #[P1.v,P2.v,.bool k])) rfl rfl (fun _=>rfl) hv22 ?_
      try simp only [Act.put,sA,s0,sS]
      refine tf (i:=5) (v:=P1.v) rfl rfl (fun _=>rfl) hv22 ?_
      try simp only [Act.put,sA,s0,sS]
      refine tf (i:=6) (v:=P2.v) rfl rfl (fun _=>rfl) hv22 ?_
      try simp only [Act.put,sA,s0,sS]
      refine tf (i:=7) (v:=(.bool k)) rfl rfl (fun _=>rfl) hv22 ?_
      try simp only [Act.put,sA,s0,sS]
      have fSv17:=Sv17.out
      have fEg7:=Eg7.out
      have fSv18:=Sv18.out
      have fSv21:=Sv21.out
      have fEg8:=Eg8.out
      have fSv22:=Sv22.out
      have sv0:=S0.out
      have i1:=I1.out.mono (G:=fun b=>(F b∧b < w.heap.size)∨(w.heap.size+4≤b∧b≠g7∧b≠g8)) (fun b hb=>by rcases hb with ⟨(h | h) | h,h2⟩;exact .inl h;exact .inr (by omega);exact .inr (by omega))
      have i2:=I2.out.mono (G:=fun b=>(F b∧b < w.heap.size)∨(w.heap.size+4≤b∧b≠g7∧b≠g8)) (fun b hb=>by rcases hb with ⟨(h | h) | h,h2⟩;exact .inl h;exact .inr (by omega);exact .inr (by omega))
      refine two_stores (n:=10) (u:=.bool k) (v1:=parr P1) (v2:=parr P2) (by kernel_rfl) (by kernel_rfl) (by kernel_rfl) (by kernel_rfl) rfl rfl rfl rfl rfl rfl rfl rfl rfl rfl rfl rfl rfl rfl rfl rfl rfl hb7 hb8 rfl rfl (by omega) (by kernel_rfl) (by kernel_rfl) (by first | rfl | simp [Value.oneCell']) (by first | rfl | simp [Value.oneCell']) (Ext.setAll (by omega) _ _ _ hv22) (Ext.setAll (by omega) _ _ _ (Ext.setAll (by omega) _ _ _ hv22)) (fun W k7 k8 hst=>NoPanic.normal ?_) _
      try simp only [Act.put,sA,s0,sS]
      have LF:Hid (Mid F w c d W g7 g8):=Lib.hid ⟨P1,P2,k7,k8,by omega,by omega,by omega,Lib.hid (hst.keeps _ _ _ i1 (fun h=>by omega) (fun h=>by omega)),Lib.hid (hst.keeps _ _ _ i2 (fun h=>by omega) (fun h=>by omega))⟩
      have hy:=hst.ext w1 hv22 (by omega) (by omega)
      clear hst i1 i2 k7 k8 sv0 fSv17 fEg7 fSv18 fSv21 fEg8 fSv22 Sv17 Eg7 Sv18 Sv21 Eg8 Sv22
      go_wp2_with fail
      go_meet
      exact ⟨g7,g8,rfl,rfl,rfl,LF,hy⟩
   ·go_simp
    have hx0:Ext v17 (v17.alloc (.cells zcells 28)):=(Ext.refl v17).alloc _
    have hb8:Blk (v17.alloc (.cells zcells 28)) v17.heap.size 28 zcells:=Blk.new' rfl
    have sv23:(v17.alloc (.cells zcells 28)).heap.size=v17.heap.size+1:=by simp
    generalize v17.alloc (.cells zcells 28)=v23 at hx0 hb8 sv23 ⊢
    obtain ⟨g8,eg8⟩:∃ g,g=v17.heap.size:=⟨_,rfl⟩
    rw [← eg8] at hb8 ⊢
    have Eg8:=Lib.hid eg8
    have Sv23:=Lib.hid sv23
    clear eg8 sv23
    have hv23:=hv17.trans hx0
    replace hb7:=hb7.ext hx0
    refine hK.out _ _ hv23 (fun _=>?_)
    clear hK hx0
    try simp only [Act.put,sA,s0,sS]
    refine wpAnyH_ready (rs:=[1]) (by kernel_rfl) (by simp) ?_
    refine (AllReadyH.cons rfl (fun K hK=>?_) AllReadyH.nil)
    ·go_simp
     refine (Q2.out Z1.out _ (hx.trans hv23)).mono ?_
     rintro e v24 ⟨P0,rfl,i0,hx0⟩
     have I0:=Lib.hid i0.in
     clear i0
     have Sv24:=Lib.hid hx0.size_le
     have hv24:=hv23.trans hx0
     replace hb7:=hb7.ext hx0
     replace hb8:=hb8.ext hx0
     refine hK.out _ _ hv24 (fun _=>?_)
     clear hK hx0
     try simp only [Act.put,sA,s0,sS]
     refine wpAnyH_ready (rs:=[3]) (by kernel_rfl) (by simp) ?_
     refine (AllReadyH.cons rfl (fun K hK=>?_) AllReadyH.nil)
     ·go_simp
      refine (Q3.out Z1.out (fun b=>(F b∧b < w.heap.size)∨(v23.heap.size≤b∧b < v24.heap.size)) _ P0 (hx.trans hv24) (I0.out.mono fun b hb=>.inr hb) (fun b hb=>.inl hb)).mono ?_
      rintro e v25 ⟨P1,P2,rfl,i1,i2,hx0⟩
      have I1:=Lib.hid i1.in
      have I2:=Lib.hid i2.in
      clear i1 i2 I0
      have Sv25:=Lib.hid hx0.size_le
      have hv25:=hv24.trans hx0
      replace hb7:=hb7.ext hx0
      replace hb8:=hb8.ext hx0
      refine hK.out _ _ hv25 (fun _=>?_)
      clear hK hx0
      try simp only [Act.put,sA,s0,sS]
      refine tf (i:=4) (v:=(.tuple #[P1.v,P2.v,.bool k])) rfl rfl (fun _=>rfl) hv25 ?_
      try simp only [Act.put,sA,s0,sS]
      refine tf (i:=5) (v:=P1.v) rfl rfl (fun _=>rfl) hv25 ?_
      try simp only [Act.put,sA,s0,sS]
      refine tf (i:=6) (v:=P2.v) rfl rfl (fun _=>rfl) hv25 ?_
      try simp only [Act.put,sA,s0,sS]
      refine tf (i:=7) (v:=(.bool k)) rfl rfl (fun _=>rfl) hv25 ?_
      try simp only [Act.put,sA,s0,sS]
      have fSv17:=Sv17.out
      have fEg7:=Eg7.out
      have fSv23:=Sv23.out
      have fEg8:=Eg8.out
      have fSv24:=Sv24.out
      have fSv25:=Sv25.out
      have sv0:=S0.out
      have i1:=I1.out.mono (G:=fun b=>(F b∧b < w.heap.size)∨(w.heap.size+4≤b∧b≠g7∧b≠g8)) (fun b hb=>by rcases hb with ⟨(h | h) | h,h2⟩;exact .inl h;exact .inr (by omega);exact .inr (by omega))
      have i2:=I2.out.mono (G:=fun b=>(F b∧b < w.heap.size)∨(w.heap.size+4≤b∧b≠g7∧b≠g8)) (fun b hb=>by rcases hb with ⟨(h | h) | h,h2⟩;exact .inl h;exact .inr (by omega);exact .inr (by omega))
      refine two_stores (n:=10) (u:=.bool k) (v1:=parr P1) (v2:=parr P2) (by kernel_rfl) (by kernel_rfl) (by kernel_rfl) (by kernel_rfl) rfl rfl rfl rfl rfl rfl rfl rfl rfl rfl rfl rfl rfl rfl rfl rfl rfl hb7 hb8 rfl rfl (by omega) (by kernel_rfl) (by kernel_rfl) (by first | rfl | simp [Value.oneCell']) (by first | rfl | simp [Value.oneCell']) (Ext.setAll (by omega) _ _ _ hv25) (Ext.setAll (by omega) _ _ _ (Ext.setAll (by omega) _ _ _ hv25)) (fun W k7 k8 hst=>NoPanic.normal ?_) _
      try simp only [Act.put,sA,s0,sS]
      have LF:Hid (Mid F w c d W g7 g8):=Lib.hid ⟨P1,P2,k7,k8,by omega,by omega,by omega,Lib.hid (hst.keeps _ _ _ i1 (fun h=>by omega) (fun h=>by omega)),Lib.hid (hst.keeps _ _ _ i2 (fun h=>by omega) (fun h=>by omega))⟩
      have hy:=hst.ext w1 hv25 (by omega) (by omega)
      clear hst i1 i2 k7 k8 sv0 fSv17 fEg7 fSv23 fEg8 fSv24 fSv25 Sv17 Eg7 Sv23 Eg8 Sv24 Sv25
      go_wp2_with fail
      go_meet
      exact ⟨g7,g8,rfl,rfl,rfl,LF,hy⟩
  ·go_simp
   have hx0:Ext v0 (v0.alloc (.cells zcells 28)):=(Ext.refl v0).alloc _
   have hb8:Blk (v0.alloc (.cells zcells 28)) v0.heap.size 28 zcells:=Blk.new' rfl
   have sv26:(v0.alloc (.cells zcells 28)).heap.size=v0.heap.size+1:=by simp
   generalize v0.alloc (.cells zcells 28)=v26 at hx0 hb8 sv26 ⊢
   obtain ⟨g8,eg8⟩:∃ g,g=v0.heap.size:=⟨_,rfl⟩
   rw [← eg8] at hb8 ⊢
   have Eg8:=Lib.hid eg8
   have Sv26:=Lib.hid sv26
   clear eg8 sv26
   have hv26:=hd.trans hx0
   refine hK.out _ _ hv26 (fun _=>?_)
   clear hK hx0
   try simp only [Act.put,sA,s0,sS]
   refine wpAnyH_ready (rs:=[1,8]) (by kernel_rfl) (by simp) ?_
   refine (AllReadyH.cons rfl (fun K hK=>?_) (AllReadyH.cons rfl (fun K hK=>?_) AllReadyH.nil))
   ·go_simp
    refine (Q2.out Z1.out _ (hx.trans hv26)).mono ?_
    rintro e v27 ⟨P0,rfl,i0,hx0⟩
    have I0:=Lib.hid i0.in
    clear i0
    have Sv27:=Lib.hid hx0.size_le
    have hv27:=hv26.trans hx0
    replace hb8:=hb8.ext hx0
    refine hK.out _ _ hv27 (fun _=>?_)
    clear hK hx0
    try simp only [Act.put,sA,s0,sS]
    refine wpAnyH_ready (rs:=[3,8]) (by kernel_rfl) (by simp) ?_
    refine (AllReadyH.cons rfl (fun K hK=>?_) (AllReadyH.cons rfl (fun K hK=>?_) AllReadyH.nil))
    ·go_simp
     refine (Q3.out Z1.out (fun b=>(F b∧b < w.heap.size)∨(v26.heap.size≤b∧b < v27.heap.size)) _ P0 (hx.trans hv27) (I0.out.mono fun b hb=>.inr hb) (fun b hb=>.inl hb)).mono ?_
     rintro e v28 ⟨P1,P2,rfl,i1,i2,hx0⟩
     have I1:=Lib.hid i1.in
     have I2:=Lib.hid i2.in
     clear i1 i2 I0
     have Sv28:=Lib.hid hx0.size_le
     have hv28:=hv27.trans hx0
     replace hb8:=hb8.ext hx0
     refine hK.out _ _ hv28 (fun _=>?_)
     clear hK hx0
     try simp only [Act.put,sA,s0,sS]
     refine tf (i:=4) (v:=(.tuple #[P1.v,P2.v,.bool k])) rfl rfl (fun _=>rfl) hv28 ?_
     try simp only [Act.put,sA,s0,sS]
     refine tf (i:=5) (v:=P1.v) rfl rfl (fun _=>rfl) hv28 ?_
     try simp only [Act.put,sA,s0,sS]
     refine tf (i:=6) (v:=P2.v) rfl rfl (fun _=>rfl) hv28 ?_
     try simp only [Act.put,sA,s0,sS]
     refine tf (i:=7) (v:=(.bool k)) rfl rfl (fun _=>rfl) hv28 ?_
     try simp only [Act.put,sA,s0,sS]
     refine wpAnyH_ready (rs:=[8]) (by kernel_rfl) (by simp) ?_
     refine (AllReadyH.cons rfl (fun K hK=>?_) AllReadyH.nil)
     ·go_simp
      have hx0:Ext v28 (v28.alloc (.cells zcells 28)):=(Ext.refl v28).alloc _
      have hb7:Blk (v28.alloc (.cells zcells 28)) v28.heap.size 28 zcells:=Blk.new' rfl
      have sv29:(v28.alloc (.cells zcells 28)).heap.size=v28.heap.size+1:=by simp
      generalize v28.alloc (.cells zcells 28)=v29 at hx0 hb7 sv29 ⊢
      obtain ⟨g7,eg7⟩:∃ g,g=v28.heap.size:=⟨_,rfl⟩
      rw [← eg7] at hb7 ⊢
      have Eg7:=Lib.hid eg7
      have Sv29:=Lib.hid sv29
      clear eg7 sv29
      have hv29:=hv28.trans hx0
      replace hb8:=hb8.ext hx0
      replace I1:=Lib.hid (I1.out.ext hx0)
      replace I2:=Lib.hid (I2.out.ext hx0)
      refine hK.out _ _ hv29 (fun _=>?_)
      clear hK hx0
      try simp only [Act.put,sA,s0,sS]
      have fSv26:=Sv26.out
      have fEg8:=Eg8.out
      have fSv27:=Sv27.out
      have fSv28:=Sv28.out
      have fSv29:=Sv29.out
      have fEg7:=Eg7.out
      have sv0:=S0.out
      have i1:=I1.out.mono (G:=fun b=>(F b∧b < w.heap.size)∨(w.heap.size+4≤b∧b≠g7∧b≠g8)) (fun b hb=>by rcases hb with ⟨(h | h) | h,h2⟩;exact .inl h;exact .inr (by omega);exact .inr (by omega))
      have i2:=I2.out.mono (G:=fun b=>(F b∧b < w.heap.size)∨(w.heap.size+4≤b∧b≠g7∧b≠g8)) (fun b hb=>by rcases hb with ⟨(h | h) | h,h2⟩;exact .inl h;exact .inr (by omega);exact .inr (by omega))
      refine two_stores (n:=10) (u:=.bool k) (v1:=parr P1) (v2:=parr P2) (by kernel_rfl) (by kernel_rfl) (by kernel_rfl) (by kernel_rfl) rfl rfl rfl rfl rfl rfl rfl rfl rfl rfl rfl rfl rfl rfl rfl rfl rfl hb7 hb8 rfl rfl (by omega) (by kernel_rfl) (by kernel_rfl) (by first | rfl | simp [Value.oneCell']) (by first | rfl | simp [Value.oneCell']) (Ext.setAll (by omega) _ _ _ hv29) (Ext.setAll (by omega) _ _ _ (Ext.setAll (by omega) _ _ _ hv29)) (fun W k7 k8 hst=>NoPanic.normal ?_) _
      try simp only [Act.put,sA,s0,sS]
      have LF:Hid (Mid F w c d W g7 g8):=Lib.hid ⟨P1,P2,k7,k8,by omega,by omega,by omega,Lib.hid (hst.keeps _ _ _ i1 (fun h=>by omega) (fun h=>by omega)),Lib.hid (hst.keeps _ _ _ i2 (fun h=>by omega) (fun h=>by omega))⟩
      have hy:=hst.ext w1 hv29 (by omega) (by omega)
      clear hst i1 i2 k7 k8 sv0 fSv26 fEg8 fSv27 fSv28 fSv29 fEg7 Sv26 Eg8 Sv27 Sv28 Sv29 Eg7
      go_wp2_with fail
      go_meet
      exact ⟨g7,g8,rfl,rfl,rfl,LF,hy⟩
    ·go_simp
     have hx0:Ext v27 (v27.alloc (.cells zcells 28)):=(Ext.refl v27).alloc _
     have hb7:Blk (v27.alloc (.cells zcells 28)) v27.heap.size 28 zcells:=Blk.new' rfl
     have sv30:(v27.alloc (.cells zcells 28)).heap.size=v27.heap.size+1:=by simp
     generalize v27.alloc (.cells zcells 28)=v30 at hx0 hb7 sv30 ⊢
     obtain ⟨g7,eg7⟩:∃ g,g=v27.heap.size:=⟨_,rfl⟩
     rw [← eg7] at hb7 ⊢
     have Eg7:=Lib.hid eg7
     have Sv30:=Lib.hid sv30
     clear eg7 sv30
     have hv30:=hv27.trans hx0
     replace hb8:=hb8.ext hx0
     replace I0:=Lib.hid (I0.out.ext hx0)
     refine hK.out _ _ hv30 (fun _=>?_)
     clear hK hx0
     try simp only [Act.put,sA,s0,sS]
     refine wpAnyH_ready (rs:=[3]) (by kernel_rfl) (by simp) ?_
     refine (AllReadyH.cons rfl (fun K hK=>?_) AllReadyH.nil)
     ·go_simp
      refine (Q3.out Z1.out (fun b=>(F b∧b < w.heap.size)∨(v26.heap.size≤b∧b < v27.heap.size)) _ P0 (hx.trans hv30) (I0.out.mono fun b hb=>.inr hb) (fun b hb=>.inl hb)).mono ?_
      rintro e v31 ⟨P1,P2,rfl,i1,i2,hx0⟩
      have I1:=Lib.hid i1.in
      have I2:=Lib.hid i2.in
      clear i1 i2 I0
      have Sv31:=Lib.hid hx0.size_le
      have hv31:=hv30.trans hx0
      replace hb8:=hb8.ext hx0
      replace hb7:=hb7.ext hx0
      refine hK.out _ _ hv31 (fun _=>?_)
      clear hK hx0
      try simp only [Act.put,sA,s0,sS]
      refine tf (i:=4) (v:=(.tuple #[P1.v,P2.v,.bool k])) rfl rfl (fun _=>rfl) hv31 ?_
      try simp only [Act.put,sA,s0,sS]
      refine tf (i:=5) (v:=P1.v) rfl rfl (fun _=>rfl) hv31 ?_
      try simp only [Act.put,sA,s0,sS]
      refine tf (i:=6) (v:=P2.v) rfl rfl (fun _=>rfl) hv31 ?_
      try simp only [Act.put,sA,s0,sS]
      refine tf (i:=7) (v:=(.bool k)) rfl rfl (fun _=>rfl) hv31 ?_
      try simp only [Act.put,sA,s0,sS]
      have fSv26:=Sv26.out
      have fEg8:=Eg8.out
      have fSv27:=Sv27.out
      have fSv30:=Sv30.out
      have fEg7:=Eg7.out
      have fSv31:=Sv31.out
      have sv0:=S0.out
      have i1:=I1.out.mono (G:=fun b=>(F b∧b < w.heap.size)∨(w.heap.size+4≤b∧b≠g7∧b≠g8)) (fun b hb=>by rcases hb with ⟨(h | h) | h,h2⟩;exact .inl h;exact .inr (by omega);exact .inr (by omega))
      have i2:=I2.out.mono (G:=fun b=>(F b∧b < w.heap.size)∨(w.heap.size+4≤b∧b≠g7∧b≠g8)) (fun b hb=>by rcases hb with ⟨(h | h) | h,h2⟩;exact .inl h;exact .inr (by omega);exact .inr (by omega))
      refine two_stores (n:=10) (u:=.bool k) (v1:=parr P1) (v2:=parr P2) (by kernel_rfl) (by kernel_rfl) (by kernel_rfl) (by kernel_rfl) rfl rfl rfl rfl rfl rfl rfl rfl rfl rfl rfl rfl rfl rfl rfl rfl rfl hb7 hb8 rfl rfl (by omega) (by kernel_rfl) (by kernel_rfl) (by first | rfl | simp [Value.oneCell']) (by first | rfl | simp [Value.oneCell']) (Ext.setAll (by omega) _ _ _ hv31) (Ext.setAll (by omega) _ _ _ (Ext.setAll (by omega) _ _ _ hv31)) (fun W k7 k8 hst=>NoPanic.normal ?_) _
      try simp only [Act.put,sA,s0,sS]
      have LF:Hid (Mid F w c d W g7 g8):=Lib.hid ⟨P1,P2,k7,k8,by omega,by omega,by omega,Lib.hid (hst.keeps _ _ _ i1 (fun h=>by omega) (fun h=>by omega)),Lib.hid (hst.keeps _ _ _ i2 (fun h=>by omega) (fun h=>by omega))⟩
      have hy:=hst.ext w1 hv31 (by omega) (by omega)
      clear hst i1 i2 k7 k8 sv0 fSv26 fEg8 fSv27 fSv30 fEg7 fSv31 Sv26 Eg8 Sv27 Sv30 Eg7 Sv31
      go_wp2_with fail
      go_meet
      exact ⟨g7,g8,rfl,rfl,rfl,LF,hy⟩
   ·go_simp
    have hx0:Ext v26 (v26.alloc (.cells zcells 28)):=(Ext.refl v26).alloc _
    have hb7:Blk (v26.alloc (.cells zcells 28)) v26.heap.size 28 zcells:=Blk.new' rfl
    have sv32:(v26.alloc (.cells zcells 28)).heap.size=v26.heap.size+1:=by simp
    generalize v26.alloc (.cells zcells 28)=v32 at hx0 hb7 sv32 ⊢
    obtain ⟨g7,eg7⟩:∃ g,g=v26.heap.size:=⟨_,rfl⟩
    rw [← eg7] at hb7 ⊢
    have Eg7:=Lib.hid eg7
    have Sv32:=Lib.hid sv32
    clear eg7 sv32
    have hv32:=hv26.trans hx0
    replace hb8:=hb8.ext hx0
    refine hK.out _ _ hv32 (fun _=>?_)
    clear hK hx0
    try simp only [Act.put,sA,s0,sS]
    refine wpAnyH_ready (rs:=[1]) (by kernel_rfl) (by simp) ?_
    refine (AllReadyH.cons rfl (fun K hK=>?_) AllReadyH.nil)
    ·go_simp
     refine (Q2.out Z1.out _ (hx.trans hv32)).mono ?_
     rintro e v33 ⟨P0,rfl,i0,hx0⟩
     have I0:=Lib.hid i0.in
     clear i0
     have Sv33:=Lib.hid hx0.size_le
     have hv33:=hv32.trans hx0
     replace hb8:=hb8.ext hx0
     replace hb7:=hb7.ext hx0
     refine hK.out _ _ hv33 (fun _=>?_)
     clear hK hx0
     try simp only [Act.put,sA,s0,sS]
     refine wpAnyH_ready (rs:=[3]) (by kernel_rfl) (by simp) ?_
     refine (AllReadyH.cons rfl (fun K hK=>?_) AllReadyH.nil)
     ·go_simp
      refine (Q3.out Z1.out (fun b=>(F b∧b < w.heap.size)∨(v32.heap.size≤b∧b < v33.heap.size)) _ P0 (hx.trans hv33) (I0.out.mono fun b hb=>.inr hb) (fun b hb=>.inl hb)).mono ?_
      rintro e v34 ⟨P1,P2,rfl,i1,i2,hx0⟩
      have I1:=Lib.hid i1.in
      have I2:=Lib.hid i2.in
      clear i1 i2 I0
      have Sv34:=Lib.hid hx0.size_le
      have hv34:=hv33.trans hx0
      replace hb8:=hb8.ext hx0
      replace hb7:=hb7.ext hx0
      refine hK.out _ _ hv34 (fun _=>?_)
      clear hK hx0
      try simp only [Act.put,sA,s0,sS]
      refine tf (i:=4) (v:=(.tuple #[P1.v,P2.v,.bool k])) rfl rfl (fun _=>rfl) hv34 ?_
      try simp only [Act.put,sA,s0,sS]
      refine tf (i:=5) (v:=P1.v) rfl rfl (fun _=>rfl) hv34 ?_
      try simp only [Act.put,sA,s0,sS]
      refine tf (i:=6) (v:=P2.v) rfl rfl (fun _=>rfl) hv34 ?_
      try simp only [Act.put,sA,s0,sS]
      refine tf (i:=7) (v:=(.bool k)) rfl rfl (fun _=>rfl) hv34 ?_
      try simp only [Act.put,sA,s0,sS]
      have fSv26:=Sv26.out
      have fEg8:=Eg8.out
      have fSv32:=Sv32.out
      have fEg7:=Eg7.out
      have fSv33:=Sv33.out
      have fSv34:=Sv34.out
      have sv0:=S0.out
      have i1:=I1.out.mono (G:=fun b=>(F b∧b < w.heap.size)∨(w.heap.size+4≤b∧b≠g7∧b≠g8)) (fun b hb=>by rcases hb with ⟨(h | h) | h,h2⟩;exact .inl h;exact .inr (by omega);exact .inr (by omega))
      have i2:=I2.out.mono (G:=fun b=>(F b∧b < w.heap.size)∨(w.heap.size+4≤b∧b≠g7∧b≠g8)) (fun b hb=>by rcases hb with ⟨(h | h) | h,h2⟩;exact .inl h;exact .inr (by omega);exact .inr (by omega))
      refine two_stores (n:=10) (u:=.bool k) (v1:=parr P1) (v2:=parr P2) (by kernel_rfl) (by kernel_rfl) (by kernel_rfl) (by kernel_rfl) rfl rfl rfl rfl rfl rfl rfl rfl rfl rfl rfl rfl rfl rfl rfl rfl rfl hb7 hb8 rfl rfl (by omega) (by kernel_rfl) (by kernel_rfl) (by first | rfl | simp [Value.oneCell']) (by first | rfl | simp [Value.oneCell']) (Ext.setAll (by omega) _ _ _ hv34) (Ext.setAll (by omega) _ _ _ (Ext.setAll (by omega) _ _ _ hv34)) (fun W k7 k8 hst=>NoPanic.normal ?_) _
      try simp only [Act.put,sA,s0,sS]
      have LF:Hid (Mid F w c d W g7 g8):=Lib.hid ⟨P1,P2,k7,k8,by omega,by omega,by omega,Lib.hid (hst.keeps _ _ _ i1 (fun h=>by omega) (fun h=>by omega)),Lib.hid (hst.keeps _ _ _ i2 (fun h=>by omega) (fun h=>by omega))⟩
      have hy:=hst.ext w1 hv34 (by omega) (by omega)
      clear hst i1 i2 k7 k8 sv0 fSv26 fEg8 fSv32 fEg7 fSv33 fSv34 Sv26 Eg8 Sv32 Eg7 Sv33 Sv34
      go_wp2_with fail
      go_meet
      exact ⟨g7,g8,rfl,rfl,rfl,LF,hy⟩
 case rest=>
  obtain ⟨g7,g8,rfl,rfl,rfl,HMid,hx0⟩:=hcut
  have hs1:w.heap.size+4≤w1.heap.size:=by have :=hb3.lt;omega
  have hs2:=hx0.size_le
  replace hb0:=hb0.ext hx0
  replace hb1:=hb1.ext hx0
  replace hb2:=hb2.ext hx0
  replace hb3:=hb3.ext hx0
  have hx1:=Ext.trans (a:=w) EX hx0
  clear hx hx0 Q2 Q3
  have hx:=hx1
  clear hx1
  obtain ⟨P1,P2,hb7,hb8,hne,l7,l8,i1,i2⟩:=HMid.out
  clear HMid
  cases k
  ·have HZ:Hid (R=(Qp.zero,Qp.zero,false)):=Lib.hid (by rw [HM.out];simp)
   clear HM i1 i2 Q4
   obtain ⟨hc2,hf2,hl2⟩:=hb2.all
   obtain ⟨hc3,hf3,hl3⟩:=hb3.all
   go_wp2_with fail
   refine bodyPost_ret (v:=.tuple #[(Qp.zero.pv none 0 none 0).v,(Qp.zero.pv none 0 none 0).v,.bool false]) ?_ rfl ?_
   ·simp only [results,Tryz.results124]
    go_simp
    simp [Qp.zero]
   ·rw [HZ.out]
    exact ⟨_,_,rfl,Lib.hid (Is.none _ _ Qp.zero rfl rfl),Lib.hid (Is.none _ _ Qp.zero rfl rfl),EX⟩
  ·have HZ:Hid (R=(c,d.inv,true)):=Lib.hid (by rw [HM.out];simp)
   clear HM
   go_wp2_with fail
   refine wp_region_noPanic (wp_region_held_drew (S:=fun w'=>Blk w' g7 28 (parr P1)∧Blk w' g8 28 (parr P2)) (by kernel_rfl) ⟨hb7.drew,hb8.drew⟩ (fun hH=>?_))
   refine tl (i:=0) (parr P1).toList rfl rfl rfl rfl rfl Tryz.underlying28 rfl (fun _ h=>h.1.range 0 _ (fun j _=>by rw [Nat.zero_add,Array.getElem?_toList])) hH ?_
   try simp only [Act.put,sA,s0,sS]
   refine tl (i:=1) (parr P2).toList rfl rfl rfl rfl rfl Tryz.underlying28 rfl (fun _ h=>h.2.range 0 _ (fun j _=>by rw [Nat.zero_add,Array.getElem?_toList])) hH ?_
   try simp only [Act.put,sA,s0,sS]
   have hd:Ext wc wc.drew:=(Ext.refl wc).drew1
   generalize wc.drew=v0 at hH hd ⊢
   have s0:=hd.size_le
   refine wpAnyH_one (i:=2) (by kernel_rfl) rfl (by kernel_rfl) ?_
   go_simp
   have F:=check_fits (Q4.out trivial)
   refine (inverse_any P2 d _ (HG.out.ext (hx.trans hd)) (i2.out.ext hd) F.1 F.2.1 F.2.2.1 F.2.2.2 (Q4.out trivial)).mono ?_
   rintro e v2 ⟨P3,rfl,i3,hx2⟩
   have s2:=hx2.size_le
   replace hb2:=hb2.ext (hd.trans hx2)
   replace hb3:=hb3.ext (hd.trans hx2)
   have i1:=i1.out.ext (hd.trans hx2)
   clear i2 hb7 hb8 F
   refine ⟨⟨hH.1.ext hx2,hH.2.ext hx2⟩,?_⟩
   have m7:=hH.1.ext hx2
   have m8:=hH.2.ext hx2
   try simp only [Act.put,sA,s0,sS]
   refine two_stores (n:=3) (v1:=parr P1) (v2:=parr P3) (by kernel_rfl) (by kernel_rfl) (by kernel_rfl) (by kernel_rfl) rfl rfl rfl rfl rfl rfl rfl rfl rfl rfl rfl rfl rfl rfl rfl rfl rfl hb2 hb3 rfl rfl (by omega) (by kernel_rfl) (by kernel_rfl) (by first | rfl | simp [Value.oneCell']) (by first | rfl | simp [Value.oneCell'])
    ⟨Blk.farAll (w:=v2) (by omega) _ _ _ m7,Blk.farAll (w:=v2) (by omega) _ _ _ m8⟩ ⟨Blk.farAll (w:=v2) (by omega) _ _ _ (Blk.farAll (w:=v2) (by omega) _ _ _ m7),Blk.farAll (w:=v2) (by omega) _ _ _ (Blk.farAll (w:=v2) (by omega) _ _ _ m8)⟩ (fun W k2 k3 hst=>NoPanic.normal ?_) _
   have hy:=hst.ext w (hx.trans (hd.trans hx2)) (by omega) (by omega)
   have j1:=hst.keeps _ _ _ i1 (fun h=>by omega) (fun h=>by omega)
   have j2:=hst.keeps _ _ _ i3 (fun h=>by omega) (fun h=>by omega)
   clear hst hH hb0 hb1 hb2 hb3 hx i1 i3 m7 m8 hd hx2
   obtain ⟨hc2,hf2,hl2⟩:=k2.all
   obtain ⟨hc3,hf3,hl3⟩:=k3.all
   try simp only [Act.put,sA,s0,sS]
   go_wp2_with fail
   refine bodyPost_ret (v:=.tuple #[P1.v,P3.v,.bool true]) ?_ rfl ?_
   ·simp only [results,Tryz.results124]
    go_simp
   ·rw [HZ.out]
    exact ⟨_,_,rfl,Lib.hid (j1.mono fun b h=>h.imp id (fun h=>by omega)),Lib.hid (j2.mono fun b h=>.inr (by omega)),hy⟩
end Go.Proofs.YtfmgnaigcibcaaaGreatDoor
namespace Go.Proofs.YtfmgnaigcibcaaaGreatDoor
open Go Go.RowKit
attribute [local go_sem ↓] Go.wp_at_zero Go.wp_at_succ
def Stepped (F:Nat→Prop) (g:Nat) (x y:Qp) (w:World) (e:Ending) (w':World):Prop:=
 ∃ P P2:Pv,e=.returned (.tuple #[P.v,.bool (x.merge y).2.2])∧Hid (Is w' (fun b=>b≠g∧(F b∨w.heap.size≤b)) P (x.merge y).1) ∧
  Hid (Is w' (fun b=>b≠g∧(F b∨w.heap.size≤b)) P2 (if (x.merge y).2.2 then (x.merge y).2.1 else x))∧Blk w' g 28 (parr P2)∧Hid (Kept g w w')
set_option maxHeartbeats 8000000 in
set_option maxRecDepth 100000 in
theorem through_box (g:Nat) (p p':Pv) (x y:Qp) (w:World) (hg:Glob w) (hb:Blk w g 28 (parr p)) {F:Nat→Prop} (hx:Is w (fun b=>b≠g∧F b) p x) (hy:Is w (fun b=>b≠g∧F b) p' y) (fx:x.Fits) (fy:y.Fits):
 Calls Tryz.prog 123 #[p'.v,.pointer (some ⟨g,0,none⟩)] w (Stepped F g x y w):=by
 have HX:=Lib.hid hx
 have HM:=Lib.hid (fun W (hW:Ext w W)=>merge_any p p' x y W (hg.ext hW) (hx.in.ext hW) (hy.in.ext hW) fx fy)
 have HK:Hid (∃ R,R=x.merge y):=Lib.hid ⟨_,rfl⟩
 unfold Stepped
 generalize x.merge y=R at HM ⊢
 obtain ⟨c,d,k⟩:=R
 dsimp only at HM ⊢
 have hgl:=hb.lt
 have HG:=Lib.hid hgl
 clear hx hy fx fy hg
 have hcg:=hb.cell
 have hfg:=hb.frozen
 go_enter Tryz.func123,Tryz.ntmps123
 have hx:=Ext.refl w
 go_wp2_with fail
 refine (HM.out _ EX).mono ?_
 rintro e w1 ⟨P1,P2,rfl,i1,i2,hx0⟩
 have hb1:Blk w1 g 28 (parr p):=Blk.ext hx0 (Blk.alloc (Blk.alloc hb _) _)
 have hb0:Blk w1 w.heap.size 28 (parr p'):=Blk.ext hx0 (Blk.alloc (Blk.new' rfl) _)
 have hbr:Blk w1 (w.heap.size+1) 28 zcells:=Blk.ext hx0 (Blk.new' (by simp))
 have hx1:=Ext.trans (a:=w) EX hx0
 have T1:Is w1 (fun b=>(b≠g∧F b∧b < w.heap.size)∨w.heap.size+2≤b) P1 c:=i1.out.mono fun b h=>by
  rcases h with h | h
  ·exact .inl ⟨h.1.1.1,h.1.1.2,h.1.2⟩
  ·exact .inr (by simpa using h)
 have T2:Is w1 (fun b=>(b≠g∧F b∧b < w.heap.size)∨w.heap.size+2≤b) P2 d:=i2.out.mono fun b h=>by
  rcases h with h | h
  ·exact .inl ⟨h.1.1.1,h.1.1.2,h.1.2⟩
  ·exact .inr (by simpa using h)
 have TX:Is w1 (fun b=>(b≠g∧F b∧b < w.heap.size)∨w.heap.size+2≤b) p x:=(HX.out.in.ext hx1).mono fun b h=>.inl ⟨h.1.1,h.1.2,h.2⟩
 have KE:Kept g w w1:=Kept.of_ext hx1
 have HT:=Lib.hid (⟨T1,T2,TX,KE⟩:_∧_∧_∧_)
 have nr:¬ ((w.heap.size+1≠g∧F (w.heap.size+1)∧w.heap.size+1 < w.heap.size)∨w.heap.size+2≤w.heap.size+1):=by omega
 have ng:¬ ((g≠g∧F g∧g < w.heap.size)∨w.heap.size+2≤g):=by omega
 have HN:=Lib.hid (⟨nr,ng⟩:_∧_)
 have HB:=Lib.hid hb1
 clear T1 T2 TX KE nr ng i1 i2 hx hx0 hb HX HM hcg hfg
 obtain ⟨hcg,hfg,hlg⟩:=hb1.all
 have hl0:=hb0.lt
 clear hb0
 obtain ⟨hcr,hfr,hlr⟩:=hbr.all
 have hW:=hx1.size_le
 have HW:=Lib.hid hW
 clear hW
 cases k
 ·go_wp2_with fail
  refine bodyPost_ret (v:=.tuple #[P1.v,.bool false]) ?_ rfl ?_
  ·simp only [results,Tryz.results123]
   go_simp
  ·obtain ⟨T1,T2,TX,KE⟩:=HT.out
   obtain ⟨nr,ng⟩:=HN.out
   have hw:=HW.out
   refine ⟨P1,rfl,Lib.hid (Is.mono (F:=fun b=>(b≠g∧F b∧b < w.heap.size)∨w.heap.size+2≤b) ?_ fun b h=>?_),p,Lib.hid (Is.mono (F:=fun b=>(b≠g∧F b∧b < w.heap.size)∨w.heap.size+2≤b) ?_ fun b h=>?_),?_,Lib.hid ?_⟩
   ·repeat (first | with_reducible exact T1 | with_reducible refine Is.alloc ?_ _ | with_reducible refine Is.drew ?_ | with_reducible refine Is.put (g:=w.heap.size+1) ?_ nr _)
   ·rcases h with h | h
    ·exact ⟨h.1,.inl h.2.1⟩
    ·exact ⟨by omega,.inr (by omega)⟩
   ·repeat (first | with_reducible exact TX | with_reducible refine Is.alloc ?_ _ | with_reducible refine Is.drew ?_ | with_reducible refine Is.put (g:=w.heap.size+1) ?_ nr _)
   ·rcases h with h | h
    ·exact ⟨h.1,.inl h.2.1⟩
    ·exact ⟨by omega,.inr (by omega)⟩
   ·repeat (first | with_reducible exact hb1 | with_reducible refine Blk.alloc ?_ _ | with_reducible refine Blk.drew ?_ | refine Blk.far ?_ (by dsimp only;omega) _)
   ·repeat (first | with_reducible exact KE | with_reducible refine Kept.alloc ?_ _ | with_reducible refine Kept.drew ?_ | with_reducible refine Kept.cell (b:=w.heap.size+1) ?_ (.inr (by omega)) _ _)
 ·go_wp2_with fail
  refine bodyPost_ret (v:=.tuple #[P1.v,.bool true]) ?_ rfl ?_
  ·simp only [results,Tryz.results123]
   go_simp
  ·obtain ⟨T1,T2,TX,KE⟩:=HT.out
   obtain ⟨nr,ng⟩:=HN.out
   have hw:=HW.out
   refine ⟨P1,rfl,Lib.hid (Is.mono (F:=fun b=>(b≠g∧F b∧b < w.heap.size)∨w.heap.size+2≤b) ?_ fun b h=>?_),P2,Lib.hid (Is.mono (F:=fun b=>(b≠g∧F b∧b < w.heap.size)∨w.heap.size+2≤b) ?_ fun b h=>?_),?_,Lib.hid ?_⟩
   ·repeat (first | with_reducible exact T1 | with_reducible refine Is.alloc ?_ _ | with_reducible refine Is.drew ?_ | with_reducible refine Is.put (g:=w.heap.size+1) ?_ nr _ | with_reducible refine Is.put (g:=g) ?_ ng _)
   ·rcases h with h | h
    ·exact ⟨h.1,.inl h.2.1⟩
    ·exact ⟨by omega,.inr (by omega)⟩
   ·repeat (first | with_reducible exact T2 | with_reducible refine Is.alloc ?_ _ | with_reducible refine Is.drew ?_ | with_reducible refine Is.put (g:=w.heap.size+1) ?_ nr _ | with_reducible refine Is.put (g:=g) ?_ ng _)
   ·rcases h with h | h
    ·exact ⟨h.1,.inl h.2.1⟩
    ·exact ⟨by omega,.inr (by omega)⟩
   ·repeat (first | with_reducible refine Blk.alloc ?_ _ | with_reducible refine Blk.drew ?_ | refine Blk.far ?_ (by dsimp only;omega) _)
    refine Blk.conv ((((((((((((hb1.set_ 0 _).set_ 1 _).set_ 2 _).set_ 3 _).set_ 4 _).set_ 5 _).set_ 6 _).set_ 7 _).set_ 8 _).set_ 9 _).set_ 10 _).set_ 11 _) ?_
    simp
   ·repeat (first | with_reducible exact KE | with_reducible refine Kept.alloc ?_ _ | with_reducible refine Kept.drew ?_ | with_reducible refine Kept.cell (b:=g) ?_ (.inl rfl) _ _ | with_reducible refine Kept.cell (b:=w.heap.size+1) ?_ (.inr (by omega)) _ _)
end Go.Proofs.YtfmgnaigcibcaaaGreatDoor
