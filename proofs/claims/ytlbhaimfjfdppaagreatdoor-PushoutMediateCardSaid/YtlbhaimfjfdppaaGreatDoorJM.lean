import Derived.Test.YtlbhaimfjfdppaaGreatDoorJY
import Derived.Test.YtlbhaimfjfdppaaGreatDoorJE
set_option linter.unusedSimpArgs false
set_option linter.unusedVariables false
namespace Go.Proofs.YtlbhaimfjfdppaaGreatDoor
open Go Go.RowKit
attribute [local go_sem ↓] Go.wp_at_zero Go.wp_at_succ
def MgBlk (w:World) (g9 g10:Nat) (P1 P3:Pv) (wx:World):Prop:=
 Ext w wx∧Blk wx (w.heap.size+1+1) 42 zcells∧Blk wx (w.heap.size+1+1+1) 42 zcells∧Blk wx g9 42 (parr P1)∧Blk wx g10 42 (parr P3)
set_option maxHeartbeats 16000000 in
set_option maxRecDepth 100000 in
theorem rmerge_any (p p':Pv) (a b:Qp) (w:World) {F:Nat→Prop} (ha:Is w F p a) (hb:Is w F p' b) (ta:a.Tame) (tb:b.Tame):
 Calls Tryz.prog 63 #[p.v,p'.v] w (GivesTwo F (a.merge b) w):=by
 have hai:Is w (fun b=>F b∧b < w.heap.size) p a:=ha.in
 have hbi:Is w (fun b=>F b∧b < w.heap.size) p' b:=hb.in
 have HI:=Lib.hid (fun W (hW:Ext w W)=>rinv_q p a w hai ta W hW)
 have HC:=Lib.hid (fun (h:a.check=0) (P:Pv) W (hP:Is w (fun b=>F b∧b < w.heap.size) P a.inv) (hW:Ext w W)=>rcommute_any P p' a.inv b W (hP.ext hW) (hbi.ext hW) (check_tame (inv_check h)) tb)
 have hq4:∀ c d,a.inv.commute b=(c,d,true)→d.check=0:=fun c d h=>(commute_back h).2.2
 have HM:Hid (a.merge b=if a.check≠0 then (Qp.zero,Qp.zero,false) else if (a.inv.commute b).2.2 then ((a.inv.commute b).1,(a.inv.commute b).2.1.inv,true) else (Qp.zero,Qp.zero,false)):=Lib.hid rfl
 generalize a.merge b=R at HM ⊢
 generalize a.inv.commute b=R1 at HC hq4 HM
 generalize a.inv=ai at HI HC
 obtain ⟨c,d,k⟩:=R1
 dsimp only at HM
 have HQ4:=Lib.hid (fun (h:k=true)=>hq4 c d (by rw [h]))
 clear hq4 ha hb hai hbi ta tb
 go_enter Tryz.func63,Tryz.ntmps63
 have hx:=Ext.refl w
 go_wp2_with fail
 refine (HI.out _ EX).mono ?_
 rintro e w1 ⟨P,rfl,hP,hx0⟩
 have hb0:Blk w1 (w.heap.size) 42 (parr p):=Blk.ext hx0 (Blk.alloc (Blk.alloc (Blk.alloc (Blk.new' (by simp)) _) _) _)
 have hb1:Blk w1 (w.heap.size+1) 42 (parr p'):=Blk.ext hx0 (Blk.alloc (Blk.alloc (Blk.new' (by simp)) _) _)
 have hb2:Blk w1 (w.heap.size+1+1) 42 zcells:=Blk.ext hx0 (Blk.alloc (Blk.new' (by simp)) _)
 have hb3:Blk w1 (w.heap.size+1+1+1) 42 zcells:=Blk.ext hx0 (Blk.new' (by simp))
 have hx1:=Ext.trans (a:=w) EX hx0
 have HP:=Lib.hid hP
 clear hx hx0 HI hP
 have hx:=hx1
 clear hx1
 by_cases z1:a.check=0
 rotate_left
 ·have HZ:Hid (R=(Qp.zero,Qp.zero,false)):=Lib.hid (by rw [HM.out];simp [z1])
  have z1':(a.check != 0)=true:=by simpa using z1
  clear z1 HM HP HC HQ4
  obtain ⟨hc0,hf0,hl0⟩:=hb0.all
  obtain ⟨hc1,hf1,hl1⟩:=hb1.all
  obtain ⟨hc2,hf2,hl2⟩:=hb2.all
  obtain ⟨hc3,hf3,hl3⟩:=hb3.all
  go_wp2_with fail
  refine bodyPost_ret (v:=.tuple #[(Qp.zero.pv none 0 none 0).v,(Qp.zero.pv none 0 none 0).v,.bool false]) ?_ rfl ?_
  ·simp only [results,Tryz.results63]
   go_simp
   simp [Qp.zero]
  ·rw [HZ.out]
   exact ⟨_,_,rfl,Is.none _ _ Qp.zero rfl rfl,Is.none _ _ Qp.zero rfl rfl,EX⟩
 have HM:Hid (R=if k then (c,d.inv,true) else (Qp.zero,Qp.zero,false)):=Lib.hid (by rw [HM.out,if_neg (by rw [z1];simp)])
 have HC2:=Lib.hid (fun W (hW:Ext w W)=>HC.out z1 P W (HP.out z1) hW)
 rw [z1]
 clear z1 HC HP
 obtain ⟨hc0,hf0,hl0⟩:=hb0.all
 obtain ⟨hc1,hf1,hl1⟩:=hb1.all
 obtain ⟨hc2,hf2,hl2⟩:=hb2.all
 obtain ⟨hc3,hf3,hl3⟩:=hb3.all
 go_wp2_with fail
 clear hc0 hf0 hl0 hc1 hf1 hl1 hc2 hf2 hl2 hc3 hf3 hl3
 have hn1:=hb3.lt
 refine (HC2.out _ EX).mono ?_
 rintro e w2 ⟨P1,P2,rfl,i1,i2,hx0⟩
 have hx1:=Ext.trans (a:=w) EX hx0
 replace hb0:=Blk.ext hx0 (Blk.alloc hb0 _)
 replace hb1:=Blk.ext hx0 (Blk.alloc hb1 _)
 replace hb2:=Blk.ext hx0 (Blk.alloc hb2 _)
 replace hb3:=Blk.ext hx0 (Blk.alloc hb3 _)
 have I1:=Lib.hid (i1.mono (G:=fun b=>(F b∧b < w.heap.size)∨w.heap.size+4≤b) (fun b hb=>by rcases hb with hb | hb;exact .inl hb;right;simp at hb;omega)).in
 have I2:=Lib.hid (i2.mono (G:=fun b=>(F b∧b < w.heap.size)∨w.heap.size+4≤b) (fun b hb=>by rcases hb with hb | hb;exact .inl hb;right;simp at hb;omega)).in
 clear hx hx0 HC2 i1 i2 hn1
 have hx:=hx1
 clear hx1
 dsimp only
 cases k
 ·have HZ:Hid (R=(Qp.zero,Qp.zero,false)):=Lib.hid (by rw [HM.out];simp)
  clear HM HQ4 I1 I2
  obtain ⟨hc0,hf0,hl0⟩:=hb0.all
  obtain ⟨hc1,hf1,hl1⟩:=hb1.all
  obtain ⟨hc2,hf2,hl2⟩:=hb2.all
  obtain ⟨hc3,hf3,hl3⟩:=hb3.all
  go_wp2_with fail
  refine bodyPost_ret (v:=.tuple #[(Qp.zero.pv none 0 none 0).v,(Qp.zero.pv none 0 none 0).v,.bool false]) ?_ rfl ?_
  ·simp only [results,Tryz.results63]
   go_simp
   simp [Qp.zero]
  ·rw [HZ.out]
   exact ⟨_,_,rfl,Is.none _ _ Qp.zero rfl rfl,Is.none _ _ Qp.zero rfl rfl,EX⟩
 have HZ:Hid (R=(c,d.inv,true)):=Lib.hid (by rw [HM.out];simp)
 have hd:=HQ4.out rfl
 have HI2:=Lib.hid (fun W (hW:Ext w2 W)=>rinv_q P2 d w2 I2.out (check_tame hd) W hW)
 have HD:=Lib.hid hd
 have HS:=Lib.hid hb3.lt
 clear HM HQ4 I2 hd
 go_upto_region 7 with fail
 go_cut [11] (fun u wx=>∃ (g9 g10:Nat) (P3:Pv),u=.bool true∧g9=w2.heap.size∧g10=w2.heap.size+1∧MgBlk w g9 g10 P1 P3 wx∧Ext w2 wx∧Hid (Is w2 (fun b=>((F b∧b < w.heap.size)∨w.heap.size+4≤b)∧b < w2.heap.size) P3 d.inv))
 case first=>
  obtain ⟨hc0,hf0,hl0⟩:=hb0.all
  obtain ⟨hc1,hf1,hl1⟩:=hb1.all
  obtain ⟨hc2,hf2,hl2⟩:=hb2.all
  obtain ⟨hc3,hf3,hl3⟩:=hb3.all
  go_wp2_with fail
  clear hc0 hf0 hl0 hc1 hf1 hl1 hc2 hf2 hl2 hc3 hf3 hl3
  refine (HI2.out _ (((Ext.refl w2).alloc _).alloc _)).mono ?_
  rintro e w3 ⟨P3,rfl,hP3,hx0⟩
  have hb9:Blk w3 w2.heap.size 42 (parr P1):=Blk.ext hx0 (Blk.alloc (Blk.new' (by simp)) _)
  have hb10:Blk w3 (w2.heap.size+1) 42 (parr P2):=Blk.ext hx0 (Blk.new' (by simp))
  replace hb2:=Blk.ext hx0 (Blk.alloc (Blk.alloc hb2 _) _)
  replace hb3:=Blk.ext hx0 (Blk.alloc (Blk.alloc hb3 _) _)
  have HY:Hid (Ext w2 w3):=Lib.hid ((((Ext.refl w2).alloc _).alloc _).trans hx0)
  have hx1:=hx.trans HY.out
  have I3:=Lib.hid (hP3 HD.out)
  rw [HD.out]
  have hsz:=HS.out
  have hn2:=hx.size_le
  clear hx hx0 hP3 HI2 hb0 hb1
  have hx:=hx1
  clear hx1
  have nx2:(w.heap.size+1+1=w2.heap.size+1)=False:=eq_false (by omega)
  have nx3:(w.heap.size+1+1+1=w2.heap.size+1)=False:=eq_false (by omega)
  have nx9:(w2.heap.size=w2.heap.size+1)=False:=eq_false (by omega)
  have ny2:(w.heap.size+1=w2.heap.size)=False:=eq_false (by omega)
  have ny3:(w.heap.size+1+1=w2.heap.size)=False:=eq_false (by omega)
  obtain ⟨hc10,hf10,hl10⟩:=hb10.all
  go_wp2_with fail
  go_meet
  refine ⟨w2.heap.size,w2.heap.size+1,P3,rfl,rfl,rfl,⟨EX,?_,?_,?_,?_⟩,?_,I3⟩
  ·exact Blk.mk (by simp [↓heap_drew_at,↓heap_drewN_at,↓heap_alloc_at,↓heap_set_at,nx2,nx3,nx9,ny2,ny3,↓hb2.eq,hb2.lt,hb2.ne,↓hb3.eq,hb3.lt,hb3.ne,↓hb9.eq,hb9.lt,hb9.ne,↓hb10.eq,hb10.lt,hb10.ne])
  ·exact Blk.mk (by simp [↓heap_drew_at,↓heap_drewN_at,↓heap_alloc_at,↓heap_set_at,nx2,nx3,nx9,ny2,ny3,↓hb2.eq,hb2.lt,hb2.ne,↓hb3.eq,hb3.lt,hb3.ne,↓hb9.eq,hb9.lt,hb9.ne,↓hb10.eq,hb10.lt,hb10.ne])
  ·exact Blk.mk (by simp [↓heap_drew_at,↓heap_drewN_at,↓heap_alloc_at,↓heap_set_at,nx2,nx3,nx9,ny2,ny3,↓hb2.eq,hb2.lt,hb2.ne,↓hb3.eq,hb3.lt,hb3.ne,↓hb9.eq,hb9.lt,hb9.ne,↓hb10.eq,hb10.lt,hb10.ne])
  ·exact Blk.mk (by simp [↓heap_drew_at,↓heap_drewN_at,↓heap_alloc_at,↓heap_set_at,nx2,nx3,nx9,ny2,ny3,↓hb2.eq,hb2.lt,hb2.ne,↓hb3.eq,hb3.lt,hb3.ne,↓hb9.eq,hb9.lt,hb9.ne,↓hb10.eq,hb10.lt,hb10.ne])
  ·clear hx
   have hx:=HY.out
   exact EX
 case rest=>
  clear hx hb0 hb1 hb2 hb3 HI2 HD
  obtain ⟨g9,g10,P3,rfl,eg9,eg10,hmg,hx2,I3⟩:=hcut
  subst eg9
  subst eg10
  obtain ⟨hx,hb2,hb3,hb9,hb10⟩:=hmg
  have hsz:=HS.out
  have J1:=Lib.hid (I1.out.ext hx2)
  have J3:=Lib.hid (I3.out.ext hx2)
  clear I1 I3 HS hx2
  obtain ⟨hc2,hf2,hl2⟩:=hb2.all
  obtain ⟨hc3,hf3,hl3⟩:=hb3.all
  go_wp2_with fail
  clear hc2 hf2 hl2 hc3 hf3 hl3
  have le2:w.heap.size≤w.heap.size+1+1:=by omega
  have le3:w.heap.size≤w.heap.size+1+1+1:=by omega
  have n23:w.heap.size+1+1+1≠w.heap.size+1+1:=by omega
  have m2:w.heap.size+1+1≠w2.heap.size:=by omega
  have m3:w.heap.size+1+1+1≠w2.heap.size:=by omega
  have m4:w.heap.size+1+1≠(w2.heap.size+1):=by omega
  have m5:w.heap.size+1+1+1≠(w2.heap.size+1):=by omega
  have kb2:=hb2.drew
  have kb3:=hb3.drew
  have hy:=hx.drew1
  have K1:=Lib.hid J1.out.drew
  have K3:=Lib.hid J3.out.drew
  have hv0:=And.intro (hb9.drew.range 0 (parr P1).toList (fun j _=>by rw [Nat.zero_add,Array.getElem?_toList])) (hb10.drew.range 0 (parr P3).toList (fun j _=>by rw [Nat.zero_add,Array.getElem?_toList]))
  clear hx hb2 hb3 hb9 hb10 J1 J3
  refine wp_region_noPanic (wp_region_held_drew (S:=fun w'=>w'.rangeAt w2.heap.size 0 (parr P1).toList∧w'.rangeAt (w2.heap.size+1) 0 (parr P3).toList) (by kernel_rfl) hv0 (fun hH=>?_))
  clear hv0
  generalize wc.drew=v0 at hH hy kb2 kb3 K1 K3 ⊢
  refine tl (i:=0) (parr P1).toList rfl rfl rfl rfl rfl Tryz.underlying42 rfl (fun _ h=>h.1) hH ?_
  simp only [Act.put,sA,s0,sS]
  refine tl (i:=1) (parr P3).toList rfl rfl rfl rfl rfl Tryz.underlying42 rfl (fun _ h=>h.2) hH ?_
  simp only [Act.put,sA,s0,sS]
  refine two_stores (n:=2) (v1:=parr P1) (v2:=parr P3) (by kernel_rfl) (by kernel_rfl) (by kernel_rfl) (by kernel_rfl) rfl rfl rfl rfl rfl rfl rfl rfl rfl rfl rfl rfl rfl rfl rfl rfl rfl kb2 kb3 rfl rfl n23 (by kernel_rfl) (by kernel_rfl) (by first | rfl | simp [Value.oneCell']) (by first | rfl | simp [Value.oneCell']) ⟨World.rangeAt_setCells_apart hH.1 _ _ _ (.inl (by omega)),World.rangeAt_setCells_apart hH.2 _ _ _ (.inl (by omega))⟩
   ⟨World.rangeAt_setCells_apart (World.rangeAt_setCells_apart hH.1 _ _ _ (.inl (by omega))) _ _ _ (.inl (by omega)),World.rangeAt_setCells_apart (World.rangeAt_setCells_apart hH.2 _ _ _ (.inl (by omega))) _ _ _ (.inl (by omega))⟩ (fun W k2 k3 hst=>NoPanic.normal ?_) _
  have hx:=hst.ext w hy le2 le3
  have j1:=hst.keeps _ _ _ K1.out (fun h=>by rcases h.1 with h | h;(have:=h.2;omega);omega) (fun h=>by rcases h.1 with h | h;(have:=h.2;omega);omega)
  have j3:=hst.keeps _ _ _ K3.out (fun h=>by rcases h.1 with h | h;(have:=h.2;omega);omega) (fun h=>by rcases h.1 with h | h;(have:=h.2;omega);omega)
  clear hst hH hy kb2 kb3 K1 K3
  obtain ⟨hc2,hf2,hl2⟩:=k2.all
  obtain ⟨hc3,hf3,hl3⟩:=k3.all
  simp only [Act.put,sA,s0,sS]
  go_wp2_with fail
  refine bodyPost_ret (v:=.tuple #[P1.v,P3.v,.bool true]) ?_ rfl ?_
  ·simp only [results,Tryz.results63]
   go_simp
  ·rw [HZ.out]
   exact ⟨_,_,rfl,Is.mono j1 (fun b hb=>hb.1.imp (fun h=>h.1) (fun h=>by omega)),Is.mono j3 (fun b hb=>hb.1.imp (fun h=>h.1) (fun h=>by omega)),hx⟩
end Go.Proofs.YtlbhaimfjfdppaaGreatDoor
namespace Go.Proofs.YtlbhaimfjfdppaaGreatDoor
open Go Go.RowKit
attribute [local go_sem ↓] Go.wp_at_zero Go.wp_at_succ
def ThPair (Ok:Nat→Prop) (w:World) (c d:Qp) (wx:World) (g5 g6:Nat) (P1 P2:Pv):Prop:=
 Blk wx g5 42 (parr P1)∧Blk wx g6 42 (parr P2)∧g5≠g6∧w.heap.size≤g5∧w.heap.size≤g6 ∧
  Is wx (fun b=>Ok b∧b≠g5∧b≠g6) P1 c∧Is wx (fun b=>Ok b∧b≠g5∧b≠g6) P2 d
theorem merge_tame {x y:Qp} (h:(x.merge y).2.2=true):(x.merge y).1.Tame∧(x.merge y).2.1.Tame:=by
 unfold Qp.merge at h ⊢
 split at h
 ·cases h
 ·split at h
  ·rename_i h1 h2
   rw [if_neg h1,if_pos h2]
   have e:x.inv.commute y=((x.inv.commute y).1,(x.inv.commute y).2.1,true):=by rw [← h2]
   have hc:=(commute_back e).2
   exact ⟨check_tame hc.1,check_tame (inv_check hc.2)⟩
  ·cases h
namespace Sq
def carry (o:List Qp) (i:Nat) (x:Qp) (l:List Qp):Except Nat (Qp × List Qp):=match carried x l with
 | .ok r=>.ok (r.1,o ++ r.2)
 | .error k=>.error (i+k)
theorem carry_start (x:Qp) (l:List Qp):carried x l=carry [] 0 x l:=by
 unfold carry
 cases carried x l with
 | ok r=>rfl
 | error k=>
   show (Except.error k:Except Nat (Qp × List Qp))=.error (0+k)
   rw [Nat.zero_add]
theorem carry_end (o:List Qp) (i:Nat) (x:Qp):carry o i x []=.ok (x,o):=by
 show (Except.ok (x,o ++ []):Except Nat (Qp × List Qp))=_
 rw [List.append_nil]
theorem carry_bad {o l:List Qp} {i:Nat} {x y:Qp} (h:(x.merge y).2.2=false):carry o i x (y :: l)=.error i:=by
 have e:carried x (y :: l)=.error 0:=by
  unfold carried
  rw [if_neg (by rw [h];decide)]
 unfold carry
 rw [e]
 rfl
theorem carry_good {o l:List Qp} {i:Nat} {x y:Qp} (h:(x.merge y).2.2=true):carry o i x (y :: l)=carry (o ++ [(x.merge y).1]) (i+1) (x.merge y).2.1 l:=by
 have e:carried x (y :: l)=match carried (x.merge y).2.1 l with
  | .ok r=>.ok (r.1,(x.merge y).1 :: r.2)
  | .error k=>.error (k+1):=by
  conv=>lhs;unfold carried
  rw [if_pos h]
  rfl
 unfold carry
 rw [e]
 cases carried (x.merge y).2.1 l with
 | ok r=>simp
 | error k=>simp only [Except.error.injEq];omega
end Sq
def Passed (F:Nat→Prop) (R:Except Nat (Qp × List Qp)) (n:Nat) (w:World) (e:Ending) (w':World):Prop:=
 Ext w w'∧match R with
 | .error k=>∃ C cc,∃ P:Pv,e=.returned (.tuple #[.slice C 0 cc,P.v,.int .i64 k])∧k < n
 | .ok r=>∃ C cc,∃ P:Pv,e=.returned (.tuple #[.slice C n cc,P.v,.int .i64 (-1)])∧n≤cc∧(∀ ad,C=some ad→w.heap.size≤ad.block)∧Hid (Qs w' (fun b=>F b∨w.heap.size≤b) C r.2)∧Hid (Is w' (fun b=>F b∨w.heap.size≤b) P r.1)
theorem Qs.lit {w:World} {F:Nat→Prop} {P:Pv} {q:Qp} (hi:Is w F P q):Qs (w.alloc (.cells (parr P) 42)) F (Option.some ⟨w.heap.size,0,Option.none⟩) [q]:=by
 have hb:Blk (w.alloc (.cells (parr P) 42)) w.heap.size 42 (parr P):=Blk.new' rfl
 refine ⟨[P],rfl,fun _=>⟨w.heap.size,0,rfl,hb.lt,fun i p hp j v hv=>?_⟩,fun i p q' hp hq=>?_⟩
 ·cases i with
  | zero=>
    obtain rfl:=Option.some.inj hp
    rw [hb.cell,show 0+0 * 12+j=j by omega,← Array.getElem?_toList]
    exact hv
  | succ i=>simp at hp
 ·cases i with
  | zero=>
    obtain rfl:=Option.some.inj hp
    obtain rfl:=Option.some.inj hq
    exact hi.alloc _
  | succ i=>simp at hp
theorem Qs.setAll {w:World} {F:Nat→Prop} {A:Option Addr} {l:List Qp} (h:Qs w F A l) {g:Nat} (vs:List Value) (k:Nat) (hA:0 < l.length→∀ ad,A=Option.some ad→ad.block≠g) (hF:∀ b,F b→b≠g):Qs (w.setCells g k vs) F A l:=by
 obtain ⟨ps,h1,h2,h3⟩:=h
 refine ⟨ps,h1,fun h0=>?_,fun i p q hp hq=>Is.putAll (fun hg=>hF g hg rfl) vs k _ (h3 i p q hp hq)⟩
 obtain ⟨b,o,e,hl,hc⟩:=h2 h0
 have hne:b≠g:=hA (by omega) _ e
 exact ⟨b,o,e,by rw [setCells_size];exact hl,fun i p hp=>World.rangeAt_setCells_apart (hc i p hp) _ _ _ (.inl (by omega))⟩
theorem Blk.grownBy {w w':World} {g:Nat} {t:TypeId} {cs:Array Value} {row:Option Nat} (h:Blk w g t cs) (hg:w.grownBy w' row) (hne:some g≠row):Blk w' g t cs:=(hg.block g h.lt hne).trans h
set_option maxHeartbeats 16000000 in
set_option maxRecDepth 100000 in
theorem rthrough15_any (p:Pv) (x:Qp) (A:Option Addr) (n c:Nat) (l:List Qp) (w:World) {F:Nat→Prop} (hp:Is w F p x) (h:Qs w F A l) (hn:l.length=n) (hb:n≤100000000000) (tx:x.Tame) (tl:∀ q∈l,q.Tame):
 Calls Tryz.prog 51 #[p.v,.slice A n c] w (Passed F (Sq.carried x l) n w):=by
 have HL:=Lib.hid h.in
 have HN:=Lib.hid hn
 have HTL:=Lib.hid tl
 have HT0:=Lib.hid tx
 have HP0:=Lib.hid hp.in
 have HMG:=Lib.hid (fun (Ok:Nat→Prop) W (P P':Pv) (a b:Qp) (h1:Is W Ok P a) (h2:Is W Ok P' b) (ta:a.Tame) (tb:b.Tame)=>rmerge_any P P' a b W h1 h2 ta tb)
 have H0:Hid (Sq.carried x l=Sq.carry [] 0 x (l.drop 0)):=Lib.hid (by rw [List.drop_zero];exact Sq.carry_start x l)
 generalize Sq.carried x l=R at H0 ⊢
 clear h hn tx tl hp
 go_enter Tryz.func51,Tryz.ntmps51
 have hx:=Ext.refl w
 go_wp2_with fail
 have HB0:Hid (Blk (((w.alloc (.cells (parr p) 42)).alloc (.cells zcells 42)).alloc (.cells #[] 42)) w.heap.size 42 (parr p)):=Lib.hid (Blk.alloc (Blk.alloc (Blk.new' (by simp)) _) _)
 have HB1:Hid (Blk (((w.alloc (.cells (parr p) 42)).alloc (.cells zcells 42)).alloc (.cells #[] 42)) (w.heap.size+1) 42 zcells):=Lib.hid (Blk.alloc (Blk.new' (by simp)) _)
 have HX0:Hid (Ext w (((w.alloc (.cells (parr p) 42)).alloc (.cells zcells 42)).alloc (.cells #[] 42))):=Lib.hid ((((Ext.refl w).alloc _).alloc _).alloc _)
 have HG0:Hid (Grows (((w.alloc (.cells (parr p) 42)).alloc (.cells zcells 42)).alloc (.cells #[] 42)) (w.heap.size+2) (fun b=>(F b∧b < w.heap.size)∨w.heap.size+2≤b) (.slice (some ⟨w.heap.size+1+1,0,none⟩) 0 0) []):=Lib.hid (by
  have h:=Grows.empty (w:=(w.alloc (.cells (parr p) 42)).alloc (.cells zcells 42)) (base:=w.heap.size+2) (fun b=>(F b∧b < w.heap.size)∨w.heap.size+2≤b) (by simp)
  simpa using h)
 have HI0:Hid (Is (((w.alloc (.cells (parr p) 42)).alloc (.cells zcells 42)).alloc (.cells #[] 42)) (fun b=>((F b∧b < w.heap.size)∨w.heap.size+2≤b)∧some b≠Value.ownBlock (.slice (some ⟨w.heap.size+1+1,0,none⟩) 0 0)) p x):=Lib.hid ((HP0.out.ext HX0.out).mono fun b hb=>⟨.inl hb,fun e=>absurd (show b=w.heap.size+1+1 by simpa [Value.ownBlock] using e) (by have :=hb.2;omega)⟩)
 generalize ((w.alloc (.cells (parr p) 42)).alloc (.cells zcells 42)).alloc (.cells #[] 42)=w0 at HB0 HB1 HX0 HG0 HI0 ⊢
 clear hx HP0
 go_loopw [7,8] (fun u7 u8 wr=>∃ (i:Nat) (o:List Qp) (x':Qp) (Px:Pv),u8=.int .i64 i∧i≤n∧o.length=i∧Ext w wr∧Blk wr w.heap.size 42 (parr Px)∧Blk wr (w.heap.size+1) 42 zcells∧Hid (Is wr (fun b=>((F b∧b < w.heap.size)∨w.heap.size+2≤b)∧some b≠u7.ownBlock) Px x')∧Hid (Grows wr (w.heap.size+2) (fun b=>(F b∧b < w.heap.size)∨w.heap.size+2≤b) u7 o)∧Hid x'.Tame∧Hid (R=Sq.carry o i x' (l.drop i))) (fun u7 u8 wr=>n - (intOf u8).toNat)
 case atStart=>exact ⟨0,[],x,p,rfl,Nat.zero_le _,rfl,HX0.out,HB0.out,HB1.out,HI0,HG0,HT0,H0⟩
 case round=>
  clear HB0 HB1 HX0 HG0 HI0 HT0 H0
  obtain ⟨i,o,x',Px,rfl,hin,hol,hx,hb0,hb1,HI,HG,HT,HR⟩:=hrel
  by_cases hlt:i < n
  ·have hil:i < l.length:=by rw [HN.out];exact hlt
   have e1:l[i]?=some (l[i]'hil):=List.getElem?_eq_getElem hil
   obtain ⟨g,oo,Py,hA,hgl,ra0,ia⟩:=HL.out.get e1
   subst hA
   have ty:=HTL.out _ (List.mem_of_getElem? e1)
   have hdr:l.drop i=(l[i]'hil) :: l.drop (i+1):=by rw [List.drop_eq_getElem_cons hil]
   generalize l[i]'hil=y at ia ty hdr e1
   have HR2:Hid (R=Sq.carry o i x' (y :: l.drop (i+1))):=Lib.hid (by rw [HR.out,hdr])
   have HW2:Hid (w.heap.size+2≤wr.heap.size):=Lib.hid (by have :=hb1.lt;omega)
   have HOW:=Lib.hid HG.out.own
   obtain ⟨Ok,hOk⟩:∃ Ok:Nat→Prop,Ok=(fun b=>((F b∧b < w.heap.size)∨w.heap.size+2≤b)∧some b≠u7.ownBlock):=⟨_,rfl⟩
   have HOK:Hid (∀ b,wr.heap.size≤b→Ok b):=Lib.hid (fun b hb=>by
    rw [hOk]
    refine ⟨.inr (by have :=HW2.out;omega),fun e=>?_⟩
    have:=(HOW.out b e.symm).2
    omega)
   have HY:Hid (Is wr (fun b=>Ok b∧b < wr.heap.size) Py y):=Lib.hid ((ia.ext hx).mono fun b hb=>by
    have h1:=hb.2
    have h2:=HW2.out
    refine ⟨?_,by omega⟩
    rw [hOk]
    refine ⟨.inl hb,fun e=>?_⟩
    have:=(HOW.out b e.symm).1
    omega)
   have HXI:Hid (Is wr (fun b=>Ok b∧b < wr.heap.size) Px x'):=Lib.hid (by rw [hOk];exact HI.out.in)
   have HOE:Hid (∀ b,Ok b→((F b∧b < w.heap.size)∨w.heap.size+2≤b)∧some b≠u7.ownBlock):=Lib.hid (fun b h=>by rw [hOk] at h;exact h)
   have RB:=Lib.hid (fun W (hW:Ext wr W)=>range_ext ra0 hgl (hx.trans hW))
   have RA:=Lib.hid (fun W (hW:Ext wr W)=>(hb0.ext hW).range 0 (parr Px).toList (fun j _=>by rw [Nat.zero_add,Array.getElem?_toList]))
   have HC:=Lib.hid (fun W (hW:Ext wr W)=>HMG.out _ W Px Py x' y (HXI.out.ext hW) (HY.out.ext hW) HT.out ty)
   have HK:=Lib.hid (fun (h:(x'.merge y).2.2=true)=>And.intro (merge_tame h).2 (HR2.out.trans (Sq.carry_good h)))
   have HKB:=Lib.hid (fun (h:(x'.merge y).2.2=false)=>HR2.out.trans (Sq.carry_bad h))
   generalize x'.merge y=M at HC HK HKB
   obtain ⟨c',d',k⟩:=M
   dsimp only at HK HKB
   have HXX:=Lib.hid hx
   clear HR HR2 hdr e1 ia ra0 ty hgl hOk HI HXI HY
   have hx:=Ext.refl wr
   have hi1:i < 1152921504606846976:=by omega
   go_upto_region 5 with fail
   go_cut [9,10,11] (fun u5 u6 u7 wx=>∃ (g5 g6:Nat) (P1 P2:Pv),u5=.pointer (some ⟨g5,0,none⟩)∧u6=.pointer (some ⟨g6,0,none⟩)∧u7=.bool k∧Hid (ThPair Ok wr c' d' wx g5 g6 P1 P2)∧Ext wr wx)
   case first=>
    refine wp_region_noPanic (wp_region_held_drew (S:=fun w'=>Ext wr w') (by kernel_rfl) (Ext.refl wr).drew1 (fun hv=>?_))
    generalize wr.drew=v0 at hv ⊢
    have S0:=Lib.hid hv.size_le
    refine tl (i:=0) (parr Px).toList rfl rfl rfl rfl rfl Tryz.underlying42 rfl (fun _ h=>RA.out _ h) hv ?_
    try simp only [Act.put,sA,s0,sS]
    refine tf (i:=1) (v:=.slice (some ⟨g,oo,none⟩) n c) rfl rfl (fun _=>rfl) hv ?_
    try simp only [Act.put,sA,s0,sS]
    refine tf (i:=2) (v:=.int .i64 i) rfl rfl (fun _=>rfl) hv ?_
    try simp only [Act.put,sA,s0,sS]
    refine ti (i:=3) g oo n c (i) rfl rfl rfl rfl rfl hlt Tryz.underlying22 hv ?_
    try simp only [Act.put,sA,s0,sS]
    refine tl (i:=4) (parr Py).toList rfl rfl rfl rfl rfl Tryz.underlying42 rfl (fun _ h=>RB.out _ h) hv ?_
    try simp only [Act.put,sA,s0,sS]
    refine wpAnyH_ready (rs:=[5,10,11]) (by kernel_rfl) (by simp) ?_
    refine (AllReadyH.cons rfl (fun K hK=>?_) (AllReadyH.cons rfl (fun K hK=>?_) (AllReadyH.cons rfl (fun K hK=>?_) AllReadyH.nil)))
    ·go_simp
     refine (HC.out _ hv).mono ?_
     rintro e v1 ⟨P1,P2,rfl,i1,i2,hx0⟩
     have I1:=Lib.hid i1.in
     have I2:=Lib.hid i2.in
     clear i1 i2
     have Sv1:=Lib.hid hx0.size_le
     have hv1:=hv.trans hx0
     refine hK.out _ _ hv1 (fun _=>?_)
     clear hK hx0
     try simp only [Act.put,sA,s0,sS]
     refine tf (i:=6) (v:=(.tuple #[P1.v,P2.v,.bool k])) rfl rfl (fun _=>rfl) hv1 ?_
     try simp only [Act.put,sA,s0,sS]
     refine tf (i:=7) (v:=P1.v) rfl rfl (fun _=>rfl) hv1 ?_
     try simp only [Act.put,sA,s0,sS]
     refine tf (i:=8) (v:=P2.v) rfl rfl (fun _=>rfl) hv1 ?_
     try simp only [Act.put,sA,s0,sS]
     refine tf (i:=9) (v:=(.bool k)) rfl rfl (fun _=>rfl) hv1 ?_
     try simp only [Act.put,sA,s0,sS]
     refine wpAnyH_ready (rs:=[10,11]) (by kernel_rfl) (by simp) ?_
     refine (AllReadyH.cons rfl (fun K hK=>?_) (AllReadyH.cons rfl (fun K hK=>?_) AllReadyH.nil))
     ·go_simp
      have hx0:Ext v1 (v1.alloc (.cells zcells 42)):=(Ext.refl v1).alloc _
      have hb5:Blk (v1.alloc (.cells zcells 42)) v1.heap.size 42 zcells:=Blk.new' rfl
      have sv2:(v1.alloc (.cells zcells 42)).heap.size=v1.heap.size+1:=by simp
      generalize v1.alloc (.cells zcells 42)=v2 at hx0 hb5 sv2 ⊢
      obtain ⟨g5,eg5⟩:∃ g,g=v1.heap.size:=⟨_,rfl⟩
      rw [← eg5] at hb5 ⊢
      have Eg5:=Lib.hid eg5
      have Sv2:=Lib.hid sv2
      clear eg5 sv2
      have hv2:=hv1.trans hx0
      replace I1:=Lib.hid (I1.out.ext hx0)
      replace I2:=Lib.hid (I2.out.ext hx0)
      refine hK.out _ _ hv2 (fun _=>?_)
      clear hK hx0
      try simp only [Act.put,sA,s0,sS]
      refine wpAnyH_ready (rs:=[11]) (by kernel_rfl) (by simp) ?_
      refine (AllReadyH.cons rfl (fun K hK=>?_) AllReadyH.nil)
      ·go_simp
       have hx0:Ext v2 (v2.alloc (.cells zcells 42)):=(Ext.refl v2).alloc _
       have hb6:Blk (v2.alloc (.cells zcells 42)) v2.heap.size 42 zcells:=Blk.new' rfl
       have sv3:(v2.alloc (.cells zcells 42)).heap.size=v2.heap.size+1:=by simp
       generalize v2.alloc (.cells zcells 42)=v3 at hx0 hb6 sv3 ⊢
       obtain ⟨g6,eg6⟩:∃ g,g=v2.heap.size:=⟨_,rfl⟩
       rw [← eg6] at hb6 ⊢
       have Eg6:=Lib.hid eg6
       have Sv3:=Lib.hid sv3
       clear eg6 sv3
       have hv3:=hv2.trans hx0
       replace hb5:=hb5.ext hx0
       replace I1:=Lib.hid (I1.out.ext hx0)
       replace I2:=Lib.hid (I2.out.ext hx0)
       refine hK.out _ _ hv3 (fun _=>?_)
       clear hK hx0
       try simp only [Act.put,sA,s0,sS]
       have fSv1:=Sv1.out
       have fSv2:=Sv2.out
       have fEg5:=Eg5.out
       have fSv3:=Sv3.out
       have fEg6:=Eg6.out
       have sv0:=S0.out
       have i1:=I1.out.mono (G:=fun b=>Ok b∧b≠g5∧b≠g6) (fun b hb=>⟨hb.1.elim (fun h=>h.1) (fun h=>HOK.out b (by omega)),by rcases hb.1 with h | h <;> omega,by rcases hb.1 with h | h <;> omega⟩)
       have i2:=I2.out.mono (G:=fun b=>Ok b∧b≠g5∧b≠g6) (fun b hb=>⟨hb.1.elim (fun h=>h.1) (fun h=>HOK.out b (by omega)),by rcases hb.1 with h | h <;> omega,by rcases hb.1 with h | h <;> omega⟩)
       refine two_stores (n:=12) (u:=.bool k) (v1:=parr P1) (v2:=parr P2) (by kernel_rfl) (by kernel_rfl) (by kernel_rfl) (by kernel_rfl) rfl rfl rfl rfl rfl rfl rfl rfl rfl rfl rfl rfl rfl rfl rfl rfl rfl hb5 hb6 rfl rfl (by omega) (by kernel_rfl) (by kernel_rfl) (by first | rfl | simp [Value.oneCell']) (by first | rfl | simp [Value.oneCell']) (Ext.setAll (by omega) _ _ _ hv3) (Ext.setAll (by omega) _ _ _ (Ext.setAll (by omega) _ _ _ hv3)) (fun W k5 k6 hst=>NoPanic.normal ?_) _
       try simp only [Act.put,sA,s0,sS]
       have LF:Hid (ThPair Ok wr c' d' W g5 g6 P1 P2):=Lib.hid ⟨k5,k6,by omega,by omega,by omega,hst.keeps _ _ _ i1 (fun h=>h.2.1 rfl) (fun h=>h.2.2 rfl),hst.keeps _ _ _ i2 (fun h=>h.2.1 rfl) (fun h=>h.2.2 rfl)⟩
       have hy:=hst.ext wr hv3 (by omega) (by omega)
       clear hst i1 i2 k5 k6 sv0 fSv1 fSv2 fEg5 fSv3 fEg6 Sv1 Sv2 Eg5 Sv3 Eg6
       go_wp2_with fail
       go_meet
       exact ⟨g5,g6,P1,P2,rfl,rfl,rfl,LF,hy⟩
     ·go_simp
      have hx0:Ext v1 (v1.alloc (.cells zcells 42)):=(Ext.refl v1).alloc _
      have hb6:Blk (v1.alloc (.cells zcells 42)) v1.heap.size 42 zcells:=Blk.new' rfl
      have sv4:(v1.alloc (.cells zcells 42)).heap.size=v1.heap.size+1:=by simp
      generalize v1.alloc (.cells zcells 42)=v4 at hx0 hb6 sv4 ⊢
      obtain ⟨g6,eg6⟩:∃ g,g=v1.heap.size:=⟨_,rfl⟩
      rw [← eg6] at hb6 ⊢
      have Eg6:=Lib.hid eg6
      have Sv4:=Lib.hid sv4
      clear eg6 sv4
      have hv4:=hv1.trans hx0
      replace I1:=Lib.hid (I1.out.ext hx0)
      replace I2:=Lib.hid (I2.out.ext hx0)
      refine hK.out _ _ hv4 (fun _=>?_)
      clear hK hx0
      try simp only [Act.put,sA,s0,sS]
      refine wpAnyH_ready (rs:=[10]) (by kernel_rfl) (by simp) ?_
      refine (AllReadyH.cons rfl (fun K hK=>?_) AllReadyH.nil)
      ·go_simp
       have hx0:Ext v4 (v4.alloc (.cells zcells 42)):=(Ext.refl v4).alloc _
       have hb5:Blk (v4.alloc (.cells zcells 42)) v4.heap.size 42 zcells:=Blk.new' rfl
       have sv5:(v4.alloc (.cells zcells 42)).heap.size=v4.heap.size+1:=by simp
       generalize v4.alloc (.cells zcells 42)=v5 at hx0 hb5 sv5 ⊢
       obtain ⟨g5,eg5⟩:∃ g,g=v4.heap.size:=⟨_,rfl⟩
       rw [← eg5] at hb5 ⊢
       have Eg5:=Lib.hid eg5
       have Sv5:=Lib.hid sv5
       clear eg5 sv5
       have hv5:=hv4.trans hx0
       replace hb6:=hb6.ext hx0
       replace I1:=Lib.hid (I1.out.ext hx0)
       replace I2:=Lib.hid (I2.out.ext hx0)
       refine hK.out _ _ hv5 (fun _=>?_)
       clear hK hx0
       try simp only [Act.put,sA,s0,sS]
       have fSv1:=Sv1.out
       have fSv4:=Sv4.out
       have fEg6:=Eg6.out
       have fSv5:=Sv5.out
       have fEg5:=Eg5.out
       have sv0:=S0.out
       have i1:=I1.out.mono (G:=fun b=>Ok b∧b≠g5∧b≠g6) (fun b hb=>⟨hb.1.elim (fun h=>h.1) (fun h=>HOK.out b (by omega)),by rcases hb.1 with h | h <;> omega,by rcases hb.1 with h | h <;> omega⟩)
       have i2:=I2.out.mono (G:=fun b=>Ok b∧b≠g5∧b≠g6) (fun b hb=>⟨hb.1.elim (fun h=>h.1) (fun h=>HOK.out b (by omega)),by rcases hb.1 with h | h <;> omega,by rcases hb.1 with h | h <;> omega⟩)
       refine two_stores (n:=12) (u:=.bool k) (v1:=parr P1) (v2:=parr P2) (by kernel_rfl) (by kernel_rfl) (by kernel_rfl) (by kernel_rfl) rfl rfl rfl rfl rfl rfl rfl rfl rfl rfl rfl rfl rfl rfl rfl rfl rfl hb5 hb6 rfl rfl (by omega) (by kernel_rfl) (by kernel_rfl) (by first | rfl | simp [Value.oneCell']) (by first | rfl | simp [Value.oneCell']) (Ext.setAll (by omega) _ _ _ hv5) (Ext.setAll (by omega) _ _ _ (Ext.setAll (by omega) _ _ _ hv5)) (fun W k5 k6 hst=>NoPanic.normal ?_) _
       try simp only [Act.put,sA,s0,sS]
       have LF:Hid (ThPair Ok wr c' d' W g5 g6 P1 P2):=Lib.hid ⟨k5,k6,by omega,by omega,by omega,hst.keeps _ _ _ i1 (fun h=>h.2.1 rfl) (fun h=>h.2.2 rfl),hst.keeps _ _ _ i2 (fun h=>h.2.1 rfl) (fun h=>h.2.2 rfl)⟩
       have hy:=hst.ext wr hv5 (by omega) (by omega)
       clear hst i1 i2 k5 k6 sv0 fSv1 fSv4 fEg6 fSv5 fEg5 Sv1 Sv4 Eg6 Sv5 Eg5
       go_wp2_with fail
       go_meet
       exact ⟨g5,g6,P1,P2,rfl,rfl,rfl,LF,hy⟩
    ·go_simp
     have hx0:Ext v0 (v0.alloc (.cells zcells 42)):=(Ext.refl v0).alloc _
     have hb5:Blk (v0.alloc (.cells zcells 42)) v0.heap.size 42 zcells:=Blk.new' rfl
     have sv6:(v0.alloc (.cells zcells 42)).heap.size=v0.heap.size+1:=by simp
     generalize v0.alloc (.cells zcells 42)=v6 at hx0 hb5 sv6 ⊢
     obtain ⟨g5,eg5⟩:∃ g,g=v0.heap.size:=⟨_,rfl⟩
     rw [← eg5] at hb5 ⊢
     have Eg5:=Lib.hid eg5
     have Sv6:=Lib.hid sv6
     clear eg5 sv6
     have hv6:=hv.trans hx0
     refine hK.out _ _ hv6 (fun _=>?_)
     clear hK hx0
     try simp only [Act.put,sA,s0,sS]
     refine wpAnyH_ready (rs:=[5,11]) (by kernel_rfl) (by simp) ?_
     refine (AllReadyH.cons rfl (fun K hK=>?_) (AllReadyH.cons rfl (fun K hK=>?_) AllReadyH.nil))
     ·go_simp
      refine (HC.out _ hv6).mono ?_
      rintro e v7 ⟨P1,P2,rfl,i1,i2,hx0⟩
      have I1:=Lib.hid i1.in
      have I2:=Lib.hid i2.in
      clear i1 i2
      have Sv7:=Lib.hid hx0.size_le
      have hv7:=hv6.trans hx0
      replace hb5:=hb5.ext hx0
      refine hK.out _ _ hv7 (fun _=>?_)
      clear hK hx0
      try simp only [Act.put,sA,s0,sS]
      refine tf (i:=6) (v:=(.tuple #[P1.v,P2.v,.bool k])) rfl rfl (fun _=>rfl) hv7 ?_
      try simp only [Act.put,sA,s0,sS]
      refine tf (i:=7) (v:=P1.v) rfl rfl (fun _=>rfl) hv7 ?_
      try simp only [Act.put,sA,s0,sS]
      refine tf (i:=8) (v:=P2.v) rfl rfl (fun _=>rfl) hv7 ?_
      try simp only [Act.put,sA,s0,sS]
      refine tf (i:=9) (v:=(.bool k)) rfl rfl (fun _=>rfl) hv7 ?_
      try simp only [Act.put,sA,s0,sS]
      refine wpAnyH_ready (rs:=[11]) (by kernel_rfl) (by simp) ?_
      refine (AllReadyH.cons rfl (fun K hK=>?_) AllReadyH.nil)
      ·go_simp
       have hx0:Ext v7 (v7.alloc (.cells zcells 42)):=(Ext.refl v7).alloc _
       have hb6:Blk (v7.alloc (.cells zcells 42)) v7.heap.size 42 zcells:=Blk.new' rfl
       have sv8:(v7.alloc (.cells zcells 42)).heap.size=v7.heap.size+1:=by simp
       generalize v7.alloc (.cells zcells 42)=v8 at hx0 hb6 sv8 ⊢
       obtain ⟨g6,eg6⟩:∃ g,g=v7.heap.size:=⟨_,rfl⟩
       rw [← eg6] at hb6 ⊢
       have Eg6:=Lib.hid eg6
       have Sv8:=Lib.hid sv8
       clear eg6 sv8
       have hv8:=hv7.trans hx0
       replace hb5:=hb5.ext hx0
       replace I1:=Lib.hid (I1.out.ext hx0)
       replace I2:=Lib.hid (I2.out.ext hx0)
       refine hK.out _ _ hv8 (fun _=>?_)
       clear hK hx0
       try simp only [Act.put,sA,s0,sS]
       have fSv6:=Sv6.out
       have fEg5:=Eg5.out
       have fSv7:=Sv7.out
       have fSv8:=Sv8.out
       have fEg6:=Eg6.out
       have sv0:=S0.out
       have i1:=I1.out.mono (G:=fun b=>Ok b∧b≠g5∧b≠g6) (fun b hb=>⟨hb.1.elim (fun h=>h.1) (fun h=>HOK.out b (by omega)),by rcases hb.1 with h | h <;> omega,by rcases hb.1 with h | h <;> omega⟩)
       have i2:=I2.out.mono (G:=fun b=>Ok b∧b≠g5∧b≠g6) (fun b hb=>⟨hb.1.elim (fun h=>h.1) (fun h=>HOK.out b (by omega)),by rcases hb.1 with h | h <;> omega,by rcases hb.1 with h | h <;> omega⟩)
       refine two_stores (n:=12) (u:=.bool k) (v1:=parr P1) (v2:=parr P2) (by kernel_rfl) (by kernel_rfl) (by kernel_rfl) (by kernel_rfl) rfl rfl rfl rfl rfl rfl rfl rfl rfl rfl rfl rfl rfl rfl rfl rfl rfl hb5 hb6 rfl rfl (by omega) (by kernel_rfl) (by kernel_rfl) (by first | rfl | simp [Value.oneCell']) (by first | rfl | simp [Value.oneCell']) (Ext.setAll (by omega) _ _ _ hv8) (Ext.setAll (by omega) _ _ _ (Ext.setAll (by omega) _ _ _ hv8)) (fun W k5 k6 hst=>NoPanic.normal ?_) _
       try simp only [Act.put,sA,s0,sS]
       have LF:Hid (ThPair Ok wr c' d' W g5 g6 P1 P2):=Lib.hid ⟨k5,k6,by omega,by omega,by omega,hst.keeps _ _ _ i1 (fun h=>h.2.1 rfl) (fun h=>h.2.2 rfl),hst.keeps _ _ _ i2 (fun h=>h.2.1 rfl) (fun h=>h.2.2 rfl)⟩
       have hy:=hst.ext wr hv8 (by omega) (by omega)
       clear hst i1 i2 k5 k6 sv0 fSv6 fEg5 fSv7 fSv8 fEg6 Sv6 Eg5 Sv7 Sv8 Eg6
       go_wp2_with fail
       go_meet
       exact ⟨g5,g6,P1,P2,rfl,rfl,rfl,LF,hy⟩
     ·go_simp
      have hx0:Ext v6 (v6.alloc (.cells zcells 42)):=(Ext.refl v6).alloc _
      have hb6:Blk (v6.alloc (.cells zcells 42)) v6.heap.size 42 zcells:=Blk.new' rfl
      have sv9:(v6.alloc (.cells zcells 42)).heap.size=v6.heap.size+1:=by simp
      generalize v6.alloc (.cells zcells 42)=v9 at hx0 hb6 sv9 ⊢
      obtain ⟨g6,eg6⟩:∃ g,g=v6.heap.size:=⟨_,rfl⟩
      rw [← eg6] at hb6 ⊢
      have Eg6:=Lib.hid eg6
      have Sv9:=Lib.hid sv9
      clear eg6 sv9
      have hv9:=hv6.trans hx0
      replace hb5:=hb5.ext hx0
      refine hK.out _ _ hv9 (fun _=>?_)
      clear hK hx0
      try simp only [Act.put,sA,s0,sS]
      refine wpAnyH_ready (rs:=[5]) (by kernel_rfl) (by simp) ?_
      refine (AllReadyH.cons rfl (fun K hK=>?_) AllReadyH.nil)
      ·go_simp
       refine (HC.out _ hv9).mono ?_
       rintro e v10 ⟨P1,P2,rfl,i1,i2,hx0⟩
       have I1:=Lib.hid i1.in
       have I2:=Lib.hid i2.in
       clear i1 i2
       have Sv10:=Lib.hid hx0.size_le
       have hv10:=hv9.trans hx0
       replace hb5:=hb5.ext hx0
       replace hb6:=hb6.ext hx0
       refine hK.out _ _ hv10 (fun _=>?_)
       clear hK hx0
       try simp only [Act.put,sA,s0,sS]
       refine tf (i:=6) (v:=(.tuple #[P1.v,P2.v,.bool k])) rfl rfl (fun _=>rfl) hv10 ?_
       try simp only [Act.put,sA,s0,sS]
       refine tf (i:=7) (v:=P1.v) rfl rfl (fun _=>rfl) hv10 ?_
       try simp only [Act.put,sA,s0,sS]
       refine tf (i:=8) (v:=P2.v) rfl rfl (fun _=>rfl) hv10 ?_
       try simp only [Act.put,sA,s0,sS]
       refine tf (i:=9) (v:=(.bool k)) rfl rfl (fun _=>rfl) hv10 ?_
       try simp only [Act.put,sA,s0,sS]
       have fSv6:=Sv6.out
       have fEg5:=Eg5.out
       have fSv9:=Sv9.out
       have fEg6:=Eg6.out
       have fSv10:=Sv10.out
       have sv0:=S0.out
       have i1:=I1.out.mono (G:=fun b=>Ok b∧b≠g5∧b≠g6) (fun b hb=>⟨hb.1.elim (fun h=>h.1) (fun h=>HOK.out b (by omega)),by rcases hb.1 with h | h <;> omega,by rcases hb.1 with h | h <;> omega⟩)
       have i2:=I2.out.mono (G:=fun b=>Ok b∧b≠g5∧b≠g6) (fun b hb=>⟨hb.1.elim (fun h=>h.1) (fun h=>HOK.out b (by omega)),by rcases hb.1 with h | h <;> omega,by rcases hb.1 with h | h <;> omega⟩)
       refine two_stores (n:=12) (u:=.bool k) (v1:=parr P1) (v2:=parr P2) (by kernel_rfl) (by kernel_rfl) (by kernel_rfl) (by kernel_rfl) rfl rfl rfl rfl rfl rfl rfl rfl rfl rfl rfl rfl rfl rfl rfl rfl rfl hb5 hb6 rfl rfl (by omega) (by kernel_rfl) (by kernel_rfl) (by first | rfl | simp [Value.oneCell']) (by first | rfl | simp [Value.oneCell']) (Ext.setAll (by omega) _ _ _ hv10) (Ext.setAll (by omega) _ _ _ (Ext.setAll (by omega) _ _ _ hv10)) (fun W k5 k6 hst=>NoPanic.normal ?_) _
       try simp only [Act.put,sA,s0,sS]
       have LF:Hid (ThPair Ok wr c' d' W g5 g6 P1 P2):=Lib.hid ⟨k5,k6,by omega,by omega,by omega,hst.keeps _ _ _ i1 (fun h=>h.2.1 rfl) (fun h=>h.2.2 rfl),hst.keeps _ _ _ i2 (fun h=>h.2.1 rfl) (fun h=>h.2.2 rfl)⟩
       have hy:=hst.ext wr hv10 (by omega) (by omega)
       clear hst i1 i2 k5 k6 sv0 fSv6 fEg5 fSv9 fEg6 fSv10 Sv6 Eg5 Sv9 Eg6 Sv10
       go_wp2_with fail
       go_meet
       exact ⟨g5,g6,P1,P2,rfl,rfl,rfl,LF,hy⟩
    ·go_simp
     have hx0:Ext v0 (v0.alloc (.cells zcells 42)):=(Ext.refl v0).alloc _
     have hb6:Blk (v0.alloc (.cells zcells 42)) v0.heap.size 42 zcells:=Blk.new' rfl
     have sv11:(v0.alloc (.cells zcells 42)).heap.size=v0.heap.size+1:=by simp
     generalize v0.alloc (.cells zcells 42)=v11 at hx0 hb6 sv11 ⊢
     obtain ⟨g6,eg6⟩:∃ g,g=v0.heap.size:=⟨_,rfl⟩
     rw [← eg6] at hb6 ⊢
     have Eg6:=Lib.hid eg6
     have Sv11:=Lib.hid sv11
     clear eg6 sv11
     have hv11:=hv.trans hx0
     refine hK.out _ _ hv11 (fun _=>?_)
     clear hK hx0
     try simp only [Act.put,sA,s0,sS]
     refine wpAnyH_ready (rs:=[5,10]) (by kernel_rfl) (by simp) ?_
     refine (AllReadyH.cons rfl (fun K hK=>?_) (AllReadyH.cons rfl (fun K hK=>?_) AllReadyH.nil))
     ·go_simp
      refine (HC.out _ hv11).mono ?_
      rintro e v12 ⟨P1,P2,rfl,i1,i2,hx0⟩
      have I1:=Lib.hid i1.in
      have I2:=Lib.hid i2.in
      clear i1 i2
      have Sv12:=Lib.hid hx0.size_le
      have hv12:=hv11.trans hx0
      replace hb6:=hb6.ext hx0
      refine hK.out _ _ hv12 (fun _=>?_)
      clear hK hx0
      try simp only [Act.put,sA,s0,sS]
      refine tf (i:=6) (v:=(.tuple #[P1.v,P2.v,.bool k])) rfl rfl (fun _=>rfl) hv12 ?_
      try simp only [Act.put,sA,s0,sS]
      refine tf (i:=7) (v:=P1.v) rfl rfl (fun _=>rfl) hv12 ?_
      try simp only [Act.put,sA,s0,sS]
      refine tf (i:=8) (v:=P2.v) rfl rfl (fun _=>rfl) hv12 ?_
      try simp only [Act.put,sA,s0,sS]
      refine tf (i:=9) (v:=(.bool k)) rfl rfl (fun _=>rfl) hv12 ?_
      try simp only [Act.put,sA,s0,sS]
      refine wpAnyH_ready (rs:=[10]) (by kernel_rfl) (by simp) ?_
      refine (AllReadyH.cons rfl (fun K hK=>?_) AllReadyH.nil)
      ·go_simp
       have hx0:Ext v12 (v12.alloc (.cells zcells 42)):=(Ext.refl v12).alloc _
       have hb5:Blk (v12.alloc (.cells zcells 42)) v12.heap.size 42 zcells:=Blk.new' rfl
       have sv13:(v12.alloc (.cells zcells 42)).heap.size=v12.heap.size+1:=by simp
       generalize v12.alloc (.cells zcells 42)=v13 at hx0 hb5 sv13 ⊢
       obtain ⟨g5,eg5⟩:∃ g,g=v12.heap.size:=⟨_,rfl⟩
       rw [← eg5] at hb5 ⊢
       have Eg5:=Lib.hid eg5
       have Sv13:=Lib.hid sv13
       clear eg5 sv13
       have hv13:=hv12.trans hx0
       replace hb6:=hb6.ext hx0
       replace I1:=Lib.hid (I1.out.ext hx0)
       replace I2:=Lib.hid (I2.out.ext hx0)
       refine hK.out _ _ hv13 (fun _=>?_)
       clear hK hx0
       try simp only [Act.put,sA,s0,sS]
       have fSv11:=Sv11.out
       have fEg6:=Eg6.out
       have fSv12:=Sv12.out
       have fSv13:=Sv13.out
       have fEg5:=Eg5.out
       have sv0:=S0.out
       have i1:=I1.out.mono (G:=fun b=>Ok b∧b≠g5∧b≠g6) (fun b hb=>⟨hb.1.elim (fun h=>h.1) (fun h=>HOK.out b (by omega)),by rcases hb.1 with h | h <;> omega,by rcases hb.1 with h | h <;> omega⟩)
       have i2:=I2.out.mono (G:=fun b=>Ok b∧b≠g5∧b≠g6) (fun b hb=>⟨hb.1.elim (fun h=>h.1) (fun h=>HOK.out b (by omega)),by rcases hb.1 with h | h <;> omega,by rcases hb.1 with h | h <;> omega⟩)
       refine two_stores (n:=12) (u:=.bool k) (v1:=parr P1) (v2:=parr P2) (by kernel_rfl) (by kernel_rfl) (by kernel_rfl) (by kernel_rfl) rfl rfl rfl rfl rfl rfl rfl rfl rfl rfl rfl rfl rfl rfl rfl rfl rfl hb5 hb6 rfl rfl (by omega) (by kernel_rfl) (by kernel_rfl) (by first | rfl | simp [Value.oneCell']) (by first | rfl | simp [Value.oneCell']) (Ext.setAll (by omega) _ _ _ hv13) (Ext.setAll (by omega) _ _ _ (Ext.setAll (by omega) _ _ _ hv13)) (fun W k5 k6 hst=>NoPanic.normal ?_) _
       try simp only [Act.put,sA,s0,sS]
       have LF:Hid (ThPair Ok wr c' d' W g5 g6 P1 P2):=Lib.hid ⟨k5,k6,by omega,by omega,by omega,hst.keeps _ _ _ i1 (fun h=>h.2.1 rfl) (fun h=>h.2.2 rfl),hst.keeps _ _ _ i2 (fun h=>h.2.1 rfl) (fun h=>h.2.2 rfl)⟩
       have hy:=hst.ext wr hv13 (by omega) (by omega)
       clear hst i1 i2 k5 k6 sv0 fSv11 fEg6 fSv12 fSv13 fEg5 Sv11 Eg6 Sv12 Sv13 Eg5
       go_wp2_with fail
       go_meet
       exact ⟨g5,g6,P1,P2,rfl,rfl,rfl,LF,hy⟩
     ·go_simp
      have hx0:Ext v11 (v11.alloc (.cells zcells 42)):=(Ext.refl v11).alloc _
      have hb5:Blk (v11.alloc (.cells zcells 42)) v11.heap.size 42 zcells:=Blk.new' rfl
      have sv14:(v11.alloc (.cells zcells 42)).heap.size=v11.heap.size+1:=by simp
      generalize v11.alloc (.cells zcells 42)=v14 at hx0 hb5 sv14 ⊢
      obtain ⟨g5,eg5⟩:∃ g,g=v11.heap.size:=⟨_,rfl⟩
      rw [← eg5] at hb5 ⊢
      have Eg5:=Lib.hid eg5
      have Sv14:=Lib.hid sv14
      clear eg5 sv14
      have hv14:=hv11.trans hx0
      replace hb6:=hb6.ext hx0
      refine hK.out _ _ hv14 (fun _=>?_)
      clear hK hx0
      try simp only [Act.put,sA,s0,sS]
      refine wpAnyH_ready (rs:=[5]) (by kernel_rfl) (by simp) ?_
      refine (AllReadyH.cons rfl (fun K hK=>?_) AllReadyH.nil)
      ·go_simp
       refine (HC.out _ hv14).mono ?_
       rintro e v15 ⟨P1,P2,rfl,i1,i2,hx0⟩
       have I1:=Lib.hid i1.in
       have I2:=Lib.hid i2.in
       clear i1 i2
       have Sv15:=Lib.hid hx0.size_le
       have hv15:=hv14.trans hx0
       replace hb6:=hb6.ext hx0
       replace hb5:=hb5.ext hx0
       refine hK.out _ _ hv15 (fun _=>?_)
       clear hK hx0
       try simp only [Act.put,sA,s0,sS]
       refine tf (i:=6) (v:=(.tuple #[P1.v,P2.v,.bool k])) rfl rfl (fun _=>rfl) hv15 ?_
       try simp only [Act.put,sA,s0,sS]
       refine tf (i:=7) (v:=P1.v) rfl rfl (fun _=>rfl) hv15 ?_
       try simp only [Act.put,sA,s0,sS]
       refine tf (i:=8) (v:=P2.v) rfl rfl (fun _=>rfl) hv15 ?_
       try simp only [Act.put,sA,s0,sS]
       refine tf (i:=9) (v:=(.bool k)) rfl rfl (fun _=>rfl) hv15 ?_
       try simp only [Act.put,sA,s0,sS]
       have fSv11:=Sv11.out
       have fEg6:=Eg6.out
       have fSv14:=Sv14.out
       have fEg5:=Eg5.out
       have fSv15:=Sv15.out
       have sv0:=S0.out
       have i1:=I1.out.mono (G:=fun b=>Ok b∧b≠g5∧b≠g6) (fun b hb=>⟨hb.1.elim (fun h=>h.1) (fun h=>HOK.out b (by omega)),by rcases hb.1 with h | h <;> omega,by rcases hb.1 with h | h <;> omega⟩)
       have i2:=I2.out.mono (G:=fun b=>Ok b∧b≠g5∧b≠g6) (fun b hb=>⟨hb.1.elim (fun h=>h.1) (fun h=>HOK.out b (by omega)),by rcases hb.1 with h | h <;> omega,by rcases hb.1 with h | h <;> omega⟩)
       refine two_stores (n:=12) (u:=.bool k) (v1:=parr P1) (v2:=parr P2) (by kernel_rfl) (by kernel_rfl) (by kernel_rfl) (by kernel_rfl) rfl rfl rfl rfl rfl rfl rfl rfl rfl rfl rfl rfl rfl rfl rfl rfl rfl hb5 hb6 rfl rfl (by omega) (by kernel_rfl) (by kernel_rfl) (by first | rfl | simp [Value.oneCell']) (by first | rfl | simp [Value.oneCell']) (Ext.setAll (by omega) _ _ _ hv15) (Ext.setAll (by omega) _ _ _ (Ext.setAll (by omega) _ _ _ hv15)) (fun W k5 k6 hst=>NoPanic.normal ?_) _
       try simp only [Act.put,sA,s0,sS]
       have LF:Hid (ThPair Ok wr c' d' W g5 g6 P1 P2):=Lib.hid ⟨k5,k6,by omega,by omega,by omega,hst.keeps _ _ _ i1 (fun h=>h.2.1 rfl) (fun h=>h.2.2 rfl),hst.keeps _ _ _ i2 (fun h=>h.2.1 rfl) (fun h=>h.2.2 rfl)⟩
       have hy:=hst.ext wr hv15 (by omega) (by omega)
       clear hst i1 i2 k5 k6 sv0 fSv11 fEg6 fSv14 fEg5 fSv15 Sv11 Eg6 Sv14 Eg5 Sv15
       go_wp2_with fail
       go_meet
       exact ⟨g5,g6,P1,P2,rfl,rfl,rfl,LF,hy⟩
   case rest=>
    obtain ⟨g9,g10,P1,P2,rfl,rfl,rfl,HP,hx0⟩:=hcut
    have hxx:=HXX.out.trans hx0
    replace hb0:=hb0.ext hx0
    replace hb1:=hb1.ext hx0
    have HG2:=Lib.hid (HG.out.ext hx0)
    have hsz0:=hx0.size_le
    clear hx HC RA RB hx0 HXX HG
    have hx:=hxx
    clear hxx
    cases k
    ·have HZ:Hid (R=.error i):=Lib.hid (HKB.out rfl)
     clear HK HKB HP HG2
     go_wp2_with fail
     refine wp_region_noPanic (wp_region_held_drew (S:=fun w'=>Blk w' w.heap.size 42 (parr Px)) (by kernel_rfl) hb0.drew (fun hv=>?_))
     have hd:=hx.drew1
     have kb1:=hb1.drew
     have ne1:w.heap.size≠w.heap.size+1:=by omega
     clear hx hb0 hb1
     generalize wc.drew=v0 at hv hd kb1 ⊢
     refine tl (i:=1) (parr Px).toList rfl rfl rfl rfl rfl Tryz.underlying42 rfl (fun _ h=>h.range 0 _ (fun j _=>by rw [Nat.zero_add,Array.getElem?_toList])) hv ?_
     try simp only [Act.put,sA,s0,sS]
     refine tf (i:=2) (v:=.int .i64 i) rfl rfl (fun _=>rfl) hv ?_
     try simp only [Act.put,sA,s0,sS]
     refine wpAnyH_one (i:=0) (by kernel_rfl) rfl (by kernel_rfl) ?_
     go_simp
     try refine ⟨hv.alloc _,?_⟩
     have hv1:=hv.alloc (.cells #[] 42)
     have hd1:=hd.alloc (.cells #[] 42)
     have kc1:=kb1.alloc (.cells #[] 42)
     generalize hv0:v0.heap.size=z0
     generalize v0.alloc (.cells #[] 42)=v1 at hv1 hd1 kc1 ⊢
     clear hv hd kb1 hv0
     have hv:=hv1
     have hd:=hd1
     have kb1:=kc1
     clear hv1 hd1 kc1
     try simp only [Act.put,sA,s0,sS]
     refine tf (i:=3) (v:=.slice (some ⟨z0,0,none⟩) 0 0) rfl rfl (fun _=>rfl) hv ?_
     try simp only [Act.put,sA,s0,sS]
     refine wpAnyH_one (i:=4) (by kernel_rfl) rfl (by kernel_rfl) ?_
     refine wp_store_mid _ _ _ rfl (w.heap.size+1) 0 (parr Px) rfl rfl kb1.there (by kernel_rfl) (by first | rfl | simp [Value.oneCell']) ?_
     refine ⟨Blk.farAll (w:=v1) (g:=w.heap.size) (b:=w.heap.size+1) ne1 (parr Px).toList 0 v1 hv,?_⟩
     try simp only [Act.put,sA,s0,sS]
     have kq:Blk (v1.setCells (w.heap.size+1) 0 (parr Px).toList) (w.heap.size+1) 42 (parr Px):=Blk.whole kb1 rfl
     have hxq:Ext w (v1.setCells (w.heap.size+1) 0 (parr Px).toList):=Ext.setAll (by omega) _ _ _ hd
     have hvq:=Blk.farAll (w:=v1) (g:=w.heap.size) (b:=w.heap.size+1) ne1 (parr Px).toList 0 v1 hv
     generalize v1.setCells (w.heap.size+1) 0 (parr Px).toList=v2 at kq hxq hvq ⊢
     clear hv hd kb1
     refine tf (i:=5) (v:=.int .i64 i) rfl rfl (fun _=>rfl) hvq ?_
     try simp only [Act.put,sA,s0,sS]
     refine wpAnyH_done (by kernel_rfl) (NoPanic.normal ?_) _
     have hx:=hxq
     obtain ⟨hc5,hf5,hl5⟩:=kq.all
     clear hxq hvq kq
     go_wp2_with fail
     refine bodyPost_ret (v:=.tuple #[.slice (some ⟨z0,0,none⟩) 0 0,Px.v,.int .i64 i]) ?_ rfl ?_
     ·simp only [results,Tryz.results51]
      go_simp
      (try simp)
     ·exact ⟨hx,by rw [HZ.out];exact ⟨_,_,Px,rfl,hlt⟩⟩
    ·obtain ⟨ht,hr⟩:=HK.out rfl
     have HT2:=Lib.hid ht
     have HR3:=Lib.hid hr
     obtain ⟨hb9,hb10,hne,l9,l10,i1,i2⟩:=HP.out
     have I1:=Lib.hid (i1.in.mono (G:=fun b=>Ok b∧b < wc.heap.size) (fun b hb=>⟨hb.1.1,hb.2⟩))
     have I2:=Lib.hid (i2.in.mono (G:=fun b=>Ok b∧b < wc.heap.size) (fun b hb=>⟨hb.1.1,hb.2⟩))
     have hw2:=HW2.out
     obtain ⟨hc9,hf9,hl9⟩:=hb9.all
     clear HK HKB HP ht hr i1 i2
     go_wp2_with (at_builtin;refine wpList_grow (wc.alloc (.cells (parr P1) 42)) rfl _ _ 22 rfl Tryz.underlying22 (by kernel_rfl) (w.heap.size+2) u7 o [c'] rfl (HG2.out.ext ((Ext.refl wc).alloc _)) ⟨wc.heap.size,0,none⟩ 1 rfl (Qs.lit I1.out) (fun b hb=>⟨by have :=hb.2;simp;omega,(HOE.out b hb.1).1,(HOE.out b hb.1).2⟩) (by simp) (by simp;omega) (by simp;omega) ?_;intro G gc w1 hgr hgrow hlie;have kb0:Blk w1 w.heap.size 42 (parr Px):=(hb0.alloc _).grownBy hgrow (fun e=>by have :=(HOW.out _ e.symm).1;omega);have kb1:Blk w1 (w.heap.size+1) 42 zcells:=(hb1.alloc _).grownBy hgrow (fun e=>by have :=(HOW.out _ e.symm).1;omega);have kb10:Blk w1 g10 42 (parr P2):=(hb10.alloc _).grownBy hgrow (fun e=>by have :=(HOW.out _ e.symm).2;omega);have J2:Is w1 (fun b=>Ok b∧b < wc.heap.size) P2 d':=(I2.out.alloc _).grownBy hgrow (fun b hb=>(HOE.out b hb.1).2);have hx1:Ext w w1:=Ext.grownBy (hx.alloc _) hgrow (fun k e=>by have :=(HOW.out _ e).1;omega);have HI2:Hid (Is w1 (fun b=>((F b∧b < w.heap.size)∨w.heap.size+2≤b)∧some b≠Value.ownBlock (.slice (some ⟨G,0,none⟩) (o.length+1) gc)) P2 d'):=Lib.hid (J2.mono fun b hb=>⟨(HOE.out b hb.1).1,fun e=>by have e2:b=G:=(Option.some.inj (show some b=some G from e));rcases hlie with h | h;(exact (HOE.out b hb.1).2 (by rw [h,e2]));(have h5:G=wc.heap.size+1:=(by simpa using h));(have:=hb.2);omega⟩);have HGR:=Lib.hid (show Grows w1 (w.heap.size+2) (fun b=>(F b∧b < w.heap.size)∨w.heap.size+2≤b) (.slice (some ⟨G,0,none⟩) (i+1) gc) (o ++ [c']) from by rw [← hol];exact hgr);clear hgr hgrow hlie hb0 hb1 hb9 hb10 J2 hx HG2 I1 I2 hc9 hf9 hl9;have hx:=hx1;clear hx1;have hc0:=kb0.cell;have hf0:=kb0.frozen;have hl0:=kb0.lt;have hc10:=kb10.cell;have hf10:=kb10.frozen;have hl10:=kb10.lt)
     go_roundw
     case rel=>
      refine ⟨i+1,o ++ [c'],d',P2,rfl,hlt,by rw [List.length_append,hol];rfl,?_,?_,?_,?_,?_,HT2,HR3⟩
      ·exact EX
      ·exact Blk.mk (by simp [↓heap_set_at,↓kb0.eq,kb0.lt,kb0.ne])
      ·exact Blk.mk (by simp [↓heap_set_at,↓kb1.eq,kb1.lt,kb1.ne])
      ·refine Lib.hid ((Kept.isG (g:=w.heap.size) (w:=w1) ?kk1 P2 d' _ HI2.out.in (fun b hb=>⟨by rcases hb.1.1 with h | h;(have:=h.2;omega);omega,hb.2⟩)).mono (fun b hb=>hb.1))
       case kk1=>repeat (first | with_reducible exact Kept.refl _ _ | with_reducible refine Kept.cell ?_ (Or.inl rfl) _ _)
      ·refine Lib.hid (Grows.kept HGR.out (g:=w.heap.size) ?kk2 (by omega) (fun b hb=>by rcases hb with h | h;(have:=h.2;omega);omega))
       case kk2=>repeat (first | with_reducible exact Kept.refl _ _ | with_reducible refine Kept.cell ?_ (Or.inl rfl) _ _)
     case measure=>simp [intOf];omega
  ·obtain rfl:i=n:=by omega
   have HZ:Hid (R=.ok (x',o)):=Lib.hid (by rw [HR.out,List.drop_of_length_le (by rw [HN.out];exact Nat.le_refl _),Sq.carry_end])
   have hown:=HG.out.own
   obtain ⟨C,cc,rfl,hqs,hle,_⟩:=HG.out.qs
   have HCB:Hid (∀ ad,C=some ad→w.heap.size+2≤ad.block):=Lib.hid (fun ad e=>by subst e;exact (hown ad.block rfl).1)
   rw [hol] at hle
   have HQ:=Lib.hid hqs.in
   rw [hol] at HI ⊢
   clear hqs hown HG HR HT
   go_wp2_with fail
   refine wp_region_noPanic (wp_region_held_drew (S:=fun w'=>Blk w' w.heap.size 42 (parr Px)) (by kernel_rfl) hb0.drew (fun hv=>?_))
   have hd:=hx.drew1
   have kb1:=hb1.drew
   have HI2:=Lib.hid HI.out.drew
   have HQ2:=Lib.hid (HQ.out.ext (Ext.refl wr).drew1)
   have ne1:w.heap.size≠w.heap.size+1:=by omega
   clear hx hb0 hb1 HI HQ
   generalize wr.drew=v1 at hv hd kb1 HI2 HQ2 ⊢
   refine tf (i:=0) (v:=.slice C i cc) rfl rfl (fun _=>rfl) hv ?_
   try simp only [Act.put,sA,s0,sS]
   refine tl (i:=1) (parr Px).toList rfl rfl rfl rfl rfl Tryz.underlying42 rfl (fun _ h=>h.range 0 _ (fun j _=>by rw [Nat.zero_add,Array.getElem?_toList])) hv ?_
   try simp only [Act.put,sA,s0,sS]
   refine tf (i:=2) (v:=.slice C i cc) rfl rfl (fun _=>rfl) hv ?_
   try simp only [Act.put,sA,s0,sS]
   refine wpAnyH_one (i:=3) (by kernel_rfl) rfl (by kernel_rfl) ?_
   refine wp_store_mid _ _ _ rfl (w.heap.size+1) 0 (parr Px) rfl rfl kb1.there (by kernel_rfl) (by first | rfl | simp [Value.oneCell']) ?_
   refine ⟨Blk.farAll (w:=v1) (g:=w.heap.size) (b:=w.heap.size+1) ne1 (parr Px).toList 0 v1 hv,?_⟩
   try simp only [Act.put,sA,s0,sS]
   have kq:Blk (v1.setCells (w.heap.size+1) 0 (parr Px).toList) (w.heap.size+1) 42 (parr Px):=Blk.whole kb1 rfl
   have hxq:Ext w (v1.setCells (w.heap.size+1) 0 (parr Px).toList):=Ext.setAll (by omega) _ _ _ hd
   have hvq:=Blk.farAll (w:=v1) (g:=w.heap.size) (b:=w.heap.size+1) ne1 (parr Px).toList 0 v1 hv
   have hkq:=Kept.set (w.heap.size+1) v1 0 (parr Px).toList
   have HI3:=Lib.hid (hkq.isG _ _ _ HI2.out.in (fun b hb=>⟨by have :=hb.1.1;omega,hb.2⟩))
   have HQ3:=Lib.hid (Qs.setAll HQ2.out (g:=w.heap.size+1) (parr Px).toList 0 (fun _ ad e=>by have :=HCB.out ad e;omega) (fun b hb=>by have :=hb.1.1;omega))
   clear hkq HI2 HQ2
   generalize v1.setCells (w.heap.size+1) 0 (parr Px).toList=v2 at kq hxq hvq HI3 HQ3 ⊢
   clear hv hd kb1
   refine tf (i:=4) (v:=.int .i64 (-1)) rfl rfl (fun _=>rfl) hvq ?_
   try simp only [Act.put,sA,s0,sS]
   refine wpAnyH_done (by kernel_rfl) (NoPanic.normal ?_) _
   have hx:=hxq
   obtain ⟨hc5,hf5,hl5⟩:=kq.all
   clear hxq hvq kq
   go_wp2_with fail
   refine bodyPost_ret (v:=.tuple #[.slice C i cc,Px.v,.int .i64 (-1)]) ?_ rfl ?_
   ·simp only [results,Tryz.results51]
    go_simp
    (try simp)
   ·exact ⟨hx,by rw [HZ.out];exact ⟨C,cc,Px,rfl,hle,fun ad e=>by have :=HCB.out ad e;omega,Lib.hid (HQ3.out.mono fun b hb=>hb.1.1.imp (fun h=>h.1) (fun h=>by omega)),Lib.hid (HI3.out.mono fun b hb=>hb.1.1.imp (fun h=>h.1) (fun h=>by omega))⟩⟩
end Go.Proofs.YtlbhaimfjfdppaaGreatDoor
namespace Go.Proofs.YtlbhaimfjfdppaaGreatDoor
open Go Go.RowKit
attribute [local go_sem ↓] Go.wp_at_zero Go.wp_at_succ
theorem Qs.grownBy {w w':World} {F:Nat→Prop} {A:Option Addr} {l:List Qp} {row:Option Nat} (h:Qs w F A l) (hg:w.grownBy w' row) (hA:0 < l.length→∀ ad,A=Option.some ad→Option.some ad.block≠row) (hF:∀ b,F b→Option.some b≠row):Qs w' F A l:=by
 obtain ⟨ps,h1,h2,h3⟩:=h
 refine ⟨ps,h1,fun h0=>?_,fun i p q hp hq=>(h3 i p q hp hq).grownBy hg hF⟩
 obtain ⟨b,o,e,hl,hc⟩:=h2 h0
 have hne:Option.some b≠row:=hA (by omega) _ e
 refine ⟨b,o,e,Nat.lt_of_lt_of_le hl hg.size,fun i p hp j v hv=>?_⟩
 rw [← hc i p hp j v hv]
 exact World.cell?_of_block (hg.block b hl hne)
namespace Sq
def merging (o:List Qp) (i:Nat) (a b:List Qp):Except (Nat × Nat) (List Qp × List Qp):=match merge a b with
 | .ok t=>.ok (t.1,o ++ t.2)
 | .error e=>.error (i+e.1,e.2)
theorem merging_start (a b:List Qp):merge a b=merging [] 0 a b:=by
 unfold merging
 cases merge a b with
 | ok t=>rfl
 | error e=>
   show (Except.error e:Except (Nat × Nat) (List Qp × List Qp))=.error (0+e.1,e.2)
   rw [Nat.zero_add]
theorem merging_end (o:List Qp) (i:Nat) (b:List Qp):merging o i [] b=.ok (b,o):=by
 show (Except.ok (b,o ++ []):Except (Nat × Nat) (List Qp × List Qp))=_
 rw [List.append_nil]
theorem merging_bad {o a b:List Qp} {i k:Nat} {x:Qp} (h:carried x b=.error k):merging o i (x :: a) b=.error (i,k):=by
 unfold merging
 rw [merge_cons,h]
 rfl
theorem merging_good {o a b:List Qp} {i:Nat} {x:Qp} {r:Qp × List Qp} (h:carried x b=.ok r):merging o i (x :: a) b=merging (o ++ [r.1]) (i+1) a r.2:=by
 unfold merging
 rw [merge_cons,h]
 dsimp only
 cases merge a r.2 with
 | ok t=>simp
 | error e=>simp only [Except.error.injEq,Prod.mk.injEq,and_true];omega
theorem carried_all {P:Qp→Prop} (hP:∀ x y:Qp,(x.merge y).2.2=true→P (x.merge y).1∧P (x.merge y).2.1):∀ {l:List Qp} {x:Qp} {r:Qp × List Qp},carried x l=.ok r→P x→P r.1∧(∀ q∈r.2,P q)∧r.2.length=l.length
 | [],x,r,h,hx=>by
   obtain rfl:=Except.ok.inj h
   exact ⟨hx,fun q hq=>(by cases hq),rfl⟩
 | y :: l,x,r,h,hx=>by
   unfold carried at h
   split at h
   ·rename_i hk
    split at h
    ·rename_i r2 h2
     obtain rfl:=Except.ok.inj h
     obtain ⟨h3,h4,h5⟩:=carried_all hP h2 (hP x y hk).2
     refine ⟨h3,fun q hq=>?_,by simp [h5]⟩
     rcases List.mem_cons.1 hq with rfl | hq
     ·exact (hP x y hk).1
     ·exact h4 q hq
    ·cases h
   ·cases h
end Sq
def RMerged (R:Except (Nat × Nat) (List Qp × List Qp)) (n m:Nat) (w:World) (e:Ending) (w':World):Prop:=
 Ext w w'∧match R with
 | .error _=>∃ A1 c1 A2 c2,∃ u:Value,e=.returned (.tuple #[.slice A1 0 c1,.slice A2 0 c2,u,.bool false])∧∃ x y,u=.agg #[.int .i64 x,.int .i64 y]
 | .ok t=>∃ A1 c1 A2 c2,e=.returned (.tuple #[.slice A1 m c1,.slice A2 n c2,.agg #[.int .i64 0,.int .i64 0],.bool true])∧m≤c1∧n≤c2∧Hid (Qs w' (fun _=>True) A1 t.1)∧Hid (Qs w' (fun _=>True) A2 t.2)
set_option maxHeartbeats 16000000 in
set_option maxRecDepth 100000 in
theorem rmerge15_any (A:Option Addr) (n cA:Nat) (B:Option Addr) (m cB:Nat) (a b:List Qp) (w:World) {F G:Nat→Prop} (ha:Qs w F A a) (hb:Qs w G B b) (hn:a.length=n) (hm:b.length=m) (hmc:m≤cB) (b1:n≤100000000000) (b2:m≤100000000000) (ta:∀ q∈a,q.Tame) (tb:∀ q∈b,q.Tame):
 Calls Tryz.prog 34 #[.slice A n cA,.slice B m cB] w (RMerged (Sq.merge a b) n m w):=by
 have HL:=Lib.hid ha.in
 have HN:=Lib.hid hn
 have HTA:=Lib.hid ta
 have HTB0:=Lib.hid tb
 have HM0:=Lib.hid hm
 have HB0:=Lib.hid hb.in
 have HBA:Hid (0 < m→∀ ad,B=some ad→ad.block < w.heap.size):=Lib.hid (fun h0 ad e=>by
  obtain ⟨ps,h1,h2,_⟩:=hb
  obtain ⟨bb,oo,e2,hl,_⟩:=h2 (by omega)
  rw [e] at e2
  obtain rfl:=Option.some.inj e2
  exact hl)
 have HTH:=Lib.hid (fun (Ok:Nat→Prop) W (P:Pv) (x:Qp) (B':Option Addr) (c':Nat) (l:List Qp) (h1:Is W Ok P x) (h2:Qs W Ok B' l) (hl:l.length=m) (tx:x.Tame) (tl:∀ q∈l,q.Tame)=>rthrough15_any P x B' m c' l W h1 h2 hl b2 tx tl)
 have H0:Hid (Sq.merge a b=Sq.merging [] 0 (a.drop 0) b):=Lib.hid (by rw [List.drop_zero];exact Sq.merging_start a b)
 generalize Sq.merge a b=R at H0 ⊢
 clear ha hb hn hm ta tb
 go_enter Tryz.func34,Tryz.ntmps34
 have hx:=Ext.refl w
 go_wp2_with fail
 have HC0:Hid (Blk ((w.alloc (.cells #[.int .i64 0,.int .i64 0] 50)).alloc (.cells #[] 42)) w.heap.size 50 #[.int .i64 0,.int .i64 0]):=Lib.hid (Blk.alloc (Blk.new' (by simp)) _)
 have HX0:Hid (Ext w ((w.alloc (.cells #[.int .i64 0,.int .i64 0] 50)).alloc (.cells #[] 42))):=Lib.hid (((Ext.refl w).alloc _).alloc _)
 have HG0:Hid (Grows ((w.alloc (.cells #[.int .i64 0,.int .i64 0] 50)).alloc (.cells #[] 42)) (w.heap.size+1) (fun b=>b≠w.heap.size) (.slice (some ⟨w.heap.size+1,0,none⟩) 0 0) []):=Lib.hid (by
  have h:=Grows.empty (w:=w.alloc (.cells #[.int .i64 0,.int .i64 0] 50)) (base:=w.heap.size+1) (fun b=>b≠w.heap.size) (by simp)
  simpa using h)
 have HQ0:Hid (Qs ((w.alloc (.cells #[.int .i64 0,.int .i64 0] 50)).alloc (.cells #[] 42)) (fun b=>b≠w.heap.size∧some b≠Value.ownBlock (.slice (some ⟨w.heap.size+1,0,none⟩) 0 0)) B b):=Lib.hid ((HB0.out.ext HX0.out).mono fun b hb=>⟨by have :=hb.2;omega,fun e=>absurd (show b=w.heap.size+1 by simpa [Value.ownBlock] using e) (by have :=hb.2;omega)⟩)
 have HS0:Hid (0 < m→∀ ad,B=some ad→ad.block≠w.heap.size∧some ad.block≠Value.ownBlock (.slice (some ⟨w.heap.size+1,0,none⟩) 0 0)):=Lib.hid (fun h0 ad e=>by
  have h1:=HBA.out h0 ad e
  exact ⟨by omega,fun e=>absurd (show ad.block=w.heap.size+1 by simpa [Value.ownBlock] using e) (by omega)⟩)
 generalize (w.alloc (.cells #[.int .i64 0,.int .i64 0] 50)).alloc (.cells #[] 42)=w0 at HC0 HX0 HG0 HQ0 ⊢
 clear hx HB0 HBA
 go_loopw [1,8,9] (fun u1 u8 u9 wr=>∃ (i:Nat) (o l:List Qp) (B':Option Addr) (c':Nat),u1=.slice B' m c'∧u9=.int .i64 i∧i≤n∧m≤c'∧o.length=i∧Ext w wr∧Blk wr w.heap.size 50 #[.int .i64 0,.int .i64 0]∧Hid (Qs wr (fun b=>b≠w.heap.size∧some b≠u8.ownBlock) B' l)∧Hid (0 < m→∀ ad,B'=some ad→ad.block≠w.heap.size∧some ad.block≠u8.ownBlock)∧Hid (Grows wr (w.heap.size+1) (fun b=>b≠w.heap.size) u8 o)∧Hid (l.length=m)∧Hid (∀ q∈l,q.Tame)∧Hid (R=Sq.merging o i (a.drop i) l)) (fun u1 u8 u9 wr=>n - (intOf u9).toNat)
 case atStart=>exact ⟨0,[],b,B,cB,rfl,rfl,Nat.zero_le _,hmc,rfl,HX0.out,HC0.out,HQ0,HS0,HG0,HM0,HTB0,H0⟩
 case round=>
  clear HC0 HX0 HG0 HQ0 HS0 HM0 HTB0 H0
  obtain ⟨i,o,l,B',c',rfl,rfl,hin,hmc',hol,hx,hb0,HQ,HS,HG,HM,HTB,HR⟩:=hrel
  by_cases hlt:i < n
  ·have hil:i < a.length:=by rw [HN.out];exact hlt
   have e1:a[i]?=some (a[i]'hil):=List.getElem?_eq_getElem hil
   obtain ⟨g,oo,Px,hA,hgl,ra0,ia⟩:=HL.out.get e1
   subst hA
   have tx:=HTA.out _ (List.mem_of_getElem? e1)
   have hdr:a.drop i=(a[i]'hil) :: a.drop (i+1):=by rw [List.drop_eq_getElem_cons hil]
   generalize a[i]'hil=x at ia tx hdr e1
   have HR2:Hid (R=Sq.merging o i (x :: a.drop (i+1)) l):=Lib.hid (by rw [HR.out,hdr])
   have HOW:=Lib.hid HG.out.own
   have hwr:=hb0.lt
   have HXI:Hid (Is wr (fun b=>(b≠w.heap.size∧some b≠u8.ownBlock)∧b < wr.heap.size) Px x):=Lib.hid ((ia.ext hx).mono fun b hb=>by
    have h1:=hb.2
    have h2:=hx.size_le
    refine ⟨⟨by omega,fun e=>?_⟩,by omega⟩
    have:=(HOW.out b e.symm).1
    omega)
   have HC:=Lib.hid (HTH.out _ wr Px x B' c' l HXI.out HQ.out.in HM.out tx HTB.out)
   have HK:=Lib.hid (fun k (h:Sq.carried x l=.error k)=>HR2.out.trans (Sq.merging_bad h))
   have HKG:=Lib.hid (fun r (h:Sq.carried x l=.ok r)=>And.intro (HR2.out.trans (Sq.merging_good h)) (Sq.carried_all (P:=Qp.Tame) (fun x y h=>merge_tame h) h tx))
   generalize Sq.carried x l=CR at HC HK HKG
   obtain ⟨q0,q1,q2,q3,q4,q5,q6,q7,q8,q9,q10,q11⟩:=cells12 (range_ext ra0 hgl hx)
   clear HR HR2 hdr e1 ia ra0 tx hgl HXI HQ HS HTB
   go_wp2_with fail
   clear q0 q1 q2 q3 q4 q5 q6 q7 q8 q9 q10 q11
   refine HC.out.mono ?_
   rintro e w1 ⟨hx0,hres⟩
   have hb1:=hb0.ext hx0
   have HG1:=Lib.hid (HG.out.ext hx0)
   have hsz:=hx0.size_le
   have hy:=hx.trans hx0
   clear hx hb0 HG hx0 HC
   have hx:=hy
   clear hy
   cases CR with
   | error k=>
     obtain ⟨C,cc,P,rfl,hk⟩:=hres
     have HZ:Hid (R=.error (i,k)):=Lib.hid (HK.out k rfl)
     clear HK HKG HG1
     obtain ⟨hc0,hf0,hl0⟩:=hb1.all
     have hbz:=((hb1.alloc (.cells (parr P) 42)).alloc (.cells #[] 42)).alloc (.cells #[] 42)
     obtain ⟨hcz,hfz,hlz⟩:=hbz.all
     go_wp2_with fail
     refine bodyPost_ret (v:=.tuple #[.slice (some ⟨w1.heap.size+1,0,none⟩) 0 0,.slice (some ⟨w1.heap.size+1+1,0,none⟩) 0 0,.agg #[.int .i64 i,.int .i64 k],.bool false]) ?_ rfl ?_
     ·simp only [results,Tryz.results34]
      go_simp
      (try simp)
     ·exact ⟨EX,by rw [HZ.out];exact ⟨_,_,_,_,_,rfl,_,_,rfl⟩⟩
   | ok r=>
     obtain ⟨x',l'⟩:=r
     obtain ⟨C,cc,P,rfl,hcc,hCb,HQC,HIP⟩:=hres
     obtain ⟨hr3,htx,htl,hll⟩:=HKG.out _ rfl
     have HR3:=Lib.hid hr3
     have HTB2:=Lib.hid htl
     have HM2:=Lib.hid (hll.trans HM.out)
     have hw1:=hx.size_le
     have I1:Is w1 (fun b=>(b≠w.heap.size∧some b≠u8.ownBlock)∧b < w1.heap.size) P x':=(HIP.out.in).mono fun b hb=>⟨hb.1.elim (fun h=>h.1) (fun h=>⟨by omega,fun e=>by have :=(HOW.out b e.symm).2;omega⟩),hb.2⟩
     have HQ2:Hid (Qs w1 (fun b=>(b≠w.heap.size∧some b≠u8.ownBlock)∧b < w1.heap.size) C l'):=Lib.hid ((HQC.out.in).mono fun b hb=>⟨hb.1.elim (fun h=>h.1) (fun h=>⟨by omega,fun e=>by have :=(HOW.out b e.symm).2;omega⟩),hb.2⟩)
     have HCS:Hid (0 < m→∀ ad,C=some ad→wr.heap.size≤ad.block∧ad.block < w1.heap.size):=Lib.hid (fun h0 ad e=>by
      refine ⟨hCb ad e,?_⟩
      obtain ⟨ps,h1,h2,_⟩:=HQC.out
      obtain ⟨bb,o2,e2,hl,_⟩:=h2 (by have :=HM2.out;omega)
      rw [e] at e2
      obtain rfl:=Option.some.inj e2
      exact hl)
     have HI1:=Lib.hid I1
     have hb0w:=hb1.lt
     clear HK HKG hr3 htx htl hll hCb HQC HIP I1 HM
     go_wp2_with (at_builtin;refine wpList_grow (G:=fun b=>(b≠w.heap.size∧some b≠u8.ownBlock)∧b < w1.heap.size) ((w1.alloc (.cells (parr P) 42)).alloc (.cells (parr P) 42)) rfl _ _ 22 rfl Tryz.underlying22 (by kernel_rfl) (w.heap.size+1) u8 o [x'] rfl (HG1.out.ext (((Ext.refl w1).alloc _).alloc _)) ⟨w1.heap.size+1,0,none⟩ 1 rfl (by have h:=Qs.lit (w:=w1.alloc (.cells (parr P) 42)) (HI1.out.alloc _);simpa using h) (fun b hb=>⟨by have :=hb.2;simp;omega,hb.1.1,hb.1.2⟩) (by simp) (by simp;omega) (by simp;omega) ?_;intro GG gc w2 hgr hgrow hlie;have kb:Blk w2 w.heap.size 50 #[.int .i64 0,.int .i64 0]:=((hb1.alloc _).alloc _).grownBy hgrow (fun e=>by have :=(HOW.out _ e.symm).1;omega);have hx2:Ext w w2:=Ext.grownBy ((hx.alloc _).alloc _) hgrow (fun k e=>by have :=(HOW.out _ e).1;omega);have hGG:∀ b,b < w1.heap.size→some b≠u8.ownBlock→some b≠Value.ownBlock (.slice (some ⟨GG,0,none⟩) (i+1) gc):=(fun b hb hne e=>by have e2:b=GG:=(Option.some.inj (show some b=some GG from e));rcases hlie with h | h;(exact hne (by rw [h,e2]));(have h5:GG=w1.heap.size+1+1:=(by simpa using h));omega);have HQ3:Hid (Qs w2 (fun b=>b≠w.heap.size∧some b≠Value.ownBlock (.slice (some ⟨GG,0,none⟩) (i+1) gc)) C l'):=Lib.hid ((Qs.grownBy (HQ2.out.ext (((Ext.refl w1).alloc _).alloc _)) hgrow (fun h0 ad e e2=>by have h6:=HCS.out (by have :=HM2.out;omega) ad e;have:=(HOW.out _ e2.symm).2;omega) (fun b hb=>hb.1.2)).mono fun b hb=>⟨hb.1.1,hGG b hb.2 hb.1.2⟩);have HS3:Hid (0 < m→∀ ad,C=some ad→ad.block≠w.heap.size∧some ad.block≠Value.ownBlock (.slice (some ⟨GG,0,none⟩) (i+1) gc)):=Lib.hid (fun h0 ad e=>by have h6:=HCS.out h0 ad e;exact ⟨by omega,hGG _ h6.2 (fun e2=>by have :=(HOW.out _ e2.symm).2;omega)⟩);have HGR:=Lib.hid (show Grows w2 (w.heap.size+1) (fun b=>b≠w.heap.size) (.slice (some ⟨GG,0,none⟩) (i+1) gc) (o ++ [x']) from by rw [← hol];exact hgr);clear hgr hgrow hlie hGG hb1 hx HG1 HQ2 HCS HI1;have hx:=hx2;clear hx2)
     go_roundw
     case rel=>
      have hol2:(o ++ [x']).length=i+1:=by rw [List.length_append,hol];rfl
      first
       | exact ⟨i+1,o ++ [x'],l',C,cc,rfl,rfl,hlt,hcc,hol2,hx,kb,HQ3,HS3,HGR,HM2,HTB2,HR3⟩
       | ((repeat apply Exists.intro);exact ⟨⟨i+1,o ++ [x'],l',C,cc,rfl,rfl,hlt,hcc,hol2,hx,kb,HQ3,HS3,HGR,HM2,HTB2,HR3⟩,rfl⟩)
     case measure=>simp [intOf];omega
  ·obtain rfl:i=n:=by omega
   have HZ:Hid (R=.ok (l,o)):=Lib.hid (by rw [HR.out,List.drop_of_length_le (by rw [HN.out];exact Nat.le_refl _),Sq.merging_end])
   have hown:=HG.out.own
   obtain ⟨C2,cc2,rfl,hqs,hle,_⟩:=HG.out.qs
   rw [hol] at hle ⊢
   have HQ2:=Lib.hid hqs.in
   have HO2:Hid (∀ ad,C2=some ad→ad.block≠w.heap.size):=Lib.hid (fun ad e=>by subst e;have:=(hown ad.block rfl).1;omega)
   obtain ⟨hc0,hf0,hl0⟩:=hb0.all
   clear hqs hown HG HR HTB
   go_wp2_with fail
   refine bodyPost_ret (v:=.tuple #[.slice B' m c',.slice C2 i cc2,.agg #[.int .i64 0,.int .i64 0],.bool true]) ?_ rfl ?_
   ·simp only [results,Tryz.results34]
    go_simp
    (try simp)
   ·refine ⟨EX,?_⟩
    rw [HZ.out]
    refine ⟨B',c',C2,cc2,rfl,hmc',hle,Lib.hid ?_,Lib.hid ?_⟩
    ·exact (Qs.setAll HQ.out (g:=w.heap.size) [.int .i64 0,.int .i64 0] 0 (fun h0 ad e=>(HS.out (by have :=HM.out;omega) ad e).1) (fun b hb=>hb.1)).mono fun _ _=>trivial
    ·exact (Qs.setAll HQ2.out (g:=w.heap.size) [.int .i64 0,.int .i64 0] 0 (fun _ ad e=>HO2.out ad e) (fun b hb=>hb.1.1)).mono fun _ _=>trivial
end Go.Proofs.YtlbhaimfjfdppaaGreatDoor
namespace Go.Proofs.YtlbhaimfjfdppaaGreatDoor
open Go Go.RowKit
attribute [local go_sem ↓] Go.wp_at_zero Go.wp_at_succ
def RRest (R:Option (List Qp)) (n:Nat) (w:World) (e:Ending) (w':World):Prop:=
 ((R=none∧∃ C cc,e=.returned (.tuple #[.slice C 0 cc,.bool false]))∨∃ m C cc,R=some m∧m.length=n∧n≤cc∧e=.returned (.tuple #[.slice C n cc,.bool true])∧Hid (Qs w' (fun _=>True) C m))∧Ext w w'
set_option maxHeartbeats 16000000 in
set_option maxRecDepth 100000 in
theorem rwithout15_any (A:Option Addr) (n c:Nat) (l:List Qp) (p:Pv) (x:Qp) (w:World) {F G:Nat→Prop} (h:Qs w F A l) (hn:l.length=n) (hc:n≤c) (hx:Is w G p x) (tx:x.Tame) (hb:n≤100000000000) (hf:∀ q∈l,q.Tame):
 Calls Tryz.prog 35 #[.slice A n c,p.v] w (RRest (Sq.without l x) (n - 1) w):=by
 have HMV:=Lib.hid (fun W k (hW:Ext w W) (hk:k < n)=>rmove_any A n c k 0 l W (h.ext hW) hn hc hk (by omega) hb hf)
 have HMF:=Lib.hid (fun k m (hm:Sq.move l k 0=some m)=>And.intro (Sq.move_all (fun q=>check_tame) hm hf) ((Sq.move_length hm).trans hn))
 have HFS:=Lib.hid (fun k (hk:k < n)=>Sq.from_step (l:=l) (x:=x) hk)
 have HEQ:=Lib.hid (fun W P2 y (hW:Ext w W) (hi:Is W (fun _=>True) P2 y) (ty:y.Tame)=>psame_any P2 p y x W hi (hx.ext hW) ty.1.1 ty.1.2.1 tx.1.1 tx.1.2.1)
 have H0:Hid (Sq.without l x=Sq.withoutFrom l x (n - 0) 0):=Lib.hid (by unfold Sq.without;rw [hn];rfl)
 generalize Sq.without l x=R at H0 ⊢
 clear h hn hx tx hf
 go_enter Tryz.func35,Tryz.ntmps35
 have hx:=Ext.refl w
 go_wp2_with fail
 have hbx:Blk (w.alloc (.cells (parr p) 42)) w.heap.size 42 (parr p):=Blk.new' rfl
 have hx0:Ext w (w.alloc (.cells (parr p) 42)):=(Ext.refl w).alloc _
 generalize (w.alloc (.cells (parr p) 42))=w0 at hbx hx0 ⊢
 clear hx
 go_loopw [6] (fun u6 wr=>∃ k:Nat,k≤n∧u6=.int .i64 k∧Ext w wr∧Blk wr w.heap.size 42 (parr p)∧Hid (R=Sq.withoutFrom l x (n - k) k)) (fun u6 wr=>n - (intOf u6).toNat)
 case atStart=>exact ⟨0,Nat.zero_le _,rfl,hx0,hbx,H0⟩
 case round=>
  clear hx0 hbx H0
  obtain ⟨k,hk,rfl,hx,hbx,HR⟩:=hrel
  by_cases hlt:k < n
  ·have HR2:=Lib.hid (HR.out.trans (HFS.out k hlt))
   clear HR
   go_wp2_with fail
   refine (HMV.out _ k hx hlt).mono ?_
   rintro e w1 ⟨hres,hx1⟩
   have hbx1:=hbx.ext hx1
   have hx2:=hx.trans hx1
   clear hx hx1 hbx
   have hx:=hx2
   clear hx2
   rcases hres with ⟨hm,rfl⟩ | ⟨m,Bm,cc,hm,hcc,rfl,HQ⟩
   ·have HR3:Hid (R=Sq.withoutFrom l x (n - (k+1)) (k+1)):=Lib.hid (by have h0:=HR2.out;rw [hm] at h0;exact h0)
    clear HR2 hm
    go_wp2_with fail
    refine wp_region_noPanic (wp_region_held_drew (S:=fun w'=>Ext w1 w') (by kernel_rfl) (Ext.refl w1).drew1 (fun hv=>?_))
    generalize w1.drew=v0 at hv ⊢
    refine tf (i:=0) (v:=.bool false) rfl rfl (fun _=>rfl) hv ?_
    try simp only [Act.put,sA,s0,sS]
    refine tf (i:=1) (v:=.bool false) rfl rfl (fun _=>rfl) hv ?_
    try simp only [Act.put,sA,s0,sS]
    refine tk (i:=2) rfl rfl hv ?_
    try simp only [Act.put,sA,s0,sS]
    refine tk (i:=3) rfl rfl hv ?_
    try simp only [Act.put,sA,s0,sS]
    refine tk (i:=4) rfl rfl hv ?_
    try simp only [Act.put,sA,s0,sS]
    refine tk (i:=5) rfl rfl hv ?_
    try simp only [Act.put,sA,s0,sS]
    refine tk (i:=6) rfl rfl hv ?_
    try simp only [Act.put,sA,s0,sS]
    refine tf (i:=7) (v:=.bool false) rfl rfl (fun _=>rfl) hv ?_
    try simp only [Act.put,sA,s0,sS]
    refine wpAnyH_done (by kernel_rfl) (NoPanic.normal ?_) _
    have hy:=hx.trans hv
    have hbx2:=hbx1.ext hv
    clear hx hv hbx1
    have hx:=hy
    clear hy
    go_wp2_with fail
    go_roundw
    case rel=>first | exact ⟨k+1,hlt,rfl,hx,hbx2,HR3⟩ | ((repeat apply Exists.intro);exact ⟨⟨k+1,hlt,rfl,hx,hbx2,HR3⟩,rfl⟩)
    case measure=>simp [intOf];omega
   ·have hma:=HMF.out k m hm
    have hml:=hma.2
    have e0:m[0]?=some (m.getD 0 Qp.zero):=by rw [List.getD_eq_getElem?_getD,List.getElem?_eq_getElem (by omega)];rfl
    have ty:=hma.1 _ (List.mem_of_getElem? e0)
    have HR3:Hid (R=if (m.getD 0 Qp.zero).same x then some m.tail else Sq.withoutFrom l x (n - (k+1)) (k+1)):=Lib.hid (by have h0:=HR2.out;rw [hm] at h0;exact h0)
    have HML:Hid (m.tail.length=n - 1):=Lib.hid (by rw [List.length_tail,hml])
    generalize m.getD 0 Qp.zero=y at e0 ty HR3
    obtain ⟨g,o,P1,hA,hgl,ra0,ia⟩:=HQ.out.get e0
    subst hA
    have HC1:=Lib.hid (fun W (hW:Ext w1 W)=>range_ext ra0 hgl hW)
    have HES:=Lib.hid (fun W (hW:Ext w1 W)=>HEQ.out W P1 y (hx.trans hW) (ia.ext hW) ty)
    have HQT:=Lib.hid (fun W (hW:Ext w1 W)=>by have h:=(HQ.out.ext hW).low 1 cc (by omega);rwa [List.drop_one] at h:∀ W,Ext w1 W→Qs W (fun _=>True) (if cc=1 then Option.some ⟨g,o,none⟩ else (Option.some (⟨g,o,none⟩:Addr)).map (·.add (1 * 12))) m.tail)
    generalize y.same x=s at HES HR3
    clear HR2 hm e0 ty ra0 ia hgl hml hma HQ
    go_wp2_with fail
    refine wp_region_noPanic (wp_region_held_drew (S:=fun w'=>Ext w1 w') (by kernel_rfl) (Ext.refl w1).drew1 (fun hv=>?_))
    generalize w1.drew=v0 at hv ⊢
    refine tf (i:=0) (v:=.bool true) rfl rfl (fun _=>rfl) hv ?_
    try simp only [Act.put,sA,s0,sS]
    refine tf (i:=1) (v:=.bool true) rfl rfl (fun _=>rfl) hv ?_
    try simp only [Act.put,sA,s0,sS]
    refine tf (i:=2) (v:=.slice (some ⟨g,o,none⟩) n cc) rfl rfl (fun _=>rfl) hv ?_
    try simp only [Act.put,sA,s0,sS]
    refine ti (i:=3) g o n cc (0) rfl rfl rfl rfl rfl (by omega) Tryz.underlying22 hv ?_
    try simp only [Act.put,sA,s0,sS]
    refine tg (i:=4) (parr P1).toList rfl rfl rfl rfl Tryz.underlying42 rfl (fun _ h=>HC1.out _ h) hv ?_
    try simp only [Act.put,sA,s0,sS]
    refine tg (i:=5) (parr p).toList rfl rfl rfl rfl Tryz.underlying42 rfl (fun _ h=>(hbx1.ext h).range 0 _ (fun j _=>by rw [Nat.zero_add,Array.getElem?_toList])) hv ?_
    try simp only [Act.put,sA,s0,sS]
    refine wpAnyH_one (i:=6) (by kernel_rfl) rfl (by kernel_rfl) ?_
    go_simp
    refine (HES.out _ hv).mono ?_
    rintro e v1 ⟨rfl,hx0⟩
    have hv2:=hv.trans hx0
    clear hv hx0
    have hv:=hv2
    clear hv2
    refine ⟨hv,?_⟩
    try simp only [Act.put,sA,s0,sS]
    cases s
    ·have HR4:Hid (R=Sq.withoutFrom l x (n - (k+1)) (k+1)):=Lib.hid (by rw [HR3.out,if_neg (by decide)])
     clear HR3 HES HQT HML
     refine tf (i:=7) (v:=.bool false) rfl rfl (fun _=>rfl) hv ?_
     try simp only [Act.put,sA,s0,sS]
     refine wpAnyH_done (by kernel_rfl) (NoPanic.normal ?_) _
     have hy:=hx.trans hv
     have hbx2:=hbx1.ext hv
     clear hx hv hbx1
     have hx:=hy
     clear hy
     go_wp2_with fail
     go_roundw
     case rel=>first | exact ⟨k+1,hlt,rfl,hx,hbx2,HR4⟩ | ((repeat apply Exists.intro);exact ⟨⟨k+1,hlt,rfl,hx,hbx2,HR4⟩,rfl⟩)
     case measure=>simp [intOf];omega
    ·have HR4:Hid (R=some m.tail):=Lib.hid (by rw [HR3.out,if_pos rfl])
     clear HR3 HES
     refine tf (i:=7) (v:=.bool true) rfl rfl (fun _=>rfl) hv ?_
     try simp only [Act.put,sA,s0,sS]
     refine wpAnyH_done (by kernel_rfl) (NoPanic.normal ?_) _
     have hy:=hx.trans hv
     have HQ4:=Lib.hid (HQT.out _ hv)
     clear hx hv HQT hbx1
     have hx:=hy
     clear hy
     have z1:¬ ((n:Int) < 1):=by omega
     by_cases hd1:cc=1
     ·have HB4:Hid (Qs v1 (fun _=>True) (Option.some ⟨g,o,none⟩) m.tail):=Lib.hid (by have h:=HQ4.out;simpa [hd1,Addr.add] using h)
      go_wp2_with fail
      refine bodyPost_ret (v:=.tuple #[.slice (some ⟨g,o,none⟩) (n - 1:Nat) (cc - 1:Nat),.bool true]) ?_ rfl ?_
      ·simp only [results,Tryz.results35]
       go_simp
       (try simp [hd1])
      ·exact ⟨.inr ⟨m.tail,_,cc - 1,HR4.out,HML.out,by omega,rfl,HB4⟩,hx⟩
     ·have HB4:Hid (Qs v1 (fun _=>True) (Option.some ⟨g,o+12,none⟩) m.tail):=Lib.hid (by have h:=HQ4.out;simpa [hd1,Addr.add] using h)
      go_wp2_with fail
      refine bodyPost_ret (v:=.tuple #[.slice (some ⟨g,o+12,none⟩) (n - 1:Nat) (cc - 1:Nat),.bool true]) ?_ rfl ?_
      ·simp only [results,Tryz.results35]
       go_simp
       (try simp [hd1])
      ·exact ⟨.inr ⟨m.tail,_,cc - 1,HR4.out,HML.out,by omega,rfl,HB4⟩,hx⟩
  ·have HZ:Hid (R=none):=Lib.hid (by have h0:=HR.out;rw [show n - k=0 by omega] at h0;exact h0)
   clear HR
   go_wp2_with fail
   refine bodyPost_ret (v:=.tuple #[.slice (some ⟨wr.heap.size,0,none⟩) 0 0,.bool false]) ?_ rfl ?_
   ·simp only [results,Tryz.results35]
    go_simp
    (try simp)
   ·exact ⟨.inl ⟨HZ.out,_,_,rfl⟩,EX⟩
end Go.Proofs.YtlbhaimfjfdppaaGreatDoor
namespace Go.Proofs.YtlbhaimfjfdppaaGreatDoor
open Go Go.RowKit
attribute [local go_sem ↓] Go.wp_at_zero Go.wp_at_succ
set_option maxHeartbeats 4000000 in
set_option maxRecDepth 100000 in
theorem join_cap (A B:Option Addr) (n c m d:Nat) (a b:List Qp) (w:World) {F:Nat→Prop} (ha:Qs w F A a) (hb:Qs w F B b) (hn:a.length=n) (hm:b.length=m) (b1:n≤100000000000) (b2:m≤100000000000):
 Calls Tryz.prog 36 #[.slice A n c,.slice B m d] w (fun e w'=>∃ C cc,e=.returned (.slice C (n+m:Nat) cc)∧Hid (Qs w' (fun b=>F b∧b < w.heap.size) C (a ++ b))∧n+m≤cc∧Ext w w'):=by
 have HA:=Lib.hid ha.in
 have HB:=Lib.hid hb.in
 have HN:=Lib.hid hn
 have HM:=Lib.hid hm
 clear ha hb hn hm
 go_enter Tryz.func36,Tryz.ntmps36
 have hx:=Ext.refl w
 go_wp2_with (first
  | (at_builtin;refine wpList_grows _ rfl _ _ 22 rfl Tryz.underlying22 (by kernel_rfl) w.heap.size _ [] a rfl (Grows.empty (fun b=>F b∧b < w.heap.size) (Nat.le_refl _)) A n c rfl HN.out (HA.out.ext ((Ext.refl w).alloc _)) (fun b hb=>⟨by have :=hb.2;simp;omega,hb,own_ne hb.2⟩) (by simp;omega) (by simp) ?_;intro v1 w1 hgr hgrow;have hx1:Ext w w1:=Ext.grownBy ((Ext.refl w).alloc _) hgrow (fun k e=>Nat.le_of_eq (Option.some.inj (show some w.heap.size=some k from e)));have HO:=Lib.hid hgr.own;have hz:=hx1.size_le;have HG:=Lib.hid hgr;have HX1:=Lib.hid hx1;clear HA hx hgr hgrow hx1)
  | (at_builtin;refine wpList_grows _ rfl _ _ 22 rfl Tryz.underlying22 (by kernel_rfl) w.heap.size v1 ([] ++ a) b rfl HG.out B m d rfl HM.out (HB.out.ext HX1.out) (fun b hb=>⟨by have :=hb.2;omega,hb,fun e=>by have :=(HO.out b e.symm).1;have:=hb.2;omega⟩) (by have :=HN.out;simp;omega) hz ?_;intro v2 w2 hgr2 hgrow2;clear HB))
 have hx2:Ext w w2:=Ext.grownBy HX1.out hgrow2 (fun k e=>(HO.out k e).1)
 obtain ⟨C,cc,rfl,hqs,hle,hnone⟩:=hgr2.qs
 rw [List.nil_append] at hqs hle
 have hl:([] ++ a ++ b).length=n+m:=by have :=HN.out;have:=HM.out;simp;omega
 refine bodyPost_ret (v:=.slice C ([] ++ a ++ b).length cc) (by simp only [results,Tryz.results36];go_simp) rfl ?_
 refine ⟨C,cc,by rw [hl],Lib.hid (hqs.mono fun b hb=>hb.1),Nat.le_trans (Nat.le_of_eq (show n+m=(a ++ b).length by have :=HN.out;have:=HM.out;simp;omega)) hle,hx2⟩
set_option maxHeartbeats 16000000 in
set_option maxRecDepth 100000 in
theorem psquare_two (A B C D:Option Addr) (n cA m cB k cC j cD:Nat) (a b c d:List Qp) (w:World) (hg:Glob w) (ha:Qs w (fun _=>True) A a) (hb:Qs w (fun _=>True) B b) (hc:Qs w (fun _=>True) C c) (hd:Qs w (fun _=>True) D d)
 (hn:a.length=n) (hm:b.length=m) (hk:c.length=k) (hj:d.length=j) (b1:n≤100000000) (b2:m≤100000000) (b3:k≤100000000) (b4:j≤100000000)
 (fa:∀ q∈a,q.Fits) (fb:∀ q∈b,q.Fits) (fc:∀ q∈c,q.Fits) (fd:∀ q∈d,q.Fits):
 Calls Tryz.prog 16 #[.slice A n cA,.slice B m cB,.slice C k cC,.slice D j cD] w (Ret (.bool (Sq.same (a ++ c) (b ++ d))) w):=by
 have HC1:=Lib.hid (fun W g (hW:Ext w W) (h:Blk W g 22 #[.slice A n cA,.slice C k cC])=>pconcat_any g _ A C n cA k cC a c W h (ha.ext hW) (hc.ext hW) hn hk (by omega) (by omega))
 have HC2:=Lib.hid (fun W g (hW:Ext w W) (h:Blk W g 22 #[.slice B m cB,.slice D j cD])=>pconcat_any g _ B D m cB j cD b d W h (hb.ext hW) (hd.ext hW) hm hj (by omega) (by omega))
 have HSM:=Lib.hid (fun W S cs T ct (hW:Ext w W) (hq:Qs W (fun _=>True) S (a ++ c)) (hr:Qs W (fun _=>True) T (b ++ d))=>seqsame_any S T (n+k) cs (m+j) ct (a ++ c) (b ++ d) W (hg.ext hW) hq hr (by rw [List.length_append,hn,hk]) (by rw [List.length_append,hm,hj]) (by omega) (by omega) (fun q hq=>(List.mem_append.1 hq).elim (fa q) (fc q)) (fun q hq=>(List.mem_append.1 hq).elim (fb q) (fd q)))
 clear ha hb hc hd hn hm hk hj fa fb fc fd hg
 generalize Sq.same (a ++ c) (b ++ d)=R at HSM ⊢
 go_enter Tryz.func16,Tryz.ntmps16
 have hx:=Ext.refl w
 go_wp2_with fail
 refine (HC1.out _ _ (by repeat (first | with_reducible exact Ext.refl _ | with_reducible refine Ext.alloc ?_ _)) (Blk.new' rfl)).mono ?_
 rintro e w1 ⟨S,cs,rfl,HS,_,hx1⟩
 have hx3:Ext w w1:=Ext.trans (by repeat (first | with_reducible exact Ext.refl _ | with_reducible refine Ext.alloc ?_ _)) hx1
 clear hx hx1 HC1
 go_wp2_with fail
 refine (HC2.out _ _ (Ext.alloc hx3 _) (Blk.new' rfl)).mono ?_
 rintro e w2 ⟨T,ct,rfl,HT,_,hx1⟩
 have hx4:=(Ext.refl w1).alloc (.cells #[.slice B m cB,.slice D j cD] 22) |>.trans hx1
 have hx:=hx3.trans hx4
 have HS:=Lib.hid ((HS.out.ext hx4).mono fun _ _=>trivial)
 have HT:=Lib.hid (HT.out.mono fun _ _=>trivial)
 clear hx1 HC2 hx3 hx4
 go_wp2_with fail
 refine (HSM.out _ S cs T ct hx HS.out HT.out).mono ?_
 rintro e w3 ⟨rfl,hx1⟩
 have hxx:=hx.trans hx1
 clear hx hx1 HSM HS HT
 have hx:=hxx
 clear hxx
 go_wp2_with fail
 (go_ret;refine Ret.mk ?_ ?_;(focus (rfl;done));(focus (exact EX;done)))
theorem app_tame {a b:List Qp} (ha:∀ q∈a,q.Tame) (hb:∀ q∈b,q.Tame):∀ q∈a ++ b,q.Tame:=fun q hq=>(List.mem_append.1 hq).elim (ha q) (hb q)
set_option maxHeartbeats 8000000 in
set_option maxRecDepth 100000 in
theorem rsquare_any (A B C D:Option Addr) (n cA m cB k cC j cD:Nat) (a b c d:List Qp) (w:World) (ha:Qs w (fun _=>True) A a) (hb:Qs w (fun _=>True) B b) (hc:Qs w (fun _=>True) C c) (hd:Qs w (fun _=>True) D d)
 (hn:a.length=n) (hm:b.length=m) (hk:c.length=k) (hj:d.length=j) (b1:n≤1000000) (b2:m≤1000000) (b3:k≤1000000) (b4:j≤1000000)
 (fa:∀ q∈a,q.Tame) (fb:∀ q∈b,q.Tame) (fc:∀ q∈c,q.Tame) (fd:∀ q∈d,q.Tame):
 Calls Tryz.prog 17 #[.slice A n cA,.slice B m cB,.slice C k cC,.slice D j cD] w (Ret (.bool (Sq.same (a ++ c) (b ++ d))) w):=by
 have HC1:=Lib.hid (fun W (hW:Ext w W)=>join_cap A C n cA k cC a c W (ha.ext hW) (hc.ext hW) hn hk (by omega) (by omega))
 have HC2:=Lib.hid (fun W (hW:Ext w W)=>join_cap B D m cB j cD b d W (hb.ext hW) (hd.ext hW) hm hj (by omega) (by omega))
 have HSM:=Lib.hid (fun W S cs T ct (hW:Ext w W) (hq:Qs W (fun _=>True) S (a ++ c)) (hr:Qs W (fun _=>True) T (b ++ d)) (h1:n+k≤cs) (h2:m+j≤ct)=>rsame14_any S T (n+k) cs (m+j) ct (a ++ c) (b ++ d) W hq hr (by rw [List.length_append,hn,hk]) (by rw [List.length_append,hm,hj]) h1 h2 (by omega) (by omega) (app_tame fa fc) (app_tame fb fd))
 clear ha hb hc hd hn hm hk hj fa fb fc fd
 generalize Sq.same (a ++ c) (b ++ d)=R at HSM ⊢
 go_enter Tryz.func17,Tryz.ntmps17
 have hx:=Ext.refl w
 go_wp2_with fail
 refine (HC1.out _ hx).mono ?_
 rintro e w1 ⟨S,cs,rfl,HS,hcs,hx0⟩
 have hx1:=hx.trans hx0
 clear hx hx0
 have hx:=hx1
 clear hx1
 clear HC1
 go_wp2_with fail
 refine (HC2.out _ hx).mono ?_
 rintro e w2 ⟨T,ct,rfl,HT,hct,hx0⟩
 have HS2:=Lib.hid ((HS.out.ext hx0).mono (G:=fun _=>True) fun _ _=>trivial)
 have HT2:=Lib.hid (HT.out.mono (G:=fun _=>True) fun _ _=>trivial)
 have hx1:=hx.trans hx0
 clear hx hx0
 have hx:=hx1
 clear hx1
 clear HC2 HS HT
 go_wp2_with fail
 refine (HSM.out _ S cs T ct hx HS2.out HT2.out hcs hct).mono ?_
 rintro e w3 ⟨rfl,hx0⟩
 have hx1:=hx.trans hx0
 clear hx hx0
 have hx:=hx1
 clear hx1
 clear HSM HS2 HT2
 go_wp2_with fail
 (go_ret;refine Ret.mk ?_ ?_;(focus (rfl;done));(focus (exact EX;done)))
namespace Sq
theorem without_tame {l m:List Qp} {x:Qp} (h:without l x=some m) (hf:∀ q∈l,q.Tame):∀ q∈m,q.Tame:=without_all (fun q=>check_tame) h hf
theorem merge_tames:∀ {a b:List Qp} {t:List Qp × List Qp},merge a b=.ok t→(∀ q∈a,q.Tame)→(∀ q∈b,q.Tame)→(∀ q∈t.1,q.Tame)∧(∀ q∈t.2,q.Tame)
 | [],b,t,h,ha,hb=>by
   obtain rfl:=Except.ok.inj h
   exact ⟨hb,fun q hq=>by cases hq⟩
 | x :: a,b,t,h,ha,hb=>by
   rw [merge_cons] at h
   split at h
   ·cases h
   ·rename_i r hr
    split at h
    ·rename_i u hu
     obtain rfl:=Except.ok.inj h
     obtain ⟨h1,h2,_⟩:=carried_all (P:=Qp.Tame) (fun x y h=>merge_tame h) hr (ha x (List.mem_cons_self ..))
     obtain ⟨h3,h4⟩:=merge_tames hu (fun q hq=>ha q (List.mem_cons_of_mem _ hq)) h2
     refine ⟨h3,fun q hq=>?_⟩
     rcases List.mem_cons.1 hq with rfl | hq
     ·exact h1
     ·exact h4 q hq
    ·cases h
end Sq
def RMediated (R:Option (List Qp)) (w:World) (e:Ending) (w':World):Prop:=
 ((R=none∧∃ C cc,e=.returned (.tuple #[.slice C 0 cc,.bool false]))∨∃ l E n c,R=some l∧l.length=n∧e=.returned (.tuple #[.slice E n c,.bool true])∧Hid (Qs w' (fun _=>True) E l))∧Ext w w'
set_option maxHeartbeats 16000000 in
set_option maxRecDepth 100000 in
theorem rmediate_any (A B C D:Option Addr) (n cA m cB k cC j cD:Nat) (a b c d:List Qp) (w:World) (ha:Qs w (fun _=>True) A a) (hb:Qs w (fun _=>True) B b) (hc:Qs w (fun _=>True) C c) (hd:Qs w (fun _=>True) D d)
 (hn:a.length=n) (hm:b.length=m) (hk:c.length=k) (hj:d.length=j) (hmB:m≤cB) (hkC:k≤cC) (hjD:j≤cD) (b1:n≤1000000) (b2:m≤1000000) (b3:k≤1000000) (b4:j≤1000000)
 (fa:∀ q∈a,q.Tame) (fb:∀ q∈b,q.Tame) (fc:∀ q∈c,q.Tame) (fd:∀ q∈d,q.Tame):
 Calls Tryz.prog 15 #[.slice A n cA,.slice B m cB,.slice C k cC,.slice D j cD] w (RMediated (Sq.mediate a b c d) w):=by
 have HC:=Lib.hid (fun W (hW:Ext w W)=>hc.ext hW)
 have HD:=Lib.hid (fun W (hW:Ext w W)=>hd.ext hW)
 have HK:=Lib.hid hk
 have HJ:=Lib.hid hj
 have HFC:=Lib.hid fc
 have HFD:=Lib.hid fd
 have HR:Hid (Sq.mediate a b c d=match Sq.merge a b with | .error _=>none | .ok r=>(Sq.withoutAll c r.1).bind fun m=>if Sq.same d (r.2 ++ m) then some m else none):=Lib.hid rfl
 have HMG:=Lib.hid (fun W (hW:Ext w W)=>rmerge15_any A n cA B m cB a b W (ha.ext hW) (hb.ext hW) hn hm hmB (by omega) (by omega) fa fb)
 have HMT:=Lib.hid (fun t (h:Sq.merge a b=.ok t)=>And.intro (Sq.merge_tames h fa fb) (And.intro ((Sq.merge_length h).1.trans hm) ((Sq.merge_length h).2.trans hn)))
 generalize Sq.mediate a b c d=R at HR ⊢
 generalize Sq.merge a b=M at HR HMG HMT
 clear ha hb hc hd hn hm hk hj fa fb fc fd
 go_enter Tryz.func15,Tryz.ntmps15
 have hx:=Ext.refl w
 go_wp2_with fail
 refine (HMG.out _ hx).mono ?_
 rintro e w1 ⟨hx0,hres⟩
 have hx1:=hx.trans hx0
 clear hx hx0
 have hx:=hx1
 clear hx1
 clear HMG
 cases M with
 | error ij=>
   obtain ⟨A1,c1,A2,c2,u,rfl,x,y,rfl⟩:=hres
   have HZ:Hid (R=none):=Lib.hid HR.out
   clear HR HMT
   go_wp2_with fail
   refine wp_loop_rounds 1 ?_
   rw [rounds_succ]
   go_wp2_with fail
   refine bodyPost_ret (v:=.tuple #[.slice (some ⟨w1.heap.size+1,0,none⟩) 0 0,.bool false]) ?_ rfl ?_
   ·simp only [results,Tryz.results15]
    go_simp
    (try simp)
   ·exact ⟨.inl ⟨HZ.out,_,_,rfl⟩,EX⟩
 | ok t=>
   obtain ⟨f,s⟩:=t
   obtain ⟨A1,c1,A2,c2,rfl,hc1,hc2,HQ1,HQ2⟩:=hres
   obtain ⟨⟨ht1,ht2⟩,hl1,hl2⟩:=HMT.out _ rfl
   have HT1:=Lib.hid ht1
   have HT2:=Lib.hid ht2
   have HL1:=Lib.hid hl1
   have HL2:=Lib.hid hl2
   have HR2:Hid (R=(Sq.withoutAll c f).bind fun m=>if Sq.same d (s ++ m) then some m else none):=Lib.hid HR.out
   clear HR HMT ht1 ht2 hl1 hl2
   go_wp2_with fail
   have HX1:Hid (Ext w (w1.alloc (.cells #[.int .i64 0,.int .i64 0] 50))):=Lib.hid (hx.alloc _)
   have HX2:Hid (Ext w1 (w1.alloc (.cells #[.int .i64 0,.int .i64 0] 50))):=Lib.hid ((Ext.refl w1).alloc _)
   generalize w1.alloc (.cells #[.int .i64 0,.int .i64 0] 50)=w0 at HX1 HX2 ⊢
   have HC0:=Lib.hid (HC.out _ HX1.out)
   have HR3:Hid (true=true→R=(Sq.withoutAll c (f.drop 0)).bind fun m=>if Sq.same d (s ++ m) then some m else none):=Lib.hid (fun _=>by rw [List.drop_zero];exact HR2.out)
   clear hx HR2 HC
   go_loopw [2,13,14] (fun u2 u13 u14 wr=>∃ (i:Nat) (ok:Bool) (C':Option Addr) (k' c':Nat) (l:List Qp),u2=.slice C' k' c'∧u13=.bool ok∧u14=.int .i64 i∧i≤m∧k'≤k∧k'≤c'∧Ext w wr∧Ext w1 wr∧Hid (Qs wr (fun _=>True) C' l)∧Hid (l.length=k')∧Hid (∀ q∈l,q.Tame)∧Hid (ok=true→R=(Sq.withoutAll l (f.drop i)).bind fun m=>if Sq.same d (s ++ m) then some m else none)∧Hid (ok=false→R=none)) (fun u2 u13 u14 wr=>m - (intOf u14).toNat)
   case atStart=>exact ⟨0,true,C,k,cC,c,rfl,rfl,rfl,Nat.zero_le _,Nat.le_refl _,hkC,HX1.out,HX2.out,HC0,HK,HFC,HR3,Lib.hid (fun e=>nomatch e)⟩
   case round=>
    clear HX1 HX2 HC0 HR3 HK HFC
    obtain ⟨i,ok,C',k',c',l,rfl,rfl,rfl,him,hkk,hkc,hx,hx1,HL,HLK,HLT,HRT,HRF⟩:=hrel
    cases ok
    ·have HZ:Hid (R=none):=Lib.hid (HRF.out rfl)
     clear HRT HRF HL HLT HQ1 HQ2
     by_cases hlt:i < m
     all_goals
      go_wp2_with fail
      refine bodyPost_ret (v:=.tuple #[.slice (some ⟨wr.heap.size,0,none⟩) 0 0,.bool false]) ?_ rfl ?_
      ·simp only [results,Tryz.results15]
       go_simp
       (try simp)
      ·exact ⟨.inl ⟨HZ.out,_,_,rfl⟩,EX⟩
    ·have HR4:=Lib.hid (HRT.out rfl)
     clear HRT HRF
     by_cases hlt:i < m
     ·have hil:i < f.length:=by rw [HL1.out];exact hlt
      have e1:f[i]?=some (f[i]'hil):=List.getElem?_eq_getElem hil
      obtain ⟨g,oo,Px,hA,hgl,ra0,ia⟩:=HQ1.out.get e1
      subst hA
      have tx:=HT1.out _ (List.mem_of_getElem? e1)
      have hdr:f.drop i=(f[i]'hil) :: f.drop (i+1):=by rw [List.drop_eq_getElem_cons hil]
      generalize f[i]'hil=x at ia tx hdr e1
      have HR5:Hid (R=((Sq.without l x).bind fun r=>Sq.withoutAll r (f.drop (i+1))).bind fun m=>if Sq.same d (s ++ m) then some m else none):=Lib.hid (by rw [HR4.out,hdr];rfl)
      have HW:=Lib.hid (rwithout15_any C' k' c' l Px x wr HL.out HLK.out hkc (ia.ext hx1) tx (by omega) HLT.out)
      have HWT:=Lib.hid (fun r (h:Sq.without l x=some r)=>Sq.without_tame h HLT.out)
      generalize Sq.without l x=WO at HR5 HW HWT
      obtain ⟨q0,q1,q2,q3,q4,q5,q6,q7,q8,q9,q10,q11⟩:=cells12 (range_ext ra0 hgl hx1)
      clear HR4 hdr e1 ia ra0 tx hgl HL HLT
      go_wp2_with fail
      clear q0 q1 q2 q3 q4 q5 q6 q7 q8 q9 q10 q11
      refine HW.out.mono ?_
      rintro e w2 ⟨hres,hx0⟩
      have hy:=hx.trans hx0
      have hy1:=hx1.trans hx0
      clear hx hx1 hx0 HW
      have hx:=hy
      have hx1:=hy1
      clear hy hy1
      rcases hres with ⟨hs,C2,c3,rfl⟩ | ⟨m',C2,c3,hs,hl3,hc3,rfl,HQ3⟩
      ·have HZ:Hid (R=none):=Lib.hid (by rw [HR5.out,hs];rfl)
       clear HR5 hs
       go_wp2_with fail
       go_roundw
       case rel=>first | exact ⟨i+1,false,C2,0,c3,[],rfl,rfl,rfl,hlt,Nat.zero_le _,Nat.zero_le _,hx,hx1,Lib.hid (Qs.nil _ _ _),Lib.hid rfl,Lib.hid (fun q hq=>by cases hq),Lib.hid (fun e=>nomatch e),Lib.hid (fun _=>HZ.out)⟩ | ((repeat apply Exists.intro);exact ⟨⟨i+1,false,C2,0,c3,[],rfl,rfl,rfl,hlt,Nat.zero_le _,Nat.zero_le _,hx,hx1,Lib.hid (Qs.nil _ _ _),Lib.hid rfl,Lib.hid (fun q hq=>by cases hq),Lib.hid (fun e=>nomatch e),Lib.hid (fun _=>HZ.out)⟩,rfl⟩)
       case measure=>simp [intOf];omega
      ·have HR6:Hid (R=(Sq.withoutAll m' (f.drop (i+1))).bind fun m=>if Sq.same d (s ++ m) then some m else none):=Lib.hid (by rw [HR5.out,hs];rfl)
       have HT6:=Lib.hid (HWT.out m' hs)
       have HL6:=Lib.hid hl3
       clear HR5 hs hl3
       go_wp2_with fail
       go_roundw
       case rel=>first | exact ⟨i+1,true,C2,k' - 1,c3,m',rfl,rfl,rfl,hlt,by omega,hc3,hx,hx1,HQ3,HL6,HT6,Lib.hid (fun _=>HR6.out),Lib.hid (fun e=>nomatch e)⟩ | ((repeat apply Exists.intro);exact ⟨⟨i+1,true,C2,k' - 1,c3,m',rfl,rfl,rfl,hlt,by omega,hc3,hx,hx1,HQ3,HL6,HT6,Lib.hid (fun _=>HR6.out),Lib.hid (fun e=>nomatch e)⟩,rfl⟩)
       case measure=>simp [intOf];omega
     ·have HR5:Hid (R=if Sq.same d (s ++ l) then some l else none):=Lib.hid (by rw [HR4.out,List.drop_of_length_le (by rw [HL1.out];omega)];rfl)
      have HJN:=Lib.hid (join_cap A2 C' n c2 k' c' s l wr (HQ2.out.ext hx1) HL.out HL2.out HLK.out (by omega) (by omega))
      have HSM:=Lib.hid (fun W T ct (hW:Ext w W) (hr:Qs W (fun _=>True) T (s ++ l)) (h2:n+k'≤ct)=>rsame14_any D T j cD (n+k') ct d (s ++ l) W (HD.out _ hW) hr HJ.out (by rw [List.length_append,HL2.out,HLK.out]) hjD h2 (by omega) (by omega) HFD.out (app_tame HT2.out HLT.out))
      generalize Sq.same d (s ++ l)=sm at HR5 HSM
      clear HR4
      go_wp2_with fail
      refine HJN.out.mono ?_
      rintro e w2 ⟨T,ct,rfl,HT,hct,hx0⟩
      have HL7:=Lib.hid (HL.out.ext hx0)
      have HT7:=Lib.hid (HT.out.mono (G:=fun _=>True) fun _ _=>trivial)
      have hy:=hx.trans hx0
      clear hx hx0 HJN HL HT hx1
      have hx:=hy
      clear hy
      go_wp2_with fail
      refine (HSM.out _ T ct hx HT7.out hct).mono ?_
      rintro e w3 ⟨rfl,hx0⟩
      have HL8:=Lib.hid (HL7.out.ext hx0)
      have hy:=hx.trans hx0
      clear hx hx0 HSM HL7 HT7
      have hx:=hy
      clear hy
      cases sm
      ·have HZ:Hid (R=none):=Lib.hid HR5.out
       clear HR5
       go_wp2_with fail
       refine bodyPost_ret (v:=.tuple #[.slice (some ⟨w3.heap.size,0,none⟩) 0 0,.bool false]) ?_ rfl ?_
       ·simp only [results,Tryz.results15]
        go_simp
        (try simp)
       ·exact ⟨.inl ⟨HZ.out,_,_,rfl⟩,EX⟩
      ·have HZ:Hid (R=some l):=Lib.hid HR5.out
       clear HR5
       go_wp2_with fail
       refine bodyPost_ret (v:=.tuple #[.slice C' k' c',.bool true]) ?_ rfl ?_
       ·simp only [results,Tryz.results15]
        go_simp
        (try simp)
       ·exact ⟨.inr ⟨l,C',k',c',HZ.out,HLK.out,rfl,HL8⟩,hx⟩
end Go.Proofs.YtlbhaimfjfdppaaGreatDoor
