import Derived.Test.YtlbhaimfjfdppaaGreatDoorZ
import Derived.Test.YtlbhaimfjfdppaaGreatDoorCl
import Derived.Test.YtlbhaimfjfdppaaGreatDoorUe
set_option linter.unusedSimpArgs false
set_option linter.unusedVariables false
namespace Go.Proofs.YtlbhaimfjfdppaaGreatDoor
open Go.RowKit
attribute [local go_sem ↓] Go.wp_at_zero Go.wp_at_succ
set_option maxHeartbeats 4000000 in
set_option maxRecDepth 100000 in
theorem lgreat_any (A:Option Addr) (c:Nat) (l:List Qp) (w:World) {F:Nat→Prop} (h:Qs w F A l) (hn:l.length≤1152921504606846976) (hs:∀ q∈l,q.old.length≤1152921504606846976∧q.new.length≤1152921504606846976):
 Calls Tryz.prog 37 #[.slice A l.length c] w (Tells (∀ q∈l,q.Mild) w):=by
 have H:=Lib.hid h
 have HS:=Lib.hid hs
 clear h hs
 obtain ⟨n,Hn⟩:∃ n,Hid (n=l.length):=⟨_,Lib.hid rfl⟩
 have hn':n≤1152921504606846976:=by rw [Hn.out];exact hn
 rw [← Hn.out]
 clear hn
 go_enter Tryz.func37,Tryz.ntmps37
 have hx:=Ext.refl w
 go_wp2_with fail
 go_loopw [3] (fun i wr=>∃ k:Nat,k≤n∧i=.int .i64 k∧Ext w wr∧Hid (∀ q∈l.take k,q.Mild)) (fun i wr=>n - (intOf i).toNat)
 case atStart=>exact ⟨0,Nat.zero_le _,rfl,hx,Lib.hid (by simp)⟩
 case round=>
  obtain ⟨k,hk,rfl,hx,Hall⟩:=hrel
  by_cases hlt:k < n
  ·have e1:l[k]?=some l[k]:=List.getElem?_eq_getElem (by rw [← Hn.out];exact hlt)
   obtain ⟨b,o,p,rfl,hb,hc,hi⟩:=(H.out.ext hx).get e1
   have Hc:=Lib.hid hc
   have Hi:=Lib.hid hi
   have E1:=Lib.hid e1
   generalize l[k]=q at Hi E1
   clear hc hi e1
   obtain ⟨d0,d1,d2,d3,d4,d5,d6,d7,d8,d9,d10,d11⟩:=cells12 Hc.out
   clear Hc
   go_wp2_with fail
   clear d0 d1 d2 d3 d4 d5 d6 d7 d8 d9 d10 d11
   refine (pgreat_any p q _ Hi.out (HS.out q (List.mem_of_getElem? E1.out)).1 (HS.out q (List.mem_of_getElem? E1.out)).2).mono ?_
   rintro e w1 ⟨v1,rfl,k1,hx0⟩
   have K1:=Lib.hid k1
   clear k1
   have hx1:=hx.trans hx0
   clear hx hx0
   have hx:=hx1
   clear hx1
   cases v1
   ·go_wp2_with fail
    go_roundw
    case rel=>
     refine ⟨k+1,hlt,rfl,hx,Lib.hid fun y hy=>?_⟩
     rw [List.take_add_one,E1.out] at hy
     rcases List.mem_append.1 hy with m | m
     ·exact Hall.out y m
     ·obtain rfl:y=q:=by simpa using m
      exact K1.out trivial
    case measure=>simp [intOf];omega
   ·go_wp2_with fail
    refine bodyPost_ret (v:=.bool true) (by simp only [results,Tryz.results37];go_simp) rfl ?_
    exact ⟨_,rfl,(fun h=>nomatch h),hx⟩
  ·obtain rfl:k=n:=by omega
   have HX:Hid (∀ q∈l,q.Mild):=Lib.hid (by have :=Hall.out;rwa [List.take_of_length_le (by rw [← Hn.out];exact Nat.le_refl _)] at this)
   clear Hall
   go_wp2_with fail
   refine bodyPost_ret (v:=.bool false) (by simp only [results,Tryz.results37];go_simp) rfl ?_
   exact ⟨_,rfl,(fun _=>HX.out),hx⟩
end Go.Proofs.YtlbhaimfjfdppaaGreatDoor
namespace Go.Proofs.YtlbhaimfjfdppaaGreatDoor
open Go Go.RowKit
attribute [local go_sem ↓] Go.wp_at_zero Go.wp_at_succ
def Small (l:List Qp):Prop:=l.length≤8∧∀ q∈l,q.Mild
set_option maxHeartbeats 4000000 in
set_option maxRecDepth 100000 in
theorem g15_any (A:Option Addr) (c:Nat) (l:List Qp) (w:World) {F:Nat→Prop} (h:Qs w F A l) (hn:l.length≤1152921504606846976) (hs:∀ q∈l,q.old.length≤1152921504606846976∧q.new.length≤1152921504606846976):
 Calls Tryz.prog 29 #[.slice A l.length c] w (Tells (Small l) w):=by
 have H:=Lib.hid (lgreat_any A c l w h hn hs)
 obtain ⟨n,Hn⟩:∃ n,Hid (n=l.length):=⟨_,Lib.hid rfl⟩
 rw [← Hn.out] at H ⊢
 clear h hs hn
 by_cases h8:8 < n
 ·have h8':(8:Int) < (n:Int):=by omega
  go_enter Tryz.func29,Tryz.ntmps29
  have hx:=Ext.refl w
  go_wp2_with fail
  refine bodyPost_ret (v:=.bool true) (by simp only [results,Tryz.results29];go_simp) rfl ?_
  exact ⟨_,rfl,(fun h=>nomatch h),hx⟩
 ·have h8':¬ (8:Int) < (n:Int):=by omega
  go_enter Tryz.func29,Tryz.ntmps29
  have hx:=Ext.refl w
  go_wp2_with fail
  refine H.out.mono ?_
  rintro e w1 ⟨v1,rfl,k1,hx0⟩
  go_wp2_with fail
  refine bodyPost_ret (v:=.bool v1) (by simp only [results,Tryz.results29];go_simp) rfl ?_
  exact ⟨_,rfl,(fun h=>⟨by rw [← Hn.out];omega,k1 h⟩),hx0⟩
abbrev Seqs:=List (Option Addr × List Qp × Nat)
def Seqs.lie (w:World) (ls:Seqs):Prop:=∀ x∈ls,(∃ F,Qs w F x.1 x.2.1)∧x.2.1.length≤1152921504606846976∧∀ q∈x.2.1,q.old.length≤1152921504606846976∧q.new.length≤1152921504606846976
theorem Seqs.lie.ext {w w':World} {ls:Seqs} (h:ls.lie w) (hx:Ext w w'):ls.lie w':=fun x hm=>by
 obtain ⟨⟨F,h1⟩,h2⟩:=h x hm
 exact ⟨⟨F,h1.ext hx⟩,h2⟩
def Seqs.cells (ls:Seqs):Array Value:=(ls.map fun x=>Value.slice x.1 x.2.1.length x.2.2).toArray
def Seqs.small (ls:Seqs):Prop:=∀ x∈ls,Small x.2.1
set_option maxHeartbeats 4000000 in
set_option maxRecDepth 100000 in
theorem indexfunc_any (g:Nat) (t:TypeId) (ls:Seqs) (n:Nat) (w:World) (hb:Blk w g t ls.cells) (hn:ls.length=n) (hl:ls.lie w) (h8:n≤8):
 Calls Tryz.prog 47 #[.slice (some ⟨g,0,none⟩) n n,.func (.func 29) #[] #[]] w (fun e w'=>∃ i:Int,e=.returned (.int .i64 i)∧(i < 0→ls.small)∧Ext w w'):=by
 have HB:=Lib.hid hb
 have HL:=Lib.hid hl
 have HN:=Lib.hid hn
 clear hb hl hn
 go_enter Tryz.func47,Tryz.ntmps47
 have hx:=Ext.refl w
 go_wp2_with fail
 go_loopw [8] (fun u8 wr=>∃ k:Nat,k≤n∧u8=.int .i64 k∧Ext w wr∧Hid (∀ x∈ls.take k,Small x.2.1)) (fun u8 wr=>n - (intOf u8).toNat)
 case atStart=>exact ⟨0,Nat.zero_le _,rfl,hx,Lib.hid (by simp)⟩
 case round=>
  clear hx
  obtain ⟨k,hk,rfl,hx,HS⟩:=hrel
  by_cases hlt:k < n
  ·have hkl:k < ls.length:=by rw [HN.out];exact hlt
   have e1:ls[k]?=some (ls[k]'hkl):=List.getElem?_eq_getElem hkl
   generalize ls[k]'hkl=x at e1
   have hm:=HL.out x (List.mem_of_getElem? e1)
   obtain ⟨⟨F,hq⟩,hl1,hl2⟩:=hm
   have HG:=Lib.hid (g15_any x.1 x.2.2 x.2.1 wr (hq.ext hx) hl1 hl2)
   have hcell:wr.cell? ⟨g,k,none⟩=some (.slice x.1 x.2.1.length x.2.2):=by
    rw [(HB.out.ext hx).cell k]
    unfold Seqs.cells
    rw [List.getElem?_toArray,List.getElem?_map,e1]
    rfl
   have E1:=Lib.hid e1
   obtain ⟨xA,xl,xc⟩:=x
   dsimp only at HG hcell
   clear e1 hq hl1 hl2 hkl
   go_wp2_with fail
   clear hcell
   refine HG.out.mono ?_
   rintro e w1 ⟨v1,rfl,k1,hx0⟩
   have hx1:=hx.trans hx0
   clear hx hx0 HG
   have hx:=hx1
   clear hx1
   have K1:=Lib.hid k1
   clear k1
   cases v1
   ·go_wp2_with fail
    go_roundw
    case rel=>
     refine ⟨k+1,hlt,rfl,hx,Lib.hid fun y hy=>?_⟩
     rw [List.take_add_one,E1.out] at hy
     rcases List.mem_append.1 hy with m | m
     ·exact HS.out y m
     ·obtain rfl:y=(xA,xl,xc):=by simpa using m
      exact K1.out trivial
    case measure=>simp [intOf];omega
   ·go_wp2_with fail
    refine bodyPost_ret (v:=.int .i64 k) (by simp only [results,Tryz.results47];go_simp) rfl ?_
    exact ⟨_,rfl,(fun h=>absurd h (by omega)),hx⟩
  ·obtain rfl:k=n:=by omega
   have HX:Hid ls.small:=Lib.hid (by have :=HS.out;rwa [List.take_of_length_le (by rw [HN.out];exact Nat.le_refl _)] at this)
   clear HS
   go_wp2_with fail
   refine bodyPost_ret (v:=.int .i64 (-1)) (by simp only [results,Tryz.results47];go_simp) rfl ?_
   exact ⟨_,rfl,(fun _=>HX.out),hx⟩
set_option maxHeartbeats 4000000 in
set_option maxRecDepth 100000 in
theorem lawgreat15_any (g:Nat) (t:TypeId) (ls:Seqs) (n:Nat) (w:World) (hb:Blk w g t ls.cells) (hn:ls.length=n) (hl:ls.lie w) (h8:n≤8):
 Calls Tryz.prog 12 #[.slice (some ⟨g,0,none⟩) n n] w (Tells ls.small w):=by
 have H:=Lib.hid (indexfunc_any g t ls n w hb hn hl h8)
 clear hb hl hn
 have HC:Calls Tryz.prog 28 #[.slice (some ⟨g,0,none⟩) n n,.func (.func 29) #[] #[]] w (Tells ls.small w):=by
  go_enter Tryz.func28,Tryz.ntmps28
  have hx:=Ext.refl w
  go_wp2_with fail
  refine H.out.mono ?_
  rintro e w1 ⟨i,rfl,k1,hx0⟩
  have K1:=Lib.hid k1
  clear k1
  go_wp2_with fail
  refine bodyPost_ret (v:=.bool (decide (0≤i))) (by simp only [results,Tryz.results28];go_simp) rfl ?_
  exact ⟨_,rfl,(fun h=>K1.out (by simpa using h)),hx0⟩
 have HC:=Lib.hid HC
 clear H
 go_enter Tryz.func12,Tryz.ntmps12
 have hx:=Ext.refl w
 go_wp2_with fail
 refine HC.out.mono ?_
 rintro e w1 ⟨v1,rfl,k1,hx0⟩
 go_wp2_with fail
 refine bodyPost_ret (v:=.bool v1) (by simp only [results,Tryz.results12];go_simp) rfl ?_
 exact ⟨_,rfl,k1,hx0⟩
end Go.Proofs.YtlbhaimfjfdppaaGreatDoor
namespace Go.Proofs.YtlbhaimfjfdppaaGreatDoor
open Go Go.RowKit
attribute [local go_sem ↓] Go.wp_at_zero Go.wp_at_succ
end Go.Proofs.YtlbhaimfjfdppaaGreatDoor
namespace Go.Proofs.YtlbhaimfjfdppaaGreatDoor
open Go Go.RowKit
theorem Small.fits {l:List Qp} (h:Small l):∀ q∈l,q.Fits:=fun q hq=>(h.2 q hq).fits
theorem Qs.some {w:World} {F:Nat→Prop} {A:Option Addr} {l:List Qp} (h:Qs w F A l) (h0:0 < l.length):∃ b o,A=.some ⟨b,o,.none⟩:=by
 obtain ⟨ps,h1,h2,h3⟩:=h
 obtain ⟨b,o,e,_⟩:=h2 (by omega)
 exact ⟨b,o,e⟩
theorem Qs.all {w:World} {F:Nat→Prop} {A:Option Addr} {l:List Qp} (h:Qs w F A l):Qs w (fun _=>True) A l:=h.mono fun _ _=>trivial
end Go.Proofs.YtlbhaimfjfdppaaGreatDoor
