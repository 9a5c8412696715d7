import Derived.Test.YtfmgnaigcibcaaaGreatDoorTBase
import Derived.Says
import Derived.Deep.Cut
import Derived.Deep.Quiet
import Derived.BigQuiet
import Derived.Test.YtfmgnaigcibcaaaGreatDoorTQ8
set_option linter.unusedSimpArgs false
set_option linter.unusedVariables false
namespace Go.Proofs.YtfmgnaigcibcaaaGreatDoor
open Go
theorem wpQuiet_app {P:Program} {ops:Array Oper} {C:World→Prop} {Q:Act→Prop} {l2:List Oper} (l1:List Oper):∀ (a:Act),
 wpQuiet P ops C (wpQuiet P ops C Q l2) l1 a→wpQuiet P ops C Q (l1 ++ l2) a:=by
 induction l1 with
 | nil=>intro a h;exact h
 | cons o l ih=>
   intro a h
   simp only [wpQuiet,List.cons_append] at h ⊢
   split
   ·rename_i hw
    rw [if_pos hw] at h
    exact Oper.quiet_mono ih h
   ·rename_i hw
    rw [if_neg hw] at h
    exact ih _ h
theorem wpQuiet_mono' {P:Program} {ops:Array Oper} {C:World→Prop} {Q Q':Act→Prop} (hq:∀ a,Q a→Q' a) (l:List Oper):∀ (a:Act),wpQuiet P ops C Q l a→wpQuiet P ops C Q' l a:=by
 induction l with
 | nil=>intro a h;exact hq _ h
 | cons o l ih=>
   intro a h
   simp only [wpQuiet] at h ⊢
   split
   ·rename_i hw
    rw [if_pos hw] at h
    exact Oper.quiet_mono ih h
   ·rename_i hw
    rw [if_neg hw] at h
    exact ih _ h
theorem wpQuiet_cut {P:Program} {ops:Array Oper} {C:World→Prop} {Q:Act→Prop} {l:List Oper} {a:Act} (n:Nat) (R:Act→Prop)
 (first:wpQuiet P ops C R (l.take n) a) (rest:∀ a',R a'→wpQuiet P ops C Q (l.drop n) a'):wpQuiet P ops C Q l a:=by
 rw [← List.take_append_drop n l]
 exact wpQuiet_app _ _ (wpQuiet_mono' rest _ _ first)
theorem wpList_of_quiet {P:Program} {ops:Array Oper} {C:World→Prop} {Q:Act→Prop} {Q':Exit→Act→World→Prop} (hQ:∀ a w,C w→Q a→Q' .normal a w) (l:List Oper):∀ (a:Act) (w:World),C w→wpQuiet P ops C Q l a→wpList P ops Q' l a w:=by
 induction l with
 | nil=>intro a w hw h;exact hQ _ _ hw h
 | cons o l ih=>
   intro a w hw h
   simp only [wpQuiet,wpList] at h ⊢
   split
   ·rename_i hg
    rw [if_pos hg] at h
    exact .inl (Oper.wp_of_quiet hw (fun a' w' hw' h'=>ih a' w' hw' h') h)
   ·rename_i hg
    rw [if_neg hg] at h
    exact ih _ _ hw h
theorem wp_region_ext_text {P:Program} {id:Nat} {Q:Exit→Act→World→Prop} {a:Act} {w:World} {l:List Oper} (h:wpQuiet P l.toArray (Ext w) (fun a'=>∀ w',Ext w w'→Q .normal a' w') l a):(Code.region id l.toArray false).wp P Q a w:=
 wp_region_lit (wpList_of_quiet (fun _ _ hw hq=>hq _ hw) l a w (Ext.refl w) h)
theorem frame_u {a:Act} {G:(Nat→Value)→Act} (h:a=G (fun k=>a.tmps.getD k undef)):∃ u,a=G u:=⟨_,h⟩
end Go.Proofs.YtfmgnaigcibcaaaGreatDoor
namespace Go.Proofs.YtfmgnaigcibcaaaGreatDoor
open Go.RowKit
def Qp.same (a b:Qp):Bool:=
 a.kind == b.kind && (Qm.eqB a.path b.path && (Qm.eqB a.to_ b.to_ && (a.ty == b.ty && (a.at_ == b.at_ && (decide (a.old=b.old) && (decide (a.new=b.new) &&
  (a.off == b.off && (Qm.eqB a.so b.so && (Qm.eqB a.sn b.sn && (a.om == b.om && a.nm == b.nm))))))))))
theorem Qp.same_iff {a b:Qp}:a.same b=true ↔ a=b:=by
 unfold Qp.same
 simp only [Bool.and_eq_true,beq_iff_eq,Qm.eqB_iff,decide_eq_true_eq]
 constructor
 ·rintro ⟨h1,h2,h3,h4,h5,h6,h7,h8,h9,h10,h11,h12⟩
  cases a
  cases b
  simp_all
 ·rintro rfl
  simp
set_option maxHeartbeats 8000000 in
set_option maxRecDepth 100000 in
theorem equal_any (p p':Pv) (a b:Qp) (w:World) {F G:Nat→Prop} (h1:Is w F p a) (h2:Is w G p' b) (b1:a.old.length≤1152921504606846976) (b2:a.new.length≤1152921504606846976) (b3:b.old.length≤1152921504606846976) (b4:b.new.length≤1152921504606846976):
 Calls Tryz.prog 62 #[p.v,p'.v] w (Ret (.bool (a.same b)) w):=by
 obtain ⟨A1,c1,A2,c2,rfl,⟨s1,s2⟩,_⟩:=h1
 obtain ⟨B1,d1,B2,d2,rfl,⟨t1,t2⟩,_⟩:=h2
 have q1:∀ W,Ext w W→Calls Tryz.prog 97 #[.slice A1 a.old.length c1,.slice B1 b.old.length d1] W (Ret (.bool (decide (a.old=b.old))) W):=fun W hW=>sequal_any _ _ _ _ _ _ _ _ W (s1.ext hW).1 (t1.ext hW).1 b1 b3
 have q2:∀ W,Ext w W→Calls Tryz.prog 97 #[.slice A2 a.new.length c2,.slice B2 b.new.length d2] W (Ret (.bool (decide (a.new=b.new))) W):=fun W hW=>sequal_any _ _ _ _ _ _ _ _ W (s2.ext hW).1 (t2.ext hW).1 b2 b4
 have HM:Hid (a.same b=_):=Lib.hid (by unfold Qp.same;rfl)
 generalize a.same b=R at HM ⊢
 generalize decide (a.old=b.old)=x1 at q1 HM
 generalize decide (a.new=b.new)=x2 at q2 HM
 have Q1:=Lib.hid q1
 have Q2:=Lib.hid q2
 clear q1 q2 s1 s2 t1 t2
 go_enter Tryz.func62,Tryz.ntmps62
 have hx:=Ext.refl w
 go_upto_region 1 with fail
 obtain ⟨W0,hW0⟩:∃ W0:World,(w.alloc (.cells #[.int .i64 a.kind,.string a.path,.string a.to_,.int .i64 a.ty,.int .i64 a.at_,.slice A1 a.old.length c1,.slice A2 a.new.length c2,.int .i64 a.off,.string a.so,.string a.sn,.int .i64 a.om,.int .i64 a.nm] 28)).alloc (.cells #[.int .i64 b.kind,.string b.path,.string b.to_,.int .i64 b.ty,.int .i64 b.at_,.slice B1 b.old.length d1,.slice B2 b.new.length d2,.int .i64 b.off,.string b.so,.string b.sn,.int .i64 b.om,.int .i64 b.nm] 28)=W0:=⟨_,rfl⟩
 have HX0:Hid (Ext w W0):=Lib.hid (by rw [← hW0];exact EX)
 have HC0:Hid (∀ W,Ext W0 W→∀ i,W.cell? ⟨w.heap.size,i,none⟩=#[.int .i64 a.kind,.string a.path,.string a.to_,.int .i64 a.ty,.int .i64 a.at_,.slice A1 a.old.length c1,.slice A2 a.new.length c2,.int .i64 a.off,.string a.so,.string a.sn,.int .i64 a.om,.int .i64 a.nm][i]?):=Lib.hid (fun W hW=>(Blk.ext hW (by rw [← hW0];exact Blk.alloc (Blk.new' rfl) _)).cell)
 have HC1:Hid (∀ W,Ext W0 W→∀ i,W.cell? ⟨w.heap.size+1,i,none⟩=#[.int .i64 b.kind,.string b.path,.string b.to_,.int .i64 b.ty,.int .i64 b.at_,.slice B1 b.old.length d1,.slice B2 b.new.length d2,.int .i64 b.off,.string b.so,.string b.sn,.int .i64 b.om,.int .i64 b.nm][i]?):=Lib.hid (fun W hW=>(Blk.ext hW (by rw [← hW0];exact Blk.new' (by simp))).cell)
 rw [hW0]
 clear hW0 hx
 refine wp_region_ext_text ?_
 simp only [List.append_eq,List.cons_append,List.nil_append]
 refine wpQuiet_cut 6 (fun a'=>∃ x:Bool,Hid (x=(a.kind == b.kind))∧∃ u:Nat→Value,a'=⟨#[(a.pv A1 c1 A2 c2).v,(b.pv B1 d1 B2 d2).v,.pointer (some ⟨w.heap.size,0,none⟩),.pointer (some ⟨w.heap.size+1,0,none⟩),.bool false,u 5,u 6,u 7,u 8,u 9,.bool x,u 11,u 12,u 13,u 14,u 15,u 16,u 17,u 18,u 19,u 20,u 21,u 22,u 23,u 24,u 25,u 26,u 27,u 28,u 29,u 30,u 31,u 32,u 33,u 34,u 35,u 36,u 37,u 38,u 39,u 40,u 41,u 42,u 43,u 44,u 45,u 46,u 47,u 48,u 49,u 50,u 51,u 52,u 53,u 54,u 55,u 56,u 57,u 58,u 59,u 60,u 61,u 62,u 63,u 64,u 65,u 66,u 67,u 68,u 69,u 70,u 71,u 72,u 73,u 74,u 75,u 76,u 77,u 78,u 79,u 80,u 81,u 82,u 83,u 84,u 85,u 86,u 87,u 88,u 89,u 90,u 91,u 92],[]⟩) ?_ ?_
 ·simp only [List.take_succ_cons,List.take_zero]
  repeat (first | go_big_quiet_skip | (go_big_quiet_want;first | (go_big_quiet_op;go_big_quiet_on) | (apply quiet_at;intro W hW;have hc0:=HC0.out W hW;have hc1:=HC1.out W hW;go_simp;(first | exact rfl | (simp only [Oper.quietUpon,true_and];first | exact rfl | (fail)) | (fail));go_big_quiet_on;simp only [Act.put,sA,s0,sS])))
  refine wpQuiet_nil ⟨_,Lib.hid rfl,?_⟩
  refine frame_u ?_
  rfl
 rintro _ ⟨x,HXV,u,rfl⟩
 simp only [List.drop_succ_cons,List.drop_zero]
 refine wpQuiet_cut 7 (fun a'=>∃ x:Bool,Hid (x=((a.kind == b.kind) && (Qm.eqB a.path b.path)))∧∃ u:Nat→Value,a'=⟨#[(a.pv A1 c1 A2 c2).v,(b.pv B1 d1 B2 d2).v,.pointer (some ⟨w.heap.size,0,none⟩),.pointer (some ⟨w.heap.size+1,0,none⟩),.bool false,u 5,u 6,u 7,u 8,u 9,u 10,u 11,u 12,u 13,u 14,u 15,u 16,.bool x,u 18,u 19,u 20,u 21,u 22,u 23,u 24,u 25,u 26,u 27,u 28,u 29,u 30,u 31,u 32,u 33,u 34,u 35,u 36,u 37,u 38,u 39,u 40,u 41,u 42,u 43,u 44,u 45,u 46,u 47,u 48,u 49,u 50,u 51,u 52,u 53,u 54,u 55,u 56,u 57,u 58,u 59,u 60,u 61,u 62,u 63,u 64,u 65,u 66,u 67,u 68,u 69,u 70,u 71,u 72,u 73,u 74,u 75,u 76,u 77,u 78,u 79,u 80,u 81,u 82,u 83,u 84,u 85,u 86,u 87,u 88,u 89,u 90,u 91,u 92],[]⟩) ?_ ?_
 ·simp only [List.take_succ_cons,List.take_zero]
  cases x
  all_goals
   repeat (first | go_big_quiet_skip | (go_big_quiet_want;first | (go_big_quiet_op;go_big_quiet_on) | (apply quiet_at;intro W hW;have hc0:=HC0.out W hW;have hc1:=HC1.out W hW;go_simp;(first | exact rfl | (simp only [Oper.quietUpon,true_and];first | exact rfl | (fail)) | (fail));go_big_quiet_on;simp only [Act.put,sA,s0,sS])))
   refine wpQuiet_nil ⟨_,Lib.hid (by rw [← HXV.out]),?_⟩
   refine frame_u ?_
   rfl
 rintro _ ⟨x,HXV,u,rfl⟩
 simp only [List.drop_succ_cons,List.drop_zero]
 refine wpQuiet_cut 7 (fun a'=>∃ x:Bool,Hid (x=(((a.kind == b.kind) && (Qm.eqB a.path b.path)) && (Qm.eqB a.to_ b.to_)))∧∃ u:Nat→Value,a'=⟨#[(a.pv A1 c1 A2 c2).v,(b.pv B1 d1 B2 d2).v,.pointer (some ⟨w.heap.size,0,none⟩),.pointer (some ⟨w.heap.size+1,0,none⟩),.bool false,u 5,u 6,u 7,u 8,u 9,u 10,u 11,u 12,u 13,u 14,u 15,u 16,u 17,u 18,u 19,u 20,u 21,u 22,u 23,.bool x,u 25,u 26,u 27,u 28,u 29,u 30,u 31,u 32,u 33,u 34,u 35,u 36,u 37,u 38,u 39,u 40,u 41,u 42,u 43,u 44,u 45,u 46,u 47,u 48,u 49,u 50,u 51,u 52,u 53,u 54,u 55,u 56,u 57,u 58,u 59,u 60,u 61,u 62,u 63,u 64,u 65,u 66,u 67,u 68,u 69,u 70,u 71,u 72,u 73,u 74,u 75,u 76,u 77,u 78,u 79,u 80,u 81,u 82,u 83,u 84,u 85,u 86,u 87,u 88,u 89,u 90,u 91,u 92],[]⟩) ?_ ?_
 ·simp only [List.take_succ_cons,List.take_zero]
  cases x
  all_goals
   repeat (first | go_big_quiet_skip | (go_big_quiet_want;first | (go_big_quiet_op;go_big_quiet_on) | (apply quiet_at;intro W hW;have hc0:=HC0.out W hW;have hc1:=HC1.out W hW;go_simp;(first | exact rfl | (simp only [Oper.quietUpon,true_and];first | exact rfl | (fail)) | (fail));go_big_quiet_on;simp only [Act.put,sA,s0,sS])))
   refine wpQuiet_nil ⟨_,Lib.hid (by rw [← HXV.out]),?_⟩
   refine frame_u ?_
   rfl
 rintro _ ⟨x,HXV,u,rfl⟩
 simp only [List.drop_succ_cons,List.drop_zero]
 refine wpQuiet_cut 7 (fun a'=>∃ x:Bool,Hid (x=((((a.kind == b.kind) && (Qm.eqB a.path b.path)) && (Qm.eqB a.to_ b.to_)) && (a.ty == b.ty)))∧∃ u:Nat→Value,a'=⟨#[(a.pv A1 c1 A2 c2).v,(b.pv B1 d1 B2 d2).v,.pointer (some ⟨w.heap.size,0,none⟩),.pointer (some ⟨w.heap.size+1,0,none⟩),.bool false,u 5,u 6,u 7,u 8,u 9,u 10,u 11,u 12,u 13,u 14,u 15,u 16,u 17,u 18,u 19,u 20,u 21,u 22,u 23,u 24,u 25,u 26,u 27,u 28,u 29,u 30,.bool x,u 32,u 33,u 34,u 35,u 36,u 37,u 38,u 39,u 40,u 41,u 42,u 43,u 44,u 45,u 46,u 47,u 48,u 49,u 50,u 51,u 52,u 53,u 54,u 55,u 56,u 57,u 58,u 59,u 60,u 61,u 62,u 63,u 64,u 65,u 66,u 67,u 68,u 69,u 70,u 71,u 72,u 73,u 74,u 75,u 76,u 77,u 78,u 79,u 80,u 81,u 82,u 83,u 84,u 85,u 86,u 87,u 88,u 89,u 90,u 91,u 92],[]⟩) ?_ ?_
 ·simp only [List.take_succ_cons,List.take_zero]
  cases x
  all_goals
   repeat (first | go_big_quiet_skip | (go_big_quiet_want;first | (go_big_quiet_op;go_big_quiet_on) | (apply quiet_at;intro W hW;have hc0:=HC0.out W hW;have hc1:=HC1.out W hW;go_simp;(first | exact rfl | (simp only [Oper.quietUpon,true_and];first | exact rfl | (fail)) | (fail));go_big_quiet_on;simp only [Act.put,sA,s0,sS])))
   refine wpQuiet_nil ⟨_,Lib.hid (by rw [← HXV.out]),?_⟩
   refine frame_u ?_
   rfl
 rintro _ ⟨x,HXV,u,rfl⟩
 simp only [List.drop_succ_cons,List.drop_zero]
 refine wpQuiet_cut 9 (fun a'=>∃ x:Bool,Hid (x=(((((a.kind == b.kind) && (Qm.eqB a.path b.path)) && (Qm.eqB a.to_ b.to_)) && (a.ty == b.ty)) && (a.at_ == b.at_)))∧∃ u:Nat→Value,a'=⟨#[(a.pv A1 c1 A2 c2).v,(b.pv B1 d1 B2 d2).v,.pointer (some ⟨w.heap.size,0,none⟩),.pointer (some ⟨w.heap.size+1,0,none⟩),.bool false,u 5,u 6,u 7,u 8,u 9,u 10,u 11,u 12,u 13,u 14,u 15,u 16,u 17,u 18,u 19,u 20,u 21,u 22,u 23,u 24,u 25,u 26,u 27,u 28,u 29,u 30,u 31,u 32,u 33,u 34,u 35,u 36,u 37,u 38,u 39,.bool x,u 41,u 42,u 43,u 44,u 45,u 46,u 47,u 48,u 49,u 50,u 51,u 52,u 53,u 54,u 55,u 56,u 57,u 58,u 59,u 60,u 61,u 62,u 63,u 64,u 65,u 66,u 67,u 68,u 69,u 70,u 71,u 72,u 73,u 74,u 75,u 76,u 77,u 78,u 79,u 80,u 81,u 82,u 83,u 84,u 85,u 86,u 87,u 88,u 89,u 90,u 91,u 92],[]⟩) ?_ ?_
 ·simp only [List.take_succ_cons,List.take_zero]
  cases x
  all_goals
   repeat (first | go_big_quiet_skip | (go_big_quiet_want;first | (go_big_quiet_op;go_big_quiet_on) | (apply quiet_at;intro W hW;have hc0:=HC0.out W hW;have hc1:=HC1.out W hW;go_simp;(first | exact rfl | (simp only [Oper.quietUpon,true_and];first | exact rfl | (fail)) | (fail));go_big_quiet_on;simp only [Act.put,sA,s0,sS])))
   refine wpQuiet_nil ⟨_,Lib.hid (by rw [← HXV.out]),?_⟩
   refine frame_u ?_
   rfl
 rintro _ ⟨x,HXV,u,rfl⟩
 simp only [List.drop_succ_cons,List.drop_zero]
 refine wpQuiet_cut 9 (fun a'=>∃ x:Bool,Hid (x=((((((a.kind == b.kind) && (Qm.eqB a.path b.path)) && (Qm.eqB a.to_ b.to_)) && (a.ty == b.ty)) && (a.at_ == b.at_)) && x1))∧∃ u:Nat→Value,a'=⟨#[(a.pv A1 c1 A2 c2).v,(b.pv B1 d1 B2 d2).v,.pointer (some ⟨w.heap.size,0,none⟩),.pointer (some ⟨w.heap.size+1,0,none⟩),.bool false,u 5,u 6,u 7,u 8,u 9,u 10,u 11,u 12,u 13,u 14,u 15,u 16,u 17,u 18,u 19,u 20,u 21,u 22,u 23,u 24,u 25,u 26,u 27,u 28,u 29,u 30,u 31,u 32,u 33,u 34,u 35,u 36,u 37,u 38,u 39,u 40,u 41,u 42,u 43,u 44,u 45,u 46,u 47,u 48,.bool x,u 50,u 51,u 52,u 53,u 54,u 55,u 56,u 57,u 58,u 59,u 60,u 61,u 62,u 63,u 64,u 65,u 66,u 67,u 68,u 69,u 70,u 71,u 72,u 73,u 74,u 75,u 76,u 77,u 78,u 79,u 80,u 81,u 82,u 83,u 84,u 85,u 86,u 87,u 88,u 89,u 90,u 91,u 92],[]⟩) ?_ ?_
 ·simp only [List.take_succ_cons,List.take_zero]
  cases x
  all_goals
   repeat (first | go_big_quiet_skip | (go_big_quiet_want;first | (go_big_quiet_op;go_big_quiet_on) | (apply quiet_at;intro W hW;have hc0:=HC0.out W hW;have hc1:=HC1.out W hW;go_simp;(first | exact rfl | (simp only [Oper.quietUpon,true_and];first | exact rfl | (first | with_reducible exact quiet_call hW (Q1.out _ (Ext.trans HX0.out hW)) (fun _ _ h=>Ret.bcell h) | with_reducible exact quiet_call hW (Q2.out _ (Ext.trans HX0.out hW)) (fun _ _ h=>Ret.bcell h))) | (first | with_reducible exact quiet_call hW (Q1.out _ (Ext.trans HX0.out hW)) (fun _ _ h=>Ret.bcell h) | with_reducible exact quiet_call hW (Q2.out _ (Ext.trans HX0.out hW)) (fun _ _ h=>Ret.bcell h)));go_big_quiet_on;simp only [Act.put,sA,s0,sS])))
   refine wpQuiet_nil ⟨_,Lib.hid (by rw [← HXV.out]),?_⟩
   refine frame_u ?_
   rfl
 rintro _ ⟨x,HXV,u,rfl⟩
 simp only [List.drop_succ_cons,List.drop_zero]
 refine wpQuiet_cut 9 (fun a'=>∃ x:Bool,Hid (x=(((((((a.kind == b.kind) && (Qm.eqB a.path b.path)) && (Qm.eqB a.to_ b.to_)) && (a.ty == b.ty)) && (a.at_ == b.at_)) && x1) && x2))∧∃ u:Nat→Value,a'=⟨#[(a.pv A1 c1 A2 c2).v,(b.pv B1 d1 B2 d2).v,.pointer (some ⟨w.heap.size,0,none⟩),.pointer (some ⟨w.heap.size+1,0,none⟩),.bool false,u 5,u 6,u 7,u 8,u 9,u 10,u 11,u 12,u 13,u 14,u 15,u 16,u 17,u 18,u 19,u 20,u 21,u 22,u 23,u 24,u 25,u 26,u 27,u 28,u 29,u 30,u 31,u 32,u 33,u 34,u 35,u 36,u 37,u 38,u 39,u 40,u 41,u 42,u 43,u 44,u 45,u 46,u 47,u 48,u 49,u 50,u 51,u 52,u 53,u 54,u 55,u 56,u 57,.bool x,u 59,u 60,u 61,u 62,u 63,u 64,u 65,u 66,u 67,u 68,u 69,u 70,u 71,u 72,u 73,u 74,u 75,u 76,u 77,u 78,u 79,u 80,u 81,u 82,u 83,u 84,u 85,u 86,u 87,u 88,u 89,u 90,u 91,u 92],[]⟩) ?_ ?_
 ·simp only [List.take_succ_cons,List.take_zero]
  cases x
  all_goals
   repeat (first | go_big_quiet_skip | (go_big_quiet_want;first | (go_big_quiet_op;go_big_quiet_on) | (apply quiet_at;intro W hW;have hc0:=HC0.out W hW;have hc1:=HC1.out W hW;go_simp;(first | exact rfl | (simp only [Oper.quietUpon,true_and];first | exact rfl | (first | with_reducible exact quiet_call hW (Q1.out _ (Ext.trans HX0.out hW)) (fun _ _ h=>Ret.bcell h) | with_reducible exact quiet_call hW (Q2.out _ (Ext.trans HX0.out hW)) (fun _ _ h=>Ret.bcell h))) | (first | with_reducible exact quiet_call hW (Q1.out _ (Ext.trans HX0.out hW)) (fun _ _ h=>Ret.bcell h) | with_reducible exact quiet_call hW (Q2.out _ (Ext.trans HX0.out hW)) (fun _ _ h=>Ret.bcell h)));go_big_quiet_on;simp only [Act.put,sA,s0,sS])))
   refine wpQuiet_nil ⟨_,Lib.hid (by rw [← HXV.out]),?_⟩
   refine frame_u ?_
   rfl
 rintro _ ⟨x,HXV,u,rfl⟩
 simp only [List.drop_succ_cons,List.drop_zero]
 refine wpQuiet_cut 7 (fun a'=>∃ x:Bool,Hid (x=((((((((a.kind == b.kind) && (Qm.eqB a.path b.path)) && (Qm.eqB a.to_ b.to_)) && (a.ty == b.ty)) && (a.at_ == b.at_)) && x1) && x2) && (a.off == b.off)))∧∃ u:Nat→Value,a'=⟨#[(a.pv A1 c1 A2 c2).v,(b.pv B1 d1 B2 d2).v,.pointer (some ⟨w.heap.size,0,none⟩),.pointer (some ⟨w.heap.size+1,0,none⟩),.bool false,u 5,u 6,u 7,u 8,u 9,u 10,u 11,u 12,u 13,u 14,u 15,u 16,u 17,u 18,u 19,u 20,u 21,u 22,u 23,u 24,u 25,u 26,u 27,u 28,u 29,u 30,u 31,u 32,u 33,u 34,u 35,u 36,u 37,u 38,u 39,u 40,u 41,u 42,u 43,u 44,u 45,u 46,u 47,u 48,u 49,u 50,u 51,u 52,u 53,u 54,u 55,u 56,u 57,u 58,u 59,u 60,u 61,u 62,u 63,u 64,.bool x,u 66,u 67,u 68,u 69,u 70,u 71,u 72,u 73,u 74,u 75,u 76,u 77,u 78,u 79,u 80,u 81,u 82,u 83,u 84,u 85,u 86,u 87,u 88,u 89,u 90,u 91,u 92],[]⟩) ?_ ?_
 ·simp only [List.take_succ_cons,List.take_zero]
  cases x
  all_goals
   repeat (first | go_big_quiet_skip | (go_big_quiet_want;first | (go_big_quiet_op;go_big_quiet_on) | (apply quiet_at;intro W hW;have hc0:=HC0.out W hW;have hc1:=HC1.out W hW;go_simp;(first | exact rfl | (simp only [Oper.quietUpon,true_and];first | exact rfl | (fail)) | (fail));go_big_quiet_on;simp only [Act.put,sA,s0,sS])))
   refine wpQuiet_nil ⟨_,Lib.hid (by rw [← HXV.out]),?_⟩
   refine frame_u ?_
   rfl
 rintro _ ⟨x,HXV,u,rfl⟩
 simp only [List.drop_succ_cons,List.drop_zero]
 refine wpQuiet_cut 7 (fun a'=>∃ x:Bool,Hid (x=(((((((((a.kind == b.kind) && (Qm.eqB a.path b.path)) && (Qm.eqB a.to_ b.to_)) && (a.ty == b.ty)) && (a.at_ == b.at_)) && x1) && x2) && (a.off == b.off)) && (Qm.eqB a.so b.so)))∧∃ u:Nat→Value,a'=⟨#[(a.pv A1 c1 A2 c2).v,(b.pv B1 d1 B2 d2).v,.pointer (some ⟨w.heap.size,0,none⟩),.pointer (some ⟨w.heap.size+1,0,none⟩),.bool false,u 5,u 6,u 7,u 8,u 9,u 10,u 11,u 12,u 13,u 14,u 15,u 16,u 17,u 18,u 19,u 20,u 21,u 22,u 23,u 24,u 25,u 26,u 27,u 28,u 29,u 30,u 31,u 32,u 33,u 34,u 35,u 36,u 37,u 38,u 39,u 40,u 41,u 42,u 43,u 44,u 45,u 46,u 47,u 48,u 49,u 50,u 51,u 52,u 53,u 54,u 55,u 56,u 57,u 58,u 59,u 60,u 61,u 62,u 63,u 64,u 65,u 66,u 67,u 68,u 69,u 70,u 71,.bool x,u 73,u 74,u 75,u 76,u 77,u 78,u 79,u 80,u 81,u 82,u 83,u 84,u 85,u 86,u 87,u 88,u 89,u 90,u 91,u 92],[]⟩) ?_ ?_
 ·simp only [List.take_succ_cons,List.take_zero]
  cases x
  all_goals
   repeat (first | go_big_quiet_skip | (go_big_quiet_want;first | (go_big_quiet_op;go_big_quiet_on) | (apply quiet_at;intro W hW;have hc0:=HC0.out W hW;have hc1:=HC1.out W hW;go_simp;(first | exact rfl | (simp only [Oper.quietUpon,true_and];first | exact rfl | (fail)) | (fail));go_big_quiet_on;simp only [Act.put,sA,s0,sS])))
   refine wpQuiet_nil ⟨_,Lib.hid (by rw [← HXV.out]),?_⟩
   refine frame_u ?_
   rfl
 rintro _ ⟨x,HXV,u,rfl⟩
 simp only [List.drop_succ_cons,List.drop_zero]
 refine wpQuiet_cut 7 (fun a'=>∃ x:Bool,Hid (x=((((((((((a.kind == b.kind) && (Qm.eqB a.path b.path)) && (Qm.eqB a.to_ b.to_)) && (a.ty == b.ty)) && (a.at_ == b.at_)) && x1) && x2) && (a.off == b.off)) && (Qm.eqB a.so b.so)) && (Qm.eqB a.sn b.sn)))∧∃ u:Nat→Value,a'=⟨#[(a.pv A1 c1 A2 c2).v,(b.pv B1 d1 B2 d2).v,.pointer (some ⟨w.heap.size,0,none⟩),.pointer (some ⟨w.heap.size+1,0,none⟩),.bool false,u 5,u 6,u 7,u 8,u 9,u 10,u 11,u 12,u 13,u 14,u 15,u 16,u 17,u 18,u 19,u 20,u 21,u 22,u 23,u 24,u 25,u 26,u 27,u 28,u 29,u 30,u 31,u 32,u 33,u 34,u 35,u 36,u 37,u 38,u 39,u 40,u 41,u 42,u 43,u 44,u 45,u 46,u 47,u 48,u 49,u 50,u 51,u 52,u 53,u 54,u 55,u 56,u 57,u 58,u 59,u 60,u 61,u 62,u 63,u 64,u 65,u 66,u 67,u 68,u 69,u 70,u 71,u 72,u 73,u 74,u 75,u 76,u 77,u 78,.bool x,u 80,u 81,u 82,u 83,u 84,u 85,u 86,u 87,u 88,u 89,u 90,u 91,u 92],[]⟩) ?_ ?_
 ·simp only [List.take_succ_cons,List.take_zero]
  cases x
  all_goals
   repeat (first | go_big_quiet_skip | (go_big_quiet_want;first | (go_big_quiet_op;go_big_quiet_on) | (apply quiet_at;intro W hW;have hc0:=HC0.out W hW;have hc1:=HC1.out W hW;go_simp;(first | exact rfl | (simp only [Oper.quietUpon,true_and];first | exact rfl | (fail)) | (fail));go_big_quiet_on;simp only [Act.put,sA,s0,sS])))
   refine wpQuiet_nil ⟨_,Lib.hid (by rw [← HXV.out]),?_⟩
   refine frame_u ?_
   rfl
 rintro _ ⟨x,HXV,u,rfl⟩
 simp only [List.drop_succ_cons,List.drop_zero]
 refine wpQuiet_cut 7 (fun a'=>∃ x:Bool,Hid (x=(((((((((((a.kind == b.kind) && (Qm.eqB a.path b.path)) && (Qm.eqB a.to_ b.to_)) && (a.ty == b.ty)) && (a.at_ == b.at_)) && x1) && x2) && (a.off == b.off)) && (Qm.eqB a.so b.so)) && (Qm.eqB a.sn b.sn)) && (a.om == b.om)))∧∃ u:Nat→Value,a'=⟨#[(a.pv A1 c1 A2 c2).v,(b.pv B1 d1 B2 d2).v,.pointer (some ⟨w.heap.size,0,none⟩),.pointer (some ⟨w.heap.size+1,0,none⟩),.bool false,u 5,u 6,u 7,u 8,u 9,u 10,u 11,u 12,u 13,u 14,u 15,u 16,u 17,u 18,u 19,u 20,u 21,u 22,u 23,u 24,u 25,u 26,u 27,u 28,u 29,u 30,u 31,u 32,u 33,u 34,u 35,u 36,u 37,u 38,u 39,u 40,u 41,u 42,u 43,u 44,u 45,u 46,u 47,u 48,u 49,u 50,u 51,u 52,u 53,u 54,u 55,u 56,u 57,u 58,u 59,u 60,u 61,u 62,u 63,u 64,u 65,u 66,u 67,u 68,u 69,u 70,u 71,u 72,u 73,u 74,u 75,u 76,u 77,u 78,u 79,u 80,u 81,u 82,u 83,u 84,u 85,.bool x,u 87,u 88,u 89,u 90,u 91,u 92],[]⟩) ?_ ?_
 ·simp only [List.take_succ_cons,List.take_zero]
  cases x
  all_goals
   repeat (first | go_big_quiet_skip | (go_big_quiet_want;first | (go_big_quiet_op;go_big_quiet_on) | (apply quiet_at;intro W hW;have hc0:=HC0.out W hW;have hc1:=HC1.out W hW;go_simp;(first | exact rfl | (simp only [Oper.quietUpon,true_and];first | exact rfl | (fail)) | (fail));go_big_quiet_on;simp only [Act.put,sA,s0,sS])))
   refine wpQuiet_nil ⟨_,Lib.hid (by rw [← HXV.out]),?_⟩
   refine frame_u ?_
   rfl
 rintro _ ⟨x,HXV,u,rfl⟩
 simp only [List.drop_succ_cons,List.drop_zero]
 cases x
 all_goals
  repeat (first | go_big_quiet_skip | (go_big_quiet_want;first | (go_big_quiet_op;go_big_quiet_on) | (apply quiet_at;intro W hW;have hc0:=HC0.out W hW;have hc1:=HC1.out W hW;go_simp;(first | exact rfl | (simp only [Oper.quietUpon,true_and];first | exact rfl | (fail)) | (fail));go_big_quiet_on;simp only [Act.put,sA,s0,sS])))
  refine wpQuiet_nil ?_
  intro w1 hx1
  have hx:=Ext.trans HX0.out hx1
  go_wp2_with fail
  (go_ret;refine Ret.mk ?_ ?_;(focus (rw [HM.out];simp only [← Bool.and_assoc];rw [← HXV.out];rfl;done));(focus (exact EX;done)))
end Go.Proofs.YtfmgnaigcibcaaaGreatDoor
